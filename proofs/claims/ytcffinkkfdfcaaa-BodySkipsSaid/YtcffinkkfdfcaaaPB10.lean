/- Parts one behind the other: The world within the reference's reading of a list of items; What the reference's list answers: the items of bytes, or an error; What the reference's Decode answers: the items of bytes, or an error; The deferred function of tlv.Decode: what was thrown becomes the error. Conditions: as told at each. -/
import Derived.Test.YtcffinkkfdfcaaaPB8
import Derived.Test.YtcffinkkfdfcaaaPB6
import Derived.Test.YtcffinkkfdfcaaaPB9
import Derived.Test.YtcffinkkfdfcaaaPB3
import Derived.Deep.CutBlock
import Derived.Recover

set_option linter.unusedVariables false
set_option linter.unusedSimpArgs false
/- The world within the reference's reading of a list of items. Conditions: a reader. -/
namespace Go.Proofs.Ytcffinkkfdfcaaa
open Go Go.RowKit

structure LsS (w0 : World) (g7 : Nat) (A : Option Addr) (c : Nat) (s : RS) (v : Value) (ds : List ItV) (P : Fo) (w : World) : Prop where
  ok0 : RsOk w0 A c s
  b7 : RdB w g7 A c s
  out : FoP (fun j => w0.heap.size ≤ j ∧ j ≠ g7) w v ds P
  bel : Below w0.heap.size w0 w
  lo : w0.heap.size ≤ g7
section
variable {w0 w w' : World} {g7 c : Nat} {A : Option Addr} {s s' : RS} {v v' : Value} {ds : List ItV} {P : Fo}
theorem LsS.ok (h : LsS w0 g7 A c s v ds P w) : RsOk w A c s := h.ok0.below2 h.bel
theorem LsS.below (h : LsS w0 g7 A c s v ds P w) (hb : Below w.heap.size w w') : LsS w0 g7 A c s v ds P w' :=
  ⟨h.ok0, (hb.block g7 (heap_lt h.b7)).trans h.b7, h.out.below hb, h.bel.trans (hb.mono h.bel.size), h.lo⟩
theorem LsS.setR (h : LsS w0 g7 A c s v ds P w) (hs : RsOk w0 A c s') : LsS w0 g7 A c s' v ds P (set3 w g7 (.slice A s'.b.length c) (.int .i64 (s'.at_ : Int)) (.int .i64 (s'.err : Int))) := by
  have hl := h.lo
  have hk := set3_keeps w g7 (.slice A s'.b.length c) (.int .i64 (s'.at_ : Int)) (.int .i64 (s'.err : Int))
  exact ⟨hs, set3_heap h.b7, h.out.frame (fun j hj hl => hk.block j hl hj.2), below_keeps h.bel hk (fun j e => by omega), h.lo⟩
/-- A store into a newer block that the list does not have. -/
theorem LsS.far (h : LsS w0 g7 A c s v ds P w) {S : Nat → Prop} (hk : Keeps S w w') (hS : ∀ j, S j → g7 < j) (ho : FoP (fun j => w0.heap.size ≤ j ∧ j ≠ g7) w' v ds P) : LsS w0 g7 A c s v ds P w' :=
  ⟨h.ok0, (hk.block g7 (heap_lt h.b7) (fun e => by have := hS g7 e; omega)).trans h.b7, ho, below_keeps h.bel hk (fun j e => by have := hS j e; have := h.lo; omega), h.lo⟩
theorem LsS.more (h : LsS w0 g7 A c s v ds P w) {d : ItV} {R : Fo} (hd : ItsO (fun j => (w0.heap.size ≤ j ∧ j ≠ g7) ∧ v.ownBlock ≠ some j) w [d] R) (ho : OwnI w' 0 v' (ds ++ [d])) (hg : w.grownBy w' v.ownBlock) (hv : v'.ownBlock = v.ownBlock ∨ v'.ownBlock = some w.heap.size) :
    LsS w0 g7 A c s v' (ds ++ [d]) (P.app R) w' := by
  have hk : Keeps (fun j => v.ownBlock = some j) w w' := Keeps.of_grown hg _ (fun j hj => hj)
  have h7 := heap_lt h.b7
  have hz := h.bel.size
  exact ⟨h.ok0, (hk.block g7 h7 (fun e' => (h.out.ok_ g7 e').2 rfl)).trans h.b7, h.out.more hd ho hg hv ⟨hz, by omega⟩, below_keeps h.bel hk (fun j e' => (h.out.ok_ j e').1), h.lo⟩
end
/-- What the reference's list answers. -/
def LsP (w : World) (R : Nat × Fo × Nat) (r : Ending) (w' : World) : Prop := ∃ v c2, r = .returned (.tuple #[v, .int .i64 c2, .int .i64 (R.1 : Int)]) ∧ (R.1 = 0 → c2 = ((R.2.2 : Nat) : Int)) ∧ FoO (w.heap.size ≤ ·) w' v (if R.1 = 0 then R.2.1 else .nil) ∧ Below w.heap.size w w'
theorem LsP.bad {w w' : World} {R : Nat × Fo × Nat} {r : Ending} {e : Nat} (c2 : Int) (hR : R.1 = e) (he : e ≠ 0) (hr : r = .returned (.tuple #[.slice none 0 0, .int .i64 c2, .int .i64 (e : Int)])) (hb : Below w.heap.size w w') : LsP w R r w' := by
  refine ⟨_, c2, by rw [hR]; exact hr, fun h => absurd (hR.symm.trans h) he, ?_, hb⟩
  rw [if_neg (by rw [hR]; exact he)]
  exact FoO.nil_ _ _
end Go.Proofs.Ytcffinkkfdfcaaa

/- What the reference's list answers: the items of bytes, or an error. Conditions: depth 1 to 4; at most 64 items ahead. -/
namespace Go.Proofs.Ytcffinkkfdfcaaa
open Go Go.RowKit

set_option maxRecDepth 100000 in
set_option maxHeartbeats 8000000 in
theorem refList_c : ∀ (N : Nat) (bs : List UInt8), bs.length = N → ∀ (m : Nat) (d : Int) (cnt : Nat), N < m → 1 ≤ d → d ≤ 4 → cnt ≤ 64 → ∀ (A : Option Addr) (n c : Nat) (w : World), N = n → Rd w A (bs.map bv) → n ≤ c → c ≤ maxLen → n ≤ 140737488355328 →
    Calls Try.prog 89 #[.slice A n c, .int .i64 d, .int .i64 (cnt : Int)] w (LsP w (decG m ⟨bs, 0, 0, none⟩ d 0 cnt)) := by
  intro N
  induction N using Nat.strongRecOn with
  | _ N ih =>
    intro bs hN m d cnt hm hd1 hd4 hcnt A n c w hn hr hc hcm hl
    have IH := Lib.hid ih; clear ih
    have HN := Lib.hid (hN.trans hn); clear hN
    have HNN := Lib.hid hn; clear hn
    have HM := Lib.hid hm; clear hm
    obtain ⟨R0, eR0⟩ : ∃ R0, R0 = decG m ⟨bs, 0, 0, none⟩ d 0 cnt := ⟨_, rfl⟩
    rw [← eR0]
    have ER0 := Lib.hid eR0; clear eR0
    have OK0 : Hid (RsOk w A c ⟨bs, 0, 0, none⟩) := Lib.hid ⟨hr, by show bs.length ≤ c; rw [HN.out]; exact hc, hcm, Nat.zero_le _, by show bs.length ≤ _; rw [HN.out]; exact hl⟩
    clear hr hc hcm
    obtain ⟨w1, ew1⟩ : ∃ w1, w1 = (w.alloc (.cells #[] 76)).alloc (.cells #[.slice A n c, .int .i64 0, .int .i64 0] 152) := ⟨_, rfl⟩
    have hS1 : LsS w (w.heap.size + 1) A c ⟨bs, 0, 0, none⟩ (.slice (some ⟨w.heap.size, 0, none⟩) 0 0) [] .nil w1 := by
      refine ⟨OK0.out, ?_, ⟨?_, ?_, rfl⟩, ?_, by omega⟩
      · unfold RdB
        rw [ew1, heap2_new]
        simp only [HN.out]
        rfl
      · rw [ew1]
        exact (World.ownsRow_made w #[] 0 (Nat.zero_le _) (Nat.zero_le _) rfl).alloc _
      · intro g e
        injection e with e
        subst e
        exact ⟨Nat.le_refl _, by show w.heap.size ≠ w.heap.size + 1; omega⟩
      · rw [ew1]; exact ((Below.refl _ _).alloc (Nat.le_refl _) _).alloc (by simp) _
    have HS1 := Lib.hid hS1
    have EW1 := Lib.hid ew1
    clear hS1 ew1
    obtain ⟨g7, eg7⟩ : ∃ g7, g7 = w.heap.size + 1 := ⟨_, rfl⟩
    rw [← eg7] at HS1
    have EG7 := Lib.hid eg7
    clear eg7
    go_enter Try.func89, Try.ntmps89
    go_wp2_with (fail)
    rw [← EW1.out, ← EG7.out]
    go_loopw [2, 9, 11] (fun cc o a wr => ∃ (s : RS) (v : Value) (ds : List ItV) (P : Fo) (c0 ah m' : Nat), cc = .int .i64 (c0 : Int) ∧ o = v ∧ a = .int .u64 (ah : Int) ∧ Hid (LsS w g7 A c s v ds P wr) ∧ Hid (s.b.length - s.at_ < m' ∧ s.b.length = n ∧ s.err = 0 ∧ s.gA = none) ∧ c0 ≤ 64 ∧ ah ≤ 1000 ∧ Hid (R0 = cmb P (decG m' s d ah c0)) ∧ Hid (P.len ≤ c0)) (fun cc _ _ _ => 64 - (intOf cc).toNat)
    case atStart => exact ⟨⟨bs, 0, 0, none⟩, _, [], .nil, cnt, 0, m, rfl, rfl, rfl, HS1, Lib.hid ⟨by have := HM.out; have := HN.out; have := HNN.out; simp only; omega, HN.out, rfl, rfl⟩, hcnt, by omega, Lib.hid ER0.out, Lib.hid (by simp [Fo.len])⟩
    case round =>
      obtain ⟨s, v, ds, P, c0, ah, m', rfl, rfl, rfl, HS, HB, hc0, hah, HR, HP⟩ := hrel
      obtain ⟨hB1, hB2, hB3, hB4⟩ := HB.out
      obtain ⟨nn, s1, eV⟩ : ∃ nn s1, varR s = (nn, s1) := ⟨_, _, rfl⟩
      obtain ⟨a1, a2, a3, a4, a5, a6⟩ := varR_step eV hB3 HS.out.ok0.2.2.2.1
      have hat : s.at_ ≤ s.b.length := HS.out.ok0.2.2.2.1
      have EV := Lib.hid eV
      have A6 := Lib.hid a6
      have OK1 : Hid (RsOk w A c s1) := Lib.hid ⟨by rw [a1]; exact HS.out.ok0.1, by rw [a1]; exact HS.out.ok0.2.1, HS.out.ok0.2.2.1, by rw [a1]; exact a4, by rw [a1]; exact HS.out.ok0.2.2.2.2⟩
      have AB := Lib.hid (And.intro a1 (And.intro a2 (And.intro a3 a4)))
      clear eV a6 a1 a2 a3 a4 hB3 hB4
      obtain ⟨⟨x0, x1, x2⟩, xf0, xf1, xf2⟩ := HS.out.b7.cells
      obtain ⟨lf, elf⟩ : ∃ lf, lf = s.b.length - s.at_ := ⟨_, rfl⟩
      have hlf : lf ≤ 140737488355328 := by omega
      have ELF := Lib.hid elf
      have rl := refLeft_c A c s wr HS.out.ok
      rw [← elf] at rl
      unfold rsV at rl
      have RL := Lib.hid rl
      clear elf rl hat
      obtain ⟨m1, rfl⟩ : ∃ m1, m' = m1 + 1 := ⟨m' - 1, by omega⟩
      clear hB1 hB2
      go_wp2_with (fail)
      refine RL.out.mono ?_
      rintro e w2 ⟨rfl, hb2⟩
      have HS2 := Lib.hid (HS.out.below hb2)
      clear hb2 RL HS x0 x1 x2 xf0 xf1 xf2
      rcases Nat.eq_zero_or_pos lf with h0 | h0
      · have d0 : decide ((0 : Int) < (lf : Int)) = false := decide_eq_false (by omega)
        have d0' : decide (0 < lf) = false := decide_eq_false (by omega)
        have e0 : R0 = (0, P, c0) := by rw [HR.out, decG_end (by have := ELF.out; omega), cmb, Fo.app_nil]
        have E0 := Lib.hid e0
        clear h0 e0
        go_wp2_with (fail)
        go_ret3
        exact ⟨_, _, by rw [E0.out]; rfl, fun _ => by rw [E0.out], by rw [E0.out]; exact HS2.out.out.o.weak (fun _ hj _ => hj.1), HS2.out.bel⟩
      · have d0 : decide ((0 : Int) < (lf : Int)) = true := decide_eq_true (by omega)
        have d0' : decide (0 < lf) = true := decide_eq_true (by omega)
        have hlt : s.at_ < s.b.length := by have := ELF.out; omega
        have HLT := Lib.hid hlt
        obtain ⟨⟨x0, x1, x2⟩, xf0, xf1, xf2⟩ := HS2.out.b7.cells
        have rv := refVarR_c A c s w2 HS2.out.ok
        rw [EV.out] at rv
        unfold rsV at rv
        have RV := Lib.hid rv
        clear h0 hlt rv
        go_wp2_with (fail)
        refine RV.out.mono ?_
        rintro e w3 ⟨rfl, hb3⟩
        dsimp only
        have HS3 := Lib.hid (HS2.out.below hb3)
        clear hb3 RV HS2 x0 x1 x2 xf0 xf1 xf2 d0 d0'
        obtain ⟨⟨x0, x1, x2⟩, xf0, xf1, xf2⟩ := HS3.out.b7.cells
        obtain ⟨w4, ew4⟩ : ∃ w4, w4 = set3 w3 g7 (.slice A s1.b.length c) (.int .i64 (s1.at_ : Int)) (.int .i64 (s1.err : Int)) := ⟨_, rfl⟩
        have HS4 := Lib.hid (ew4 ▸ HS3.out.setR OK1.out)
        unfold set3 at ew4
        have EW4 := Lib.hid ew4; clear ew4
        go_upto_region 7 with (fail)
        rw [← EW4.out]
        clear x0 x1 x2 xf0 xf1 xf2 EW4 HS3
        obtain ⟨⟨x0, x1, x2⟩, xf0, xf1, xf2⟩ := HS4.out.b7.cells
        by_cases h1 : s1.err = 0
        · have h1e : ((s1.err : Int) != 0) = false := by rw [bne_eq_false_iff_eq]; omega
          have H1 := Lib.hid h1; clear h1
          obtain ⟨q, eq⟩ : ∃ q, q = nn / 4 := ⟨_, rfl⟩
          obtain ⟨r2, er2⟩ : ∃ r2, r2 = nn % 2 := ⟨_, rfl⟩
          obtain ⟨r4, er4⟩ : ∃ r4, r4 = nn % 4 := ⟨_, rfl⟩
          have wq : IntKind.u64.wrap ((nn : Int) / 4) = (q : Int) := by
            rw [show (nn : Int) / 4 = ((nn / 4 : Nat) : Int) by omega, eq]; exact u64_wrapN (by unfold U64 at *; omega)
          have m2 : (nn : Int) % 2 = (r2 : Int) := by omega
          have m4 : (nn : Int) % 4 = (r4 : Int) := by omega
          have hr2 : r2 ≤ 1 := by omega
          have EQ := Lib.hid eq
          have ER2 := Lib.hid er2
          have ER4 := Lib.hid er4
          clear eq er2 er4
          have bad : Hid (∀ (c2 : Int) (w' : World) (r : Ending), q ≤ ah ∨ 1000 < q → r = .returned (.tuple #[.slice none 0 0, .int .i64 c2, .int .i64 ((3 : Nat) : Int)]) → Below w.heap.size w w' → LsP w R0 r w') := Lib.hid (fun c2 w' r h hr hb => LsP.bad c2 (by rw [HR.out, decG_form HLT.out EV.out H1.out (by rw [← EQ.out]; exact h)]; rfl) (by decide) hr hb)
          by_cases hq1 : q < 1
          · have q1 : (q : Int) < 1 := by omega
            have g0 := Lib.hid (show q ≤ ah ∨ 1000 < q by omega)
            clear hq1
            go_wp2_with (fail)
            go_ret3
            exact bad.out _ _ _ g0.out rfl HS4.out.bel
          have q1 : 1 ≤ (q : Int) := by omega
          by_cases hq2 : 1000 < q
          · have q2 : 1000 < (q : Int) := by omega
            have g0 := Lib.hid (show q ≤ ah ∨ 1000 < q by omega)
            clear hq1 hq2
            go_wp2_with (fail)
            go_ret3
            exact bad.out _ _ _ g0.out rfl HS4.out.bel
          have q2 : (q : Int) ≤ 1000 := by omega
          by_cases hq3 : q ≤ ah
          · have q3 : (q : Int) ≤ (ah : Int) := by omega
            have g0 := Lib.hid (show q ≤ ah ∨ 1000 < q by omega)
            clear hq1 hq2 hq3
            go_wp2_with (fail)
            go_ret3
            exact bad.out _ _ _ g0.out rfl HS4.out.bel
          have q3 : (ah : Int) < (q : Int) := by omega
          have NF : Hid (¬ (nn / 4 ≤ ah ∨ 1000 < nn / 4)) := Lib.hid (by rw [← EQ.out]; omega)
          clear hq1 hq2 hq3 bad
          by_cases hc6 : 64 ≤ c0
          · have c6 : (64 : Int) < (c0 : Int) + 1 := by omega
            have e0 : R0.1 = 4 := by rw [HR.out, decG_many HLT.out EV.out H1.out NF.out hc6]; rfl
            have E0 := Lib.hid e0
            clear hc6 e0
            go_wp2_with (fail)
            go_ret3
            exact LsP.bad _ E0.out (by decide) rfl HS4.out.bel
          have c6 : (c0 : Int) + 1 ≤ 64 := by omega
          have HC6 := Lib.hid hc6
          clear hc6
          have hd : d = 4 ∨ d ≤ 3 := by omega
          by_cases hdp : r2 = 1 ∧ d = 4
          · obtain ⟨p1, p2⟩ := hdp
            have e0 : R0.1 = 5 := by rw [HR.out, decG_deep HLT.out EV.out H1.out NF.out HC6.out ⟨by rw [← ER2.out]; exact p1, p2⟩]; rfl
            have E0 := Lib.hid e0
            have t1 : ((r2 : Int) == 1) = true := by rw [p1]; rfl
            have t2 : (d == 4) = true := by rw [p2]; rfl
            clear p1 p2 e0 hd
            go_wp2_with (fail)
            go_ret3
            exact LsP.bad _ E0.out (by decide) rfl HS4.out.bel
          have ND : Hid (¬ (nn % 2 = 1 ∧ d = 4)) := Lib.hid (by rw [← ER2.out]; exact hdp)
          -- BEHIND THE DEPTH
          rcases Nat.eq_zero_or_pos r2 with hz2 | hz2
          · have t1 : ((r2 : Int) == 1) = false := by rw [hz2]; rfl
            have HZ2 := Lib.hid hz2
            clear hz2 hd hdp
            obtain ⟨w5, ew5⟩ : ∃ w5, w5 = w4.alloc (.cells #[] 5) := ⟨_, rfl⟩
            have b5 : Below w4.heap.size w4 w5 := by rw [ew5]; exact (Below.refl _ _).alloc (Nat.le_refl _) _
            have HS5 := Lib.hid (HS4.out.below b5)
            have EW5 := Lib.hid ew5
            clear b5 ew5
            obtain ⟨t, s2, eT⟩ : ∃ t s2, textR s1 4096 = (t, s2) := ⟨_, _, rfl⟩
            obtain ⟨b1, b2, b3, b4, b6, b7, b8⟩ := textR_step eT H1.out (by have := OK1.out.2.2.2.1; exact this)
            have OK2 : Hid (RsOk w A c s2) := Lib.hid ⟨by rw [b1]; exact OK1.out.1, by rw [b1]; exact OK1.out.2.1, OK1.out.2.2.1, by rw [b1]; exact b4, by rw [b1]; exact OK1.out.2.2.2.2⟩
            have ET := Lib.hid eT
            have BT := Lib.hid (And.intro b1 (And.intro b2 (And.intro b3 (And.intro b4 (And.intro b7 b8)))))
            have rt := refTextR_c A c s1 4096 w5 HS5.out.ok (by decide)
            rw [eT] at rt
            unfold rsV at rt
            have RT := Lib.hid rt
            clear eT b1 b2 b3 b4 b7 b8 rt
            obtain ⟨tl, etl⟩ : ∃ tl, tl = t.length := ⟨_, rfl⟩
            rw [← etl] at b6
            have ETL := Lib.hid etl
            clear etl
            go_upto_region 17 with (fail)
            rw [← EW5.out]
            clear x0 x1 x2 xf0 xf1 xf2 EW5 HS4
            obtain ⟨⟨x0, x1, x2⟩, xf0, xf1, xf2⟩ := HS5.out.b7.cells
            go_wp2_with (fail)
            refine RT.out.mono ?_
            rintro e w6 ⟨vt, rfl, hot, hb6⟩
            dsimp only
            obtain ⟨At, ct, evt, i1, i2, i3, i4⟩ := OwnB.form hot
            rw [← ETL.out] at evt i1
            subst evt
            have HS6 := Lib.hid (HS5.out.below hb6)
            have OT6 := Lib.hid hot
            have Z56 := Lib.hid hb6.size
            have R6 := Lib.hid i3
            have ci1 := Lib.hid i1
            have ci2 := Lib.hid i2
            clear hb6 RT x0 x1 x2 xf0 xf1 xf2 i1 i2 i3 i4 hot
            obtain ⟨⟨x0, x1, x2⟩, xf0, xf1, xf2⟩ := HS6.out.b7.cells
            obtain ⟨w7, ew7⟩ : ∃ w7, w7 = set3 w6 g7 (.slice A s2.b.length c) (.int .i64 (s2.at_ : Int)) (.int .i64 (s2.err : Int)) := ⟨_, rfl⟩
            have HS7 := Lib.hid (ew7 ▸ HS6.out.setR OK2.out)
            have k7 : Keeps (fun j => j = g7) w6 w7 := by rw [ew7]; exact set3_keeps _ _ _ _ _
            have hlt7 : g7 < w5.heap.size := heap_lt HS5.out.b7
            have OT7 : Hid (OwnB w7 w5.heap.size (.slice At tl ct) t) := Lib.hid (Own.frameK OT6.out (fun g e => k7.block g (Own.lt OT6.out g e).2 (fun e2 => by have := (Own.lt OT6.out g e).1; omega)))
            have Z67 : Hid (w6.heap.size = w7.heap.size) := Lib.hid (by rw [ew7]; simp [set3, World.setCell])
            unfold set3 at ew7
            have EW7 := Lib.hid ew7
            have HLT7 := Lib.hid hlt7
            clear ew7 k7 hlt7
            go_upto_region 18 with (fail)
            rw [← EW7.out]
            clear x0 x1 x2 xf0 xf1 xf2 EW7 HS6 OT6 R6
            obtain ⟨⟨x0, x1, x2⟩, xf0, xf1, xf2⟩ := HS7.out.b7.cells
            by_cases h2 : s2.err = 0
            · have h2e : ((s2.err : Int) != 0) = false := by rw [bne_eq_false_iff_eq]; omega
              have H2 := Lib.hid h2
              clear h2
              have wi : IntKind.i64.wrap (q : Int) = (q : Int) := IntWalk.i64_in _ ⟨by omega, by omega⟩
              obtain ⟨B4, eB4⟩ : ∃ B4, B4 = decide (2 ≤ r4) := ⟨_, rfl⟩
              have EB4 := Lib.hid eB4
              have b4a : decide ((2 : Int) ≤ (r4 : Int)) = B4 := by
                rw [eB4]; by_cases h : 2 ≤ r4
                · rw [decide_eq_true h, decide_eq_true (by omega)]
                · rw [decide_eq_false h, decide_eq_false (by omega)]
              have b4b : decide (2 ≤ r4) = B4 := eB4.symm
              clear eB4
              obtain ⟨w8, ew8⟩ : ∃ w8, w8 = w7.alloc (.cells #[.int .i64 (q : Int), .bool B4, .bool false, .slice none 0 0, .slice none 0 0] 76) := ⟨_, rfl⟩
              obtain ⟨gi, egi⟩ : ∃ gi, gi = w7.heap.size := ⟨_, rfl⟩
              have b8 : Below w7.heap.size w7 w8 := by rw [ew8]; exact (Below.refl _ _).alloc (Nat.le_refl _) _
              have h8 : w8.heap[gi]? = some (.cells #[.int .i64 (q : Int), .bool B4, .bool false, .slice none 0 0, .slice none 0 0] 76 (0, 0)) := by rw [ew8, egi]; exact heap_alloc_new w7 _
              have HS8 := Lib.hid (HS7.out.below b8)
              have OT8 : Hid (OwnB w8 w5.heap.size (.slice At tl ct) t) := Lib.hid (Own.below OT7.out b8)
              have EW8 := Lib.hid ew8
              have EGI := Lib.hid egi
              have H8 := Lib.hid h8
              have hg78 : Hid (g7 < gi) := Lib.hid (by have := HLT7.out; have := Z56.out; have := Z67.out; omega)
              clear ew8 egi h8 b8
              go_upto_region 21 with (fail)
              rw [← EW8.out, ← EGI.out]
              clear x0 x1 x2 xf0 xf1 xf2
              obtain ⟨itv, eitv⟩ : ∃ itv : ItV, itv = ⟨(q : Int), B4, false, At, tl, ct, none, 0, 0⟩ := ⟨_, rfl⟩
              have EITV := Lib.hid eitv
              obtain ⟨w9, ew9⟩ : ∃ w9, w9 = w8.setCell ⟨gi, 3, none⟩ (.slice At tl ct) := ⟨_, rfl⟩
              have h9 : w9.heap[gi]? = some (.cells #[.int .i64 (q : Int), .bool B4, .bool false, .slice At tl ct, .slice none 0 0] 76 (0, 0)) := by rw [ew9, heap_set H8.out]; rfl
              have b79 : Below w7.heap.size w7 w9 := by rw [ew9, EW8.out, EGI.out]; exact ((Below.refl _ _).alloc (Nat.le_refl _) _).setCell (Nat.le_refl _) _
              have b711 : Below w7.heap.size w7 (w9.alloc (.cells #[.int .i64 (q : Int), .bool B4, .bool false, .slice At tl ct, .slice none 0 0] 76)) := b79.alloc b79.size _
              have HS11 := Lib.hid (HS7.out.below b711)
              have okj : ∀ j, w5.heap.size ≤ j → (w.heap.size ≤ j ∧ j ≠ g7) ∧ u9.ownBlock ≠ some j := fun j hj => by
                have z1 := HS5.out.bel.size
                have z2 := HLT7.out
                refine ⟨⟨by omega, by omega⟩, fun e => ?_⟩
                have := HS5.out.out.lt j e
                omega
              have HT11 := Lib.hid (TxtO.of_own (Own.below OT7.out b711) ETL.out.symm (by omega) (fun j hj _ => okj j hj))
              have HD11 : Hid (ItsO (fun j => (w.heap.size ≤ j ∧ j ≠ g7) ∧ u9.ownBlock ≠ some j) (w9.alloc (.cells #[.int .i64 (q : Int), .bool B4, .bool false, .slice At tl ct, .slice none 0 0] 76)) [itv] (.cons (q : Int) B4 false t .nil .nil)) := Lib.hid (by rw [eitv]; exact ItsO.one HT11.out (FoO.nil_ _ _) (by simp [Fo.len]))
              have HR11 := Lib.hid (Rd.lit w9 (cellsI [⟨(q : Int), B4, false, At, tl, ct, none, 0, 0⟩]) 76)
              have hdl : ds.length ≤ 64 := by rw [ItsO.len P ds HS11.out.out.its]; have := HP.out; omega
              have hm0 : Hid (R0 = cmb (P.app (.cons (q : Int) B4 false t .nil .nil)) (decG m1 s2 d q (c0 + 1))) := Lib.hid (by
                rw [HR.out, decG_item HLT.out EV.out H1.out NF.out HC6.out ET.out H2.out (by rw [← ER2.out]; exact HZ2.out), cmb_cmb, ← EQ.out, ← ER4.out, ← EB4.out])
              have EW9 := Lib.hid ew9
              obtain ⟨y2, yf3⟩ : w8.cell? ⟨gi, 2, none⟩ = some (.bool false) ∧ w8.frozen? ⟨gi, 3, none⟩ = false := ⟨by rw [heap_cell H8.out]; rfl, heap_free H8.out _⟩
              have y3 : w8.cell? ⟨gi, 3, none⟩ = some (.slice none 0 0) := by rw [heap_cell H8.out]; rfl
              obtain ⟨p0, p1, p2, p3, p4⟩ : w9.cell? ⟨gi, 0, none⟩ = some (.int .i64 (q : Int)) ∧ w9.cell? ⟨gi, 1, none⟩ = some (.bool B4) ∧ w9.cell? ⟨gi, 2, none⟩ = some (.bool false) ∧ w9.cell? ⟨gi, 3, none⟩ = some (.slice At tl ct) ∧ w9.cell? ⟨gi, 4, none⟩ = some (.slice none 0 0) := by
                refine ⟨?_, ?_, ?_, ?_, ?_⟩ <;> (rw [heap_cell h9]; rfl)
              clear ew9 h9 b79 b711 okj eitv
              go_upto_region 28 with (fail)
              rw [← EW9.out]
              clear y2 yf3 y3
              go_wp2_with (at_builtin; refine wpList_appI _ rfl (.tmp 105) (.tmp 107) rfl 0 _ ds rfl HS11.out.out.row (some ⟨w9.heap.size, 0, none⟩) 1 1 [⟨(q : Int), B4, false, At, tl, ct, none, 0, 0⟩] rfl rfl HR11.out (by omega) (Nat.zero_le _) ?_; intro v12 w12 ho12 hg12 hv12; have HS12 := Lib.hid (HS11.out.more HD11.out (EITV.out ▸ ho12) hg12 hv12); clear ho12 hg12 hv12)
              go_roundw
              case rel => exact ⟨s2, v12, _, _, c0 + 1, q, m1, by go_num, rfl, rfl, HS12, Lib.hid (by have a := HB.out; have b := BT.out; have c := AB.out; have dd := A6.out H1.out; have e := HLT.out; refine ⟨?_, ?_, H2.out, ?_⟩; (rw [b.1, c.1]; omega); (rw [b.1, c.1]; exact a.2.1); (rw [b.2.1, c.2.1]; exact a.2.2.2)), by omega, by omega, hm0, Lib.hid (by rw [Fo.len_app]; simp only [Fo.len]; have := HP.out; omega)⟩
              case measure => simp [intOf]; omega
            · have h2e : ((s2.err : Int) != 0) = true := by rw [bne_iff_ne]; omega
              have e0 : R0.1 = s2.err := by rw [HR.out, decG_text HLT.out EV.out H1.out NF.out HC6.out ND.out ET.out h2]; rfl
              have E0 := Lib.hid e0
              have H2 := Lib.hid h2
              clear h2 e0
              go_wp2_with (fail)
              go_quiet (fail)
              go_wp2_with (fail)
              go_ret3
              exact LsP.bad _ E0.out H2.out rfl (below_drewN HS7.out.bel _)
          · have hz2' : r2 = 1 := by omega
            have hd3 : d ≤ 3 := by
              rcases hd with h | h
              · exact absurd ⟨hz2', h⟩ hdp
              · exact h
            have t1 : ((r2 : Int) == 1) = true := by rw [hz2']; rfl
            have t2 : (d == 4) = false := by rw [beq_eq_false_iff_ne]; omega
            have HZ2 := Lib.hid hz2'
            have HD3 := Lib.hid hd3
            clear hz2 hz2' hd hdp hd3
            obtain ⟨w5, ew5⟩ : ∃ w5, w5 = w4.alloc (.cells #[] 5) := ⟨_, rfl⟩
            have b5 : Below w4.heap.size w4 w5 := by rw [ew5]; exact (Below.refl _ _).alloc (Nat.le_refl _) _
            have HS5 := Lib.hid (HS4.out.below b5)
            have EW5 := Lib.hid ew5
            clear b5 ew5
            obtain ⟨t, s2, eT⟩ : ∃ t s2, textR s1 4096 = (t, s2) := ⟨_, _, rfl⟩
            obtain ⟨b1, b2, b3, b4, b6, b7, b8⟩ := textR_step eT H1.out (by have := OK1.out.2.2.2.1; exact this)
            have OK2 : Hid (RsOk w A c s2) := Lib.hid ⟨by rw [b1]; exact OK1.out.1, by rw [b1]; exact OK1.out.2.1, OK1.out.2.2.1, by rw [b1]; exact b4, by rw [b1]; exact OK1.out.2.2.2.2⟩
            have ET := Lib.hid eT
            have BT := Lib.hid (And.intro b1 (And.intro b2 (And.intro b3 (And.intro b4 (And.intro b7 b8)))))
            have rt := refTextR_c A c s1 4096 w5 HS5.out.ok (by decide)
            rw [eT] at rt
            unfold rsV at rt
            have RT := Lib.hid rt
            clear eT b1 b2 b3 b4 b7 b8 rt
            obtain ⟨tl, etl⟩ : ∃ tl, tl = t.length := ⟨_, rfl⟩
            rw [← etl] at b6
            have ETL := Lib.hid etl
            clear etl
            go_upto_region 17 with (fail)
            rw [← EW5.out]
            clear x0 x1 x2 xf0 xf1 xf2 EW5 HS4
            obtain ⟨⟨x0, x1, x2⟩, xf0, xf1, xf2⟩ := HS5.out.b7.cells
            go_wp2_with (fail)
            refine RT.out.mono ?_
            rintro e w6 ⟨vt, rfl, hot, hb6⟩
            dsimp only
            obtain ⟨At, ct, evt, i1, i2, i3, i4⟩ := OwnB.form hot
            rw [← ETL.out] at evt i1
            subst evt
            have HS6 := Lib.hid (HS5.out.below hb6)
            have OT6 := Lib.hid hot
            have Z56 := Lib.hid hb6.size
            have R6 := Lib.hid i3
            have ci1 := Lib.hid i1
            have ci2 := Lib.hid i2
            clear hb6 RT x0 x1 x2 xf0 xf1 xf2 i1 i2 i3 i4 hot
            obtain ⟨⟨x0, x1, x2⟩, xf0, xf1, xf2⟩ := HS6.out.b7.cells
            obtain ⟨w7, ew7⟩ : ∃ w7, w7 = set3 w6 g7 (.slice A s2.b.length c) (.int .i64 (s2.at_ : Int)) (.int .i64 (s2.err : Int)) := ⟨_, rfl⟩
            have HS7 := Lib.hid (ew7 ▸ HS6.out.setR OK2.out)
            have k7 : Keeps (fun j => j = g7) w6 w7 := by rw [ew7]; exact set3_keeps _ _ _ _ _
            have hlt7 : g7 < w5.heap.size := heap_lt HS5.out.b7
            have OT7 : Hid (OwnB w7 w5.heap.size (.slice At tl ct) t) := Lib.hid (Own.frameK OT6.out (fun g e => k7.block g (Own.lt OT6.out g e).2 (fun e2 => by have := (Own.lt OT6.out g e).1; omega)))
            have Z67 : Hid (w6.heap.size = w7.heap.size) := Lib.hid (by rw [ew7]; simp [set3, World.setCell])
            unfold set3 at ew7
            have EW7 := Lib.hid ew7
            have HLT7 := Lib.hid hlt7
            clear ew7 k7 hlt7
            go_upto_region 18 with (fail)
            rw [← EW7.out]
            clear x0 x1 x2 xf0 xf1 xf2 EW7 HS6 OT6 R6
            obtain ⟨⟨x0, x1, x2⟩, xf0, xf1, xf2⟩ := HS7.out.b7.cells
            by_cases h2 : s2.err = 0
            · have h2e : ((s2.err : Int) != 0) = false := by rw [bne_eq_false_iff_eq]; omega
              have H2 := Lib.hid h2
              clear h2
              have wi : IntKind.i64.wrap (q : Int) = (q : Int) := IntWalk.i64_in _ ⟨by omega, by omega⟩
              obtain ⟨B4, eB4⟩ : ∃ B4, B4 = decide (2 ≤ r4) := ⟨_, rfl⟩
              have EB4 := Lib.hid eB4
              have b4a : decide ((2 : Int) ≤ (r4 : Int)) = B4 := by
                rw [eB4]; by_cases h : 2 ≤ r4
                · rw [decide_eq_true h, decide_eq_true (by omega)]
                · rw [decide_eq_false h, decide_eq_false (by omega)]
              have b4b : decide (2 ≤ r4) = B4 := eB4.symm
              clear eB4
              obtain ⟨w8, ew8⟩ : ∃ w8, w8 = w7.alloc (.cells #[.int .i64 (q : Int), .bool B4, .bool true, .slice none 0 0, .slice none 0 0] 76) := ⟨_, rfl⟩
              obtain ⟨gi, egi⟩ : ∃ gi, gi = w7.heap.size := ⟨_, rfl⟩
              have b8 : Below w7.heap.size w7 w8 := by rw [ew8]; exact (Below.refl _ _).alloc (Nat.le_refl _) _
              have h8 : w8.heap[gi]? = some (.cells #[.int .i64 (q : Int), .bool B4, .bool true, .slice none 0 0, .slice none 0 0] 76 (0, 0)) := by rw [ew8, egi]; exact heap_alloc_new w7 _
              have HS8 := Lib.hid (HS7.out.below b8)
              have OT8 : Hid (OwnB w8 w5.heap.size (.slice At tl ct) t) := Lib.hid (Own.below OT7.out b8)
              have EW8 := Lib.hid ew8
              have EGI := Lib.hid egi
              have H8 := Lib.hid h8
              have hg78 : Hid (g7 < gi) := Lib.hid (by have := HLT7.out; have := Z56.out; have := Z67.out; omega)
              clear ew8 egi h8 b8
              go_upto_region 21 with (fail)
              rw [← EW8.out, ← EGI.out]
              clear x0 x1 x2 xf0 xf1 xf2
              obtain ⟨e9, L9, c9, eR9⟩ : ∃ e9 L9 c9, decG m1 ⟨t, 0, 0, none⟩ (d + 1) 0 (c0 + 1) = (e9, L9, c9) := ⟨_, _, _, rfl⟩
              have ER9 := Lib.hid eR9
              have y2 : w8.cell? ⟨gi, 2, none⟩ = some (.bool true) := by rw [heap_cell H8.out]; rfl
              have hd3' := HD3.out
              have HQ := Lib.hid (show tl < N ∧ tl < m1 by
                have a := HB.out; have b := BT.out; have c := AB.out; have dd := A6.out H1.out; have e := HLT.out; have f := HNN.out; have g := ETL.out
                have h := b.2.2.2.2.1
                rw [c.1] at h
                omega)
              clear eR9
              go_wp2_with (fail)
              refine (IH.out tl HQ.out.1 t ETL.out.symm m1 (d + 1) (c0 + 1) HQ.out.2 (by omega) (by omega) (by omega) At tl ct w8 rfl (by obtain ⟨A', c', e, i1, i2, i3, i4⟩ := OwnB.form OT8.out; injection e with e1 e2 e3; rw [e1]; exact i3) ci1.out ci2.out (by omega)).mono ?_
              rintro e w9 ⟨v9, c2, rfl, hc2, ho9, hb9⟩
              rw [ER9.out] at hc2 ho9 ⊢
              dsimp only at hc2 ho9 ⊢
              have h9 := (hb9.block gi (heap_lt H8.out)).trans H8.out
              have b79 : Below w7.heap.size w7 w9 := by
                have b78 : Below w7.heap.size w7 w8 := by rw [EW8.out]; exact (Below.refl _ _).alloc (Nat.le_refl _) _
                exact b78.trans (hb9.mono b78.size)
              have H9 := Lib.hid h9
              have B79 := Lib.hid b79
              have HO9 := Lib.hid ho9
              have HC2 := Lib.hid hc2
              have Z78 : Hid (w7.heap.size < w8.heap.size) := Lib.hid (by rw [EW8.out]; simp)
              clear h9 b79 ho9 hc2 hb9 y2
              by_cases he9 : e9 = 0
              · have e9e : ((e9 : Int) != 0) = false := by rw [he9]; rfl
                have ho9 := HO9.out
                rw [if_pos he9] at ho9
                have hc2 := HC2.out he9
                have hR9 := ER9.out
                rw [he9] at hR9
                obtain ⟨g1, g2⟩ := decG_count m1 ⟨t, 0, 0, none⟩ (d + 1) 0 (c0 + 1) (by omega) (by rw [hR9])
                rw [hR9] at g1 g2
                dsimp only at g1 g2
                have hl9 := Fo.len_le L9
                obtain ⟨n9, en9⟩ : ∃ n9, L9.len = n9 := ⟨_, rfl⟩
                obtain ⟨A9, k9, rfl, j1, j2, -⟩ := ho9.form en9
                subst hc2
                have HO9b := Lib.hid ho9
                have HR9 := Lib.hid hR9
                have hcc : c0 + 1 ≤ c9 ∧ c9 ≤ 64 ∧ n9 ≤ 64 := by omega
                obtain ⟨cc1, cc2, cc3⟩ := hcc
                have EN9 := Lib.hid en9
                clear he9 ho9 hR9 g1 g2 hl9 en9 HO9 HC2 ER9
                obtain ⟨itv, eitv⟩ : ∃ itv : ItV, itv = ⟨(q : Int), B4, true, none, 0, 0, A9, n9, k9⟩ := ⟨_, rfl⟩
                have EITV := Lib.hid eitv
                obtain ⟨w10, ew10⟩ : ∃ w10, w10 = w9.setCell ⟨gi, 4, none⟩ (.slice A9 n9 k9) := ⟨_, rfl⟩
                have h10 : w10.heap[gi]? = some (.cells #[.int .i64 (q : Int), .bool B4, .bool true, .slice none 0 0, .slice A9 n9 k9] 76 (0, 0)) := by rw [ew10, heap_set H9.out]; rfl
                have b710 : Below w7.heap.size w7 w10 := by rw [ew10]; exact B79.out.setCell (by show _ ≤ gi; rw [EGI.out]; exact Nat.le_refl _) _
                have b711 : Below w7.heap.size w7 (w10.alloc (.cells #[.int .i64 (q : Int), .bool B4, .bool true, .slice none 0 0, .slice A9 n9 k9] 76)) := b710.alloc b710.size _
                have HS11 := Lib.hid (HS7.out.below b711)
                have okj : ∀ j, w5.heap.size ≤ j → (w.heap.size ≤ j ∧ j ≠ g7) ∧ u9.ownBlock ≠ some j := fun j hj => by
                  have z1 := HS5.out.bel.size
                  have z2 := HLT7.out
                  refine ⟨⟨by omega, by omega⟩, fun e => ?_⟩
                  have := HS5.out.out.lt j e
                  omega
                have ho11 : FoO (fun j => (w.heap.size ≤ j ∧ j ≠ g7) ∧ u9.ownBlock ≠ some j) (w10.alloc (.cells #[.int .i64 (q : Int), .bool B4, .bool true, .slice none 0 0, .slice A9 n9 k9] 76)) (.slice A9 n9 k9) L9 := by
                  have f10 : FoO (w8.heap.size ≤ ·) w10 (.slice A9 n9 k9) L9 := HO9b.out.frame (fun j hj _ => by rw [ew10]; exact heap_far _ (by show j ≠ gi; have : w8.heap.size ≤ j := hj; have := EGI.out; have := Z78.out; omega))
                  refine (f10.below ((Below.refl _ _).alloc (Nat.le_refl _) _)).weak (fun j hj _ => okj j ?_)
                  have : w8.heap.size ≤ j := hj
                  have := Z56.out; have := Z67.out; have := Z78.out
                  omega
                have HD11 : Hid (ItsO (fun j => (w.heap.size ≤ j ∧ j ≠ g7) ∧ u9.ownBlock ≠ some j) (w10.alloc (.cells #[.int .i64 (q : Int), .bool B4, .bool true, .slice none 0 0, .slice A9 n9 k9] 76)) [itv] (.cons (q : Int) B4 true [] L9 .nil)) := Lib.hid (by rw [eitv]; exact ItsO.one (TxtO.nil_ _ _) ho11 (by rw [EN9.out]; omega))
                have HR11 := Lib.hid (Rd.lit w10 (cellsI [⟨(q : Int), B4, true, none, 0, 0, A9, n9, k9⟩]) 76)
                have hdl : ds.length ≤ 64 := by rw [ItsO.len P ds HS11.out.out.its]; have := HP.out; omega
                have hm0 : Hid (R0 = cmb (P.app (.cons (q : Int) B4 true [] L9 .nil)) (decG m1 s2 d q c9)) := Lib.hid (by
                  rw [HR.out, decG_list HLT.out EV.out H1.out NF.out HC6.out (by omega) ET.out H2.out (by rw [← ER2.out]; exact HZ2.out) HR9.out, cmb_cmb, ← EQ.out, ← ER4.out, ← EB4.out])
                have EW10 := Lib.hid ew10
                obtain ⟨y4, yf4⟩ : w9.cell? ⟨gi, 4, none⟩ = some (.slice none 0 0) ∧ w9.frozen? ⟨gi, 4, none⟩ = false := ⟨by rw [heap_cell H9.out]; rfl, heap_free H9.out _⟩
                obtain ⟨p0, p1, p2, p3, p4⟩ : w10.cell? ⟨gi, 0, none⟩ = some (.int .i64 (q : Int)) ∧ w10.cell? ⟨gi, 1, none⟩ = some (.bool B4) ∧ w10.cell? ⟨gi, 2, none⟩ = some (.bool true) ∧ w10.cell? ⟨gi, 3, none⟩ = some (.slice none 0 0) ∧ w10.cell? ⟨gi, 4, none⟩ = some (.slice A9 n9 k9) := by
                  refine ⟨?_, ?_, ?_, ?_, ?_⟩ <;> (rw [heap_cell h10]; rfl)
                clear ew10 h10 b710 b711 okj eitv ho11
                go_upto_region 26 with (fail)
                rw [← EW10.out]
                clear y4 yf4
                go_wp2_with (at_builtin; refine wpList_appI _ rfl (.tmp 105) (.tmp 107) rfl 0 _ ds rfl HS11.out.out.row (some ⟨w10.heap.size, 0, none⟩) 1 1 [⟨(q : Int), B4, true, none, 0, 0, A9, n9, k9⟩] rfl rfl HR11.out (by omega) (Nat.zero_le _) ?_; intro v12 w12 ho12 hg12 hv12; have HS12 := Lib.hid (HS11.out.more HD11.out (EITV.out ▸ ho12) hg12 hv12); clear ho12 hg12 hv12)
                go_roundw
                case rel => exact ⟨s2, v12, _, _, c9, q, m1, rfl, rfl, rfl, HS12, Lib.hid (by have a := HB.out; have b := BT.out; have c := AB.out; have dd := A6.out H1.out; have e := HLT.out; refine ⟨?_, ?_, H2.out, ?_⟩; (rw [b.1, c.1]; omega); (rw [b.1, c.1]; exact a.2.1); (rw [b.2.1, c.2.1]; exact a.2.2.2)), by omega, by omega, hm0, Lib.hid (by rw [Fo.len_app]; simp only [Fo.len]; have := HP.out; omega)⟩
                case measure => simp [intOf]; omega
              · have e9e : ((e9 : Int) != 0) = true := by rw [bne_iff_ne]; omega
                have e0 : R0.1 = e9 := by
                  rw [HR.out, decG_bad HLT.out EV.out H1.out NF.out HC6.out (by omega) ET.out H2.out (by rw [← ER2.out]; exact HZ2.out) (by rw [ER9.out]; exact he9), ER9.out]; rfl
                have E0 := Lib.hid e0
                have HE9 := Lib.hid he9
                have HB9 := Lib.hid (HS7.out.below B79.out).bel
                clear he9 e0
                go_wp2_with (fail)
                go_ret3
                exact LsP.bad _ E0.out HE9.out rfl HB9.out
            · have h2e : ((s2.err : Int) != 0) = true := by rw [bne_iff_ne]; omega
              have e0 : R0.1 = s2.err := by rw [HR.out, decG_text HLT.out EV.out H1.out NF.out HC6.out ND.out ET.out h2]; rfl
              have E0 := Lib.hid e0
              have H2 := Lib.hid h2
              clear h2 e0
              go_wp2_with (fail)
              go_quiet (fail)
              go_wp2_with (fail)
              go_ret3
              exact LsP.bad _ E0.out H2.out rfl (below_drewN HS7.out.bel _)
        · have h1e : ((s1.err : Int) != 0) = true := by rw [bne_iff_ne]; omega
          have e0 : R0.1 = s1.err := by rw [HR.out, decG_var HLT.out EV.out h1]; rfl
          have E0 := Lib.hid e0
          have H1 := Lib.hid h1
          clear h1 e0
          go_wp2_with (fail)
          go_quiet (fail)
          go_wp2_with (fail)
          go_ret3
          exact LsP.bad _ E0.out H1.out rfl (below_drewN HS4.out.bel _)
end Go.Proofs.Ytcffinkkfdfcaaa

/- What the reference's Decode answers: the items of bytes, or an error. Conditions: lengths that fit. -/
namespace Go.Proofs.Ytcffinkkfdfcaaa
open Go Go.RowKit

/-- What bytes say. -/
def decT (bs : List UInt8) : Nat × Fo := if 4096 < bs.length then (4, .nil) else
  ((decG (bs.length + 1) ⟨bs, 0, 0, none⟩ 1 0 0).1, if (decG (bs.length + 1) ⟨bs, 0, 0, none⟩ 1 0 0).1 = 0 then (decG (bs.length + 1) ⟨bs, 0, 0, none⟩ 1 0 0).2.1 else .nil)
theorem decT_long {bs : List UInt8} (h : 4096 < bs.length) : decT bs = (4, .nil) := if_pos h
theorem decT_eq {bs : List UInt8} (h : bs.length ≤ 4096) {e : Nat} {L : Fo} {c : Nat} (hR : decG (bs.length + 1) ⟨bs, 0, 0, none⟩ 1 0 0 = (e, L, c)) : decT bs = (e, if e = 0 then L else .nil) := by
  rw [decT, if_neg (by omega), hR]
theorem decT_size (bs : List UInt8) : (decT bs).2.size ≤ 64 := by
  by_cases h : 4096 < bs.length
  · rw [decT_long h]; simp [Fo.size]
  · obtain ⟨e, L, c, eR⟩ : ∃ e L c, decG (bs.length + 1) ⟨bs, 0, 0, none⟩ 1 0 0 = (e, L, c) := ⟨_, _, _, rfl⟩
    rw [decT_eq (by omega) eR]
    by_cases h0 : e = 0
    · have := decG_count (bs.length + 1) ⟨bs, 0, 0, none⟩ 1 0 0 (by omega) (by rw [eR]; exact h0)
      rw [eR] at this
      show (if e = 0 then L else .nil).size ≤ 64
      rw [if_pos h0]
      have h1 := this.1
      have h2 := this.2
      dsimp only at h1 h2
      omega
    · show (if e = 0 then L else .nil).size ≤ 64
      rw [if_neg h0]
      exact Nat.zero_le _
set_option maxRecDepth 100000 in
set_option maxHeartbeats 2000000 in
theorem refDecodeT_c (bs : List UInt8) (A : Option Addr) (n c : Nat) (w : World) (hn : bs.length = n) (hr : Rd w A (bs.map bv)) (hc : n ≤ c) (hcm : c ≤ maxLen) (hl : n ≤ 140737488355328) :
    Calls Try.prog 73 #[.slice A n c] w fun r w' => ∃ v, r = .returned (.tuple #[v, .int .i64 ((decT bs).1 : Int)]) ∧ FoO (w.heap.size ≤ ·) w' v (decT bs).2 ∧ Below w.heap.size w w' := by
  have HN := Lib.hid hn; clear hn
  have HR := Lib.hid hr; clear hr
  obtain ⟨D, eD⟩ : ∃ D, D = decT bs := ⟨_, rfl⟩
  rw [← eD]
  have ED := Lib.hid eD; clear eD
  by_cases h4 : 4096 < n
  · have h4' : (4096 : Int) < (n : Int) := by omega
    have e0 := ED.out.trans (decT_long (by rw [HN.out]; exact h4))
    have E0 := Lib.hid e0
    clear e0 h4
    go_enter Try.func73, Try.ntmps73
    go_wp2_with (fail)
    go_ret2
    exact ⟨_, by rw [E0.out]; rfl, by rw [E0.out]; exact FoO.nil_ _ _, Below.refl _ _⟩
  · have h4' : (n : Int) ≤ 4096 := by omega
    have H4 := Lib.hid h4
    have HC := Lib.hid hc
    have HCM := Lib.hid hcm
    clear h4 hc hcm
    go_enter Try.func73, Try.ntmps73
    go_wp2_with (fail)
    refine (refList_c n bs HN.out (n + 1) 1 0 (by omega) (by omega) (by omega) (by omega) A n c w rfl HR.out HC.out HCM.out hl).mono ?_
    rintro r w1 ⟨v, c2, rfl, hc2, ho, hb⟩
    dsimp only at hc2 ho ⊢
    obtain ⟨e, L, cc, eR⟩ : ∃ e L cc, decG (n + 1) ⟨bs, 0, 0, none⟩ 1 0 0 = (e, L, cc) := ⟨_, _, _, rfl⟩
    rw [eR] at ho ⊢
    have e0 := ED.out.trans (decT_eq (e := e) (L := L) (c := cc) (by rw [HN.out]; exact Nat.le_of_not_lt H4.out) (by rw [HN.out]; exact eR))
    have E0 := Lib.hid e0
    have HO := Lib.hid ho
    have HB := Lib.hid hb
    clear e0 ho hb hc2 eR
    dsimp only
    go_wp2_with (fail)
    go_ret2
    exact ⟨_, by rw [E0.out]; rfl, by rw [E0.out]; exact HO.out, HB.out⟩
end Go.Proofs.Ytcffinkkfdfcaaa

/- The deferred function of tlv.Decode: what was thrown becomes the error. Conditions: none. -/
namespace Go.Proofs.Ytcffinkkfdfcaaa
open Go Go.RowKit

theorem assert_errno (v : Value) (W : World) : (Instr.typeAssert (.iface 32 v) 20 32 true).run Try.prog W = .ok (.tuple #[v, .bool true]) W := by kernel_rfl
set_option maxRecDepth 100000 in
set_option maxHeartbeats 2000000 in
theorem catch_panicking (p q : Addr) (x : Value) (y : Int) (e : Nat) (older : List PanicEntry) (w : World) (hc : w.cell? p = some x) (hz : w.frozen? p = false) (hc2 : w.cell? q = some (.int .i64 y)) (hz2 : w.frozen? q = false) (hne : p.block ≠ q.block) :
    CallsD Try.prog 59 #[.pointer (some p), .pointer (some q)] (.panicking ({ v := .iface 32 (.int .i64 (e : Int)), recovered := false } :: older)) w fun r u' w' =>
      r = .returned (.tuple #[]) ∧ u' = .panicking ({ v := .iface 32 (.int .i64 (e : Int)), recovered := true } :: older) ∧ w' = (w.setCell p (.slice none 0 0)).setCell q (.int .i64 (e : Int)) := by
  refine callsD_of_wpS Try.func59 rfl fun c₀ cs hu => ?_
  apply wpS_seq
  apply wpS_region
  simp [wpOpsS, go_sem, recoverD, hu, Try.ntmps59, Exit.thenS]
  have e1 : (#[Value.pointer (some p), Value.pointer (some q)] ++ ((Array.replicate 14 undef).setIfInBounds 3 (Value.iface 32 (Value.int IntKind.i64 (e : Int)))).setIfInBounds 0 (Value.iface 32 (Value.int IntKind.i64 (e : Int)))) =
      #[Value.pointer (some p), Value.pointer (some q), .iface 32 (.int .i64 (e : Int)), undef, undef, .iface 32 (.int .i64 (e : Int)), undef, undef, undef, undef, undef, undef, undef, undef, undef, undef] := rfl
  rw [e1]
  refine wpS_of_wp ?_
  have ha := assert_errno (.int .i64 (e : Int))
  have hc2' : (w.setCell p (.slice none 0 0)).cell? q = some (.int .i64 y) := by rw [World.cell?_setCell_other _ _ _ _ (fun h => hne (by rw [h]))]; exact hc2
  have hz2' : (w.setCell p (.slice none 0 0)).frozen? q = false := by rw [World.frozen?_setCell]; exact hz2
  clear e1
  go_wp2
  simp [bodyPostS, results, Try.results59]
set_option maxRecDepth 100000 in
set_option maxHeartbeats 2000000 in
theorem catch_idle (p q : Addr) (w : World) :
    CallsD Try.prog 59 #[.pointer (some p), .pointer (some q)] .returning w fun r u' w' => r = .returned (.tuple #[]) ∧ u' = .returning ∧ w' = w := by
  refine callsD_of_wpS Try.func59 rfl fun c₀ cs hu => ?_
  apply wpS_seq
  apply wpS_region
  simp [wpOpsS, go_sem, recoverD, hu, Try.ntmps59, Exit.thenS]
  have e1 : (#[Value.pointer (some p), Value.pointer (some q)] ++ ((Array.replicate 14 undef).setIfInBounds 3 Value.nilIface).setIfInBounds 0 Value.nilIface) =
      #[Value.pointer (some p), Value.pointer (some q), .nilIface, undef, undef, .nilIface, undef, undef, undef, undef, undef, undef, undef, undef, undef, undef] := rfl
  rw [e1]
  refine wpS_of_wp ?_
  clear e1
  go_wp2
  cases c₀
  simp_all [bodyPostS, results, Try.results59]
theorem dec_results (tmps : Array Value) (p q : Addr) (h2 : tmps.getD 2 undef = .pointer (some p)) (h3 : tmps.getD 3 undef = .pointer (some q)) (w : World) (a : Option Addr) (b c : Nat) (y : Int) (hc : w.cell? p = some (.slice a b c)) (hc2 : w.cell? q = some (.int .i64 y)) :
    (results Try.f30 tmps).run Try.prog w = .ok (.tuple #[.slice a b c, .int .i64 y]) w := by
  have h2' : tmps[2]?.getD undef = .pointer (some p) := by simpa using h2
  have h3' : tmps[3]?.getD undef = .pointer (some q) := by simpa using h3
  simp [results, Try.results30, h2', h3', go_sem, hc, hc2]
set_option maxRecDepth 100000 in
set_option maxHeartbeats 4000000 in
theorem DecodeT_c (bs : List UInt8) (A : Option Addr) (n c : Nat) (w : World) (hn : bs.length = n) (hr : Rd w A (bs.map bv)) (hl : n ≤ 140737488355328) :
    Calls Try.prog 30 #[.slice A n c] w fun r w' => ∃ v, r = .returned (.tuple #[v, .int .i64 ((decT bs).1 : Int)]) ∧ FoO (w.heap.size ≤ ·) w' v (decT bs).2 ∧ Below w.heap.size w w' := by
  have hmf : ∀ (fn : Fn) (first cap : Array Value) (w : World), (Instr.makeFunc fn first cap).run Try.prog w = .ok (.func fn first cap) w := fun _ _ _ _ => rfl
  have HN := Lib.hid hn; clear hn
  have HR := Lib.hid hr; clear hr
  obtain ⟨D, eD⟩ : ∃ D, D = decT bs := ⟨_, rfl⟩
  rw [← eD]
  have ED := Lib.hid eD; clear eD
  by_cases h4 : 4096 < n
  · have h4' : (4096 : Int) < (n : Int) := by omega
    have e0 := ED.out.trans (decT_long (by rw [HN.out]; exact h4))
    have E0 := Lib.hid e0
    clear e0 h4
    go_enter_defers Try.func30, Try.ntmps30
    go_wp2_with (fail)
    obtain ⟨w1, ew1⟩ : ∃ w1, w1 = (w.alloc (.cells #[.slice none 0 0] 74)).alloc (.cells #[.int .i64 4] 32) := ⟨_, rfl⟩
    have b1 : Below w.heap.size w w1 := by rw [ew1]; exact ((Below.refl _ _).alloc (Nat.le_refl _) _).alloc (by simp) _
    have y0 : w1.cell? ⟨w.heap.size, 0, none⟩ = some (.slice none 0 0) := by rw [ew1, heap_cell (heap2_old w _ _)]; rfl
    have y1 : w1.cell? ⟨w.heap.size + 1, 0, none⟩ = some (.int .i64 4) := by rw [ew1, heap_cell (heap2_new w _ _)]; rfl
    rw [← ew1]
    exact ⟨_, dec_results _ _ _ rfl rfl w1 _ _ _ _ y0 y1, _, by rw [E0.out]; rfl, by rw [E0.out]; exact FoO.nil_ _ _, b1⟩
  · have h4' : (n : Int) ≤ 4096 := by omega
    have H4 := Lib.hid h4
    clear h4
    go_enter_defers Try.func30, Try.ntmps30
    go_wp2_with (fail)
    obtain ⟨w1, ew1⟩ : ∃ w1, w1 = ((w.alloc (.cells #[.slice none 0 0] 74)).alloc (.cells #[.int .i64 0] 32)).alloc (.cells #[.int .i64 0] 117) := ⟨_, rfl⟩
    have hs1 : ((w.alloc (.cells #[.slice none 0 0] 74)).alloc (.cells #[.int .i64 0] 32)).heap.size = w.heap.size + 1 + 1 := by simp
    have b1 : Below w.heap.size w w1 := by rw [ew1]; exact (((Below.refl _ _).alloc (Nat.le_refl _) _).alloc (by simp) _).alloc (by simp; omega) _
    have g0 : w1.heap[w.heap.size]? = some (.cells #[.slice none 0 0] 74 (0, 0)) := by rw [ew1, Below.heap_alloc _ _ _ (by simp; omega)]; exact heap2_old w _ _
    have g1 : w1.heap[w.heap.size + 1]? = some (.cells #[.int .i64 0] 32 (0, 0)) := by rw [ew1, Below.heap_alloc _ _ _ (by simp)]; exact heap2_new w _ _
    have g2 : CntB w1 (w.heap.size + 1 + 1) 0 := by unfold CntB; rw [ew1, ← hs1]; exact heap_alloc_new _ _
    rw [← ew1]
    have B1 := Lib.hid b1
    have R1 := Lib.hid (HR.out.below b1)
    clear ew1 hs1 b1
    refine (list_c n bs HN.out (n + 1) 1 0 (w.heap.size + 1 + 1) (by omega) (by omega) (by omega) (by omega) A n c w1 rfl R1.out hl g2).mono ?_
    rintro r w2 ⟨k1, k2, k3⟩
    obtain ⟨e, L, cc, eR⟩ : ∃ e L cc, decG (n + 1) ⟨bs, 0, 0, none⟩ 1 0 0 = (e, L, cc) := ⟨_, _, _, rfl⟩
    rw [eR] at k1 k2
    dsimp only at k1 k2
    have e0 := ED.out.trans (decT_eq (e := e) (L := L) (c := cc) (by rw [HN.out]; exact Nat.le_of_not_lt H4.out) (by rw [HN.out]; exact eR))
    have E0 := Lib.hid e0
    have h0 := (k3.block w.heap.size (heap_lt g0) (fun e => by injection e with e; omega)).trans g0
    have h1 := (k3.block (w.heap.size + 1) (heap_lt g1) (fun e => by injection e with e; omega)).trans g1
    have b2 : Below w.heap.size w w2 := B1.out.grown k3 B1.out.size (fun k e => by injection e with e; omega)
    have hz12 := heap_lt g2
    have B2 := Lib.hid b2
    have z0 : w2.cell? ⟨w.heap.size, 0, none⟩ = some (.slice none 0 0) := by rw [heap_cell h0]; rfl
    have zf0 : w2.frozen? ⟨w.heap.size, 0, none⟩ = false := heap_free h0 _
    have z1 : w2.cell? ⟨w.heap.size + 1, 0, none⟩ = some (.int .i64 0) := by rw [heap_cell h1]; rfl
    have zf1 : w2.frozen? ⟨w.heap.size + 1, 0, none⟩ = false := heap_free h1 _
    have far : ∀ (a : Value) (b : Value), Below w.heap.size w ((w2.setCell ⟨w.heap.size, 0, none⟩ a).setCell ⟨w.heap.size + 1, 0, none⟩ b) := fun a b => (b2.setCell (p := ⟨w.heap.size, 0, none⟩) (Nat.le_refl _) a).setCell (p := ⟨w.heap.size + 1, 0, none⟩) (Nat.le_succ _) b
    have FAR := Lib.hid far
    have x0 : ∀ (a : Value) (b : Value), ((w2.setCell ⟨w.heap.size, 0, none⟩ a).setCell ⟨w.heap.size + 1, 0, none⟩ b).cell? ⟨w.heap.size, 0, none⟩ = some a := fun a b => by
      rw [heap_cell ((heap_far (w := w2.setCell ⟨w.heap.size, 0, none⟩ a) b (by show w.heap.size ≠ w.heap.size + 1; omega)).trans (heap_set h0 0 a))]; rfl
    have x1 : ∀ (a : Value) (b : Value), ((w2.setCell ⟨w.heap.size, 0, none⟩ a).setCell ⟨w.heap.size + 1, 0, none⟩ b).cell? ⟨w.heap.size + 1, 0, none⟩ = some b := fun a b => by
      rw [heap_cell (heap_set ((heap_far (w := w2) a (by show w.heap.size + 1 ≠ w.heap.size; omega)).trans h1) 0 b)]; rfl
    have X0 := Lib.hid x0
    have X1 := Lib.hid x1
    by_cases he : e = 0
    · obtain ⟨v, rfl, ho, -⟩ := k1 he
      obtain ⟨A2, c2, rfl, -, -, -⟩ := ho.form rfl
      have hO : ∀ (a b : Value), FoO (w.heap.size ≤ ·) ((w2.setCell ⟨w.heap.size, 0, none⟩ a).setCell ⟨w.heap.size + 1, 0, none⟩ b) (.slice A2 L.len c2) L := fun a b =>
        (ho.frame (fun j hj _ => by have : w1.heap.size ≤ j := hj; rw [heap_far _ (by show j ≠ w.heap.size + 1; omega), heap_far _ (by show j ≠ w.heap.size; omega)])).weak (fun j hj _ => by have : w1.heap.size ≤ j := hj; have := B1.out.size; show w.heap.size ≤ j; omega)
      have HO := Lib.hid hO
      have HE := Lib.hid he
      obtain ⟨LL, eLL⟩ : ∃ LL, LL = L.len := ⟨_, rfl⟩
      rw [← eLL] at HO ⊢
      clear eLL
      clear k1 k2 k3 ho hO he h0 h1 g0 g1 g2 b2 far x0 x1 eR e0 R1 hz12
      go_wp2_with (fail)
      refine leaves_cons (f := 59) (args := #[.pointer (some ⟨w.heap.size, 0, none⟩), .pointer (some ⟨w.heap.size + 1, 0, none⟩)]) (by simp) (by simp [go_sem]) ?_
      refine (catch_idle _ _ _).mono ?_
      rintro e u' w'' ⟨rfl, rfl, rfl⟩
      exact ⟨_, dec_results _ _ _ rfl rfl _ _ _ _ _ (X0.out _ _) (X1.out _ _), _, by rw [E0.out, HE.out]; rfl, by rw [E0.out, HE.out]; exact HO.out _ _, FAR.out _ _⟩
    · obtain rfl := k2 he
      have HE := Lib.hid he
      have ctch := catch_panicking ⟨w.heap.size, 0, none⟩ ⟨w.heap.size + 1, 0, none⟩ _ 0 e [] w2 z0 zf0 z1 zf1 (by show w.heap.size ≠ w.heap.size + 1; omega)
      have CATCH := Lib.hid ctch
      unfold thrown
      clear k1 k2 k3 he h0 h1 g0 g1 g2 b2 far x0 x1 eR e0 R1 hz12 ctch
      go_wp2_with (fail)
      refine leaves_cons (f := 59) (args := #[.pointer (some ⟨w.heap.size, 0, none⟩), .pointer (some ⟨w.heap.size + 1, 0, none⟩)]) (by simp) (by simp [go_sem]) ?_
      refine CATCH.out.mono ?_
      rintro r u' w'' ⟨rfl, rfl, rfl⟩
      exact ⟨_, dec_results _ _ _ rfl rfl _ _ _ _ _ (X0.out _ _) (X1.out _ _), _, by rw [E0.out], by rw [E0.out]; show FoO _ _ _ (if e = 0 then L else .nil); rw [if_neg HE.out]; exact FoO.nil_ _ _, FAR.out _ _⟩
end Go.Proofs.Ytcffinkkfdfcaaa
