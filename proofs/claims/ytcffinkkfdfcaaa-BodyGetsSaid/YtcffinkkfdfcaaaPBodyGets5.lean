/- Parts one behind the other: What tlv's reading of a list answers, or throws; What the reference's reader does: Var; What the reference's reader does: Text; The reference's reader in a block: three cells read and stored; The world within the reference's reading of a list of items; What the reference's list answers: the items of bytes, or an error; What the reference's Decode answers: the items of bytes, or an error; The deferred function of tlv.Decode: what was thrown becomes the error. Conditions: as told at each. -/
import Derived.Test.YtcffinkkfdfcaaaPBodyGets4
import Derived.Deep.CutBlock
import Derived.Test.YtcffinkkfdfcaaaPBodyGets1
import Derived.Test.YtcffinkkfdfcaaaPBodyGets3
import Derived.Test.YtcffinkkfdfcaaaPBodyGets2
import Derived.Recover

/- What tlv's reading of a list answers, or throws. Conditions: depth 1 to 4; at most 64 items ahead. -/
namespace Go.Proofs.Ytcffinkkfdfcaaa
open Go Go.RowKit

set_option maxRecDepth 100000 in
set_option maxHeartbeats 8000000 in
theorem list_c : ∀ (N : Nat) (bs : List UInt8), bs.length = N → ∀ (m : Nat) (d : Int) (cnt bx : Nat), N < m → 1 ≤ d → d ≤ 4 → cnt ≤ 64 → ∀ (A : Option Addr) (n c : Nat) (w : World), N = n → Rd w A (bs.map bv) → n ≤ 140737488355328 → CntB w bx cnt →
    Calls Try.prog 60 #[.pointer (some ⟨bx, 0, none⟩), .slice A n c, .int .i64 d] w (DlP w bx (decG m ⟨bs, 0, 0, none⟩ d 0 cnt)) := by
  intro N
  induction N using Nat.strongRecOn with
  | _ N ih =>
    intro bs hN m d cnt bx hm hd1 hd4 hcnt A n c w hn hr hl hcb
    have IH := Lib.hid ih; clear ih
    have HN := Lib.hid (hN.trans hn); clear hN
    have HNN := Lib.hid hn; clear hn
    have HM := Lib.hid hm; clear hm
    have HCB := Lib.hid hcb; clear hcb
    obtain ⟨R0, eR0⟩ : ∃ R0, R0 = decG m ⟨bs, 0, 0, none⟩ d 0 cnt := ⟨_, rfl⟩
    rw [← eR0]
    have ER0 := Lib.hid eR0; clear eR0
    go_enter Try.func60, Try.ntmps60
    go_wp2_with (fail)
    refine (Rnew_c A n c bs w HN.out hr hl).mono ?_
    rintro _ w1 ⟨gr, gA, rfl, hgr, hrd, hb1, hgA⟩
    have hS1 : DlS w bx gr ⟨bs, 0, 0, gA⟩ (.slice none 0 0) [] .nil cnt w1 := 
      ⟨hrd, FoP.nil_ _ _, (hb1.block bx (heap_lt HCB.out)).trans HCB.out, grownBy_of_below hb1 _, hgr, heap_lt HCB.out, hgA⟩
    have HS1 := Lib.hid hS1
    have ER1 : Hid (R0 = decG m ⟨bs, 0, 0, gA⟩ d 0 cnt) := Lib.hid (ER0.out.trans (decG_g gA m ⟨bs, 0, 0, none⟩ d 0 cnt).symm)
    clear hS1 hrd hb1 hgA hr hgr HCB
    go_wp2_with (fail)
    go_loopw [7, 9] (fun o a wr => ∃ (s : RS) (ds : List ItV) (P : Fo) (c0 ah m' : Nat), a = .int .u64 (ah : Int) ∧ Hid (DlS w bx gr s o ds P c0 wr) ∧ Hid (s.b.length - s.at_ < m' ∧ s.b.length = n ∧ s.err = 0 ∧ s.at_ ≤ s.b.length) ∧ c0 ≤ 64 ∧ ah ≤ 1000 ∧ Hid (R0 = cmb P (decG m' s d ah c0)) ∧ Hid (P.len ≤ c0)) (fun _ _ wr => 64 - (intOf ((wr.cell? ⟨bx, 0, none⟩).getD undef)).toNat)
    case atStart => exact ⟨⟨bs, 0, 0, gA⟩, [], .nil, cnt, 0, m, rfl, HS1, Lib.hid ⟨by have := HM.out; have := HN.out; have := HNN.out; simp only; omega, HN.out, rfl, Nat.zero_le _⟩, hcnt, by omega, Lib.hid ER1.out, Lib.hid (by simp [Fo.len])⟩
    case round =>
      clear HS1 ER1 ER0
      obtain ⟨s, ds, P, c0, ah, m', rfl, HS, HB, hc0, hah, HR, HP⟩ := hrel
      obtain ⟨hB1, hB2, hB3, hB4⟩ := HB.out
      obtain ⟨nn, s1, eV⟩ : ∃ nn s1, varR s = (nn, s1) := ⟨_, _, rfl⟩
      obtain ⟨a1, a2, a3, a4, a5, a6⟩ := varR_step eV hB3 hB4
      have EV := Lib.hid eV
      have A6 := Lib.hid a6
      have AB := Lib.hid (And.intro a1 (And.intro a2 (And.intro a3 a4)))
      clear eV a6 a1 a2 a3 a4 hB3
      obtain ⟨lf, elf⟩ : ∃ lf, lf = s.b.length - s.at_ := ⟨_, rfl⟩
      have hlf : lf ≤ 140737488355328 := by omega
      have ELF := Lib.hid elf
      have rl := Rleft_c gr s wr HS.out.rd
      rw [← elf] at rl
      have RL := Lib.hid rl
      clear elf rl hB4
      obtain ⟨m1, rfl⟩ : ∃ m1, m' = m1 + 1 := ⟨m' - 1, by omega⟩
      clear hB1 hB2
      go_wp2_with (fail)
      refine RL.out.mono ?_
      rintro e _ ⟨rfl, qq, rfl⟩
      have HS2 := Lib.hid (HS.out.drewN qq)
      obtain ⟨w2, ew2⟩ : ∃ w2, w2 = wr.drewN qq := ⟨_, rfl⟩
      rw [← ew2] at HS2 ⊢
      have MC : Hid (wr.cell? ⟨bx, 0, none⟩ = some (.int .i64 (c0 : Int))) := Lib.hid (by rw [heap_cell HS.out.cnt]; rfl)
      clear ew2 RL HS
      rcases Nat.eq_zero_or_pos lf with h0 | h0
      · have d0 : decide ((0 : Int) < (lf : Int)) = false := decide_eq_false (by omega)
        have d0' : decide (0 < lf) = false := decide_eq_false (by omega)
        have e0 : R0 = (0, P, c0) := by rw [HR.out, decG_end (by have := ELF.out; omega), cmb, Fo.app_nil]
        have E0 := Lib.hid e0
        clear h0 e0
        go_wp2_with (fail)
        go_ret
        rw [E0.out]
        exact ⟨fun _ => ⟨_, rfl, HS2.out.out.o.weak (fun _ hj _ => hj.1), HS2.out.cnt⟩, fun h => absurd rfl h, HS2.out.g⟩
      · have d0 : decide ((0 : Int) < (lf : Int)) = true := decide_eq_true (by omega)
        have d0' : decide (0 < lf) = true := decide_eq_true (by omega)
        have hlt : s.at_ < s.b.length := by have := ELF.out; omega
        have HLT := Lib.hid hlt
        have rv := Rvar_c gr s w2 HS2.out.rd
        rw [EV.out] at rv
        have RV := Lib.hid rv
        clear h0 hlt rv
        go_wp2_with (fail)
        refine RV.out.mono ?_
        rintro e w3 ⟨rfl, hr3, hg3⟩
        have HS3 := Lib.hid (HS2.out.read hr3 AB.out.2.1 hg3)
        clear hr3 hg3 RV HS2 d0 d0'
        go_wp2_with (fail)
        refine (Rerr_c gr s1 w3 HS3.out.rd).mono ?_
        rintro e wx ⟨rfl, hx⟩; rw [← hx]; clear hx wx
        by_cases h1 : s1.err = 0
        · have H1 := Lib.hid h1; clear h1
          go_wp2_with (fail)
          refine (must_ok s1.err H1.out _).mono ?_
          rintro _ wx ⟨rfl, hx⟩; rw [hx]; clear hx wx
          obtain ⟨q, eq⟩ : ∃ q, q = nn / 4 := ⟨_, rfl⟩
          obtain ⟨B4, eB4⟩ : ∃ B4, B4 = decide (2 ≤ nn % 4) := ⟨_, rfl⟩
          have wq : IntKind.u64.wrap ((nn : Int) / 4) = (q : Int) := by
            rw [show (nn : Int) / 4 = ((nn / 4 : Nat) : Int) by omega, eq]; exact u64_wrapN (by unfold U64 at *; omega)
          have b2 : (bits BinOp.and .u64 (nn : Int) 2 != 0) = B4 := by rw [eB4]; exact band2 a5
          have b1 := band1 a5
          have EQ := Lib.hid eq
          have EB4 := Lib.hid eB4
          clear eq eB4
          have bad : Hid (∀ (w' : World), q ≤ ah ∨ 1000 < q → w.grownBy w' (some bx) → DlP w bx R0 (thrown 3) w') := Lib.hid (fun w' h hg => DlP.bad (by rw [HR.out, decG_form HLT.out EV.out H1.out (by rw [← EQ.out]; exact h)]; rfl) (by decide) hg)
          by_cases hq3 : q ≤ ah
          · have q3 : (q : Int) ≤ (ah : Int) := by omega
            have g0 := Lib.hid (show q ≤ ah ∨ 1000 < q by omega)
            clear hq3
            go_wp2_with (fail)
            exact ⟨rfl, bad.out _ g0.out HS3.out.g⟩
          have q3 : (ah : Int) < (q : Int) := by omega
          by_cases hq2 : 1000 < q
          · have q2 : 1000 < (q : Int) := by omega
            have g0 := Lib.hid (show q ≤ ah ∨ 1000 < q by omega)
            clear hq2 hq3
            go_wp2_with (fail)
            exact ⟨rfl, bad.out _ g0.out HS3.out.g⟩
          have q2 : (q : Int) ≤ 1000 := by omega
          have NF : Hid (¬ (nn / 4 ≤ ah ∨ 1000 < nn / 4)) := Lib.hid (by rw [← EQ.out]; omega)
          clear hq2 hq3 bad
          have cc := HS3.out.cnt
          have x0 : w3.cell? ⟨bx, 0, none⟩ = some (.int .i64 (c0 : Int)) := by rw [heap_cell cc]; rfl
          have xf : w3.frozen? ⟨bx, 0, none⟩ = false := heap_free cc _
          obtain ⟨w4, ew4⟩ : ∃ w4, w4 = w3.setCell ⟨bx, 0, none⟩ (.int .i64 ((c0 : Int) + 1)) := ⟨_, rfl⟩
          have HS4 : Hid (DlS w bx gr s1 u7 ds P (c0 + 1) w4) := Lib.hid (by rw [ew4]; exact HS3.out.step (only_set bx 0 _) (cc.set (c0 + 1)))
          have y0 : w4.cell? ⟨bx, 0, none⟩ = some (.int .i64 ((c0 : Int) + 1)) := by rw [heap_cell HS4.out.cnt]; rfl
          have EW4 := Lib.hid ew4
          clear ew4 cc
          go_upto_region 11 with (fail)
          rw [← EW4.out]
          clear x0 xf
          by_cases hc6 : 64 ≤ c0
          · have c6 : (64 : Int) < (c0 : Int) + 1 := by omega
            have e0 : R0.1 = 4 := by rw [HR.out, decG_many HLT.out EV.out H1.out NF.out hc6]; rfl
            have E0 := Lib.hid e0
            clear hc6 e0
            go_wp2_with (fail)
            exact ⟨rfl, DlP.bad E0.out (by decide) HS4.out.g⟩
          have c6 : (c0 : Int) + 1 ≤ 64 := by omega
          have HC6 := Lib.hid hc6
          have wi : IntKind.i64.wrap (q : Int) = (q : Int) := IntWalk.i64_in _ ⟨by omega, by omega⟩
          clear hc6
          obtain ⟨gi, egi⟩ : ∃ gi, gi = w4.heap.size := ⟨_, rfl⟩
          by_cases hz2 : nn % 2 = 1
          · rw [decide_eq_true hz2] at b1
            have HZ2 := Lib.hid hz2
            clear hz2
            obtain ⟨w5, ew5⟩ : ∃ w5, w5 = w4.alloc (.cells #[.int .i64 (q : Int), .bool B4, .bool true, .slice none 0 0, .slice none 0 0] 76) := ⟨_, rfl⟩
            have h5 : w5.heap[gi]? = some (.cells #[.int .i64 (q : Int), .bool B4, .bool true, .slice none 0 0, .slice none 0 0] 76 (0, 0)) := by rw [ew5, egi]; exact heap_alloc_new w4 _
            have b5 : Below w4.heap.size w4 w5 := by rw [ew5]; exact (Below.refl _ _).alloc (Nat.le_refl _) _
            have HS5 := Lib.hid (HS4.out.below b5)
            have K5 : Hid (Keeps (fun j => j = gr ∨ j = bx ∨ w4.heap.size ≤ j) w4 w5) := Lib.hid (Keeps.of_below b5 _ (fun k hk _ => hk))
            have Z5 : Hid (w5.heap.size = gi + 1) := Lib.hid (by rw [ew5, egi]; simp)
            have EW5 := Lib.hid ew5
            have H5 := Lib.hid h5
            have EGI := Lib.hid egi
            have hgr4 : Hid (gr < gi) := Lib.hid (by rw [egi]; exact HS4.out.rd.lt)
            have z2 : w5.cell? ⟨gi, 2, none⟩ = some (.bool true) := by rw [heap_cell h5]; rfl
            clear ew5 h5 b5 egi
            go_upto_region 14 with (fail)
            rw [← EW5.out, ← EGI.out]
            clear y0
            by_cases hd4' : d = 4
            · have d4 : (4 : Int) ≤ d := by omega
              have e0 : R0.1 = 5 := by rw [HR.out, decG_deep HLT.out EV.out H1.out NF.out HC6.out ⟨HZ2.out, hd4'⟩]; rfl
              have E0 := Lib.hid e0
              clear hd4' e0
              go_wp2_with (fail)
              exact ⟨rfl, DlP.bad E0.out (by decide) HS5.out.g⟩
            have d4 : d < 4 := by omega
            have HD3 := Lib.hid d4
            have ND : Hid (¬ (nn % 2 = 1 ∧ d = 4)) := Lib.hid (fun h => hd4' h.2)
            clear hd4'
            obtain ⟨t, s2, eT⟩ : ∃ t s2, textR s1 4096 = (t, s2) := ⟨_, _, rfl⟩
            obtain ⟨b1', b2', b3', b4', b6, b7, b8⟩ := textR_step eT H1.out (by have := AB.out; rw [this.1]; exact this.2.2.2)
            have ET := Lib.hid eT
            have BT := Lib.hid (And.intro b1' (And.intro b2' (And.intro b3' (And.intro b4' (And.intro b7 b8)))))
            have rt := Rtext_c gr s1 4096 w5 HS5.out.rd (by decide)
            rw [eT] at rt
            have RT := Lib.hid rt
            clear eT b1' b2' b3' b4' b7 b8 rt
            obtain ⟨tl, etl⟩ : ∃ tl, tl = t.length := ⟨_, rfl⟩
            rw [← etl] at b6
            have ETL := Lib.hid etl
            clear etl
            go_wp2_with (fail)
            refine RT.out.mono ?_
            rintro e w6 ⟨vt, rfl, hot, hr6, hg6⟩
            obtain ⟨At, ct, evt, i1, i2, i3, i4⟩ := OwnB.form hot
            rw [← ETL.out] at evt i1
            subst evt
            have HS6 := Lib.hid (HS5.out.read hr6 BT.out.2.1 hg6)
            have OT6 := Lib.hid hot
            have R6 := Lib.hid i3
            have K6 := Lib.hid (K5.out.trans (Keeps.of_grown hg6 _ (fun k e => by injection e with e; exact .inl e.symm)))
            have H6 : Hid (w6.heap[gi]? = some (.cells #[.int .i64 (q : Int), .bool B4, .bool true, .slice none 0 0, .slice none 0 0] 76 (0, 0))) := Lib.hid ((hg6.block gi (by rw [Z5.out]; omega) (fun e => by injection e with e; have := hgr4.out; omega)).trans H5.out)
            have Z6 := Lib.hid hg6.size
            clear hr6 hg6 RT HS5 z2 i1 i2 i3 i4 hot K5 H5
            go_wp2_with (fail)
            refine (Rerr_c gr s2 w6 HS6.out.rd).mono ?_
            rintro e wx ⟨rfl, hx⟩; rw [← hx]; clear hx wx
            by_cases h2 : s2.err = 0
            · have H2 := Lib.hid h2
              clear h2
              go_wp2_with (fail)
              refine (must_ok s2.err H2.out _).mono ?_
              rintro _ wx ⟨rfl, hx⟩; rw [hx]; clear hx wx
              have z2 : w6.cell? ⟨gi, 2, none⟩ = some (.bool true) := by rw [heap_cell H6.out]; rfl
              have okj : Hid (∀ j, w5.heap.size ≤ j → okD w gr s2.gA j ∧ u7.ownBlock ≠ some j) := Lib.hid (fun j hj => by
                have z1 := HS4.out.g.size
                have zz := Z5.out
                have zg := EGI.out
                have hh := hgr4.out
                refine ⟨⟨by omega, by omega, fun a e => ?_⟩, fun e => ?_⟩
                · rw [BT.out.2.1] at e
                  have := (HS4.out.gA a e).2
                  omega
                · have := HS4.out.out.lt j e
                  omega)
              obtain ⟨e9, L9, c9, eR9⟩ : ∃ e9 L9 c9, decG m1 ⟨t, 0, 0, none⟩ (d + 1) 0 (c0 + 1) = (e9, L9, c9) := ⟨_, _, _, rfl⟩
              have ER9 := Lib.hid eR9
              have hd3' := HD3.out
              have HQ := Lib.hid (show tl < N ∧ tl < m1 by
                have a := HB.out; have b := BT.out; have c := AB.out; have dd := A6.out H1.out; have e := HLT.out; have f := HNN.out; have g := ETL.out
                have h := b.2.2.2.2.1
                rw [c.1] at h
                omega)
              clear eR9
              go_wp2_with (fail)
              refine (IH.out tl HQ.out.1 t ETL.out.symm m1 (d + 1) (c0 + 1) bx HQ.out.2 (by omega) (by omega) (by omega) At tl ct w6 rfl R6.out (by omega) HS6.out.cnt).mono ?_
              rintro e w7 ⟨g1, g2, g3⟩
              rw [ER9.out] at g1 g2
              dsimp only at g1 g2
              by_cases he9 : e9 = 0
              · obtain ⟨v9, rfl, ho9, hc9⟩ := g1 he9
                have hR9 := ER9.out
                rw [he9] at hR9
                obtain ⟨k1, k2⟩ := decG_count m1 ⟨t, 0, 0, none⟩ (d + 1) 0 (c0 + 1) (by omega) (by rw [hR9])
                rw [hR9] at k1 k2
                dsimp only at k1 k2
                have hl9 := Fo.len_le L9
                obtain ⟨n9, en9⟩ : ∃ n9, L9.len = n9 := ⟨_, rfl⟩
                obtain ⟨A9, k9, rfl, j1, j2, -⟩ := ho9.form en9
                have hcc : c0 + 1 ≤ c9 ∧ c9 ≤ 64 ∧ n9 ≤ 64 := by omega
                obtain ⟨cc1, cc2, cc3⟩ := hcc
                have hbxi : bx < gi := by have := HS6.out.bx; have := HS6.out.lo; have := hgr4.out; omega
                have hne : ∀ k, k < w6.heap.size → k ≠ bx → w7.heap[k]? = w6.heap[k]? := fun k hk h => g3.block k hk (fun e => h (by injection e))
                have hlti : gi < w6.heap.size := heap_lt H6.out
                have h7 := (hne gi hlti (by omega)).trans H6.out
                have k67 : Keeps (fun j => j = bx) w6 w7 := Keeps.of_grown g3 _ (fun k e => by injection e with e; exact e.symm)
                obtain ⟨itv, eitv⟩ : ∃ itv : ItV, itv = ⟨(q : Int), B4, true, none, 0, 0, A9, n9, k9⟩ := ⟨_, rfl⟩
                have EITV := Lib.hid eitv
                obtain ⟨w8, ew8⟩ : ∃ w8, w8 = w7.setCell ⟨gi, 4, none⟩ (.slice A9 n9 k9) := ⟨_, rfl⟩
                have h8 : w8.heap[gi]? = some (.cells #[.int .i64 (q : Int), .bool B4, .bool true, .slice none 0 0, .slice A9 n9 k9] 76 (0, 0)) := by rw [ew8, heap_set h7]; rfl
                have k78 : Keeps (fun j => j = gi) w7 w8 := by rw [ew8]; exact Keeps.set _ _ _ _ rfl
                have k68 : Keeps (fun j => j = bx ∨ j = gi) w6 w8 := (k67.mono (fun k e => .inl e)).trans (k78.mono (fun k e => .inr e))
                have k8 := K6.out.trans (k68.mono (T := fun j => j = gr ∨ j = bx ∨ w4.heap.size ≤ j) (fun k e => e.elim (fun e => .inr (.inl e)) (fun e => .inr (.inr (by rw [e, EGI.out]; exact Nat.le_refl _)))))
                have S6 := HS6.out
                have zgi := hgr4.out
                have zb := S6.bx
                have zl := S6.lo
                have hS8 : DlS w bx gr s2 u7 ds P c9 w8 := HS4.out.jump k8 (S6.rd.frame (k68.block gr S6.rd.lt (by omega)) (fun a e hl => k68.block _ hl (by have h1 := HS4.out.gA a (by rw [← BT.out.2.1]; exact e); have := EGI.out; omega)) k68.size) BT.out.2.1 ((k78.block bx (heap_lt hc9) (by omega)).trans hc9)
                have hZ7 : Hid (w6.heap.size ≤ w7.heap.size) := Lib.hid k67.size
                have b89 : Below w8.heap.size w8 (w8.alloc (.cells #[.int .i64 (q : Int), .bool B4, .bool true, .slice none 0 0, .slice A9 n9 k9] 76)) := (Below.refl _ _).alloc (Nat.le_refl _) _
                have HS9 := Lib.hid (hS8.below b89)
                have ho8 : FoO (w6.heap.size ≤ ·) w8 (.slice A9 n9 k9) L9 := ho9.frame (fun j hj hl => k78.block j hl (by have : w6.heap.size ≤ j := hj; omega))
                have ho11 := (ho8.below b89).weak (ok' := fun j => okD w gr s2.gA j ∧ u7.ownBlock ≠ some j) (fun j hj _ => okj.out j (by have : w6.heap.size ≤ j := hj; have := Z6.out; omega))
                have HD9 : Hid (ItsO (fun j => okD w gr s2.gA j ∧ u7.ownBlock ≠ some j) (w8.alloc (.cells #[.int .i64 (q : Int), .bool B4, .bool true, .slice none 0 0, .slice A9 n9 k9] 76)) [itv] (.cons (q : Int) B4 true [] L9 .nil)) := Lib.hid (by rw [eitv]; exact ItsO.one (TxtO.nil_ _ _) ho11 (by rw [en9]; omega))
                have HR9 := Lib.hid (Rd.lit w8 (cellsI [⟨(q : Int), B4, true, none, 0, 0, A9, n9, k9⟩]) 76)
                have hdl : ds.length ≤ 64 := by rw [ItsO.len P ds hS8.out.its]; have := HP.out; omega
                have hm0 : Hid (R0 = cmb (P.app (.cons (q : Int) B4 true [] L9 .nil)) (decG m1 s2 d q c9)) := Lib.hid (by
                  rw [HR.out, decG_list HLT.out EV.out H1.out NF.out HC6.out (by omega) ET.out H2.out HZ2.out hR9, cmb_cmb, ← EQ.out, ← EB4.out])
                have EW8 := Lib.hid ew8
                have yf4 : w7.frozen? ⟨gi, 4, none⟩ = false := heap_free h7 _
                have y4 : w7.cell? ⟨gi, 4, none⟩ = some (.slice none 0 0) := by rw [heap_cell h7]; rfl
                obtain ⟨p0, p1, p2, p3, p4⟩ : w8.cell? ⟨gi, 0, none⟩ = some (.int .i64 (q : Int)) ∧ w8.cell? ⟨gi, 1, none⟩ = some (.bool B4) ∧ w8.cell? ⟨gi, 2, none⟩ = some (.bool true) ∧ w8.cell? ⟨gi, 3, none⟩ = some (.slice none 0 0) ∧ w8.cell? ⟨gi, 4, none⟩ = some (.slice A9 n9 k9) := by
                  refine ⟨?_, ?_, ?_, ?_, ?_⟩ <;> (rw [heap_cell h8]; rfl)
                clear ew8 h8 k68 k8 hS8 b89 eitv S6 zgi zb zl k67 k78 h7 hne hlti hbxi g1 g2 g3 he9 ho9 hc9 hR9 k1 k2 hl9 en9 j1 j2 ho8 ho11
                go_upto_region 21 with (fail)
                rw [← EW8.out]
                clear z2 yf4 y4
                go_wp2_with (at_builtin; refine wpList_appI _ rfl (.tmp 78) (.tmp 80) rfl 0 _ ds rfl HS9.out.out.row (some ⟨w8.heap.size, 0, none⟩) 1 1 [⟨(q : Int), B4, true, none, 0, 0, A9, n9, k9⟩] rfl rfl HR9.out (by omega) (Nat.zero_le _) ?_; intro v12 w12 ho12 hg12 hv12; have HS12 := Lib.hid (HS9.out.more HD9.out (EITV.out ▸ ho12) hg12 hv12); clear ho12 hg12 hv12)
                go_roundw
                case rel => exact ⟨s2, _, _, c9, q, m1, rfl, HS12, Lib.hid (by have a := HB.out; have b := BT.out; have c := AB.out; have dd := A6.out H1.out; have e := HLT.out; refine ⟨?_, ?_, H2.out, ?_⟩; (rw [b.1, c.1]; omega); (rw [b.1, c.1]; exact a.2.1); (rw [b.1]; exact b.2.2.2.1)), by omega, by omega, hm0, Lib.hid (by rw [Fo.len_app]; simp only [Fo.len]; have := HP.out; omega)⟩
                case measure =>
                  have mc := MC.out
                  have mn : w12.cell? ⟨bx, 0, none⟩ = some (.int .i64 ((c9 : Nat) : Int)) := by rw [heap_cell HS12.out.cnt]; rfl
                  rw [mc, mn]
                  simp [intOf]; omega
              · have e0 : R0.1 = e9 := by
                  rw [HR.out, decG_bad HLT.out EV.out H1.out NF.out HC6.out (by omega) ET.out H2.out HZ2.out (by rw [ER9.out]; exact he9), ER9.out]; rfl
                have E0 := Lib.hid e0
                have HE9 := Lib.hid he9
                have G9 := Lib.hid (only_trans HS6.out.g g3)
                obtain rfl := g2 he9
                clear he9 e0 g1 g2 g3
                unfold thrown
                go_wp2_with (fail)
                exact ⟨rfl, DlP.bad E0.out HE9.out G9.out⟩
            · have e0 : R0.1 = s2.err := by rw [HR.out, decG_text HLT.out EV.out H1.out NF.out HC6.out ND.out ET.out h2]; rfl
              have E0 := Lib.hid e0
              have H2 := Lib.hid h2
              clear h2 e0
              go_wp2_with (fail)
              refine (must_no s2.err H2.out _).mono ?_
              rintro _ wx ⟨rfl, hx⟩; rw [hx]; clear hx wx
              unfold thrown
              go_wp2_with (fail)
              exact ⟨rfl, DlP.bad E0.out H2.out HS6.out.g⟩
          · rw [decide_eq_false hz2] at b1
            have HZ2 : Hid (nn % 2 = 0) := Lib.hid (by omega)
            clear hz2
            obtain ⟨w5, ew5⟩ : ∃ w5, w5 = w4.alloc (.cells #[.int .i64 (q : Int), .bool B4, .bool false, .slice none 0 0, .slice none 0 0] 76) := ⟨_, rfl⟩
            have h5 : w5.heap[gi]? = some (.cells #[.int .i64 (q : Int), .bool B4, .bool false, .slice none 0 0, .slice none 0 0] 76 (0, 0)) := by rw [ew5, egi]; exact heap_alloc_new w4 _
            have b5 : Below w4.heap.size w4 w5 := by rw [ew5]; exact (Below.refl _ _).alloc (Nat.le_refl _) _
            have HS5 := Lib.hid (HS4.out.below b5)
            have K5 : Hid (Keeps (fun j => j = gr ∨ j = bx ∨ w4.heap.size ≤ j) w4 w5) := Lib.hid (Keeps.of_below b5 _ (fun k hk _ => hk))
            have Z5 : Hid (w5.heap.size = gi + 1) := Lib.hid (by rw [ew5, egi]; simp)
            have EW5 := Lib.hid ew5
            have H5 := Lib.hid h5
            have EGI := Lib.hid egi
            have hgr4 : Hid (gr < gi) := Lib.hid (by rw [egi]; exact HS4.out.rd.lt)
            have z2 : w5.cell? ⟨gi, 2, none⟩ = some (.bool false) := by rw [heap_cell h5]; rfl
            clear ew5 h5 b5 egi
            go_upto_region 14 with (fail)
            rw [← EW5.out, ← EGI.out]
            clear y0
            have ND : Hid (¬ (nn % 2 = 1 ∧ d = 4)) := Lib.hid (fun h => by have := HZ2.out; omega)
            obtain ⟨t, s2, eT⟩ : ∃ t s2, textR s1 4096 = (t, s2) := ⟨_, _, rfl⟩
            obtain ⟨b1', b2', b3', b4', b6, b7, b8⟩ := textR_step eT H1.out (by have := AB.out; rw [this.1]; exact this.2.2.2)
            have ET := Lib.hid eT
            have BT := Lib.hid (And.intro b1' (And.intro b2' (And.intro b3' (And.intro b4' (And.intro b7 b8)))))
            have rt := Rtext_c gr s1 4096 w5 HS5.out.rd (by decide)
            rw [eT] at rt
            have RT := Lib.hid rt
            clear eT b1' b2' b3' b4' b7 b8 rt
            obtain ⟨tl, etl⟩ : ∃ tl, tl = t.length := ⟨_, rfl⟩
            rw [← etl] at b6
            have ETL := Lib.hid etl
            clear etl
            go_wp2_with (fail)
            refine RT.out.mono ?_
            rintro e w6 ⟨vt, rfl, hot, hr6, hg6⟩
            obtain ⟨At, ct, evt, i1, i2, i3, i4⟩ := OwnB.form hot
            rw [← ETL.out] at evt i1
            subst evt
            have HS6 := Lib.hid (HS5.out.read hr6 BT.out.2.1 hg6)
            have OT6 := Lib.hid hot
            have R6 := Lib.hid i3
            have K6 := Lib.hid (K5.out.trans (Keeps.of_grown hg6 _ (fun k e => by injection e with e; exact .inl e.symm)))
            have H6 : Hid (w6.heap[gi]? = some (.cells #[.int .i64 (q : Int), .bool B4, .bool false, .slice none 0 0, .slice none 0 0] 76 (0, 0))) := Lib.hid ((hg6.block gi (by rw [Z5.out]; omega) (fun e => by injection e with e; have := hgr4.out; omega)).trans H5.out)
            have Z6 := Lib.hid hg6.size
            clear hr6 hg6 RT HS5 z2 i1 i2 i3 i4 hot K5 H5
            go_wp2_with (fail)
            refine (Rerr_c gr s2 w6 HS6.out.rd).mono ?_
            rintro e wx ⟨rfl, hx⟩; rw [← hx]; clear hx wx
            by_cases h2 : s2.err = 0
            · have H2 := Lib.hid h2
              clear h2
              go_wp2_with (fail)
              refine (must_ok s2.err H2.out _).mono ?_
              rintro _ wx ⟨rfl, hx⟩; rw [hx]; clear hx wx
              have z2 : w6.cell? ⟨gi, 2, none⟩ = some (.bool false) := by rw [heap_cell H6.out]; rfl
              have okj : Hid (∀ j, w5.heap.size ≤ j → okD w gr s2.gA j ∧ u7.ownBlock ≠ some j) := Lib.hid (fun j hj => by
                have z1 := HS4.out.g.size
                have zz := Z5.out
                have zg := EGI.out
                have hh := hgr4.out
                refine ⟨⟨by omega, by omega, fun a e => ?_⟩, fun e => ?_⟩
                · rw [BT.out.2.1] at e
                  have := (HS4.out.gA a e).2
                  omega
                · have := HS4.out.out.lt j e
                  omega)
              obtain ⟨itv, eitv⟩ : ∃ itv : ItV, itv = ⟨(q : Int), B4, false, At, tl, ct, none, 0, 0⟩ := ⟨_, rfl⟩
              have EITV := Lib.hid eitv
              obtain ⟨w8, ew8⟩ : ∃ w8, w8 = w6.setCell ⟨gi, 3, none⟩ (.slice At tl ct) := ⟨_, rfl⟩
              have h8 : w8.heap[gi]? = some (.cells #[.int .i64 (q : Int), .bool B4, .bool false, .slice At tl ct, .slice none 0 0] 76 (0, 0)) := by rw [ew8, heap_set H6.out]; rfl
              have k68 : Keeps (fun j => j = gi) w6 w8 := by rw [ew8]; exact Keeps.set _ _ _ _ rfl
              have k8 := K6.out.trans (k68.mono (fun k e => .inr (.inr (by rw [e, EGI.out]; exact Nat.le_refl _))))
              have S6 := HS6.out
              have zgi := hgr4.out
              have hS8 : DlS w bx gr s2 u7 ds P (c0 + 1) w8 := HS4.out.jump k8 (S6.rd.frame (k68.block gr S6.rd.lt (by omega)) (fun a e hl => k68.block _ hl (by have := (HS4.out.gA a (by rw [← BT.out.2.1]; exact e)).2; have := EGI.out; omega)) k68.size) BT.out.2.1 ((k68.block bx (heap_lt S6.cnt) (by have := S6.bx; have := S6.lo; omega)).trans S6.cnt)
              have hT8 : OwnB w8 w5.heap.size (.slice At tl ct) t := Own.frameK OT6.out (fun g e => k68.block g (Own.lt OT6.out g e).2 (by have := (Own.lt OT6.out g e).1; have := Z5.out; omega))
              have b89 : Below w8.heap.size w8 (w8.alloc (.cells #[.int .i64 (q : Int), .bool B4, .bool false, .slice At tl ct, .slice none 0 0] 76)) := (Below.refl _ _).alloc (Nat.le_refl _) _
              have HS9 := Lib.hid (hS8.below b89)
              have HT9 := Lib.hid (TxtO.of_own (Own.below hT8 b89) ETL.out.symm (by omega) (fun j hj _ => okj.out j hj))
              have HD9 : Hid (ItsO (fun j => okD w gr s2.gA j ∧ u7.ownBlock ≠ some j) (w8.alloc (.cells #[.int .i64 (q : Int), .bool B4, .bool false, .slice At tl ct, .slice none 0 0] 76)) [itv] (.cons (q : Int) B4 false t .nil .nil)) := Lib.hid (by rw [eitv]; exact ItsO.one HT9.out (FoO.nil_ _ _) (by simp [Fo.len]))
              have HR9 := Lib.hid (Rd.lit w8 (cellsI [⟨(q : Int), B4, false, At, tl, ct, none, 0, 0⟩]) 76)
              have hdl : ds.length ≤ 64 := by rw [ItsO.len P ds hS8.out.its]; have := HP.out; omega
              have hm0 : Hid (R0 = cmb (P.app (.cons (q : Int) B4 false t .nil .nil)) (decG m1 s2 d q (c0 + 1))) := Lib.hid (by
                rw [HR.out, decG_item HLT.out EV.out H1.out NF.out HC6.out ET.out H2.out HZ2.out, cmb_cmb, ← EQ.out, ← EB4.out])
              have EW8 := Lib.hid ew8
              have yf3 : w6.frozen? ⟨gi, 3, none⟩ = false := heap_free H6.out _
              have y3 : w6.cell? ⟨gi, 3, none⟩ = some (.slice none 0 0) := by rw [heap_cell H6.out]; rfl
              obtain ⟨p0, p1, p2, p3, p4⟩ : w8.cell? ⟨gi, 0, none⟩ = some (.int .i64 (q : Int)) ∧ w8.cell? ⟨gi, 1, none⟩ = some (.bool B4) ∧ w8.cell? ⟨gi, 2, none⟩ = some (.bool false) ∧ w8.cell? ⟨gi, 3, none⟩ = some (.slice At tl ct) ∧ w8.cell? ⟨gi, 4, none⟩ = some (.slice none 0 0) := by
                refine ⟨?_, ?_, ?_, ?_, ?_⟩ <;> (rw [heap_cell h8]; rfl)
              clear ew8 h8 k68 k8 hS8 hT8 b89 eitv S6 zgi
              go_upto_region 21 with (fail)
              rw [← EW8.out]
              clear z2 yf3 y3
              go_wp2_with (at_builtin; refine wpList_appI _ rfl (.tmp 78) (.tmp 80) rfl 0 _ ds rfl HS9.out.out.row (some ⟨w8.heap.size, 0, none⟩) 1 1 [⟨(q : Int), B4, false, At, tl, ct, none, 0, 0⟩] rfl rfl HR9.out (by omega) (Nat.zero_le _) ?_; intro v12 w12 ho12 hg12 hv12; have HS12 := Lib.hid (HS9.out.more HD9.out (EITV.out ▸ ho12) hg12 hv12); clear ho12 hg12 hv12)
              go_roundw
              case rel => exact ⟨s2, _, _, c0 + 1, q, m1, rfl, HS12, Lib.hid (by have a := HB.out; have b := BT.out; have c := AB.out; have dd := A6.out H1.out; have e := HLT.out; refine ⟨?_, ?_, H2.out, ?_⟩; (rw [b.1, c.1]; omega); (rw [b.1, c.1]; exact a.2.1); (rw [b.1]; exact b.2.2.2.1)), by omega, by omega, hm0, Lib.hid (by rw [Fo.len_app]; simp only [Fo.len]; have := HP.out; omega)⟩
              case measure =>
                have mc := MC.out
                have mn : w12.cell? ⟨bx, 0, none⟩ = some (.int .i64 ((c0 + 1 : Nat) : Int)) := by rw [heap_cell HS12.out.cnt]; rfl
                rw [mc, mn]
                simp [intOf]; omega
            · have e0 : R0.1 = s2.err := by rw [HR.out, decG_text HLT.out EV.out H1.out NF.out HC6.out ND.out ET.out h2]; rfl
              have E0 := Lib.hid e0
              have H2 := Lib.hid h2
              clear h2 e0
              go_wp2_with (fail)
              refine (must_no s2.err H2.out _).mono ?_
              rintro _ wx ⟨rfl, hx⟩; rw [hx]; clear hx wx
              unfold thrown
              go_wp2_with (fail)
              exact ⟨rfl, DlP.bad E0.out H2.out HS6.out.g⟩
        · have e0 : R0.1 = s1.err := by rw [HR.out, decG_var HLT.out EV.out h1]; rfl
          have E0 := Lib.hid e0
          have H1 := Lib.hid h1
          clear h1 e0
          go_wp2_with (fail)
          refine (must_no s1.err H1.out _).mono ?_
          rintro _ wx ⟨rfl, hx⟩; rw [hx]; clear hx wx
          unfold thrown
          go_wp2_with (fail)
          exact ⟨rfl, DlP.bad E0.out H1.out HS3.out.g⟩
end Go.Proofs.Ytcffinkkfdfcaaa

/- What the reference's reader does: Var. Conditions: lengths that fit. -/
namespace Go.Proofs.Ytcffinkkfdfcaaa
open Go Go.RowKit

theorem valL_step {l : List UInt8} {j k : Nat} (hj : j < k) (hk : k ≤ l.length) : valL ((l.take k).drop j) = (l[j]'(by omega)).toNat % 128 + 128 * valL ((l.take k).drop (j + 1)) := by
  rw [List.drop_eq_getElem_cons (by rw [List.length_take]; omega), valL]
  simp

set_option maxRecDepth 100000 in
set_option maxHeartbeats 1000000 in
theorem refVarR_c (A : Option Addr) (c : Nat) (s : RS) (w : World) (h : RsOk w A c s) :
    Calls Try.prog 90 #[rsV A c s] w fun e w' => e = .returned (.tuple #[.int .u64 ((varR s).1 : Int), rsV A c (varR s).2]) ∧ Below w.heap.size w w' := by
  obtain ⟨h1, h2, h3, h4, h5⟩ := h
  by_cases h0 : s.err = 0
  · have hb : (((s.err : Nat) : Int) != 0) = false := by rw [bne_eq_false_iff_eq]; omega
    obtain ⟨l, el⟩ : ∃ l, l = s.b.drop s.at_ := ⟨_, rfl⟩
    have e1 : varR s = match varGo l 0 with
      | .bad e => (0, { s with err := e })
      | .ok n k => (n, { s with at_ := s.at_ + k }) := by rw [varR, if_neg (by omega), el]; rfl
    have hll : l.length + s.at_ = s.b.length := by rw [el, List.length_drop]; omega
    have hcell : ∀ i (hi : i < l.length), ∃ b off, A = some ⟨b, off, none⟩ ∧ b < w.heap.size ∧ w.cell? ⟨b, off + (s.at_ + i), none⟩ = some (.int .u8 ((l[i]).toNat : Int)) := by
      intro i hi
      obtain ⟨b, off, hA, hlt, hc⟩ := h1.addrB (by omega)
      refine ⟨b, off, hA, hlt, ?_⟩
      rw [hc (s.at_ + i) (by omega)]
      subst el
      simp [bv]
    have HC := Lib.hid hcell; clear hcell
    have H0 := Lib.hid h0; clear h0
    clear el h1
    obtain ⟨R, hR⟩ : ∃ R, R = varR s := ⟨_, rfl⟩
    rw [← hR]
    rw [← hR] at e1
    have H1 := Lib.hid e1; clear e1 hR
    unfold rsV
    go_enter Try.func90, Try.ntmps90
    go_wp2
    go_loop [4] (fun i => ∃ (k : Nat), k ≤ 9 ∧ k ≤ l.length ∧ i = .int .i64 k ∧ varGo l 0 = (varGo (l.drop k) k).after (valL (l.take k)) k) (fun i => 10 - (intOf i).toNat)
    case atStart => exact ⟨0, by omega, by omega, rfl, by rw [List.take_zero, show valL [] = 0 from rfl, VR.after_zero]; rfl⟩
    case round =>
      obtain ⟨k, hk9, hkl, rfl, hv⟩ := hrel
      have HV := Lib.hid hv; clear hv
      rcases Nat.lt_or_ge k l.length with hlt | hge
      · have hu : (s.at_ : Int) + (k : Int) < (s.b.length : Int) := by omega
        obtain ⟨b, off, rfl, hbl, hc⟩ := HC.out k hlt
        obtain ⟨d, ed⟩ : ∃ d, d = (l[k]).toNat := ⟨_, rfl⟩
        have hd : d < 256 := by rw [ed]; exact UInt8.toNat_lt _
        rw [← ed] at hc
        have ED := Lib.hid ed; clear ed
        by_cases hbad : badD k d
        · have hv3 : R = (0, { s with err := 3 }) := by rw [H1.out, HV.out, varGo_form' hlt ED.out _ hbad]
          have HV3 := Lib.hid hv3; clear hv3
          rcases hbad with ⟨h9, k1⟩ | ⟨h9, k1⟩
          · have hb9 : (((k : Nat) : Int) == 9) = true := by rw [beq_iff_eq]; omega
            have H9 := Lib.hid h9; clear h9
            go_wp2
            go_region
            all_goals
              go_wp2
              go_returns
              rw [HV3.out]
              exact ⟨rfl, by go_grown⟩
          · have hb9 : (((d : Nat) : Int) == 0) = true := by rw [beq_iff_eq]; omega
            have hb8 : decide ((1 : Int) < (d : Int)) = false := decide_eq_false (by omega)
            have HD1 := Lib.hid k1; clear k1
            go_wp2
            all_goals
              go_region
              all_goals
                go_wp2
                go_returns
                rw [HV3.out]
                exact ⟨rfl, by go_grown⟩
        · have hb1 : ¬ (k = 9 ∧ 1 < d) := fun h => hbad (.inl h)
          have hb2 : ¬ (0 < k ∧ d = 0) := fun h => hbad (.inr h)
          have HB := Lib.hid hbad; clear hbad
          have htk : valL (l.take (k + 1)) = valL (l.take k) + 128 ^ k * (d % 128) := by
            rw [List.take_succ_eq_append_getElem hlt, valL_snoc, List.length_take, Nat.min_eq_left hkl, ← ED.out]
          have HTK := Lib.hid htk; clear htk
          rcases Nat.lt_or_ge d 128 with h8 | h8
          · have hv3 : varGo l 0 = .ok (valL (l.take (k + 1))) (k + 1) := by rw [HV.out, varGo_last' hlt ED.out _ HB.out h8, HTK.out]
            obtain ⟨hu64, hk1, _⟩ := varGo_u64 hv3
            have hv4 : R = (valL (l.take (k + 1)), { s with at_ := s.at_ + (k + 1) }) := by rw [H1.out, hv3]
            have HV4 := Lib.hid hv4; clear hv4 hv3
            have hcase : (k = 9 ∧ (((k : Nat) : Int) == 9) = true ∧ decide ((1 : Int) < (d : Int)) = false ∧ (((d : Nat) : Int) == 0) = false) ∨ ((((k : Nat) : Int) == 9) = false ∧ ¬ 0 < k) ∨ ((((k : Nat) : Int) == 9) = false ∧ (((d : Nat) : Int) == 0) = false) := by
              by_cases h9 : k = 9
              · exact .inl ⟨h9, by rw [beq_iff_eq]; omega, decide_eq_false (by omega), by rw [beq_eq_false_iff_ne]; omega⟩
              · refine .inr ?_
                by_cases h0k : 0 < k
                · exact .inr ⟨by rw [beq_eq_false_iff_ne]; omega, by rw [beq_eq_false_iff_ne]; omega⟩
                · exact .inl ⟨by rw [beq_eq_false_iff_ne]; omega, h0k⟩
            clear hb1 hb2
            have hstep : ∀ j, j < k + 1 → ∃ e : Nat, e < 256 ∧ w.cell? ⟨b, off + (s.at_ + j), none⟩ = some (.int .u8 (e : Int)) ∧ valL ((l.take (k + 1)).drop j) = e % 128 + 128 * valL ((l.take (k + 1)).drop (j + 1)) ∧ U64 (valL ((l.take (k + 1)).drop j)) := by
              intro j hj
              obtain ⟨b', off', hA, _, hc'⟩ := HC.out j (by omega)
              injection hA with hA
              injection hA with hA1 hA2
              subst hA1; subst hA2
              exact ⟨(l[j]).toNat, UInt8.toNat_lt _, hc', valL_step hj hk1, hu64.le (valL_drop_le _ _)⟩
            have HSTEP := Lib.hid hstep; clear hstep
            have hend : valL ((l.take (k + 1)).drop (k + 1)) = 0 := by rw [List.drop_of_length_le (by rw [List.length_take]; omega)]; rfl
            have HEND := Lib.hid hend; clear hend
            rcases hcase with ⟨h9, c1, c2, c3⟩ | ⟨c1, c2⟩ | ⟨c1, c2⟩
            · have hk0 : 0 < k := by omega
              have H9 := Lib.hid h9; clear h9
              go_wp2
              all_goals
                go_loop [6, 7] (fun x i => ∃ j : Nat, j ≤ k + 1 ∧ i = .int .i64 ((j : Int) - 1) ∧ x = .int .u64 ((valL ((l.take (k + 1)).drop j) : Nat) : Int)) (fun x i => (intOf i + 1).toNat)
                case atStart => exact ⟨k + 1, Nat.le_refl _, by go_num, by rw [HEND.out]; rfl⟩
                case round =>
                  obtain ⟨j, hj, rfl, rfl⟩ := hrel
                  rcases Nat.eq_zero_or_pos j with hj0 | hj0
                  · subst hj0
                    go_wp2
                    go_region
                    all_goals
                      go_wp2
                      go_returns
                      rw [HV4.out]
                      refine ⟨?_, by go_grown⟩
                      simp only [Int.natCast_add]
                      rfl
                  · obtain ⟨i, rfl⟩ : ∃ i, j = i + 1 := ⟨j - 1, by omega⟩
                    obtain ⟨e, he, hce, hve, hue⟩ := HSTEP.out i (by omega)
                    obtain ⟨v, hv⟩ : ∃ v, v = valL ((l.take (k + 1)).drop (i + 1)) := ⟨_, rfl⟩
                    rw [← hv] at hve ⊢
                    have hvu := hue.out
                    have hw1 : IntKind.u64.wrap ((v : Int) * 128) = (v : Int) * 128 := IntWalk.u64_in _ ⟨by omega, by omega⟩
                    have hw2 : IntKind.u64.wrap ((v : Int) * 128 + (e : Int) % 128) = (v : Int) * 128 + (e : Int) % 128 := IntWalk.u64_in _ ⟨by omega, by omega⟩
                    have hsi : (s.at_ : Int) + (i : Int) < (s.b.length : Int) := by omega
                    have HVE := Lib.hid hve; clear hve hvu hue
                    have HV2 := Lib.hid hv; clear hv
                    go_wp2
                    go_round
                    case rel => exact ⟨i, by omega, by go_num, by rw [HVE.out]; go_num⟩
                    case measure => simp [intOf]
            · go_wp2
              all_goals
                go_loop [6, 7] (fun x i => ∃ j : Nat, j ≤ k + 1 ∧ i = .int .i64 ((j : Int) - 1) ∧ x = .int .u64 ((valL ((l.take (k + 1)).drop j) : Nat) : Int)) (fun x i => (intOf i + 1).toNat)
                case atStart => exact ⟨k + 1, Nat.le_refl _, by go_num, by rw [HEND.out]; rfl⟩
                case round =>
                  obtain ⟨j, hj, rfl, rfl⟩ := hrel
                  rcases Nat.eq_zero_or_pos j with hj0 | hj0
                  · subst hj0
                    go_wp2
                    go_region
                    all_goals
                      go_wp2
                      go_returns
                      rw [HV4.out]
                      refine ⟨?_, by go_grown⟩
                      simp only [Int.natCast_add]
                      rfl
                  · obtain ⟨i, rfl⟩ : ∃ i, j = i + 1 := ⟨j - 1, by omega⟩
                    obtain ⟨e, he, hce, hve, hue⟩ := HSTEP.out i (by omega)
                    obtain ⟨v, hv⟩ : ∃ v, v = valL ((l.take (k + 1)).drop (i + 1)) := ⟨_, rfl⟩
                    rw [← hv] at hve ⊢
                    have hvu := hue.out
                    have hw1 : IntKind.u64.wrap ((v : Int) * 128) = (v : Int) * 128 := IntWalk.u64_in _ ⟨by omega, by omega⟩
                    have hw2 : IntKind.u64.wrap ((v : Int) * 128 + (e : Int) % 128) = (v : Int) * 128 + (e : Int) % 128 := IntWalk.u64_in _ ⟨by omega, by omega⟩
                    have hsi : (s.at_ : Int) + (i : Int) < (s.b.length : Int) := by omega
                    have HVE := Lib.hid hve; clear hve hvu hue
                    have HV2 := Lib.hid hv; clear hv
                    go_wp2
                    go_round
                    case rel => exact ⟨i, by omega, by go_num, by rw [HVE.out]; go_num⟩
                    case measure => simp [intOf]
            · go_wp2
              all_goals
                go_loop [6, 7] (fun x i => ∃ j : Nat, j ≤ k + 1 ∧ i = .int .i64 ((j : Int) - 1) ∧ x = .int .u64 ((valL ((l.take (k + 1)).drop j) : Nat) : Int)) (fun x i => (intOf i + 1).toNat)
                case atStart => exact ⟨k + 1, Nat.le_refl _, by go_num, by rw [HEND.out]; rfl⟩
                case round =>
                  obtain ⟨j, hj, rfl, rfl⟩ := hrel
                  rcases Nat.eq_zero_or_pos j with hj0 | hj0
                  · subst hj0
                    go_wp2
                    go_region
                    all_goals
                      go_wp2
                      go_returns
                      rw [HV4.out]
                      refine ⟨?_, by go_grown⟩
                      simp only [Int.natCast_add]
                      rfl
                  · obtain ⟨i, rfl⟩ : ∃ i, j = i + 1 := ⟨j - 1, by omega⟩
                    obtain ⟨e, he, hce, hve, hue⟩ := HSTEP.out i (by omega)
                    obtain ⟨v, hv⟩ : ∃ v, v = valL ((l.take (k + 1)).drop (i + 1)) := ⟨_, rfl⟩
                    rw [← hv] at hve ⊢
                    have hvu := hue.out
                    have hw1 : IntKind.u64.wrap ((v : Int) * 128) = (v : Int) * 128 := IntWalk.u64_in _ ⟨by omega, by omega⟩
                    have hw2 : IntKind.u64.wrap ((v : Int) * 128 + (e : Int) % 128) = (v : Int) * 128 + (e : Int) % 128 := IntWalk.u64_in _ ⟨by omega, by omega⟩
                    have hsi : (s.at_ : Int) + (i : Int) < (s.b.length : Int) := by omega
                    have HVE := Lib.hid hve; clear hve hvu hue
                    have HV2 := Lib.hid hv; clear hv
                    go_wp2
                    go_round
                    case rel => exact ⟨i, by omega, by go_num, by rw [HVE.out]; go_num⟩
                    case measure => simp [intOf]
          · have hk9' : k < 9 := by
              rcases Nat.lt_or_ge k 9 with h | h
              · exact h
              · exact absurd ⟨by omega, by omega⟩ hb1
            have hrel : varGo l 0 = (varGo (l.drop (k + 1)) (k + 1)).after (valL (l.take (k + 1))) (k + 1) := by
              rw [HV.out, varGo_more' hlt ED.out _ HB.out h8, HTK.out]
            have HR := Lib.hid hrel; clear hrel
            have hb9 : (((k : Nat) : Int) == 9) = false := by rw [beq_eq_false_iff_ne]; omega
            have hb0 : (((d : Nat) : Int) == 0) = false := by rw [beq_eq_false_iff_ne]; omega
            clear hb1 hb2
            go_wp2
            all_goals
              go_round
              case rel => exact ⟨k + 1, by omega, by omega, by go_num, HR.out⟩
              case measure => simp [intOf]; omega
      · have hv3 : R = (0, { s with err := 2 }) := by rw [H1.out, HV.out, varGo_end hge]
        have HV3 := Lib.hid hv3; clear hv3
        have hu : (s.b.length : Int) ≤ (s.at_ : Int) + (k : Int) := by omega
        go_wp2
        go_region
        all_goals
          go_wp2
          go_returns
          rw [HV3.out]
          exact ⟨rfl, by go_grown⟩
  · have hb : (((s.err : Nat) : Int) != 0) = true := by rw [bne_iff_ne]; omega
    have e1 : varR s = (0, s) := if_pos h0
    rw [e1]
    clear e1
    have H0 := Lib.hid h0; clear h0
    unfold rsV
    go_enter Try.func90, Try.ntmps90
    go_wp2
    go_region
    all_goals
      go_wp2
      go_returns
      exact ⟨rfl, by go_grown⟩
end Go.Proofs.Ytcffinkkfdfcaaa

/- What the reference's reader does: Text. Conditions: lengths that fit. -/
namespace Go.Proofs.Ytcffinkkfdfcaaa
open Go Go.RowKit

theorem varR_b (s : RS) : (varR s).2.b = s.b := by
  unfold varR
  split
  · rfl
  · split <;> rfl
theorem varR_at (s : RS) (h : s.at_ ≤ s.b.length) : (varR s).2.at_ ≤ s.b.length := by
  unfold varR
  split
  · exact h
  · split
    · exact h
    · rename_i n k hg
      have := (varGo_u64 hg).2.1
      rw [List.length_drop] at this
      show s.at_ + k ≤ _
      omega

set_option maxRecDepth 100000 in
set_option maxHeartbeats 1000000 in
theorem refText_no (A : Option Addr) (c : Nat) (s s1 : RS) (n : Nat) (most : Int) (E : Nat) (w : World) (h : RsOk w A c s) (hv : varR s = (n, s1)) (hm : (Lit.int .i64 most).wf = true)
    (hE : (s1.err ≠ 0 ∧ E = s1.err) ∨ (s1.err = 0 ∧ most < 0 ∧ E = 4) ∨ (s1.err = 0 ∧ 0 ≤ most ∧ most < (n : Int) ∧ E = 4) ∨ (s1.err = 0 ∧ 0 ≤ most ∧ (n : Int) ≤ most ∧ s1.b.length < s1.at_ + n ∧ E = 2)) :
    Calls Try.prog 94 #[rsV A c s, .int .i64 most] w fun e w' => e = .returned (.tuple #[.slice none 0 0, rsV A c { s with err := E }]) ∧ Below w.heap.size w w' := by
  have h' := h
  obtain ⟨h1, h2, h3, h4, h5⟩ := h
  obtain ⟨hm1, hm2⟩ := bounds_i64 hm
  have hsb : s1.b = s.b := by have := varR_b s; rw [hv] at this; exact this
  have hsa : s1.at_ ≤ s.b.length := by have := varR_at s h4; rw [hv] at this; exact this
  have hV := fun (w : World) (hh : RsOk w A c s) => refVarR_c A c s w hh
  rw [hv] at hV
  unfold rsV at hV
  simp only [hsb] at hV hE
  have HV := Lib.hid hV; clear hV hv
  have hR : ∀ o1 o2, RsOk ((w.alloc o1).alloc o2) A c s := fun o1 o2 => ⟨(h1.alloc o1).alloc o2, h2, h3, h4, h5⟩
  have HR := Lib.hid hR; clear hR h' h1
  have HSB := Lib.hid hsb; clear hsb
  unfold rsV
  rcases hE with ⟨he, rfl⟩ | ⟨he, hl, rfl⟩ | ⟨he, hl0, hl, rfl⟩ | ⟨he, hl0, hl1, hl, rfl⟩
  · have e0 : (((s1.err : Nat) : Int) != 0) = true := by rw [bne_iff_ne]; omega
    clear he
    go_enter Try.func94, Try.ntmps94
    go_wp2_with (fail)
    refine (HV.out _ (HR.out _ _)).mono ?_
    rintro e w1 ⟨rfl, hb1⟩
    have z := hb1.size
    simp only [World.size_alloc] at z hb1
    have x0 := box3 ((hb1.block w.heap.size (by omega)).trans (heap2_old w _ _))
    have x1 := box3 ((hb1.block (w.heap.size + 1) (by omega)).trans (heap2_new w _ _))
    obtain ⟨⟨a0, a1, a2⟩, b0, b1, b2⟩ := x0
    obtain ⟨⟨d0, d1, d2⟩, f0, f1, f2⟩ := x1
    have hB : Below w.heap.size w w1 := (((Below.refl _ _).alloc (Nat.le_refl _) _).alloc (by simp) _).trans (hb1.mono (by omega))
    have z1 : w.heap.size < w1.heap.size := by omega
    have z2 : w.heap.size + 1 < w1.heap.size := by omega
    have hsub := IntWalk.u64_in ((s.b.length : Int) - (s1.at_ : Int)) ⟨by omega, by omega⟩
    go_wp2_with (fail)
    go_region
    all_goals
      go_wp2
      refine bodyPost_ret (v := .tuple #[.slice none 0 0, .agg #[.slice A s.b.length c, .int .i64 (s.at_ : Int), .int .i64 (s1.err : Int)]]) (by simp [results, Try.results94, go_sem, d0, d1, d2, z2]) rfl ?_
      exact ⟨rfl, by go_grown⟩
  · have e0 : (((s1.err : Nat) : Int) != 0) = false := by rw [bne_eq_false_iff_eq]; omega
    clear he
    go_enter Try.func94, Try.ntmps94
    go_wp2_with (fail)
    refine (HV.out _ (HR.out _ _)).mono ?_
    rintro e w1 ⟨rfl, hb1⟩
    have z := hb1.size
    simp only [World.size_alloc] at z hb1
    have x0 := box3 ((hb1.block w.heap.size (by omega)).trans (heap2_old w _ _))
    have x1 := box3 ((hb1.block (w.heap.size + 1) (by omega)).trans (heap2_new w _ _))
    obtain ⟨⟨a0, a1, a2⟩, b0, b1, b2⟩ := x0
    obtain ⟨⟨d0, d1, d2⟩, f0, f1, f2⟩ := x1
    have hB : Below w.heap.size w w1 := (((Below.refl _ _).alloc (Nat.le_refl _) _).alloc (by simp) _).trans (hb1.mono (by omega))
    have z1 : w.heap.size < w1.heap.size := by omega
    have z2 : w.heap.size + 1 < w1.heap.size := by omega
    have hsub := IntWalk.u64_in ((s.b.length : Int) - (s1.at_ : Int)) ⟨by omega, by omega⟩
    go_wp2_with (fail)
    go_region
    all_goals
      go_wp2
      refine bodyPost_ret (v := .tuple #[.slice none 0 0, .agg #[.slice A s.b.length c, .int .i64 (s.at_ : Int), .int .i64 (4 : Int)]]) (by simp [results, Try.results94, go_sem, d0, d1, d2, z2]) rfl ?_
      exact ⟨rfl, by go_grown⟩
  · have e0 : (((s1.err : Nat) : Int) != 0) = false := by rw [bne_eq_false_iff_eq]; omega
    clear he
    go_enter Try.func94, Try.ntmps94
    go_wp2_with (fail)
    refine (HV.out _ (HR.out _ _)).mono ?_
    rintro e w1 ⟨rfl, hb1⟩
    have z := hb1.size
    simp only [World.size_alloc] at z hb1
    have x0 := box3 ((hb1.block w.heap.size (by omega)).trans (heap2_old w _ _))
    have x1 := box3 ((hb1.block (w.heap.size + 1) (by omega)).trans (heap2_new w _ _))
    obtain ⟨⟨a0, a1, a2⟩, b0, b1, b2⟩ := x0
    obtain ⟨⟨d0, d1, d2⟩, f0, f1, f2⟩ := x1
    have hB : Below w.heap.size w w1 := (((Below.refl _ _).alloc (Nat.le_refl _) _).alloc (by simp) _).trans (hb1.mono (by omega))
    have z1 : w.heap.size < w1.heap.size := by omega
    have z2 : w.heap.size + 1 < w1.heap.size := by omega
    have hsub := IntWalk.u64_in ((s.b.length : Int) - (s1.at_ : Int)) ⟨by omega, by omega⟩
    go_wp2_with (fail)
    go_region
    all_goals
      go_wp2
      refine bodyPost_ret (v := .tuple #[.slice none 0 0, .agg #[.slice A s.b.length c, .int .i64 (s.at_ : Int), .int .i64 (4 : Int)]]) (by simp [results, Try.results94, go_sem, d0, d1, d2, z2]) rfl ?_
      exact ⟨rfl, by go_grown⟩
  · have e0 : (((s1.err : Nat) : Int) != 0) = false := by rw [bne_eq_false_iff_eq]; omega
    clear he
    have hl' : (s.b.length : Int) - (s1.at_ : Int) < (n : Int) := by omega
    go_enter Try.func94, Try.ntmps94
    go_wp2_with (fail)
    refine (HV.out _ (HR.out _ _)).mono ?_
    rintro e w1 ⟨rfl, hb1⟩
    have z := hb1.size
    simp only [World.size_alloc] at z hb1
    have x0 := box3 ((hb1.block w.heap.size (by omega)).trans (heap2_old w _ _))
    have x1 := box3 ((hb1.block (w.heap.size + 1) (by omega)).trans (heap2_new w _ _))
    obtain ⟨⟨a0, a1, a2⟩, b0, b1, b2⟩ := x0
    obtain ⟨⟨d0, d1, d2⟩, f0, f1, f2⟩ := x1
    have hB : Below w.heap.size w w1 := (((Below.refl _ _).alloc (Nat.le_refl _) _).alloc (by simp) _).trans (hb1.mono (by omega))
    have z1 : w.heap.size < w1.heap.size := by omega
    have z2 : w.heap.size + 1 < w1.heap.size := by omega
    have hsub := IntWalk.u64_in ((s.b.length : Int) - (s1.at_ : Int)) ⟨by omega, by omega⟩
    go_wp2_with (fail)
    go_region
    all_goals
      go_wp2
      refine bodyPost_ret (v := .tuple #[.slice none 0 0, .agg #[.slice A s.b.length c, .int .i64 (s.at_ : Int), .int .i64 (2 : Int)]]) (by simp [results, Try.results94, go_sem, d0, d1, d2, z2]) rfl ?_
      exact ⟨rfl, by go_grown⟩

set_option maxRecDepth 100000 in
set_option maxHeartbeats 1000000 in
theorem refText_yes (A : Option Addr) (c : Nat) (s s1 : RS) (n : Nat) (most : Int) (w : World) (h : RsOk w A c s) (hv : varR s = (n, s1)) (hm : (Lit.int .i64 most).wf = true)
    (he : s1.err = 0) (hl0 : 0 ≤ most) (hl1 : (n : Int) ≤ most) (hl : s1.at_ + n ≤ s1.b.length) :
    Calls Try.prog 94 #[rsV A c s, .int .i64 most] w fun e w' => ∃ v, e = .returned (.tuple #[v, rsV A c { s1 with at_ := s1.at_ + n }]) ∧ OwnB w' w.heap.size v ((s1.b.drop s1.at_).take n) ∧ Below w.heap.size w w' := by
  obtain ⟨h1, h2, h3, h4, h5⟩ := h
  obtain ⟨hm1, hm2⟩ := bounds_i64 hm
  have hsb : s1.b = s.b := by have := varR_b s; rw [hv] at this; exact this
  have hsa : s1.at_ ≤ s.b.length := by have := varR_at s h4; rw [hv] at this; exact this
  have hV := fun (w : World) (hh : RsOk w A c s) => refVarR_c A c s w hh
  rw [hv] at hV
  have ht : takeR s1 (n : Int) = ((s1.b.drop s1.at_).take n, { s1 with at_ := s1.at_ + n }) := by
    rw [takeR, if_neg (by omega), if_neg (by omega), if_neg (by omega)]; rfl
  have hT := fun (w : World) (hh : RsOk w A c s1) => refTake_c A c s1 (n : Int) w hh (WalkArith.wf_i64 (by omega))
  rw [ht] at hT
  unfold rsV at hV hT
  simp only [hsb] at hV hT hl
  have HV := Lib.hid hV; clear hV hv ht
  have HT := Lib.hid hT; clear hT
  have hR : ∀ o1 o2, RsOk ((w.alloc o1).alloc o2) A c s := fun o1 o2 => ⟨(h1.alloc o1).alloc o2, h2, h3, h4, h5⟩
  have hR1 : ∀ w1, Below w.heap.size w w1 → RsOk w1 A c s1 := fun w1 hb => ⟨by rw [hsb]; exact h1.below hb, by rw [hsb]; exact h2, h3, by rw [hsb]; exact hsa, by rw [hsb]; exact h5⟩
  have HR := Lib.hid hR; clear hR h1
  have HR1 := Lib.hid hR1; clear hR1
  have e0 : (((s1.err : Nat) : Int) != 0) = false := by rw [bne_eq_false_iff_eq]; omega
  have hl' : (n : Int) ≤ (s.b.length : Int) - (s1.at_ : Int) := by omega
  unfold rsV
  simp only [hsb]
  have HSB := Lib.hid hsb; clear hsb he
  go_enter Try.func94, Try.ntmps94
  go_wp2_with (fail)
  refine (HV.out _ (HR.out _ _)).mono ?_
  rintro e w1 ⟨rfl, hb1⟩
  have z := hb1.size
  simp only [World.size_alloc] at z hb1
  have x0 := box3 ((hb1.block w.heap.size (by omega)).trans (heap2_old w _ _))
  obtain ⟨⟨a0, a1, a2⟩, b0, b1, b2⟩ := x0
  have hB : Below w.heap.size w w1 := (((Below.refl _ _).alloc (Nat.le_refl _) _).alloc (by simp) _).trans (hb1.mono (by omega))
  have z1 : w.heap.size < w1.heap.size := by omega
  have z2 : w.heap.size + 1 < w1.heap.size := by omega
  have hsub := IntWalk.u64_in ((s.b.length : Int) - (s1.at_ : Int)) ⟨by omega, by omega⟩
  go_wp2_with (fail)
  have hBa : Below w.heap.size w (w1.alloc (.cells #[.slice A s.b.length c, .int .i64 (s1.at_ : Int), .int .i64 (s1.err : Int)] 152)) := hB.alloc hB.size _
  refine (HT.out _ (HR1.out _ hBa)).mono ?_
  rintro e w2 ⟨v, rfl, ho, hb2⟩
  have y := hb2.size
  simp only [World.size_alloc] at y hb2 ho
  have x1 := box3 ((hb2.block (w.heap.size + 1) (by omega)).trans ((Below.heap_alloc _ _ _ z2).trans ((hb1.block (w.heap.size + 1) (by omega)).trans (heap2_new w _ _))))
  obtain ⟨⟨d0, d1, d2⟩, f0, f1, f2⟩ := x1
  have hB2 : Below w.heap.size w w2 := hBa.trans (hb2.mono (by omega))
  have HO := Lib.hid ho; clear ho
  go_wp2_with (fail)
  refine bodyPost_ret (v := .tuple #[v, .agg #[.slice A s.b.length c, .int .i64 ((s1.at_ + n : Nat) : Int), .int .i64 (s1.err : Int)]]) (by simp [results, Try.results94, go_sem, d0, d1, d2]) rfl ?_
  refine ⟨v, rfl, ?_, by go_grown⟩
  exact Own.low (Own.setBelow (Own.setBelow (Own.setBelow HO.out (by show w.heap.size + 1 < _; omega) _) (by show w.heap.size + 1 < _; omega) _) (by show w.heap.size + 1 < _; omega) _) (by omega)

theorem refTextR_c (A : Option Addr) (c : Nat) (s : RS) (most : Int) (w : World) (h : RsOk w A c s) (hm : (Lit.int .i64 most).wf = true) :
    Calls Try.prog 94 #[rsV A c s, .int .i64 most] w fun e w' => ∃ v, e = .returned (.tuple #[v, rsV A c (textR s most).2]) ∧ OwnB w' w.heap.size v (textR s most).1 ∧ Below w.heap.size w w' := by
  by_cases h0 : s.err = 0
  · cases hg : varGo (s.b.drop s.at_) 0 with
    | bad e =>
      have hv : varR s = (0, { s with err := e }) := by rw [varR, if_neg (by omega), hg]
      have ht : textR s most = ([], { s with err := e }) := by rw [textR, if_neg (by omega), hg]
      rw [ht]
      refine (refText_no A c s _ 0 most e w h hv hm (.inl ⟨by rcases varGo_err hg with rfl | rfl <;> simp, rfl⟩)).mono ?_
      rintro e w' ⟨rfl, h1⟩
      exact ⟨_, rfl, Own.nil_ _ _ _, h1⟩
    | ok n k =>
      have hv : varR s = (n, { s with at_ := s.at_ + k }) := by rw [varR, if_neg (by omega), hg]
      by_cases hl : most < 0 ∨ most < (n : Int)
      · have ht : textR s most = ([], { s with err := 4 }) := by rw [textR, if_neg (by omega), hg]; exact if_pos hl
        rw [ht]
        refine (refText_no A c s _ n most 4 w h hv hm (by
          rcases Int.lt_or_le most 0 with hq | hq
          · exact .inr (.inl ⟨h0, hq, rfl⟩)
          · exact .inr (.inr (.inl ⟨h0, hq, by omega, rfl⟩)))).mono ?_
        rintro e w' ⟨rfl, h1⟩
        exact ⟨_, rfl, Own.nil_ _ _ _, h1⟩
      · by_cases hs : s.b.length < s.at_ + k + n
        · have ht : textR s most = ([], { s with err := 2 }) := by rw [textR, if_neg (by omega), hg]; exact (if_neg hl).trans (if_pos hs)
          rw [ht]
          refine (refText_no A c s _ n most 2 w h hv hm (.inr (.inr (.inr ⟨h0, by omega, by omega, hs, rfl⟩)))).mono ?_
          rintro e w' ⟨rfl, h1⟩
          exact ⟨_, rfl, Own.nil_ _ _ _, h1⟩
        · have ht : textR s most = ((s.b.drop (s.at_ + k)).take n, { s with at_ := s.at_ + k + n }) := by rw [textR, if_neg (by omega), hg]; exact (if_neg hl).trans (if_neg hs)
          rw [ht]
          exact refText_yes A c s _ n most w h hv hm h0 (by omega) (by omega) (by show s.at_ + k + n ≤ s.b.length; omega)
  · have hv : varR s = (0, s) := if_pos h0
    have ht : textR s most = ([], s) := if_pos h0
    rw [ht]
    refine (refText_no A c s s 0 most s.err w h hv hm (.inl ⟨h0, rfl⟩)).mono ?_
    rintro e w' ⟨rfl, h1⟩
    exact ⟨_, rfl, Own.nil_ _ _ _, h1⟩
end Go.Proofs.Ytcffinkkfdfcaaa

/- The reference's reader in a block: three cells read and stored. Conditions: none. -/
namespace Go.Proofs.Ytcffinkkfdfcaaa
open Go Go.RowKit

/-- Three cells stored. -/
def set3 (w : World) (g : Nat) (u0 u1 u2 : Value) : World := ((w.setCell ⟨g, 0, none⟩ u0).setCell ⟨g, 1, none⟩ u1).setCell ⟨g, 2, none⟩ u2
theorem set3_heap {w : World} {g : Nat} {a0 a1 a2 u0 u1 u2 : Value} {t : TypeId} (h : w.heap[g]? = some (.cells #[a0, a1, a2] t (0, 0))) : (set3 w g u0 u1 u2).heap[g]? = some (.cells #[u0, u1, u2] t (0, 0)) := by
  unfold set3
  have h1 := heap_set h 0 u0
  have h2 := heap_set h1 1 u1
  have h3 := heap_set h2 2 u2
  rw [h3]
  rfl
theorem set3_keeps (w : World) (g : Nat) (u0 u1 u2 : Value) : Keeps (fun j => j = g) w (set3 w g u0 u1 u2) :=
  ((Keeps.set (fun j => j = g) w ⟨g, 0, none⟩ u0 rfl).trans (Keeps.set _ _ ⟨g, 1, none⟩ u1 rfl)).trans (Keeps.set _ _ ⟨g, 2, none⟩ u2 rfl)
theorem below_keeps {w0 w w' : World} {S : Nat → Prop} (h : Below w0.heap.size w0 w) (hk : Keeps S w w') (hS : ∀ j, S j → w0.heap.size ≤ j) : Below w0.heap.size w0 w' :=
  h.trans (hk.below (fun j hj => ⟨Nat.lt_of_lt_of_le hj h.size, fun e => by have := hS j e; omega⟩))
/-- A reader's three cells in a block. -/
def RdB (w : World) (g : Nat) (A : Option Addr) (c : Nat) (s : RS) : Prop := w.heap[g]? = some (.cells #[.slice A s.b.length c, .int .i64 (s.at_ : Int), .int .i64 (s.err : Int)] 152 (0, 0))
theorem RdB.cells {w : World} {g c : Nat} {A : Option Addr} {s : RS} (h : RdB w g A c s) : (w.cell? ⟨g, 0, none⟩ = some (.slice A s.b.length c) ∧ w.cell? ⟨g, 1, none⟩ = some (.int .i64 (s.at_ : Int)) ∧ w.cell? ⟨g, 2, none⟩ = some (.int .i64 (s.err : Int))) ∧ w.frozen? ⟨g, 0, none⟩ = false ∧ w.frozen? ⟨g, 1, none⟩ = false ∧ w.frozen? ⟨g, 2, none⟩ = false := box3 h
theorem RsOk.below2 {w w' : World} {A : Option Addr} {c : Nat} {s : RS} (h : RsOk w A c s) (hb : Below w.heap.size w w') : RsOk w' A c s := ⟨h.1.below hb, h.2⟩
end Go.Proofs.Ytcffinkkfdfcaaa

/- The world within the reference's reading of a list of items. Conditions: a reader. -/
namespace Go.Proofs.Ytcffinkkfdfcaaa
open Go Go.RowKit

structure LsS (w0 : World) (g7 : Nat) (A : Option Addr) (c : Nat) (s : RS) (v : Value) (ds : List ItV) (P : Fo) (w : World) : Prop where
  ok0 : RsOk w0 A c s
  b7 : RdB w g7 A c s
  out : FoP (fun j => w0.heap.size ≤ j ∧ j ≠ g7) w v ds P
  bel : Below w0.heap.size w0 w
  lo : w0.heap.size ≤ g7
section
variable {w0 w w' : World} {g7 c : Nat} {A : Option Addr} {s s' : RS} {v v' : Value} {ds : List ItV} {P : Fo}
theorem LsS.ok (h : LsS w0 g7 A c s v ds P w) : RsOk w A c s := h.ok0.below2 h.bel
theorem LsS.below (h : LsS w0 g7 A c s v ds P w) (hb : Below w.heap.size w w') : LsS w0 g7 A c s v ds P w' :=
  ⟨h.ok0, (hb.block g7 (heap_lt h.b7)).trans h.b7, h.out.below hb, h.bel.trans (hb.mono h.bel.size), h.lo⟩
theorem LsS.setR (h : LsS w0 g7 A c s v ds P w) (hs : RsOk w0 A c s') : LsS w0 g7 A c s' v ds P (set3 w g7 (.slice A s'.b.length c) (.int .i64 (s'.at_ : Int)) (.int .i64 (s'.err : Int))) := by
  have hl := h.lo
  have hk := set3_keeps w g7 (.slice A s'.b.length c) (.int .i64 (s'.at_ : Int)) (.int .i64 (s'.err : Int))
  exact ⟨hs, set3_heap h.b7, h.out.frame (fun j hj hl => hk.block j hl hj.2), below_keeps h.bel hk (fun j e => by omega), h.lo⟩
/-- A store into a newer block that the list does not have. -/
theorem LsS.far (h : LsS w0 g7 A c s v ds P w) {S : Nat → Prop} (hk : Keeps S w w') (hS : ∀ j, S j → g7 < j) (ho : FoP (fun j => w0.heap.size ≤ j ∧ j ≠ g7) w' v ds P) : LsS w0 g7 A c s v ds P w' :=
  ⟨h.ok0, (hk.block g7 (heap_lt h.b7) (fun e => by have := hS g7 e; omega)).trans h.b7, ho, below_keeps h.bel hk (fun j e => by have := hS j e; have := h.lo; omega), h.lo⟩
theorem LsS.more (h : LsS w0 g7 A c s v ds P w) {d : ItV} {R : Fo} (hd : ItsO (fun j => (w0.heap.size ≤ j ∧ j ≠ g7) ∧ v.ownBlock ≠ some j) w [d] R) (ho : OwnI w' 0 v' (ds ++ [d])) (hg : w.grownBy w' v.ownBlock) (hv : v'.ownBlock = v.ownBlock ∨ v'.ownBlock = some w.heap.size) :
    LsS w0 g7 A c s v' (ds ++ [d]) (P.app R) w' := by
  have hk : Keeps (fun j => v.ownBlock = some j) w w' := Keeps.of_grown hg _ (fun j hj => hj)
  have h7 := heap_lt h.b7
  have hz := h.bel.size
  exact ⟨h.ok0, (hk.block g7 h7 (fun e' => (h.out.ok_ g7 e').2 rfl)).trans h.b7, h.out.more hd ho hg hv ⟨hz, by omega⟩, below_keeps h.bel hk (fun j e' => (h.out.ok_ j e').1), h.lo⟩
end
/-- What the reference's list answers. -/
def LsP (w : World) (R : Nat × Fo × Nat) (r : Ending) (w' : World) : Prop := ∃ v c2, r = .returned (.tuple #[v, .int .i64 c2, .int .i64 (R.1 : Int)]) ∧ (R.1 = 0 → c2 = ((R.2.2 : Nat) : Int)) ∧ FoO (w.heap.size ≤ ·) w' v (if R.1 = 0 then R.2.1 else .nil) ∧ Below w.heap.size w w'
theorem LsP.bad {w w' : World} {R : Nat × Fo × Nat} {r : Ending} {e : Nat} (c2 : Int) (hR : R.1 = e) (he : e ≠ 0) (hr : r = .returned (.tuple #[.slice none 0 0, .int .i64 c2, .int .i64 (e : Int)])) (hb : Below w.heap.size w w') : LsP w R r w' := by
  refine ⟨_, c2, by rw [hR]; exact hr, fun h => absurd (hR.symm.trans h) he, ?_, hb⟩
  rw [if_neg (by rw [hR]; exact he)]
  exact FoO.nil_ _ _
end Go.Proofs.Ytcffinkkfdfcaaa

/- What the reference's list answers: the items of bytes, or an error. Conditions: depth 1 to 4; at most 64 items ahead. -/
namespace Go.Proofs.Ytcffinkkfdfcaaa
open Go Go.RowKit

set_option maxRecDepth 100000 in
set_option maxHeartbeats 8000000 in
theorem refList_c : ∀ (N : Nat) (bs : List UInt8), bs.length = N → ∀ (m : Nat) (d : Int) (cnt : Nat), N < m → 1 ≤ d → d ≤ 4 → cnt ≤ 64 → ∀ (A : Option Addr) (n c : Nat) (w : World), N = n → Rd w A (bs.map bv) → n ≤ c → c ≤ maxLen → n ≤ 140737488355328 →
    Calls Try.prog 89 #[.slice A n c, .int .i64 d, .int .i64 (cnt : Int)] w (LsP w (decG m ⟨bs, 0, 0, none⟩ d 0 cnt)) := by
  intro N
  induction N using Nat.strongRecOn with
  | _ N ih =>
    intro bs hN m d cnt hm hd1 hd4 hcnt A n c w hn hr hc hcm hl
    have IH := Lib.hid ih; clear ih
    have HN := Lib.hid (hN.trans hn); clear hN
    have HNN := Lib.hid hn; clear hn
    have HM := Lib.hid hm; clear hm
    obtain ⟨R0, eR0⟩ : ∃ R0, R0 = decG m ⟨bs, 0, 0, none⟩ d 0 cnt := ⟨_, rfl⟩
    rw [← eR0]
    have ER0 := Lib.hid eR0; clear eR0
    have OK0 : Hid (RsOk w A c ⟨bs, 0, 0, none⟩) := Lib.hid ⟨hr, by show bs.length ≤ c; rw [HN.out]; exact hc, hcm, Nat.zero_le _, by show bs.length ≤ _; rw [HN.out]; exact hl⟩
    clear hr hc hcm
    obtain ⟨w1, ew1⟩ : ∃ w1, w1 = (w.alloc (.cells #[] 76)).alloc (.cells #[.slice A n c, .int .i64 0, .int .i64 0] 152) := ⟨_, rfl⟩
    have hS1 : LsS w (w.heap.size + 1) A c ⟨bs, 0, 0, none⟩ (.slice (some ⟨w.heap.size, 0, none⟩) 0 0) [] .nil w1 := by
      refine ⟨OK0.out, ?_, ⟨?_, ?_, rfl⟩, ?_, by omega⟩
      · unfold RdB
        rw [ew1, heap2_new]
        simp only [HN.out]
        rfl
      · rw [ew1]
        exact (World.ownsRow_made w #[] 0 (Nat.zero_le _) (Nat.zero_le _) rfl).alloc _
      · intro g e
        injection e with e
        subst e
        exact ⟨Nat.le_refl _, by show w.heap.size ≠ w.heap.size + 1; omega⟩
      · rw [ew1]; exact ((Below.refl _ _).alloc (Nat.le_refl _) _).alloc (by simp) _
    have HS1 := Lib.hid hS1
    have EW1 := Lib.hid ew1
    clear hS1 ew1
    obtain ⟨g7, eg7⟩ : ∃ g7, g7 = w.heap.size + 1 := ⟨_, rfl⟩
    rw [← eg7] at HS1
    have EG7 := Lib.hid eg7
    clear eg7
    go_enter Try.func89, Try.ntmps89
    go_wp2_with (fail)
    rw [← EW1.out, ← EG7.out]
    go_loopw [2, 9, 11] (fun cc o a wr => ∃ (s : RS) (v : Value) (ds : List ItV) (P : Fo) (c0 ah m' : Nat), cc = .int .i64 (c0 : Int) ∧ o = v ∧ a = .int .u64 (ah : Int) ∧ Hid (LsS w g7 A c s v ds P wr) ∧ Hid (s.b.length - s.at_ < m' ∧ s.b.length = n ∧ s.err = 0 ∧ s.gA = none) ∧ c0 ≤ 64 ∧ ah ≤ 1000 ∧ Hid (R0 = cmb P (decG m' s d ah c0)) ∧ Hid (P.len ≤ c0)) (fun cc _ _ _ => 64 - (intOf cc).toNat)
    case atStart => exact ⟨⟨bs, 0, 0, none⟩, _, [], .nil, cnt, 0, m, rfl, rfl, rfl, HS1, Lib.hid ⟨by have := HM.out; have := HN.out; have := HNN.out; simp only; omega, HN.out, rfl, rfl⟩, hcnt, by omega, Lib.hid ER0.out, Lib.hid (by simp [Fo.len])⟩
    case round =>
      obtain ⟨s, v, ds, P, c0, ah, m', rfl, rfl, rfl, HS, HB, hc0, hah, HR, HP⟩ := hrel
      obtain ⟨hB1, hB2, hB3, hB4⟩ := HB.out
      obtain ⟨nn, s1, eV⟩ : ∃ nn s1, varR s = (nn, s1) := ⟨_, _, rfl⟩
      obtain ⟨a1, a2, a3, a4, a5, a6⟩ := varR_step eV hB3 HS.out.ok0.2.2.2.1
      have hat : s.at_ ≤ s.b.length := HS.out.ok0.2.2.2.1
      have EV := Lib.hid eV
      have A6 := Lib.hid a6
      have OK1 : Hid (RsOk w A c s1) := Lib.hid ⟨by rw [a1]; exact HS.out.ok0.1, by rw [a1]; exact HS.out.ok0.2.1, HS.out.ok0.2.2.1, by rw [a1]; exact a4, by rw [a1]; exact HS.out.ok0.2.2.2.2⟩
      have AB := Lib.hid (And.intro a1 (And.intro a2 (And.intro a3 a4)))
      clear eV a6 a1 a2 a3 a4 hB3 hB4
      obtain ⟨⟨x0, x1, x2⟩, xf0, xf1, xf2⟩ := HS.out.b7.cells
      obtain ⟨lf, elf⟩ : ∃ lf, lf = s.b.length - s.at_ := ⟨_, rfl⟩
      have hlf : lf ≤ 140737488355328 := by omega
      have ELF := Lib.hid elf
      have rl := refLeft_c A c s wr HS.out.ok
      rw [← elf] at rl
      unfold rsV at rl
      have RL := Lib.hid rl
      clear elf rl hat
      obtain ⟨m1, rfl⟩ : ∃ m1, m' = m1 + 1 := ⟨m' - 1, by omega⟩
      clear hB1 hB2
      go_wp2_with (fail)
      refine RL.out.mono ?_
      rintro e w2 ⟨rfl, hb2⟩
      have HS2 := Lib.hid (HS.out.below hb2)
      clear hb2 RL HS x0 x1 x2 xf0 xf1 xf2
      rcases Nat.eq_zero_or_pos lf with h0 | h0
      · have d0 : decide ((0 : Int) < (lf : Int)) = false := decide_eq_false (by omega)
        have d0' : decide (0 < lf) = false := decide_eq_false (by omega)
        have e0 : R0 = (0, P, c0) := by rw [HR.out, decG_end (by have := ELF.out; omega), cmb, Fo.app_nil]
        have E0 := Lib.hid e0
        clear h0 e0
        go_wp2_with (fail)
        go_ret3
        exact ⟨_, _, by rw [E0.out]; rfl, fun _ => by rw [E0.out], by rw [E0.out]; exact HS2.out.out.o.weak (fun _ hj _ => hj.1), HS2.out.bel⟩
      · have d0 : decide ((0 : Int) < (lf : Int)) = true := decide_eq_true (by omega)
        have d0' : decide (0 < lf) = true := decide_eq_true (by omega)
        have hlt : s.at_ < s.b.length := by have := ELF.out; omega
        have HLT := Lib.hid hlt
        obtain ⟨⟨x0, x1, x2⟩, xf0, xf1, xf2⟩ := HS2.out.b7.cells
        have rv := refVarR_c A c s w2 HS2.out.ok
        rw [EV.out] at rv
        unfold rsV at rv
        have RV := Lib.hid rv
        clear h0 hlt rv
        go_wp2_with (fail)
        refine RV.out.mono ?_
        rintro e w3 ⟨rfl, hb3⟩
        dsimp only
        have HS3 := Lib.hid (HS2.out.below hb3)
        clear hb3 RV HS2 x0 x1 x2 xf0 xf1 xf2 d0 d0'
        obtain ⟨⟨x0, x1, x2⟩, xf0, xf1, xf2⟩ := HS3.out.b7.cells
        obtain ⟨w4, ew4⟩ : ∃ w4, w4 = set3 w3 g7 (.slice A s1.b.length c) (.int .i64 (s1.at_ : Int)) (.int .i64 (s1.err : Int)) := ⟨_, rfl⟩
        have HS4 := Lib.hid (ew4 ▸ HS3.out.setR OK1.out)
        unfold set3 at ew4
        have EW4 := Lib.hid ew4; clear ew4
        go_upto_region 7 with (fail)
        rw [← EW4.out]
        clear x0 x1 x2 xf0 xf1 xf2 EW4 HS3
        obtain ⟨⟨x0, x1, x2⟩, xf0, xf1, xf2⟩ := HS4.out.b7.cells
        by_cases h1 : s1.err = 0
        · have h1e : ((s1.err : Int) != 0) = false := by rw [bne_eq_false_iff_eq]; omega
          have H1 := Lib.hid h1; clear h1
          obtain ⟨q, eq⟩ : ∃ q, q = nn / 4 := ⟨_, rfl⟩
          obtain ⟨r2, er2⟩ : ∃ r2, r2 = nn % 2 := ⟨_, rfl⟩
          obtain ⟨r4, er4⟩ : ∃ r4, r4 = nn % 4 := ⟨_, rfl⟩
          have wq : IntKind.u64.wrap ((nn : Int) / 4) = (q : Int) := by
            rw [show (nn : Int) / 4 = ((nn / 4 : Nat) : Int) by omega, eq]; exact u64_wrapN (by unfold U64 at *; omega)
          have m2 : (nn : Int) % 2 = (r2 : Int) := by omega
          have m4 : (nn : Int) % 4 = (r4 : Int) := by omega
          have hr2 : r2 ≤ 1 := by omega
          have EQ := Lib.hid eq
          have ER2 := Lib.hid er2
          have ER4 := Lib.hid er4
          clear eq er2 er4
          have bad : Hid (∀ (c2 : Int) (w' : World) (r : Ending), q ≤ ah ∨ 1000 < q → r = .returned (.tuple #[.slice none 0 0, .int .i64 c2, .int .i64 ((3 : Nat) : Int)]) → Below w.heap.size w w' → LsP w R0 r w') := Lib.hid (fun c2 w' r h hr hb => LsP.bad c2 (by rw [HR.out, decG_form HLT.out EV.out H1.out (by rw [← EQ.out]; exact h)]; rfl) (by decide) hr hb)
          by_cases hq1 : q < 1
          · have q1 : (q : Int) < 1 := by omega
            have g0 := Lib.hid (show q ≤ ah ∨ 1000 < q by omega)
            clear hq1
            go_wp2_with (fail)
            go_ret3
            exact bad.out _ _ _ g0.out rfl HS4.out.bel
          have q1 : 1 ≤ (q : Int) := by omega
          by_cases hq2 : 1000 < q
          · have q2 : 1000 < (q : Int) := by omega
            have g0 := Lib.hid (show q ≤ ah ∨ 1000 < q by omega)
            clear hq1 hq2
            go_wp2_with (fail)
            go_ret3
            exact bad.out _ _ _ g0.out rfl HS4.out.bel
          have q2 : (q : Int) ≤ 1000 := by omega
          by_cases hq3 : q ≤ ah
          · have q3 : (q : Int) ≤ (ah : Int) := by omega
            have g0 := Lib.hid (show q ≤ ah ∨ 1000 < q by omega)
            clear hq1 hq2 hq3
            go_wp2_with (fail)
            go_ret3
            exact bad.out _ _ _ g0.out rfl HS4.out.bel
          have q3 : (ah : Int) < (q : Int) := by omega
          have NF : Hid (¬ (nn / 4 ≤ ah ∨ 1000 < nn / 4)) := Lib.hid (by rw [← EQ.out]; omega)
          clear hq1 hq2 hq3 bad
          by_cases hc6 : 64 ≤ c0
          · have c6 : (64 : Int) < (c0 : Int) + 1 := by omega
            have e0 : R0.1 = 4 := by rw [HR.out, decG_many HLT.out EV.out H1.out NF.out hc6]; rfl
            have E0 := Lib.hid e0
            clear hc6 e0
            go_wp2_with (fail)
            go_ret3
            exact LsP.bad _ E0.out (by decide) rfl HS4.out.bel
          have c6 : (c0 : Int) + 1 ≤ 64 := by omega
          have HC6 := Lib.hid hc6
          clear hc6
          have hd : d = 4 ∨ d ≤ 3 := by omega
          by_cases hdp : r2 = 1 ∧ d = 4
          · obtain ⟨p1, p2⟩ := hdp
            have e0 : R0.1 = 5 := by rw [HR.out, decG_deep HLT.out EV.out H1.out NF.out HC6.out ⟨by rw [← ER2.out]; exact p1, p2⟩]; rfl
            have E0 := Lib.hid e0
            have t1 : ((r2 : Int) == 1) = true := by rw [p1]; rfl
            have t2 : (d == 4) = true := by rw [p2]; rfl
            clear p1 p2 e0 hd
            go_wp2_with (fail)
            go_ret3
            exact LsP.bad _ E0.out (by decide) rfl HS4.out.bel
          have ND : Hid (¬ (nn % 2 = 1 ∧ d = 4)) := Lib.hid (by rw [← ER2.out]; exact hdp)
          -- BEHIND THE DEPTH
          rcases Nat.eq_zero_or_pos r2 with hz2 | hz2
          · have t1 : ((r2 : Int) == 1) = false := by rw [hz2]; rfl
            have HZ2 := Lib.hid hz2
            clear hz2 hd hdp
            obtain ⟨w5, ew5⟩ : ∃ w5, w5 = w4.alloc (.cells #[] 5) := ⟨_, rfl⟩
            have b5 : Below w4.heap.size w4 w5 := by rw [ew5]; exact (Below.refl _ _).alloc (Nat.le_refl _) _
            have HS5 := Lib.hid (HS4.out.below b5)
            have EW5 := Lib.hid ew5
            clear b5 ew5
            obtain ⟨t, s2, eT⟩ : ∃ t s2, textR s1 4096 = (t, s2) := ⟨_, _, rfl⟩
            obtain ⟨b1, b2, b3, b4, b6, b7, b8⟩ := textR_step eT H1.out (by have := OK1.out.2.2.2.1; exact this)
            have OK2 : Hid (RsOk w A c s2) := Lib.hid ⟨by rw [b1]; exact OK1.out.1, by rw [b1]; exact OK1.out.2.1, OK1.out.2.2.1, by rw [b1]; exact b4, by rw [b1]; exact OK1.out.2.2.2.2⟩
            have ET := Lib.hid eT
            have BT := Lib.hid (And.intro b1 (And.intro b2 (And.intro b3 (And.intro b4 (And.intro b7 b8)))))
            have rt := refTextR_c A c s1 4096 w5 HS5.out.ok (by decide)
            rw [eT] at rt
            unfold rsV at rt
            have RT := Lib.hid rt
            clear eT b1 b2 b3 b4 b7 b8 rt
            obtain ⟨tl, etl⟩ : ∃ tl, tl = t.length := ⟨_, rfl⟩
            rw [← etl] at b6
            have ETL := Lib.hid etl
            clear etl
            go_upto_region 17 with (fail)
            rw [← EW5.out]
            clear x0 x1 x2 xf0 xf1 xf2 EW5 HS4
            obtain ⟨⟨x0, x1, x2⟩, xf0, xf1, xf2⟩ := HS5.out.b7.cells
            go_wp2_with (fail)
            refine RT.out.mono ?_
            rintro e w6 ⟨vt, rfl, hot, hb6⟩
            dsimp only
            obtain ⟨At, ct, evt, i1, i2, i3, i4⟩ := OwnB.form hot
            rw [← ETL.out] at evt i1
            subst evt
            have HS6 := Lib.hid (HS5.out.below hb6)
            have OT6 := Lib.hid hot
            have Z56 := Lib.hid hb6.size
            have R6 := Lib.hid i3
            have ci1 := Lib.hid i1
            have ci2 := Lib.hid i2
            clear hb6 RT x0 x1 x2 xf0 xf1 xf2 i1 i2 i3 i4 hot
            obtain ⟨⟨x0, x1, x2⟩, xf0, xf1, xf2⟩ := HS6.out.b7.cells
            obtain ⟨w7, ew7⟩ : ∃ w7, w7 = set3 w6 g7 (.slice A s2.b.length c) (.int .i64 (s2.at_ : Int)) (.int .i64 (s2.err : Int)) := ⟨_, rfl⟩
            have HS7 := Lib.hid (ew7 ▸ HS6.out.setR OK2.out)
            have k7 : Keeps (fun j => j = g7) w6 w7 := by rw [ew7]; exact set3_keeps _ _ _ _ _
            have hlt7 : g7 < w5.heap.size := heap_lt HS5.out.b7
            have OT7 : Hid (OwnB w7 w5.heap.size (.slice At tl ct) t) := Lib.hid (Own.frameK OT6.out (fun g e => k7.block g (Own.lt OT6.out g e).2 (fun e2 => by have := (Own.lt OT6.out g e).1; omega)))
            have Z67 : Hid (w6.heap.size = w7.heap.size) := Lib.hid (by rw [ew7]; simp [set3, World.setCell])
            unfold set3 at ew7
            have EW7 := Lib.hid ew7
            have HLT7 := Lib.hid hlt7
            clear ew7 k7 hlt7
            go_upto_region 18 with (fail)
            rw [← EW7.out]
            clear x0 x1 x2 xf0 xf1 xf2 EW7 HS6 OT6 R6
            obtain ⟨⟨x0, x1, x2⟩, xf0, xf1, xf2⟩ := HS7.out.b7.cells
            by_cases h2 : s2.err = 0
            · have h2e : ((s2.err : Int) != 0) = false := by rw [bne_eq_false_iff_eq]; omega
              have H2 := Lib.hid h2
              clear h2
              have wi : IntKind.i64.wrap (q : Int) = (q : Int) := IntWalk.i64_in _ ⟨by omega, by omega⟩
              obtain ⟨B4, eB4⟩ : ∃ B4, B4 = decide (2 ≤ r4) := ⟨_, rfl⟩
              have EB4 := Lib.hid eB4
              have b4a : decide ((2 : Int) ≤ (r4 : Int)) = B4 := by
                rw [eB4]; by_cases h : 2 ≤ r4
                · rw [decide_eq_true h, decide_eq_true (by omega)]
                · rw [decide_eq_false h, decide_eq_false (by omega)]
              have b4b : decide (2 ≤ r4) = B4 := eB4.symm
              clear eB4
              obtain ⟨w8, ew8⟩ : ∃ w8, w8 = w7.alloc (.cells #[.int .i64 (q : Int), .bool B4, .bool false, .slice none 0 0, .slice none 0 0] 76) := ⟨_, rfl⟩
              obtain ⟨gi, egi⟩ : ∃ gi, gi = w7.heap.size := ⟨_, rfl⟩
              have b8 : Below w7.heap.size w7 w8 := by rw [ew8]; exact (Below.refl _ _).alloc (Nat.le_refl _) _
              have h8 : w8.heap[gi]? = some (.cells #[.int .i64 (q : Int), .bool B4, .bool false, .slice none 0 0, .slice none 0 0] 76 (0, 0)) := by rw [ew8, egi]; exact heap_alloc_new w7 _
              have HS8 := Lib.hid (HS7.out.below b8)
              have OT8 : Hid (OwnB w8 w5.heap.size (.slice At tl ct) t) := Lib.hid (Own.below OT7.out b8)
              have EW8 := Lib.hid ew8
              have EGI := Lib.hid egi
              have H8 := Lib.hid h8
              have hg78 : Hid (g7 < gi) := Lib.hid (by have := HLT7.out; have := Z56.out; have := Z67.out; omega)
              clear ew8 egi h8 b8
              go_upto_region 21 with (fail)
              rw [← EW8.out, ← EGI.out]
              clear x0 x1 x2 xf0 xf1 xf2
              obtain ⟨itv, eitv⟩ : ∃ itv : ItV, itv = ⟨(q : Int), B4, false, At, tl, ct, none, 0, 0⟩ := ⟨_, rfl⟩
              have EITV := Lib.hid eitv
              obtain ⟨w9, ew9⟩ : ∃ w9, w9 = w8.setCell ⟨gi, 3, none⟩ (.slice At tl ct) := ⟨_, rfl⟩
              have h9 : w9.heap[gi]? = some (.cells #[.int .i64 (q : Int), .bool B4, .bool false, .slice At tl ct, .slice none 0 0] 76 (0, 0)) := by rw [ew9, heap_set H8.out]; rfl
              have b79 : Below w7.heap.size w7 w9 := by rw [ew9, EW8.out, EGI.out]; exact ((Below.refl _ _).alloc (Nat.le_refl _) _).setCell (Nat.le_refl _) _
              have b711 : Below w7.heap.size w7 (w9.alloc (.cells #[.int .i64 (q : Int), .bool B4, .bool false, .slice At tl ct, .slice none 0 0] 76)) := b79.alloc b79.size _
              have HS11 := Lib.hid (HS7.out.below b711)
              have okj : ∀ j, w5.heap.size ≤ j → (w.heap.size ≤ j ∧ j ≠ g7) ∧ u9.ownBlock ≠ some j := fun j hj => by
                have z1 := HS5.out.bel.size
                have z2 := HLT7.out
                refine ⟨⟨by omega, by omega⟩, fun e => ?_⟩
                have := HS5.out.out.lt j e
                omega
              have HT11 := Lib.hid (TxtO.of_own (Own.below OT7.out b711) ETL.out.symm (by omega) (fun j hj _ => okj j hj))
              have HD11 : Hid (ItsO (fun j => (w.heap.size ≤ j ∧ j ≠ g7) ∧ u9.ownBlock ≠ some j) (w9.alloc (.cells #[.int .i64 (q : Int), .bool B4, .bool false, .slice At tl ct, .slice none 0 0] 76)) [itv] (.cons (q : Int) B4 false t .nil .nil)) := Lib.hid (by rw [eitv]; exact ItsO.one HT11.out (FoO.nil_ _ _) (by simp [Fo.len]))
              have HR11 := Lib.hid (Rd.lit w9 (cellsI [⟨(q : Int), B4, false, At, tl, ct, none, 0, 0⟩]) 76)
              have hdl : ds.length ≤ 64 := by rw [ItsO.len P ds HS11.out.out.its]; have := HP.out; omega
              have hm0 : Hid (R0 = cmb (P.app (.cons (q : Int) B4 false t .nil .nil)) (decG m1 s2 d q (c0 + 1))) := Lib.hid (by
                rw [HR.out, decG_item HLT.out EV.out H1.out NF.out HC6.out ET.out H2.out (by rw [← ER2.out]; exact HZ2.out), cmb_cmb, ← EQ.out, ← ER4.out, ← EB4.out])
              have EW9 := Lib.hid ew9
              obtain ⟨y2, yf3⟩ : w8.cell? ⟨gi, 2, none⟩ = some (.bool false) ∧ w8.frozen? ⟨gi, 3, none⟩ = false := ⟨by rw [heap_cell H8.out]; rfl, heap_free H8.out _⟩
              have y3 : w8.cell? ⟨gi, 3, none⟩ = some (.slice none 0 0) := by rw [heap_cell H8.out]; rfl
              obtain ⟨p0, p1, p2, p3, p4⟩ : w9.cell? ⟨gi, 0, none⟩ = some (.int .i64 (q : Int)) ∧ w9.cell? ⟨gi, 1, none⟩ = some (.bool B4) ∧ w9.cell? ⟨gi, 2, none⟩ = some (.bool false) ∧ w9.cell? ⟨gi, 3, none⟩ = some (.slice At tl ct) ∧ w9.cell? ⟨gi, 4, none⟩ = some (.slice none 0 0) := by
                refine ⟨?_, ?_, ?_, ?_, ?_⟩ <;> (rw [heap_cell h9]; rfl)
              clear ew9 h9 b79 b711 okj eitv
              go_upto_region 28 with (fail)
              rw [← EW9.out]
              clear y2 yf3 y3
              go_wp2_with (at_builtin; refine wpList_appI _ rfl (.tmp 105) (.tmp 107) rfl 0 _ ds rfl HS11.out.out.row (some ⟨w9.heap.size, 0, none⟩) 1 1 [⟨(q : Int), B4, false, At, tl, ct, none, 0, 0⟩] rfl rfl HR11.out (by omega) (Nat.zero_le _) ?_; intro v12 w12 ho12 hg12 hv12; have HS12 := Lib.hid (HS11.out.more HD11.out (EITV.out ▸ ho12) hg12 hv12); clear ho12 hg12 hv12)
              go_roundw
              case rel => exact ⟨s2, v12, _, _, c0 + 1, q, m1, by go_num, rfl, rfl, HS12, Lib.hid (by have a := HB.out; have b := BT.out; have c := AB.out; have dd := A6.out H1.out; have e := HLT.out; refine ⟨?_, ?_, H2.out, ?_⟩; (rw [b.1, c.1]; omega); (rw [b.1, c.1]; exact a.2.1); (rw [b.2.1, c.2.1]; exact a.2.2.2)), by omega, by omega, hm0, Lib.hid (by rw [Fo.len_app]; simp only [Fo.len]; have := HP.out; omega)⟩
              case measure => simp [intOf]; omega
            · have h2e : ((s2.err : Int) != 0) = true := by rw [bne_iff_ne]; omega
              have e0 : R0.1 = s2.err := by rw [HR.out, decG_text HLT.out EV.out H1.out NF.out HC6.out ND.out ET.out h2]; rfl
              have E0 := Lib.hid e0
              have H2 := Lib.hid h2
              clear h2 e0
              go_wp2_with (fail)
              go_quiet (fail)
              go_wp2_with (fail)
              go_ret3
              exact LsP.bad _ E0.out H2.out rfl (below_drewN HS7.out.bel _)
          · have hz2' : r2 = 1 := by omega
            have hd3 : d ≤ 3 := by
              rcases hd with h | h
              · exact absurd ⟨hz2', h⟩ hdp
              · exact h
            have t1 : ((r2 : Int) == 1) = true := by rw [hz2']; rfl
            have t2 : (d == 4) = false := by rw [beq_eq_false_iff_ne]; omega
            have HZ2 := Lib.hid hz2'
            have HD3 := Lib.hid hd3
            clear hz2 hz2' hd hdp hd3
            obtain ⟨w5, ew5⟩ : ∃ w5, w5 = w4.alloc (.cells #[] 5) := ⟨_, rfl⟩
            have b5 : Below w4.heap.size w4 w5 := by rw [ew5]; exact (Below.refl _ _).alloc (Nat.le_refl _) _
            have HS5 := Lib.hid (HS4.out.below b5)
            have EW5 := Lib.hid ew5
            clear b5 ew5
            obtain ⟨t, s2, eT⟩ : ∃ t s2, textR s1 4096 = (t, s2) := ⟨_, _, rfl⟩
            obtain ⟨b1, b2, b3, b4, b6, b7, b8⟩ := textR_step eT H1.out (by have := OK1.out.2.2.2.1; exact this)
            have OK2 : Hid (RsOk w A c s2) := Lib.hid ⟨by rw [b1]; exact OK1.out.1, by rw [b1]; exact OK1.out.2.1, OK1.out.2.2.1, by rw [b1]; exact b4, by rw [b1]; exact OK1.out.2.2.2.2⟩
            have ET := Lib.hid eT
            have BT := Lib.hid (And.intro b1 (And.intro b2 (And.intro b3 (And.intro b4 (And.intro b7 b8)))))
            have rt := refTextR_c A c s1 4096 w5 HS5.out.ok (by decide)
            rw [eT] at rt
            unfold rsV at rt
            have RT := Lib.hid rt
            clear eT b1 b2 b3 b4 b7 b8 rt
            obtain ⟨tl, etl⟩ : ∃ tl, tl = t.length := ⟨_, rfl⟩
            rw [← etl] at b6
            have ETL := Lib.hid etl
            clear etl
            go_upto_region 17 with (fail)
            rw [← EW5.out]
            clear x0 x1 x2 xf0 xf1 xf2 EW5 HS4
            obtain ⟨⟨x0, x1, x2⟩, xf0, xf1, xf2⟩ := HS5.out.b7.cells
            go_wp2_with (fail)
            refine RT.out.mono ?_
            rintro e w6 ⟨vt, rfl, hot, hb6⟩
            dsimp only
            obtain ⟨At, ct, evt, i1, i2, i3, i4⟩ := OwnB.form hot
            rw [← ETL.out] at evt i1
            subst evt
            have HS6 := Lib.hid (HS5.out.below hb6)
            have OT6 := Lib.hid hot
            have Z56 := Lib.hid hb6.size
            have R6 := Lib.hid i3
            have ci1 := Lib.hid i1
            have ci2 := Lib.hid i2
            clear hb6 RT x0 x1 x2 xf0 xf1 xf2 i1 i2 i3 i4 hot
            obtain ⟨⟨x0, x1, x2⟩, xf0, xf1, xf2⟩ := HS6.out.b7.cells
            obtain ⟨w7, ew7⟩ : ∃ w7, w7 = set3 w6 g7 (.slice A s2.b.length c) (.int .i64 (s2.at_ : Int)) (.int .i64 (s2.err : Int)) := ⟨_, rfl⟩
            have HS7 := Lib.hid (ew7 ▸ HS6.out.setR OK2.out)
            have k7 : Keeps (fun j => j = g7) w6 w7 := by rw [ew7]; exact set3_keeps _ _ _ _ _
            have hlt7 : g7 < w5.heap.size := heap_lt HS5.out.b7
            have OT7 : Hid (OwnB w7 w5.heap.size (.slice At tl ct) t) := Lib.hid (Own.frameK OT6.out (fun g e => k7.block g (Own.lt OT6.out g e).2 (fun e2 => by have := (Own.lt OT6.out g e).1; omega)))
            have Z67 : Hid (w6.heap.size = w7.heap.size) := Lib.hid (by rw [ew7]; simp [set3, World.setCell])
            unfold set3 at ew7
            have EW7 := Lib.hid ew7
            have HLT7 := Lib.hid hlt7
            clear ew7 k7 hlt7
            go_upto_region 18 with (fail)
            rw [← EW7.out]
            clear x0 x1 x2 xf0 xf1 xf2 EW7 HS6 OT6 R6
            obtain ⟨⟨x0, x1, x2⟩, xf0, xf1, xf2⟩ := HS7.out.b7.cells
            by_cases h2 : s2.err = 0
            · have h2e : ((s2.err : Int) != 0) = false := by rw [bne_eq_false_iff_eq]; omega
              have H2 := Lib.hid h2
              clear h2
              have wi : IntKind.i64.wrap (q : Int) = (q : Int) := IntWalk.i64_in _ ⟨by omega, by omega⟩
              obtain ⟨B4, eB4⟩ : ∃ B4, B4 = decide (2 ≤ r4) := ⟨_, rfl⟩
              have EB4 := Lib.hid eB4
              have b4a : decide ((2 : Int) ≤ (r4 : Int)) = B4 := by
                rw [eB4]; by_cases h : 2 ≤ r4
                · rw [decide_eq_true h, decide_eq_true (by omega)]
                · rw [decide_eq_false h, decide_eq_false (by omega)]
              have b4b : decide (2 ≤ r4) = B4 := eB4.symm
              clear eB4
              obtain ⟨w8, ew8⟩ : ∃ w8, w8 = w7.alloc (.cells #[.int .i64 (q : Int), .bool B4, .bool true, .slice none 0 0, .slice none 0 0] 76) := ⟨_, rfl⟩
              obtain ⟨gi, egi⟩ : ∃ gi, gi = w7.heap.size := ⟨_, rfl⟩
              have b8 : Below w7.heap.size w7 w8 := by rw [ew8]; exact (Below.refl _ _).alloc (Nat.le_refl _) _
              have h8 : w8.heap[gi]? = some (.cells #[.int .i64 (q : Int), .bool B4, .bool true, .slice none 0 0, .slice none 0 0] 76 (0, 0)) := by rw [ew8, egi]; exact heap_alloc_new w7 _
              have HS8 := Lib.hid (HS7.out.below b8)
              have OT8 : Hid (OwnB w8 w5.heap.size (.slice At tl ct) t) := Lib.hid (Own.below OT7.out b8)
              have EW8 := Lib.hid ew8
              have EGI := Lib.hid egi
              have H8 := Lib.hid h8
              have hg78 : Hid (g7 < gi) := Lib.hid (by have := HLT7.out; have := Z56.out; have := Z67.out; omega)
              clear ew8 egi h8 b8
              go_upto_region 21 with (fail)
              rw [← EW8.out, ← EGI.out]
              clear x0 x1 x2 xf0 xf1 xf2
              obtain ⟨e9, L9, c9, eR9⟩ : ∃ e9 L9 c9, decG m1 ⟨t, 0, 0, none⟩ (d + 1) 0 (c0 + 1) = (e9, L9, c9) := ⟨_, _, _, rfl⟩
              have ER9 := Lib.hid eR9
              have y2 : w8.cell? ⟨gi, 2, none⟩ = some (.bool true) := by rw [heap_cell H8.out]; rfl
              have hd3' := HD3.out
              have HQ := Lib.hid (show tl < N ∧ tl < m1 by
                have a := HB.out; have b := BT.out; have c := AB.out; have dd := A6.out H1.out; have e := HLT.out; have f := HNN.out; have g := ETL.out
                have h := b.2.2.2.2.1
                rw [c.1] at h
                omega)
              clear eR9
              go_wp2_with (fail)
              refine (IH.out tl HQ.out.1 t ETL.out.symm m1 (d + 1) (c0 + 1) HQ.out.2 (by omega) (by omega) (by omega) At tl ct w8 rfl (by obtain ⟨A', c', e, i1, i2, i3, i4⟩ := OwnB.form OT8.out; injection e with e1 e2 e3; rw [e1]; exact i3) ci1.out ci2.out (by omega)).mono ?_
              rintro e w9 ⟨v9, c2, rfl, hc2, ho9, hb9⟩
              rw [ER9.out] at hc2 ho9 ⊢
              dsimp only at hc2 ho9 ⊢
              have h9 := (hb9.block gi (heap_lt H8.out)).trans H8.out
              have b79 : Below w7.heap.size w7 w9 := by
                have b78 : Below w7.heap.size w7 w8 := by rw [EW8.out]; exact (Below.refl _ _).alloc (Nat.le_refl _) _
                exact b78.trans (hb9.mono b78.size)
              have H9 := Lib.hid h9
              have B79 := Lib.hid b79
              have HO9 := Lib.hid ho9
              have HC2 := Lib.hid hc2
              have Z78 : Hid (w7.heap.size < w8.heap.size) := Lib.hid (by rw [EW8.out]; simp)
              clear h9 b79 ho9 hc2 hb9 y2
              by_cases he9 : e9 = 0
              · have e9e : ((e9 : Int) != 0) = false := by rw [he9]; rfl
                have ho9 := HO9.out
                rw [if_pos he9] at ho9
                have hc2 := HC2.out he9
                have hR9 := ER9.out
                rw [he9] at hR9
                obtain ⟨g1, g2⟩ := decG_count m1 ⟨t, 0, 0, none⟩ (d + 1) 0 (c0 + 1) (by omega) (by rw [hR9])
                rw [hR9] at g1 g2
                dsimp only at g1 g2
                have hl9 := Fo.len_le L9
                obtain ⟨n9, en9⟩ : ∃ n9, L9.len = n9 := ⟨_, rfl⟩
                obtain ⟨A9, k9, rfl, j1, j2, -⟩ := ho9.form en9
                subst hc2
                have HO9b := Lib.hid ho9
                have HR9 := Lib.hid hR9
                have hcc : c0 + 1 ≤ c9 ∧ c9 ≤ 64 ∧ n9 ≤ 64 := by omega
                obtain ⟨cc1, cc2, cc3⟩ := hcc
                have EN9 := Lib.hid en9
                clear he9 ho9 hR9 g1 g2 hl9 en9 HO9 HC2 ER9
                obtain ⟨itv, eitv⟩ : ∃ itv : ItV, itv = ⟨(q : Int), B4, true, none, 0, 0, A9, n9, k9⟩ := ⟨_, rfl⟩
                have EITV := Lib.hid eitv
                obtain ⟨w10, ew10⟩ : ∃ w10, w10 = w9.setCell ⟨gi, 4, none⟩ (.slice A9 n9 k9) := ⟨_, rfl⟩
                have h10 : w10.heap[gi]? = some (.cells #[.int .i64 (q : Int), .bool B4, .bool true, .slice none 0 0, .slice A9 n9 k9] 76 (0, 0)) := by rw [ew10, heap_set H9.out]; rfl
                have b710 : Below w7.heap.size w7 w10 := by rw [ew10]; exact B79.out.setCell (by show _ ≤ gi; rw [EGI.out]; exact Nat.le_refl _) _
                have b711 : Below w7.heap.size w7 (w10.alloc (.cells #[.int .i64 (q : Int), .bool B4, .bool true, .slice none 0 0, .slice A9 n9 k9] 76)) := b710.alloc b710.size _
                have HS11 := Lib.hid (HS7.out.below b711)
                have okj : ∀ j, w5.heap.size ≤ j → (w.heap.size ≤ j ∧ j ≠ g7) ∧ u9.ownBlock ≠ some j := fun j hj => by
                  have z1 := HS5.out.bel.size
                  have z2 := HLT7.out
                  refine ⟨⟨by omega, by omega⟩, fun e => ?_⟩
                  have := HS5.out.out.lt j e
                  omega
                have ho11 : FoO (fun j => (w.heap.size ≤ j ∧ j ≠ g7) ∧ u9.ownBlock ≠ some j) (w10.alloc (.cells #[.int .i64 (q : Int), .bool B4, .bool true, .slice none 0 0, .slice A9 n9 k9] 76)) (.slice A9 n9 k9) L9 := by
                  have f10 : FoO (w8.heap.size ≤ ·) w10 (.slice A9 n9 k9) L9 := HO9b.out.frame (fun j hj _ => by rw [ew10]; exact heap_far _ (by show j ≠ gi; have : w8.heap.size ≤ j := hj; have := EGI.out; have := Z78.out; omega))
                  refine (f10.below ((Below.refl _ _).alloc (Nat.le_refl _) _)).weak (fun j hj _ => okj j ?_)
                  have : w8.heap.size ≤ j := hj
                  have := Z56.out; have := Z67.out; have := Z78.out
                  omega
                have HD11 : Hid (ItsO (fun j => (w.heap.size ≤ j ∧ j ≠ g7) ∧ u9.ownBlock ≠ some j) (w10.alloc (.cells #[.int .i64 (q : Int), .bool B4, .bool true, .slice none 0 0, .slice A9 n9 k9] 76)) [itv] (.cons (q : Int) B4 true [] L9 .nil)) := Lib.hid (by rw [eitv]; exact ItsO.one (TxtO.nil_ _ _) ho11 (by rw [EN9.out]; omega))
                have HR11 := Lib.hid (Rd.lit w10 (cellsI [⟨(q : Int), B4, true, none, 0, 0, A9, n9, k9⟩]) 76)
                have hdl : ds.length ≤ 64 := by rw [ItsO.len P ds HS11.out.out.its]; have := HP.out; omega
                have hm0 : Hid (R0 = cmb (P.app (.cons (q : Int) B4 true [] L9 .nil)) (decG m1 s2 d q c9)) := Lib.hid (by
                  rw [HR.out, decG_list HLT.out EV.out H1.out NF.out HC6.out (by omega) ET.out H2.out (by rw [← ER2.out]; exact HZ2.out) HR9.out, cmb_cmb, ← EQ.out, ← ER4.out, ← EB4.out])
                have EW10 := Lib.hid ew10
                obtain ⟨y4, yf4⟩ : w9.cell? ⟨gi, 4, none⟩ = some (.slice none 0 0) ∧ w9.frozen? ⟨gi, 4, none⟩ = false := ⟨by rw [heap_cell H9.out]; rfl, heap_free H9.out _⟩
                obtain ⟨p0, p1, p2, p3, p4⟩ : w10.cell? ⟨gi, 0, none⟩ = some (.int .i64 (q : Int)) ∧ w10.cell? ⟨gi, 1, none⟩ = some (.bool B4) ∧ w10.cell? ⟨gi, 2, none⟩ = some (.bool true) ∧ w10.cell? ⟨gi, 3, none⟩ = some (.slice none 0 0) ∧ w10.cell? ⟨gi, 4, none⟩ = some (.slice A9 n9 k9) := by
                  refine ⟨?_, ?_, ?_, ?_, ?_⟩ <;> (rw [heap_cell h10]; rfl)
                clear ew10 h10 b710 b711 okj eitv ho11
                go_upto_region 26 with (fail)
                rw [← EW10.out]
                clear y4 yf4
                go_wp2_with (at_builtin; refine wpList_appI _ rfl (.tmp 105) (.tmp 107) rfl 0 _ ds rfl HS11.out.out.row (some ⟨w10.heap.size, 0, none⟩) 1 1 [⟨(q : Int), B4, true, none, 0, 0, A9, n9, k9⟩] rfl rfl HR11.out (by omega) (Nat.zero_le _) ?_; intro v12 w12 ho12 hg12 hv12; have HS12 := Lib.hid (HS11.out.more HD11.out (EITV.out ▸ ho12) hg12 hv12); clear ho12 hg12 hv12)
                go_roundw
                case rel => exact ⟨s2, v12, _, _, c9, q, m1, rfl, rfl, rfl, HS12, Lib.hid (by have a := HB.out; have b := BT.out; have c := AB.out; have dd := A6.out H1.out; have e := HLT.out; refine ⟨?_, ?_, H2.out, ?_⟩; (rw [b.1, c.1]; omega); (rw [b.1, c.1]; exact a.2.1); (rw [b.2.1, c.2.1]; exact a.2.2.2)), by omega, by omega, hm0, Lib.hid (by rw [Fo.len_app]; simp only [Fo.len]; have := HP.out; omega)⟩
                case measure => simp [intOf]; omega
              · have e9e : ((e9 : Int) != 0) = true := by rw [bne_iff_ne]; omega
                have e0 : R0.1 = e9 := by
                  rw [HR.out, decG_bad HLT.out EV.out H1.out NF.out HC6.out (by omega) ET.out H2.out (by rw [← ER2.out]; exact HZ2.out) (by rw [ER9.out]; exact he9), ER9.out]; rfl
                have E0 := Lib.hid e0
                have HE9 := Lib.hid he9
                have HB9 := Lib.hid (HS7.out.below B79.out).bel
                clear he9 e0
                go_wp2_with (fail)
                go_ret3
                exact LsP.bad _ E0.out HE9.out rfl HB9.out
            · have h2e : ((s2.err : Int) != 0) = true := by rw [bne_iff_ne]; omega
              have e0 : R0.1 = s2.err := by rw [HR.out, decG_text HLT.out EV.out H1.out NF.out HC6.out ND.out ET.out h2]; rfl
              have E0 := Lib.hid e0
              have H2 := Lib.hid h2
              clear h2 e0
              go_wp2_with (fail)
              go_quiet (fail)
              go_wp2_with (fail)
              go_ret3
              exact LsP.bad _ E0.out H2.out rfl (below_drewN HS7.out.bel _)
        · have h1e : ((s1.err : Int) != 0) = true := by rw [bne_iff_ne]; omega
          have e0 : R0.1 = s1.err := by rw [HR.out, decG_var HLT.out EV.out h1]; rfl
          have E0 := Lib.hid e0
          have H1 := Lib.hid h1
          clear h1 e0
          go_wp2_with (fail)
          go_quiet (fail)
          go_wp2_with (fail)
          go_ret3
          exact LsP.bad _ E0.out H1.out rfl (below_drewN HS4.out.bel _)
end Go.Proofs.Ytcffinkkfdfcaaa

/- What the reference's Decode answers: the items of bytes, or an error. Conditions: lengths that fit. -/
namespace Go.Proofs.Ytcffinkkfdfcaaa
open Go Go.RowKit

/-- What bytes say. -/
def decT (bs : List UInt8) : Nat × Fo := if 4096 < bs.length then (4, .nil) else
  ((decG (bs.length + 1) ⟨bs, 0, 0, none⟩ 1 0 0).1, if (decG (bs.length + 1) ⟨bs, 0, 0, none⟩ 1 0 0).1 = 0 then (decG (bs.length + 1) ⟨bs, 0, 0, none⟩ 1 0 0).2.1 else .nil)
theorem decT_long {bs : List UInt8} (h : 4096 < bs.length) : decT bs = (4, .nil) := if_pos h
theorem decT_eq {bs : List UInt8} (h : bs.length ≤ 4096) {e : Nat} {L : Fo} {c : Nat} (hR : decG (bs.length + 1) ⟨bs, 0, 0, none⟩ 1 0 0 = (e, L, c)) : decT bs = (e, if e = 0 then L else .nil) := by
  rw [decT, if_neg (by omega), hR]
theorem decT_size (bs : List UInt8) : (decT bs).2.size ≤ 64 := by
  by_cases h : 4096 < bs.length
  · rw [decT_long h]; simp [Fo.size]
  · obtain ⟨e, L, c, eR⟩ : ∃ e L c, decG (bs.length + 1) ⟨bs, 0, 0, none⟩ 1 0 0 = (e, L, c) := ⟨_, _, _, rfl⟩
    rw [decT_eq (by omega) eR]
    by_cases h0 : e = 0
    · have := decG_count (bs.length + 1) ⟨bs, 0, 0, none⟩ 1 0 0 (by omega) (by rw [eR]; exact h0)
      rw [eR] at this
      show (if e = 0 then L else .nil).size ≤ 64
      rw [if_pos h0]
      have h1 := this.1
      have h2 := this.2
      dsimp only at h1 h2
      omega
    · show (if e = 0 then L else .nil).size ≤ 64
      rw [if_neg h0]
      exact Nat.zero_le _
set_option maxRecDepth 100000 in
set_option maxHeartbeats 2000000 in
theorem refDecodeT_c (bs : List UInt8) (A : Option Addr) (n c : Nat) (w : World) (hn : bs.length = n) (hr : Rd w A (bs.map bv)) (hc : n ≤ c) (hcm : c ≤ maxLen) (hl : n ≤ 140737488355328) :
    Calls Try.prog 73 #[.slice A n c] w fun r w' => ∃ v, r = .returned (.tuple #[v, .int .i64 ((decT bs).1 : Int)]) ∧ FoO (w.heap.size ≤ ·) w' v (decT bs).2 ∧ Below w.heap.size w w' := by
  have HN := Lib.hid hn; clear hn
  have HR := Lib.hid hr; clear hr
  obtain ⟨D, eD⟩ : ∃ D, D = decT bs := ⟨_, rfl⟩
  rw [← eD]
  have ED := Lib.hid eD; clear eD
  by_cases h4 : 4096 < n
  · have h4' : (4096 : Int) < (n : Int) := by omega
    have e0 := ED.out.trans (decT_long (by rw [HN.out]; exact h4))
    have E0 := Lib.hid e0
    clear e0 h4
    go_enter Try.func73, Try.ntmps73
    go_wp2_with (fail)
    go_ret2
    exact ⟨_, by rw [E0.out]; rfl, by rw [E0.out]; exact FoO.nil_ _ _, Below.refl _ _⟩
  · have h4' : (n : Int) ≤ 4096 := by omega
    have H4 := Lib.hid h4
    have HC := Lib.hid hc
    have HCM := Lib.hid hcm
    clear h4 hc hcm
    go_enter Try.func73, Try.ntmps73
    go_wp2_with (fail)
    refine (refList_c n bs HN.out (n + 1) 1 0 (by omega) (by omega) (by omega) (by omega) A n c w rfl HR.out HC.out HCM.out hl).mono ?_
    rintro r w1 ⟨v, c2, rfl, hc2, ho, hb⟩
    dsimp only at hc2 ho ⊢
    obtain ⟨e, L, cc, eR⟩ : ∃ e L cc, decG (n + 1) ⟨bs, 0, 0, none⟩ 1 0 0 = (e, L, cc) := ⟨_, _, _, rfl⟩
    rw [eR] at ho ⊢
    have e0 := ED.out.trans (decT_eq (e := e) (L := L) (c := cc) (by rw [HN.out]; exact Nat.le_of_not_lt H4.out) (by rw [HN.out]; exact eR))
    have E0 := Lib.hid e0
    have HO := Lib.hid ho
    have HB := Lib.hid hb
    clear e0 ho hb hc2 eR
    dsimp only
    go_wp2_with (fail)
    go_ret2
    exact ⟨_, by rw [E0.out]; rfl, by rw [E0.out]; exact HO.out, HB.out⟩
end Go.Proofs.Ytcffinkkfdfcaaa

/- The deferred function of tlv.Decode: what was thrown becomes the error. Conditions: none. -/
namespace Go.Proofs.Ytcffinkkfdfcaaa
open Go Go.RowKit

theorem assert_errno (v : Value) (W : World) : (Instr.typeAssert (.iface 32 v) 20 32 true).run Try.prog W = .ok (.tuple #[v, .bool true]) W := by kernel_rfl
set_option maxRecDepth 100000 in
set_option maxHeartbeats 2000000 in
theorem catch_panicking (p q : Addr) (x : Value) (y : Int) (e : Nat) (older : List PanicEntry) (w : World) (hc : w.cell? p = some x) (hz : w.frozen? p = false) (hc2 : w.cell? q = some (.int .i64 y)) (hz2 : w.frozen? q = false) (hne : p.block ≠ q.block) :
    CallsD Try.prog 59 #[.pointer (some p), .pointer (some q)] (.panicking ({ v := .iface 32 (.int .i64 (e : Int)), recovered := false } :: older)) w fun r u' w' =>
      r = .returned (.tuple #[]) ∧ u' = .panicking ({ v := .iface 32 (.int .i64 (e : Int)), recovered := true } :: older) ∧ w' = (w.setCell p (.slice none 0 0)).setCell q (.int .i64 (e : Int)) := by
  refine callsD_of_wpS Try.func59 rfl fun c₀ cs hu => ?_
  apply wpS_seq
  apply wpS_region
  simp [wpOpsS, go_sem, recoverD, hu, Try.ntmps59, Exit.thenS]
  have e1 : (#[Value.pointer (some p), Value.pointer (some q)] ++ ((Array.replicate 14 undef).setIfInBounds 3 (Value.iface 32 (Value.int IntKind.i64 (e : Int)))).setIfInBounds 0 (Value.iface 32 (Value.int IntKind.i64 (e : Int)))) =
      #[Value.pointer (some p), Value.pointer (some q), .iface 32 (.int .i64 (e : Int)), undef, undef, .iface 32 (.int .i64 (e : Int)), undef, undef, undef, undef, undef, undef, undef, undef, undef, undef] := rfl
  rw [e1]
  refine wpS_of_wp ?_
  have ha := assert_errno (.int .i64 (e : Int))
  have hc2' : (w.setCell p (.slice none 0 0)).cell? q = some (.int .i64 y) := by rw [World.cell?_setCell_other _ _ _ _ (fun h => hne (by rw [h]))]; exact hc2
  have hz2' : (w.setCell p (.slice none 0 0)).frozen? q = false := by rw [World.frozen?_setCell]; exact hz2
  clear e1
  go_wp2
  simp [bodyPostS, results, Try.results59]
set_option maxRecDepth 100000 in
set_option maxHeartbeats 2000000 in
theorem catch_idle (p q : Addr) (w : World) :
    CallsD Try.prog 59 #[.pointer (some p), .pointer (some q)] .returning w fun r u' w' => r = .returned (.tuple #[]) ∧ u' = .returning ∧ w' = w := by
  refine callsD_of_wpS Try.func59 rfl fun c₀ cs hu => ?_
  apply wpS_seq
  apply wpS_region
  simp [wpOpsS, go_sem, recoverD, hu, Try.ntmps59, Exit.thenS]
  have e1 : (#[Value.pointer (some p), Value.pointer (some q)] ++ ((Array.replicate 14 undef).setIfInBounds 3 Value.nilIface).setIfInBounds 0 Value.nilIface) =
      #[Value.pointer (some p), Value.pointer (some q), .nilIface, undef, undef, .nilIface, undef, undef, undef, undef, undef, undef, undef, undef, undef, undef] := rfl
  rw [e1]
  refine wpS_of_wp ?_
  clear e1
  go_wp2
  cases c₀
  simp_all [bodyPostS, results, Try.results59]
theorem dec_results (tmps : Array Value) (p q : Addr) (h2 : tmps.getD 2 undef = .pointer (some p)) (h3 : tmps.getD 3 undef = .pointer (some q)) (w : World) (a : Option Addr) (b c : Nat) (y : Int) (hc : w.cell? p = some (.slice a b c)) (hc2 : w.cell? q = some (.int .i64 y)) :
    (results Try.f30 tmps).run Try.prog w = .ok (.tuple #[.slice a b c, .int .i64 y]) w := by
  have h2' : tmps[2]?.getD undef = .pointer (some p) := by simpa using h2
  have h3' : tmps[3]?.getD undef = .pointer (some q) := by simpa using h3
  simp [results, Try.results30, h2', h3', go_sem, hc, hc2]
set_option maxRecDepth 100000 in
set_option maxHeartbeats 4000000 in
theorem DecodeT_c (bs : List UInt8) (A : Option Addr) (n c : Nat) (w : World) (hn : bs.length = n) (hr : Rd w A (bs.map bv)) (hl : n ≤ 140737488355328) :
    Calls Try.prog 30 #[.slice A n c] w fun r w' => ∃ v, r = .returned (.tuple #[v, .int .i64 ((decT bs).1 : Int)]) ∧ FoO (w.heap.size ≤ ·) w' v (decT bs).2 ∧ Below w.heap.size w w' := by
  have hmf : ∀ (fn : Fn) (first cap : Array Value) (w : World), (Instr.makeFunc fn first cap).run Try.prog w = .ok (.func fn first cap) w := fun _ _ _ _ => rfl
  have HN := Lib.hid hn; clear hn
  have HR := Lib.hid hr; clear hr
  obtain ⟨D, eD⟩ : ∃ D, D = decT bs := ⟨_, rfl⟩
  rw [← eD]
  have ED := Lib.hid eD; clear eD
  by_cases h4 : 4096 < n
  · have h4' : (4096 : Int) < (n : Int) := by omega
    have e0 := ED.out.trans (decT_long (by rw [HN.out]; exact h4))
    have E0 := Lib.hid e0
    clear e0 h4
    go_enter_defers Try.func30, Try.ntmps30
    go_wp2_with (fail)
    obtain ⟨w1, ew1⟩ : ∃ w1, w1 = (w.alloc (.cells #[.slice none 0 0] 74)).alloc (.cells #[.int .i64 4] 32) := ⟨_, rfl⟩
    have b1 : Below w.heap.size w w1 := by rw [ew1]; exact ((Below.refl _ _).alloc (Nat.le_refl _) _).alloc (by simp) _
    have y0 : w1.cell? ⟨w.heap.size, 0, none⟩ = some (.slice none 0 0) := by rw [ew1, heap_cell (heap2_old w _ _)]; rfl
    have y1 : w1.cell? ⟨w.heap.size + 1, 0, none⟩ = some (.int .i64 4) := by rw [ew1, heap_cell (heap2_new w _ _)]; rfl
    rw [← ew1]
    exact ⟨_, dec_results _ _ _ rfl rfl w1 _ _ _ _ y0 y1, _, by rw [E0.out]; rfl, by rw [E0.out]; exact FoO.nil_ _ _, b1⟩
  · have h4' : (n : Int) ≤ 4096 := by omega
    have H4 := Lib.hid h4
    clear h4
    go_enter_defers Try.func30, Try.ntmps30
    go_wp2_with (fail)
    obtain ⟨w1, ew1⟩ : ∃ w1, w1 = ((w.alloc (.cells #[.slice none 0 0] 74)).alloc (.cells #[.int .i64 0] 32)).alloc (.cells #[.int .i64 0] 117) := ⟨_, rfl⟩
    have hs1 : ((w.alloc (.cells #[.slice none 0 0] 74)).alloc (.cells #[.int .i64 0] 32)).heap.size = w.heap.size + 1 + 1 := by simp
    have b1 : Below w.heap.size w w1 := by rw [ew1]; exact (((Below.refl _ _).alloc (Nat.le_refl _) _).alloc (by simp) _).alloc (by simp; omega) _
    have g0 : w1.heap[w.heap.size]? = some (.cells #[.slice none 0 0] 74 (0, 0)) := by rw [ew1, Below.heap_alloc _ _ _ (by simp; omega)]; exact heap2_old w _ _
    have g1 : w1.heap[w.heap.size + 1]? = some (.cells #[.int .i64 0] 32 (0, 0)) := by rw [ew1, Below.heap_alloc _ _ _ (by simp)]; exact heap2_new w _ _
    have g2 : CntB w1 (w.heap.size + 1 + 1) 0 := by unfold CntB; rw [ew1, ← hs1]; exact heap_alloc_new _ _
    rw [← ew1]
    have B1 := Lib.hid b1
    have R1 := Lib.hid (HR.out.below b1)
    clear ew1 hs1 b1
    refine (list_c n bs HN.out (n + 1) 1 0 (w.heap.size + 1 + 1) (by omega) (by omega) (by omega) (by omega) A n c w1 rfl R1.out hl g2).mono ?_
    rintro r w2 ⟨k1, k2, k3⟩
    obtain ⟨e, L, cc, eR⟩ : ∃ e L cc, decG (n + 1) ⟨bs, 0, 0, none⟩ 1 0 0 = (e, L, cc) := ⟨_, _, _, rfl⟩
    rw [eR] at k1 k2
    dsimp only at k1 k2
    have e0 := ED.out.trans (decT_eq (e := e) (L := L) (c := cc) (by rw [HN.out]; exact Nat.le_of_not_lt H4.out) (by rw [HN.out]; exact eR))
    have E0 := Lib.hid e0
    have h0 := (k3.block w.heap.size (heap_lt g0) (fun e => by injection e with e; omega)).trans g0
    have h1 := (k3.block (w.heap.size + 1) (heap_lt g1) (fun e => by injection e with e; omega)).trans g1
    have b2 : Below w.heap.size w w2 := B1.out.grown k3 B1.out.size (fun k e => by injection e with e; omega)
    have hz12 := heap_lt g2
    have B2 := Lib.hid b2
    have z0 : w2.cell? ⟨w.heap.size, 0, none⟩ = some (.slice none 0 0) := by rw [heap_cell h0]; rfl
    have zf0 : w2.frozen? ⟨w.heap.size, 0, none⟩ = false := heap_free h0 _
    have z1 : w2.cell? ⟨w.heap.size + 1, 0, none⟩ = some (.int .i64 0) := by rw [heap_cell h1]; rfl
    have zf1 : w2.frozen? ⟨w.heap.size + 1, 0, none⟩ = false := heap_free h1 _
    have far : ∀ (a : Value) (b : Value), Below w.heap.size w ((w2.setCell ⟨w.heap.size, 0, none⟩ a).setCell ⟨w.heap.size + 1, 0, none⟩ b) := fun a b => (b2.setCell (p := ⟨w.heap.size, 0, none⟩) (Nat.le_refl _) a).setCell (p := ⟨w.heap.size + 1, 0, none⟩) (Nat.le_succ _) b
    have FAR := Lib.hid far
    have x0 : ∀ (a : Value) (b : Value), ((w2.setCell ⟨w.heap.size, 0, none⟩ a).setCell ⟨w.heap.size + 1, 0, none⟩ b).cell? ⟨w.heap.size, 0, none⟩ = some a := fun a b => by
      rw [heap_cell ((heap_far (w := w2.setCell ⟨w.heap.size, 0, none⟩ a) b (by show w.heap.size ≠ w.heap.size + 1; omega)).trans (heap_set h0 0 a))]; rfl
    have x1 : ∀ (a : Value) (b : Value), ((w2.setCell ⟨w.heap.size, 0, none⟩ a).setCell ⟨w.heap.size + 1, 0, none⟩ b).cell? ⟨w.heap.size + 1, 0, none⟩ = some b := fun a b => by
      rw [heap_cell (heap_set ((heap_far (w := w2) a (by show w.heap.size + 1 ≠ w.heap.size; omega)).trans h1) 0 b)]; rfl
    have X0 := Lib.hid x0
    have X1 := Lib.hid x1
    by_cases he : e = 0
    · obtain ⟨v, rfl, ho, -⟩ := k1 he
      obtain ⟨A2, c2, rfl, -, -, -⟩ := ho.form rfl
      have hO : ∀ (a b : Value), FoO (w.heap.size ≤ ·) ((w2.setCell ⟨w.heap.size, 0, none⟩ a).setCell ⟨w.heap.size + 1, 0, none⟩ b) (.slice A2 L.len c2) L := fun a b =>
        (ho.frame (fun j hj _ => by have : w1.heap.size ≤ j := hj; rw [heap_far _ (by show j ≠ w.heap.size + 1; omega), heap_far _ (by show j ≠ w.heap.size; omega)])).weak (fun j hj _ => by have : w1.heap.size ≤ j := hj; have := B1.out.size; show w.heap.size ≤ j; omega)
      have HO := Lib.hid hO
      have HE := Lib.hid he
      obtain ⟨LL, eLL⟩ : ∃ LL, LL = L.len := ⟨_, rfl⟩
      rw [← eLL] at HO ⊢
      clear eLL
      clear k1 k2 k3 ho hO he h0 h1 g0 g1 g2 b2 far x0 x1 eR e0 R1 hz12
      go_wp2_with (fail)
      refine leaves_cons (f := 59) (args := #[.pointer (some ⟨w.heap.size, 0, none⟩), .pointer (some ⟨w.heap.size + 1, 0, none⟩)]) (by simp) (by simp [go_sem]) ?_
      refine (catch_idle _ _ _).mono ?_
      rintro e u' w'' ⟨rfl, rfl, rfl⟩
      exact ⟨_, dec_results _ _ _ rfl rfl _ _ _ _ _ (X0.out _ _) (X1.out _ _), _, by rw [E0.out, HE.out]; rfl, by rw [E0.out, HE.out]; exact HO.out _ _, FAR.out _ _⟩
    · obtain rfl := k2 he
      have HE := Lib.hid he
      have ctch := catch_panicking ⟨w.heap.size, 0, none⟩ ⟨w.heap.size + 1, 0, none⟩ _ 0 e [] w2 z0 zf0 z1 zf1 (by show w.heap.size ≠ w.heap.size + 1; omega)
      have CATCH := Lib.hid ctch
      unfold thrown
      clear k1 k2 k3 he h0 h1 g0 g1 g2 b2 far x0 x1 eR e0 R1 hz12 ctch
      go_wp2_with (fail)
      refine leaves_cons (f := 59) (args := #[.pointer (some ⟨w.heap.size, 0, none⟩), .pointer (some ⟨w.heap.size + 1, 0, none⟩)]) (by simp) (by simp [go_sem]) ?_
      refine CATCH.out.mono ?_
      rintro r u' w'' ⟨rfl, rfl, rfl⟩
      exact ⟨_, dec_results _ _ _ rfl rfl _ _ _ _ _ (X0.out _ _) (X1.out _ _), _, by rw [E0.out], by rw [E0.out]; show FoO _ _ _ (if e = 0 then L else .nil); rw [if_neg HE.out]; exact FoO.nil_ _ _, FAR.out _ _⟩
end Go.Proofs.Ytcffinkkfdfcaaa
