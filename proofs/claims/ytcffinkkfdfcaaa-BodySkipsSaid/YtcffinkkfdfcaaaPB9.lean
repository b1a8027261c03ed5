/- Parts one behind the other: What tlv's reading of a list answers, or throws; What the reference's reader does: Var; What the reference's reader does: Text; The reference's reader in a block: three cells read and stored. Conditions: as told at each. -/
import Derived.Test.YtcffinkkfdfcaaaPB8
import Derived.Deep.CutBlock
import Derived.Test.YtcffinkkfdfcaaaPB7
import Derived.Test.YtcffinkkfdfcaaaPB1

set_option linter.unusedVariables false
set_option linter.unusedSimpArgs false
/- What tlv's reading of a list answers, or throws. Conditions: depth 1 to 4; at most 64 items ahead. -/
namespace Go.Proofs.Ytcffinkkfdfcaaa
open Go Go.RowKit

set_option maxRecDepth 100000 in
set_option maxHeartbeats 8000000 in
theorem list_c : ∀ (N : Nat) (bs : List UInt8), bs.length = N → ∀ (m : Nat) (d : Int) (cnt bx : Nat), N < m → 1 ≤ d → d ≤ 4 → cnt ≤ 64 → ∀ (A : Option Addr) (n c : Nat) (w : World), N = n → Rd w A (bs.map bv) → n ≤ 140737488355328 → CntB w bx cnt →
    Calls Try.prog 60 #[.pointer (some ⟨bx, 0, none⟩), .slice A n c, .int .i64 d] w (DlP w bx (decG m ⟨bs, 0, 0, none⟩ d 0 cnt)) := by
  intro N
  induction N using Nat.strongRecOn with
  | _ N ih =>
    intro bs hN m d cnt bx hm hd1 hd4 hcnt A n c w hn hr hl hcb
    have IH := Lib.hid ih; clear ih
    have HN := Lib.hid (hN.trans hn); clear hN
    have HNN := Lib.hid hn; clear hn
    have HM := Lib.hid hm; clear hm
    have HCB := Lib.hid hcb; clear hcb
    obtain ⟨R0, eR0⟩ : ∃ R0, R0 = decG m ⟨bs, 0, 0, none⟩ d 0 cnt := ⟨_, rfl⟩
    rw [← eR0]
    have ER0 := Lib.hid eR0; clear eR0
    go_enter Try.func60, Try.ntmps60
    go_wp2_with (fail)
    refine (Rnew_c A n c bs w HN.out hr hl).mono ?_
    rintro _ w1 ⟨gr, gA, rfl, hgr, hrd, hb1, hgA⟩
    have hS1 : DlS w bx gr ⟨bs, 0, 0, gA⟩ (.slice none 0 0) [] .nil cnt w1 := 
      ⟨hrd, FoP.nil_ _ _, (hb1.block bx (heap_lt HCB.out)).trans HCB.out, grownBy_of_below hb1 _, hgr, heap_lt HCB.out, hgA⟩
    have HS1 := Lib.hid hS1
    have ER1 : Hid (R0 = decG m ⟨bs, 0, 0, gA⟩ d 0 cnt) := Lib.hid (ER0.out.trans (decG_g gA m ⟨bs, 0, 0, none⟩ d 0 cnt).symm)
    clear hS1 hrd hb1 hgA hr hgr HCB
    go_wp2_with (fail)
    go_loopw [7, 9] (fun o a wr => ∃ (s : RS) (ds : List ItV) (P : Fo) (c0 ah m' : Nat), a = .int .u64 (ah : Int) ∧ Hid (DlS w bx gr s o ds P c0 wr) ∧ Hid (s.b.length - s.at_ < m' ∧ s.b.length = n ∧ s.err = 0 ∧ s.at_ ≤ s.b.length) ∧ c0 ≤ 64 ∧ ah ≤ 1000 ∧ Hid (R0 = cmb P (decG m' s d ah c0)) ∧ Hid (P.len ≤ c0)) (fun _ _ wr => 64 - (intOf ((wr.cell? ⟨bx, 0, none⟩).getD undef)).toNat)
    case atStart => exact ⟨⟨bs, 0, 0, gA⟩, [], .nil, cnt, 0, m, rfl, HS1, Lib.hid ⟨by have := HM.out; have := HN.out; have := HNN.out; simp only; omega, HN.out, rfl, Nat.zero_le _⟩, hcnt, by omega, Lib.hid ER1.out, Lib.hid (by simp [Fo.len])⟩
    case round =>
      clear HS1 ER1 ER0
      obtain ⟨s, ds, P, c0, ah, m', rfl, HS, HB, hc0, hah, HR, HP⟩ := hrel
      obtain ⟨hB1, hB2, hB3, hB4⟩ := HB.out
      obtain ⟨nn, s1, eV⟩ : ∃ nn s1, varR s = (nn, s1) := ⟨_, _, rfl⟩
      obtain ⟨a1, a2, a3, a4, a5, a6⟩ := varR_step eV hB3 hB4
      have EV := Lib.hid eV
      have A6 := Lib.hid a6
      have AB := Lib.hid (And.intro a1 (And.intro a2 (And.intro a3 a4)))
      clear eV a6 a1 a2 a3 a4 hB3
      obtain ⟨lf, elf⟩ : ∃ lf, lf = s.b.length - s.at_ := ⟨_, rfl⟩
      have hlf : lf ≤ 140737488355328 := by omega
      have ELF := Lib.hid elf
      have rl := Rleft_c gr s wr HS.out.rd
      rw [← elf] at rl
      have RL := Lib.hid rl
      clear elf rl hB4
      obtain ⟨m1, rfl⟩ : ∃ m1, m' = m1 + 1 := ⟨m' - 1, by omega⟩
      clear hB1 hB2
      go_wp2_with (fail)
      refine RL.out.mono ?_
      rintro e _ ⟨rfl, qq, rfl⟩
      have HS2 := Lib.hid (HS.out.drewN qq)
      obtain ⟨w2, ew2⟩ : ∃ w2, w2 = wr.drewN qq := ⟨_, rfl⟩
      rw [← ew2] at HS2 ⊢
      have MC : Hid (wr.cell? ⟨bx, 0, none⟩ = some (.int .i64 (c0 : Int))) := Lib.hid (by rw [heap_cell HS.out.cnt]; rfl)
      clear ew2 RL HS
      rcases Nat.eq_zero_or_pos lf with h0 | h0
      · have d0 : decide ((0 : Int) < (lf : Int)) = false := decide_eq_false (by omega)
        have d0' : decide (0 < lf) = false := decide_eq_false (by omega)
        have e0 : R0 = (0, P, c0) := by rw [HR.out, decG_end (by have := ELF.out; omega), cmb, Fo.app_nil]
        have E0 := Lib.hid e0
        clear h0 e0
        go_wp2_with (fail)
        go_ret
        rw [E0.out]
        exact ⟨fun _ => ⟨_, rfl, HS2.out.out.o.weak (fun _ hj _ => hj.1), HS2.out.cnt⟩, fun h => absurd rfl h, HS2.out.g⟩
      · have d0 : decide ((0 : Int) < (lf : Int)) = true := decide_eq_true (by omega)
        have d0' : decide (0 < lf) = true := decide_eq_true (by omega)
        have hlt : s.at_ < s.b.length := by have := ELF.out; omega
        have HLT := Lib.hid hlt
        have rv := Rvar_c gr s w2 HS2.out.rd
        rw [EV.out] at rv
        have RV := Lib.hid rv
        clear h0 hlt rv
        go_wp2_with (fail)
        refine RV.out.mono ?_
        rintro e w3 ⟨rfl, hr3, hg3⟩
        have HS3 := Lib.hid (HS2.out.read hr3 AB.out.2.1 hg3)
        clear hr3 hg3 RV HS2 d0 d0'
        go_wp2_with (fail)
        refine (Rerr_c gr s1 w3 HS3.out.rd).mono ?_
        rintro e wx ⟨rfl, hx⟩; rw [← hx]; clear hx wx
        by_cases h1 : s1.err = 0
        · have H1 := Lib.hid h1; clear h1
          go_wp2_with (fail)
          refine (must_ok s1.err H1.out _).mono ?_
          rintro _ wx ⟨rfl, hx⟩; rw [hx]; clear hx wx
          obtain ⟨q, eq⟩ : ∃ q, q = nn / 4 := ⟨_, rfl⟩
          obtain ⟨B4, eB4⟩ : ∃ B4, B4 = decide (2 ≤ nn % 4) := ⟨_, rfl⟩
          have wq : IntKind.u64.wrap ((nn : Int) / 4) = (q : Int) := by
            rw [show (nn : Int) / 4 = ((nn / 4 : Nat) : Int) by omega, eq]; exact u64_wrapN (by unfold U64 at *; omega)
          have b2 : (bits BinOp.and .u64 (nn : Int) 2 != 0) = B4 := by rw [eB4]; exact band2 a5
          have b1 := band1 a5
          have EQ := Lib.hid eq
          have EB4 := Lib.hid eB4
          clear eq eB4
          have bad : Hid (∀ (w' : World), q ≤ ah ∨ 1000 < q → w.grownBy w' (some bx) → DlP w bx R0 (thrown 3) w') := Lib.hid (fun w' h hg => DlP.bad (by rw [HR.out, decG_form HLT.out EV.out H1.out (by rw [← EQ.out]; exact h)]; rfl) (by decide) hg)
          by_cases hq3 : q ≤ ah
          · have q3 : (q : Int) ≤ (ah : Int) := by omega
            have g0 := Lib.hid (show q ≤ ah ∨ 1000 < q by omega)
            clear hq3
            go_wp2_with (fail)
            exact ⟨rfl, bad.out _ g0.out HS3.out.g⟩
          have q3 : (ah : Int) < (q : Int) := by omega
          by_cases hq2 : 1000 < q
          · have q2 : 1000 < (q : Int) := by omega
            have g0 := Lib.hid (show q ≤ ah ∨ 1000 < q by omega)
            clear hq2 hq3
            go_wp2_with (fail)
            exact ⟨rfl, bad.out _ g0.out HS3.out.g⟩
          have q2 : (q : Int) ≤ 1000 := by omega
          have NF : Hid (¬ (nn / 4 ≤ ah ∨ 1000 < nn / 4)) := Lib.hid (by rw [← EQ.out]; omega)
          clear hq2 hq3 bad
          have cc := HS3.out.cnt
          have x0 : w3.cell? ⟨bx, 0, none⟩ = some (.int .i64 (c0 : Int)) := by rw [heap_cell cc]; rfl
          have xf : w3.frozen? ⟨bx, 0, none⟩ = false := heap_free cc _
          obtain ⟨w4, ew4⟩ : ∃ w4, w4 = w3.setCell ⟨bx, 0, none⟩ (.int .i64 ((c0 : Int) + 1)) := ⟨_, rfl⟩
          have HS4 : Hid (DlS w bx gr s1 u7 ds P (c0 + 1) w4) := Lib.hid (by rw [ew4]; exact HS3.out.step (only_set bx 0 _) (cc.set (c0 + 1)))
          have y0 : w4.cell? ⟨bx, 0, none⟩ = some (.int .i64 ((c0 : Int) + 1)) := by rw [heap_cell HS4.out.cnt]; rfl
          have EW4 := Lib.hid ew4
          clear ew4 cc
          go_upto_region 11 with (fail)
          rw [← EW4.out]
          clear x0 xf
          by_cases hc6 : 64 ≤ c0
          · have c6 : (64 : Int) < (c0 : Int) + 1 := by omega
            have e0 : R0.1 = 4 := by rw [HR.out, decG_many HLT.out EV.out H1.out NF.out hc6]; rfl
            have E0 := Lib.hid e0
            clear hc6 e0
            go_wp2_with (fail)
            exact ⟨rfl, DlP.bad E0.out (by decide) HS4.out.g⟩
          have c6 : (c0 : Int) + 1 ≤ 64 := by omega
          have HC6 := Lib.hid hc6
          have wi : IntKind.i64.wrap (q : Int) = (q : Int) := IntWalk.i64_in _ ⟨by omega, by omega⟩
          clear hc6
          obtain ⟨gi, egi⟩ : ∃ gi, gi = w4.heap.size := ⟨_, rfl⟩
          by_cases hz2 : nn % 2 = 1
          · rw [decide_eq_true hz2] at b1
            have HZ2 := Lib.hid hz2
            clear hz2
            obtain ⟨w5, ew5⟩ : ∃ w5, w5 = w4.alloc (.cells #[.int .i64 (q : Int), .bool B4, .bool true, .slice none 0 0, .slice none 0 0] 76) := ⟨_, rfl⟩
            have h5 : w5.heap[gi]? = some (.cells #[.int .i64 (q : Int), .bool B4, .bool true, .slice none 0 0, .slice none 0 0] 76 (0, 0)) := by rw [ew5, egi]; exact heap_alloc_new w4 _
            have b5 : Below w4.heap.size w4 w5 := by rw [ew5]; exact (Below.refl _ _).alloc (Nat.le_refl _) _
            have HS5 := Lib.hid (HS4.out.below b5)
            have K5 : Hid (Keeps (fun j => j = gr ∨ j = bx ∨ w4.heap.size ≤ j) w4 w5) := Lib.hid (Keeps.of_below b5 _ (fun k hk _ => hk))
            have Z5 : Hid (w5.heap.size = gi + 1) := Lib.hid (by rw [ew5, egi]; simp)
            have EW5 := Lib.hid ew5
            have H5 := Lib.hid h5
            have EGI := Lib.hid egi
            have hgr4 : Hid (gr < gi) := Lib.hid (by rw [egi]; exact HS4.out.rd.lt)
            have z2 : w5.cell? ⟨gi, 2, none⟩ = some (.bool true) := by rw [heap_cell h5]; rfl
            clear ew5 h5 b5 egi
            go_upto_region 14 with (fail)
            rw [← EW5.out, ← EGI.out]
            clear y0
            by_cases hd4' : d = 4
            · have d4 : (4 : Int) ≤ d := by omega
              have e0 : R0.1 = 5 := by rw [HR.out, decG_deep HLT.out EV.out H1.out NF.out HC6.out ⟨HZ2.out, hd4'⟩]; rfl
              have E0 := Lib.hid e0
              clear hd4' e0
              go_wp2_with (fail)
              exact ⟨rfl, DlP.bad E0.out (by decide) HS5.out.g⟩
            have d4 : d < 4 := by omega
            have HD3 := Lib.hid d4
            have ND : Hid (¬ (nn % 2 = 1 ∧ d = 4)) := Lib.hid (fun h => hd4' h.2)
            clear hd4'
            obtain ⟨t, s2, eT⟩ : ∃ t s2, textR s1 4096 = (t, s2) := ⟨_, _, rfl⟩
            obtain ⟨b1', b2', b3', b4', b6, b7, b8⟩ := textR_step eT H1.out (by have := AB.out; rw [this.1]; exact this.2.2.2)
            have ET := Lib.hid eT
            have BT := Lib.hid (And.intro b1' (And.intro b2' (And.intro b3' (And.intro b4' (And.intro b7 b8)))))
            have rt := Rtext_c gr s1 4096 w5 HS5.out.rd (by decide)
            rw [eT] at rt
            have RT := Lib.hid rt
            clear eT b1' b2' b3' b4' b7 b8 rt
            obtain ⟨tl, etl⟩ : ∃ tl, tl = t.length := ⟨_, rfl⟩
            rw [← etl] at b6
            have ETL := Lib.hid etl
            clear etl
            go_wp2_with (fail)
            refine RT.out.mono ?_
            rintro e w6 ⟨vt, rfl, hot, hr6, hg6⟩
            obtain ⟨At, ct, evt, i1, i2, i3, i4⟩ := OwnB.form hot
            rw [← ETL.out] at evt i1
            subst evt
            have HS6 := Lib.hid (HS5.out.read hr6 BT.out.2.1 hg6)
            have OT6 := Lib.hid hot
            have R6 := Lib.hid i3
            have K6 := Lib.hid (K5.out.trans (Keeps.of_grown hg6 _ (fun k e => by injection e with e; exact .inl e.symm)))
            have H6 : Hid (w6.heap[gi]? = some (.cells #[.int .i64 (q : Int), .bool B4, .bool true, .slice none 0 0, .slice none 0 0] 76 (0, 0))) := Lib.hid ((hg6.block gi (by rw [Z5.out]; omega) (fun e => by injection e with e; have := hgr4.out; omega)).trans H5.out)
            have Z6 := Lib.hid hg6.size
            clear hr6 hg6 RT HS5 z2 i1 i2 i3 i4 hot K5 H5
            go_wp2_with (fail)
            refine (Rerr_c gr s2 w6 HS6.out.rd).mono ?_
            rintro e wx ⟨rfl, hx⟩; rw [← hx]; clear hx wx
            by_cases h2 : s2.err = 0
            · have H2 := Lib.hid h2
              clear h2
              go_wp2_with (fail)
              refine (must_ok s2.err H2.out _).mono ?_
              rintro _ wx ⟨rfl, hx⟩; rw [hx]; clear hx wx
              have z2 : w6.cell? ⟨gi, 2, none⟩ = some (.bool true) := by rw [heap_cell H6.out]; rfl
              have okj : Hid (∀ j, w5.heap.size ≤ j → okD w gr s2.gA j ∧ u7.ownBlock ≠ some j) := Lib.hid (fun j hj => by
                have z1 := HS4.out.g.size
                have zz := Z5.out
                have zg := EGI.out
                have hh := hgr4.out
                refine ⟨⟨by omega, by omega, fun a e => ?_⟩, fun e => ?_⟩
                · rw [BT.out.2.1] at e
                  have := (HS4.out.gA a e).2
                  omega
                · have := HS4.out.out.lt j e
                  omega)
              obtain ⟨e9, L9, c9, eR9⟩ : ∃ e9 L9 c9, decG m1 ⟨t, 0, 0, none⟩ (d + 1) 0 (c0 + 1) = (e9, L9, c9) := ⟨_, _, _, rfl⟩
              have ER9 := Lib.hid eR9
              have hd3' := HD3.out
              have HQ := Lib.hid (show tl < N ∧ tl < m1 by
                have a := HB.out; have b := BT.out; have c := AB.out; have dd := A6.out H1.out; have e := HLT.out; have f := HNN.out; have g := ETL.out
                have h := b.2.2.2.2.1
                rw [c.1] at h
                omega)
              clear eR9
              go_wp2_with (fail)
              refine (IH.out tl HQ.out.1 t ETL.out.symm m1 (d + 1) (c0 + 1) bx HQ.out.2 (by omega) (by omega) (by omega) At tl ct w6 rfl R6.out (by omega) HS6.out.cnt).mono ?_
              rintro e w7 ⟨g1, g2, g3⟩
              rw [ER9.out] at g1 g2
              dsimp only at g1 g2
              by_cases he9 : e9 = 0
              · obtain ⟨v9, rfl, ho9, hc9⟩ := g1 he9
                have hR9 := ER9.out
                rw [he9] at hR9
                obtain ⟨k1, k2⟩ := decG_count m1 ⟨t, 0, 0, none⟩ (d + 1) 0 (c0 + 1) (by omega) (by rw [hR9])
                rw [hR9] at k1 k2
                dsimp only at k1 k2
                have hl9 := Fo.len_le L9
                obtain ⟨n9, en9⟩ : ∃ n9, L9.len = n9 := ⟨_, rfl⟩
                obtain ⟨A9, k9, rfl, j1, j2, -⟩ := ho9.form en9
                have hcc : c0 + 1 ≤ c9 ∧ c9 ≤ 64 ∧ n9 ≤ 64 := by omega
                obtain ⟨cc1, cc2, cc3⟩ := hcc
                have hbxi : bx < gi := by have := HS6.out.bx; have := HS6.out.lo; have := hgr4.out; omega
                have hne : ∀ k, k < w6.heap.size → k ≠ bx → w7.heap[k]? = w6.heap[k]? := fun k hk h => g3.block k hk (fun e => h (by injection e))
                have hlti : gi < w6.heap.size := heap_lt H6.out
                have h7 := (hne gi hlti (by omega)).trans H6.out
                have k67 : Keeps (fun j => j = bx) w6 w7 := Keeps.of_grown g3 _ (fun k e => by injection e with e; exact e.symm)
                obtain ⟨itv, eitv⟩ : ∃ itv : ItV, itv = ⟨(q : Int), B4, true, none, 0, 0, A9, n9, k9⟩ := ⟨_, rfl⟩
                have EITV := Lib.hid eitv
                obtain ⟨w8, ew8⟩ : ∃ w8, w8 = w7.setCell ⟨gi, 4, none⟩ (.slice A9 n9 k9) := ⟨_, rfl⟩
                have h8 : w8.heap[gi]? = some (.cells #[.int .i64 (q : Int), .bool B4, .bool true, .slice none 0 0, .slice A9 n9 k9] 76 (0, 0)) := by rw [ew8, heap_set h7]; rfl
                have k78 : Keeps (fun j => j = gi) w7 w8 := by rw [ew8]; exact Keeps.set _ _ _ _ rfl
                have k68 : Keeps (fun j => j = bx ∨ j = gi) w6 w8 := (k67.mono (fun k e => .inl e)).trans (k78.mono (fun k e => .inr e))
                have k8 := K6.out.trans (k68.mono (T := fun j => j = gr ∨ j = bx ∨ w4.heap.size ≤ j) (fun k e => e.elim (fun e => .inr (.inl e)) (fun e => .inr (.inr (by rw [e, EGI.out]; exact Nat.le_refl _)))))
                have S6 := HS6.out
                have zgi := hgr4.out
                have zb := S6.bx
                have zl := S6.lo
                have hS8 : DlS w bx gr s2 u7 ds P c9 w8 := HS4.out.jump k8 (S6.rd.frame (k68.block gr S6.rd.lt (by omega)) (fun a e hl => k68.block _ hl (by have h1 := HS4.out.gA a (by rw [← BT.out.2.1]; exact e); have := EGI.out; omega)) k68.size) BT.out.2.1 ((k78.block bx (heap_lt hc9) (by omega)).trans hc9)
                have hZ7 : Hid (w6.heap.size ≤ w7.heap.size) := Lib.hid k67.size
                have b89 : Below w8.heap.size w8 (w8.alloc (.cells #[.int .i64 (q : Int), .bool B4, .bool true, .slice none 0 0, .slice A9 n9 k9] 76)) := (Below.refl _ _).alloc (Nat.le_refl _) _
                have HS9 := Lib.hid (hS8.below b89)
                have ho8 : FoO (w6.heap.size ≤ ·) w8 (.slice A9 n9 k9) L9 := ho9.frame (fun j hj hl => k78.block j hl (by have : w6.heap.size ≤ j := hj; omega))
                have ho11 := (ho8.below b89).weak (ok' := fun j => okD w gr s2.gA j ∧ u7.ownBlock ≠ some j) (fun j hj _ => okj.out j (by have : w6.heap.size ≤ j := hj; have := Z6.out; omega))
                have HD9 : Hid (ItsO (fun j => okD w gr s2.gA j ∧ u7.ownBlock ≠ some j) (w8.alloc (.cells #[.int .i64 (q : Int), .bool B4, .bool true, .slice none 0 0, .slice A9 n9 k9] 76)) [itv] (.cons (q : Int) B4 true [] L9 .nil)) := Lib.hid (by rw [eitv]; exact ItsO.one (TxtO.nil_ _ _) ho11 (by rw [en9]; omega))
                have HR9 := Lib.hid (Rd.lit w8 (cellsI [⟨(q : Int), B4, true, none, 0, 0, A9, n9, k9⟩]) 76)
                have hdl : ds.length ≤ 64 := by rw [ItsO.len P ds hS8.out.its]; have := HP.out; omega
                have hm0 : Hid (R0 = cmb (P.app (.cons (q : Int) B4 true [] L9 .nil)) (decG m1 s2 d q c9)) := Lib.hid (by
                  rw [HR.out, decG_list HLT.out EV.out H1.out NF.out HC6.out (by omega) ET.out H2.out HZ2.out hR9, cmb_cmb, ← EQ.out, ← EB4.out])
                have EW8 := Lib.hid ew8
                have yf4 : w7.frozen? ⟨gi, 4, none⟩ = false := heap_free h7 _
                have y4 : w7.cell? ⟨gi, 4, none⟩ = some (.slice none 0 0) := by rw [heap_cell h7]; rfl
                obtain ⟨p0, p1, p2, p3, p4⟩ : w8.cell? ⟨gi, 0, none⟩ = some (.int .i64 (q : Int)) ∧ w8.cell? ⟨gi, 1, none⟩ = some (.bool B4) ∧ w8.cell? ⟨gi, 2, none⟩ = some (.bool true) ∧ w8.cell? ⟨gi, 3, none⟩ = some (.slice none 0 0) ∧ w8.cell? ⟨gi, 4, none⟩ = some (.slice A9 n9 k9) := by
                  refine ⟨?_, ?_, ?_, ?_, ?_⟩ <;> (rw [heap_cell h8]; rfl)
                clear ew8 h8 k68 k8 hS8 b89 eitv S6 zgi zb zl k67 k78 h7 hne hlti hbxi g1 g2 g3 he9 ho9 hc9 hR9 k1 k2 hl9 en9 j1 j2 ho8 ho11
                go_upto_region 21 with (fail)
                rw [← EW8.out]
                clear z2 yf4 y4
                go_wp2_with (at_builtin; refine wpList_appI _ rfl (.tmp 78) (.tmp 80) rfl 0 _ ds rfl HS9.out.out.row (some ⟨w8.heap.size, 0, none⟩) 1 1 [⟨(q : Int), B4, true, none, 0, 0, A9, n9, k9⟩] rfl rfl HR9.out (by omega) (Nat.zero_le _) ?_; intro v12 w12 ho12 hg12 hv12; have HS12 := Lib.hid (HS9.out.more HD9.out (EITV.out ▸ ho12) hg12 hv12); clear ho12 hg12 hv12)
                go_roundw
                case rel => exact ⟨s2, _, _, c9, q, m1, rfl, HS12, Lib.hid (by have a := HB.out; have b := BT.out; have c := AB.out; have dd := A6.out H1.out; have e := HLT.out; refine ⟨?_, ?_, H2.out, ?_⟩; (rw [b.1, c.1]; omega); (rw [b.1, c.1]; exact a.2.1); (rw [b.1]; exact b.2.2.2.1)), by omega, by omega, hm0, Lib.hid (by rw [Fo.len_app]; simp only [Fo.len]; have := HP.out; omega)⟩
                case measure =>
                  have mc := MC.out
                  have mn : w12.cell? ⟨bx, 0, none⟩ = some (.int .i64 ((c9 : Nat) : Int)) := by rw [heap_cell HS12.out.cnt]; rfl
                  rw [mc, mn]
                  simp [intOf]; omega
              · have e0 : R0.1 = e9 := by
                  rw [HR.out, decG_bad HLT.out EV.out H1.out NF.out HC6.out (by omega) ET.out H2.out HZ2.out (by rw [ER9.out]; exact he9), ER9.out]; rfl
                have E0 := Lib.hid e0
                have HE9 := Lib.hid he9
                have G9 := Lib.hid (only_trans HS6.out.g g3)
                obtain rfl := g2 he9
                clear he9 e0 g1 g2 g3
                unfold thrown
                go_wp2_with (fail)
                exact ⟨rfl, DlP.bad E0.out HE9.out G9.out⟩
            · have e0 : R0.1 = s2.err := by rw [HR.out, decG_text HLT.out EV.out H1.out NF.out HC6.out ND.out ET.out h2]; rfl
              have E0 := Lib.hid e0
              have H2 := Lib.hid h2
              clear h2 e0
              go_wp2_with (fail)
              refine (must_no s2.err H2.out _).mono ?_
              rintro _ wx ⟨rfl, hx⟩; rw [hx]; clear hx wx
              unfold thrown
              go_wp2_with (fail)
              exact ⟨rfl, DlP.bad E0.out H2.out HS6.out.g⟩
          · rw [decide_eq_false hz2] at b1
            have HZ2 : Hid (nn % 2 = 0) := Lib.hid (by omega)
            clear hz2
            obtain ⟨w5, ew5⟩ : ∃ w5, w5 = w4.alloc (.cells #[.int .i64 (q : Int), .bool B4, .bool false, .slice none 0 0, .slice none 0 0] 76) := ⟨_, rfl⟩
            have h5 : w5.heap[gi]? = some (.cells #[.int .i64 (q : Int), .bool B4, .bool false, .slice none 0 0, .slice none 0 0] 76 (0, 0)) := by rw [ew5, egi]; exact heap_alloc_new w4 _
            have b5 : Below w4.heap.size w4 w5 := by rw [ew5]; exact (Below.refl _ _).alloc (Nat.le_refl _) _
            have HS5 := Lib.hid (HS4.out.below b5)
            have K5 : Hid (Keeps (fun j => j = gr ∨ j = bx ∨ w4.heap.size ≤ j) w4 w5) := Lib.hid (Keeps.of_below b5 _ (fun k hk _ => hk))
            have Z5 : Hid (w5.heap.size = gi + 1) := Lib.hid (by rw [ew5, egi]; simp)
            have EW5 := Lib.hid ew5
            have H5 := Lib.hid h5
            have EGI := Lib.hid egi
            have hgr4 : Hid (gr < gi) := Lib.hid (by rw [egi]; exact HS4.out.rd.lt)
            have z2 : w5.cell? ⟨gi, 2, none⟩ = some (.bool false) := by rw [heap_cell h5]; rfl
            clear ew5 h5 b5 egi
            go_upto_region 14 with (fail)
            rw [← EW5.out, ← EGI.out]
            clear y0
            have ND : Hid (¬ (nn % 2 = 1 ∧ d = 4)) := Lib.hid (fun h => by have := HZ2.out; omega)
            obtain ⟨t, s2, eT⟩ : ∃ t s2, textR s1 4096 = (t, s2) := ⟨_, _, rfl⟩
            obtain ⟨b1', b2', b3', b4', b6, b7, b8⟩ := textR_step eT H1.out (by have := AB.out; rw [this.1]; exact this.2.2.2)
            have ET := Lib.hid eT
            have BT := Lib.hid (And.intro b1' (And.intro b2' (And.intro b3' (And.intro b4' (And.intro b7 b8)))))
            have rt := Rtext_c gr s1 4096 w5 HS5.out.rd (by decide)
            rw [eT] at rt
            have RT := Lib.hid rt
            clear eT b1' b2' b3' b4' b7 b8 rt
            obtain ⟨tl, etl⟩ : ∃ tl, tl = t.length := ⟨_, rfl⟩
            rw [← etl] at b6
            have ETL := Lib.hid etl
            clear etl
            go_wp2_with (fail)
            refine RT.out.mono ?_
            rintro e w6 ⟨vt, rfl, hot, hr6, hg6⟩
            obtain ⟨At, ct, evt, i1, i2, i3, i4⟩ := OwnB.form hot
            rw [← ETL.out] at evt i1
            subst evt
            have HS6 := Lib.hid (HS5.out.read hr6 BT.out.2.1 hg6)
            have OT6 := Lib.hid hot
            have R6 := Lib.hid i3
            have K6 := Lib.hid (K5.out.trans (Keeps.of_grown hg6 _ (fun k e => by injection e with e; exact .inl e.symm)))
            have H6 : Hid (w6.heap[gi]? = some (.cells #[.int .i64 (q : Int), .bool B4, .bool false, .slice none 0 0, .slice none 0 0] 76 (0, 0))) := Lib.hid ((hg6.block gi (by rw [Z5.out]; omega) (fun e => by injection e with e; have := hgr4.out; omega)).trans H5.out)
            have Z6 := Lib.hid hg6.size
            clear hr6 hg6 RT HS5 z2 i1 i2 i3 i4 hot K5 H5
            go_wp2_with (fail)
            refine (Rerr_c gr s2 w6 HS6.out.rd).mono ?_
            rintro e wx ⟨rfl, hx⟩; rw [← hx]; clear hx wx
            by_cases h2 : s2.err = 0
            · have H2 := Lib.hid h2
              clear h2
              go_wp2_with (fail)
              refine (must_ok s2.err H2.out _).mono ?_
              rintro _ wx ⟨rfl, hx⟩; rw [hx]; clear hx wx
              have z2 : w6.cell? ⟨gi, 2, none⟩ = some (.bool false) := by rw [heap_cell H6.out]; rfl
              have okj : Hid (∀ j, w5.heap.size ≤ j → okD w gr s2.gA j ∧ u7.ownBlock ≠ some j) := Lib.hid (fun j hj => by
                have z1 := HS4.out.g.size
                have zz := Z5.out
                have zg := EGI.out
                have hh := hgr4.out
                refine ⟨⟨by omega, by omega, fun a e => ?_⟩, fun e => ?_⟩
                · rw [BT.out.2.1] at e
                  have := (HS4.out.gA a e).2
                  omega
                · have := HS4.out.out.lt j e
                  omega)
              obtain ⟨itv, eitv⟩ : ∃ itv : ItV, itv = ⟨(q : Int), B4, false, At, tl, ct, none, 0, 0⟩ := ⟨_, rfl⟩
              have EITV := Lib.hid eitv
              obtain ⟨w8, ew8⟩ : ∃ w8, w8 = w6.setCell ⟨gi, 3, none⟩ (.slice At tl ct) := ⟨_, rfl⟩
              have h8 : w8.heap[gi]? = some (.cells #[.int .i64 (q : Int), .bool B4, .bool false, .slice At tl ct, .slice none 0 0] 76 (0, 0)) := by rw [ew8, heap_set H6.out]; rfl
              have k68 : Keeps (fun j => j = gi) w6 w8 := by rw [ew8]; exact Keeps.set _ _ _ _ rfl
              have k8 := K6.out.trans (k68.mono (fun k e => .inr (.inr (by rw [e, EGI.out]; exact Nat.le_refl _))))
              have S6 := HS6.out
              have zgi := hgr4.out
              have hS8 : DlS w bx gr s2 u7 ds P (c0 + 1) w8 := HS4.out.jump k8 (S6.rd.frame (k68.block gr S6.rd.lt (by omega)) (fun a e hl => k68.block _ hl (by have := (HS4.out.gA a (by rw [← BT.out.2.1]; exact e)).2; have := EGI.out; omega)) k68.size) BT.out.2.1 ((k68.block bx (heap_lt S6.cnt) (by have := S6.bx; have := S6.lo; omega)).trans S6.cnt)
              have hT8 : OwnB w8 w5.heap.size (.slice At tl ct) t := Own.frameK OT6.out (fun g e => k68.block g (Own.lt OT6.out g e).2 (by have := (Own.lt OT6.out g e).1; have := Z5.out; omega))
              have b89 : Below w8.heap.size w8 (w8.alloc (.cells #[.int .i64 (q : Int), .bool B4, .bool false, .slice At tl ct, .slice none 0 0] 76)) := (Below.refl _ _).alloc (Nat.le_refl _) _
              have HS9 := Lib.hid (hS8.below b89)
              have HT9 := Lib.hid (TxtO.of_own (Own.below hT8 b89) ETL.out.symm (by omega) (fun j hj _ => okj.out j hj))
              have HD9 : Hid (ItsO (fun j => okD w gr s2.gA j ∧ u7.ownBlock ≠ some j) (w8.alloc (.cells #[.int .i64 (q : Int), .bool B4, .bool false, .slice At tl ct, .slice none 0 0] 76)) [itv] (.cons (q : Int) B4 false t .nil .nil)) := Lib.hid (by rw [eitv]; exact ItsO.one HT9.out (FoO.nil_ _ _) (by simp [Fo.len]))
              have HR9 := Lib.hid (Rd.lit w8 (cellsI [⟨(q : Int), B4, false, At, tl, ct, none, 0, 0⟩]) 76)
              have hdl : ds.length ≤ 64 := by rw [ItsO.len P ds hS8.out.its]; have := HP.out; omega
              have hm0 : Hid (R0 = cmb (P.app (.cons (q : Int) B4 false t .nil .nil)) (decG m1 s2 d q (c0 + 1))) := Lib.hid (by
                rw [HR.out, decG_item HLT.out EV.out H1.out NF.out HC6.out ET.out H2.out HZ2.out, cmb_cmb, ← EQ.out, ← EB4.out])
              have EW8 := Lib.hid ew8
              have yf3 : w6.frozen? ⟨gi, 3, none⟩ = false := heap_free H6.out _
              have y3 : w6.cell? ⟨gi, 3, none⟩ = some (.slice none 0 0) := by rw [heap_cell H6.out]; rfl
              obtain ⟨p0, p1, p2, p3, p4⟩ : w8.cell? ⟨gi, 0, none⟩ = some (.int .i64 (q : Int)) ∧ w8.cell? ⟨gi, 1, none⟩ = some (.bool B4) ∧ w8.cell? ⟨gi, 2, none⟩ = some (.bool false) ∧ w8.cell? ⟨gi, 3, none⟩ = some (.slice At tl ct) ∧ w8.cell? ⟨gi, 4, none⟩ = some (.slice none 0 0) := by
                refine ⟨?_, ?_, ?_, ?_, ?_⟩ <;> (rw [heap_cell h8]; rfl)
              clear ew8 h8 k68 k8 hS8 hT8 b89 eitv S6 zgi
              go_upto_region 21 with (fail)
              rw [← EW8.out]
              clear z2 yf3 y3
              go_wp2_with (at_builtin; refine wpList_appI _ rfl (.tmp 78) (.tmp 80) rfl 0 _ ds rfl HS9.out.out.row (some ⟨w8.heap.size, 0, none⟩) 1 1 [⟨(q : Int), B4, false, At, tl, ct, none, 0, 0⟩] rfl rfl HR9.out (by omega) (Nat.zero_le _) ?_; intro v12 w12 ho12 hg12 hv12; have HS12 := Lib.hid (HS9.out.more HD9.out (EITV.out ▸ ho12) hg12 hv12); clear ho12 hg12 hv12)
              go_roundw
              case rel => exact ⟨s2, _, _, c0 + 1, q, m1, rfl, HS12, Lib.hid (by have a := HB.out; have b := BT.out; have c := AB.out; have dd := A6.out H1.out; have e := HLT.out; refine ⟨?_, ?_, H2.out, ?_⟩; (rw [b.1, c.1]; omega); (rw [b.1, c.1]; exact a.2.1); (rw [b.1]; exact b.2.2.2.1)), by omega, by omega, hm0, Lib.hid (by rw [Fo.len_app]; simp only [Fo.len]; have := HP.out; omega)⟩
              case measure =>
                have mc := MC.out
                have mn : w12.cell? ⟨bx, 0, none⟩ = some (.int .i64 ((c0 + 1 : Nat) : Int)) := by rw [heap_cell HS12.out.cnt]; rfl
                rw [mc, mn]
                simp [intOf]; omega
            · have e0 : R0.1 = s2.err := by rw [HR.out, decG_text HLT.out EV.out H1.out NF.out HC6.out ND.out ET.out h2]; rfl
              have E0 := Lib.hid e0
              have H2 := Lib.hid h2
              clear h2 e0
              go_wp2_with (fail)
              refine (must_no s2.err H2.out _).mono ?_
              rintro _ wx ⟨rfl, hx⟩; rw [hx]; clear hx wx
              unfold thrown
              go_wp2_with (fail)
              exact ⟨rfl, DlP.bad E0.out H2.out HS6.out.g⟩
        · have e0 : R0.1 = s1.err := by rw [HR.out, decG_var HLT.out EV.out h1]; rfl
          have E0 := Lib.hid e0
          have H1 := Lib.hid h1
          clear h1 e0
          go_wp2_with (fail)
          refine (must_no s1.err H1.out _).mono ?_
          rintro _ wx ⟨rfl, hx⟩; rw [hx]; clear hx wx
          unfold thrown
          go_wp2_with (fail)
          exact ⟨rfl, DlP.bad E0.out H1.out HS3.out.g⟩
end Go.Proofs.Ytcffinkkfdfcaaa

/- What the reference's reader does: Var. Conditions: lengths that fit. -/
namespace Go.Proofs.Ytcffinkkfdfcaaa
open Go Go.RowKit

theorem valL_step {l : List UInt8} {j k : Nat} (hj : j < k) (hk : k ≤ l.length) : valL ((l.take k).drop j) = (l[j]'(by omega)).toNat % 128 + 128 * valL ((l.take k).drop (j + 1)) := by
  rw [List.drop_eq_getElem_cons (by rw [List.length_take]; omega), valL]
  simp

set_option maxRecDepth 100000 in
set_option maxHeartbeats 1000000 in
theorem refVarR_c (A : Option Addr) (c : Nat) (s : RS) (w : World) (h : RsOk w A c s) :
    Calls Try.prog 90 #[rsV A c s] w fun e w' => e = .returned (.tuple #[.int .u64 ((varR s).1 : Int), rsV A c (varR s).2]) ∧ Below w.heap.size w w' := by
  obtain ⟨h1, h2, h3, h4, h5⟩ := h
  by_cases h0 : s.err = 0
  · have hb : (((s.err : Nat) : Int) != 0) = false := by rw [bne_eq_false_iff_eq]; omega
    obtain ⟨l, el⟩ : ∃ l, l = s.b.drop s.at_ := ⟨_, rfl⟩
    have e1 : varR s = match varGo l 0 with
      | .bad e => (0, { s with err := e })
      | .ok n k => (n, { s with at_ := s.at_ + k }) := by rw [varR, if_neg (by omega), el]; rfl
    have hll : l.length + s.at_ = s.b.length := by rw [el, List.length_drop]; omega
    have hcell : ∀ i (hi : i < l.length), ∃ b off, A = some ⟨b, off, none⟩ ∧ b < w.heap.size ∧ w.cell? ⟨b, off + (s.at_ + i), none⟩ = some (.int .u8 ((l[i]).toNat : Int)) := by
      intro i hi
      obtain ⟨b, off, hA, hlt, hc⟩ := h1.addrB (by omega)
      refine ⟨b, off, hA, hlt, ?_⟩
      rw [hc (s.at_ + i) (by omega)]
      subst el
      simp [bv]
    have HC := Lib.hid hcell; clear hcell
    have H0 := Lib.hid h0; clear h0
    clear el h1
    obtain ⟨R, hR⟩ : ∃ R, R = varR s := ⟨_, rfl⟩
    rw [← hR]
    rw [← hR] at e1
    have H1 := Lib.hid e1; clear e1 hR
    unfold rsV
    go_enter Try.func90, Try.ntmps90
    go_wp2
    go_loop [4] (fun i => ∃ (k : Nat), k ≤ 9 ∧ k ≤ l.length ∧ i = .int .i64 k ∧ varGo l 0 = (varGo (l.drop k) k).after (valL (l.take k)) k) (fun i => 10 - (intOf i).toNat)
    case atStart => exact ⟨0, by omega, by omega, rfl, by rw [List.take_zero, show valL [] = 0 from rfl, VR.after_zero]; rfl⟩
    case round =>
      obtain ⟨k, hk9, hkl, rfl, hv⟩ := hrel
      have HV := Lib.hid hv; clear hv
      rcases Nat.lt_or_ge k l.length with hlt | hge
      · have hu : (s.at_ : Int) + (k : Int) < (s.b.length : Int) := by omega
        obtain ⟨b, off, rfl, hbl, hc⟩ := HC.out k hlt
        obtain ⟨d, ed⟩ : ∃ d, d = (l[k]).toNat := ⟨_, rfl⟩
        have hd : d < 256 := by rw [ed]; exact UInt8.toNat_lt _
        rw [← ed] at hc
        have ED := Lib.hid ed; clear ed
        by_cases hbad : badD k d
        · have hv3 : R = (0, { s with err := 3 }) := by rw [H1.out, HV.out, varGo_form' hlt ED.out _ hbad]
          have HV3 := Lib.hid hv3; clear hv3
          rcases hbad with ⟨h9, k1⟩ | ⟨h9, k1⟩
          · have hb9 : (((k : Nat) : Int) == 9) = true := by rw [beq_iff_eq]; omega
            have H9 := Lib.hid h9; clear h9
            go_wp2
            go_region
            all_goals
              go_wp2
              go_returns
              rw [HV3.out]
              exact ⟨rfl, by go_grown⟩
          · have hb9 : (((d : Nat) : Int) == 0) = true := by rw [beq_iff_eq]; omega
            have hb8 : decide ((1 : Int) < (d : Int)) = false := decide_eq_false (by omega)
            have HD1 := Lib.hid k1; clear k1
            go_wp2
            all_goals
              go_region
              all_goals
                go_wp2
                go_returns
                rw [HV3.out]
                exact ⟨rfl, by go_grown⟩
        · have hb1 : ¬ (k = 9 ∧ 1 < d) := fun h => hbad (.inl h)
          have hb2 : ¬ (0 < k ∧ d = 0) := fun h => hbad (.inr h)
          have HB := Lib.hid hbad; clear hbad
          have htk : valL (l.take (k + 1)) = valL (l.take k) + 128 ^ k * (d % 128) := by
            rw [List.take_succ_eq_append_getElem hlt, valL_snoc, List.length_take, Nat.min_eq_left hkl, ← ED.out]
          have HTK := Lib.hid htk; clear htk
          rcases Nat.lt_or_ge d 128 with h8 | h8
          · have hv3 : varGo l 0 = .ok (valL (l.take (k + 1))) (k + 1) := by rw [HV.out, varGo_last' hlt ED.out _ HB.out h8, HTK.out]
            obtain ⟨hu64, hk1, _⟩ := varGo_u64 hv3
            have hv4 : R = (valL (l.take (k + 1)), { s with at_ := s.at_ + (k + 1) }) := by rw [H1.out, hv3]
            have HV4 := Lib.hid hv4; clear hv4 hv3
            have hcase : (k = 9 ∧ (((k : Nat) : Int) == 9) = true ∧ decide ((1 : Int) < (d : Int)) = false ∧ (((d : Nat) : Int) == 0) = false) ∨ ((((k : Nat) : Int) == 9) = false ∧ ¬ 0 < k) ∨ ((((k : Nat) : Int) == 9) = false ∧ (((d : Nat) : Int) == 0) = false) := by
              by_cases h9 : k = 9
              · exact .inl ⟨h9, by rw [beq_iff_eq]; omega, decide_eq_false (by omega), by rw [beq_eq_false_iff_ne]; omega⟩
              · refine .inr ?_
                by_cases h0k : 0 < k
                · exact .inr ⟨by rw [beq_eq_false_iff_ne]; omega, by rw [beq_eq_false_iff_ne]; omega⟩
                · exact .inl ⟨by rw [beq_eq_false_iff_ne]; omega, h0k⟩
            clear hb1 hb2
            have hstep : ∀ j, j < k + 1 → ∃ e : Nat, e < 256 ∧ w.cell? ⟨b, off + (s.at_ + j), none⟩ = some (.int .u8 (e : Int)) ∧ valL ((l.take (k + 1)).drop j) = e % 128 + 128 * valL ((l.take (k + 1)).drop (j + 1)) ∧ U64 (valL ((l.take (k + 1)).drop j)) := by
              intro j hj
              obtain ⟨b', off', hA, _, hc'⟩ := HC.out j (by omega)
              injection hA with hA
              injection hA with hA1 hA2
              subst hA1; subst hA2
              exact ⟨(l[j]).toNat, UInt8.toNat_lt _, hc', valL_step hj hk1, hu64.le (valL_drop_le _ _)⟩
            have HSTEP := Lib.hid hstep; clear hstep
            have hend : valL ((l.take (k + 1)).drop (k + 1)) = 0 := by rw [List.drop_of_length_le (by rw [List.length_take]; omega)]; rfl
            have HEND := Lib.hid hend; clear hend
            rcases hcase with ⟨h9, c1, c2, c3⟩ | ⟨c1, c2⟩ | ⟨c1, c2⟩
            · have hk0 : 0 < k := by omega
              have H9 := Lib.hid h9; clear h9
              go_wp2
              all_goals
                go_loop [6, 7] (fun x i => ∃ j : Nat, j ≤ k + 1 ∧ i = .int .i64 ((j : Int) - 1) ∧ x = .int .u64 ((valL ((l.take (k + 1)).drop j) : Nat) : Int)) (fun x i => (intOf i + 1).toNat)
                case atStart => exact ⟨k + 1, Nat.le_refl _, by go_num, by rw [HEND.out]; rfl⟩
                case round =>
                  obtain ⟨j, hj, rfl, rfl⟩ := hrel
                  rcases Nat.eq_zero_or_pos j with hj0 | hj0
                  · subst hj0
                    go_wp2
                    go_region
                    all_goals
                      go_wp2
                      go_returns
                      rw [HV4.out]
                      refine ⟨?_, by go_grown⟩
                      simp only [Int.natCast_add]
                      rfl
                  · obtain ⟨i, rfl⟩ : ∃ i, j = i + 1 := ⟨j - 1, by omega⟩
                    obtain ⟨e, he, hce, hve, hue⟩ := HSTEP.out i (by omega)
                    obtain ⟨v, hv⟩ : ∃ v, v = valL ((l.take (k + 1)).drop (i + 1)) := ⟨_, rfl⟩
                    rw [← hv] at hve ⊢
                    have hvu := hue.out
                    have hw1 : IntKind.u64.wrap ((v : Int) * 128) = (v : Int) * 128 := IntWalk.u64_in _ ⟨by omega, by omega⟩
                    have hw2 : IntKind.u64.wrap ((v : Int) * 128 + (e : Int) % 128) = (v : Int) * 128 + (e : Int) % 128 := IntWalk.u64_in _ ⟨by omega, by omega⟩
                    have hsi : (s.at_ : Int) + (i : Int) < (s.b.length : Int) := by omega
                    have HVE := Lib.hid hve; clear hve hvu hue
                    have HV2 := Lib.hid hv; clear hv
                    go_wp2
                    go_round
                    case rel => exact ⟨i, by omega, by go_num, by rw [HVE.out]; go_num⟩
                    case measure => simp [intOf]
            · go_wp2
              all_goals
                go_loop [6, 7] (fun x i => ∃ j : Nat, j ≤ k + 1 ∧ i = .int .i64 ((j : Int) - 1) ∧ x = .int .u64 ((valL ((l.take (k + 1)).drop j) : Nat) : Int)) (fun x i => (intOf i + 1).toNat)
                case atStart => exact ⟨k + 1, Nat.le_refl _, by go_num, by rw [HEND.out]; rfl⟩
                case round =>
                  obtain ⟨j, hj, rfl, rfl⟩ := hrel
                  rcases Nat.eq_zero_or_pos j with hj0 | hj0
                  · subst hj0
                    go_wp2
                    go_region
                    all_goals
                      go_wp2
                      go_returns
                      rw [HV4.out]
                      refine ⟨?_, by go_grown⟩
                      simp only [Int.natCast_add]
                      rfl
                  · obtain ⟨i, rfl⟩ : ∃ i, j = i + 1 := ⟨j - 1, by omega⟩
                    obtain ⟨e, he, hce, hve, hue⟩ := HSTEP.out i (by omega)
                    obtain ⟨v, hv⟩ : ∃ v, v = valL ((l.take (k + 1)).drop (i + 1)) := ⟨_, rfl⟩
                    rw [← hv] at hve ⊢
                    have hvu := hue.out
                    have hw1 : IntKind.u64.wrap ((v : Int) * 128) = (v : Int) * 128 := IntWalk.u64_in _ ⟨by omega, by omega⟩
                    have hw2 : IntKind.u64.wrap ((v : Int) * 128 + (e : Int) % 128) = (v : Int) * 128 + (e : Int) % 128 := IntWalk.u64_in _ ⟨by omega, by omega⟩
                    have hsi : (s.at_ : Int) + (i : Int) < (s.b.length : Int) := by omega
                    have HVE := Lib.hid hve; clear hve hvu hue
                    have HV2 := Lib.hid hv; clear hv
                    go_wp2
                    go_round
                    case rel => exact ⟨i, by omega, by go_num, by rw [HVE.out]; go_num⟩
                    case measure => simp [intOf]
            · go_wp2
              all_goals
                go_loop [6, 7] (fun x i => ∃ j : Nat, j ≤ k + 1 ∧ i = .int .i64 ((j : Int) - 1) ∧ x = .int .u64 ((valL ((l.take (k + 1)).drop j) : Nat) : Int)) (fun x i => (intOf i + 1).toNat)
                case atStart => exact ⟨k + 1, Nat.le_refl _, by go_num, by rw [HEND.out]; rfl⟩
                case round =>
                  obtain ⟨j, hj, rfl, rfl⟩ := hrel
                  rcases Nat.eq_zero_or_pos j with hj0 | hj0
                  · subst hj0
                    go_wp2
                    go_region
                    all_goals
                      go_wp2
                      go_returns
                      rw [HV4.out]
                      refine ⟨?_, by go_grown⟩
                      simp only [Int.natCast_add]
                      rfl
                  · obtain ⟨i, rfl⟩ : ∃ i, j = i + 1 := ⟨j - 1, by omega⟩
                    obtain ⟨e, he, hce, hve, hue⟩ := HSTEP.out i (by omega)
                    obtain ⟨v, hv⟩ : ∃ v, v = valL ((l.take (k + 1)).drop (i + 1)) := ⟨_, rfl⟩
                    rw [← hv] at hve ⊢
                    have hvu := hue.out
                    have hw1 : IntKind.u64.wrap ((v : Int) * 128) = (v : Int) * 128 := IntWalk.u64_in _ ⟨by omega, by omega⟩
                    have hw2 : IntKind.u64.wrap ((v : Int) * 128 + (e : Int) % 128) = (v : Int) * 128 + (e : Int) % 128 := IntWalk.u64_in _ ⟨by omega, by omega⟩
                    have hsi : (s.at_ : Int) + (i : Int) < (s.b.length : Int) := by omega
                    have HVE := Lib.hid hve; clear hve hvu hue
                    have HV2 := Lib.hid hv; clear hv
                    go_wp2
                    go_round
                    case rel => exact ⟨i, by omega, by go_num, by rw [HVE.out]; go_num⟩
                    case measure => simp [intOf]
          · have hk9' : k < 9 := by
              rcases Nat.lt_or_ge k 9 with h | h
              · exact h
              · exact absurd ⟨by omega, by omega⟩ hb1
            have hrel : varGo l 0 = (varGo (l.drop (k + 1)) (k + 1)).after (valL (l.take (k + 1))) (k + 1) := by
              rw [HV.out, varGo_more' hlt ED.out _ HB.out h8, HTK.out]
            have HR := Lib.hid hrel; clear hrel
            have hb9 : (((k : Nat) : Int) == 9) = false := by rw [beq_eq_false_iff_ne]; omega
            have hb0 : (((d : Nat) : Int) == 0) = false := by rw [beq_eq_false_iff_ne]; omega
            clear hb1 hb2
            go_wp2
            all_goals
              go_round
              case rel => exact ⟨k + 1, by omega, by omega, by go_num, HR.out⟩
              case measure => simp [intOf]; omega
      · have hv3 : R = (0, { s with err := 2 }) := by rw [H1.out, HV.out, varGo_end hge]
        have HV3 := Lib.hid hv3; clear hv3
        have hu : (s.b.length : Int) ≤ (s.at_ : Int) + (k : Int) := by omega
        go_wp2
        go_region
        all_goals
          go_wp2
          go_returns
          rw [HV3.out]
          exact ⟨rfl, by go_grown⟩
  · have hb : (((s.err : Nat) : Int) != 0) = true := by rw [bne_iff_ne]; omega
    have e1 : varR s = (0, s) := if_pos h0
    rw [e1]
    clear e1
    have H0 := Lib.hid h0; clear h0
    unfold rsV
    go_enter Try.func90, Try.ntmps90
    go_wp2
    go_region
    all_goals
      go_wp2
      go_returns
      exact ⟨rfl, by go_grown⟩
end Go.Proofs.Ytcffinkkfdfcaaa

/- What the reference's reader does: Text. Conditions: lengths that fit. -/
namespace Go.Proofs.Ytcffinkkfdfcaaa
open Go Go.RowKit

theorem varR_b (s : RS) : (varR s).2.b = s.b := by
  unfold varR
  split
  · rfl
  · split <;> rfl
theorem varR_at (s : RS) (h : s.at_ ≤ s.b.length) : (varR s).2.at_ ≤ s.b.length := by
  unfold varR
  split
  · exact h
  · split
    · exact h
    · rename_i n k hg
      have := (varGo_u64 hg).2.1
      rw [List.length_drop] at this
      show s.at_ + k ≤ _
      omega

set_option maxRecDepth 100000 in
set_option maxHeartbeats 1000000 in
theorem refText_no (A : Option Addr) (c : Nat) (s s1 : RS) (n : Nat) (most : Int) (E : Nat) (w : World) (h : RsOk w A c s) (hv : varR s = (n, s1)) (hm : (Lit.int .i64 most).wf = true)
    (hE : (s1.err ≠ 0 ∧ E = s1.err) ∨ (s1.err = 0 ∧ most < 0 ∧ E = 4) ∨ (s1.err = 0 ∧ 0 ≤ most ∧ most < (n : Int) ∧ E = 4) ∨ (s1.err = 0 ∧ 0 ≤ most ∧ (n : Int) ≤ most ∧ s1.b.length < s1.at_ + n ∧ E = 2)) :
    Calls Try.prog 94 #[rsV A c s, .int .i64 most] w fun e w' => e = .returned (.tuple #[.slice none 0 0, rsV A c { s with err := E }]) ∧ Below w.heap.size w w' := by
  have h' := h
  obtain ⟨h1, h2, h3, h4, h5⟩ := h
  obtain ⟨hm1, hm2⟩ := bounds_i64 hm
  have hsb : s1.b = s.b := by have := varR_b s; rw [hv] at this; exact this
  have hsa : s1.at_ ≤ s.b.length := by have := varR_at s h4; rw [hv] at this; exact this
  have hV := fun (w : World) (hh : RsOk w A c s) => refVarR_c A c s w hh
  rw [hv] at hV
  unfold rsV at hV
  simp only [hsb] at hV hE
  have HV := Lib.hid hV; clear hV hv
  have hR : ∀ o1 o2, RsOk ((w.alloc o1).alloc o2) A c s := fun o1 o2 => ⟨(h1.alloc o1).alloc o2, h2, h3, h4, h5⟩
  have HR := Lib.hid hR; clear hR h' h1
  have HSB := Lib.hid hsb; clear hsb
  unfold rsV
  rcases hE with ⟨he, rfl⟩ | ⟨he, hl, rfl⟩ | ⟨he, hl0, hl, rfl⟩ | ⟨he, hl0, hl1, hl, rfl⟩
  · have e0 : (((s1.err : Nat) : Int) != 0) = true := by rw [bne_iff_ne]; omega
    clear he
    go_enter Try.func94, Try.ntmps94
    go_wp2_with (fail)
    refine (HV.out _ (HR.out _ _)).mono ?_
    rintro e w1 ⟨rfl, hb1⟩
    have z := hb1.size
    simp only [World.size_alloc] at z hb1
    have x0 := box3 ((hb1.block w.heap.size (by omega)).trans (heap2_old w _ _))
    have x1 := box3 ((hb1.block (w.heap.size + 1) (by omega)).trans (heap2_new w _ _))
    obtain ⟨⟨a0, a1, a2⟩, b0, b1, b2⟩ := x0
    obtain ⟨⟨d0, d1, d2⟩, f0, f1, f2⟩ := x1
    have hB : Below w.heap.size w w1 := (((Below.refl _ _).alloc (Nat.le_refl _) _).alloc (by simp) _).trans (hb1.mono (by omega))
    have z1 : w.heap.size < w1.heap.size := by omega
    have z2 : w.heap.size + 1 < w1.heap.size := by omega
    have hsub := IntWalk.u64_in ((s.b.length : Int) - (s1.at_ : Int)) ⟨by omega, by omega⟩
    go_wp2_with (fail)
    go_region
    all_goals
      go_wp2
      refine bodyPost_ret (v := .tuple #[.slice none 0 0, .agg #[.slice A s.b.length c, .int .i64 (s.at_ : Int), .int .i64 (s1.err : Int)]]) (by simp [results, Try.results94, go_sem, d0, d1, d2, z2]) rfl ?_
      exact ⟨rfl, by go_grown⟩
  · have e0 : (((s1.err : Nat) : Int) != 0) = false := by rw [bne_eq_false_iff_eq]; omega
    clear he
    go_enter Try.func94, Try.ntmps94
    go_wp2_with (fail)
    refine (HV.out _ (HR.out _ _)).mono ?_
    rintro e w1 ⟨rfl, hb1⟩
    have z := hb1.size
    simp only [World.size_alloc] at z hb1
    have x0 := box3 ((hb1.block w.heap.size (by omega)).trans (heap2_old w _ _))
    have x1 := box3 ((hb1.block (w.heap.size + 1) (by omega)).trans (heap2_new w _ _))
    obtain ⟨⟨a0, a1, a2⟩, b0, b1, b2⟩ := x0
    obtain ⟨⟨d0, d1, d2⟩, f0, f1, f2⟩ := x1
    have hB : Below w.heap.size w w1 := (((Below.refl _ _).alloc (Nat.le_refl _) _).alloc (by simp) _).trans (hb1.mono (by omega))
    have z1 : w.heap.size < w1.heap.size := by omega
    have z2 : w.heap.size + 1 < w1.heap.size := by omega
    have hsub := IntWalk.u64_in ((s.b.length : Int) - (s1.at_ : Int)) ⟨by omega, by omega⟩
    go_wp2_with (fail)
    go_region
    all_goals
      go_wp2
      refine bodyPost_ret (v := .tuple #[.slice none 0 0, .agg #[.slice A s.b.length c, .int .i64 (s.at_ : Int), .int .i64 (4 : Int)]]) (by simp [results, Try.results94, go_sem, d0, d1, d2, z2]) rfl ?_
      exact ⟨rfl, by go_grown⟩
  · have e0 : (((s1.err : Nat) : Int) != 0) = false := by rw [bne_eq_false_iff_eq]; omega
    clear he
    go_enter Try.func94, Try.ntmps94
    go_wp2_with (fail)
    refine (HV.out _ (HR.out _ _)).mono ?_
    rintro e w1 ⟨rfl, hb1⟩
    have z := hb1.size
    simp only [World.size_alloc] at z hb1
    have x0 := box3 ((hb1.block w.heap.size (by omega)).trans (heap2_old w _ _))
    have x1 := box3 ((hb1.block (w.heap.size + 1) (by omega)).trans (heap2_new w _ _))
    obtain ⟨⟨a0, a1, a2⟩, b0, b1, b2⟩ := x0
    obtain ⟨⟨d0, d1, d2⟩, f0, f1, f2⟩ := x1
    have hB : Below w.heap.size w w1 := (((Below.refl _ _).alloc (Nat.le_refl _) _).alloc (by simp) _).trans (hb1.mono (by omega))
    have z1 : w.heap.size < w1.heap.size := by omega
    have z2 : w.heap.size + 1 < w1.heap.size := by omega
    have hsub := IntWalk.u64_in ((s.b.length : Int) - (s1.at_ : Int)) ⟨by omega, by omega⟩
    go_wp2_with (fail)
    go_region
    all_goals
      go_wp2
      refine bodyPost_ret (v := .tuple #[.slice none 0 0, .agg #[.slice A s.b.length c, .int .i64 (s.at_ : Int), .int .i64 (4 : Int)]]) (by simp [results, Try.results94, go_sem, d0, d1, d2, z2]) rfl ?_
      exact ⟨rfl, by go_grown⟩
  · have e0 : (((s1.err : Nat) : Int) != 0) = false := by rw [bne_eq_false_iff_eq]; omega
    clear he
    have hl' : (s.b.length : Int) - (s1.at_ : Int) < (n : Int) := by omega
    go_enter Try.func94, Try.ntmps94
    go_wp2_with (fail)
    refine (HV.out _ (HR.out _ _)).mono ?_
    rintro e w1 ⟨rfl, hb1⟩
    have z := hb1.size
    simp only [World.size_alloc] at z hb1
    have x0 := box3 ((hb1.block w.heap.size (by omega)).trans (heap2_old w _ _))
    have x1 := box3 ((hb1.block (w.heap.size + 1) (by omega)).trans (heap2_new w _ _))
    obtain ⟨⟨a0, a1, a2⟩, b0, b1, b2⟩ := x0
    obtain ⟨⟨d0, d1, d2⟩, f0, f1, f2⟩ := x1
    have hB : Below w.heap.size w w1 := (((Below.refl _ _).alloc (Nat.le_refl _) _).alloc (by simp) _).trans (hb1.mono (by omega))
    have z1 : w.heap.size < w1.heap.size := by omega
    have z2 : w.heap.size + 1 < w1.heap.size := by omega
    have hsub := IntWalk.u64_in ((s.b.length : Int) - (s1.at_ : Int)) ⟨by omega, by omega⟩
    go_wp2_with (fail)
    go_region
    all_goals
      go_wp2
      refine bodyPost_ret (v := .tuple #[.slice none 0 0, .agg #[.slice A s.b.length c, .int .i64 (s.at_ : Int), .int .i64 (2 : Int)]]) (by simp [results, Try.results94, go_sem, d0, d1, d2, z2]) rfl ?_
      exact ⟨rfl, by go_grown⟩

set_option maxRecDepth 100000 in
set_option maxHeartbeats 1000000 in
theorem refText_yes (A : Option Addr) (c : Nat) (s s1 : RS) (n : Nat) (most : Int) (w : World) (h : RsOk w A c s) (hv : varR s = (n, s1)) (hm : (Lit.int .i64 most).wf = true)
    (he : s1.err = 0) (hl0 : 0 ≤ most) (hl1 : (n : Int) ≤ most) (hl : s1.at_ + n ≤ s1.b.length) :
    Calls Try.prog 94 #[rsV A c s, .int .i64 most] w fun e w' => ∃ v, e = .returned (.tuple #[v, rsV A c { s1 with at_ := s1.at_ + n }]) ∧ OwnB w' w.heap.size v ((s1.b.drop s1.at_).take n) ∧ Below w.heap.size w w' := by
  obtain ⟨h1, h2, h3, h4, h5⟩ := h
  obtain ⟨hm1, hm2⟩ := bounds_i64 hm
  have hsb : s1.b = s.b := by have := varR_b s; rw [hv] at this; exact this
  have hsa : s1.at_ ≤ s.b.length := by have := varR_at s h4; rw [hv] at this; exact this
  have hV := fun (w : World) (hh : RsOk w A c s) => refVarR_c A c s w hh
  rw [hv] at hV
  have ht : takeR s1 (n : Int) = ((s1.b.drop s1.at_).take n, { s1 with at_ := s1.at_ + n }) := by
    rw [takeR, if_neg (by omega), if_neg (by omega), if_neg (by omega)]; rfl
  have hT := fun (w : World) (hh : RsOk w A c s1) => refTake_c A c s1 (n : Int) w hh (WalkArith.wf_i64 (by omega))
  rw [ht] at hT
  unfold rsV at hV hT
  simp only [hsb] at hV hT hl
  have HV := Lib.hid hV; clear hV hv ht
  have HT := Lib.hid hT; clear hT
  have hR : ∀ o1 o2, RsOk ((w.alloc o1).alloc o2) A c s := fun o1 o2 => ⟨(h1.alloc o1).alloc o2, h2, h3, h4, h5⟩
  have hR1 : ∀ w1, Below w.heap.size w w1 → RsOk w1 A c s1 := fun w1 hb => ⟨by rw [hsb]; exact h1.below hb, by rw [hsb]; exact h2, h3, by rw [hsb]; exact hsa, by rw [hsb]; exact h5⟩
  have HR := Lib.hid hR; clear hR h1
  have HR1 := Lib.hid hR1; clear hR1
  have e0 : (((s1.err : Nat) : Int) != 0) = false := by rw [bne_eq_false_iff_eq]; omega
  have hl' : (n : Int) ≤ (s.b.length : Int) - (s1.at_ : Int) := by omega
  unfold rsV
  simp only [hsb]
  have HSB := Lib.hid hsb; clear hsb he
  go_enter Try.func94, Try.ntmps94
  go_wp2_with (fail)
  refine (HV.out _ (HR.out _ _)).mono ?_
  rintro e w1 ⟨rfl, hb1⟩
  have z := hb1.size
  simp only [World.size_alloc] at z hb1
  have x0 := box3 ((hb1.block w.heap.size (by omega)).trans (heap2_old w _ _))
  obtain ⟨⟨a0, a1, a2⟩, b0, b1, b2⟩ := x0
  have hB : Below w.heap.size w w1 := (((Below.refl _ _).alloc (Nat.le_refl _) _).alloc (by simp) _).trans (hb1.mono (by omega))
  have z1 : w.heap.size < w1.heap.size := by omega
  have z2 : w.heap.size + 1 < w1.heap.size := by omega
  have hsub := IntWalk.u64_in ((s.b.length : Int) - (s1.at_ : Int)) ⟨by omega, by omega⟩
  go_wp2_with (fail)
  have hBa : Below w.heap.size w (w1.alloc (.cells #[.slice A s.b.length c, .int .i64 (s1.at_ : Int), .int .i64 (s1.err : Int)] 152)) := hB.alloc hB.size _
  refine (HT.out _ (HR1.out _ hBa)).mono ?_
  rintro e w2 ⟨v, rfl, ho, hb2⟩
  have y := hb2.size
  simp only [World.size_alloc] at y hb2 ho
  have x1 := box3 ((hb2.block (w.heap.size + 1) (by omega)).trans ((Below.heap_alloc _ _ _ z2).trans ((hb1.block (w.heap.size + 1) (by omega)).trans (heap2_new w _ _))))
  obtain ⟨⟨d0, d1, d2⟩, f0, f1, f2⟩ := x1
  have hB2 : Below w.heap.size w w2 := hBa.trans (hb2.mono (by omega))
  have HO := Lib.hid ho; clear ho
  go_wp2_with (fail)
  refine bodyPost_ret (v := .tuple #[v, .agg #[.slice A s.b.length c, .int .i64 ((s1.at_ + n : Nat) : Int), .int .i64 (s1.err : Int)]]) (by simp [results, Try.results94, go_sem, d0, d1, d2]) rfl ?_
  refine ⟨v, rfl, ?_, by go_grown⟩
  exact Own.low (Own.setBelow (Own.setBelow (Own.setBelow HO.out (by show w.heap.size + 1 < _; omega) _) (by show w.heap.size + 1 < _; omega) _) (by show w.heap.size + 1 < _; omega) _) (by omega)

theorem refTextR_c (A : Option Addr) (c : Nat) (s : RS) (most : Int) (w : World) (h : RsOk w A c s) (hm : (Lit.int .i64 most).wf = true) :
    Calls Try.prog 94 #[rsV A c s, .int .i64 most] w fun e w' => ∃ v, e = .returned (.tuple #[v, rsV A c (textR s most).2]) ∧ OwnB w' w.heap.size v (textR s most).1 ∧ Below w.heap.size w w' := by
  by_cases h0 : s.err = 0
  · cases hg : varGo (s.b.drop s.at_) 0 with
    | bad e =>
      have hv : varR s = (0, { s with err := e }) := by rw [varR, if_neg (by omega), hg]
      have ht : textR s most = ([], { s with err := e }) := by rw [textR, if_neg (by omega), hg]
      rw [ht]
      refine (refText_no A c s _ 0 most e w h hv hm (.inl ⟨by rcases varGo_err hg with rfl | rfl <;> simp, rfl⟩)).mono ?_
      rintro e w' ⟨rfl, h1⟩
      exact ⟨_, rfl, Own.nil_ _ _ _, h1⟩
    | ok n k =>
      have hv : varR s = (n, { s with at_ := s.at_ + k }) := by rw [varR, if_neg (by omega), hg]
      by_cases hl : most < 0 ∨ most < (n : Int)
      · have ht : textR s most = ([], { s with err := 4 }) := by rw [textR, if_neg (by omega), hg]; exact if_pos hl
        rw [ht]
        refine (refText_no A c s _ n most 4 w h hv hm (by
          rcases Int.lt_or_le most 0 with hq | hq
          · exact .inr (.inl ⟨h0, hq, rfl⟩)
          · exact .inr (.inr (.inl ⟨h0, hq, by omega, rfl⟩)))).mono ?_
        rintro e w' ⟨rfl, h1⟩
        exact ⟨_, rfl, Own.nil_ _ _ _, h1⟩
      · by_cases hs : s.b.length < s.at_ + k + n
        · have ht : textR s most = ([], { s with err := 2 }) := by rw [textR, if_neg (by omega), hg]; exact (if_neg hl).trans (if_pos hs)
          rw [ht]
          refine (refText_no A c s _ n most 2 w h hv hm (.inr (.inr (.inr ⟨h0, by omega, by omega, hs, rfl⟩)))).mono ?_
          rintro e w' ⟨rfl, h1⟩
          exact ⟨_, rfl, Own.nil_ _ _ _, h1⟩
        · have ht : textR s most = ((s.b.drop (s.at_ + k)).take n, { s with at_ := s.at_ + k + n }) := by rw [textR, if_neg (by omega), hg]; exact (if_neg hl).trans (if_neg hs)
          rw [ht]
          exact refText_yes A c s _ n most w h hv hm h0 (by omega) (by omega) (by show s.at_ + k + n ≤ s.b.length; omega)
  · have hv : varR s = (0, s) := if_pos h0
    have ht : textR s most = ([], s) := if_pos h0
    rw [ht]
    refine (refText_no A c s s 0 most s.err w h hv hm (.inl ⟨h0, rfl⟩)).mono ?_
    rintro e w' ⟨rfl, h1⟩
    exact ⟨_, rfl, Own.nil_ _ _ _, h1⟩
end Go.Proofs.Ytcffinkkfdfcaaa

/- The reference's reader in a block: three cells read and stored. Conditions: none. -/
namespace Go.Proofs.Ytcffinkkfdfcaaa
open Go Go.RowKit

/-- Three cells stored. -/
def set3 (w : World) (g : Nat) (u0 u1 u2 : Value) : World := ((w.setCell ⟨g, 0, none⟩ u0).setCell ⟨g, 1, none⟩ u1).setCell ⟨g, 2, none⟩ u2
theorem set3_heap {w : World} {g : Nat} {a0 a1 a2 u0 u1 u2 : Value} {t : TypeId} (h : w.heap[g]? = some (.cells #[a0, a1, a2] t (0, 0))) : (set3 w g u0 u1 u2).heap[g]? = some (.cells #[u0, u1, u2] t (0, 0)) := by
  unfold set3
  have h1 := heap_set h 0 u0
  have h2 := heap_set h1 1 u1
  have h3 := heap_set h2 2 u2
  rw [h3]
  rfl
theorem set3_keeps (w : World) (g : Nat) (u0 u1 u2 : Value) : Keeps (fun j => j = g) w (set3 w g u0 u1 u2) :=
  ((Keeps.set (fun j => j = g) w ⟨g, 0, none⟩ u0 rfl).trans (Keeps.set _ _ ⟨g, 1, none⟩ u1 rfl)).trans (Keeps.set _ _ ⟨g, 2, none⟩ u2 rfl)
theorem below_keeps {w0 w w' : World} {S : Nat → Prop} (h : Below w0.heap.size w0 w) (hk : Keeps S w w') (hS : ∀ j, S j → w0.heap.size ≤ j) : Below w0.heap.size w0 w' :=
  h.trans (hk.below (fun j hj => ⟨Nat.lt_of_lt_of_le hj h.size, fun e => by have := hS j e; omega⟩))
/-- A reader's three cells in a block. -/
def RdB (w : World) (g : Nat) (A : Option Addr) (c : Nat) (s : RS) : Prop := w.heap[g]? = some (.cells #[.slice A s.b.length c, .int .i64 (s.at_ : Int), .int .i64 (s.err : Int)] 152 (0, 0))
theorem RdB.cells {w : World} {g c : Nat} {A : Option Addr} {s : RS} (h : RdB w g A c s) : (w.cell? ⟨g, 0, none⟩ = some (.slice A s.b.length c) ∧ w.cell? ⟨g, 1, none⟩ = some (.int .i64 (s.at_ : Int)) ∧ w.cell? ⟨g, 2, none⟩ = some (.int .i64 (s.err : Int))) ∧ w.frozen? ⟨g, 0, none⟩ = false ∧ w.frozen? ⟨g, 1, none⟩ = false ∧ w.frozen? ⟨g, 2, none⟩ = false := box3 h
theorem RsOk.below2 {w w' : World} {A : Option Addr} {c : Nat} {s : RS} (h : RsOk w A c s) (hb : Below w.heap.size w w') : RsOk w' A c s := ⟨h.1.below hb, h.2⟩
end Go.Proofs.Ytcffinkkfdfcaaa
