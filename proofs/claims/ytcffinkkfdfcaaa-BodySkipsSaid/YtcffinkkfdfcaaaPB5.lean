/- Parts one behind the other: What the reference's bytes answer: a list's bytes; What the reference's Check answers; What tlv.Encode and the reference's Encode of items answer. Conditions: as told at each. -/
import Derived.Test.YtcffinkkfdfcaaaPB3
import Derived.Test.YtcffinkkfdfcaaaPB4

set_option linter.unusedVariables false
set_option linter.unusedSimpArgs false
/- What the reference's bytes answer: a list's bytes. Conditions: kinds and bytes that may be; no more items than so many. -/
namespace Go.Proofs.Ytcffinkkfdfcaaa
open Go Go.RowKit

set_option maxRecDepth 100000 in
set_option maxHeartbeats 4000000 in
theorem refBytes_c : ∀ (M : Nat) (f : Fo), f.size = M → f.good → f.size ≤ 100000 → ∀ (ok : Nat → Prop) (A : Option Addr) (n c : Nat) (w : World), f.len = n → FoR ok w A 0 f → n ≤ 2199023255488 →
    Calls Try.prog 66 #[.slice A n c] w fun r w' => ∃ v, r = .returned v ∧ OwnB w' w.heap.size v (layL f) ∧ Below w.heap.size w w' := by
  intro M
  induction M using Nat.strongRecOn with
  | _ M ih =>
    intro f hM hgood hsz ok A n c w hn h1 hl
    have IH := Lib.hid ih; clear ih
    have HN := Lib.hid hn; clear hn
    have H1 := Lib.hid h1; clear h1
    have HM := Lib.hid hM; clear hM
    have HG := Lib.hid hgood; clear hgood
    have HSZ := Lib.hid hsz; clear hsz
    have HLE : Hid ((layL f).length ≤ 4116 * 100000) := Lib.hid (by have := layL_le f HG.out HSZ.out; have := HSZ.out; omega)
    go_enter Try.func66, Try.ntmps66
    go_wp2_with (fail)
    go_loopw [3, 4] (fun v i wr => ∃ (k : Nat) (r : Fo) (P : List UInt8), i = .int .i64 k ∧ Hid (k + r.len = n) ∧ Hid (FoR ok w A k r) ∧ Hid r.good ∧ Hid (r.size ≤ f.size) ∧ Hid (OwnB wr w.heap.size v P) ∧ Hid (layL f = P ++ layL r) ∧ Below w.heap.size w wr) (fun _ i _ => n - (intOf i).toNat)
    case atStart => exact ⟨0, f, [], rfl, Lib.hid (by rw [HN.out]; omega), H1, HG, Lib.hid (Nat.le_refl _), Lib.hid (World.ownsRow_made w #[] 0 (Nat.le_refl _) (Nat.zero_le _) rfl), Lib.hid rfl, (Below.refl _ _).alloc (Nat.le_refl _) _⟩
    case round =>
      obtain ⟨k, r, P, rfl, HK, R1, HGr, HS, HO, HL, kb⟩ := hrel
      cases r with
      | nil =>
        have hk : k = n := HK.out
        have hk' : (n : Int) ≤ (k : Int) := by omega
        clear hk
        go_wp2_with (fail)
        go_ret
        exact ⟨_, rfl, by rw [HL.out, layL, List.append_nil]; exact HO.out, kb⟩
      | cons z cr li bs sub rest =>
        obtain ⟨⟨b1, o1, At1, m1, cm1, As1, e1, rfl, hb1, -, ⟨x0, x1, x2, x3, x4⟩, t1, s1, l1, l2, l3⟩, r1⟩ := R1.out.one
        obtain ⟨g1, g2, g3, g4, -, g5⟩ := t1
        obtain ⟨z1, z2, z3, zs, zr⟩ := HGr.out
        have hkn : k < n := by have := HK.out; simp only [Fo.len] at this; omega
        have hlt' : (k : Int) < (n : Int) := by omega
        have R1b := Lib.hid r1
        have S1 := Lib.hid s1
        have G1 := Lib.hid g1
        have G2 := Lib.hid g2
        have ZS := Lib.hid zs
        have ZR := Lib.hid zr
        have HSb : Hid (rest.size ≤ f.size) := Lib.hid (by have := HS.out; simp only [Fo.size] at this; omega)
        have HSs : Hid (sub.size < M ∧ sub.size ≤ 100000) := Lib.hid (by have := HS.out; have := HM.out; have := HSZ.out; simp only [Fo.size] at *; omega)
        have HKb : Hid (k + 1 + rest.len = n) := Lib.hid (by have := HK.out; simp only [Fo.len] at this; omega)
        obtain ⟨sl, esl⟩ : ∃ sl, sl = sub.len := ⟨_, rfl⟩
        rw [← esl] at x4 l1 l3
        have ESL := Lib.hid esl
        rw [← kb.cell (p := ⟨b1, _, none⟩) hb1] at x0 x1 x2 x3 x4
        have hPl : Hid (P.length ≤ 4116 * 100000) := Lib.hid (by have := HLE.out; rw [HL.out, List.length_append] at this; omega)
        have hbs : Hid (bs.length ≤ 4096) := Lib.hid z3
        have KB := Lib.hid kb
        have HB1 := Lib.hid hb1
        clear g1 g2 r1 s1 zs zr HK HS esl R1 HGr z3 g3 g4
        cases cr with
        | true =>
          cases li with
          | true =>
            obtain ⟨N, eN⟩ : ∃ N, N = numI z true true := ⟨_, rfl⟩
            have hN : (N : Int) = z * 4 + 2 + 1 := by rw [eN]; unfold numI; simp; omega
            have hN2 : N ≤ 4003 := by rw [eN]; exact numI_le _ _ z1 z2
            have EN := Lib.hid eN
            clear eN
            go_wp2_with (fail)
            refine (IH.out sub.size HSs.out.1 sub rfl ZS.out HSs.out.2 ok As1 sl e1 wr ESL.out.symm (S1.out.below KB.out) l3).mono ?_
            rintro r w1 ⟨vi, rfl, hoi, hbi⟩
            obtain ⟨Ai, ci, evi, i1, i2, i3, i4⟩ := OwnB.form hoi
            obtain ⟨I, eI⟩ : ∃ I, I = layL sub := ⟨_, rfl⟩
            have hIl : I.length ≤ 4116 * 100000 := by rw [eI]; have := layL_le sub ZS.out HSs.out.2; have := HSs.out.2; omega
            rw [← eI] at evi i1 i3
            obtain ⟨ni, eni⟩ : ∃ ni, ni = I.length := ⟨_, rfl⟩
            rw [← eni] at evi hIl
            subst evi
            have hsep : I.map bv ≠ [] → ∀ b off, Ai = some ⟨b, off, none⟩ → b < w1.heap.size ∧ ∀ j, u3.ownBlock = some j → j ≠ b := fun _ b off e => by
              have q := i4 _ e
              refine ⟨q.2.1, fun j hj => ?_⟩
              have := (Own.lt HO.out j hj).2
              have : wr.heap.size ≤ b := q.1
              omega
            have hb1' : Below wr.heap.size wr w1 := hbi
            have EI := Lib.hid eI
            have ENI := Lib.hid eni
            clear hoi hbi eI i1 i2 i4 eni
            go_wp2_with (fail)
            rw [← hN]
            refine (refVar_c N w1 (by unfold U64; omega)).mono ?_
            rintro r w2 ⟨v2, rfl, ho2, hb2⟩
            obtain ⟨A2, c2, ev2, -, -, R2', -⟩ := OwnB.form ho2
            obtain ⟨n2, en2⟩ : ∃ n2, n2 = (varL N).length := ⟨_, rfl⟩
            have hn2 : n2 ≤ 10 := by rw [en2]; exact varL_10 (by omega)
            rw [← en2] at ev2
            subst ev2
            have R2 := Lib.hid R2'
            have EN2 := Lib.hid en2
            have HB2 := Lib.hid (hb1'.trans (hb2.mono hb1'.size))
            have HZ2 := Lib.hid hb2.size
            have HO2 := Lib.hid (Own.below HO.out HB2.out)
            have HK2 := Lib.hid (KB.out.trans (HB2.out.mono KB.out.size))
            have RI2 := Lib.hid (i3.below hb2)
            have SEP := Lib.hid hsep
            have hz2 : w.heap.size ≤ w2.heap.size := HK2.out.size
            have wni := u64_wrapN (n := ni) (by unfold U64; omega)
            clear ho2 hb2 R2' en2 i3 hsep
            go_wp2_with (at_builtin; refine wpList_appB _ rfl (.tmp 46) (.tmp 48) rfl w.heap.size _ P rfl HO2.out A2 n2 c2 (varL N) rfl EN2.out.symm R2.out (by have := hPl.out; omega) hz2 ?_; intro v3 w3 ho3 hg3 hv3; have HO3 := Lib.hid ho3; have HK3 := Lib.hid (HK2.out.grown hg3 HK2.out.size (fun j hj => (Own.lt HO2.out j hj).1)); have RI3 := Lib.hid (RI2.out.grownS hg3 (fun hne b off e ej => (SEP.out hne b off e).2 b ej rfl)); have HV3 : Hid (v3.ownBlock = u3.ownBlock ∨ v3.ownBlock = some w2.heap.size) := Lib.hid hv3; have HZ3 := Lib.hid hg3.size; clear ho3 hg3 hv3 hz2)
            refine (refVar_c ni w3 (by unfold U64; omega)).mono ?_
            rintro r w4 ⟨v4, rfl, ho4, hb4⟩
            obtain ⟨A4, c4, ev4, -, -, R4', -⟩ := OwnB.form ho4
            obtain ⟨n4, en4⟩ : ∃ n4, n4 = (varL ni).length := ⟨_, rfl⟩
            have hn4 : n4 ≤ 10 := by rw [en4]; exact varL_10 (by omega)
            rw [← en4] at ev4
            subst ev4
            have R4 := Lib.hid R4'
            have EN4 := Lib.hid en4
            have HO4 := Lib.hid (Own.below HO3.out hb4)
            have HK4 := Lib.hid (HK3.out.trans (hb4.mono HK3.out.size))
            have RI4 := Lib.hid (RI3.out.below hb4)
            have hz4 : w.heap.size ≤ w4.heap.size := HK4.out.size
            have hP3 : Hid ((P ++ varL N).length ≤ 4116 * 100000 + 10) := Lib.hid (by rw [List.length_append, ← EN2.out]; have := hPl.out; omega)
            clear ho4 hb4 R4' en4 wni
            go_wp2_with (first
              | (at_builtin; refine wpList_appB _ rfl (.tmp 50) (.tmp 54) rfl w.heap.size _ (P ++ varL N) rfl HO4.out A4 n4 c4 (varL ni) rfl EN4.out.symm R4.out (by have := hP3.out; omega) hz4 ?_; intro v5 w5 ho5 hg5 hv5; have HO5 := Lib.hid ho5; have HK5 := Lib.hid (HK4.out.grown hg5 HK4.out.size (fun j hj => (Own.lt HO4.out j hj).1)); have RI5 := Lib.hid (RI4.out.grownS hg5 (fun hne b off e ej => Or.elim HV3.out (fun q => (SEP.out hne b off e).2 b (q.symm.trans ej) rfl) (fun q => by (have ej' := Option.some.inj (q.symm.trans ej); have := (SEP.out hne b off e).1; have := HZ2.out; omega)))); have hz5 : w.heap.size ≤ w5.heap.size := HK5.out.size; have hP5 : Hid ((P ++ varL N ++ varL ni).length ≤ 4116 * 100000 + 20) := Lib.hid (by rw [List.length_append, ← EN4.out]; have := hP3.out; omega); clear ho5 hg5 hv5 hz4)
              | (at_builtin; refine wpList_appB _ rfl (.tmp 56) (.tmp 57) rfl w.heap.size _ (P ++ varL N ++ varL ni) rfl HO5.out Ai ni ci I rfl ENI.out.symm RI5.out (by have := hP5.out; omega) hz5 ?_; intro v6 w6 ho6 hg6 _; have HO6 := Lib.hid ho6; have HK6 := Lib.hid (HK5.out.grown hg6 HK5.out.size (fun j hj => (Own.lt HO5.out j hj).1)); clear ho6 hg6))
            go_roundw
            case rel => exact ⟨k + 1, rest, P ++ varL N ++ varL ni ++ I, by go_num, HKb, R1b, ZR, HSb, HO6, Lib.hid (by rw [HL.out, layL, EN.out, ENI.out, EI.out]; simp only [List.append_assoc]; rfl), HK6.out⟩
            case measure => simp [intOf]; omega
          | false =>
            obtain ⟨N, eN⟩ : ∃ N, N = numI z true false := ⟨_, rfl⟩
            have hN : (N : Int) = z * 4 + 2 := by rw [eN]; unfold numI; simp; omega
            have hN2 : N ≤ 4003 := by rw [eN]; exact numI_le _ _ z1 z2
            have EN := Lib.hid eN
            clear eN
            obtain ⟨w1, ew1⟩ : ∃ w1, w1 = wr := ⟨_, rfl⟩
            obtain ⟨I, eI⟩ : ∃ I, I = bs := ⟨_, rfl⟩
            have eni : m1 = I.length := by rw [eI]; exact G1.out.symm
            obtain ⟨Ai, eAi⟩ : ∃ Ai, Ai = At1 := ⟨_, rfl⟩
            have i3 : Rd w1 Ai (I.map bv) := by rw [ew1, eAi, eI]; exact G2.out.below KB.out
            have hIl : m1 ≤ 4116 * 100000 := by rw [eni, eI]; have := hbs.out; omega
            have hsep : I.map bv ≠ [] → ∀ b off, Ai = some ⟨b, off, none⟩ → b < w1.heap.size ∧ ∀ j, u3.ownBlock = some j → j ≠ b := fun hne b off e => by
              rcases G2.out with h | ⟨b', off', e', hb', _⟩
              · exact absurd (by rw [eI]; exact h) hne
              · rw [eAi, e'] at e; injection e with e; injection e with e
                have := KB.out.size
                refine ⟨by rw [ew1]; omega, fun j hj => ?_⟩
                have := (Own.lt HO.out j hj).1
                omega
            have hb1' : Below wr.heap.size wr w1 := by rw [ew1]; exact Below.refl _ _
            have EI := Lib.hid eI
            have EW1 := Lib.hid ew1
            have EAI := Lib.hid eAi
            have ENI := Lib.hid eni
            clear eI ew1 eAi eni
            go_wp2_with (fail)
            rw [← EW1.out, ← EAI.out]
            rw [← hN]
            refine (refVar_c N w1 (by unfold U64; omega)).mono ?_
            rintro r w2 ⟨v2, rfl, ho2, hb2⟩
            obtain ⟨A2, c2, ev2, -, -, R2', -⟩ := OwnB.form ho2
            obtain ⟨n2, en2⟩ : ∃ n2, n2 = (varL N).length := ⟨_, rfl⟩
            have hn2 : n2 ≤ 10 := by rw [en2]; exact varL_10 (by omega)
            rw [← en2] at ev2
            subst ev2
            have R2 := Lib.hid R2'
            have EN2 := Lib.hid en2
            have HB2 := Lib.hid (hb1'.trans (hb2.mono hb1'.size))
            have HZ2 := Lib.hid hb2.size
            have HO2 := Lib.hid (Own.below HO.out HB2.out)
            have HK2 := Lib.hid (KB.out.trans (HB2.out.mono KB.out.size))
            have RI2 := Lib.hid (i3.below hb2)
            have SEP := Lib.hid hsep
            have hz2 : w.heap.size ≤ w2.heap.size := HK2.out.size
            have wni := u64_wrapN (n := m1) (by unfold U64; omega)
            clear ho2 hb2 R2' en2 i3 hsep
            go_wp2_with (at_builtin; refine wpList_appB _ rfl (.tmp 46) (.tmp 48) rfl w.heap.size _ P rfl HO2.out A2 n2 c2 (varL N) rfl EN2.out.symm R2.out (by have := hPl.out; omega) hz2 ?_; intro v3 w3 ho3 hg3 hv3; have HO3 := Lib.hid ho3; have HK3 := Lib.hid (HK2.out.grown hg3 HK2.out.size (fun j hj => (Own.lt HO2.out j hj).1)); have RI3 := Lib.hid (RI2.out.grownS hg3 (fun hne b off e ej => (SEP.out hne b off e).2 b ej rfl)); have HV3 : Hid (v3.ownBlock = u3.ownBlock ∨ v3.ownBlock = some w2.heap.size) := Lib.hid hv3; have HZ3 := Lib.hid hg3.size; clear ho3 hg3 hv3 hz2)
            refine (refVar_c m1 w3 (by unfold U64; omega)).mono ?_
            rintro r w4 ⟨v4, rfl, ho4, hb4⟩
            obtain ⟨A4, c4, ev4, -, -, R4', -⟩ := OwnB.form ho4
            obtain ⟨n4, en4⟩ : ∃ n4, n4 = (varL m1).length := ⟨_, rfl⟩
            have hn4 : n4 ≤ 10 := by rw [en4]; exact varL_10 (by omega)
            rw [← en4] at ev4
            subst ev4
            have R4 := Lib.hid R4'
            have EN4 := Lib.hid en4
            have HO4 := Lib.hid (Own.below HO3.out hb4)
            have HK4 := Lib.hid (HK3.out.trans (hb4.mono HK3.out.size))
            have RI4 := Lib.hid (RI3.out.below hb4)
            have hz4 : w.heap.size ≤ w4.heap.size := HK4.out.size
            have hP3 : Hid ((P ++ varL N).length ≤ 4116 * 100000 + 10) := Lib.hid (by rw [List.length_append, ← EN2.out]; have := hPl.out; omega)
            clear ho4 hb4 R4' en4 wni
            go_wp2_with (first
              | (at_builtin; refine wpList_appB _ rfl (.tmp 50) (.tmp 54) rfl w.heap.size _ (P ++ varL N) rfl HO4.out A4 n4 c4 (varL m1) rfl EN4.out.symm R4.out (by have := hP3.out; omega) hz4 ?_; intro v5 w5 ho5 hg5 hv5; have HO5 := Lib.hid ho5; have HK5 := Lib.hid (HK4.out.grown hg5 HK4.out.size (fun j hj => (Own.lt HO4.out j hj).1)); have RI5 := Lib.hid (RI4.out.grownS hg5 (fun hne b off e ej => Or.elim HV3.out (fun q => (SEP.out hne b off e).2 b (q.symm.trans ej) rfl) (fun q => by (have ej' := Option.some.inj (q.symm.trans ej); have := (SEP.out hne b off e).1; have := HZ2.out; omega)))); have hz5 : w.heap.size ≤ w5.heap.size := HK5.out.size; have hP5 : Hid ((P ++ varL N ++ varL m1).length ≤ 4116 * 100000 + 20) := Lib.hid (by rw [List.length_append, ← EN4.out]; have := hP3.out; omega); clear ho5 hg5 hv5 hz4)
              | (at_builtin; refine wpList_appB _ rfl (.tmp 56) (.tmp 57) rfl w.heap.size _ (P ++ varL N ++ varL m1) rfl HO5.out Ai m1 cm1 I rfl ENI.out.symm RI5.out (by have := hP5.out; omega) hz5 ?_; intro v6 w6 ho6 hg6 _; have HO6 := Lib.hid ho6; have HK6 := Lib.hid (HK5.out.grown hg6 HK5.out.size (fun j hj => (Own.lt HO5.out j hj).1)); clear ho6 hg6))
            go_roundw
            case rel => exact ⟨k + 1, rest, P ++ varL N ++ varL m1 ++ I, by go_num, HKb, R1b, ZR, HSb, HO6, Lib.hid (by rw [HL.out, layL, EN.out, ENI.out, EI.out]; simp only [List.append_assoc]; rfl), HK6.out⟩
            case measure => simp [intOf]; omega
        | false =>
          cases li with
          | true =>
            obtain ⟨N, eN⟩ : ∃ N, N = numI z false true := ⟨_, rfl⟩
            have hN : (N : Int) = z * 4 + 1 := by rw [eN]; unfold numI; simp; omega
            have hN2 : N ≤ 4003 := by rw [eN]; exact numI_le _ _ z1 z2
            have EN := Lib.hid eN
            clear eN
            go_wp2_with (fail)
            refine (IH.out sub.size HSs.out.1 sub rfl ZS.out HSs.out.2 ok As1 sl e1 wr ESL.out.symm (S1.out.below KB.out) l3).mono ?_
            rintro r w1 ⟨vi, rfl, hoi, hbi⟩
            obtain ⟨Ai, ci, evi, i1, i2, i3, i4⟩ := OwnB.form hoi
            obtain ⟨I, eI⟩ : ∃ I, I = layL sub := ⟨_, rfl⟩
            have hIl : I.length ≤ 4116 * 100000 := by rw [eI]; have := layL_le sub ZS.out HSs.out.2; have := HSs.out.2; omega
            rw [← eI] at evi i1 i3
            obtain ⟨ni, eni⟩ : ∃ ni, ni = I.length := ⟨_, rfl⟩
            rw [← eni] at evi hIl
            subst evi
            have hsep : I.map bv ≠ [] → ∀ b off, Ai = some ⟨b, off, none⟩ → b < w1.heap.size ∧ ∀ j, u3.ownBlock = some j → j ≠ b := fun _ b off e => by
              have q := i4 _ e
              refine ⟨q.2.1, fun j hj => ?_⟩
              have := (Own.lt HO.out j hj).2
              have : wr.heap.size ≤ b := q.1
              omega
            have hb1' : Below wr.heap.size wr w1 := hbi
            have EI := Lib.hid eI
            have ENI := Lib.hid eni
            clear hoi hbi eI i1 i2 i4 eni
            go_wp2_with (fail)
            rw [← hN]
            refine (refVar_c N w1 (by unfold U64; omega)).mono ?_
            rintro r w2 ⟨v2, rfl, ho2, hb2⟩
            obtain ⟨A2, c2, ev2, -, -, R2', -⟩ := OwnB.form ho2
            obtain ⟨n2, en2⟩ : ∃ n2, n2 = (varL N).length := ⟨_, rfl⟩
            have hn2 : n2 ≤ 10 := by rw [en2]; exact varL_10 (by omega)
            rw [← en2] at ev2
            subst ev2
            have R2 := Lib.hid R2'
            have EN2 := Lib.hid en2
            have HB2 := Lib.hid (hb1'.trans (hb2.mono hb1'.size))
            have HZ2 := Lib.hid hb2.size
            have HO2 := Lib.hid (Own.below HO.out HB2.out)
            have HK2 := Lib.hid (KB.out.trans (HB2.out.mono KB.out.size))
            have RI2 := Lib.hid (i3.below hb2)
            have SEP := Lib.hid hsep
            have hz2 : w.heap.size ≤ w2.heap.size := HK2.out.size
            have wni := u64_wrapN (n := ni) (by unfold U64; omega)
            clear ho2 hb2 R2' en2 i3 hsep
            go_wp2_with (at_builtin; refine wpList_appB _ rfl (.tmp 46) (.tmp 48) rfl w.heap.size _ P rfl HO2.out A2 n2 c2 (varL N) rfl EN2.out.symm R2.out (by have := hPl.out; omega) hz2 ?_; intro v3 w3 ho3 hg3 hv3; have HO3 := Lib.hid ho3; have HK3 := Lib.hid (HK2.out.grown hg3 HK2.out.size (fun j hj => (Own.lt HO2.out j hj).1)); have RI3 := Lib.hid (RI2.out.grownS hg3 (fun hne b off e ej => (SEP.out hne b off e).2 b ej rfl)); have HV3 : Hid (v3.ownBlock = u3.ownBlock ∨ v3.ownBlock = some w2.heap.size) := Lib.hid hv3; have HZ3 := Lib.hid hg3.size; clear ho3 hg3 hv3 hz2)
            refine (refVar_c ni w3 (by unfold U64; omega)).mono ?_
            rintro r w4 ⟨v4, rfl, ho4, hb4⟩
            obtain ⟨A4, c4, ev4, -, -, R4', -⟩ := OwnB.form ho4
            obtain ⟨n4, en4⟩ : ∃ n4, n4 = (varL ni).length := ⟨_, rfl⟩
            have hn4 : n4 ≤ 10 := by rw [en4]; exact varL_10 (by omega)
            rw [← en4] at ev4
            subst ev4
            have R4 := Lib.hid R4'
            have EN4 := Lib.hid en4
            have HO4 := Lib.hid (Own.below HO3.out hb4)
            have HK4 := Lib.hid (HK3.out.trans (hb4.mono HK3.out.size))
            have RI4 := Lib.hid (RI3.out.below hb4)
            have hz4 : w.heap.size ≤ w4.heap.size := HK4.out.size
            have hP3 : Hid ((P ++ varL N).length ≤ 4116 * 100000 + 10) := Lib.hid (by rw [List.length_append, ← EN2.out]; have := hPl.out; omega)
            clear ho4 hb4 R4' en4 wni
            go_wp2_with (first
              | (at_builtin; refine wpList_appB _ rfl (.tmp 50) (.tmp 54) rfl w.heap.size _ (P ++ varL N) rfl HO4.out A4 n4 c4 (varL ni) rfl EN4.out.symm R4.out (by have := hP3.out; omega) hz4 ?_; intro v5 w5 ho5 hg5 hv5; have HO5 := Lib.hid ho5; have HK5 := Lib.hid (HK4.out.grown hg5 HK4.out.size (fun j hj => (Own.lt HO4.out j hj).1)); have RI5 := Lib.hid (RI4.out.grownS hg5 (fun hne b off e ej => Or.elim HV3.out (fun q => (SEP.out hne b off e).2 b (q.symm.trans ej) rfl) (fun q => by (have ej' := Option.some.inj (q.symm.trans ej); have := (SEP.out hne b off e).1; have := HZ2.out; omega)))); have hz5 : w.heap.size ≤ w5.heap.size := HK5.out.size; have hP5 : Hid ((P ++ varL N ++ varL ni).length ≤ 4116 * 100000 + 20) := Lib.hid (by rw [List.length_append, ← EN4.out]; have := hP3.out; omega); clear ho5 hg5 hv5 hz4)
              | (at_builtin; refine wpList_appB _ rfl (.tmp 56) (.tmp 57) rfl w.heap.size _ (P ++ varL N ++ varL ni) rfl HO5.out Ai ni ci I rfl ENI.out.symm RI5.out (by have := hP5.out; omega) hz5 ?_; intro v6 w6 ho6 hg6 _; have HO6 := Lib.hid ho6; have HK6 := Lib.hid (HK5.out.grown hg6 HK5.out.size (fun j hj => (Own.lt HO5.out j hj).1)); clear ho6 hg6))
            go_roundw
            case rel => exact ⟨k + 1, rest, P ++ varL N ++ varL ni ++ I, by go_num, HKb, R1b, ZR, HSb, HO6, Lib.hid (by rw [HL.out, layL, EN.out, ENI.out, EI.out]; simp only [List.append_assoc]; rfl), HK6.out⟩
            case measure => simp [intOf]; omega
          | false =>
            obtain ⟨N, eN⟩ : ∃ N, N = numI z false false := ⟨_, rfl⟩
            have hN : (N : Int) = z * 4 := by rw [eN]; unfold numI; simp; omega
            have hN2 : N ≤ 4003 := by rw [eN]; exact numI_le _ _ z1 z2
            have EN := Lib.hid eN
            clear eN
            obtain ⟨w1, ew1⟩ : ∃ w1, w1 = wr := ⟨_, rfl⟩
            obtain ⟨I, eI⟩ : ∃ I, I = bs := ⟨_, rfl⟩
            have eni : m1 = I.length := by rw [eI]; exact G1.out.symm
            obtain ⟨Ai, eAi⟩ : ∃ Ai, Ai = At1 := ⟨_, rfl⟩
            have i3 : Rd w1 Ai (I.map bv) := by rw [ew1, eAi, eI]; exact G2.out.below KB.out
            have hIl : m1 ≤ 4116 * 100000 := by rw [eni, eI]; have := hbs.out; omega
            have hsep : I.map bv ≠ [] → ∀ b off, Ai = some ⟨b, off, none⟩ → b < w1.heap.size ∧ ∀ j, u3.ownBlock = some j → j ≠ b := fun hne b off e => by
              rcases G2.out with h | ⟨b', off', e', hb', _⟩
              · exact absurd (by rw [eI]; exact h) hne
              · rw [eAi, e'] at e; injection e with e; injection e with e
                have := KB.out.size
                refine ⟨by rw [ew1]; omega, fun j hj => ?_⟩
                have := (Own.lt HO.out j hj).1
                omega
            have hb1' : Below wr.heap.size wr w1 := by rw [ew1]; exact Below.refl _ _
            have EI := Lib.hid eI
            have EW1 := Lib.hid ew1
            have EAI := Lib.hid eAi
            have ENI := Lib.hid eni
            clear eI ew1 eAi eni
            go_wp2_with (fail)
            rw [← EW1.out, ← EAI.out]
            rw [← hN]
            refine (refVar_c N w1 (by unfold U64; omega)).mono ?_
            rintro r w2 ⟨v2, rfl, ho2, hb2⟩
            obtain ⟨A2, c2, ev2, -, -, R2', -⟩ := OwnB.form ho2
            obtain ⟨n2, en2⟩ : ∃ n2, n2 = (varL N).length := ⟨_, rfl⟩
            have hn2 : n2 ≤ 10 := by rw [en2]; exact varL_10 (by omega)
            rw [← en2] at ev2
            subst ev2
            have R2 := Lib.hid R2'
            have EN2 := Lib.hid en2
            have HB2 := Lib.hid (hb1'.trans (hb2.mono hb1'.size))
            have HZ2 := Lib.hid hb2.size
            have HO2 := Lib.hid (Own.below HO.out HB2.out)
            have HK2 := Lib.hid (KB.out.trans (HB2.out.mono KB.out.size))
            have RI2 := Lib.hid (i3.below hb2)
            have SEP := Lib.hid hsep
            have hz2 : w.heap.size ≤ w2.heap.size := HK2.out.size
            have wni := u64_wrapN (n := m1) (by unfold U64; omega)
            clear ho2 hb2 R2' en2 i3 hsep
            go_wp2_with (at_builtin; refine wpList_appB _ rfl (.tmp 46) (.tmp 48) rfl w.heap.size _ P rfl HO2.out A2 n2 c2 (varL N) rfl EN2.out.symm R2.out (by have := hPl.out; omega) hz2 ?_; intro v3 w3 ho3 hg3 hv3; have HO3 := Lib.hid ho3; have HK3 := Lib.hid (HK2.out.grown hg3 HK2.out.size (fun j hj => (Own.lt HO2.out j hj).1)); have RI3 := Lib.hid (RI2.out.grownS hg3 (fun hne b off e ej => (SEP.out hne b off e).2 b ej rfl)); have HV3 : Hid (v3.ownBlock = u3.ownBlock ∨ v3.ownBlock = some w2.heap.size) := Lib.hid hv3; have HZ3 := Lib.hid hg3.size; clear ho3 hg3 hv3 hz2)
            refine (refVar_c m1 w3 (by unfold U64; omega)).mono ?_
            rintro r w4 ⟨v4, rfl, ho4, hb4⟩
            obtain ⟨A4, c4, ev4, -, -, R4', -⟩ := OwnB.form ho4
            obtain ⟨n4, en4⟩ : ∃ n4, n4 = (varL m1).length := ⟨_, rfl⟩
            have hn4 : n4 ≤ 10 := by rw [en4]; exact varL_10 (by omega)
            rw [← en4] at ev4
            subst ev4
            have R4 := Lib.hid R4'
            have EN4 := Lib.hid en4
            have HO4 := Lib.hid (Own.below HO3.out hb4)
            have HK4 := Lib.hid (HK3.out.trans (hb4.mono HK3.out.size))
            have RI4 := Lib.hid (RI3.out.below hb4)
            have hz4 : w.heap.size ≤ w4.heap.size := HK4.out.size
            have hP3 : Hid ((P ++ varL N).length ≤ 4116 * 100000 + 10) := Lib.hid (by rw [List.length_append, ← EN2.out]; have := hPl.out; omega)
            clear ho4 hb4 R4' en4 wni
            go_wp2_with (first
              | (at_builtin; refine wpList_appB _ rfl (.tmp 50) (.tmp 54) rfl w.heap.size _ (P ++ varL N) rfl HO4.out A4 n4 c4 (varL m1) rfl EN4.out.symm R4.out (by have := hP3.out; omega) hz4 ?_; intro v5 w5 ho5 hg5 hv5; have HO5 := Lib.hid ho5; have HK5 := Lib.hid (HK4.out.grown hg5 HK4.out.size (fun j hj => (Own.lt HO4.out j hj).1)); have RI5 := Lib.hid (RI4.out.grownS hg5 (fun hne b off e ej => Or.elim HV3.out (fun q => (SEP.out hne b off e).2 b (q.symm.trans ej) rfl) (fun q => by (have ej' := Option.some.inj (q.symm.trans ej); have := (SEP.out hne b off e).1; have := HZ2.out; omega)))); have hz5 : w.heap.size ≤ w5.heap.size := HK5.out.size; have hP5 : Hid ((P ++ varL N ++ varL m1).length ≤ 4116 * 100000 + 20) := Lib.hid (by rw [List.length_append, ← EN4.out]; have := hP3.out; omega); clear ho5 hg5 hv5 hz4)
              | (at_builtin; refine wpList_appB _ rfl (.tmp 56) (.tmp 57) rfl w.heap.size _ (P ++ varL N ++ varL m1) rfl HO5.out Ai m1 cm1 I rfl ENI.out.symm RI5.out (by have := hP5.out; omega) hz5 ?_; intro v6 w6 ho6 hg6 _; have HO6 := Lib.hid ho6; have HK6 := Lib.hid (HK5.out.grown hg6 HK5.out.size (fun j hj => (Own.lt HO5.out j hj).1)); clear ho6 hg6))
            go_roundw
            case rel => exact ⟨k + 1, rest, P ++ varL N ++ varL m1 ++ I, by go_num, HKb, R1b, ZR, HSb, HO6, Lib.hid (by rw [HL.out, layL, EN.out, ENI.out, EI.out]; simp only [List.append_assoc]; rfl), HK6.out⟩
            case measure => simp [intOf]; omega
end Go.Proofs.Ytcffinkkfdfcaaa

/- What the reference's Check answers. Conditions: items that can be read. -/
namespace Go.Proofs.Ytcffinkkfdfcaaa
open Go Go.RowKit

set_option maxRecDepth 100000 in
set_option maxHeartbeats 8000000 in
theorem refCheck_c (f : Fo) (ok : Nat → Prop) (A : Option Addr) (n c : Nat) (w : World) (hn : f.len = n) (h1 : FoR ok w A 0 f) (hl : n ≤ 2199023255488) :
    Calls Try.prog 65 #[.slice A n c] w fun r w' => r = .returned (.int .i64 (checkF f)) ∧ Below w.heap.size w w' := by
  have HN := Lib.hid hn; clear hn
  have H1 := Lib.hid h1; clear h1
  obtain ⟨C, hC⟩ : ∃ C, C = checkF f := ⟨_, rfl⟩
  rw [← hC]
  have HC := Lib.hid hC; clear hC
  go_enter Try.func65, Try.ntmps65
  go_wp2_with (fail)
  refine Calls.mono (row_c f.size f rfl 1 65 (by omega) (by omega) (by omega) (by omega) ok A n c w HN.out H1.out hl) ?_
  rintro _ w1 ⟨v, ds, rfl, ho, hm, hk⟩
  obtain ⟨L, eL⟩ : ∃ L, ds.length = L := ⟨_, rfl⟩
  obtain ⟨Av, cv, rfl, f1, f2, f3⟩ := ho.formL eL
  have hb : ∀ (j : Nat) (hj : j < ds.length), ds[j].nb ≤ 140737488355328 ∧ ds[j].ns ≤ 2199023255488 := fun j hj =>
    full_bounds f A 0 1 0 H1.out _ (List.mem_of_mem_take (by rw [rowR] at hm; rw [← hm]; exact List.mem_map.2 ⟨_, List.getElem_mem hj, rfl⟩))
  have hL4 : L ≤ 66 := by
    have h2 := congrArg List.length hm
    rw [List.length_map, rowR, List.length_take, eL] at h2
    have : ((65 : Int) + 1).toNat = 66 := rfl
    omega
  have hsc : scanF (ds.map EnV.en) 0 = scanF (fullR f 1 0) 0 := by rw [hm, rowR]; exact scan_take _
  have hres : ∀ (k : Nat) (hk : k < ds.length), (∀ (j : Nat) (hj : j < ds.length), j < k → fe j ds[j].en = 0) → ∀ u : Int, u ≠ 0 → fe k ds[k].en = u → C = u := fun k hk h0 u hu he => by
    have hk' : k < (ds.map EnV.en).length := by rw [List.length_map]; exact hk
    have q := scanF_at (ds.map EnV.en) 0 k hk' (fun j hj hjk => by
      rw [List.getElem_map, Nat.zero_add]; exact h0 j (by rw [List.length_map] at hj; exact hj) hjk) (by rw [List.getElem_map, Nat.zero_add, he]; exact hu)
    rw [List.getElem_map, Nat.zero_add, he, hsc] at q
    rw [HC.out, checkF, q, if_pos hu]
  have HR := Lib.hid hres
  have HS := Lib.hid hsc
  have HB := Lib.hid hb
  have EL := Lib.hid eL
  have RD := Lib.hid f3
  have HK := Lib.hid hk
  have hz1 := Lib.hid hk.size
  clear ho hm hb eL f2 f3 hk hres hsc
  go_wp2_with (fail)
  go_loopw [4] (fun i wr => ∃ (k : Nat), i = .int .i64 k ∧ k ≤ L ∧ Hid (∀ (j : Nat) (hj : j < ds.length), j < k → fe j ds[j].en = 0) ∧ Below w1.heap.size w1 wr) (fun i _ => L - (intOf i).toNat)
  case atStart => exact ⟨0, rfl, Nat.zero_le _, Lib.hid (fun j hj h0 => absurd h0 (Nat.not_lt_zero _)), Below.refl _ _⟩
  case round =>
    obtain ⟨k, rfl, hkL, HP, kb⟩ := hrel
    by_cases hkl : k < L
    · obtain ⟨b1, o1, rfl, hb1, x0, x1, x2, x3, x4, x5, x6⟩ := RdE_at RD.out k (by rw [EL.out]; exact hkl)
      obtain ⟨p1, p2⟩ := HB.out k (by rw [EL.out]; exact hkl)
      obtain ⟨xx, exx⟩ : ∃ xx, xx = (ds[k]'(by rw [EL.out]; exact hkl)) := ⟨_, rfl⟩
      rw [← exx] at x0 x1 x2 x3 x4 x5 x6 p1 p2
      have res : Hid (∀ u : Int, u ≠ 0 → fe k xx.en = u → C = u) := Lib.hid (by rw [exx]; exact HR.out k (by rw [EL.out]; exact hkl) HP.out)
      have nxt : Hid (fe k xx.en = 0 → Hid (∀ (j : Nat) (hj : j < ds.length), j < k + 1 → fe j ds[j].en = 0)) := Lib.hid fun h0 => Lib.hid fun j hj h1 => by
        by_cases e : j = k
        · subst e; rw [← exx]; exact h0
        · exact HP.out j hj (by omega)
      clear exx HP
      obtain ⟨kd, cr, li, Ax, nb, cb, As, ns, cs, dd, ah⟩ := xx
      simp only at x0 x1 x2 x3 x4 x5 x6 p1 p2
      rw [← kb.cell (p := ⟨b1, _, none⟩) hb1] at x0 x1 x2 x3 x4 x5 x6
      obtain ⟨wa, ewa⟩ : ∃ wa, wa = wr.alloc (.cells #[.int .i64 kd, .bool cr, .bool li, .slice Ax nb cb, .slice As ns cs] 76) := ⟨_, rfl⟩
      have hba : Below wr.heap.size wr wa := by rw [ewa]; exact (Below.refl _ _).alloc (Nat.le_refl _) _
      have hka : Below w1.heap.size w1 wa := kb.trans (hba.mono kb.size)
      have ya : ∀ (j : Nat) (v : Value), (#[Value.int .i64 kd, .bool cr, .bool li, .slice Ax nb cb, .slice As ns cs] : Array Value)[j]? = some v → wa.cell? ⟨wr.heap.size, j, none⟩ = some v := fun j v h => by
        rw [ewa, cell_of_row _ _ _ _ _ (0, 0) (heap_alloc_new wr _)]; exact h
      have y0 := ya 0 _ rfl
      have y2 := ya 2 _ rfl
      have y3 := ya 3 _ rfl
      have y4 := ya 4 _ rfl
      have z5 : wa.cell? ⟨b1, o1 + k * 7 + 5, none⟩ = some (.int .i64 dd) := (hba.cell (p := ⟨b1, _, none⟩) (Nat.lt_of_lt_of_le hb1 kb.size)).trans x5
      have z6 : wa.cell? ⟨b1, o1 + k * 7 + 6, none⟩ = some (.int .i64 ah) := (hba.cell (p := ⟨b1, _, none⟩) (Nat.lt_of_lt_of_le hb1 kb.size)).trans x6
      clear ya
      have HKA := Lib.hid hka
      have EWA := Lib.hid ewa
      have KB := Lib.hid kb
      clear hka hba ewa kb
      have hlt' : (k : Int) < (L : Int) := by omega
      by_cases h64 : 64 ≤ k
      · have h64' : (64 : Int) ≤ (k : Int) := by omega
        have e := Lib.hid <| res.out 4 (by decide) (fe_64 h64)
        go_wp2_with (fail)
        rw [← EWA.out]
        go_ret
        exact ⟨by rw [e.out]; rfl, HK.out.trans (HKA.out.mono HK.out.size)⟩
      · have h64' : (k : Int) < 64 := by omega
        by_cases hA : kd < 1
        · have e := Lib.hid <| res.out 1 (by decide) (fe_1 h64 (.inl hA))
          have bA : decide (kd < 1) = true := decide_eq_true (by omega)
          clear hA
          go_wp2_with (fail)
          rw [← EWA.out]
          clear x0 x1 x2 x3 x4 x5 x6
          go_quiet (fail)
          go_wp2_with (fail)
          go_ret
          exact ⟨by rw [e.out]; rfl, below_drewN (HK.out.trans (HKA.out.mono HK.out.size)) _⟩
        · have bA : decide (kd < 1) = false := decide_eq_false hA
          by_cases hB : 1000 < kd
          · have e := Lib.hid <| res.out 1 (by decide) (fe_1 h64 (.inr (.inl hB)))
            have bB : decide (1000 < kd) = true := decide_eq_true (by omega)
            clear hA hB
            go_wp2_with (fail)
            rw [← EWA.out]
            clear x0 x1 x2 x3 x4 x5 x6
            go_quiet (fail)
            go_wp2_with (fail)
            go_ret
            exact ⟨by rw [e.out]; rfl, below_drewN (HK.out.trans (HKA.out.mono HK.out.size)) _⟩
          · have bB : decide (1000 < kd) = false := decide_eq_false hB
            by_cases hC : kd ≤ ah
            · have e := Lib.hid <| res.out 1 (by decide) (fe_1 h64 (.inr (.inr (.inl hC))))
              have bC : decide (kd ≤ ah) = true := decide_eq_true (by omega)
              clear hA hB hC
              go_wp2_with (fail)
              rw [← EWA.out]
              clear x0 x1 x2 x3 x4 x5 x6
              go_quiet (fail)
              go_wp2_with (fail)
              go_ret
              exact ⟨by rw [e.out]; rfl, below_drewN (HK.out.trans (HKA.out.mono HK.out.size)) _⟩
            · have bC : decide (kd ≤ ah) = false := decide_eq_false hC
              cases li with
              | false =>
                by_cases hD : 0 < ns
                · have e := Lib.hid <| res.out 1 (by decide) (fe_1 h64 (.inr (.inr (.inr (.inl ⟨hD, rfl⟩)))))
                  have bD : decide ((0 : Int) < (ns : Int)) = true := decide_eq_true (by omega)
                  have bDn : decide (0 < ns) = true := decide_eq_true (by omega)
                  clear hA hB hC hD
                  go_wp2_with (fail)
                  rw [← EWA.out]
                  clear x0 x1 x2 x3 x4 x5 x6
                  go_quiet (fail)
                  go_wp2_with (fail)
                  go_ret
                  exact ⟨by rw [e.out]; rfl, below_drewN (HK.out.trans (HKA.out.mono HK.out.size)) _⟩
                · have fa : Hid (En.fair (EnV.en ⟨kd, cr, false, Ax, nb, cb, As, ns, cs, dd, ah⟩)) := Lib.hid ⟨by show 1 ≤ kd; omega, by show kd ≤ 1000; omega, by show ah < kd; omega, fun _ => by show ns = 0; omega, fun h => by cases h⟩
                  have bD : decide ((0 : Int) < (ns : Int)) = false := decide_eq_false (by omega)
                  have bDn : decide (0 < ns) = false := decide_eq_false (by omega)
                  by_cases hF : 4096 < nb
                  · have e := Lib.hid <| res.out 4 (by decide) (fe_4b h64 fa.out (fun h => by cases h.1) hF)
                    have bE : decide ((0 : Int) < (nb : Int)) = true := decide_eq_true (by omega)
                    have bEn : decide (0 < nb) = true := decide_eq_true (by omega)
                    have bF : decide ((4096 : Int) < (nb : Int)) = true := decide_eq_true (by omega)
                    have bFn : decide (4096 < nb) = true := decide_eq_true (by omega)
                    clear hA hB hC hD hF
                    go_wp2_with (fail)
                    rw [← EWA.out]
                    clear x0 x1 x2 x3 x4 x5 x6
                    go_quiet (fail)
                    go_wp2_with (fail)
                    go_ret
                    exact ⟨by rw [e.out]; rfl, below_drewN (HK.out.trans (HKA.out.mono HK.out.size)) _⟩
                  · have bF : decide ((4096 : Int) < (nb : Int)) = false := decide_eq_false (by omega)
                    have bFn : decide (4096 < nb) = false := decide_eq_false (by omega)
                    by_cases hE : 0 < nb
                    · have nx := nxt.out (fe_0 h64 fa.out (fun h => by cases h.1) (by show nb ≤ 4096; omega))
                      have bE : decide ((0 : Int) < (nb : Int)) = true := decide_eq_true (by omega)
                      have bEn : decide (0 < nb) = true := decide_eq_true (by omega)
                      clear hA hB hC hD hE hF
                      go_wp2_with (fail)
                      rw [← EWA.out]
                      clear x0 x1 x2 x3 x4 x5 x6
                      go_quiet (fail)
                      go_wp2_with (fail)
                      exact ⟨⟨k + 1, by go_num, by omega, nx, below_drewN HKA.out _⟩, by simp [intOf]; omega⟩
                    · have nx := nxt.out (fe_0 h64 fa.out (fun h => by cases h.1) (by show nb ≤ 4096; omega))
                      have bE : decide ((0 : Int) < (nb : Int)) = false := decide_eq_false (by omega)
                      have bEn : decide (0 < nb) = false := decide_eq_false (by omega)
                      clear hA hB hC hD hE hF
                      go_wp2_with (fail)
                      rw [← EWA.out]
                      clear x0 x1 x2 x3 x4 x5 x6
                      go_quiet (fail)
                      go_wp2_with (fail)
                      exact ⟨⟨k + 1, by go_num, by omega, nx, below_drewN HKA.out _⟩, by simp [intOf]; omega⟩
              | true =>
                by_cases hE : 0 < nb
                · have e := Lib.hid <| res.out 1 (by decide) (fe_1 h64 (.inr (.inr (.inr (.inr ⟨hE, rfl⟩)))))
                  have bE : decide ((0 : Int) < (nb : Int)) = true := decide_eq_true (by omega)
                  have bEn : decide (0 < nb) = true := decide_eq_true (by omega)
                  by_cases hD : 0 < ns
                  · have bD : decide ((0 : Int) < (ns : Int)) = true := decide_eq_true (by omega)
                    have bDn : decide (0 < ns) = true := decide_eq_true (by omega)
                    clear hA hB hC hD hE
                    go_wp2_with (fail)
                    rw [← EWA.out]
                    clear x0 x1 x2 x3 x4 x5 x6
                    go_quiet (fail)
                    go_wp2_with (fail)
                    go_ret
                    exact ⟨by rw [e.out]; rfl, below_drewN (HK.out.trans (HKA.out.mono HK.out.size)) _⟩
                  · have bD : decide ((0 : Int) < (ns : Int)) = false := decide_eq_false (by omega)
                    have bDn : decide (0 < ns) = false := decide_eq_false (by omega)
                    clear hA hB hC hD hE
                    go_wp2_with (fail)
                    rw [← EWA.out]
                    clear x0 x1 x2 x3 x4 x5 x6
                    go_quiet (fail)
                    go_wp2_with (fail)
                    go_ret
                    exact ⟨by rw [e.out]; rfl, below_drewN (HK.out.trans (HKA.out.mono HK.out.size)) _⟩
                · have fa : Hid (En.fair (EnV.en ⟨kd, cr, true, Ax, nb, cb, As, ns, cs, dd, ah⟩)) := Lib.hid ⟨by show 1 ≤ kd; omega, by show kd ≤ 1000; omega, by show ah < kd; omega, fun h => (by cases h), fun _ => by show nb = 0; omega⟩
                  have bE : decide ((0 : Int) < (nb : Int)) = false := decide_eq_false (by omega)
                  have bEn : decide (0 < nb) = false := decide_eq_false (by omega)
                  have bF : decide ((4096 : Int) < (nb : Int)) = false := decide_eq_false (by omega)
                  have bFn : decide (4096 < nb) = false := decide_eq_false (by omega)
                  by_cases hG : dd = 4
                  · have ed : (dd == 4) = true := by rw [hG]; rfl
                    have e := Lib.hid <| res.out 5 (by decide) (fe_5 h64 fa.out rfl hG)
                    by_cases hD : 0 < ns
                    · have bD : decide ((0 : Int) < (ns : Int)) = true := decide_eq_true (by omega)
                      have bDn : decide (0 < ns) = true := decide_eq_true (by omega)
                      clear hA hB hC hD hE hG
                      go_wp2_with (fail)
                      rw [← EWA.out]
                      clear x0 x1 x2 x3 x4 x5 x6
                      go_quiet (fail)
                      go_wp2_with (fail)
                      go_ret
                      exact ⟨by rw [e.out]; rfl, below_drewN (HK.out.trans (HKA.out.mono HK.out.size)) _⟩
                    · have bD : decide ((0 : Int) < (ns : Int)) = false := decide_eq_false (by omega)
                      have bDn : decide (0 < ns) = false := decide_eq_false (by omega)
                      clear hA hB hC hD hE hG
                      go_wp2_with (fail)
                      rw [← EWA.out]
                      clear x0 x1 x2 x3 x4 x5 x6
                      go_quiet (fail)
                      go_wp2_with (fail)
                      go_ret
                      exact ⟨by rw [e.out]; rfl, below_drewN (HK.out.trans (HKA.out.mono HK.out.size)) _⟩
                  · have ed : (dd == 4) = false := by simpa using hG
                    have nx := nxt.out (fe_0 h64 fa.out (fun h => hG h.2) (by show nb ≤ 4096; omega))
                    by_cases hD : 0 < ns
                    · have bD : decide ((0 : Int) < (ns : Int)) = true := decide_eq_true (by omega)
                      have bDn : decide (0 < ns) = true := decide_eq_true (by omega)
                      clear hA hB hC hD hE hG
                      go_wp2_with (fail)
                      rw [← EWA.out]
                      clear x0 x1 x2 x3 x4 x5 x6
                      go_quiet (fail)
                      go_wp2_with (fail)
                      exact ⟨⟨k + 1, by go_num, by omega, nx, below_drewN HKA.out _⟩, by simp [intOf]; omega⟩
                    · have bD : decide ((0 : Int) < (ns : Int)) = false := decide_eq_false (by omega)
                      have bDn : decide (0 < ns) = false := decide_eq_false (by omega)
                      clear hA hB hC hD hE hG
                      go_wp2_with (fail)
                      rw [← EWA.out]
                      clear x0 x1 x2 x3 x4 x5 x6
                      go_quiet (fail)
                      go_wp2_with (fail)
                      exact ⟨⟨k + 1, by go_num, by omega, nx, below_drewN HKA.out _⟩, by simp [intOf]; omega⟩
    · have hkl' : (L : Int) ≤ (k : Int) := by omega
      have hkk : k = L := by omega
      have hz : scanF (fullR f 1 0) 0 = 0 := by
        rw [← HS.out]
        refine scanF_none _ _ fun j hj => ?_
        rw [List.getElem_map, Nat.zero_add]
        exact HP.out j (by rw [List.length_map] at hj; exact hj) (by rw [List.length_map, EL.out] at hj; omega)
      obtain ⟨gd, sz⟩ := check_scan hz
      have HZ := Lib.hid hz
      have GD := Lib.hid gd
      have hkb := Lib.hid (HK.out.trans (kb.mono HK.out.size))
      clear hz gd hkk
      go_wp2_with (fail)
      refine (refBytes_c f.size f rfl GD.out (by omega) ok A n c wr HN.out (H1.out.below hkb.out) hl).mono ?_
      rintro _ w2 ⟨v2, rfl, ho2, hk2⟩
      obtain ⟨A2, c2, rfl, -, -, -, -⟩ := OwnB.form ho2
      obtain ⟨l2, el2⟩ : ∃ l2, l2 = (layL f).length := ⟨_, rfl⟩
      rw [← el2]
      have EL2 := Lib.hid el2
      have K2 := Lib.hid (hkb.out.trans (hk2.mono hkb.out.size))
      clear el2 ho2 hk2
      by_cases h4 : 4096 < l2
      · have h4' : (4096 : Int) < (l2 : Int) := by omega
        have e := Lib.hid (show C = 4 by rw [HC.out, checkF, HZ.out, if_neg (by simp), if_pos (by rw [← EL2.out]; exact h4)])
        go_wp2_with (fail)
        go_ret
        exact ⟨by rw [e.out]; rfl, K2.out⟩
      · have h4' : (l2 : Int) ≤ 4096 := by omega
        have e := Lib.hid (show C = 0 by rw [HC.out, checkF, HZ.out, if_neg (by simp), if_neg (by rw [← EL2.out]; exact h4)])
        go_wp2_with (fail)
        go_ret
        exact ⟨by rw [e.out]; rfl, K2.out⟩
end Go.Proofs.Ytcffinkkfdfcaaa

/- What tlv.Encode and the reference's Encode of items answer. Conditions: items that can be read. -/
namespace Go.Proofs.Ytcffinkkfdfcaaa
open Go Go.RowKit

theorem check_zero {f : Fo} (h : checkF f = 0) : f.good ∧ f.size ≤ 64 ∧ (layL f).length ≤ 4096 := by
  unfold checkF at h
  by_cases h0 : scanF (fullR f 1 0) 0 = 0
  · rw [if_neg (by simp [h0])] at h
    obtain ⟨g1, g2⟩ := check_scan h0
    refine ⟨g1, g2, ?_⟩
    by_cases h4 : 4096 < (layL f).length
    · rw [if_pos h4] at h; omega
    · omega
  · rw [if_pos h0] at h; exact absurd h h0
/-- What Encode answers. -/
def encF (f : Fo) : List UInt8 := if checkF f = 0 then layL f else []

set_option maxRecDepth 100000 in
set_option maxHeartbeats 4000000 in
theorem EncodeT_c (f : Fo) (ok : Nat → Prop) (A : Option Addr) (n c : Nat) (w : World) (hn : f.len = n) (h1 : FoR ok w A 0 f) (hl : n ≤ 2199023255488) :
    Calls Try.prog 31 #[.slice A n c] w fun r w' => ∃ v, r = .returned (.tuple #[v, .int .i64 (checkF f)]) ∧ OwnB w' w.heap.size v (encF f) ∧ Below w.heap.size w w' := by
  obtain ⟨C, hC⟩ : ∃ C, C = checkF f := ⟨_, rfl⟩
  rw [← hC]
  have HC := Lib.hid hC; clear hC
  have H1 := Lib.hid h1; clear h1
  have HN := Lib.hid hn; clear hn
  go_enter Try.func31, Try.ntmps31
  go_wp2_with (fail)
  refine (Check_c f ok A n c w HN.out H1.out hl).mono ?_
  rintro _ w1 ⟨rfl, hk1⟩
  rw [← HC.out]
  have K1 := Lib.hid hk1; clear hk1
  by_cases h0 : C = 0
  · have ed : (C != 0) = false := by rw [h0]; rfl
    have hz : checkF f = 0 := HC.out.symm.trans h0
    obtain ⟨gd, sz, -⟩ := check_zero hz
    have H0 := Lib.hid h0
    have HZ := Lib.hid hz
    have GD := Lib.hid gd
    clear h0 hz gd
    go_wp2_with (fail)
    refine (lay_c f.size f rfl GD.out (by omega) ok A n c w1 HN.out (H1.out.below K1.out) hl).mono ?_
    rintro _ w2 ⟨v2, rfl, ho2, hk2⟩
    have HO2 := Lib.hid ho2
    have K2 := Lib.hid (K1.out.trans (hk2.mono K1.out.size))
    clear ho2 hk2
    go_wp2_with (fail)
    go_ret2
    exact ⟨v2, (by rw [H0.out]; rfl), by rw [encF, if_pos HZ.out]; exact Own.low HO2.out K1.out.size, K2.out⟩
  · have ed : (C != 0) = true := by simpa using h0
    have e := Lib.hid (show encF f = [] by rw [encF, if_neg (fun h => h0 (HC.out.trans h))])
    clear h0
    go_wp2_with (fail)
    go_ret2
    exact ⟨_, rfl, by rw [e.out]; exact Own.nil_ _ _ _, K1.out⟩
set_option maxRecDepth 100000 in
set_option maxHeartbeats 4000000 in
theorem refEncodeT_c (f : Fo) (ok : Nat → Prop) (A : Option Addr) (n c : Nat) (w : World) (hn : f.len = n) (h1 : FoR ok w A 0 f) (hl : n ≤ 2199023255488) :
    Calls Try.prog 40 #[.slice A n c] w fun r w' => ∃ v, r = .returned (.tuple #[v, .int .i64 (checkF f)]) ∧ OwnB w' w.heap.size v (encF f) ∧ Below w.heap.size w w' := by
  obtain ⟨C, hC⟩ : ∃ C, C = checkF f := ⟨_, rfl⟩
  rw [← hC]
  have HC := Lib.hid hC; clear hC
  have H1 := Lib.hid h1; clear h1
  have HN := Lib.hid hn; clear hn
  go_enter Try.func40, Try.ntmps40
  go_wp2_with (fail)
  refine (refCheck_c f ok A n c w HN.out H1.out hl).mono ?_
  rintro _ w1 ⟨rfl, hk1⟩
  rw [← HC.out]
  have K1 := Lib.hid hk1; clear hk1
  by_cases h0 : C = 0
  · have ed : (C != 0) = false := by rw [h0]; rfl
    have hz : checkF f = 0 := HC.out.symm.trans h0
    obtain ⟨gd, sz, -⟩ := check_zero hz
    have H0 := Lib.hid h0
    have HZ := Lib.hid hz
    have GD := Lib.hid gd
    clear h0 hz gd
    go_wp2_with (fail)
    refine (refBytes_c f.size f rfl GD.out (by omega) ok A n c w1 HN.out (H1.out.below K1.out) hl).mono ?_
    rintro _ w2 ⟨v2, rfl, ho2, hk2⟩
    have HO2 := Lib.hid ho2
    have K2 := Lib.hid (K1.out.trans (hk2.mono K1.out.size))
    clear ho2 hk2
    go_wp2_with (fail)
    go_ret2
    exact ⟨v2, (by rw [H0.out]; rfl), by rw [encF, if_pos HZ.out]; exact Own.low HO2.out K1.out.size, K2.out⟩
  · have ed : (C != 0) = true := by simpa using h0
    have e := Lib.hid (show encF f = [] by rw [encF, if_neg (fun h => h0 (HC.out.trans h))])
    clear h0
    go_wp2_with (fail)
    go_ret2
    exact ⟨_, rfl, by rw [e.out]; exact Own.nil_ _ _ _, K1.out⟩
end Go.Proofs.Ytcffinkkfdfcaaa
