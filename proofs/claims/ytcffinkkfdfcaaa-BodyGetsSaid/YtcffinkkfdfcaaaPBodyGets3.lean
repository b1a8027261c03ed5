/- Parts one behind the other: What the reference's bytes answer: a list's bytes; What the reference's Check answers; What tlv.Encode and the reference's Encode of items answer; Rows of items in memory: five cells each; appended, made, stored into; Lists of items built by a call: rows whose items can be read, or are one's own; A list of items of one's own, grown item by item; What the reader of the layer wire does: its small methods; What the reader of the layer wire does: Var; What the reader of the layer wire does: Num and Take. Conditions: as told at each. -/
import Derived.Test.YtcffinkkfdfcaaaPBodyGets2
import Derived.Test.YtcffinkkfdfcaaaPBodyGets1

/- What the reference's bytes answer: a list's bytes. Conditions: kinds and bytes that may be; no more items than so many. -/
namespace Go.Proofs.Ytcffinkkfdfcaaa
open Go Go.RowKit

set_option maxRecDepth 100000 in
set_option maxHeartbeats 4000000 in
theorem refBytes_c : ∀ (M : Nat) (f : Fo), f.size = M → f.good → f.size ≤ 100000 → ∀ (ok : Nat → Prop) (A : Option Addr) (n c : Nat) (w : World), f.len = n → FoR ok w A 0 f → n ≤ 2199023255488 →
    Calls Try.prog 66 #[.slice A n c] w fun r w' => ∃ v, r = .returned v ∧ OwnB w' w.heap.size v (layL f) ∧ Below w.heap.size w w' := by
  intro M
  induction M using Nat.strongRecOn with
  | _ M ih =>
    intro f hM hgood hsz ok A n c w hn h1 hl
    have IH := Lib.hid ih; clear ih
    have HN := Lib.hid hn; clear hn
    have H1 := Lib.hid h1; clear h1
    have HM := Lib.hid hM; clear hM
    have HG := Lib.hid hgood; clear hgood
    have HSZ := Lib.hid hsz; clear hsz
    have HLE : Hid ((layL f).length ≤ 4116 * 100000) := Lib.hid (by have := layL_le f HG.out HSZ.out; have := HSZ.out; omega)
    go_enter Try.func66, Try.ntmps66
    go_wp2_with (fail)
    go_loopw [3, 4] (fun v i wr => ∃ (k : Nat) (r : Fo) (P : List UInt8), i = .int .i64 k ∧ Hid (k + r.len = n) ∧ Hid (FoR ok w A k r) ∧ Hid r.good ∧ Hid (r.size ≤ f.size) ∧ Hid (OwnB wr w.heap.size v P) ∧ Hid (layL f = P ++ layL r) ∧ Below w.heap.size w wr) (fun _ i _ => n - (intOf i).toNat)
    case atStart => exact ⟨0, f, [], rfl, Lib.hid (by rw [HN.out]; omega), H1, HG, Lib.hid (Nat.le_refl _), Lib.hid (World.ownsRow_made w #[] 0 (Nat.le_refl _) (Nat.zero_le _) rfl), Lib.hid rfl, (Below.refl _ _).alloc (Nat.le_refl _) _⟩
    case round =>
      obtain ⟨k, r, P, rfl, HK, R1, HGr, HS, HO, HL, kb⟩ := hrel
      cases r with
      | nil =>
        have hk : k = n := HK.out
        have hk' : (n : Int) ≤ (k : Int) := by omega
        clear hk
        go_wp2_with (fail)
        go_ret
        exact ⟨_, rfl, by rw [HL.out, layL, List.append_nil]; exact HO.out, kb⟩
      | cons z cr li bs sub rest =>
        obtain ⟨⟨b1, o1, At1, m1, cm1, As1, e1, rfl, hb1, -, ⟨x0, x1, x2, x3, x4⟩, t1, s1, l1, l2, l3⟩, r1⟩ := R1.out.one
        obtain ⟨g1, g2, g3, g4, -, g5⟩ := t1
        obtain ⟨z1, z2, z3, zs, zr⟩ := HGr.out
        have hkn : k < n := by have := HK.out; simp only [Fo.len] at this; omega
        have hlt' : (k : Int) < (n : Int) := by omega
        have R1b := Lib.hid r1
        have S1 := Lib.hid s1
        have G1 := Lib.hid g1
        have G2 := Lib.hid g2
        have ZS := Lib.hid zs
        have ZR := Lib.hid zr
        have HSb : Hid (rest.size ≤ f.size) := Lib.hid (by have := HS.out; simp only [Fo.size] at this; omega)
        have HSs : Hid (sub.size < M ∧ sub.size ≤ 100000) := Lib.hid (by have := HS.out; have := HM.out; have := HSZ.out; simp only [Fo.size] at *; omega)
        have HKb : Hid (k + 1 + rest.len = n) := Lib.hid (by have := HK.out; simp only [Fo.len] at this; omega)
        obtain ⟨sl, esl⟩ : ∃ sl, sl = sub.len := ⟨_, rfl⟩
        rw [← esl] at x4 l1 l3
        have ESL := Lib.hid esl
        rw [← kb.cell (p := ⟨b1, _, none⟩) hb1] at x0 x1 x2 x3 x4
        have hPl : Hid (P.length ≤ 4116 * 100000) := Lib.hid (by have := HLE.out; rw [HL.out, List.length_append] at this; omega)
        have hbs : Hid (bs.length ≤ 4096) := Lib.hid z3
        have KB := Lib.hid kb
        have HB1 := Lib.hid hb1
        clear g1 g2 r1 s1 zs zr HK HS esl R1 HGr z3 g3 g4
        cases cr with
        | true =>
          cases li with
          | true =>
            obtain ⟨N, eN⟩ : ∃ N, N = numI z true true := ⟨_, rfl⟩
            have hN : (N : Int) = z * 4 + 2 + 1 := by rw [eN]; unfold numI; simp; omega
            have hN2 : N ≤ 4003 := by rw [eN]; exact numI_le _ _ z1 z2
            have EN := Lib.hid eN
            clear eN
            go_wp2_with (fail)
            refine (IH.out sub.size HSs.out.1 sub rfl ZS.out HSs.out.2 ok As1 sl e1 wr ESL.out.symm (S1.out.below KB.out) l3).mono ?_
            rintro r w1 ⟨vi, rfl, hoi, hbi⟩
            obtain ⟨Ai, ci, evi, i1, i2, i3, i4⟩ := OwnB.form hoi
            obtain ⟨I, eI⟩ : ∃ I, I = layL sub := ⟨_, rfl⟩
            have hIl : I.length ≤ 4116 * 100000 := by rw [eI]; have := layL_le sub ZS.out HSs.out.2; have := HSs.out.2; omega
            rw [← eI] at evi i1 i3
            obtain ⟨ni, eni⟩ : ∃ ni, ni = I.length := ⟨_, rfl⟩
            rw [← eni] at evi hIl
            subst evi
            have hsep : I.map bv ≠ [] → ∀ b off, Ai = some ⟨b, off, none⟩ → b < w1.heap.size ∧ ∀ j, u3.ownBlock = some j → j ≠ b := fun _ b off e => by
              have q := i4 _ e
              refine ⟨q.2.1, fun j hj => ?_⟩
              have := (Own.lt HO.out j hj).2
              have : wr.heap.size ≤ b := q.1
              omega
            have hb1' : Below wr.heap.size wr w1 := hbi
            have EI := Lib.hid eI
            have ENI := Lib.hid eni
            clear hoi hbi eI i1 i2 i4 eni
            go_wp2_with (fail)
            rw [← hN]
            refine (refVar_c N w1 (by unfold U64; omega)).mono ?_
            rintro r w2 ⟨v2, rfl, ho2, hb2⟩
            obtain ⟨A2, c2, ev2, -, -, R2', -⟩ := OwnB.form ho2
            obtain ⟨n2, en2⟩ : ∃ n2, n2 = (varL N).length := ⟨_, rfl⟩
            have hn2 : n2 ≤ 10 := by rw [en2]; exact varL_10 (by omega)
            rw [← en2] at ev2
            subst ev2
            have R2 := Lib.hid R2'
            have EN2 := Lib.hid en2
            have HB2 := Lib.hid (hb1'.trans (hb2.mono hb1'.size))
            have HZ2 := Lib.hid hb2.size
            have HO2 := Lib.hid (Own.below HO.out HB2.out)
            have HK2 := Lib.hid (KB.out.trans (HB2.out.mono KB.out.size))
            have RI2 := Lib.hid (i3.below hb2)
            have SEP := Lib.hid hsep
            have hz2 : w.heap.size ≤ w2.heap.size := HK2.out.size
            have wni := u64_wrapN (n := ni) (by unfold U64; omega)
            clear ho2 hb2 R2' en2 i3 hsep
            go_wp2_with (at_builtin; refine wpList_appB _ rfl (.tmp 46) (.tmp 48) rfl w.heap.size _ P rfl HO2.out A2 n2 c2 (varL N) rfl EN2.out.symm R2.out (by have := hPl.out; omega) hz2 ?_; intro v3 w3 ho3 hg3 hv3; have HO3 := Lib.hid ho3; have HK3 := Lib.hid (HK2.out.grown hg3 HK2.out.size (fun j hj => (Own.lt HO2.out j hj).1)); have RI3 := Lib.hid (RI2.out.grownS hg3 (fun hne b off e ej => (SEP.out hne b off e).2 b ej rfl)); have HV3 : Hid (v3.ownBlock = u3.ownBlock ∨ v3.ownBlock = some w2.heap.size) := Lib.hid hv3; have HZ3 := Lib.hid hg3.size; clear ho3 hg3 hv3 hz2)
            refine (refVar_c ni w3 (by unfold U64; omega)).mono ?_
            rintro r w4 ⟨v4, rfl, ho4, hb4⟩
            obtain ⟨A4, c4, ev4, -, -, R4', -⟩ := OwnB.form ho4
            obtain ⟨n4, en4⟩ : ∃ n4, n4 = (varL ni).length := ⟨_, rfl⟩
            have hn4 : n4 ≤ 10 := by rw [en4]; exact varL_10 (by omega)
            rw [← en4] at ev4
            subst ev4
            have R4 := Lib.hid R4'
            have EN4 := Lib.hid en4
            have HO4 := Lib.hid (Own.below HO3.out hb4)
            have HK4 := Lib.hid (HK3.out.trans (hb4.mono HK3.out.size))
            have RI4 := Lib.hid (RI3.out.below hb4)
            have hz4 : w.heap.size ≤ w4.heap.size := HK4.out.size
            have hP3 : Hid ((P ++ varL N).length ≤ 4116 * 100000 + 10) := Lib.hid (by rw [List.length_append, ← EN2.out]; have := hPl.out; omega)
            clear ho4 hb4 R4' en4 wni
            go_wp2_with (first
              | (at_builtin; refine wpList_appB _ rfl (.tmp 50) (.tmp 54) rfl w.heap.size _ (P ++ varL N) rfl HO4.out A4 n4 c4 (varL ni) rfl EN4.out.symm R4.out (by have := hP3.out; omega) hz4 ?_; intro v5 w5 ho5 hg5 hv5; have HO5 := Lib.hid ho5; have HK5 := Lib.hid (HK4.out.grown hg5 HK4.out.size (fun j hj => (Own.lt HO4.out j hj).1)); have RI5 := Lib.hid (RI4.out.grownS hg5 (fun hne b off e ej => Or.elim HV3.out (fun q => (SEP.out hne b off e).2 b (q.symm.trans ej) rfl) (fun q => by (have ej' := Option.some.inj (q.symm.trans ej); have := (SEP.out hne b off e).1; have := HZ2.out; omega)))); have hz5 : w.heap.size ≤ w5.heap.size := HK5.out.size; have hP5 : Hid ((P ++ varL N ++ varL ni).length ≤ 4116 * 100000 + 20) := Lib.hid (by rw [List.length_append, ← EN4.out]; have := hP3.out; omega); clear ho5 hg5 hv5 hz4)
              | (at_builtin; refine wpList_appB _ rfl (.tmp 56) (.tmp 57) rfl w.heap.size _ (P ++ varL N ++ varL ni) rfl HO5.out Ai ni ci I rfl ENI.out.symm RI5.out (by have := hP5.out; omega) hz5 ?_; intro v6 w6 ho6 hg6 _; have HO6 := Lib.hid ho6; have HK6 := Lib.hid (HK5.out.grown hg6 HK5.out.size (fun j hj => (Own.lt HO5.out j hj).1)); clear ho6 hg6))
            go_roundw
            case rel => exact ⟨k + 1, rest, P ++ varL N ++ varL ni ++ I, by go_num, HKb, R1b, ZR, HSb, HO6, Lib.hid (by rw [HL.out, layL, EN.out, ENI.out, EI.out]; simp only [List.append_assoc]; rfl), HK6.out⟩
            case measure => simp [intOf]; omega
          | false =>
            obtain ⟨N, eN⟩ : ∃ N, N = numI z true false := ⟨_, rfl⟩
            have hN : (N : Int) = z * 4 + 2 := by rw [eN]; unfold numI; simp; omega
            have hN2 : N ≤ 4003 := by rw [eN]; exact numI_le _ _ z1 z2
            have EN := Lib.hid eN
            clear eN
            obtain ⟨w1, ew1⟩ : ∃ w1, w1 = wr := ⟨_, rfl⟩
            obtain ⟨I, eI⟩ : ∃ I, I = bs := ⟨_, rfl⟩
            have eni : m1 = I.length := by rw [eI]; exact G1.out.symm
            obtain ⟨Ai, eAi⟩ : ∃ Ai, Ai = At1 := ⟨_, rfl⟩
            have i3 : Rd w1 Ai (I.map bv) := by rw [ew1, eAi, eI]; exact G2.out.below KB.out
            have hIl : m1 ≤ 4116 * 100000 := by rw [eni, eI]; have := hbs.out; omega
            have hsep : I.map bv ≠ [] → ∀ b off, Ai = some ⟨b, off, none⟩ → b < w1.heap.size ∧ ∀ j, u3.ownBlock = some j → j ≠ b := fun hne b off e => by
              rcases G2.out with h | ⟨b', off', e', hb', _⟩
              · exact absurd (by rw [eI]; exact h) hne
              · rw [eAi, e'] at e; injection e with e; injection e with e
                have := KB.out.size
                refine ⟨by rw [ew1]; omega, fun j hj => ?_⟩
                have := (Own.lt HO.out j hj).1
                omega
            have hb1' : Below wr.heap.size wr w1 := by rw [ew1]; exact Below.refl _ _
            have EI := Lib.hid eI
            have EW1 := Lib.hid ew1
            have EAI := Lib.hid eAi
            have ENI := Lib.hid eni
            clear eI ew1 eAi eni
            go_wp2_with (fail)
            rw [← EW1.out, ← EAI.out]
            rw [← hN]
            refine (refVar_c N w1 (by unfold U64; omega)).mono ?_
            rintro r w2 ⟨v2, rfl, ho2, hb2⟩
            obtain ⟨A2, c2, ev2, -, -, R2', -⟩ := OwnB.form ho2
            obtain ⟨n2, en2⟩ : ∃ n2, n2 = (varL N).length := ⟨_, rfl⟩
            have hn2 : n2 ≤ 10 := by rw [en2]; exact varL_10 (by omega)
            rw [← en2] at ev2
            subst ev2
            have R2 := Lib.hid R2'
            have EN2 := Lib.hid en2
            have HB2 := Lib.hid (hb1'.trans (hb2.mono hb1'.size))
            have HZ2 := Lib.hid hb2.size
            have HO2 := Lib.hid (Own.below HO.out HB2.out)
            have HK2 := Lib.hid (KB.out.trans (HB2.out.mono KB.out.size))
            have RI2 := Lib.hid (i3.below hb2)
            have SEP := Lib.hid hsep
            have hz2 : w.heap.size ≤ w2.heap.size := HK2.out.size
            have wni := u64_wrapN (n := m1) (by unfold U64; omega)
            clear ho2 hb2 R2' en2 i3 hsep
            go_wp2_with (at_builtin; refine wpList_appB _ rfl (.tmp 46) (.tmp 48) rfl w.heap.size _ P rfl HO2.out A2 n2 c2 (varL N) rfl EN2.out.symm R2.out (by have := hPl.out; omega) hz2 ?_; intro v3 w3 ho3 hg3 hv3; have HO3 := Lib.hid ho3; have HK3 := Lib.hid (HK2.out.grown hg3 HK2.out.size (fun j hj => (Own.lt HO2.out j hj).1)); have RI3 := Lib.hid (RI2.out.grownS hg3 (fun hne b off e ej => (SEP.out hne b off e).2 b ej rfl)); have HV3 : Hid (v3.ownBlock = u3.ownBlock ∨ v3.ownBlock = some w2.heap.size) := Lib.hid hv3; have HZ3 := Lib.hid hg3.size; clear ho3 hg3 hv3 hz2)
            refine (refVar_c m1 w3 (by unfold U64; omega)).mono ?_
            rintro r w4 ⟨v4, rfl, ho4, hb4⟩
            obtain ⟨A4, c4, ev4, -, -, R4', -⟩ := OwnB.form ho4
            obtain ⟨n4, en4⟩ : ∃ n4, n4 = (varL m1).length := ⟨_, rfl⟩
            have hn4 : n4 ≤ 10 := by rw [en4]; exact varL_10 (by omega)
            rw [← en4] at ev4
            subst ev4
            have R4 := Lib.hid R4'
            have EN4 := Lib.hid en4
            have HO4 := Lib.hid (Own.below HO3.out hb4)
            have HK4 := Lib.hid (HK3.out.trans (hb4.mono HK3.out.size))
            have RI4 := Lib.hid (RI3.out.below hb4)
            have hz4 : w.heap.size ≤ w4.heap.size := HK4.out.size
            have hP3 : Hid ((P ++ varL N).length ≤ 4116 * 100000 + 10) := Lib.hid (by rw [List.length_append, ← EN2.out]; have := hPl.out; omega)
            clear ho4 hb4 R4' en4 wni
            go_wp2_with (first
              | (at_builtin; refine wpList_appB _ rfl (.tmp 50) (.tmp 54) rfl w.heap.size _ (P ++ varL N) rfl HO4.out A4 n4 c4 (varL m1) rfl EN4.out.symm R4.out (by have := hP3.out; omega) hz4 ?_; intro v5 w5 ho5 hg5 hv5; have HO5 := Lib.hid ho5; have HK5 := Lib.hid (HK4.out.grown hg5 HK4.out.size (fun j hj => (Own.lt HO4.out j hj).1)); have RI5 := Lib.hid (RI4.out.grownS hg5 (fun hne b off e ej => Or.elim HV3.out (fun q => (SEP.out hne b off e).2 b (q.symm.trans ej) rfl) (fun q => by (have ej' := Option.some.inj (q.symm.trans ej); have := (SEP.out hne b off e).1; have := HZ2.out; omega)))); have hz5 : w.heap.size ≤ w5.heap.size := HK5.out.size; have hP5 : Hid ((P ++ varL N ++ varL m1).length ≤ 4116 * 100000 + 20) := Lib.hid (by rw [List.length_append, ← EN4.out]; have := hP3.out; omega); clear ho5 hg5 hv5 hz4)
              | (at_builtin; refine wpList_appB _ rfl (.tmp 56) (.tmp 57) rfl w.heap.size _ (P ++ varL N ++ varL m1) rfl HO5.out Ai m1 cm1 I rfl ENI.out.symm RI5.out (by have := hP5.out; omega) hz5 ?_; intro v6 w6 ho6 hg6 _; have HO6 := Lib.hid ho6; have HK6 := Lib.hid (HK5.out.grown hg6 HK5.out.size (fun j hj => (Own.lt HO5.out j hj).1)); clear ho6 hg6))
            go_roundw
            case rel => exact ⟨k + 1, rest, P ++ varL N ++ varL m1 ++ I, by go_num, HKb, R1b, ZR, HSb, HO6, Lib.hid (by rw [HL.out, layL, EN.out, ENI.out, EI.out]; simp only [List.append_assoc]; rfl), HK6.out⟩
            case measure => simp [intOf]; omega
        | false =>
          cases li with
          | true =>
            obtain ⟨N, eN⟩ : ∃ N, N = numI z false true := ⟨_, rfl⟩
            have hN : (N : Int) = z * 4 + 1 := by rw [eN]; unfold numI; simp; omega
            have hN2 : N ≤ 4003 := by rw [eN]; exact numI_le _ _ z1 z2
            have EN := Lib.hid eN
            clear eN
            go_wp2_with (fail)
            refine (IH.out sub.size HSs.out.1 sub rfl ZS.out HSs.out.2 ok As1 sl e1 wr ESL.out.symm (S1.out.below KB.out) l3).mono ?_
            rintro r w1 ⟨vi, rfl, hoi, hbi⟩
            obtain ⟨Ai, ci, evi, i1, i2, i3, i4⟩ := OwnB.form hoi
            obtain ⟨I, eI⟩ : ∃ I, I = layL sub := ⟨_, rfl⟩
            have hIl : I.length ≤ 4116 * 100000 := by rw [eI]; have := layL_le sub ZS.out HSs.out.2; have := HSs.out.2; omega
            rw [← eI] at evi i1 i3
            obtain ⟨ni, eni⟩ : ∃ ni, ni = I.length := ⟨_, rfl⟩
            rw [← eni] at evi hIl
            subst evi
            have hsep : I.map bv ≠ [] → ∀ b off, Ai = some ⟨b, off, none⟩ → b < w1.heap.size ∧ ∀ j, u3.ownBlock = some j → j ≠ b := fun _ b off e => by
              have q := i4 _ e
              refine ⟨q.2.1, fun j hj => ?_⟩
              have := (Own.lt HO.out j hj).2
              have : wr.heap.size ≤ b := q.1
              omega
            have hb1' : Below wr.heap.size wr w1 := hbi
            have EI := Lib.hid eI
            have ENI := Lib.hid eni
            clear hoi hbi eI i1 i2 i4 eni
            go_wp2_with (fail)
            rw [← hN]
            refine (refVar_c N w1 (by unfold U64; omega)).mono ?_
            rintro r w2 ⟨v2, rfl, ho2, hb2⟩
            obtain ⟨A2, c2, ev2, -, -, R2', -⟩ := OwnB.form ho2
            obtain ⟨n2, en2⟩ : ∃ n2, n2 = (varL N).length := ⟨_, rfl⟩
            have hn2 : n2 ≤ 10 := by rw [en2]; exact varL_10 (by omega)
            rw [← en2] at ev2
            subst ev2
            have R2 := Lib.hid R2'
            have EN2 := Lib.hid en2
            have HB2 := Lib.hid (hb1'.trans (hb2.mono hb1'.size))
            have HZ2 := Lib.hid hb2.size
            have HO2 := Lib.hid (Own.below HO.out HB2.out)
            have HK2 := Lib.hid (KB.out.trans (HB2.out.mono KB.out.size))
            have RI2 := Lib.hid (i3.below hb2)
            have SEP := Lib.hid hsep
            have hz2 : w.heap.size ≤ w2.heap.size := HK2.out.size
            have wni := u64_wrapN (n := ni) (by unfold U64; omega)
            clear ho2 hb2 R2' en2 i3 hsep
            go_wp2_with (at_builtin; refine wpList_appB _ rfl (.tmp 46) (.tmp 48) rfl w.heap.size _ P rfl HO2.out A2 n2 c2 (varL N) rfl EN2.out.symm R2.out (by have := hPl.out; omega) hz2 ?_; intro v3 w3 ho3 hg3 hv3; have HO3 := Lib.hid ho3; have HK3 := Lib.hid (HK2.out.grown hg3 HK2.out.size (fun j hj => (Own.lt HO2.out j hj).1)); have RI3 := Lib.hid (RI2.out.grownS hg3 (fun hne b off e ej => (SEP.out hne b off e).2 b ej rfl)); have HV3 : Hid (v3.ownBlock = u3.ownBlock ∨ v3.ownBlock = some w2.heap.size) := Lib.hid hv3; have HZ3 := Lib.hid hg3.size; clear ho3 hg3 hv3 hz2)
            refine (refVar_c ni w3 (by unfold U64; omega)).mono ?_
            rintro r w4 ⟨v4, rfl, ho4, hb4⟩
            obtain ⟨A4, c4, ev4, -, -, R4', -⟩ := OwnB.form ho4
            obtain ⟨n4, en4⟩ : ∃ n4, n4 = (varL ni).length := ⟨_, rfl⟩
            have hn4 : n4 ≤ 10 := by rw [en4]; exact varL_10 (by omega)
            rw [← en4] at ev4
            subst ev4
            have R4 := Lib.hid R4'
            have EN4 := Lib.hid en4
            have HO4 := Lib.hid (Own.below HO3.out hb4)
            have HK4 := Lib.hid (HK3.out.trans (hb4.mono HK3.out.size))
            have RI4 := Lib.hid (RI3.out.below hb4)
            have hz4 : w.heap.size ≤ w4.heap.size := HK4.out.size
            have hP3 : Hid ((P ++ varL N).length ≤ 4116 * 100000 + 10) := Lib.hid (by rw [List.length_append, ← EN2.out]; have := hPl.out; omega)
            clear ho4 hb4 R4' en4 wni
            go_wp2_with (first
              | (at_builtin; refine wpList_appB _ rfl (.tmp 50) (.tmp 54) rfl w.heap.size _ (P ++ varL N) rfl HO4.out A4 n4 c4 (varL ni) rfl EN4.out.symm R4.out (by have := hP3.out; omega) hz4 ?_; intro v5 w5 ho5 hg5 hv5; have HO5 := Lib.hid ho5; have HK5 := Lib.hid (HK4.out.grown hg5 HK4.out.size (fun j hj => (Own.lt HO4.out j hj).1)); have RI5 := Lib.hid (RI4.out.grownS hg5 (fun hne b off e ej => Or.elim HV3.out (fun q => (SEP.out hne b off e).2 b (q.symm.trans ej) rfl) (fun q => by (have ej' := Option.some.inj (q.symm.trans ej); have := (SEP.out hne b off e).1; have := HZ2.out; omega)))); have hz5 : w.heap.size ≤ w5.heap.size := HK5.out.size; have hP5 : Hid ((P ++ varL N ++ varL ni).length ≤ 4116 * 100000 + 20) := Lib.hid (by rw [List.length_append, ← EN4.out]; have := hP3.out; omega); clear ho5 hg5 hv5 hz4)
              | (at_builtin; refine wpList_appB _ rfl (.tmp 56) (.tmp 57) rfl w.heap.size _ (P ++ varL N ++ varL ni) rfl HO5.out Ai ni ci I rfl ENI.out.symm RI5.out (by have := hP5.out; omega) hz5 ?_; intro v6 w6 ho6 hg6 _; have HO6 := Lib.hid ho6; have HK6 := Lib.hid (HK5.out.grown hg6 HK5.out.size (fun j hj => (Own.lt HO5.out j hj).1)); clear ho6 hg6))
            go_roundw
            case rel => exact ⟨k + 1, rest, P ++ varL N ++ varL ni ++ I, by go_num, HKb, R1b, ZR, HSb, HO6, Lib.hid (by rw [HL.out, layL, EN.out, ENI.out, EI.out]; simp only [List.append_assoc]; rfl), HK6.out⟩
            case measure => simp [intOf]; omega
          | false =>
            obtain ⟨N, eN⟩ : ∃ N, N = numI z false false := ⟨_, rfl⟩
            have hN : (N : Int) = z * 4 := by rw [eN]; unfold numI; simp; omega
            have hN2 : N ≤ 4003 := by rw [eN]; exact numI_le _ _ z1 z2
            have EN := Lib.hid eN
            clear eN
            obtain ⟨w1, ew1⟩ : ∃ w1, w1 = wr := ⟨_, rfl⟩
            obtain ⟨I, eI⟩ : ∃ I, I = bs := ⟨_, rfl⟩
            have eni : m1 = I.length := by rw [eI]; exact G1.out.symm
            obtain ⟨Ai, eAi⟩ : ∃ Ai, Ai = At1 := ⟨_, rfl⟩
            have i3 : Rd w1 Ai (I.map bv) := by rw [ew1, eAi, eI]; exact G2.out.below KB.out
            have hIl : m1 ≤ 4116 * 100000 := by rw [eni, eI]; have := hbs.out; omega
            have hsep : I.map bv ≠ [] → ∀ b off, Ai = some ⟨b, off, none⟩ → b < w1.heap.size ∧ ∀ j, u3.ownBlock = some j → j ≠ b := fun hne b off e => by
              rcases G2.out with h | ⟨b', off', e', hb', _⟩
              · exact absurd (by rw [eI]; exact h) hne
              · rw [eAi, e'] at e; injection e with e; injection e with e
                have := KB.out.size
                refine ⟨by rw [ew1]; omega, fun j hj => ?_⟩
                have := (Own.lt HO.out j hj).1
                omega
            have hb1' : Below wr.heap.size wr w1 := by rw [ew1]; exact Below.refl _ _
            have EI := Lib.hid eI
            have EW1 := Lib.hid ew1
            have EAI := Lib.hid eAi
            have ENI := Lib.hid eni
            clear eI ew1 eAi eni
            go_wp2_with (fail)
            rw [← EW1.out, ← EAI.out]
            rw [← hN]
            refine (refVar_c N w1 (by unfold U64; omega)).mono ?_
            rintro r w2 ⟨v2, rfl, ho2, hb2⟩
            obtain ⟨A2, c2, ev2, -, -, R2', -⟩ := OwnB.form ho2
            obtain ⟨n2, en2⟩ : ∃ n2, n2 = (varL N).length := ⟨_, rfl⟩
            have hn2 : n2 ≤ 10 := by rw [en2]; exact varL_10 (by omega)
            rw [← en2] at ev2
            subst ev2
            have R2 := Lib.hid R2'
            have EN2 := Lib.hid en2
            have HB2 := Lib.hid (hb1'.trans (hb2.mono hb1'.size))
            have HZ2 := Lib.hid hb2.size
            have HO2 := Lib.hid (Own.below HO.out HB2.out)
            have HK2 := Lib.hid (KB.out.trans (HB2.out.mono KB.out.size))
            have RI2 := Lib.hid (i3.below hb2)
            have SEP := Lib.hid hsep
            have hz2 : w.heap.size ≤ w2.heap.size := HK2.out.size
            have wni := u64_wrapN (n := m1) (by unfold U64; omega)
            clear ho2 hb2 R2' en2 i3 hsep
            go_wp2_with (at_builtin; refine wpList_appB _ rfl (.tmp 46) (.tmp 48) rfl w.heap.size _ P rfl HO2.out A2 n2 c2 (varL N) rfl EN2.out.symm R2.out (by have := hPl.out; omega) hz2 ?_; intro v3 w3 ho3 hg3 hv3; have HO3 := Lib.hid ho3; have HK3 := Lib.hid (HK2.out.grown hg3 HK2.out.size (fun j hj => (Own.lt HO2.out j hj).1)); have RI3 := Lib.hid (RI2.out.grownS hg3 (fun hne b off e ej => (SEP.out hne b off e).2 b ej rfl)); have HV3 : Hid (v3.ownBlock = u3.ownBlock ∨ v3.ownBlock = some w2.heap.size) := Lib.hid hv3; have HZ3 := Lib.hid hg3.size; clear ho3 hg3 hv3 hz2)
            refine (refVar_c m1 w3 (by unfold U64; omega)).mono ?_
            rintro r w4 ⟨v4, rfl, ho4, hb4⟩
            obtain ⟨A4, c4, ev4, -, -, R4', -⟩ := OwnB.form ho4
            obtain ⟨n4, en4⟩ : ∃ n4, n4 = (varL m1).length := ⟨_, rfl⟩
            have hn4 : n4 ≤ 10 := by rw [en4]; exact varL_10 (by omega)
            rw [← en4] at ev4
            subst ev4
            have R4 := Lib.hid R4'
            have EN4 := Lib.hid en4
            have HO4 := Lib.hid (Own.below HO3.out hb4)
            have HK4 := Lib.hid (HK3.out.trans (hb4.mono HK3.out.size))
            have RI4 := Lib.hid (RI3.out.below hb4)
            have hz4 : w.heap.size ≤ w4.heap.size := HK4.out.size
            have hP3 : Hid ((P ++ varL N).length ≤ 4116 * 100000 + 10) := Lib.hid (by rw [List.length_append, ← EN2.out]; have := hPl.out; omega)
            clear ho4 hb4 R4' en4 wni
            go_wp2_with (first
              | (at_builtin; refine wpList_appB _ rfl (.tmp 50) (.tmp 54) rfl w.heap.size _ (P ++ varL N) rfl HO4.out A4 n4 c4 (varL m1) rfl EN4.out.symm R4.out (by have := hP3.out; omega) hz4 ?_; intro v5 w5 ho5 hg5 hv5; have HO5 := Lib.hid ho5; have HK5 := Lib.hid (HK4.out.grown hg5 HK4.out.size (fun j hj => (Own.lt HO4.out j hj).1)); have RI5 := Lib.hid (RI4.out.grownS hg5 (fun hne b off e ej => Or.elim HV3.out (fun q => (SEP.out hne b off e).2 b (q.symm.trans ej) rfl) (fun q => by (have ej' := Option.some.inj (q.symm.trans ej); have := (SEP.out hne b off e).1; have := HZ2.out; omega)))); have hz5 : w.heap.size ≤ w5.heap.size := HK5.out.size; have hP5 : Hid ((P ++ varL N ++ varL m1).length ≤ 4116 * 100000 + 20) := Lib.hid (by rw [List.length_append, ← EN4.out]; have := hP3.out; omega); clear ho5 hg5 hv5 hz4)
              | (at_builtin; refine wpList_appB _ rfl (.tmp 56) (.tmp 57) rfl w.heap.size _ (P ++ varL N ++ varL m1) rfl HO5.out Ai m1 cm1 I rfl ENI.out.symm RI5.out (by have := hP5.out; omega) hz5 ?_; intro v6 w6 ho6 hg6 _; have HO6 := Lib.hid ho6; have HK6 := Lib.hid (HK5.out.grown hg6 HK5.out.size (fun j hj => (Own.lt HO5.out j hj).1)); clear ho6 hg6))
            go_roundw
            case rel => exact ⟨k + 1, rest, P ++ varL N ++ varL m1 ++ I, by go_num, HKb, R1b, ZR, HSb, HO6, Lib.hid (by rw [HL.out, layL, EN.out, ENI.out, EI.out]; simp only [List.append_assoc]; rfl), HK6.out⟩
            case measure => simp [intOf]; omega
end Go.Proofs.Ytcffinkkfdfcaaa

/- What the reference's Check answers. Conditions: items that can be read. -/
namespace Go.Proofs.Ytcffinkkfdfcaaa
open Go Go.RowKit

set_option maxRecDepth 100000 in
set_option maxHeartbeats 8000000 in
theorem refCheck_c (f : Fo) (ok : Nat → Prop) (A : Option Addr) (n c : Nat) (w : World) (hn : f.len = n) (h1 : FoR ok w A 0 f) (hl : n ≤ 2199023255488) :
    Calls Try.prog 65 #[.slice A n c] w fun r w' => r = .returned (.int .i64 (checkF f)) ∧ Below w.heap.size w w' := by
  have HN := Lib.hid hn; clear hn
  have H1 := Lib.hid h1; clear h1
  obtain ⟨C, hC⟩ : ∃ C, C = checkF f := ⟨_, rfl⟩
  rw [← hC]
  have HC := Lib.hid hC; clear hC
  go_enter Try.func65, Try.ntmps65
  go_wp2_with (fail)
  refine Calls.mono (row_c f.size f rfl 1 65 (by omega) (by omega) (by omega) (by omega) ok A n c w HN.out H1.out hl) ?_
  rintro _ w1 ⟨v, ds, rfl, ho, hm, hk⟩
  obtain ⟨L, eL⟩ : ∃ L, ds.length = L := ⟨_, rfl⟩
  obtain ⟨Av, cv, rfl, f1, f2, f3⟩ := ho.formL eL
  have hb : ∀ (j : Nat) (hj : j < ds.length), ds[j].nb ≤ 140737488355328 ∧ ds[j].ns ≤ 2199023255488 := fun j hj =>
    full_bounds f A 0 1 0 H1.out _ (List.mem_of_mem_take (by rw [rowR] at hm; rw [← hm]; exact List.mem_map.2 ⟨_, List.getElem_mem hj, rfl⟩))
  have hL4 : L ≤ 66 := by
    have h2 := congrArg List.length hm
    rw [List.length_map, rowR, List.length_take, eL] at h2
    have : ((65 : Int) + 1).toNat = 66 := rfl
    omega
  have hsc : scanF (ds.map EnV.en) 0 = scanF (fullR f 1 0) 0 := by rw [hm, rowR]; exact scan_take _
  have hres : ∀ (k : Nat) (hk : k < ds.length), (∀ (j : Nat) (hj : j < ds.length), j < k → fe j ds[j].en = 0) → ∀ u : Int, u ≠ 0 → fe k ds[k].en = u → C = u := fun k hk h0 u hu he => by
    have hk' : k < (ds.map EnV.en).length := by rw [List.length_map]; exact hk
    have q := scanF_at (ds.map EnV.en) 0 k hk' (fun j hj hjk => by
      rw [List.getElem_map, Nat.zero_add]; exact h0 j (by rw [List.length_map] at hj; exact hj) hjk) (by rw [List.getElem_map, Nat.zero_add, he]; exact hu)
    rw [List.getElem_map, Nat.zero_add, he, hsc] at q
    rw [HC.out, checkF, q, if_pos hu]
  have HR := Lib.hid hres
  have HS := Lib.hid hsc
  have HB := Lib.hid hb
  have EL := Lib.hid eL
  have RD := Lib.hid f3
  have HK := Lib.hid hk
  have hz1 := Lib.hid hk.size
  clear ho hm hb eL f2 f3 hk hres hsc
  go_wp2_with (fail)
  go_loopw [4] (fun i wr => ∃ (k : Nat), i = .int .i64 k ∧ k ≤ L ∧ Hid (∀ (j : Nat) (hj : j < ds.length), j < k → fe j ds[j].en = 0) ∧ Below w1.heap.size w1 wr) (fun i _ => L - (intOf i).toNat)
  case atStart => exact ⟨0, rfl, Nat.zero_le _, Lib.hid (fun j hj h0 => absurd h0 (Nat.not_lt_zero _)), Below.refl _ _⟩
  case round =>
    obtain ⟨k, rfl, hkL, HP, kb⟩ := hrel
    by_cases hkl : k < L
    · obtain ⟨b1, o1, rfl, hb1, x0, x1, x2, x3, x4, x5, x6⟩ := RdE_at RD.out k (by rw [EL.out]; exact hkl)
      obtain ⟨p1, p2⟩ := HB.out k (by rw [EL.out]; exact hkl)
      obtain ⟨xx, exx⟩ : ∃ xx, xx = (ds[k]'(by rw [EL.out]; exact hkl)) := ⟨_, rfl⟩
      rw [← exx] at x0 x1 x2 x3 x4 x5 x6 p1 p2
      have res : Hid (∀ u : Int, u ≠ 0 → fe k xx.en = u → C = u) := Lib.hid (by rw [exx]; exact HR.out k (by rw [EL.out]; exact hkl) HP.out)
      have nxt : Hid (fe k xx.en = 0 → Hid (∀ (j : Nat) (hj : j < ds.length), j < k + 1 → fe j ds[j].en = 0)) := Lib.hid fun h0 => Lib.hid fun j hj h1 => by
        by_cases e : j = k
        · subst e; rw [← exx]; exact h0
        · exact HP.out j hj (by omega)
      clear exx HP
      obtain ⟨kd, cr, li, Ax, nb, cb, As, ns, cs, dd, ah⟩ := xx
      simp only at x0 x1 x2 x3 x4 x5 x6 p1 p2
      rw [← kb.cell (p := ⟨b1, _, none⟩) hb1] at x0 x1 x2 x3 x4 x5 x6
      obtain ⟨wa, ewa⟩ : ∃ wa, wa = wr.alloc (.cells #[.int .i64 kd, .bool cr, .bool li, .slice Ax nb cb, .slice As ns cs] 76) := ⟨_, rfl⟩
      have hba : Below wr.heap.size wr wa := by rw [ewa]; exact (Below.refl _ _).alloc (Nat.le_refl _) _
      have hka : Below w1.heap.size w1 wa := kb.trans (hba.mono kb.size)
      have ya : ∀ (j : Nat) (v : Value), (#[Value.int .i64 kd, .bool cr, .bool li, .slice Ax nb cb, .slice As ns cs] : Array Value)[j]? = some v → wa.cell? ⟨wr.heap.size, j, none⟩ = some v := fun j v h => by
        rw [ewa, cell_of_row _ _ _ _ _ (0, 0) (heap_alloc_new wr _)]; exact h
      have y0 := ya 0 _ rfl
      have y2 := ya 2 _ rfl
      have y3 := ya 3 _ rfl
      have y4 := ya 4 _ rfl
      have z5 : wa.cell? ⟨b1, o1 + k * 7 + 5, none⟩ = some (.int .i64 dd) := (hba.cell (p := ⟨b1, _, none⟩) (Nat.lt_of_lt_of_le hb1 kb.size)).trans x5
      have z6 : wa.cell? ⟨b1, o1 + k * 7 + 6, none⟩ = some (.int .i64 ah) := (hba.cell (p := ⟨b1, _, none⟩) (Nat.lt_of_lt_of_le hb1 kb.size)).trans x6
      clear ya
      have HKA := Lib.hid hka
      have EWA := Lib.hid ewa
      have KB := Lib.hid kb
      clear hka hba ewa kb
      have hlt' : (k : Int) < (L : Int) := by omega
      by_cases h64 : 64 ≤ k
      · have h64' : (64 : Int) ≤ (k : Int) := by omega
        have e := Lib.hid <| res.out 4 (by decide) (fe_64 h64)
        go_wp2_with (fail)
        rw [← EWA.out]
        go_ret
        exact ⟨by rw [e.out]; rfl, HK.out.trans (HKA.out.mono HK.out.size)⟩
      · have h64' : (k : Int) < 64 := by omega
        by_cases hA : kd < 1
        · have e := Lib.hid <| res.out 1 (by decide) (fe_1 h64 (.inl hA))
          have bA : decide (kd < 1) = true := decide_eq_true (by omega)
          clear hA
          go_wp2_with (fail)
          rw [← EWA.out]
          clear x0 x1 x2 x3 x4 x5 x6
          go_quiet (fail)
          go_wp2_with (fail)
          go_ret
          exact ⟨by rw [e.out]; rfl, below_drewN (HK.out.trans (HKA.out.mono HK.out.size)) _⟩
        · have bA : decide (kd < 1) = false := decide_eq_false hA
          by_cases hB : 1000 < kd
          · have e := Lib.hid <| res.out 1 (by decide) (fe_1 h64 (.inr (.inl hB)))
            have bB : decide (1000 < kd) = true := decide_eq_true (by omega)
            clear hA hB
            go_wp2_with (fail)
            rw [← EWA.out]
            clear x0 x1 x2 x3 x4 x5 x6
            go_quiet (fail)
            go_wp2_with (fail)
            go_ret
            exact ⟨by rw [e.out]; rfl, below_drewN (HK.out.trans (HKA.out.mono HK.out.size)) _⟩
          · have bB : decide (1000 < kd) = false := decide_eq_false hB
            by_cases hC : kd ≤ ah
            · have e := Lib.hid <| res.out 1 (by decide) (fe_1 h64 (.inr (.inr (.inl hC))))
              have bC : decide (kd ≤ ah) = true := decide_eq_true (by omega)
              clear hA hB hC
              go_wp2_with (fail)
              rw [← EWA.out]
              clear x0 x1 x2 x3 x4 x5 x6
              go_quiet (fail)
              go_wp2_with (fail)
              go_ret
              exact ⟨by rw [e.out]; rfl, below_drewN (HK.out.trans (HKA.out.mono HK.out.size)) _⟩
            · have bC : decide (kd ≤ ah) = false := decide_eq_false hC
              cases li with
              | false =>
                by_cases hD : 0 < ns
                · have e := Lib.hid <| res.out 1 (by decide) (fe_1 h64 (.inr (.inr (.inr (.inl ⟨hD, rfl⟩)))))
                  have bD : decide ((0 : Int) < (ns : Int)) = true := decide_eq_true (by omega)
                  have bDn : decide (0 < ns) = true := decide_eq_true (by omega)
                  clear hA hB hC hD
                  go_wp2_with (fail)
                  rw [← EWA.out]
                  clear x0 x1 x2 x3 x4 x5 x6
                  go_quiet (fail)
                  go_wp2_with (fail)
                  go_ret
                  exact ⟨by rw [e.out]; rfl, below_drewN (HK.out.trans (HKA.out.mono HK.out.size)) _⟩
                · have fa : Hid (En.fair (EnV.en ⟨kd, cr, false, Ax, nb, cb, As, ns, cs, dd, ah⟩)) := Lib.hid ⟨by show 1 ≤ kd; omega, by show kd ≤ 1000; omega, by show ah < kd; omega, fun _ => by show ns = 0; omega, fun h => by cases h⟩
                  have bD : decide ((0 : Int) < (ns : Int)) = false := decide_eq_false (by omega)
                  have bDn : decide (0 < ns) = false := decide_eq_false (by omega)
                  by_cases hF : 4096 < nb
                  · have e := Lib.hid <| res.out 4 (by decide) (fe_4b h64 fa.out (fun h => by cases h.1) hF)
                    have bE : decide ((0 : Int) < (nb : Int)) = true := decide_eq_true (by omega)
                    have bEn : decide (0 < nb) = true := decide_eq_true (by omega)
                    have bF : decide ((4096 : Int) < (nb : Int)) = true := decide_eq_true (by omega)
                    have bFn : decide (4096 < nb) = true := decide_eq_true (by omega)
                    clear hA hB hC hD hF
                    go_wp2_with (fail)
                    rw [← EWA.out]
                    clear x0 x1 x2 x3 x4 x5 x6
                    go_quiet (fail)
                    go_wp2_with (fail)
                    go_ret
                    exact ⟨by rw [e.out]; rfl, below_drewN (HK.out.trans (HKA.out.mono HK.out.size)) _⟩
                  · have bF : decide ((4096 : Int) < (nb : Int)) = false := decide_eq_false (by omega)
                    have bFn : decide (4096 < nb) = false := decide_eq_false (by omega)
                    by_cases hE : 0 < nb
                    · have nx := nxt.out (fe_0 h64 fa.out (fun h => by cases h.1) (by show nb ≤ 4096; omega))
                      have bE : decide ((0 : Int) < (nb : Int)) = true := decide_eq_true (by omega)
                      have bEn : decide (0 < nb) = true := decide_eq_true (by omega)
                      clear hA hB hC hD hE hF
                      go_wp2_with (fail)
                      rw [← EWA.out]
                      clear x0 x1 x2 x3 x4 x5 x6
                      go_quiet (fail)
                      go_wp2_with (fail)
                      exact ⟨⟨k + 1, by go_num, by omega, nx, below_drewN HKA.out _⟩, by simp [intOf]; omega⟩
                    · have nx := nxt.out (fe_0 h64 fa.out (fun h => by cases h.1) (by show nb ≤ 4096; omega))
                      have bE : decide ((0 : Int) < (nb : Int)) = false := decide_eq_false (by omega)
                      have bEn : decide (0 < nb) = false := decide_eq_false (by omega)
                      clear hA hB hC hD hE hF
                      go_wp2_with (fail)
                      rw [← EWA.out]
                      clear x0 x1 x2 x3 x4 x5 x6
                      go_quiet (fail)
                      go_wp2_with (fail)
                      exact ⟨⟨k + 1, by go_num, by omega, nx, below_drewN HKA.out _⟩, by simp [intOf]; omega⟩
              | true =>
                by_cases hE : 0 < nb
                · have e := Lib.hid <| res.out 1 (by decide) (fe_1 h64 (.inr (.inr (.inr (.inr ⟨hE, rfl⟩)))))
                  have bE : decide ((0 : Int) < (nb : Int)) = true := decide_eq_true (by omega)
                  have bEn : decide (0 < nb) = true := decide_eq_true (by omega)
                  by_cases hD : 0 < ns
                  · have bD : decide ((0 : Int) < (ns : Int)) = true := decide_eq_true (by omega)
                    have bDn : decide (0 < ns) = true := decide_eq_true (by omega)
                    clear hA hB hC hD hE
                    go_wp2_with (fail)
                    rw [← EWA.out]
                    clear x0 x1 x2 x3 x4 x5 x6
                    go_quiet (fail)
                    go_wp2_with (fail)
                    go_ret
                    exact ⟨by rw [e.out]; rfl, below_drewN (HK.out.trans (HKA.out.mono HK.out.size)) _⟩
                  · have bD : decide ((0 : Int) < (ns : Int)) = false := decide_eq_false (by omega)
                    have bDn : decide (0 < ns) = false := decide_eq_false (by omega)
                    clear hA hB hC hD hE
                    go_wp2_with (fail)
                    rw [← EWA.out]
                    clear x0 x1 x2 x3 x4 x5 x6
                    go_quiet (fail)
                    go_wp2_with (fail)
                    go_ret
                    exact ⟨by rw [e.out]; rfl, below_drewN (HK.out.trans (HKA.out.mono HK.out.size)) _⟩
                · have fa : Hid (En.fair (EnV.en ⟨kd, cr, true, Ax, nb, cb, As, ns, cs, dd, ah⟩)) := Lib.hid ⟨by show 1 ≤ kd; omega, by show kd ≤ 1000; omega, by show ah < kd; omega, fun h => (by cases h), fun _ => by show nb = 0; omega⟩
                  have bE : decide ((0 : Int) < (nb : Int)) = false := decide_eq_false (by omega)
                  have bEn : decide (0 < nb) = false := decide_eq_false (by omega)
                  have bF : decide ((4096 : Int) < (nb : Int)) = false := decide_eq_false (by omega)
                  have bFn : decide (4096 < nb) = false := decide_eq_false (by omega)
                  by_cases hG : dd = 4
                  · have ed : (dd == 4) = true := by rw [hG]; rfl
                    have e := Lib.hid <| res.out 5 (by decide) (fe_5 h64 fa.out rfl hG)
                    by_cases hD : 0 < ns
                    · have bD : decide ((0 : Int) < (ns : Int)) = true := decide_eq_true (by omega)
                      have bDn : decide (0 < ns) = true := decide_eq_true (by omega)
                      clear hA hB hC hD hE hG
                      go_wp2_with (fail)
                      rw [← EWA.out]
                      clear x0 x1 x2 x3 x4 x5 x6
                      go_quiet (fail)
                      go_wp2_with (fail)
                      go_ret
                      exact ⟨by rw [e.out]; rfl, below_drewN (HK.out.trans (HKA.out.mono HK.out.size)) _⟩
                    · have bD : decide ((0 : Int) < (ns : Int)) = false := decide_eq_false (by omega)
                      have bDn : decide (0 < ns) = false := decide_eq_false (by omega)
                      clear hA hB hC hD hE hG
                      go_wp2_with (fail)
                      rw [← EWA.out]
                      clear x0 x1 x2 x3 x4 x5 x6
                      go_quiet (fail)
                      go_wp2_with (fail)
                      go_ret
                      exact ⟨by rw [e.out]; rfl, below_drewN (HK.out.trans (HKA.out.mono HK.out.size)) _⟩
                  · have ed : (dd == 4) = false := by simpa using hG
                    have nx := nxt.out (fe_0 h64 fa.out (fun h => hG h.2) (by show nb ≤ 4096; omega))
                    by_cases hD : 0 < ns
                    · have bD : decide ((0 : Int) < (ns : Int)) = true := decide_eq_true (by omega)
                      have bDn : decide (0 < ns) = true := decide_eq_true (by omega)
                      clear hA hB hC hD hE hG
                      go_wp2_with (fail)
                      rw [← EWA.out]
                      clear x0 x1 x2 x3 x4 x5 x6
                      go_quiet (fail)
                      go_wp2_with (fail)
                      exact ⟨⟨k + 1, by go_num, by omega, nx, below_drewN HKA.out _⟩, by simp [intOf]; omega⟩
                    · have bD : decide ((0 : Int) < (ns : Int)) = false := decide_eq_false (by omega)
                      have bDn : decide (0 < ns) = false := decide_eq_false (by omega)
                      clear hA hB hC hD hE hG
                      go_wp2_with (fail)
                      rw [← EWA.out]
                      clear x0 x1 x2 x3 x4 x5 x6
                      go_quiet (fail)
                      go_wp2_with (fail)
                      exact ⟨⟨k + 1, by go_num, by omega, nx, below_drewN HKA.out _⟩, by simp [intOf]; omega⟩
    · have hkl' : (L : Int) ≤ (k : Int) := by omega
      have hkk : k = L := by omega
      have hz : scanF (fullR f 1 0) 0 = 0 := by
        rw [← HS.out]
        refine scanF_none _ _ fun j hj => ?_
        rw [List.getElem_map, Nat.zero_add]
        exact HP.out j (by rw [List.length_map] at hj; exact hj) (by rw [List.length_map, EL.out] at hj; omega)
      obtain ⟨gd, sz⟩ := check_scan hz
      have HZ := Lib.hid hz
      have GD := Lib.hid gd
      have hkb := Lib.hid (HK.out.trans (kb.mono HK.out.size))
      clear hz gd hkk
      go_wp2_with (fail)
      refine (refBytes_c f.size f rfl GD.out (by omega) ok A n c wr HN.out (H1.out.below hkb.out) hl).mono ?_
      rintro _ w2 ⟨v2, rfl, ho2, hk2⟩
      obtain ⟨A2, c2, rfl, -, -, -, -⟩ := OwnB.form ho2
      obtain ⟨l2, el2⟩ : ∃ l2, l2 = (layL f).length := ⟨_, rfl⟩
      rw [← el2]
      have EL2 := Lib.hid el2
      have K2 := Lib.hid (hkb.out.trans (hk2.mono hkb.out.size))
      clear el2 ho2 hk2
      by_cases h4 : 4096 < l2
      · have h4' : (4096 : Int) < (l2 : Int) := by omega
        have e := Lib.hid (show C = 4 by rw [HC.out, checkF, HZ.out, if_neg (by simp), if_pos (by rw [← EL2.out]; exact h4)])
        go_wp2_with (fail)
        go_ret
        exact ⟨by rw [e.out]; rfl, K2.out⟩
      · have h4' : (l2 : Int) ≤ 4096 := by omega
        have e := Lib.hid (show C = 0 by rw [HC.out, checkF, HZ.out, if_neg (by simp), if_neg (by rw [← EL2.out]; exact h4)])
        go_wp2_with (fail)
        go_ret
        exact ⟨by rw [e.out]; rfl, K2.out⟩
end Go.Proofs.Ytcffinkkfdfcaaa

/- What tlv.Encode and the reference's Encode of items answer. Conditions: items that can be read. -/
namespace Go.Proofs.Ytcffinkkfdfcaaa
open Go Go.RowKit

theorem check_zero {f : Fo} (h : checkF f = 0) : f.good ∧ f.size ≤ 64 ∧ (layL f).length ≤ 4096 := by
  unfold checkF at h
  by_cases h0 : scanF (fullR f 1 0) 0 = 0
  · rw [if_neg (by simp [h0])] at h
    obtain ⟨g1, g2⟩ := check_scan h0
    refine ⟨g1, g2, ?_⟩
    by_cases h4 : 4096 < (layL f).length
    · rw [if_pos h4] at h; omega
    · omega
  · rw [if_pos h0] at h; exact absurd h h0
/-- What Encode answers. -/
def encF (f : Fo) : List UInt8 := if checkF f = 0 then layL f else []

set_option maxRecDepth 100000 in
set_option maxHeartbeats 4000000 in
theorem EncodeT_c (f : Fo) (ok : Nat → Prop) (A : Option Addr) (n c : Nat) (w : World) (hn : f.len = n) (h1 : FoR ok w A 0 f) (hl : n ≤ 2199023255488) :
    Calls Try.prog 31 #[.slice A n c] w fun r w' => ∃ v, r = .returned (.tuple #[v, .int .i64 (checkF f)]) ∧ OwnB w' w.heap.size v (encF f) ∧ Below w.heap.size w w' := by
  obtain ⟨C, hC⟩ : ∃ C, C = checkF f := ⟨_, rfl⟩
  rw [← hC]
  have HC := Lib.hid hC; clear hC
  have H1 := Lib.hid h1; clear h1
  have HN := Lib.hid hn; clear hn
  go_enter Try.func31, Try.ntmps31
  go_wp2_with (fail)
  refine (Check_c f ok A n c w HN.out H1.out hl).mono ?_
  rintro _ w1 ⟨rfl, hk1⟩
  rw [← HC.out]
  have K1 := Lib.hid hk1; clear hk1
  by_cases h0 : C = 0
  · have ed : (C != 0) = false := by rw [h0]; rfl
    have hz : checkF f = 0 := HC.out.symm.trans h0
    obtain ⟨gd, sz, -⟩ := check_zero hz
    have H0 := Lib.hid h0
    have HZ := Lib.hid hz
    have GD := Lib.hid gd
    clear h0 hz gd
    go_wp2_with (fail)
    refine (lay_c f.size f rfl GD.out (by omega) ok A n c w1 HN.out (H1.out.below K1.out) hl).mono ?_
    rintro _ w2 ⟨v2, rfl, ho2, hk2⟩
    have HO2 := Lib.hid ho2
    have K2 := Lib.hid (K1.out.trans (hk2.mono K1.out.size))
    clear ho2 hk2
    go_wp2_with (fail)
    go_ret2
    exact ⟨v2, (by rw [H0.out]; rfl), by rw [encF, if_pos HZ.out]; exact Own.low HO2.out K1.out.size, K2.out⟩
  · have ed : (C != 0) = true := by simpa using h0
    have e := Lib.hid (show encF f = [] by rw [encF, if_neg (fun h => h0 (HC.out.trans h))])
    clear h0
    go_wp2_with (fail)
    go_ret2
    exact ⟨_, rfl, by rw [e.out]; exact Own.nil_ _ _ _, K1.out⟩
set_option maxRecDepth 100000 in
set_option maxHeartbeats 4000000 in
theorem refEncodeT_c (f : Fo) (ok : Nat → Prop) (A : Option Addr) (n c : Nat) (w : World) (hn : f.len = n) (h1 : FoR ok w A 0 f) (hl : n ≤ 2199023255488) :
    Calls Try.prog 40 #[.slice A n c] w fun r w' => ∃ v, r = .returned (.tuple #[v, .int .i64 (checkF f)]) ∧ OwnB w' w.heap.size v (encF f) ∧ Below w.heap.size w w' := by
  obtain ⟨C, hC⟩ : ∃ C, C = checkF f := ⟨_, rfl⟩
  rw [← hC]
  have HC := Lib.hid hC; clear hC
  have H1 := Lib.hid h1; clear h1
  have HN := Lib.hid hn; clear hn
  go_enter Try.func40, Try.ntmps40
  go_wp2_with (fail)
  refine (refCheck_c f ok A n c w HN.out H1.out hl).mono ?_
  rintro _ w1 ⟨rfl, hk1⟩
  rw [← HC.out]
  have K1 := Lib.hid hk1; clear hk1
  by_cases h0 : C = 0
  · have ed : (C != 0) = false := by rw [h0]; rfl
    have hz : checkF f = 0 := HC.out.symm.trans h0
    obtain ⟨gd, sz, -⟩ := check_zero hz
    have H0 := Lib.hid h0
    have HZ := Lib.hid hz
    have GD := Lib.hid gd
    clear h0 hz gd
    go_wp2_with (fail)
    refine (refBytes_c f.size f rfl GD.out (by omega) ok A n c w1 HN.out (H1.out.below K1.out) hl).mono ?_
    rintro _ w2 ⟨v2, rfl, ho2, hk2⟩
    have HO2 := Lib.hid ho2
    have K2 := Lib.hid (K1.out.trans (hk2.mono K1.out.size))
    clear ho2 hk2
    go_wp2_with (fail)
    go_ret2
    exact ⟨v2, (by rw [H0.out]; rfl), by rw [encF, if_pos HZ.out]; exact Own.low HO2.out K1.out.size, K2.out⟩
  · have ed : (C != 0) = true := by simpa using h0
    have e := Lib.hid (show encF f = [] by rw [encF, if_neg (fun h => h0 (HC.out.trans h))])
    clear h0
    go_wp2_with (fail)
    go_ret2
    exact ⟨_, rfl, by rw [e.out]; exact Own.nil_ _ _ _, K1.out⟩
end Go.Proofs.Ytcffinkkfdfcaaa

/- Rows of items in memory: five cells each; appended, made, stored into. Conditions: lengths that fit. -/
namespace Go.Proofs.Ytcffinkkfdfcaaa
open Go Go.RowKit

/-- An item in memory: its five cells. -/
structure ItV where
  k : Int
  cr : Bool
  li : Bool
  A : Option Addr
  n : Nat
  c : Nat
  As : Option Addr
  ns : Nat
  cs : Nat
def ItV.cells (e : ItV) : List Value := [.int .i64 e.k, .bool e.cr, .bool e.li, .slice e.A e.n e.c, .slice e.As e.ns e.cs]
/-! ### The cells of a row -/
def cellsI (ds : List ItV) : List Value := ds.flatMap ItV.cells
theorem cellsI_cons (d : ItV) (ds : List ItV) : cellsI (d :: ds) = d.cells ++ cellsI ds := rfl
theorem cellsI_append (a b : List ItV) : cellsI (a ++ b) = cellsI a ++ cellsI b := by simp [cellsI]
theorem cellsI_length (ds : List ItV) : (cellsI ds).length = ds.length * 5 := by
  induction ds with
  | nil => rfl
  | cons d ds ih => rw [cellsI_cons, List.length_append, ih]; simp [ItV.cells]; omega
theorem cellsI_get : ∀ (ds : List ItV) (i : Nat) (h : i < ds.length) (j : Nat), j < 5 → (cellsI ds)[i * 5 + j]? = (ds[i].cells)[j]?
  | d :: ds, 0, _, j, hj => by
    rw [cellsI_cons, Nat.zero_mul, Nat.zero_add, List.getElem?_append_left (by simpa [ItV.cells] using hj)]
    rfl
  | d :: ds, i + 1, h, j, hj => by
    rw [cellsI_cons, List.getElem?_append_right (by simp [ItV.cells]; omega)]
    have e : (i + 1) * 5 + j - d.cells.length = i * 5 + j := by simp [ItV.cells]; omega
    rw [e, cellsI_get ds i (by simpa using h) j hj]
    rfl
theorem cellsI_one (ds : List ItV) : ∀ u ∈ cellsI ds, u.oneCell' = true := by
  intro u hu
  obtain ⟨d, _, h⟩ := List.mem_flatMap.1 hu
  simp only [ItV.cells, List.mem_cons, List.not_mem_nil, or_false] at h
  rcases h with rfl | rfl | rfl | rfl | rfl <;> rfl

def ItV.txt (d : ItV) (A : Option Addr) (n c : Nat) : ItV := ⟨d.k, d.cr, d.li, A, n, c, d.As, d.ns, d.cs⟩
def ItV.sub (d : ItV) (A : Option Addr) (n c : Nat) : ItV := ⟨d.k, d.cr, d.li, d.A, d.n, d.c, A, n, c⟩
theorem cellsI_txt : ∀ (ds : List ItV) (i : Nat) (h : i < ds.length) (A : Option Addr) (n c : Nat), (cellsI ds).set (i * 5 + 3) (.slice A n c) = cellsI (ds.set i (ds[i].txt A n c))
  | d :: ds, 0, _, A, n, c => rfl
  | d :: ds, i + 1, h, A, n, c => by
    rw [cellsI_cons, List.set_append_right _ _ (by simp [ItV.cells]; omega)]
    have e : (i + 1) * 5 + 3 - d.cells.length = i * 5 + 3 := by simp [ItV.cells]; omega
    rw [e, cellsI_txt ds i (by simpa using h)]
    rfl
theorem cellsI_sub : ∀ (ds : List ItV) (i : Nat) (h : i < ds.length) (A : Option Addr) (n c : Nat), (cellsI ds).set (i * 5 + 4) (.slice A n c) = cellsI (ds.set i (ds[i].sub A n c))
  | d :: ds, 0, _, A, n, c => rfl
  | d :: ds, i + 1, h, A, n, c => by
    rw [cellsI_cons, List.set_append_right _ _ (by simp [ItV.cells]; omega)]
    have e : (i + 1) * 5 + 4 - d.cells.length = i * 5 + 4 := by simp [ItV.cells]; omega
    rw [e, cellsI_sub ds i (by simpa using h)]
    rfl
theorem cellsI_all : ∀ (ds : List ItV) (i : Nat) (_ : i < ds.length) (d' : ItV),
    (((((cellsI ds).set (i * 5) (.int .i64 d'.k)).set (i * 5 + 1) (.bool d'.cr)).set (i * 5 + 2) (.bool d'.li)).set (i * 5 + 3) (.slice d'.A d'.n d'.c)).set (i * 5 + 4) (.slice d'.As d'.ns d'.cs) = cellsI (ds.set i d')
  | d :: ds, 0, _, d' => rfl
  | d :: ds, i + 1, h, d' => by
    have ih := cellsI_all ds i (by simpa using h) d'
    have e : ∀ j, (i + 1) * 5 + j - d.cells.length = i * 5 + j := by intro j; simp [ItV.cells]; omega
    have e0 : (i + 1) * 5 - d.cells.length = i * 5 := e 0
    rw [cellsI_cons, List.set_append_right _ _ (by simp [ItV.cells]; omega), List.set_append_right _ _ (by simp [ItV.cells]; omega), List.set_append_right _ _ (by simp [ItV.cells]; omega), List.set_append_right _ _ (by simp [ItV.cells]; omega), List.set_append_right _ _ (by simp [ItV.cells]; omega), e0, e 1, e 2, e 3, e 4, ih]
    rfl


def OwnI (w : World) (B : Nat) (v : Value) (ds : List ItV) : Prop := w.ownsRow B 76 5 v ds.length (cellsI ds)
theorem info_it : (Try.prog.info? 76).map (fun i => (i.zero, i.size, i.bytes)) = some (some (.agg #[.int .i64 0, .bool false, .bool false, .slice none 0 0, .slice none 0 0]), 5, 64) := by kernel_rfl

/-- 'append(v, xs...)' on events. -/
theorem wpList_appI (w : World) {ops : Array Oper} {rest : List Oper} {o : Oper} {a : Act} {Q : Exit → Act → World → Prop} (hgd : o.guard = none) (s x : Operand)
    (ho : o.op = .call { callee := .builtin .append, args := #[s, x], argTypes := #[74, 74] })
    (B : Nat) (v : Value) (ds : List ItV) (hs : a.eval s = v) (hown : OwnI w B v ds)
    (A : Option Addr) (m c : Nat) (ns : List ItV) (hx : a.eval x = .slice A m c) (hm : ns.length = m) (hr : Rd w A (cellsI ns))
    (hlen : ds.length + m ≤ 2199023255488) (hB : B ≤ w.heap.size)
    (h : ∀ v' w', OwnI w' B v' (ds ++ ns) → w.grownBy w' v.ownBlock → (v'.ownBlock = v.ownBlock ∨ v'.ownBlock = some w.heap.size) → wpList Try.prog ops Q rest (a.put o.dst v') w') : wpList Try.prog ops Q (o :: rest) a w := by
  obtain ⟨i0, hi, hz0, hz1, hz2⟩ := info_parts info_it
  refine wpList_plain hgd fun K hK => ?_
  obtain ⟨v', w', hrun, h2, h3, h4⟩ := run_appN (P := Try.prog) w B 74 o.type 76 i0 _ 5 64 Try.underlying74 hi hz0 hz1 hz2 rfl (by decide) v ds.length (cellsI ds) hown A m c (cellsI ns) (by rw [cellsI_length, hm]) hr (cellsI_one _) (by unfold maxLen; omega) (by omega) hB
  unfold Oper.wp execOp
  simp only [ho, resolve, invoke, builtin, Sem.run_bind, Sem.run_pure, Result.andThen_ok, List.map_toArray, List.map_cons, List.map_nil, hs, hx, hrun]
  refine hK _ _ (h v' w' ?_ h3 h4)
  unfold OwnI
  rw [cellsI_append, List.length_append, hm]
  exact h2
def ItV.zero : ItV := ⟨0, false, false, none, 0, 0, none, 0, 0⟩
theorem cellsI_zeros : ∀ n, (madeCells #[Value.int .i64 0, .bool false, .bool false, .slice none 0 0, .slice none 0 0] (n * 5)).toList = cellsI (List.replicate n ItV.zero) := by
  intro n
  apply List.ext_getElem?
  intro j
  rcases Nat.lt_or_ge j (n * 5) with hj | hj
  · have hi : j / 5 < (List.replicate n ItV.zero).length := by rw [List.length_replicate]; omega
    have h := cellsI_get (List.replicate n ItV.zero) (j / 5) hi (j % 5) (Nat.mod_lt _ (by decide))
    rw [show j / 5 * 5 + j % 5 = j by omega] at h
    rw [h]
    have e : (madeCells #[Value.int .i64 0, .bool false, .bool false, .slice none 0 0, .slice none 0 0] (n * 5)).toList[j]? = some (#[Value.int .i64 0, .bool false, .bool false, .slice none 0 0, .slice none 0 0][j % 5]!) := by
      simp only [madeCells, Array.getElem?_toList, Array.getElem?_map]
      rw [Array.getElem?_eq_getElem (by simpa using hj)]
      simp
    rw [e, List.getElem_replicate]
    have h5 : j % 5 < 5 := Nat.mod_lt _ (by decide)
    generalize j % 5 = q at h5
    match q, h5 with
    | 0, _ => rfl
    | 1, _ => rfl
    | 2, _ => rfl
    | 3, _ => rfl
    | 4, _ => rfl
  · rw [List.getElem?_eq_none (by simp [madeCells]; omega), List.getElem?_eq_none (by rw [cellsI_length, List.length_replicate]; omega)]
/-- 'make([]Event, n)'. -/
theorem wpList_makeI (w : World) {ops : Array Oper} {rest : List Oper} {o : Oper} {a : Act} {Q : Exit → Act → World → Prop} (hgd : o.guard = none) (l c : Operand) (ho : o.op = Op.makeSlice 74 l c)
    (kl kc : IntKind) (L C : Int) (n : Nat) (hl : a.eval l = .int kl L) (hc : a.eval c = .int kc C) (hL : L = (n : Int)) (hC : C = (n : Int)) (hn : n ≤ 2199023255488)
    (h : ∀ w', OwnI w' w.heap.size (.slice (some ⟨w.heap.size, 0, none⟩) n n) (List.replicate n ItV.zero) → Below w.heap.size w w' → w.grownBy w' none → wpList Try.prog ops Q rest (a.put o.dst (.slice (some ⟨w.heap.size, 0, none⟩) n n)) w') :
    wpList Try.prog ops Q (o :: rest) a w := by
  obtain ⟨i0, hi, hz0, hz1, hz2⟩ := info_parts info_it
  refine wpList_make_full w hgd l c 74 ho w.heap.size 76 i0 _ 5 Try.underlying74 hi hz0 hz1 kl kc L C n hl hc hL hC (by rw [hz2]; omega) (by unfold maxLen; omega) (Nat.le_refl _) ?_
  intro w' h1 h2
  refine h w' ?_ ((Below.refl _ _).grown h2 (Nat.le_refl _) (fun k hk => by cases hk)) h2
  unfold OwnI
  rw [List.length_replicate, ← cellsI_zeros]
  exact h1

section
variable {w : World} {B g n c : Nat} {ds : List ItV}
theorem OwnI.len (h : OwnI w B (.slice (some ⟨g, 0, none⟩) n c) ds) : n = ds.length ∧ ds.length ≤ c ∧ c ≤ maxLen ∧ B ≤ g ∧ g < w.heap.size := by
  rcases h.2 with ⟨h, _⟩ | ⟨g', cap, cur, hv, hb, hg, hn, hm, _⟩
  · cases h
  · injection hv with h1 h2 h3
    injection h1 with h1
    injection h1 with h1
    subst h1
    exact ⟨h2, by omega, by omega, hb, (Array.getElem?_eq_some_iff.1 hg).1⟩
theorem OwnI.to_n (h : OwnI w B (.slice (some ⟨g, 0, none⟩) n c) ds) : w.ownsRow B 76 5 (.slice (some ⟨g, 0, none⟩) n c) n (cellsI ds) := by
  have := h.len.1; subst this; exact h
theorem OwnI.five (h : OwnI w B (.slice (some ⟨g, 0, none⟩) n c) ds) (i : Nat) (hi : i < ds.length) :
    w.cell? ⟨g, i * 5, none⟩ = some (.int .i64 ds[i].k) ∧ w.cell? ⟨g, i * 5 + 1, none⟩ = some (.bool ds[i].cr) ∧ w.cell? ⟨g, i * 5 + 2, none⟩ = some (.bool ds[i].li) ∧
    w.cell? ⟨g, i * 5 + 3, none⟩ = some (.slice ds[i].A ds[i].n ds[i].c) ∧ w.cell? ⟨g, i * 5 + 4, none⟩ = some (.slice ds[i].As ds[i].ns ds[i].cs) := by
  have hl := h.len.1
  have get : ∀ j, j < 5 → w.cell? ⟨g, i * 5 + j, none⟩ = (ds[i].cells)[j]? := by
    intro j hj
    rw [h.to_n.cellAt (i * 5 + j) (by omega), cellsI_get ds i hi j hj]
  exact ⟨get 0 (by decide), get 1 (by decide), get 2 (by decide), get 3 (by decide), get 4 (by decide)⟩
theorem OwnI.free (h : OwnI w B (.slice (some ⟨g, 0, none⟩) n c) ds) (j : Nat) : w.frozen? ⟨g, j, none⟩ = false := h.to_n.frozenAt j
theorem OwnI.setT (h : OwnI w B (.slice (some ⟨g, 0, none⟩) n c) ds) (i : Nat) (hi : i < ds.length) (A' : Option Addr) (n' c' : Nat) :
    OwnI (w.setCell ⟨g, i * 5 + 3, none⟩ (.slice A' n' c')) B (.slice (some ⟨g, 0, none⟩) n c) (ds.set i (ds[i].txt A' n' c')) := by
  have h2 := (h.to_n.stored (i * 5 + 3) (.slice A' n' c')).1
  have hl := h.len.1
  rw [cellsI_txt ds i hi] at h2
  unfold OwnI
  rw [List.length_set, ← hl]
  exact h2
theorem OwnI.setS (h : OwnI w B (.slice (some ⟨g, 0, none⟩) n c) ds) (i : Nat) (hi : i < ds.length) (A' : Option Addr) (n' c' : Nat) :
    OwnI (w.setCell ⟨g, i * 5 + 4, none⟩ (.slice A' n' c')) B (.slice (some ⟨g, 0, none⟩) n c) (ds.set i (ds[i].sub A' n' c')) := by
  have h2 := (h.to_n.stored (i * 5 + 4) (.slice A' n' c')).1
  have hl := h.len.1
  rw [cellsI_sub ds i hi] at h2
  unfold OwnI
  rw [List.length_set, ← hl]
  exact h2
theorem OwnI.setAll (h : OwnI w B (.slice (some ⟨g, 0, none⟩) n c) ds) (i : Nat) (hi : i < ds.length) (d : ItV) :
    OwnI (((((w.setCell ⟨g, i * 5, none⟩ (.int .i64 d.k)).setCell ⟨g, i * 5 + 1, none⟩ (.bool d.cr)).setCell ⟨g, i * 5 + 2, none⟩ (.bool d.li)).setCell ⟨g, i * 5 + 3, none⟩ (.slice d.A d.n d.c)).setCell ⟨g, i * 5 + 4, none⟩ (.slice d.As d.ns d.cs)) B
      (.slice (some ⟨g, 0, none⟩) n c) (ds.set i d) := by
  have hl := h.len.1
  have h2 := (((((h.to_n.stored (i * 5) (.int .i64 d.k)).1.stored (i * 5 + 1) (.bool d.cr)).1.stored (i * 5 + 2) (.bool d.li)).1.stored (i * 5 + 3) (.slice d.A d.n d.c)).1.stored (i * 5 + 4) (.slice d.As d.ns d.cs)).1
  rw [cellsI_all ds i hi d] at h2
  unfold OwnI
  rw [List.length_set, ← hl]
  exact h2
theorem OwnI.low {B' : Nat} {v : Value} (h : OwnI w B v ds) (hB : B' ≤ B) : OwnI w B' v ds := ⟨h.1, h.2.imp id (fun ⟨g, cap, cur, hv, hb, r⟩ => ⟨g, cap, cur, hv, Nat.le_trans hB hb, r⟩)⟩
theorem OwnI.below {w' : World} {v : Value} (h : OwnI w B v ds) (hb : Below w.heap.size w w') : OwnI w' B v ds := Own.frameK h (fun g e => hb.block g (World.ownsRow.lt h g e).2)
theorem OwnI.drewN {v : Value} (h : OwnI w B v ds) (q : Nat) : OwnI (w.drewN q) B v ds := h
end
theorem OwnI.form {w : World} {v : Value} {ds : List ItV} {B : Nat} (h : OwnI w B v ds) : ∃ A c, v = .slice A ds.length c ∧ ds.length ≤ c ∧ c ≤ maxLen ∧ Rd w A (cellsI ds) ∧ (∀ a, A = some a → B ≤ a.block ∧ a.block < w.heap.size ∧ a.off = 0 ∧ a.spot = none) ∧ (A = none → c = 0) := by
  obtain ⟨hl, h2⟩ := h
  rcases h2 with ⟨rfl, h0⟩ | ⟨g, cap, cur, rfl, hb, hg, hn, hm, hcs, ht⟩
  · obtain rfl : ds = [] := List.eq_nil_of_length_eq_zero h0
    exact ⟨none, 0, rfl, Nat.le_refl _, Nat.zero_le _, .inl rfl, fun a ha => by (cases ha), fun _ => rfl⟩
  · refine ⟨some ⟨g, 0, none⟩, cap, rfl, hn, hm, .inr ⟨g, 0, rfl, (Array.getElem?_eq_some_iff.1 hg).1, fun k hk => ?_⟩, fun a ha => ?_, fun ha => by (cases ha)⟩
    · rw [Nat.zero_add, cell_of_row w g k cur _ (0, 0) hg]
      have h1 : (cellsI ds)[k]? = some (cellsI ds)[k] := List.getElem?_eq_getElem hk
      rw [← h1]
      conv => rhs; rw [← ht]
      rw [List.getElem?_take, if_pos (by omega)]
      simp
    · injection ha with ha; subst ha; exact ⟨hb, (Array.getElem?_eq_some_iff.1 hg).1, rfl, rfl⟩
end Go.Proofs.Ytcffinkkfdfcaaa

/- Lists of items built by a call: rows whose items can be read, or are one's own. Conditions: none. -/
namespace Go.Proofs.Ytcffinkkfdfcaaa
open Go Go.RowKit

/-- One list behind another. -/
def Fo.app : Fo → Fo → Fo
  | .nil, g => g
  | .cons k cr li bs sub rest, g => .cons k cr li bs sub (rest.app g)
theorem Fo.app_nil : ∀ (f : Fo), f.app .nil = f
  | .nil => rfl
  | .cons k cr li bs sub rest => by rw [Fo.app, Fo.app_nil rest]
theorem Fo.app_assoc (g h : Fo) : ∀ (f : Fo), (f.app g).app h = f.app (g.app h)
  | .nil => rfl
  | .cons k cr li bs sub rest => by rw [Fo.app, Fo.app, Fo.app, Fo.app_assoc g h rest]
theorem Fo.len_app (g : Fo) : ∀ (f : Fo), (f.app g).len = f.len + g.len
  | .nil => by simp [Fo.app, Fo.len]
  | .cons k cr li bs sub rest => by rw [Fo.app, Fo.len, Fo.len, Fo.len_app g rest]; omega
theorem Fo.size_app (g : Fo) : ∀ (f : Fo), (f.app g).size = f.size + g.size
  | .nil => by simp [Fo.app, Fo.size]
  | .cons k cr li bs sub rest => by rw [Fo.app, Fo.size, Fo.size, Fo.size_app g rest]; omega
theorem Fo.len_le : ∀ (f : Fo), f.len ≤ f.size
  | .nil => Nat.le_refl _
  | .cons k cr li bs sub rest => by have := Fo.len_le rest; simp only [Fo.len, Fo.size]; omega

/-- Items that can be read. -/
def ItsR (ok : Nat → Prop) (w : World) : List ItV → Fo → Prop
  | ds, .nil => ds = []
  | ds, .cons k cr li bs sub rest => ∃ d ds', ds = d :: ds' ∧ d.k = k ∧ d.cr = cr ∧ d.li = li ∧ TxtR ok w d.A d.n d.c bs ∧
      (d.ns = sub.len ∧ FoR ok w d.As 0 sub ∧ sub.len ≤ d.cs ∧ d.cs ≤ maxLen ∧ sub.len ≤ 2199023255488) ∧ ItsR ok w ds' rest
/-- Items of one's own. -/
def ItsO (ok : Nat → Prop) (w : World) : List ItV → Fo → Prop
  | ds, .nil => ds = []
  | ds, .cons k cr li bs sub rest => ∃ d ds', ds = d :: ds' ∧ d.k = k ∧ d.cr = cr ∧ d.li = li ∧ TxtO ok w d.A d.n d.c bs ∧
      (∃ es, OwnI w 0 (.slice d.As d.ns d.cs) es ∧ (∀ g, (Value.slice d.As d.ns d.cs).ownBlock = some g → ok g) ∧ ItsO ok w es sub ∧ sub.len ≤ 2199023255488) ∧ ItsO ok w ds' rest
/-- A list of items of one's own. -/
def FoO (ok : Nat → Prop) (w : World) (v : Value) (f : Fo) : Prop := ∃ ds, OwnI w 0 v ds ∧ (∀ g, v.ownBlock = some g → ok g) ∧ ItsO ok w ds f
/-- A row of one's own, its items to be read. -/
def FoM (ok : Nat → Prop) (w : World) (v : Value) (f : Fo) : Prop := ∃ ds, OwnI w 0 v ds ∧ (∀ g, v.ownBlock = some g → ok g) ∧ ItsR ok w ds f

theorem ItsR.len {ok : Nat → Prop} {w : World} : ∀ (f : Fo) (ds : List ItV), ItsR ok w ds f → ds.length = f.len
  | .nil, ds, h => by rw [h]; rfl
  | .cons k cr li bs sub rest, ds, h => by
    obtain ⟨d, ds', rfl, _, _, _, _, _, h2⟩ := h
    rw [List.length_cons, ItsR.len rest ds' h2, Fo.len]
theorem ItsO.len {ok : Nat → Prop} {w : World} : ∀ (f : Fo) (ds : List ItV), ItsO ok w ds f → ds.length = f.len
  | .nil, ds, h => by rw [h]; rfl
  | .cons k cr li bs sub rest, ds, h => by
    obtain ⟨d, ds', rfl, _, _, _, _, _, h2⟩ := h
    rw [List.length_cons, ItsO.len rest ds' h2, Fo.len]
theorem ItsR.frame {ok : Nat → Prop} {w w' : World} (hk : ∀ j, ok j → j < w.heap.size → w'.heap[j]? = w.heap[j]?) (hs : w.heap.size ≤ w'.heap.size) : ∀ (f : Fo) (ds : List ItV), ItsR ok w ds f → ItsR ok w' ds f
  | .nil, _, h => h
  | .cons k cr li bs sub rest, ds, h => by
    obtain ⟨d, ds', rfl, h1, h2, h3, h4, ⟨h5, h6, h7⟩, h8⟩ := h
    exact ⟨d, ds', rfl, h1, h2, h3, h4.frame hk hs, ⟨h5, FoR.frame hk hs _ _ _ h6, h7⟩, ItsR.frame hk hs rest ds' h8⟩
theorem OwnI.lt {w : World} {B : Nat} {v : Value} {ds : List ItV} (h : OwnI w B v ds) : ∀ k, v.ownBlock = some k → B ≤ k ∧ k < w.heap.size := World.ownsRow.lt h
theorem OwnI.frame {w w' : World} {B : Nat} {v : Value} {ds : List ItV} (h : OwnI w B v ds) (hk : ∀ g, v.ownBlock = some g → w'.heap[g]? = w.heap[g]?) : OwnI w' B v ds := Own.frameK h hk
theorem ItsO.frame {ok : Nat → Prop} {w w' : World} (hk : ∀ j, ok j → j < w.heap.size → w'.heap[j]? = w.heap[j]?) : ∀ (f : Fo) (ds : List ItV), ItsO ok w ds f → ItsO ok w' ds f
  | .nil, _, h => h
  | .cons k cr li bs sub rest, ds, h => by
    obtain ⟨d, ds', rfl, h1, h2, h3, h4, ⟨es, h5, h6, h7, h9⟩, h8⟩ := h
    exact ⟨d, ds', rfl, h1, h2, h3, h4.frame hk, ⟨es, h5.frame (fun g e => hk g (h6 g e) (h5.lt g e).2), h6, ItsO.frame hk sub es h7, h9⟩, ItsO.frame hk rest ds' h8⟩
theorem ItsR.weak {ok ok' : Nat → Prop} {w : World} (hk : ∀ j, ok j → j < w.heap.size → ok' j) : ∀ (f : Fo) (ds : List ItV), ItsR ok w ds f → ItsR ok' w ds f
  | .nil, _, h => h
  | .cons k cr li bs sub rest, ds, h => by
    obtain ⟨d, ds', rfl, h1, h2, h3, h4, ⟨h5, h6, h7⟩, h8⟩ := h
    exact ⟨d, ds', rfl, h1, h2, h3, h4.weak hk, ⟨h5, FoR.weak hk _ _ _ h6, h7⟩, ItsR.weak hk rest ds' h8⟩
theorem ItsO.weak {ok ok' : Nat → Prop} {w : World} (hk : ∀ j, ok j → j < w.heap.size → ok' j) : ∀ (f : Fo) (ds : List ItV), ItsO ok w ds f → ItsO ok' w ds f
  | .nil, _, h => h
  | .cons k cr li bs sub rest, ds, h => by
    obtain ⟨d, ds', rfl, h1, h2, h3, h4, ⟨es, h5, h6, h7, h9⟩, h8⟩ := h
    exact ⟨d, ds', rfl, h1, h2, h3, h4.weak hk, ⟨es, h5, fun g e => hk g (h6 g e) (h5.lt g e).2, ItsO.weak hk sub es h7, h9⟩, ItsO.weak hk rest ds' h8⟩
theorem FoO.frame {ok : Nat → Prop} {w w' : World} {v : Value} {f : Fo} (h : FoO ok w v f) (hk : ∀ j, ok j → j < w.heap.size → w'.heap[j]? = w.heap[j]?) : FoO ok w' v f := by
  obtain ⟨ds, h1, h2, h3⟩ := h
  exact ⟨ds, h1.frame (fun g e => hk g (h2 g e) (h1.lt g e).2), h2, h3.frame hk⟩
theorem FoM.frame {ok : Nat → Prop} {w w' : World} {v : Value} {f : Fo} (h : FoM ok w v f) (hk : ∀ j, ok j → j < w.heap.size → w'.heap[j]? = w.heap[j]?) (hs : w.heap.size ≤ w'.heap.size) : FoM ok w' v f := by
  obtain ⟨ds, h1, h2, h3⟩ := h
  exact ⟨ds, h1.frame (fun g e => hk g (h2 g e) (h1.lt g e).2), h2, h3.frame hk hs⟩
theorem FoO.below {ok : Nat → Prop} {w w' : World} {v : Value} {f : Fo} (h : FoO ok w v f) (hb : Below w.heap.size w w') : FoO ok w' v f := h.frame (fun j _ hj => hb.block j hj)
theorem FoM.below {ok : Nat → Prop} {w w' : World} {v : Value} {f : Fo} (h : FoM ok w v f) (hb : Below w.heap.size w w') : FoM ok w' v f := h.frame (fun j _ hj => hb.block j hj) hb.size
theorem FoO.weak {ok ok' : Nat → Prop} {w : World} {v : Value} {f : Fo} (h : FoO ok w v f) (hk : ∀ j, ok j → j < w.heap.size → ok' j) : FoO ok' w v f := by
  obtain ⟨ds, h1, h2, h3⟩ := h
  exact ⟨ds, h1, fun g e => hk g (h2 g e) (h1.lt g e).2, h3.weak hk⟩
theorem FoM.weak {ok ok' : Nat → Prop} {w : World} {v : Value} {f : Fo} (h : FoM ok w v f) (hk : ∀ j, ok j → j < w.heap.size → ok' j) : FoM ok' w v f := by
  obtain ⟨ds, h1, h2, h3⟩ := h
  exact ⟨ds, h1, fun g e => hk g (h2 g e) (h1.lt g e).2, h3.weak hk⟩
theorem FoO.nil_ (ok : Nat → Prop) (w : World) : FoO ok w (.slice none 0 0) .nil := ⟨[], World.ownsRow_nil _ _ _ _, fun g e => (by cases e), rfl⟩
theorem FoM.nil_ (ok : Nat → Prop) (w : World) : FoM ok w (.slice none 0 0) .nil := ⟨[], World.ownsRow_nil _ _ _ _, fun g e => (by cases e), rfl⟩

/-- A row's items from place i on. -/
theorem FoR.of_row {ok : Nat → Prop} {w : World} {b off : Nat} (hb : b < w.heap.size) (hok : ok b) : ∀ (f : Fo) (ds : List ItV) (i : Nat),
    (∀ k (h : k < (cellsI ds).length), w.cell? ⟨b, off + i * 5 + k, none⟩ = some (cellsI ds)[k]) → ItsR ok w ds f → FoR ok w (some ⟨b, off, none⟩) i f
  | .nil, _, _, _, _ => trivial
  | .cons k cr li bs sub rest, ds, i, hc, h => by
    obtain ⟨d, ds', rfl, h1, h2, h3, h4, ⟨h5, h6, h7, h8, h9⟩, hr⟩ := h
    have hl : (cellsI (d :: ds')).length = (ds'.length + 1) * 5 := by rw [cellsI_length]; rfl
    have g : ∀ j v, d.cells[j]? = some v → w.cell? ⟨b, off + i * 5 + j, none⟩ = some v := fun j v hv => by
      have hj : j < d.cells.length := (List.getElem?_eq_some_iff.1 hv).1
      have hj5 : j < 5 := hj
      rw [hc j (by omega)]
      have : (cellsI (d :: ds'))[j]? = some v := by rw [cellsI_cons, List.getElem?_append_left hj]; exact hv
      rw [List.getElem?_eq_getElem (by omega)] at this
      exact this
    refine ⟨⟨b, off, d.A, d.n, d.c, d.As, d.cs, rfl, hb, hok, ⟨g 0 _ ?_, g 1 _ ?_, g 2 _ ?_, g 3 _ rfl, g 4 _ ?_⟩, h4, h6, h7, h8, h9⟩, ?_⟩
    · rw [← h1]; rfl
    · rw [← h2]; rfl
    · rw [← h3]; rfl
    · rw [← h5]; rfl
    · refine FoR.of_row hb hok rest ds' (i + 1) (fun q hq => ?_) hr
      have hq2 : q + 5 < (cellsI (d :: ds')).length := by rw [cellsI_cons, List.length_append]; have : d.cells.length = 5 := rfl; omega
      have := hc (q + 5) hq2
      rw [show off + (i + 1) * 5 + q = off + i * 5 + (q + 5) by omega, this]
      congr 1
theorem ItsO.r {ok : Nat → Prop} {w : World} : ∀ (f : Fo) (ds : List ItV), ItsO ok w ds f → ItsR ok w ds f
  | .nil, _, h => h
  | .cons k cr li bs sub rest, ds, h => by
    obtain ⟨d, ds', rfl, h1, h2, h3, h4, ⟨es, h5, h6, h7, h9⟩, h8⟩ := h
    have hs := ItsO.r sub es h7
    obtain ⟨A', c', e, q1, q2, q3, q4, -⟩ := h5.form
    injection e with e1 e2 e3
    have hel := ItsR.len sub es hs
    refine ⟨d, ds', rfl, h1, h2, h3, h4.r, ⟨e2.trans hel, ?_, by rw [← hel, e3]; exact q1, by rw [e3]; exact q2, h9⟩, ItsO.r rest ds' h8⟩
    rcases q3 with q3 | ⟨b, off, e, hb, hc⟩
    · have : es.length = 0 := by have := congrArg List.length q3; rw [cellsI_length] at this; simp at this; omega
      obtain rfl : sub = .nil := by
        cases sub with
        | nil => rfl
        | cons => simp only [Fo.len] at hel; omega
      trivial
    · have hA : d.As = some ⟨b, off, none⟩ := e1.trans e
      rw [hA]
      refine FoR.of_row hb (h6 b (by rw [hA]; rfl)) sub es 0 (fun k hk => ?_) hs
      rw [Nat.zero_mul, Nat.add_zero]
      exact hc k hk
theorem FoO.m {ok : Nat → Prop} {w : World} {v : Value} {f : Fo} (h : FoO ok w v f) : FoM ok w v f := by
  obtain ⟨ds, h1, h2, h3⟩ := h
  exact ⟨ds, h1, h2, h3.r⟩
/-- The list as it can be read. -/
theorem FoM.form {ok : Nat → Prop} {w : World} {v : Value} {f : Fo} {n : Nat} (h : FoM ok w v f) (hn : f.len = n) : ∃ A c, v = .slice A n c ∧ n ≤ c ∧ c ≤ maxLen ∧ FoR ok w A 0 f := by
  obtain ⟨ds, h1, h2, h3⟩ := h
  have hl := h3.len
  obtain ⟨A, c, rfl, q1, q2, q3, q4, -⟩ := h1.form
  refine ⟨A, c, by rw [hl, hn], by rw [← hn, ← hl]; exact q1, q2, ?_⟩
  rcases q3 with q3 | ⟨b, off, rfl, hb, hc⟩
  · have : ds.length = 0 := by have := congrArg List.length q3; rw [cellsI_length] at this; simp at this; omega
    obtain rfl : f = .nil := by
      cases f with
      | nil => rfl
      | cons => simp only [Fo.len] at hl; omega
    trivial
  · exact FoR.of_row hb (h2 b rfl) f ds 0 (fun k hk => by rw [Nat.zero_mul, Nat.add_zero]; exact hc k hk) h3
theorem FoO.form {ok : Nat → Prop} {w : World} {v : Value} {f : Fo} {n : Nat} (h : FoO ok w v f) (hn : f.len = n) : ∃ A c, v = .slice A n c ∧ n ≤ c ∧ c ≤ maxLen ∧ FoR ok w A 0 f := h.m.form hn
/-- One more item at the end. -/
theorem ItsR.snoc {ok : Nat → Prop} {w : World} {ds1 : List ItV} {g : Fo} (h : ItsR ok w ds1 g) : ∀ (f : Fo) (ds : List ItV), ItsR ok w ds f → ItsR ok w (ds ++ ds1) (f.app g)
  | .nil, _, h0 => by rw [h0]; exact h
  | .cons k cr li bs sub rest, ds, h0 => by
    obtain ⟨d, ds', rfl, h1, h2, h3, h4, h5, h8⟩ := h0
    exact ⟨d, ds' ++ ds1, rfl, h1, h2, h3, h4, h5, ItsR.snoc h rest ds' h8⟩
theorem ItsO.snoc {ok : Nat → Prop} {w : World} {ds1 : List ItV} {g : Fo} (h : ItsO ok w ds1 g) : ∀ (f : Fo) (ds : List ItV), ItsO ok w ds f → ItsO ok w (ds ++ ds1) (f.app g)
  | .nil, _, h0 => by rw [h0]; exact h
  | .cons k cr li bs sub rest, ds, h0 => by
    obtain ⟨d, ds', rfl, h1, h2, h3, h4, h5, h8⟩ := h0
    exact ⟨d, ds' ++ ds1, rfl, h1, h2, h3, h4, h5, ItsO.snoc h rest ds' h8⟩
end Go.Proofs.Ytcffinkkfdfcaaa

/- A list of items of one's own, grown item by item. Conditions: none. -/
namespace Go.Proofs.Ytcffinkkfdfcaaa
open Go Go.RowKit

/-- A list of items of one's own; none of its items has anything in the row's own block. -/
structure FoP (ok : Nat → Prop) (w : World) (v : Value) (ds : List ItV) (f : Fo) : Prop where
  row : OwnI w 0 v ds
  ok_ : ∀ g, v.ownBlock = some g → ok g
  its : ItsO (fun j => ok j ∧ v.ownBlock ≠ some j) w ds f
section
variable {ok ok' : Nat → Prop} {w w' : World} {v v' : Value} {ds : List ItV} {f : Fo}
theorem FoP.nil_ (ok : Nat → Prop) (w : World) : FoP ok w (.slice none 0 0) [] .nil := ⟨World.ownsRow_nil _ _ _ _, fun g e => (by cases e), rfl⟩
theorem FoP.o (h : FoP ok w v ds f) : FoO ok w v f := ⟨ds, h.row, h.ok_, h.its.weak (fun _ hj _ => hj.1)⟩
theorem FoP.lt (h : FoP ok w v ds f) : ∀ k, v.ownBlock = some k → k < w.heap.size := fun k e => (h.row.lt k e).2
theorem FoP.frame (h : FoP ok w v ds f) (hk : ∀ j, ok j → j < w.heap.size → w'.heap[j]? = w.heap[j]?) : FoP ok w' v ds f :=
  ⟨h.row.frame (fun g e => hk g (h.ok_ g e) (h.lt g e)), h.ok_, h.its.frame (fun j hj => hk j hj.1)⟩
theorem FoP.below (h : FoP ok w v ds f) (hb : Below w.heap.size w w') : FoP ok w' v ds f := h.frame (fun j _ hj => hb.block j hj)
theorem FoP.weak (h : FoP ok w v ds f) (hk : ∀ j, ok j → j < w.heap.size → ok' j) : FoP ok' w v ds f :=
  ⟨h.row, fun g e => hk g (h.ok_ g e) (h.lt g e), h.its.weak (fun j hj hl => ⟨hk j hj.1 hl, hj.2⟩)⟩
theorem FoP.more (h : FoP ok w v ds f) {d : ItV} {R : Fo} (hd : ItsO (fun j => ok j ∧ v.ownBlock ≠ some j) w [d] R) (ho : OwnI w' 0 v' (ds ++ [d])) (hg : w.grownBy w' v.ownBlock) (hv : v'.ownBlock = v.ownBlock ∨ v'.ownBlock = some w.heap.size) (hok : ok w.heap.size) :
    FoP ok w' v' (ds ++ [d]) (f.app R) := by
  refine ⟨ho, fun g e => ?_, ?_⟩
  · rcases hv with hv | hv
    · exact h.ok_ g (hv.symm.trans e)
    · rw [hv] at e; injection e with e; subst e; exact hok
  · have hi := ItsO.snoc hd f ds h.its
    refine (hi.weak (ok' := fun j => (ok j ∧ v.ownBlock ≠ some j) ∧ v'.ownBlock ≠ some j) (fun j hj hl => ⟨hj, fun e => ?_⟩)).frame (w' := w') (fun j hj hl => hg.block j hl (fun e => hj.1.2 e.symm)) |>.weak (fun j hj _ => ⟨hj.1.1, hj.2⟩)
    rcases hv with hv | hv
    · exact hj.2 (hv.symm.trans e)
    · rw [hv] at e; injection e with e; omega
end
/-- One item of one's own. -/
theorem ItsO.one {ok : Nat → Prop} {w : World} {k : Int} {cr li : Bool} {bs : List UInt8} {sub : Fo} {A As : Option Addr} {n c ns cs : Nat} (ht : TxtO ok w A n c bs) (hs : FoO ok w (.slice As ns cs) sub) (hl : sub.len ≤ 2199023255488) :
    ItsO ok w [⟨k, cr, li, A, n, c, As, ns, cs⟩] (.cons k cr li bs sub .nil) := by
  obtain ⟨es, h1, h2, h3⟩ := hs
  exact ⟨_, [], rfl, rfl, rfl, rfl, ht, ⟨es, h1, h2, h3, hl⟩, rfl⟩
theorem TxtO.nil_ (ok : Nat → Prop) (w : World) : TxtO ok w none 0 0 [] := ⟨rfl, Own.nil_ _ _ _, fun a e => (by cases e), by omega⟩
theorem TxtO.of_own {ok : Nat → Prop} {w : World} {B : Nat} {A : Option Addr} {n c : Nat} {bs : List UInt8} (h : OwnB w B (.slice A n c) bs) (hn : bs.length = n) (hl : n ≤ 140737488355328) (hok : ∀ j, B ≤ j → j < w.heap.size → ok j) : TxtO ok w A n c bs := by
  refine ⟨hn, Own.low h (Nat.zero_le _), fun a e => ?_, hl⟩
  subst e
  have := Own.lt h a.block rfl
  exact hok _ this.1 this.2
end Go.Proofs.Ytcffinkkfdfcaaa

/- What the reader of the layer wire does: its small methods. Conditions: a reader that lies in a block of its own. -/
namespace Go.Proofs.Ytcffinkkfdfcaaa
open Go Go.RowKit

/-- A reader's state: its bytes, its place, its error; where its bytes lie (no word of the program's). -/
structure RS where
  b : List UInt8
  at_ : Nat
  err : Nat
  gA : Option Addr

/-- Block r holds the reader s. -/
def Rdr (w : World) (r : Nat) (s : RS) : Prop :=
  ∃ A c, w.heap[r]? = some (.cells #[.slice A s.b.length c, .int .i64 (s.at_ : Int), .int .i64 (s.err : Int)] 148 (0, 0)) ∧ Rd w A (s.b.map bv) ∧ (A = s.gA ∧ ∀ a, A = some a → a.block ≠ r) ∧
    s.b.length ≤ c ∧ c ≤ maxLen ∧ s.at_ ≤ s.b.length ∧ s.b.length ≤ 140737488355328

theorem Rdr.below {w w' : World} {r : Nat} {s : RS} (h : Rdr w r s) (hb : Below w.heap.size w w') : Rdr w' r s := by
  obtain ⟨A, c, h1, h2, h3⟩ := h
  exact ⟨A, c, (hb.block r (heap_lt h1)).trans h1, h2.below hb, h3⟩
theorem Rdr.drewN {w : World} {r : Nat} {s : RS} (h : Rdr w r s) (n : Nat) : Rdr (w.drewN n) r s := h
theorem Rdr.lt {w : World} {r : Nat} {s : RS} (h : Rdr w r s) : r < w.heap.size := by
  obtain ⟨A, c, h1, _⟩ := h; exact heap_lt h1

set_option maxRecDepth 100000 in
set_option maxHeartbeats 400000 in
theorem Rnew_c (A : Option Addr) (n c : Nat) (bs : List UInt8) (w : World) (hn : bs.length = n) (hr : Rd w A (bs.map bv)) (hl : n ≤ 140737488355328) :
    Calls Try.prog 70 #[.slice A n c] w fun e w' => ∃ r A', e = .returned (.pointer (some ⟨r, 0, none⟩)) ∧ w.heap.size ≤ r ∧ Rdr w' r ⟨bs, 0, 0, A'⟩ ∧ Below w.heap.size w w' ∧ ∀ a, A' = some a → w.heap.size ≤ a.block ∧ a.block < w'.heap.size := by
  have HN := Lib.hid hn; clear hn
  go_enter Try.func70, Try.ntmps70
  go_wp2_with (first | (at_builtin; refine wpList_cloneB _ rfl (.tmp 3) rfl A n c bs rfl HN.out hr hl ?_; intro A' c' w2 h1 h2 h3 h4 h5 h6; have H1 := Lib.hid h1; clear h1; have H5 := Lib.hid h5; clear h5; have H6 := Lib.hid h6; clear h6))
  go_ret
  have hz := h2.size
  refine ⟨_, A', rfl, hz, ⟨A', c', ?_, Rd.alloc H5.out _, ⟨rfl, ?_⟩, by simp [HN.out]; exact h3, h4, Nat.zero_le _, by simp [HN.out]; exact hl⟩, h2.alloc hz _, ?_⟩
  · rw [heap_alloc_new]; simp [HN.out]
  · intro a ha; have := (H6.out a ha).2; omega
  · intro a ha; have := H6.out a ha; simp only [World.size_alloc]; omega

/-- The reader's cells, for a walk. -/
theorem Rdr.open_ {w : World} {r : Nat} {s : RS} (h : Rdr w r s) : ∃ A c, (w.cell? ⟨r, 0, none⟩ = some (.slice A s.b.length c) ∧ w.cell? ⟨r, 1, none⟩ = some (.int .i64 (s.at_ : Int)) ∧ w.cell? ⟨r, 2, none⟩ = some (.int .i64 (s.err : Int))) ∧
    (w.frozen? ⟨r, 0, none⟩ = false ∧ w.frozen? ⟨r, 1, none⟩ = false ∧ w.frozen? ⟨r, 2, none⟩ = false) ∧ Rd w A (s.b.map bv) ∧ s.b.length ≤ c ∧ c ≤ maxLen ∧ s.at_ ≤ s.b.length ∧ s.b.length ≤ 140737488355328 := by
  obtain ⟨A, c, h1, h2, h3, h4, h5, h6, h7⟩ := h
  exact ⟨A, c, ⟨by rw [heap_cell h1]; rfl, by rw [heap_cell h1]; rfl, by rw [heap_cell h1]; rfl⟩, ⟨heap_free h1 _, heap_free h1 _, heap_free h1 _⟩, h2, h4, h5, h6, h7⟩
theorem Rdr.setErr {w : World} {r : Nat} {s : RS} (h : Rdr w r s) (e : Nat) : Rdr (w.setCell ⟨r, 2, none⟩ (.int .i64 (e : Int))) r { s with err := e } := by
  obtain ⟨A, c, h1, h2, h3, h4⟩ := h
  exact ⟨A, c, by rw [heap_set h1]; rfl, h2.far _ h3.2, h3, h4⟩
theorem Rdr.setAt {w : World} {r : Nat} {s : RS} (h : Rdr w r s) (k : Nat) (hk : k ≤ s.b.length) : Rdr (w.setCell ⟨r, 1, none⟩ (.int .i64 (k : Int))) r { s with at_ := k } := by
  obtain ⟨A, c, h1, h2, h3, h4, h5, _, h6⟩ := h
  exact ⟨A, c, by rw [heap_set h1]; rfl, h2.far _ h3.2, h3, h4, h5, hk, h6⟩
/-- A store elsewhere. -/
theorem Rdr.farSet {w : World} {r : Nat} {s : RS} (h : Rdr w r s) {p : Addr} (u : Value) (h1 : r ≠ p.block) (h2 : ∀ a, s.gA = some a → a.block ≠ p.block) : Rdr (w.setCell p u) r s := by
  obtain ⟨A, c, g1, g2, g3, g4⟩ := h
  exact ⟨A, c, (heap_far u h1).trans g1, g2.far _ (by rw [g3.1]; exact h2), g3, g4⟩

/-! ### Err, Left, End -/
set_option maxRecDepth 100000 in
set_option maxHeartbeats 400000 in
theorem Rerr_c (r : Nat) (s : RS) (w : World) (h : Rdr w r s) :
    Calls Try.prog 76 #[.pointer (some ⟨r, 0, none⟩)] w fun e w' => e = .returned (.int .i64 (s.err : Int)) ∧ w = w' := by
  obtain ⟨A, c, ⟨c0, c1, c2⟩, _, _⟩ := h.open_
  go_enter Try.func76, Try.ntmps76
  go_wp2
  go_ret
  exact ⟨rfl, rfl⟩

set_option maxRecDepth 100000 in
set_option maxHeartbeats 400000 in
theorem Rleft_c (r : Nat) (s : RS) (w : World) (h : Rdr w r s) :
    Calls Try.prog 79 #[.pointer (some ⟨r, 0, none⟩)] w fun e w' => e = .returned (.int .i64 ((s.b.length - s.at_ : Nat) : Int)) ∧ ∃ q, w' = w.drewN q := by
  obtain ⟨A, c, ⟨c0, c1, c2⟩, _, _, _, _, hk, hl⟩ := h.open_
  have e1 : ((s.b.length - s.at_ : Nat) : Int) = (s.b.length : Int) - (s.at_ : Int) := by omega
  rw [e1]
  clear e1
  go_enter Try.func79, Try.ntmps79
  go_wp2
  go_quiet (fail)
  go_wp2
  go_ret
  exact ⟨rfl, _, rfl⟩

def endR (s : RS) : Nat := if s.err = 0 ∧ s.at_ < s.b.length then 6 else s.err

set_option maxRecDepth 100000 in
set_option maxHeartbeats 400000 in
theorem Rend_c (r : Nat) (s : RS) (w : World) (h : Rdr w r s) :
    Calls Try.prog 77 #[.pointer (some ⟨r, 0, none⟩)] w fun e w' => e = .returned (.int .i64 (endR s : Int)) ∧ ∃ q, w' = w.drewN q := by
  by_cases h0 : s.err = 0
  · have hb : (((s.err : Nat) : Int) == 0) = true := by rw [beq_iff_eq]; omega
    by_cases h1 : s.at_ < s.b.length
    · have hd : decide ((0 : Int) < ((s.b.length - s.at_ : Nat) : Int)) = true := decide_eq_true (by omega)
      have e1 : endR s = 6 := if_pos ⟨h0, h1⟩
      rw [e1]
      clear e1
      have H0 := Lib.hid h0; clear h0
      go_enter Try.func77, Try.ntmps77
      go_wp2_with (first | (go_at_call 76; refine (Rerr_c _ _ _ h).mono ?_; rintro e w' ⟨rfl, rfl⟩) | (go_at_call 79; refine (Rleft_c _ _ _ h).mono ?_; rintro e w' ⟨rfl, q, rfl⟩))
      go_ret
      exact ⟨rfl, _, rfl⟩
    · have hd : decide ((0 : Int) < ((s.b.length - s.at_ : Nat) : Int)) = false := decide_eq_false (by omega)
      have e1 : endR s = s.err := if_neg (fun h => h1 h.2)
      rw [e1]
      clear e1
      have H0 := Lib.hid h0; clear h0
      go_enter Try.func77, Try.ntmps77
      go_wp2_with (first | (go_at_call 76; first | (refine (Rerr_c _ _ _ h).mono ?_; rintro e w' ⟨rfl, rfl⟩) | (refine (Rerr_c _ _ _ (h.drewN _)).mono ?_; rintro e w' ⟨rfl, rfl⟩)) | (go_at_call 79; refine (Rleft_c _ _ _ h).mono ?_; rintro e w' ⟨rfl, q, rfl⟩))
      go_ret
      exact ⟨rfl, _, rfl⟩
  · have hb : (((s.err : Nat) : Int) == 0) = false := by rw [beq_eq_false_iff_ne]; omega
    have e1 : endR s = s.err := if_neg (fun h => h0 h.1)
    rw [e1]
    clear e1
    have H0 := Lib.hid h0; clear h0
    go_enter Try.func77, Try.ntmps77
    go_wp2_with (first | (go_at_call 76; refine (Rerr_c _ _ _ h).mono ?_; rintro e w' ⟨rfl, rfl⟩))
    go_ret
    exact ⟨rfl, 0, rfl⟩
end Go.Proofs.Ytcffinkkfdfcaaa

/- What the reader of the layer wire does: Var. Conditions: a reader that lies in a block of its own. -/
namespace Go.Proofs.Ytcffinkkfdfcaaa
open Go Go.RowKit

def varR (s : RS) : Nat × RS :=
  if s.err ≠ 0 then (0, s) else match varGo (s.b.drop s.at_) 0 with
    | .bad e => (0, { s with err := e })
    | .ok n k => (n, { s with at_ := s.at_ + k })

set_option maxRecDepth 100000 in
set_option maxHeartbeats 400000 in
theorem Rvar_c (r : Nat) (s : RS) (w : World) (h : Rdr w r s) :
    Calls Try.prog 83 #[.pointer (some ⟨r, 0, none⟩)] w fun e w' => e = .returned (.int .u64 ((varR s).1 : Int)) ∧ Rdr w' r (varR s).2 ∧ w.grownBy w' (some r) := by
  obtain ⟨A, c, ⟨c0, c1, c2⟩, ⟨f0, f1, f2⟩, hrd, hlc, hcm, hk, hl⟩ := h.open_
  by_cases h0 : s.err = 0
  · have hb : (((s.err : Nat) : Int) != 0) = false := by rw [bne_eq_false_iff_eq]; omega
    obtain ⟨l, el⟩ : ∃ l, l = s.b.drop s.at_ := ⟨_, rfl⟩
    have e1 : varR s = match varGo l 0 with
      | .bad e => (0, { s with err := e })
      | .ok n k => (n, { s with at_ := s.at_ + k }) := by rw [varR, if_neg (by omega), el]
    have hll : l.length + s.at_ = s.b.length := by rw [el, List.length_drop]; omega
    have hcell : ∀ i (hi : i < l.length), ∃ b off, A = some ⟨b, off, none⟩ ∧ w.cell? ⟨b, off + (s.at_ + i), none⟩ = some (.int .u8 ((l[i]).toNat : Int)) := by
      intro i hi
      obtain ⟨b, off, hA, _, hc⟩ := hrd.addrB (by omega)
      refine ⟨b, off, hA, ?_⟩
      rw [hc (s.at_ + i) (by omega)]
      subst el
      simp [bv]
    have HC := Lib.hid hcell; clear hcell
    have H1 := Lib.hid e1; clear e1
    have H0 := Lib.hid h0; clear h0
    clear el
    go_enter Try.func83, Try.ntmps83
    go_wp2
    go_loopw [3, 4] (fun n i wr => ∃ (x k : Nat), k ≤ 9 ∧ k ≤ l.length ∧ n = .int .u64 x ∧ i = .int .i64 k ∧ x < 128 ^ k ∧ varGo l 0 = (varGo (l.drop k) k).after x k ∧ ∃ q, wr = w.drewN q) (fun n i _ => 10 - (intOf i).toNat)
    case atStart => exact ⟨0, 0, by omega, by omega, rfl, rfl, by decide, by rw [VR.after_zero]; rfl, 0, rfl⟩
    case round =>
      obtain ⟨x, k, hk9, hkl, rfl, rfl, hx, hv, q, rfl⟩ := hrel
      have HV := Lib.hid hv; clear hv
      have HX := Lib.hid hx; clear hx
      rcases Nat.lt_or_ge k l.length with hlt | hge
      · have hu : (s.at_ : Int) + (k : Int) < (s.b.length : Int) := by omega
        obtain ⟨b, off, rfl, hc⟩ := HC.out k hlt
        obtain ⟨d, ed⟩ : ∃ d, d = (l[k]).toNat := ⟨_, rfl⟩
        have hd : d < 256 := by rw [ed]; exact UInt8.toNat_lt _
        rw [← ed] at hc
        have ED := Lib.hid ed; clear ed
        have hu2 : U64 x := by
          rcases Nat.eq_zero_or_pos k with h | h
          · have := HX.out; rw [h] at this; exact Nat.lt_of_lt_of_le this (by decide)
          · exact Nat.lt_of_lt_of_le HX.out (Nat.le_trans (Nat.pow_le_pow_right (by decide) hk9) (by decide))
        have ha := and127 d hd
        by_cases hbad : badD k d
        · have hv3 : varR s = (0, { s with err := 3 }) := by rw [H1.out, HV.out, varGo_form' hlt ED.out x hbad]
          have HV3 := Lib.hid hv3; clear hv3
          have fin : ∀ q', Rdr ((w.drewN q').setCell ⟨r, 2, none⟩ (.int .i64 3)) r (varR s).2 ∧ w.grownBy ((w.drewN q').setCell ⟨r, 2, none⟩ (.int .i64 3)) (some r) := fun q' => by
            rw [HV3.out]
            exact ⟨(h.drewN q').setErr 3, only_setD q' r 2 _⟩
          have FIN := Lib.hid fin; clear fin
          have go : ∀ (P : Prop), (P → True) := fun _ _ => trivial
          clear go
          rcases hbad with ⟨h9, h1⟩ | ⟨h9, h1⟩
          · have hb9 : (((k : Nat) : Int) == 9) = true := by rw [beq_iff_eq]; omega
            have H9 := Lib.hid h9; clear h9
            go_wp2
            go_quiet (fail)
            go_wp2
            go_quiet (fail)
            go_wp2
            go_ret
            exact ⟨by rw [HV3.out]; rfl, FIN.out _⟩
          · have hb9 : (((d : Nat) : Int) == 0) = true := by rw [beq_iff_eq]; omega
            have hb8 : decide ((1 : Int) < (d : Int)) = false := decide_eq_false (by omega)
            have HD1 := Lib.hid h1; clear h1
            go_wp2
            go_quiet (fail)
            go_wp2
            go_quiet (fail)
            go_wp2
            all_goals
              go_ret
              exact ⟨by rw [HV3.out]; rfl, FIN.out _⟩
        · have h9d : k = 9 → d % 128 ≤ 1 := by
            intro h; have : ¬ 1 < d := fun h1 => hbad (.inl ⟨h, h1⟩); omega
          obtain ⟨y, hy⟩ : ∃ y, y = x + 128 ^ k * (d % 128) := ⟨_, rfl⟩
          have hor := or_walk HX.out hk9 h9d hu2
          rw [← hy] at hor
          have hb1 : ¬ (k = 9 ∧ 1 < d) := fun h => hbad (.inl h)
          have hb2 : ¬ (0 < k ∧ d = 0) := fun h => hbad (.inr h)
          have HB := Lib.hid hbad; clear hbad
          have HY := Lib.hid hy; clear hy
          clear h9d
          rcases Nat.lt_or_ge d 128 with h8 | h8
          · have hv3 : varR s = (y, { s with at_ := s.at_ + (k + 1) }) := by rw [H1.out, HV.out, varGo_last' hlt ED.out x HB.out h8, HY.out]
            have HV3 := Lib.hid hv3; clear hv3
            have fin : ∀ q', Rdr ((w.drewN q').setCell ⟨r, 1, none⟩ (.int .i64 ((s.at_ : Int) + ((k : Int) + 1)))) r (varR s).2 ∧ w.grownBy ((w.drewN q').setCell ⟨r, 1, none⟩ (.int .i64 ((s.at_ : Int) + ((k : Int) + 1)))) (some r) := fun q' => by
              rw [HV3.out, show (s.at_ : Int) + ((k : Int) + 1) = ((s.at_ + (k + 1) : Nat) : Int) by omega]
              exact ⟨(h.drewN q').setAt _ (by omega), only_setD q' r 1 _⟩
            have FIN := Lib.hid fin; clear fin
            by_cases h9 : k = 9
            · have hb9 : (((k : Nat) : Int) == 9) = true := by rw [beq_iff_eq]; omega
              have hb0 : (((d : Nat) : Int) == 0) = false := by rw [beq_eq_false_iff_ne]; omega
              have hb8 : decide ((1 : Int) < (d : Int)) = false := decide_eq_false (by omega)
              clear hb1 hb2 h9
              go_wp2
              go_quiet (fail)
              go_wp2
              go_quiet (fail)
              go_wp2
              all_goals
                go_ret
                exact ⟨by rw [HV3.out]; rfl, FIN.out _⟩
            · have hb9 : (((k : Nat) : Int) == 9) = false := by rw [beq_eq_false_iff_ne]; omega
              rcases Nat.eq_zero_or_pos k with h0k | h0k
              · have hbk : decide ((0 : Int) < (k : Int)) = false := decide_eq_false (by omega)
                have hbn : ¬ 0 < k := by omega
                have H0K := Lib.hid h0k
                clear hb1 hb2 h9 h0k
                go_wp2
                go_quiet (fail)
                go_wp2
                go_quiet (fail)
                go_wp2
                all_goals
                  go_ret
                  exact ⟨by rw [HV3.out]; rfl, FIN.out _⟩
              · have hb0 : (((d : Nat) : Int) == 0) = false := by rw [beq_eq_false_iff_ne]; omega
                clear hb1 hb2 h9
                go_wp2
                go_quiet (fail)
                go_wp2
                go_quiet (fail)
                go_wp2
                all_goals
                  go_ret
                  exact ⟨by rw [HV3.out]; rfl, FIN.out _⟩
          · have hk9' : k < 9 := by
              rcases Nat.lt_or_ge k 9 with h | h
              · exact h
              · exact absurd ⟨by omega, by omega⟩ hb1
            have hrel : y < 128 ^ (k + 1) ∧ varGo l 0 = (varGo (l.drop (k + 1)) (k + 1)).after y (k + 1) := by
              refine ⟨by rw [HY.out]; exact digit_lt HX.out (by omega), ?_⟩
              rw [HV.out, varGo_more' hlt ED.out x HB.out h8, HY.out]
            have HR := Lib.hid hrel; clear hrel
            have hb9 : (((k : Nat) : Int) == 9) = false := by rw [beq_eq_false_iff_ne]; omega
            have hb0 : (((d : Nat) : Int) == 0) = false := by rw [beq_eq_false_iff_ne]; omega
            clear hb1 hb2
            go_wp2
            go_quiet (fail)
            go_wp2
            go_quiet (fail)
            go_wp2
            all_goals
              go_roundw
              case rel => exact ⟨y, k + 1, by omega, by omega, rfl, by go_num, HR.out.1, HR.out.2, _, rfl⟩
              case measure => simp [intOf]; omega
      · have hv3 : varR s = (0, { s with err := 2 }) := by rw [H1.out, HV.out, varGo_end hge]
        have HV3 := Lib.hid hv3; clear hv3
        have fin : ∀ q', Rdr ((w.drewN q').setCell ⟨r, 2, none⟩ (.int .i64 2)) r (varR s).2 ∧ w.grownBy ((w.drewN q').setCell ⟨r, 2, none⟩ (.int .i64 2)) (some r) := fun q' => by
          rw [HV3.out]
          exact ⟨(h.drewN q').setErr 2, only_setD q' r 2 _⟩
        have FIN := Lib.hid fin; clear fin
        have hu : (s.b.length : Int) ≤ (s.at_ : Int) + (k : Int) := by omega
        go_wp2
        go_quiet (fail)
        go_wp2
        go_ret
        exact ⟨by rw [HV3.out]; rfl, FIN.out _⟩
  · have hb : (((s.err : Nat) : Int) != 0) = true := by rw [bne_iff_ne]; omega
    have e1 : varR s = (0, s) := if_pos h0
    rw [e1]
    clear e1
    have H0 := Lib.hid h0; clear h0
    go_enter Try.func83, Try.ntmps83
    go_wp2
    go_ret
    exact ⟨rfl, h, World.grownBy.refl _ _⟩
end Go.Proofs.Ytcffinkkfdfcaaa

/- What the reader of the layer wire does: Num and Take. Conditions: a reader that lies in a block of its own. -/
namespace Go.Proofs.Ytcffinkkfdfcaaa
open Go Go.RowKit

def numR (s : RS) (size : Int) : Nat × RS :=
  if s.err ≠ 0 then (0, s) else if size < 1 ∨ 8 < size then (0, { s with err := 1 })
  else if (s.b.length : Int) - (s.at_ : Int) < size then (0, { s with err := 2 })
  else (beN ((s.b.drop s.at_).take size.toNat), { s with at_ := s.at_ + size.toNat })

theorem setErr_only {w : World} {r : Nat} {s : RS} (h : Rdr w r s) (q e : Nat) : Rdr ((w.drewN q).setCell ⟨r, 2, none⟩ (.int .i64 (e : Int))) r { s with err := e } ∧ w.grownBy ((w.drewN q).setCell ⟨r, 2, none⟩ (.int .i64 (e : Int))) (some r) :=
  ⟨(h.drewN q).setErr e, only_setD q r 2 _⟩

set_option maxRecDepth 100000 in
set_option maxHeartbeats 400000 in
theorem Rnum_c (r : Nat) (s : RS) (size : Int) (w : World) (h : Rdr w r s) (hs : (Lit.int .i64 size).wf = true) :
    Calls Try.prog 71 #[.pointer (some ⟨r, 0, none⟩), .int .i64 size] w fun e w' => e = .returned (.int .u64 ((numR s size).1 : Int)) ∧ Rdr w' r (numR s size).2 ∧ w.grownBy w' (some r) := by
  obtain ⟨A, c, ⟨c0, c1, c2⟩, ⟨f0, f1, f2⟩, hrd, hlc, hcm, hk, hl⟩ := h.open_
  by_cases h0 : s.err = 0
  · have hb : (((s.err : Nat) : Int) != 0) = false := by rw [bne_eq_false_iff_eq]; omega
    by_cases hsz : size < 1 ∨ 8 < size
    · have e1 : numR s size = (0, { s with err := 1 }) := by rw [numR, if_neg (by omega), if_pos hsz]
      rw [e1]
      clear e1
      have H0 := Lib.hid h0; clear h0
      rcases hsz with h1 | h1
      · go_enter Try.func71, Try.ntmps71
        go_wp2
        go_ret
        exact ⟨rfl, setErr_only h 0 1⟩
      · go_enter Try.func71, Try.ntmps71
        go_wp2
        go_ret
        exact ⟨rfl, setErr_only h 0 1⟩
    · obtain ⟨n, rfl⟩ := Int.eq_ofNat_of_zero_le (show 0 ≤ size by omega)
      have hn1 : 1 ≤ (n : Int) := by omega
      have hn8 : (n : Int) ≤ 8 := by omega
      by_cases hsh : (s.b.length : Int) - (s.at_ : Int) < (n : Int)
      · have e1 : numR s n = (0, { s with err := 2 }) := by rw [numR, if_neg (by omega), if_neg (by omega), if_pos hsh]
        rw [e1]
        clear e1
        have H0 := Lib.hid h0; clear h0
        have HS := Lib.hid hsz; clear hsz
        go_enter Try.func71, Try.ntmps71
        go_wp2
        go_quiet (fail)
        go_wp2
        go_ret
        exact ⟨rfl, setErr_only h _ 2⟩
      · obtain ⟨l, el⟩ : ∃ l, l = s.b.drop s.at_ := ⟨_, rfl⟩
        have e1 : numR s n = (beN (l.take n), { s with at_ := s.at_ + n }) := by rw [numR, if_neg (by omega), if_neg (by omega), if_neg hsh, el]; rfl
        have hll : l.length + s.at_ = s.b.length := by rw [el, List.length_drop]; omega
        have hsh' : (n : Int) ≤ (s.b.length : Int) - (s.at_ : Int) := by omega
        have H1 := Lib.hid e1; clear e1
        have H0 := Lib.hid h0; clear h0
        have HS := Lib.hid hsz; clear hsz
        have EL := Lib.hid el; clear el
        clear hsh
        go_enter Try.func71, Try.ntmps71
        go_wp2
        go_quiet (fail)
        go_wp2
        go_loopw [5, 43] (fun x i wr => ∃ k : Nat, k ≤ n ∧ i = .int .i64 k ∧ x = .int .u64 ((beN (l.take k) : Nat) : Int) ∧ Rdr wr r { s with at_ := s.at_ + k } ∧ w.grownBy wr (some r)) (fun x i _ => n - (intOf i).toNat)
        case atStart => exact ⟨0, Nat.zero_le _, rfl, rfl, h, ⟨rfl, rfl, rfl, Nat.le_refl _, fun _ _ _ => rfl⟩⟩
        case round =>
          obtain ⟨k, hkn, rfl, rfl, hw, hg⟩ := hrel
          rcases Nat.lt_or_ge k n with hlt | hge
          · have hkl : k < l.length := by omega
            obtain ⟨A', c', ⟨d0, d1, d2⟩, ⟨g0, g1, g2⟩, hrd', hlc', _, _, _⟩ := hw.open_
            simp only [] at d0 d1 d2 hrd' hlc'
            obtain ⟨b, off, rfl, _, hc⟩ := hrd'.addrB (by omega)
            obtain ⟨d, ed⟩ : ∃ d, d = (l[k]).toNat := ⟨_, rfl⟩
            have hcell : wr.cell? ⟨b, off + (s.at_ + k), none⟩ = some (.int .u8 (d : Int)) := by
              rw [hc (s.at_ + k) (by omega), ed]
              have := EL.out
              subst this
              simp [bv]
            have hd : d < 256 := by rw [ed]; exact UInt8.toNat_lt _
            obtain ⟨x, hx⟩ : ∃ x, x = beN (l.take k) := ⟨_, rfl⟩
            have hx1 : beN (l.take (k + 1)) = x * 256 + d := by
              rw [List.take_succ_eq_append_getElem hkl, beN_snoc, hx, ed]
            have hx2 : x < 256 ^ 7 := by
              rw [hx]
              exact Nat.lt_of_lt_of_le (beN_lt _) (Nat.pow_le_pow_right (by decide) (by rw [List.length_take]; omega))
            rw [← hx]
            have hxm : x * 256 < 18446744073709551616 := by omega
            have hor := or_walk8 hxm hd
            have HX1 := Lib.hid hx1; clear hx1
            have HX2 := Lib.hid hx2; clear hx2
            have hwx : IntKind.u64.wrap ((x : Int) * 256) = (x : Int) * 256 := IntWalk.u64_in _ ⟨by omega, by omega⟩
            rw [← hwx] at hor
            have fin : ∀ q' : Nat, ∃ y : Nat, Value.int .i64 ((s.at_ : Int) + (k : Int) + 1) = .int .i64 (y : Int) ∧ Rdr ((wr.drewN q').setCell ⟨r, 1, none⟩ (.int .i64 (y : Int))) r { s with at_ := s.at_ + (k + 1) } ∧ w.grownBy ((wr.drewN q').setCell ⟨r, 1, none⟩ (.int .i64 (y : Int))) (some r) := fun q' =>
              ⟨s.at_ + (k + 1), by congr 1, (hw.drewN q').setAt _ (by show _ ≤ s.b.length; omega), only_trans hg (only_setD q' r 1 _)⟩
            have FIN := Lib.hid fin; clear fin
            have HOR := Lib.hid hor; clear hor
            clear hwx
            have HXM := Lib.hid hxm; clear hxm
            have HX := Lib.hid hx; clear hx
            have ED := Lib.hid ed; clear ed
            have hsk : (s.at_ : Int) + (k : Int) < (s.b.length : Int) := by omega
            clear hc c0 c1 c2 f0 f1 f2
            go_wp2
            go_quiet (fail)
            go_wp2
            go_roundw
            case rel =>
              obtain ⟨y, e1, e2, e3⟩ := FIN.out nq
              refine ⟨k + 1, by omega, by go_num, by rw [HOR.out, HX1.out], ?_, ?_⟩
              · rw [← e1] at e2; exact e2
              · rw [← e1] at e3; exact e3
            case measure => simp [intOf]; omega
          · obtain rfl : k = n := by omega
            go_wp2
            go_ret
            rw [H1.out]
            exact ⟨rfl, hw, hg⟩
  · have hb : (((s.err : Nat) : Int) != 0) = true := by rw [bne_iff_ne]; omega
    have e1 : numR s size = (0, s) := if_pos h0
    rw [e1]
    clear e1
    have H0 := Lib.hid h0; clear h0
    go_enter Try.func71, Try.ntmps71
    go_wp2
    go_ret
    exact ⟨rfl, h, World.grownBy.refl _ _⟩
end Go.Proofs.Ytcffinkkfdfcaaa
