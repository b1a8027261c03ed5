/- Parts one behind the other: What the reference's Pick answers, with where the items' texts lie. Conditions: as told at each. -/
import Derived.Test.YtcffinkkfdfcaaaPB16

set_option linter.unusedVariables false
set_option linter.unusedSimpArgs false
/- What the reference's Pick answers, with where the items' texts lie. Conditions: items and numbers that can be read. -/
namespace Go.Proofs.Ytcffinkkfdfcaaa
open Go Go.RowKit

theorem ItsR.row1k {ok : Nat → Prop} {w : World} {z : Int} {cr li : Bool} {bs : List UInt8} {sub : Fo} {At As : Option Addr} {m cm e1 : Nat} (tt : TxtR ok w At m cm bs) (s1 : FoR ok w As 0 sub) (l1 : sub.len ≤ e1) (l2 : e1 ≤ maxLen) (l3 : sub.len ≤ 2199023255488) :
    ItsR (fun j => ok j ∧ j < w.heap.size) w [⟨z, cr, li, At, m, cm, As, sub.len, e1⟩] (.cons z cr li bs sub .nil) :=
  ⟨_, [], rfl, rfl, rfl, rfl, tt.weak (fun _ h g => ⟨h, g⟩), ⟨rfl, s1.weak (fun _ h g => ⟨h, g⟩), l1, l2, l3⟩, rfl⟩
set_option maxRecDepth 100000 in
set_option maxHeartbeats 8000000 in
theorem refPick_k (f : Fo) (ok : Nat → Prop) (A : Option Addr) (n c : Nat) (Ak : Option Addr) (nk ck : Nat) (ks : List Int) (w : World) (hn : f.len = n) (h1 : FoR ok w A 0 f) (hl : n ≤ 100000) (hk : ks.length = nk) (hr : RdI w Ak ks) (hlk : nk ≤ 140737488355328) :
    Calls Try.prog 74 #[.slice A n c, .slice Ak nk ck] w fun r w' => ∃ v, r = .returned (.tuple #[v, .int .i64 ((pickT ks f).1 : Int)]) ∧ FoM (fun j => ok j ∨ w.heap.size ≤ j) w' v (pickT ks f).2 ∧ Below w.heap.size w w' := by
  have HN := Lib.hid hn; clear hn
  have H1 := Lib.hid h1; clear h1
  have HKS := Lib.hid hk; clear hk
  have HRK := Lib.hid hr; clear hr
  obtain ⟨T, eT⟩ : ∃ T, T = pickT ks f := ⟨_, rfl⟩
  rw [← eT]
  have ET := Lib.hid eT; clear eT
  go_enter Try.func74, Try.ntmps74
  go_wp2_with (fail)
  go_loopw [6, 7] (fun v i wr => ∃ (q : Nat) (r P : Fo) (ds : List ItV), i = .int .i64 q ∧ Hid (q + r.len = n) ∧ Hid (FoR ok w A q r) ∧ Hid (f = P.app r) ∧ Hid (critF ks P = false) ∧ Hid (P.len = q) ∧ Hid (OwnI wr w.heap.size v ds) ∧ Hid (ItsR (fun j => ok j ∧ j < w.heap.size) w ds (pickF ks P)) ∧ Hid (Below w.heap.size w wr)) (fun _ i _ => n - (intOf i).toNat)
  case atStart => exact ⟨0, f, .nil, [], rfl, Lib.hid (by rw [HN.out]; omega), H1, Lib.hid rfl, Lib.hid rfl, Lib.hid rfl, Lib.hid (World.ownsRow_made w #[] 0 (Nat.le_refl _) (Nat.zero_le _) rfl), Lib.hid rfl, Lib.hid ((Below.refl _ _).alloc (Nat.le_refl _) _)⟩
  case round =>
    obtain ⟨wo, rfl⟩ : ∃ wo, wo = wr := ⟨_, rfl⟩
    obtain ⟨q, r, P, ds, rfl, HK, R1, HF, HCr, HPl, HO, HI, HB⟩ := hrel
    cases r with
    | nil =>
      have hk : q = n := HK.out
      have hk' : (n : Int) ≤ (q : Int) := by omega
      have hF : f = P := by rw [HF.out, Fo.app_nil]
      have e0 : T = (0, pickF ks P) := by rw [ET.out, pickT, hF, HCr.out]; rfl
      have E0 := Lib.hid e0
      clear hk hF e0
      go_wp2_with (fail)
      go_ret2
      refine ⟨_, by rw [E0.out]; rfl, ?_, HB.out⟩
      rw [E0.out]
      exact ⟨ds, HO.out.low (Nat.zero_le _), fun g e => .inr (HO.out.lt g e).1, (ItsR.frame (fun j (hj : ok j ∧ j < w.heap.size) _ => HB.out.block j hj.2) HB.out.size _ _ HI.out).weak (fun j hj _ => .inl hj.1)⟩
    | cons z cr li bs sub rest =>
      obtain ⟨⟨b1, o1, At, m, cm, As1, e1, eA, hb1, -, ⟨c0, ca, cb, cc, cd⟩, tt, s1, l1, l2, l3⟩, r1⟩ := R1.out.one
      subst eA
      have hlt : q < n := by have := HK.out; simp only [Fo.len] at this; omega
      have kb := HB.out
      have D1 := Lib.hid (ItsR.row1k (z := z) (cr := cr) (li := li) tt s1 l1 l2 l3)
      have R1b := Lib.hid r1
      rw [← kb.cell (p := ⟨b1, _, none⟩) hb1] at c0 ca cb cc cd
      have HKb : Hid (q + 1 + rest.len = n) := Lib.hid (by have := HK.out; simp only [Fo.len] at this; omega)
      have HFb : Hid (f = (P.app (.cons z cr li bs sub .nil)).app rest) := Lib.hid (by rw [HF.out, Fo.app_assoc]; rfl)
      obtain ⟨sl, esl⟩ : ∃ sl, sl = sub.len := ⟨_, rfl⟩
      rw [← esl] at cd l1 l3 D1
      have hlt' : (q : Int) < (n : Int) := by omega
      have C0 := Lib.hid c0
      have CA := Lib.hid ca
      have CB := Lib.hid cb
      have CC := Lib.hid cc
      have CD := Lib.hid cd
      have HB1 := Lib.hid hb1
      clear tt s1 r1 esl HK HF R1 kb l1 l2 c0 ca cb cc cd hb1
      go_wp2_with (fail)
      go_loopw [8, 9] (fun b k wr => ∃ (j : Nat), b = .bool (decide (z ∈ ks.take j)) ∧ k = .int .i64 j ∧ j ≤ nk ∧ ∃ y, wr = wo.drewN y) (fun _ k _ => nk - (intOf k).toNat)
      case atStart => exact ⟨0, by simp, rfl, Nat.zero_le _, 0, rfl⟩
      case round =>
        obtain ⟨j, hb, rfl, hj, y, rfl⟩ := hrel
        obtain ⟨B, eB⟩ : ∃ B, B = decide (z ∈ ks.take j) := ⟨_, rfl⟩
        rw [← eB] at hb
        subst hb
        have EB := Lib.hid eB
        clear eB
        have c0 := C0.out
        have ca := CA.out
        rcases Nat.lt_or_ge j nk with hjn | hjn
        · have hjk : j < ks.length := by rw [HKS.out]; exact hjn
          obtain ⟨bk, ok', rfl, hbk, hck⟩ := HRK.out.addr (by omega)
          have k0 := hck j hjk
          rw [← HB.out.cell (p := ⟨bk, _, none⟩) hbk] at k0
          obtain ⟨zj, ez⟩ : ∃ zj, zj = ks[j] := ⟨_, rfl⟩
          rw [← ez] at k0
          have hjn' : (j : Int) < (nk : Int) := by omega
          obtain ⟨E, eE⟩ : ∃ E, E = (zj == z) := ⟨_, rfl⟩
          have e0 : (zj == z) = E := eE.symm
          have hnew : Hid (decide (z ∈ ks.take (j + 1)) = (B || E)) := Lib.hid (by
            rw [mem_take_succ hjk, ← EB.out, eE, ez]
            congr 1)
          clear hck ez eE
          cases B with
          | true =>
            have hnew' : Hid (decide (z ∈ ks.take (j + 1)) = true) := Lib.hid (by rw [hnew.out]; rfl)
            clear hnew
            go_wp2_with (fail)
            go_quiet (fail)
            go_wp2_with (fail)
            go_roundw
            case rel => exact ⟨j + 1, by rw [hnew'.out], by go_num, by omega, _, rfl⟩
            case measure => simp [intOf]; omega
          | false =>
            have hnew' : Hid (decide (z ∈ ks.take (j + 1)) = E) := Lib.hid (by rw [hnew.out]; rfl)
            clear hnew
            go_wp2_with (fail)
            go_quiet (fail)
            go_wp2_with (fail)
            go_roundw
            case rel => exact ⟨j + 1, by rw [hnew'.out], by go_num, by omega, _, rfl⟩
            case measure => simp [intOf]; omega
        · have hjn' : (nk : Int) ≤ (j : Int) := by omega
          have hB : B = decide (z ∈ ks) := by rw [EB.out, List.take_of_length_le (by rw [HKS.out]; exact hjn)]
          have cb := CB.out
          have cc := CC.out
          have cd := CD.out
          have HOy := Lib.hid (HO.out.drewN y)
          have HBy : Hid (Below w.heap.size w (wo.drewN y)) := Lib.hid (below_drewN HB.out y)
          by_cases hin : z ∈ ks
          · rw [decide_eq_true hin] at hB
            subst hB
            have hpk : Hid (pickF ks (P.app (.cons z cr li bs sub .nil)) = (pickF ks P).app (.cons z cr li bs sub .nil)) := Lib.hid (by rw [pickF_app]; simp only [pickF, if_pos hin])
            have hcr : Hid (critF ks (P.app (.cons z cr li bs sub .nil)) = false) := Lib.hid (by rw [critF_app, HCr.out]; simp [critF, hin])
            have b67 : Below wo.heap.size (wo.drewN y) ((wo.drewN y).alloc (.cells #[.int .i64 z, .bool cr, .bool li, .slice At m cm, .slice As1 sl e1] 76)) := (Below.refl (wo.drewN y).heap.size (wo.drewN y)).alloc (Nat.le_refl _) _
            have HO7 : Hid (OwnI ((wo.drewN y).alloc (.cells #[.int .i64 z, .bool cr, .bool li, .slice At m cm, .slice As1 sl e1] 76)) w.heap.size u6 ds) := Lib.hid (HOy.out.below b67)
            have HB7 : Hid (Below w.heap.size w ((wo.drewN y).alloc (.cells #[.int .i64 z, .bool cr, .bool li, .slice At m cm, .slice As1 sl e1] 76))) := Lib.hid (HBy.out.trans (b67.mono HBy.out.size))
            have HR7 := Lib.hid (Rd.lit (wo.drewN y) (cellsI [⟨z, cr, li, At, m, cm, As1, sl, e1⟩]) 76)
            have hdl : ds.length ≤ 100000 := by rw [ItsR.len _ ds HI.out]; have := pickF_len ks P; have := HPl.out; omega
            clear hin b67 HOy HBy
            go_wp2_with (at_builtin; refine wpList_appI _ rfl (.tmp 37) (.tmp 42) rfl w.heap.size _ ds rfl HO7.out (some ⟨wo.heap.size, 0, none⟩) 1 1 [⟨z, cr, li, At, m, cm, As1, sl, e1⟩] rfl rfl HR7.out (by omega) HB7.out.size ?_; intro v12 w12 ho12 hg12 hv12; have HO12 := Lib.hid ho12; have HB12 := Lib.hid (HB7.out.grown hg12 HB7.out.size (fun k e => (HO7.out.lt k e).1)); clear ho12 hg12 hv12)
            go_roundw
            case measure => simp [intOf]; omega
            case rel => exact ⟨q + 1, rest, _, _, by go_num, HKb, R1b, HFb, hcr, Lib.hid (by rw [Fo.len_app, HPl.out]; rfl), HO12, Lib.hid (by rw [hpk.out]; exact ItsR.snoc D1.out _ _ HI.out), HB12⟩
          · rw [decide_eq_false hin] at hB
            subst hB
            cases cr with
            | true =>
              have e0 : T = (7, .nil) := by rw [ET.out, pickT, HFb.out, critF_app, critF_app]; simp [critF, hin]
              have E0 := Lib.hid e0
              clear e0 hin
              go_wp2_with (fail)
              go_ret2
              exact ⟨_, by rw [E0.out]; rfl, by rw [E0.out]; exact FoM.nil_ _ _, HBy.out⟩
            | false =>
              have hpk : Hid (pickF ks (P.app (.cons z false li bs sub .nil)) = pickF ks P) := Lib.hid (by rw [pickF_app]; simp only [pickF, if_neg hin]; exact Fo.app_nil _)
              have hcr : Hid (critF ks (P.app (.cons z false li bs sub .nil)) = false) := Lib.hid (by rw [critF_app, HCr.out]; simp [critF])
              clear hin
              go_wp2_with (fail)
              go_roundw
              case measure => simp [intOf]; omega
              case rel => exact ⟨q + 1, rest, _, ds, by go_num, HKb, R1b, HFb, hcr, Lib.hid (by rw [Fo.len_app, HPl.out]; rfl), HOy, Lib.hid (by rw [hpk.out]; exact HI.out), HBy⟩
end Go.Proofs.Ytcffinkkfdfcaaa
