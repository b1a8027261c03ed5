/- Parts one behind the other: The law's fixed examples hold; What the reference's Pick answers; Slices of bytes in a row of the call's own; Cuts of slices whose bound is known under another spelling; What the reference's Get answers, with where the item's texts lie; What the reference's sizes answers: the bytes of the items of the kinds 1 and up, or an error; What the reference's number answers. Conditions: as told at each. -/
import Derived.Test.YtcffinkkfdfcaaaPB15
import Derived.Test.YtcffinkkfdfcaaaPB13
import Derived.Test.YtcffinkkfdfcaaaPB3
import Derived.Test.YtcffinkkfdfcaaaPB11
import Derived.Test.YtcffinkkfdfcaaaPB8
import Derived.Test.YtcffinkkfdfcaaaPB14
import Derived.Test.YtcffinkkfdfcaaaPB10

set_option linter.unusedVariables false
set_option linter.unusedSimpArgs false
/- The law's fixed examples hold. Conditions: none. -/
namespace Go.Proofs.Ytcffinkkfdfcaaa
open Go Go.RowKit

theorem fix_one : putD 1 ⟨5, 65535, 0, 0, false, ⟨0, 0, 0, []⟩⟩ = (0, [0, 5, 255, 255, 0, 0, 0, 0, 0, 0, 0, 0, 0, 0, 0, 0, 0, 0, 0, 0, 0]) := by kernel_rfl
theorem fix_two : putD 2 ⟨5, 65535, 0, 0, false, ⟨0, 0, 0, []⟩⟩ = (0, [6, 2, 0, 5]) := by kernel_rfl
theorem fix_hel : helE [] = 12 := by kernel_rfl
theorem fix_helR : (helR []).val = .agg #[.int .i64 0, .int .u32 0, .int .u8 0, .int .u8 0, .int .u8 0, .int .u8 0, .int .u8 0, .int .u8 0, .int .u8 0, .int .u8 0, .int .u8 0, .int .u8 0, .int .u8 0, .int .u8 0, .int .u8 0, .int .u8 0, .int .u8 0, .int .u8 0] := by
  unfold helR
  rw [if_neg (by rw [fix_hel]; decide)]
  rfl
def L21 : List UInt8 := [0, 5, 255, 255, 0, 0, 0, 0, 0, 0, 0, 0, 0, 0, 0, 0, 0, 0, 0, 0, 0]
set_option maxRecDepth 100000 in
set_option maxHeartbeats 4000000 in
theorem fixedB_c (w : World) : Calls Try.prog 9 #[] w fun r w' => r = .returned (.bool true) ∧ Below w.heap.size w w' := by
  go_enter Try.func9, Try.ntmps9
  go_wp2_with (fail)
  refine (PutData_c 1 5 65535 0 0 false 0 0 0 none 0 0 [] w (by unfold U16; decide) (by unfold U16; decide) (by unfold U64; decide) (by unfold U64; decide) (by decide) (TxtO.nil_ _ _).r (by decide)).mono ?_
  rintro _ w1 ⟨x1, rfl, ho1, hb1⟩
  rw [fix_one] at ho1 ⊢
  have ho1' : OwnB w1 w.heap.size x1 L21 := ho1
  obtain ⟨A1, c1, rfl, hc1, hm1, r1, _⟩ := OwnB.form ho1'
  have hl : L21.length = 21 := rfl
  rw [hl] at hc1 ⊢
  have R1 := Lib.hid r1
  have HB1 := Lib.hid hb1
  clear ho1 ho1' r1 hb1 hl
  go_wp2_with (fail)
  refine (PutData_c 2 5 65535 0 0 false 0 0 0 none 0 0 [] w1 (by unfold U16; decide) (by unfold U16; decide) (by unfold U64; decide) (by unfold U64; decide) (by decide) (TxtO.nil_ _ _).r (by decide)).mono ?_
  rintro _ w2 ⟨x2, rfl, ho2, hb2⟩
  rw [fix_two] at ho2 ⊢
  obtain ⟨A2, c2, rfl, hc2, hm2, r2, _⟩ := OwnB.form ho2
  have R2 := Lib.hid r2
  have R12 := Lib.hid (R1.out.below hb2)
  have HB2 := Lib.hid (HB1.out.trans (hb2.mono HB1.out.size))
  clear ho2 r2 hb2
  go_wp2_with (fail)
  refine (GetHello_c [] none 0 0 w2 rfl (.inl rfl) (by decide)).mono ?_
  rintro _ w3 ⟨rfl, hb3⟩
  rw [fix_hel, fix_helR]
  obtain ⟨w4, ew4⟩ : ∃ w4, w4 = w3.alloc (.cells #[.int .i64 0, .int .u32 0, .int .u8 0, .int .u8 0, .int .u8 0, .int .u8 0, .int .u8 0, .int .u8 0, .int .u8 0, .int .u8 0, .int .u8 0, .int .u8 0, .int .u8 0, .int .u8 0, .int .u8 0, .int .u8 0, .int .u8 0, .int .u8 0] 44) := ⟨_, rfl⟩
  have b4 : Below w3.heap.size w3 w4 := by rw [ew4]; exact (Below.refl _ _).alloc (Nat.le_refl _) _
  have hb24 := hb3.trans (b4.mono hb3.size)
  have R14 := R12.out.below hb24
  have R24 := Lib.hid (R2.out.below hb24)
  have HB4 := Lib.hid (HB2.out.trans (hb24.mono HB2.out.size))
  obtain ⟨b, off, rfl, hb, hc⟩ := R14.addrB (by decide)
  have y1 : w4.cell? ⟨b, off + 1, none⟩ = some (.int .u8 5) := hc 1 (by decide)
  have y2 : w4.cell? ⟨b, off + 2, none⟩ = some (.int .u8 255) := hc 2 (by decide)
  have EW4 := Lib.hid ew4
  clear hb24 b4 hb3 R14 hb hc ew4
  go_upto_region 4 with (fail)
  rw [← EW4.out]
  go_wp2_with (fail)
  refine (Same_t A2 (some ⟨w4.heap.size, 0, none⟩) 4 4 c2 4 [6, 2, 0, 5] _ rfl rfl (R24.out.alloc _) (Rd.lit w4 ([6, 2, 0, 5].map bv) _) (by decide)).mono ?_
  rintro _ w5 ⟨rfl, q, rfl⟩
  have HB5 := Lib.hid (below_drewN (HB4.out.alloc HB4.out.size (.cells #[.int .u8 6, .int .u8 2, .int .u8 0, .int .u8 5] 5)) q)
  clear y1 y2
  go_wp2_with (fail)
  go_ret
  exact ⟨rfl, HB5.out⟩
end Go.Proofs.Ytcffinkkfdfcaaa

/- What the reference's Pick answers. Conditions: items and numbers that can be read. -/
namespace Go.Proofs.Ytcffinkkfdfcaaa
open Go Go.RowKit

theorem mem_take_succ {zs : List Int} {k : Nat} (h : k < zs.length) (z : Int) : decide (z ∈ zs.take (k + 1)) = (decide (z ∈ zs.take k) || decide (zs[k] = z)) := by
  have e : (z ∈ zs.take (k + 1)) = (z ∈ zs.take k ∨ zs[k] = z) := by
    rw [List.take_succ_eq_append_getElem h, List.mem_append, List.mem_singleton, eq_comm (a := z)]
  simp only [e, Bool.decide_or]
theorem ItsR.row1 {ok : Nat → Prop} {w : World} {z : Int} {cr li : Bool} {bs : List UInt8} {sub : Fo} {At As : Option Addr} {m cm e1 : Nat} (tt : TxtR ok w At m cm bs) (s1 : FoR ok w As 0 sub) (l1 : sub.len ≤ e1) (l2 : e1 ≤ maxLen) (l3 : sub.len ≤ 2199023255488) (hk : ∀ j, ok j → j < w.heap.size → j < w.heap.size) :
    ItsR (· < w.heap.size) w [⟨z, cr, li, At, m, cm, As, sub.len, e1⟩] (.cons z cr li bs sub .nil) :=
  ⟨_, [], rfl, rfl, rfl, rfl, tt.weak hk, ⟨rfl, s1.weak hk, l1, l2, l3⟩, rfl⟩
set_option maxRecDepth 100000 in
set_option maxHeartbeats 8000000 in
theorem refPick_c (f : Fo) (ok : Nat → Prop) (A : Option Addr) (n c : Nat) (Ak : Option Addr) (nk ck : Nat) (ks : List Int) (w : World) (hn : f.len = n) (h1 : FoR ok w A 0 f) (hl : n ≤ 100000) (hk : ks.length = nk) (hr : RdI w Ak ks) (hlk : nk ≤ 140737488355328) :
    Calls Try.prog 74 #[.slice A n c, .slice Ak nk ck] w fun r w' => ∃ v, r = .returned (.tuple #[v, .int .i64 ((pickT ks f).1 : Int)]) ∧ FoM (fun _ => True) w' v (pickT ks f).2 ∧ Below w.heap.size w w' := by
  have HN := Lib.hid hn; clear hn
  have H1 := Lib.hid h1; clear h1
  have HKS := Lib.hid hk; clear hk
  have HRK := Lib.hid hr; clear hr
  obtain ⟨T, eT⟩ : ∃ T, T = pickT ks f := ⟨_, rfl⟩
  rw [← eT]
  have ET := Lib.hid eT; clear eT
  go_enter Try.func74, Try.ntmps74
  go_wp2_with (fail)
  go_loopw [6, 7] (fun v i wr => ∃ (q : Nat) (r P : Fo) (ds : List ItV), i = .int .i64 q ∧ Hid (q + r.len = n) ∧ Hid (FoR ok w A q r) ∧ Hid (f = P.app r) ∧ Hid (critF ks P = false) ∧ Hid (P.len = q) ∧ Hid (OwnI wr w.heap.size v ds) ∧ Hid (ItsR (· < w.heap.size) w ds (pickF ks P)) ∧ Hid (Below w.heap.size w wr)) (fun _ i _ => n - (intOf i).toNat)
  case atStart => exact ⟨0, f, .nil, [], rfl, Lib.hid (by rw [HN.out]; omega), H1, Lib.hid rfl, Lib.hid rfl, Lib.hid rfl, Lib.hid (World.ownsRow_made w #[] 0 (Nat.le_refl _) (Nat.zero_le _) rfl), Lib.hid rfl, Lib.hid ((Below.refl _ _).alloc (Nat.le_refl _) _)⟩
  case round =>
    obtain ⟨wo, rfl⟩ : ∃ wo, wo = wr := ⟨_, rfl⟩
    obtain ⟨q, r, P, ds, rfl, HK, R1, HF, HCr, HPl, HO, HI, HB⟩ := hrel
    cases r with
    | nil =>
      have hk : q = n := HK.out
      have hk' : (n : Int) ≤ (q : Int) := by omega
      have hF : f = P := by rw [HF.out, Fo.app_nil]
      have e0 : T = (0, pickF ks P) := by rw [ET.out, pickT, hF, HCr.out]; rfl
      have E0 := Lib.hid e0
      clear hk hF e0
      go_wp2_with (fail)
      go_ret2
      refine ⟨_, by rw [E0.out]; rfl, ?_, HB.out⟩
      rw [E0.out]
      exact ⟨ds, HO.out.low (Nat.zero_le _), fun _ _ => trivial, (ItsR.frame (fun j (hj : j < w.heap.size) _ => HB.out.block j hj) HB.out.size _ _ HI.out).weak (fun _ _ _ => trivial)⟩
    | cons z cr li bs sub rest =>
      obtain ⟨⟨b1, o1, At, m, cm, As1, e1, eA, hb1, -, ⟨c0, ca, cb, cc, cd⟩, tt, s1, l1, l2, l3⟩, r1⟩ := R1.out.one
      subst eA
      have hlt : q < n := by have := HK.out; simp only [Fo.len] at this; omega
      have kb := HB.out
      have D1 := Lib.hid (ItsR.row1 (z := z) (cr := cr) (li := li) tt s1 l1 l2 l3 (fun _ _ h => h))
      have R1b := Lib.hid r1
      rw [← kb.cell (p := ⟨b1, _, none⟩) hb1] at c0 ca cb cc cd
      have HKb : Hid (q + 1 + rest.len = n) := Lib.hid (by have := HK.out; simp only [Fo.len] at this; omega)
      have HFb : Hid (f = (P.app (.cons z cr li bs sub .nil)).app rest) := Lib.hid (by rw [HF.out, Fo.app_assoc]; rfl)
      obtain ⟨sl, esl⟩ : ∃ sl, sl = sub.len := ⟨_, rfl⟩
      rw [← esl] at cd l1 l3 D1
      have hlt' : (q : Int) < (n : Int) := by omega
      have C0 := Lib.hid c0
      have CA := Lib.hid ca
      have CB := Lib.hid cb
      have CC := Lib.hid cc
      have CD := Lib.hid cd
      have HB1 := Lib.hid hb1
      clear tt s1 r1 esl HK HF R1 kb l1 l2 c0 ca cb cc cd hb1
      go_wp2_with (fail)
      go_loopw [8, 9] (fun b k wr => ∃ (j : Nat), b = .bool (decide (z ∈ ks.take j)) ∧ k = .int .i64 j ∧ j ≤ nk ∧ ∃ y, wr = wo.drewN y) (fun _ k _ => nk - (intOf k).toNat)
      case atStart => exact ⟨0, by simp, rfl, Nat.zero_le _, 0, rfl⟩
      case round =>
        obtain ⟨j, hb, rfl, hj, y, rfl⟩ := hrel
        obtain ⟨B, eB⟩ : ∃ B, B = decide (z ∈ ks.take j) := ⟨_, rfl⟩
        rw [← eB] at hb
        subst hb
        have EB := Lib.hid eB
        clear eB
        have c0 := C0.out
        have ca := CA.out
        rcases Nat.lt_or_ge j nk with hjn | hjn
        · have hjk : j < ks.length := by rw [HKS.out]; exact hjn
          obtain ⟨bk, ok', rfl, hbk, hck⟩ := HRK.out.addr (by omega)
          have k0 := hck j hjk
          rw [← HB.out.cell (p := ⟨bk, _, none⟩) hbk] at k0
          obtain ⟨zj, ez⟩ : ∃ zj, zj = ks[j] := ⟨_, rfl⟩
          rw [← ez] at k0
          have hjn' : (j : Int) < (nk : Int) := by omega
          obtain ⟨E, eE⟩ : ∃ E, E = (zj == z) := ⟨_, rfl⟩
          have e0 : (zj == z) = E := eE.symm
          have hnew : Hid (decide (z ∈ ks.take (j + 1)) = (B || E)) := Lib.hid (by
            rw [mem_take_succ hjk, ← EB.out, eE, ez]
            congr 1)
          clear hck ez eE
          cases B with
          | true =>
            have hnew' : Hid (decide (z ∈ ks.take (j + 1)) = true) := Lib.hid (by rw [hnew.out]; rfl)
            clear hnew
            go_wp2_with (fail)
            go_quiet (fail)
            go_wp2_with (fail)
            go_roundw
            case rel => exact ⟨j + 1, by rw [hnew'.out], by go_num, by omega, _, rfl⟩
            case measure => simp [intOf]; omega
          | false =>
            have hnew' : Hid (decide (z ∈ ks.take (j + 1)) = E) := Lib.hid (by rw [hnew.out]; rfl)
            clear hnew
            go_wp2_with (fail)
            go_quiet (fail)
            go_wp2_with (fail)
            go_roundw
            case rel => exact ⟨j + 1, by rw [hnew'.out], by go_num, by omega, _, rfl⟩
            case measure => simp [intOf]; omega
        · have hjn' : (nk : Int) ≤ (j : Int) := by omega
          have hB : B = decide (z ∈ ks) := by rw [EB.out, List.take_of_length_le (by rw [HKS.out]; exact hjn)]
          have cb := CB.out
          have cc := CC.out
          have cd := CD.out
          have HOy := Lib.hid (HO.out.drewN y)
          have HBy : Hid (Below w.heap.size w (wo.drewN y)) := Lib.hid (below_drewN HB.out y)
          by_cases hin : z ∈ ks
          · rw [decide_eq_true hin] at hB
            subst hB
            have hpk : Hid (pickF ks (P.app (.cons z cr li bs sub .nil)) = (pickF ks P).app (.cons z cr li bs sub .nil)) := Lib.hid (by rw [pickF_app]; simp only [pickF, if_pos hin])
            have hcr : Hid (critF ks (P.app (.cons z cr li bs sub .nil)) = false) := Lib.hid (by rw [critF_app, HCr.out]; simp [critF, hin])
            have b67 : Below wo.heap.size (wo.drewN y) ((wo.drewN y).alloc (.cells #[.int .i64 z, .bool cr, .bool li, .slice At m cm, .slice As1 sl e1] 76)) := (Below.refl (wo.drewN y).heap.size (wo.drewN y)).alloc (Nat.le_refl _) _
            have HO7 : Hid (OwnI ((wo.drewN y).alloc (.cells #[.int .i64 z, .bool cr, .bool li, .slice At m cm, .slice As1 sl e1] 76)) w.heap.size u6 ds) := Lib.hid (HOy.out.below b67)
            have HB7 : Hid (Below w.heap.size w ((wo.drewN y).alloc (.cells #[.int .i64 z, .bool cr, .bool li, .slice At m cm, .slice As1 sl e1] 76))) := Lib.hid (HBy.out.trans (b67.mono HBy.out.size))
            have HR7 := Lib.hid (Rd.lit (wo.drewN y) (cellsI [⟨z, cr, li, At, m, cm, As1, sl, e1⟩]) 76)
            have hdl : ds.length ≤ 100000 := by rw [ItsR.len _ ds HI.out]; have := pickF_len ks P; have := HPl.out; omega
            clear hin b67 HOy HBy
            go_wp2_with (at_builtin; refine wpList_appI _ rfl (.tmp 37) (.tmp 42) rfl w.heap.size _ ds rfl HO7.out (some ⟨wo.heap.size, 0, none⟩) 1 1 [⟨z, cr, li, At, m, cm, As1, sl, e1⟩] rfl rfl HR7.out (by omega) HB7.out.size ?_; intro v12 w12 ho12 hg12 hv12; have HO12 := Lib.hid ho12; have HB12 := Lib.hid (HB7.out.grown hg12 HB7.out.size (fun k e => (HO7.out.lt k e).1)); clear ho12 hg12 hv12)
            go_roundw
            case measure => simp [intOf]; omega
            case rel => exact ⟨q + 1, rest, _, _, by go_num, HKb, R1b, HFb, hcr, Lib.hid (by rw [Fo.len_app, HPl.out]; rfl), HO12, Lib.hid (by rw [hpk.out]; exact ItsR.snoc D1.out _ _ HI.out), HB12⟩
          · rw [decide_eq_false hin] at hB
            subst hB
            cases cr with
            | true =>
              have e0 : T = (7, .nil) := by rw [ET.out, pickT, HFb.out, critF_app, critF_app]; simp [critF, hin]
              have E0 := Lib.hid e0
              clear e0 hin
              go_wp2_with (fail)
              go_ret2
              exact ⟨_, by rw [E0.out]; rfl, by rw [E0.out]; exact FoM.nil_ _ _, HBy.out⟩
            | false =>
              have hpk : Hid (pickF ks (P.app (.cons z false li bs sub .nil)) = pickF ks P) := Lib.hid (by rw [pickF_app]; simp only [pickF, if_neg hin]; exact Fo.app_nil _)
              have hcr : Hid (critF ks (P.app (.cons z false li bs sub .nil)) = false) := Lib.hid (by rw [critF_app, HCr.out]; simp [critF])
              clear hin
              go_wp2_with (fail)
              go_roundw
              case measure => simp [intOf]; omega
              case rel => exact ⟨q + 1, rest, _, ds, by go_num, HKb, R1b, HFb, hcr, Lib.hid (by rw [Fo.len_app, HPl.out]; rfl), HOy, Lib.hid (by rw [hpk.out]; exact HI.out), HBy⟩
end Go.Proofs.Ytcffinkkfdfcaaa

/- Slices of bytes in a row of the call's own. Conditions: none. -/
namespace Go.Proofs.Ytcffinkkfdfcaaa
open Go Go.RowKit

theorem info_sl : (Try.prog.info? 25).map (fun i => (i.zero, i.size, i.bytes)) = some (some (.slice none 0 0), 1, 24) := by kernel_rfl
/-- 'make([][]byte, n)'. -/
theorem wpList_makeS (w : World) {ops : Array Oper} {rest : List Oper} {o : Oper} {a : Act} {Q : Exit → Act → World → Prop} (hgd : o.guard = none) (l c : Operand) (ho : o.op = Op.makeSlice 94 l c)
    (kl kc : IntKind) (L C : Int) (n : Nat) (hl : a.eval l = .int kl L) (hc : a.eval c = .int kc C) (hL : L = (n : Int)) (hC : C = (n : Int)) (hn : n ≤ 6000000000000)
    (h : ∀ w', Own w' w.heap.size 25 (.slice (some ⟨w.heap.size, 0, none⟩) n n) (List.replicate n (.slice none 0 0)) → Below w.heap.size w w' → w.grownBy w' none → wpList Try.prog ops Q rest (a.put o.dst (.slice (some ⟨w.heap.size, 0, none⟩) n n)) w') :
    wpList Try.prog ops Q (o :: rest) a w := by
  obtain ⟨i0, hi, hz0, hz1, hz2⟩ := info_parts info_sl
  refine wpList_make_full w hgd l c 94 ho w.heap.size 25 i0 (.slice none 0 0) 1 Try.underlying94 hi hz0 hz1 kl kc L C n hl hc hL hC (by rw [hz2]; omega) (by unfold maxLen; omega) (Nat.le_refl _) ?_
  intro w' h1 h2
  refine h w' ?_ ((Below.refl _ _).grown h2 (Nat.le_refl _) (fun k hk => by cases hk)) h2
  have e : (madeCells (Value.slice none 0 0).cells (n * 1)).toList = List.replicate n (.slice none 0 0) := by
    rw [Nat.mul_one]; exact toList_madeCells_one _ _
  rw [e] at h1
  simpa [Own] using h1

/-- The value is a slice of these bytes, in a block behind B. -/
def SlV (w : World) (B : Nat) (v : Value) (b : List UInt8) : Prop :=
  ∃ A c, v = .slice A b.length c ∧ Rd w A (b.map bv) ∧ b.length ≤ c ∧ c ≤ maxLen ∧ ∀ a, A = some a → B < a.block
theorem SlV.below {w w' : World} {B : Nat} {v : Value} {b : List UInt8} (h : SlV w B v b) (hb : Below w.heap.size w w') : SlV w' B v b := by
  obtain ⟨A, c, h1, h2, h3⟩ := h
  exact ⟨A, c, h1, h2.below hb, h3⟩
theorem SlV.set {w : World} {B i : Nat} {v u : Value} {b : List UInt8} (h : SlV w B v b) : SlV (w.setCell ⟨B, i, none⟩ u) B v b := by
  obtain ⟨A, c, h1, h2, h3, h4, h5⟩ := h
  exact ⟨A, c, h1, h2.far u (fun a e => by have := h5 a e; simp; omega), h3, h4, h5⟩
theorem SlV.own {w : World} {B B' : Nat} {v : Value} {b : List UInt8} (h : OwnB w B' v b) (hB : B < B') : SlV w B v b := by
  obtain ⟨A, c, h1, h2, h3, h4, h5⟩ := h.form
  exact ⟨A, c, h1, h4, h2, h3, fun a e => Nat.lt_of_lt_of_le hB (h5 a e).1⟩

/-- k copies lie in the row, the rest is nil. -/
def Cps (w : World) (B n : Nat) (bss : List (List UInt8)) (k : Nat) : Prop :=
  ∃ vs : List Value, vs.length = k ∧ Own w B 25 (.slice (some ⟨B, 0, none⟩) n n) (vs ++ List.replicate (n - k) (.slice none 0 0)) ∧ ∀ j (h1 : j < vs.length) (h2 : j < bss.length), SlV w B vs[j] bss[j]
theorem Cps.zero {w : World} {B n : Nat} {bss : List (List UInt8)} (h : Own w B 25 (.slice (some ⟨B, 0, none⟩) n n) (List.replicate n (.slice none 0 0))) : Cps w B n bss 0 :=
  ⟨[], rfl, by simpa using h, fun j h1 => absurd h1 (by simp)⟩
theorem Cps.below {w w' : World} {B n k : Nat} {bss : List (List UInt8)} (h : Cps w B n bss k) (hb : Below w.heap.size w w') : Cps w' B n bss k := by
  obtain ⟨vs, h1, h2, h3⟩ := h
  exact ⟨vs, h1, Own.below h2 hb, fun j g1 g2 => (h3 j g1 g2).below hb⟩
theorem Cps.put {w : World} {B n k : Nat} {bss : List (List UInt8)} (h : Cps w B n bss k) (hk : k < n) (v : Value) (hv : ∀ h2 : k < bss.length, SlV w B v bss[k]) : Cps (w.setCell ⟨B, k, none⟩ v) B n bss (k + 1) := by
  obtain ⟨vs, h1, h2, h3⟩ := h
  refine ⟨vs ++ [v], by simp [h1], ?_, fun j g1 g2 => ?_⟩
  · have := h2.set k v
    rw [List.set_append_right _ _ (by omega), h1, Nat.sub_self, show n - k = (n - (k + 1)) + 1 by omega, List.replicate_succ, List.set_cons_zero] at this
    rw [List.append_assoc]
    exact this
  · rcases Nat.lt_or_ge j vs.length with hj | hj
    · rw [List.getElem_append_left hj]
      exact (h3 j hj g2).set
    · have : j = k := by simp at g1; omega
      subst this
      rw [List.getElem_append_right hj]
      simp only [h1, Nat.sub_self, List.getElem_cons_zero]
      exact (hv g2).set
theorem Cps.cell {w : World} {B n k : Nat} {bss : List (List UInt8)} (h : Cps w B n bss k) (j : Nat) (hj : j < n) (hk : k ≤ n) : ∃ u, w.cell? ⟨B, j, none⟩ = some u := by
  obtain ⟨vs, h1, h2, h3⟩ := h
  have : j < (vs ++ List.replicate (n - k) (Value.slice none 0 0)).length := by simp [h1]; omega
  exact ⟨_, h2.cell j this⟩
theorem Cps.free {w : World} {B n k : Nat} {bss : List (List UInt8)} (h : Cps w B n bss k) (j : Nat) : w.frozen? ⟨B, j, none⟩ = false := by
  obtain ⟨vs, h1, h2, h3⟩ := h
  exact h2.free j
theorem Cps.rds {w : World} {B n : Nat} {bss : List (List UInt8)} (h : Cps w B n bss n) (hn : bss.length = n) : RdS w (some ⟨B, 0, none⟩) bss := by
  obtain ⟨vs, h1, h2, h3⟩ := h
  rw [Nat.sub_self, List.replicate_zero, List.append_nil] at h2
  obtain ⟨A, c, e, q1, q2, q3, q4, _⟩ := Own.form h2
  injection e with e1 e2 e3
  subst e1
  obtain ⟨_, hlt, _⟩ := q4 _ rfl
  refine .inr ⟨B, 0, rfl, hlt, fun k hk => ?_⟩
  obtain ⟨Ak, ck, g1, g2, g3, g4, _⟩ := h3 k (by omega) hk
  refine ⟨Ak, ck, ?_, g2, g3, g4⟩
  rw [Nat.zero_add, h2.cell k (by omega), g1]
end Go.Proofs.Ytcffinkkfdfcaaa

/- Cuts of slices whose bound is known under another spelling. Conditions: the bound lies in the slice. -/
namespace Go.Proofs.Ytcffinkkfdfcaaa
open Go Go.RowKit

/-- A guarded operation whose guard lets it run is walked as a plain one. -/
theorem wpList_open {P : Program} {ops : Array Oper} {Q : Exit → Act → World → Prop} {a : Act} {w : World} {rest : List Oper} {o : Oper} (hw : Region.wanted o (yielded ops a.tmps) = true)
    (h : wpList P ops Q ({ o with guard := none } :: rest) a w) : wpList P ops Q (o :: rest) a w := by
  unfold wpList at h ⊢
  rw [if_pos hw]
  rw [if_pos (by simp [Region.wanted])] at h
  exact h
theorem wpList_sliceTo (w : World) {ops : Array Oper} {rest : List Oper} {o : Oper} {a : Act} {Q : Exit → Act → World → Prop} (hgd : o.guard = none) (x y : Operand) (ho : o.op = .slice 25 x none (some y) none)
    (A : Option Addr) (m c : Nat) (hx : a.eval x = .slice A m c) (V : Int) (hy : a.eval y = .int .i64 V) (k : Nat) (hV : V = (k : Int)) (hk : k ≤ c)
    (h : wpList Try.prog ops Q rest (a.put o.dst (.slice A k c)) w) : wpList Try.prog ops Q (o :: rest) a w := by
  subst hV
  refine wpList_plain hgd fun K hK => ?_
  have hk' : (k : Int) ≤ (c : Int) := by omega
  unfold Oper.wp execOp
  simp only [ho, Option.map_some, Option.map_none, hx, hy]
  go_simp
  exact hK _ _ h

theorem wpList_sliceFrom (w w0 : World) {ops : Array Oper} {rest : List Oper} {o : Oper} {a : Act} {Q : Exit → Act → World → Prop} (hgd : o.guard = none) (x y : Operand) (ho : o.op = .slice 25 x (some y) none none)
    (A : Option Addr) (m c : Nat) (hx : a.eval x = .slice A m c) (V : Int) (hy : a.eval y = .int .i64 V) (k : Nat) (hV : V = (k : Int)) (hk : k ≤ m) (hm : m ≤ c) (l : List UInt8) (hl : l.length = m) (hr : Rd w0 A (l.map bv))
    (h : ∀ A' c', Rd w0 A' ((l.drop k).map bv) → m - k ≤ c' → c' ≤ c → wpList Try.prog ops Q rest (a.put o.dst (.slice A' (m - k) c')) w) : wpList Try.prog ops Q (o :: rest) a w := by
  subst hV
  refine wpList_plain hgd fun K hK => ?_
  have hk' : (k : Int) ≤ (m : Int) := by omega
  have hc := hr.cut (k := k) (n := m) (c := c) (by rw [List.length_map]; exact hl) hk hm
  rw [← List.map_drop] at hc
  unfold Oper.wp execOp
  simp only [ho, Option.map_some, Option.map_none, hx, hy]
  go_simp
  exact hK _ _ (h _ _ hc (by omega) (by omega))

/-- 'append(v, x)' of one slice, laid in a new block. -/
theorem wpList_appS1 (w : World) {ops : Array Oper} {rest : List Oper} {o : Oper} {a : Act} {Q : Exit → Act → World → Prop} (hgd : o.guard = none) (s x : Operand)
    (ho : o.op = .call { callee := .builtin .append, args := #[s, x], argTypes := #[94, 94] })
    (B : Nat) (v : Value) (vs : List Value) (hs : a.eval s = v) (hown : Own w B 25 v vs) (X : Value) (hx : a.eval x = .slice (some ⟨w.heap.size, 0, none⟩) 1 1) (h1 : X.oneCell' = true)
    (hlen : vs.length + 1 ≤ 1000000000000) (hB : B ≤ w.heap.size)
    (h : ∀ v' w', Own w' B 25 v' (vs ++ [X]) → (w.alloc (.cells #[X] 25)).grownBy w' v.ownBlock → wpList Try.prog ops Q rest (a.put o.dst v') w') : wpList Try.prog ops Q (o :: rest) a (w.alloc (.cells #[X] 25)) := by
  obtain ⟨i0, hi, hz0, hz1, hz2⟩ := info_parts info_sl
  refine wpList_app _ hgd s x 94 ho B 25 i0 (.slice none 0 0) 24 Try.underlying94 hi hz0 hz1 hz2 rfl v vs hs (Own.alloc hown _) _ 1 1 [X] hx rfl (.inr ⟨w.heap.size, 0, rfl, by simp, fun k hk => ?_⟩) (fun u hu => by simp at hu; subst hu; exact h1) (by unfold maxLen; omega) (by omega) (by simp; omega) (fun v' w' g1 g2 _ => h v' w' g1 g2)
  have : k = 0 := by simp at hk; omega
  subst this
  exact cell_of_row _ _ 0 _ _ (0, 0) (heap_alloc_new w _)

/-- The values are slices of these bytes, in the memory of that world. -/
def SlL (w : World) (vs : List Value) (bss : List (List UInt8)) : Prop :=
  vs.length = bss.length ∧ ∀ j (h1 : j < vs.length) (h2 : j < bss.length), ∃ A c, vs[j] = .slice A bss[j].length c ∧ Rd w A (bss[j].map bv) ∧ bss[j].length ≤ c ∧ c ≤ maxLen
theorem SlL.nil_ (w : World) : SlL w [] [] := ⟨rfl, fun j h => absurd h (by simp)⟩
theorem SlL.snoc {w : World} {vs : List Value} {bss : List (List UInt8)} (h : SlL w vs bss) (A : Option Addr) (n c : Nat) (b : List UInt8) (hn : b.length = n) (hr : Rd w A (b.map bv)) (h1 : n ≤ c) (h2 : c ≤ maxLen) : SlL w (vs ++ [.slice A n c]) (bss ++ [b]) := by
  refine ⟨by simp [h.1], fun j g1 g2 => ?_⟩
  rcases Nat.lt_or_ge j vs.length with hj | hj
  · rw [List.getElem_append_left hj]
    obtain ⟨A', c', q1, q2, q3, q4⟩ := h.2 j hj (by have := h.1; omega)
    refine ⟨A', c', ?_, ?_⟩
    · rw [q1, List.getElem_append_left (by have := h.1; omega)]
    · rw [List.getElem_append_left (by have := h.1; omega)]; exact ⟨q2, q3, q4⟩
  · have e : j = vs.length := by simp at g1; omega
    subst e
    have e2 := h.1
    refine ⟨A, c, ?_, ?_⟩
    · simp [e2, hn]
    · simp [e2, hn]; exact ⟨hr, h1, h2⟩
theorem SlL.rds {w w' : World} {B : Nat} {v : Value} {vs : List Value} {bss : List (List UInt8)} (h : SlL w vs bss) (hb : Below w.heap.size w w') (ho : Own w' B 25 v vs) :
    ∃ A c, v = .slice A bss.length c ∧ RdS w' A bss := by
  obtain ⟨A, c, e, q1, q2, q3, q4, _⟩ := Own.form ho
  refine ⟨A, c, by rw [e, h.1], ?_⟩
  rcases Nat.eq_zero_or_pos bss.length with h0 | h0
  · left; exact List.eq_nil_of_length_eq_zero h0
  · obtain ⟨b, off, rfl, hlt, hc⟩ := q3.addr (by rw [h.1]; exact h0)
    refine .inr ⟨b, off, rfl, hlt, fun k hk => ?_⟩
    have hk' : k < vs.length := by rw [h.1]; exact hk
    obtain ⟨Ak, ck, g1, g2, g3, g4⟩ := h.2 k hk' hk
    exact ⟨Ak, ck, by rw [hc k hk', g1], g2.below hb, g3, g4⟩
end Go.Proofs.Ytcffinkkfdfcaaa

/- What the reference's Get answers, with where the item's texts lie. Conditions: a list that can be read. -/
namespace Go.Proofs.Ytcffinkkfdfcaaa
open Go Go.RowKit

set_option maxRecDepth 100000 in
set_option maxHeartbeats 4000000 in
theorem refGet_k (f : Fo) (ok : Nat → Prop) (A : Option Addr) (n c : Nat) (x : Int) (w : World) (hn : f.len = n) (h1 : FoR ok w A 0 f) (hl : n ≤ 2199023255488) :
    Calls Try.prog 75 #[.slice A n c, .int .i64 x] w fun r w' => ∃ d : ItV, r = .returned (.tuple #[d.val, .bool (hasI x f)]) ∧ ItsR ok w' [d] (getI x f) ∧ Below w.heap.size w w' := by
  have HN := Lib.hid hn; clear hn
  have H1 := Lib.hid h1; clear h1
  obtain ⟨B, eB⟩ : ∃ B, B = hasI x f := ⟨_, rfl⟩
  obtain ⟨T, eT⟩ : ∃ T, T = getI x f := ⟨_, rfl⟩
  rw [← eT, ← eB]
  have ET := Lib.hid eT; clear eT
  have EB := Lib.hid eB; clear eB
  obtain ⟨w1, ew1⟩ : ∃ w1, w1 = w.alloc (.cells #[.int .i64 0, .bool false, .bool false, .slice none 0 0, .slice none 0 0] 76) := ⟨_, rfl⟩
  obtain ⟨gr, egr⟩ : ∃ gr, gr = w.heap.size := ⟨_, rfl⟩
  have b1 : Below w.heap.size w w1 := by rw [ew1]; exact (Below.refl _ _).alloc (Nat.le_refl _) _
  have g1 : w1.heap[gr]? = some (.cells ItV.zer.cells.toArray 76 (0, 0)) := by rw [ew1, egr]; exact heap_alloc_new _ _
  have EW1 := Lib.hid ew1
  have EGR := Lib.hid egr
  have B1 := Lib.hid b1
  have G1 := Lib.hid g1
  clear ew1 egr b1 g1
  go_enter Try.func75, Try.ntmps75
  go_upto_region 1 with (fail)
  rw [← EW1.out, ← EGR.out]
  go_wp2_with (fail)
  go_loopw [6] (fun i wr => ∃ (q : Nat) (r : Fo), i = .int .i64 q ∧ Hid (q + r.len = n) ∧ Hid (FoR ok w A q r) ∧ Hid (B = hasI x r) ∧ Hid (T = getI x r) ∧ wr = w1) (fun i _ => n - (intOf i).toNat)
  case atStart => exact ⟨0, f, rfl, Lib.hid (by rw [HN.out]; omega), H1, EB, ET, rfl⟩
  case round =>
    obtain ⟨q, r, rfl, HK, R1, HBr, HTr, ewr⟩ := hrel
    have HB : Hid (Below w.heap.size w wr) := by rw [ewr]; exact B1
    have HG : Hid (wr.heap[gr]? = some (.cells ItV.zer.cells.toArray 76 (0, 0))) := by rw [ewr]; exact G1
    have EWR := Lib.hid ewr
    clear ewr
    obtain ⟨⟨s0, s1, s2, s3, s4⟩, f0, f1, f2, f3, f4⟩ := five_of HG.out
    cases r with
    | nil =>
      have hk : q = n := HK.out
      have hk' : (n : Int) ≤ (q : Int) := by omega
      have eB2 : B = false := HBr.out
      obtain ⟨w8, ew8⟩ : ∃ w8, w8 = set5 wr gr ItV.zer := ⟨_, rfl⟩
      have h8 : w8.heap[gr]? = some (.cells ItV.zer.cells.toArray 76 (0, 0)) := by rw [ew8]; exact set5_heap HG.out _
      have b8 : Below w.heap.size w w8 := by rw [ew8]; exact HB.out.trans ((set5_keeps wr gr ItV.zer).below (fun j hj => ⟨Nat.lt_of_lt_of_le hj HB.out.size, by have := EGR.out; omega⟩))
      obtain ⟨⟨v0, v1, v2, v3, v4⟩, -⟩ := five_of h8
      have B8 := Lib.hid b8
      have EB2 := Lib.hid eB2
      unfold set5 at ew8
      unfold ItV.zer at s0 s1 s2 s3 s4 ew8 v0 v1 v2 v3 v4
      dsimp only at s0 s1 s2 s3 s4 ew8 v0 v1 v2 v3 v4
      have EW8 := Lib.hid ew8
      clear hk eB2 ew8 h8 b8
      go_wp2_with (fail)
      rw [← EW8.out]
      refine bodyPost_ret (v := .tuple #[.agg #[.int .i64 0, .bool false, .bool false, .slice none 0 0, .slice none 0 0], .bool false]) (by simp [results, Try.results75, go_sem, v0, v1, v2, v3, v4]) rfl ?_
      rw [EB2.out]
      exact ⟨ItV.zer, rfl, by rw [HTr.out]; exact ItsR.one (TxtO.nil_ _ _).r rfl trivial (Nat.le_refl _) (Nat.zero_le _) (by simp [Fo.len]), B8.out⟩
    | cons z cr li bs sub rest =>
      obtain ⟨⟨b1, o1, At, m, cm, As1, e1, eA, hb1, -, ⟨c0, ca, cb, cc, cd⟩, tt, ss1, l1, l2, l3⟩, r1⟩ := R1.out.one
      subst eA
      have hlt : q < n := by have := HK.out; simp only [Fo.len] at this; omega
      have kb := HB.out
      have TT := Lib.hid tt
      have S1 := Lib.hid ss1
      have R1b := Lib.hid r1
      rw [← kb.cell (p := ⟨b1, _, none⟩) hb1] at c0 ca cb cc cd
      have HKb : Hid (q + 1 + rest.len = n) := Lib.hid (by have := HK.out; simp only [Fo.len] at this; omega)
      obtain ⟨sl, esl⟩ : ∃ sl, sl = sub.len := ⟨_, rfl⟩
      rw [← esl] at cd l1 l3
      have ESL := Lib.hid esl
      have L1 := Lib.hid l1
      have L2 := Lib.hid l2
      have hlt' : (q : Int) < (n : Int) := by omega
      clear tt ss1 r1 esl HK R1 kb l1 l2
      by_cases hin : z = x
      · have d0 : (z == x) = true := by rw [hin]; exact beq_self_eq_true _
        have hB : B = true := HBr.out.trans (if_pos hin)
        have hT : T = .cons z cr li bs sub .nil := HTr.out.trans (if_pos hin)
        have HB' := Lib.hid hB
        have HT' := Lib.hid hT
        clear hin hB hT
        obtain ⟨w8, ew8⟩ : ∃ w8, w8 = set5 wr gr ⟨z, cr, li, At, m, cm, As1, sl, e1⟩ := ⟨_, rfl⟩
        have h8 : w8.heap[gr]? = some (.cells (ItV.cells ⟨z, cr, li, At, m, cm, As1, sl, e1⟩).toArray 76 (0, 0)) := by rw [ew8]; exact set5_heap HG.out _
        have k8 : Keeps (fun j => j = gr) wr w8 := by rw [ew8]; exact set5_keeps _ _ _
        have b8 : Below w.heap.size w w8 := HB.out.trans (k8.below (fun j hj => ⟨Nat.lt_of_lt_of_le hj HB.out.size, by have := EGR.out; omega⟩))
        have ho8 : ItsR ok w8 [⟨z, cr, li, At, m, cm, As1, sl, e1⟩] (.cons z cr li bs sub .nil) :=
          ItsR.one (TT.out.frame (fun j _ hj => b8.block j hj) b8.size) ESL.out (S1.out.below b8) L1.out L2.out (by rw [← ESL.out]; exact l3)
        have HO8 := Lib.hid ho8
        obtain ⟨⟨v0, v1, v2, v3, v4⟩, -⟩ := five_of h8
        have B8 := Lib.hid b8
        unfold set5 at ew8
        unfold ItV.zer at s0 s1 s2 s3 s4
        dsimp only at s0 s1 s2 s3 s4 ew8 v0 v1 v2 v3 v4
        have EW8 := Lib.hid ew8
        clear ew8 h8 b8 k8 ho8
        go_wp2_with (fail)
        rw [← EW8.out]
        refine bodyPost_ret (v := .tuple #[.agg #[.int .i64 z, .bool cr, .bool li, .slice At m cm, .slice As1 sl e1], .bool true]) (by simp [results, Try.results75, go_sem, v0, v1, v2, v3, v4]) rfl ?_
        rw [HB'.out, HT'.out]
        exact ⟨⟨z, cr, li, At, m, cm, As1, sl, e1⟩, rfl, HO8.out, B8.out⟩
      · have d0 : (z == x) = false := by rw [beq_eq_false_iff_ne]; exact hin
        have hB : B = hasI x rest := HBr.out.trans (if_neg hin)
        have hT : T = getI x rest := HTr.out.trans (if_neg hin)
        have HB' := Lib.hid hB
        have HT' := Lib.hid hT
        clear hin hB hT s0 s1 s2 s3 s4 f0 f1 f2 f3 f4
        go_wp2_with (fail)
        go_roundw
        case rel => exact ⟨q + 1, rest, by go_num, HKb, R1b, HB', HT', EWR.out⟩
        case measure => simp [intOf]; omega
end Go.Proofs.Ytcffinkkfdfcaaa

/- What the reference's sizes answers: the bytes of the items of the kinds 1 and up, or an error. Conditions: bytes and sizes that can be read. -/
namespace Go.Proofs.Ytcffinkkfdfcaaa
open Go Go.RowKit

def szE (bs : List UInt8) (zs : List Nat) : Nat := (szG (opS bs zs.length) zs).2.err
def szL (bs : List UInt8) (zs : List Nat) : List (List UInt8) := (szG (opS bs zs.length) zs).1
def nI (zs : List Nat) : List Int := List.map (fun z : Nat => (z : Int)) zs
/-- The values are slices of these bytes, in blocks of a kind. -/
def SlT (ok : Nat → Prop) (w : World) (vs : List Value) (bss : List (List UInt8)) : Prop :=
  vs.length = bss.length ∧ ∀ j (h1 : j < vs.length) (h2 : j < bss.length), ∃ A c, vs[j] = .slice A bss[j].length c ∧ TxtR ok w A bss[j].length c bss[j]
theorem SlT.nil_ (ok : Nat → Prop) (w : World) : SlT ok w [] [] := ⟨rfl, fun j h => absurd h (by simp)⟩
theorem SlT.frame {ok : Nat → Prop} {w w' : World} {vs : List Value} {bss : List (List UInt8)} (h : SlT ok w vs bss) (hk : ∀ k, ok k → k < w.heap.size → w'.heap[k]? = w.heap[k]?) (hs : w.heap.size ≤ w'.heap.size) : SlT ok w' vs bss :=
  ⟨h.1, fun j h1 h2 => by
    obtain ⟨A, c, q1, q2⟩ := h.2 j h1 h2
    exact ⟨A, c, q1, q2.frame hk hs⟩⟩
theorem SlT.snoc {ok : Nat → Prop} {w : World} {vs : List Value} {bss : List (List UInt8)} (h : SlT ok w vs bss) (A : Option Addr) (n c : Nat) (b : List UInt8) (ht : TxtR ok w A n c b) : SlT ok w (vs ++ [.slice A n c]) (bss ++ [b]) := by
  refine ⟨by simp [h.1], fun j g1 g2 => ?_⟩
  rcases Nat.lt_or_ge j vs.length with hj | hj
  · rw [List.getElem_append_left hj]
    obtain ⟨A', c', q1, q2⟩ := h.2 j hj (by have := h.1; omega)
    refine ⟨A', c', ?_, ?_⟩
    · rw [q1, List.getElem_append_left (by have := h.1; omega)]
    · rw [List.getElem_append_left (by have := h.1; omega)]; exact q2
  · have e : j = vs.length := by simp at g1; omega
    subst e
    have e2 := h.1
    refine ⟨A, c, ?_, ?_⟩
    · simp [e2, ht.1]
    · simp only [e2, List.getElem_concat_length]; rw [ht.1]; exact ht
theorem SlT.l {ok : Nat → Prop} {w : World} {vs : List Value} {bss : List (List UInt8)} (h : SlT ok w vs bss) : SlL w vs bss :=
  ⟨h.1, fun j h1 h2 => by
    obtain ⟨A, c, q1, -, q2, q3, q4, -⟩ := h.2 j h1 h2
    exact ⟨A, c, q1, q2, q3, q4⟩⟩
theorem ItsR.parts {ok : Nat → Prop} {w : World} {d : ItV} {I : Fo} (h : ItsR ok w [d] I) : d.li = itL I ∧ TxtR ok w d.A d.n d.c (itB I) ∧ FoR ok w d.As 0 (itS I) ∧ d.ns = (itS I).len ∧ (itS I).len ≤ d.cs ∧ d.cs ≤ maxLen ∧ (itS I).len ≤ 2199023255488 := by
  cases I with
  | nil => cases h
  | cons k cr li bs sub rest =>
    obtain ⟨d', ds', e, h1, h2, h3, h4, ⟨h5, h6, h7, h8, h9⟩, -⟩ := h
    injection e with e1 e2
    subst e1
    exact ⟨h3, h4, h6, h5, h7, h8, h9⟩
theorem szG_step {s : FS} {zs : List Nat} {q : Nat} (hq : q < zs.length) : szG s (zs.drop q) = (byB s zs[q] :: (szG (byS s zs[q]) (zs.drop (q + 1))).1, (szG (byS s zs[q]) (zs.drop (q + 1))).2) := by
  rw [List.drop_eq_getElem_cons hq]; rfl
/-- How far the reference has come: the state, the bytes so far. -/
structure SzI (s0 : FS) (zs : List Nat) (q : Nat) (s : FS) (done : List (List UInt8)) : Prop where
  eq : szG s0 zs = (done ++ (szG s (zs.drop q)).1, (szG s (zs.drop q)).2)
  len : done.length = q
  l : s.l = s0.l
  at_ : s.at_ = q
  err : s.err = 0
theorem SzI.start {s0 : FS} {zs : List Nat} (h : s0.err = 0) (ha : s0.at_ = 0) : SzI s0 zs 0 s0 [] := ⟨by simp, rfl, rfl, ha, h⟩
theorem SzI.next {s0 s : FS} {zs : List Nat} {q : Nat} {done : List (List UInt8)} (h : SzI s0 zs q s done) (hq : q < zs.length) (he : (byS s zs[q]).err = 0) : SzI s0 zs (q + 1) (byS s zs[q]) (done ++ [byB s zs[q]]) :=
  ⟨by rw [h.eq, szG_step hq]; simp, by simp [h.len], by rw [byS_l, h.l], by rw [byS_at, h.at_], he⟩
theorem SzI.bad {s0 s : FS} {zs : List Nat} {q e : Nat} {done : List (List UInt8)} (h : SzI s0 zs q s done) (hq : q < zs.length) (he : (byS s zs[q]).err = e) (h0 : e ≠ 0) : (szG s0 zs).2.err = e := by
  rw [h.eq, szG_step hq]
  show (szG (byS s zs[q]) (zs.drop (q + 1))).2.err = e
  rw [szG_sticks _ _ (by rw [he]; exact h0), he]
theorem SzI.fin {s0 s : FS} {zs : List Nat} {q : Nat} {done : List (List UInt8)} (h : SzI s0 zs q s done) (hq : q = zs.length) : (szG s0 zs).1 = done ∧ (szG s0 zs).2.err = 0 := by
  have e : zs.drop q = [] := by rw [hq]; simp
  rw [h.eq, e]
  exact ⟨by simp [szG], h.err⟩
set_option maxRecDepth 100000 in
set_option maxHeartbeats 4000000 in
theorem sizes_c (bs : List UInt8) (A : Option Addr) (n c : Nat) (zs : List Nat) (As : Option Addr) (nz cs : Nat) (w : World) (hn : bs.length = n) (hr : Rd w A (bs.map bv)) (hc : n ≤ c) (hcm : c ≤ maxLen) (hl : n ≤ 140737488355328) (hz : RdI w As (nI zs)) (hnz : zs.length = nz) (hk : nz ≤ 10) (hzz : ∀ z ∈ zs, z ≤ 1000) :
    Calls Try.prog 52 #[.slice A n c, .slice As nz cs] w fun r w' => ∃ v, r = .returned (.tuple #[v, .int .i64 (szE bs zs : Int)]) ∧ (szE bs zs = 0 → ∃ X cX, v = .slice X nz cX ∧ RdS w' X (szL bs zs)) ∧ Below w.heap.size w w' := by
  have HN := Lib.hid hn
  have HR := Lib.hid hr
  have HC := Lib.hid hc
  have HCM := Lib.hid hcm
  have HZ := Lib.hid hz
  have HNZ := Lib.hid hnz
  have HZZ := Lib.hid hzz
  obtain ⟨E, eE⟩ : ∃ E, szE bs zs = E := ⟨_, rfl⟩
  obtain ⟨L, eL⟩ : ∃ L, szL bs zs = L := ⟨_, rfl⟩
  rw [eE, eL]
  have HE := Lib.hid eE
  have HLL := Lib.hid eL
  clear hn hr hc hcm hz hnz hzz eE eL
  go_enter Try.func52, Try.ntmps52
  go_wp2_with (fail)
  refine (refDecodeT_c bs A n c w HN.out HR.out HC.out HCM.out hl).mono ?_
  rintro _ w1 ⟨v1, rfl, ho, hb⟩
  obtain ⟨A1, c1, rfl, -, -, r1⟩ := ho.form (n := (decT bs).2.len) rfl
  obtain ⟨D, eD⟩ : ∃ D, (decT bs).1 = D := ⟨_, rfl⟩
  obtain ⟨L1, eL1⟩ : ∃ L1, (decT bs).2 = L1 := ⟨_, rfl⟩
  have hsz : L1.size ≤ 64 := by rw [← eL1]; exact decT_size bs
  rw [eL1] at r1
  rw [eD, eL1]
  have HS0 : Hid (opS bs zs.length = knS L1 nz D) := Lib.hid (by unfold opS; rw [eD, eL1, HNZ.out])
  have R1 := Lib.hid r1
  have HB1 := Lib.hid hb
  have HSZ := Lib.hid hsz
  clear ho hb r1 eD eL1 hsz
  by_cases h0 : D = 0
  · have d0 : ((D : Int) != 0) = false := by rw [h0]; rfl
    have H0 := Lib.hid h0
    clear h0
    obtain ⟨w2, ew2⟩ : ∃ w2, w2 = w1.alloc (.cells #[] 3) := ⟨_, rfl⟩
    have b2 : Below w1.heap.size w1 w2 := by rw [ew2]; exact (Below.refl _ _).alloc (Nat.le_refl _) _
    have HO2 : Hid (OwnZ w2 w1.heap.size (.slice (some ⟨w1.heap.size, 0, none⟩) 0 0) (kindsL 0)) := Lib.hid (by rw [ew2]; exact World.ownsRow_made w1 #[] 0 (Nat.le_refl _) (Nat.zero_le _) rfl)
    have K12 := Lib.hid b2
    have EW2 := Lib.hid ew2
    clear ew2 b2
    go_upto_region 5 with (fail)
    rw [← EW2.out]
    go_wp2_with (fail)
    go_loopw [8, 25] (fun v i wr => ∃ q : Nat, q ≤ nz ∧ i = .int .i64 q ∧ Hid (OwnZ wr w1.heap.size v (kindsL q)) ∧ Hid (Below w1.heap.size w1 wr)) (fun _ i _ => nz - (intOf i).toNat)
    case atStart => exact ⟨0, by omega, rfl, HO2, K12⟩
    case round =>
      obtain ⟨q, hq, rfl, HO, HB⟩ := hrel
      have hsz : w1.heap.size ≤ wr.heap.size := HB.out.size
      by_cases hlt : q < nz
      · have hlt' : (q : Int) < (nz : Int) := by omega
        go_wp2_with (first | (at_builtin; refine wpList_appZ1 wr rfl (.tmp 28) (.tmp 31) rfl w1.heap.size u8 (kindsL q) rfl HO.out _ rfl ((q : Int) + 1) rfl (by rw [kindsL_len]; omega) hsz ?_; intro v' w' h1 h2; have HO2 := Lib.hid h1; have HB2 := Lib.hid (HB.out.trans h2); clear h1 h2))
        go_roundw
        case rel => exact ⟨q + 1, by omega, by go_num, Lib.hid (by rw [kindsL_succ]; exact HO2.out), HB2⟩
        case measure => simp [intOf]; omega
      · obtain rfl : nz = q := by omega
        obtain ⟨Ak, ck, rfl, hc1, hc2, rk⟩ := HO.out.form
        rw [kindsL_len]
        have RK := Lib.hid rk
        clear rk hc1 hc2
        have HBr : Hid (Below w.heap.size w wr) := Lib.hid (HB1.out.trans (HB.out.mono HB1.out.size))
        have RR := Lib.hid (R1.out.below HB.out)
        go_wp2_with (fail)
        refine (refPick_c L1 _ A1 _ c1 Ak nz ck (kindsL nz) wr rfl RR.out (by have := Fo.len_le L1; have := HSZ.out; omega) (kindsL_len nz) RK.out (by omega)).mono ?_
        rintro _ w3 ⟨v3, rfl, ho3, hb3⟩
        obtain ⟨E3, eE3⟩ : ∃ E3, (pickT (kindsL nz) L1).1 = E3 := ⟨_, rfl⟩
        obtain ⟨L3, eL3⟩ : ∃ L3, (pickT (kindsL nz) L1).2 = L3 := ⟨_, rfl⟩
        have hsz3 : L3.size ≤ 64 := by rw [← eL3]; exact Nat.le_trans (pickT_size _ _) HSZ.out
        have hl3 := Fo.len_le L3
        rw [eL3] at ho3
        rw [eE3]
        have HS3 : Hid (opS bs zs.length = ⟨L3, 0, E3⟩) := Lib.hid (by rw [HS0.out, knS, if_neg (by rw [H0.out]; simp), eE3, eL3])
        obtain ⟨A3, c3, rfl, -, -, r3⟩ := ho3.form (n := L3.len) rfl
        have HB3 : Hid (Below w.heap.size w w3) := Lib.hid (HBr.out.trans (hb3.mono (Nat.le_trans HB1.out.size hsz)))
        have R3 : Hid (FoR (· < w3.heap.size) w3 A3 0 L3) := Lib.hid (r3.weak (fun _ _ h => h))
        have HL3 : Hid (L3.len ≤ 64) := Lib.hid (by omega)
        clear ho3 hb3 r3 eE3 eL3 hsz3 hl3
        by_cases h3 : E3 = 0
        · have d3 : ((E3 : Int) != 0) = false := by rw [h3]; rfl
          have hS3 : opS bs zs.length = ⟨L3, 0, 0⟩ := HS3.out.trans (by rw [h3])
          have HSS := Lib.hid hS3
          clear h3 hS3
          obtain ⟨w4, ew4⟩ : ∃ w4, w4 = w3.alloc (.cells #[] 25) := ⟨_, rfl⟩
          have HO4 : Hid (Own w4 w3.heap.size 25 (.slice (some ⟨w3.heap.size, 0, none⟩) 0 0) []) := Lib.hid (by rw [ew4]; exact World.ownsRow_made w3 #[] 0 (Nat.le_refl _) (Nat.zero_le _) rfl)
          have HB4 : Hid (Below w3.heap.size w3 w4) := Lib.hid (by rw [ew4]; exact (Below.refl _ _).alloc (Nat.le_refl _) _)
          have EW4 := Lib.hid ew4
          clear ew4
          go_upto_region 14 with (fail)
          rw [← EW4.out]
          go_wp2_with (fail)
          go_loopw [10, 46] (fun v i wr => ∃ (q : Nat) (s : FS) (done : List (List UInt8)) (vs : List Value), q ≤ nz ∧ i = .int .i64 q ∧ Hid (SzI ⟨L3, 0, 0⟩ zs q s done) ∧ Hid (Own wr w3.heap.size 25 v vs) ∧ Hid (SlT (· < w3.heap.size) wr vs done ∧ vs.length = q) ∧ Hid (Below w3.heap.size w3 wr)) (fun _ i _ => nz - (intOf i).toNat)
          case atStart => exact ⟨0, ⟨L3, 0, 0⟩, [], [], by omega, rfl, Lib.hid (SzI.start rfl rfl), HO4, Lib.hid ⟨SlT.nil_ _ _, rfl⟩, HB4⟩
          case round =>
            obtain ⟨wo, rfl⟩ : ∃ wo, wo = wr := ⟨_, rfl⟩
            obtain ⟨q, s, done, vs, hq, rfl, HI, HO5, HSL, HB5⟩ := hrel
            have hz5 : w3.heap.size ≤ wo.heap.size := HB5.out.size
            by_cases hlt : q < nz
            · have hlt' : (q : Int) < (nz : Int) := by omega
              have hqz : q < zs.length := by rw [HNZ.out]; exact hlt
              obtain ⟨Bq, eB⟩ : ∃ Bq, nxB s = Bq := ⟨_, rfl⟩
              obtain ⟨I, eI⟩ : ∃ I, nxI s = I := ⟨_, rfl⟩
              have eB2 : hasI ((q : Int) + 1) L3 = Bq := by rw [← eB]; unfold nxB; rw [if_pos HI.out.err, HI.out.at_, HI.out.l]; rfl
              have eI2 : getI ((q : Int) + 1) L3 = I := by rw [← eI]; unfold nxI; rw [if_pos HI.out.err, HI.out.at_, HI.out.l]; rfl
              have HEB := Lib.hid eB
              have HEI := Lib.hid eI
              have HEB2 := Lib.hid eB2
              have HEI2 := Lib.hid eI2
              have HQZ := Lib.hid hqz
              clear eB eI eB2 eI2 hqz
              go_wp2_with (fail)
              refine (refGet_k L3 (· < w3.heap.size) A3 _ c3 ((q : Int) + 1) wo rfl (R3.out.frame (fun j _ hj => HB5.out.block j hj) hz5) (by have := HL3.out; omega)).mono ?_
              rintro _ w5 ⟨⟨dk, dc, dl, dA, dn, dcc, dAs, dns, dcs⟩, rfl, ho6, hb6⟩
              unfold ItV.val
              dsimp only
              rw [HEI2.out] at ho6
              rw [HEB2.out]
              obtain ⟨hli, ht, -⟩ := ho6.parts
              dsimp only at hli ht
              obtain ⟨gx, egx⟩ : ∃ gx, gx = w5.heap.size := ⟨_, rfl⟩
              obtain ⟨w6, ew6⟩ : ∃ w6, w6 = w5.alloc (.cells #[.int .i64 dk, .bool dc, .bool dl, .slice dA dn dcc, .slice dAs dns dcs] 76) := ⟨_, rfl⟩
              have b6 : Below w5.heap.size w5 w6 := by rw [ew6]; exact (Below.refl _ _).alloc (Nat.le_refl _) _
              have hx6 : w6.heap[gx]? = some (.cells (ItV.cells ⟨dk, dc, dl, dA, dn, dcc, dAs, dns, dcs⟩).toArray 76 (0, 0)) := by rw [ew6, egx]; exact heap_alloc_new _ _
              have hb56 : Below wo.heap.size wo w6 := hb6.trans (b6.mono hb6.size)
              have HX6 := Lib.hid hx6
              have HT6 := Lib.hid (ht.frame (w' := w6) (fun j _ hj => b6.block j hj) b6.size)
              have HB6 := Lib.hid (HB5.out.trans (hb56.mono hz5))
              have HO6 := Lib.hid (Own.below HO5.out hb56)
              have HSL6 := Lib.hid (HSL.out.1.frame (fun j _ hj => hb56.block j hj) hb56.size)
              have HBW : Hid (Below w.heap.size w w6) := Lib.hid (HB3.out.trans (HB6.out.mono HB3.out.size))
              have HLI := Lib.hid hli
              have EW6 := Lib.hid ew6
              have EGX := Lib.hid egx
              clear ho6 hb6 ht egx ew6 b6 hx6 hb56 hli
              go_upto_region 18 with (fail)
              rw [← EW6.out, ← EGX.out]
              cases Bq with
              | false =>
                have hE : E = 12 := by
                  rw [← HE.out]; unfold szE; rw [HSS.out]
                  refine HI.out.bad HQZ.out ?_ (by decide)
                  unfold byS
                  rw [if_neg (by rw [HEB.out]; simp)]
                  show (if s.err = 0 ∧ nxB s = false ∧ true = true then 12 else s.err) = 12
                  rw [if_pos ⟨HI.out.err, HEB.out, rfl⟩]
                have EE := Lib.hid hE
                clear hE
                go_wp2_with (fail)
                go_ret2
                rw [EE.out]
                exact ⟨_, rfl, fun h => absurd h (by decide), HBW.out⟩
              | true =>
                obtain ⟨z, ez⟩ : ∃ z, zs[q]? = some z := ⟨zs[q]'HQZ.out, by rw [List.getElem?_eq_getElem HQZ.out]⟩
                have ez' : zs[q]'HQZ.out = z := by rw [List.getElem?_eq_getElem HQZ.out] at ez; injection ez
                have hz1000 : z ≤ 1000 := HZZ.out z (List.mem_of_getElem? ez)
                obtain ⟨bz, oz, rfl, hbz, hcz⟩ : ∃ b off, As = some ⟨b, off, none⟩ ∧ b < w.heap.size ∧ w.cell? ⟨b, off + q, none⟩ = some (.int .i64 (z : Int)) := by
                  rcases HZ.out with h | ⟨b, off, e, hb, hc⟩
                  · exfalso
                    have := congrArg List.length h
                    simp [nI, HNZ.out] at this; omega
                  · refine ⟨b, off, e, hb, ?_⟩
                    rw [hc q (by simp [nI, HNZ.out]; exact hlt)]
                    simp [nI, ez']
                have hcz6 : w6.cell? ⟨bz, oz + q, none⟩ = some (.int .i64 (z : Int)) := (HBW.out.cell (p := ⟨bz, _, none⟩) hbz).trans hcz
                obtain ⟨⟨x0, x1, x2, x3, x4⟩, -⟩ := five_of HX6.out
                dsimp only at x0 x1 x2 x3 x4
                have hdn := HT6.out.1
                have hbyS : ∀ X, (itL I || !decide ((itB I).length = z)) = X → byS s (zs[q]'HQZ.out) = badS (nxS s true) X := by
                  intro X hX
                  unfold byS
                  rw [if_pos HEB.out, HEI.out, ez', hX]
                have h0n : (nxS s true).err = 0 := nxS_ok HEB.out
                have HBY := Lib.hid hbyS
                have H0N := Lib.hid h0n
                have HDN := Lib.hid hdn
                have EZ := Lib.hid ez'
                have HZ1 := Lib.hid hz1000
                clear ez ez' hz1000 hcz hdn hbyS h0n x0 x1 x4
                by_cases hbad : dl = true ∨ dn ≠ z
                · have hE : E = 3 := by
                    rw [← HE.out]; unfold szE; rw [HSS.out]
                    refine HI.out.bad HQZ.out ?_ (by decide)
                    rw [HBY.out true (by
                      rcases hbad with h | h
                      · rw [← HLI.out, h]; rfl
                      · rw [decide_eq_false (by rw [HDN.out]; exact h)]; simp)]
                    simp [badS, H0N.out]
                  have EE := Lib.hid hE
                  clear hE
                  have hb2 : dl = true ∨ dl = false ∧ dn ≠ z := by
                    cases dl with
                    | true => exact .inl rfl
                    | false => exact .inr ⟨rfl, by rcases hbad with h | h; cases h; exact h⟩
                  clear hbad
                  rcases hb2 with q1 | ⟨q1, q2⟩
                  · subst q1
                    go_wp2_with (fail)
                    go_quiet (fail)
                    go_wp2_with (fail)
                    go_ret2
                    rw [EE.out]
                    exact ⟨_, rfl, fun h => absurd h (by decide), below_drewN HBW.out _⟩
                  · subst q1
                    have d5 : ((dn : Int) != (z : Int)) = true := by rw [bne_iff_ne]; omega
                    clear q2
                    go_wp2_with (fail)
                    go_quiet (fail)
                    go_wp2_with (fail)
                    go_ret2
                    rw [EE.out]
                    exact ⟨_, rfl, fun h => absurd h (by decide), below_drewN HBW.out _⟩
                · obtain ⟨q1, q2⟩ : dl = false ∧ dn = z := by
                    cases dl with
                    | true => exact absurd (.inl rfl) hbad
                    | false =>
                      refine ⟨rfl, ?_⟩
                      rcases Nat.decEq dn z with h | h
                      · exact absurd (.inr h) hbad
                      · exact h
                  subst q1 q2
                  clear hbad
                  have d5 : ((dn : Int) != (dn : Int)) = false := by simp
                  have hby : byS s (zs[q]'HQZ.out) = nxS s true := by rw [HBY.out false (by rw [← HLI.out, decide_eq_true HDN.out]; rfl)]; simp [badS]
                  have hbb : byB s (zs[q]'HQZ.out) = itB I := by
                    unfold byB
                    rw [if_pos ⟨HEB.out, by rw [HEI.out]; exact HLI.out.symm, by rw [HEI.out, EZ.out]; exact HDN.out⟩, HEI.out]
                  have HIN : Hid (SzI ⟨L3, 0, 0⟩ zs (q + 1) (nxS s true) (done ++ [itB I])) := Lib.hid (by
                    have := HI.out.next HQZ.out (by rw [hby]; exact H0N.out)
                    rw [hby, hbb] at this; exact this)
                  clear hby hbb
                  have HSN := Lib.hid (HSL6.out.snoc dA dn dcc (itB I) HT6.out)
                  have HVL : Hid (vs.length ≤ 10) := Lib.hid (by have := HSL.out.2; omega)
                  go_wp2_with (fail)
                  go_quiet (fail)
                  have hz6 : w3.heap.size ≤ (w6.drewN nq).heap.size := HB6.out.size
                  go_wp2_with (first | (at_builtin; refine wpList_appS1 (w6.drewN nq) rfl (.tmp 70) (.tmp 73) rfl w3.heap.size u10 vs rfl (Own.drewN HO6.out nq) _ rfl rfl (by have := HVL.out; omega) hz6 ?_; intro v7 w7 ho7 hg7; have HO7 := Lib.hid ho7; have hb7 := ((Below.refl w3.heap.size (w6.drewN nq)).alloc hz6 (.cells #[.slice dA dn dcc] 25)).grown hg7 (by simp; exact Nat.le_succ_of_le hz6) (fun k e => (Own.lt HO6.out k e).1); have HB7 := Lib.hid ((below_drewN HB6.out nq).trans hb7); have HSL7 := Lib.hid (And.intro (HSN.out.frame (w' := w7) (fun j hj _ => hb7.block j hj) hb7.size) (show (vs ++ [Value.slice dA dn dcc]).length = q + 1 by rw [List.length_append, HSL.out.2]; rfl)); clear ho7 hg7 hb7))
                  go_roundw
                  case rel => exact ⟨q + 1, nxS s true, done ++ [itB I], vs ++ [.slice dA dn dcc], by omega, by go_num, HIN, HO7, HSL7, HB7⟩
                  case measure => simp [intOf]; omega
            · obtain rfl : nz = q := by omega
              obtain ⟨f1, f2⟩ := HI.out.fin HNZ.out.symm
              obtain ⟨X, cX, rfl, hX⟩ := HSL.out.1.l.rds (Below.refl _ _) HO5.out
              have hE : E = 0 := by rw [← HE.out]; unfold szE; rw [HSS.out]; exact f2
              have hL : L = done := by rw [← HLL.out]; unfold szL; rw [HSS.out]; exact f1
              have hdl : done.length = nz := HI.out.len
              rw [hdl]
              have EE := Lib.hid hE
              have EL := Lib.hid hL
              have HXX := Lib.hid hX
              have HBW := Lib.hid (HB3.out.trans (HB5.out.mono HB3.out.size))
              clear f1 f2 hE hL hX hdl
              go_wp2_with (fail)
              go_ret2
              rw [EE.out, EL.out]
              exact ⟨_, rfl, fun _ => ⟨_, _, rfl, HXX.out⟩, HBW.out⟩
        · have d3 : ((E3 : Int) != 0) = true := by rw [bne_iff_ne]; omega
          have eE : E = E3 := by rw [← HE.out]; unfold szE; rw [HS3.out, szG_sticks _ _ h3]
          have EE := Lib.hid eE
          have HD := Lib.hid h3
          clear eE h3
          go_wp2_with (fail)
          go_ret2
          rw [EE.out]
          exact ⟨_, rfl, fun h => absurd h HD.out, HB3.out⟩
  · have d0 : ((D : Int) != 0) = true := by rw [bne_iff_ne]; omega
    have eE : E = D := by rw [← HE.out]; unfold szE; rw [HS0.out, szG_sticks _ _ (by unfold knS; rw [if_pos h0]; exact h0)]; unfold knS; rw [if_pos h0]
    have EE := Lib.hid eE
    have HD := Lib.hid h0
    clear eE h0
    go_wp2_with (fail)
    go_ret2
    rw [EE.out]
    exact ⟨_, rfl, fun h => absurd h HD.out, HB1.out⟩
end Go.Proofs.Ytcffinkkfdfcaaa

/- What the reference's number answers. Conditions: at most eight bytes, to be read. -/
namespace Go.Proofs.Ytcffinkkfdfcaaa
open Go Go.RowKit

theorem beN_take_succ {bs : List UInt8} {k : Nat} (h : k < bs.length) : beN (bs.take (k + 1)) = beN (bs.take k) * 256 + bs[k].toNat := by
  rw [List.take_succ_eq_append_getElem h, beN_snoc]
def U56 (n : Nat) : Prop := n < 72057594037927936
theorem U56.step {n x : Nat} (h : U56 n) (hx : x < 256) : IntKind.u64.wrap (IntKind.u64.wrap ((n : Int) * 256) + (x : Int)) = ((n * 256 + x : Nat) : Int) := by
  unfold U56 at h
  unfold IntKind.wrap
  simp [IntKind.bits, IntKind.signed]
  omega
theorem beN_u56 {bs : List UInt8} {k : Nat} (hk : k < bs.length) (h : bs.length ≤ 8) : U56 (beN (bs.take k)) := by
  have := beN_lt (bs.take k)
  rw [List.length_take, Nat.min_eq_left (by omega)] at this
  unfold U56
  exact Nat.lt_of_lt_of_le this (Nat.le_trans (Nat.pow_le_pow_right (by decide) (by omega : k ≤ 7)) (by decide))
set_option maxRecDepth 100000 in
set_option maxHeartbeats 1000000 in
theorem refNumber_c (bs : List UInt8) (A : Option Addr) (n c : Nat) (w : World) (hn : bs.length = n) (hr : Rd w A (bs.map bv)) (h8 : n ≤ 8) :
    Calls Try.prog 53 #[.slice A n c] w fun r w' => r = .returned (.int .u64 (beN bs : Int)) ∧ w = w' := by
  have HN := Lib.hid hn
  have HR := Lib.hid hr
  obtain ⟨V, eV⟩ : ∃ V, beN bs = V := ⟨_, rfl⟩
  rw [eV]
  have HV := Lib.hid eV
  clear hn hr eV
  go_enter Try.func53, Try.ntmps53
  go_wp2_with (fail)
  go_loop [3, 7] (fun v i => ∃ q : Nat, q ≤ n ∧ i = .int .i64 q ∧ v = .int .u64 (beN (bs.take q) : Nat)) (fun _ i => n - (intOf i).toNat)
  case atStart => exact ⟨0, by omega, rfl, rfl⟩
  case round =>
    obtain ⟨q, hq, rfl, rfl⟩ := hrel
    obtain ⟨X, eX⟩ : ∃ X, beN (bs.take q) = X := ⟨_, rfl⟩
    rw [eX]
    by_cases hlt : q < n
    · have hlt' : (q : Int) < (n : Int) := by omega
      have hqb : q < bs.length := by rw [HN.out]; exact hlt
      obtain ⟨b, off, rfl, hb, hc⟩ := HR.out.addrB (by omega)
      have c0 := hc q hqb
      obtain ⟨x, ex⟩ : ∃ x, bs[q].toNat = x := ⟨_, rfl⟩
      unfold bv at c0
      rw [ex] at c0
      have hx : x < 256 := by rw [← ex]; exact bs[q].toNat_lt
      have hstep := U56.step (n := X) (x := x) (by rw [← eX]; exact beN_u56 hqb (by rw [HN.out]; exact h8)) hx
      have hnext : beN (bs.take (q + 1)) = X * 256 + x := by rw [beN_take_succ hqb, eX, ex]
      have HST := Lib.hid hstep
      have HNX := Lib.hid hnext
      clear hstep hnext ex eX hc hqb
      go_wp2_with (fail)
      go_round
      case rel => exact ⟨q + 1, by omega, by go_num, by rw [HNX.out, ← HST.out]⟩
      case measure => simp [intOf]; omega
    · obtain rfl : n = q := by omega
      have hX : X = V := by rw [← eX, ← HV.out, ← HN.out, List.take_length]
      have HX := Lib.hid hX
      clear hX eX
      go_wp2_with (fail)
      go_ret
      exact ⟨by rw [HX.out]; rfl, rfl⟩
end Go.Proofs.Ytcffinkkfdfcaaa
