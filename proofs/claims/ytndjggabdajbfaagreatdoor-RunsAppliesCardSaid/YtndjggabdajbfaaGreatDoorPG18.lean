/- Parts one behind the other: What the layer wire's and its reference's Text answer: how many bytes there are, and these; What runs.lay answers: the diff by runs; Regions whose appends of bytes stand in a chain beside operations that float: the bytes that come are known; what each operation yields stays true as they come; An append of a text in such a chain; one byte laid; What rows.lay answers: the diff by rows; Tools for the walks over screens: sound screens, an answer in memory of its own, Same, a cell turned; What Full and Encode (16) answer, the code's and the reference's; What Full and Encode (17) answer; Plain: from a screen to itself with another cursor no row is told; the chapter's example by rows; What law 16's great and fixed answer. Conditions: as told at each. -/
import Derived.Test.YtndjggabdajbfaaGreatDoorPG15
import Derived.Test.YtndjggabdajbfaaGreatDoorPG17
import Derived.Test.YtndjggabdajbfaaGreatDoorPG8
import Derived.Deep.DeepCutAuto
import Derived.Test.YtndjggabdajbfaaGreatDoorPG4
import Derived.Test.YtndjggabdajbfaaGreatDoorPG1
import Derived.Laws.Append
import Derived.Test.YtndjggabdajbfaaGreatDoorPG11
import Derived.Lib.AppendStr
import Derived.Test.YtndjggabdajbfaaGreatDoorPG16
import Derived.Test.YtndjggabdajbfaaGreatDoorPG12
import Derived.Test.YtndjggabdajbfaaGreatDoorPG14
import Derived.Test.YtndjggabdajbfaaGreatDoorPG13

set_option linter.unusedVariables false
set_option linter.unusedSimpArgs false
/- What the layer wire's and its reference's Text answer: how many bytes there are, and these. Conditions: lengths that fit. -/
namespace Go.Proofs.YtndjggabdajbfaaGreatDoor
open Go Go.RowKit

/-! ### Text -/
set_option maxRecDepth 100000 in
set_option maxHeartbeats 400000 in
theorem Text_c (A : Option Addr) (n c : Nat) (bs : List UInt8) (w : World) (hn : bs.length = n) (hr : Rd w A (bs.map bv)) (hl : n ≤ 140737488355000) :
    Calls Tryz.prog 50 #[.slice A n c] w fun e w' => ∃ v, e = .returned (.tuple #[v, .int .i64 (if n ≤ 4096 then 0 else 4)]) ∧ OwnB w' w.heap.size v (if n ≤ 4096 then varL n ++ bs else []) ∧ Below w.heap.size w w' := by
  have HN := Lib.hid hn; clear hn
  rcases Nat.lt_or_ge 4096 n with h | h
  · have e1 : (if n ≤ 4096 then varL n ++ bs else []) = [] := if_neg (by omega)
    have e2 : (if n ≤ 4096 then (0 : Int) else 4) = 4 := if_neg (by omega)
    rw [e1, e2]
    clear e1 e2
    go_enter Tryz.func50, Tryz.ntmps50
    go_wp2
    go_ret2
    exact ⟨_, rfl, Own.nil_ _ _ _, Below.refl _ _⟩
  · have e1 : (if n ≤ 4096 then varL n ++ bs else []) = varL n ++ bs := if_pos (by omega)
    have e2 : (if n ≤ 4096 then (0 : Int) else 4) = 0 := if_pos (by omega)
    rw [e1, e2]
    clear e1 e2
    have hu : U64 n := Nat.lt_of_le_of_lt h (by decide)
    have hv := varL_len10 hu
    go_enter Tryz.func50, Tryz.ntmps50
    go_wp2_with (first | (go_at_call 70; refine (Var_c _ _ hu).mono ?_; rintro e w1 ⟨v, rfl, ho, hb⟩; have hz := hb.size) | (at_builtin; refine wpList_appB _ rfl (.tmp 10) (.tmp 11) rfl w.heap.size _ (varL n) rfl ho A n c bs rfl HN.out (hr.below hb) (by omega) (by omega) ?_; intro v' w2 h1 h2 h3; have H1 := Lib.hid h1; clear h1))
    go_wp2
    go_ret2
    exact ⟨_, rfl, H1.out, hb.grown h2 (by omega) (fun k hk => (ho.lt k hk).1)⟩

end Go.Proofs.YtndjggabdajbfaaGreatDoor



/- What runs.lay answers: the diff by runs. Conditions: the second screen fits, the first has as many cells. -/
namespace Go.Proofs.YtndjggabdajbfaaGreatDoor
open Go Go.RowKit Go.Lib

/-- Bytes stay readable while another slice's own block grows. -/
theorem rd_apart {w w' : World} {v : Value} {A : Option Addr} {vs : List Value} {k : Nat} (hr : Rd w A vs) (hg : w.grownBy w' v.ownBlock) (hk : ∀ q, v.ownBlock = some q → q < k) (hA : ∀ a, A = some a → k ≤ a.block) : Rd w' A vs :=
  hr.of_blocks (fun b _ ⟨off, e⟩ => hg.block b (by assumption) (fun e2 => by have h1 := hk b e2.symm; have h2 := hA _ e; simp only at h2; omega)) hg.size
theorem bv_three : Value.int .u8 3 = bv 3 := by kernel_rfl
set_option maxRecDepth 100000 in
set_option maxHeartbeats 16000000 in
theorem lay17_c (a b : ScD) (A1 : Option Addr) (n1 c1 : Nat) (L1 : Option Addr) (m1 k1 : Nat) (A : Option Addr) (n c : Nat) (L : Option Addr) (m cm : Nat) (C R : Nat) (w : World)
    (ha : ScR w a A1 n1 c1 L1 m1 k1) (hb : ScR w b A n c L m cm) (hf : Fit17 b C R) (hce : ∀ d ∈ b.cells, CeOk d) (hal : a.cells.length = C * R) (hm : 0 ≤ b.mouse) :
    Calls Tryz.prog 31 #[.agg (scC a A1 n1 c1 L1 m1 k1), .agg (scC b A n c L m cm)] w fun e w' => ∃ v, e = .returned v ∧ OwnB w' w.heap.size v (lay17 a b) ∧ Below w.heap.size w w' ∧ (lay17 a b).length ≤ 200000 := by
  have hnn : n1 = n := by rw [← ha.hn, ← hb.hn, hal, hf.len]
  subst hnn
  obtain ⟨X, eX⟩ : ∃ X, X = scC a A1 n1 c1 L1 m1 k1 := ⟨_, rfl⟩
  obtain ⟨Y, eY⟩ : ∃ Y, Y = scC b A n1 c L m cm := ⟨_, rfl⟩
  rw [← eX, ← eY]
  obtain ⟨Z, eZ⟩ : ∃ Z, lay17 a b = Z := ⟨_, rfl⟩
  rw [eZ]
  have EZ := Lib.hid eZ
  obtain ⟨W0, eW0⟩ : ∃ W0, W0 = (w.alloc (.cells X 25)).alloc (.cells Y 25) := ⟨_, rfl⟩
  obtain ⟨p, ep⟩ : ∃ p, p = w.heap.size := ⟨_, rfl⟩
  obtain ⟨q, eq⟩ : ∃ q, q = w.heap.size + 1 := ⟨_, rfl⟩
  have hb0 : Below w.heap.size w W0 := by rw [eW0]; exact ((Below.refl _ _).alloc (Nat.le_refl _) _).alloc (by simp) _
  have HP0 : Hid (ScB W0 p a A1 n1 c1 L1 m1 k1) := Lib.hid (by rw [eW0, ep, eX]; exact (Below.heap_alloc _ _ _ (by simp)).trans (heap_alloc_new _ _))
  have HQ0 : Hid (ScB W0 q b A n1 c L m cm) := Lib.hid (by rw [eW0, eq, eY]; exact heap_alloc2_new _ _ _)
  have EW0 := Lib.hid eW0
  have EP := Lib.hid ep
  have EQ := Lib.hid eq
  have HB0 := Lib.hid hb0
  have HRA := Lib.hid (ha.below hb0)
  have HRB := Lib.hid (hb.below hb0)
  have HF := Lib.hid hf
  have HCE : Hid (∀ d ∈ b.cells, CeOk d ∧ 0 ≤ d.r ∧ d.r ≤ 1114111) := Lib.hid (fun d hd => ⟨hce d hd, by have := hf.rune d hd; omega, (hf.rune d hd).2⟩)
  have HMO := Lib.hid hm
  obtain ⟨B0, eB0⟩ : ∃ B, B = W0.heap.size := ⟨_, rfl⟩
  have HB00 : Hid (w.heap.size ≤ B0 ∧ p < B0 ∧ q < B0) := Lib.hid (by rw [eB0]; exact ⟨hb0.size, heap_lt HP0.out, heap_lt HQ0.out⟩)
  have EB0 := Lib.hid eB0
  have HN : Hid (n1 ≤ 1920 ∧ a.cells.length = n1 ∧ b.cells.length = n1) := Lib.hid ⟨by rw [← hb.hn, hf.len]; exact Nat.mul_le_mul hf.c2 hf.r2, ha.hn, hb.hn⟩
  obtain ⟨X0, eX0⟩ : ∃ x : Nat, b.x = (x : Int) := ⟨b.x.toNat, by have := hf.x0; omega⟩
  obtain ⟨Y0, eY0⟩ : ∃ y : Nat, b.y = (y : Int) := ⟨b.y.toNat, by have := hf.y0; omega⟩
  obtain ⟨M0, eM0⟩ : ∃ y : Nat, b.mouse = (y : Int) := ⟨b.mouse.toNat, by omega⟩
  have HXY : Hid (X0 < 80 ∧ Y0 < 24 ∧ M0 ≤ 2 ∧ b.title.size ≤ 64) := Lib.hid (by have h1 := hf.x1; have h2 := hf.y1; have h3 := hf.mo; have h4 := hf.c2; have h5 := hf.r2; have h6 := hf.tl; omega)
  obtain ⟨d1, e1⟩ : ∃ t, (b.x != a.x) = t := ⟨_, rfl⟩
  obtain ⟨d2, e2⟩ : ∃ t, (b.y != a.y) = t := ⟨_, rfl⟩
  obtain ⟨d3, e3⟩ : ∃ t, (b.hid != a.hid) = t := ⟨_, rfl⟩
  obtain ⟨d4, e4⟩ : ∃ t, (b.mouse != a.mouse) = t := ⟨_, rfl⟩
  obtain ⟨T, eT⟩ : ∃ t, (d1 || (d2 || d3)) = t := ⟨_, rfl⟩
  obtain ⟨TE, eTE⟩ : ∃ t, (b.title.toList == a.title.toList) = t := ⟨_, rfl⟩
  have HCU : Hid (curB a b = if T then 2 :: (varL X0 ++ (varL Y0 ++ [if b.hid then 1 else 0])) else []) := Lib.hid (by unfold curB; rw [e1, e2, e3, eT, eX0, eY0]; rfl)
  have HTI : Hid (titB17 a b = if TE then [] else 3 :: (varL b.title.size ++ strB b.title)) := Lib.hid (by unfold titB17; rw [eTE])
  have HMU : Hid (mouB a b = if d4 then [4, lo M0] else []) := Lib.hid (by unfold mouB; rw [e4, eM0]; rfl)
  have HCL : Hid ((curB a b).length ≤ 31) := Lib.hid (by
    have h1 := HXY.out
    have h2 := varL_len10 (n := X0) (u64_small (by omega))
    have h3 := varL_len10 (n := Y0) (u64_small (by omega))
    rw [HCU.out]
    split
    · simp only [List.length_cons, List.length_append, List.length_nil]; omega
    · simp)
  have HTL : Hid ((titB17 a b).length ≤ 80) := Lib.hid (by
    have h1 := HXY.out
    have h2 := varL_len10 (n := b.title.size) (u64_small (by omega))
    rw [HTI.out]
    split
    · simp
    · simp only [List.length_cons, List.length_append, strB_len]; omega)
  have HML : Hid ((mouB a b).length ≤ 2) := Lib.hid (by rw [HMU.out]; split <;> simp)
  have HT := Lib.hid eT
  have E3 : Hid ((b.hid == a.hid) = !d3) := Lib.hid (by rw [← e3, bne, Bool.not_not])
  have HTE := Lib.hid eTE
  have EX0 := Lib.hid eX0
  have EY0 := Lib.hid eY0
  have EM0 := Lib.hid eM0
  have E4 := Lib.hid e4
  clear eX eY eZ eW0 ep eq hb0 ha hb hf hce hal hm eB0 eX0 eY0 eM0 e4 eT eTE
  go_enter Tryz.func31, Tryz.ntmps31
  go_upto_region 2 with (fail)
  rw [← EW0.out, ← EQ.out, ← EP.out]
  have x3 : W0.cell? ⟨q, 3, none⟩ = some (.int .i64 b.x) := HQ0.out.nine.2.2.2.1
  have x4 : W0.cell? ⟨q, 4, none⟩ = some (.int .i64 b.y) := HQ0.out.nine.2.2.2.2.1
  have x5 : W0.cell? ⟨q, 5, none⟩ = some (.bool b.hid) := HQ0.out.nine.2.2.2.2.2.1
  have y3 : W0.cell? ⟨p, 3, none⟩ = some (.int .i64 a.x) := HP0.out.nine.2.2.2.1
  have y4 : W0.cell? ⟨p, 4, none⟩ = some (.int .i64 a.y) := HP0.out.nine.2.2.2.2.1
  have y5 : W0.cell? ⟨p, 5, none⟩ = some (.bool a.hid) := HP0.out.nine.2.2.2.2.2.1
  go_cut [29] (fun s29 wx => s29 = .bool T ∧ Hid (wx = W0))
  case first =>
    cases d1 <;> cases d2 <;> cases d3 <;>
    · go_wp2_with (fail)
      go_meet
      refine ⟨?_, Lib.hid rfl⟩
      first | exact congrArg Value.bool HT.out | exact congrArg Value.bool ((congrArg not E3.out).trans HT.out)
  case rest =>
  obtain ⟨rfl, hwc⟩ := hcut
  obtain rfl := hwc.out.symm
  clear hwc x3 x4 x5 y3 y4 y5 e1 e2 e3 E3
  go_upto_if 29 with (fail)
  go_cut [5] (fun s5 wx => Hid (OwnB wx B0 s5 (curB a b)) ∧ Hid (Below B0 W0 wx))
  case first =>
    cases T
    · have HE : Hid (curB a b = []) := Lib.hid (by rw [HCU.out]; rfl)
      go_wp2_with (fail)
      go_meet
      exact ⟨Lib.hid (by rw [HE.out]; exact Own.nil_ _ _ _), Lib.hid (Below.refl _ _)⟩
    · have x3 : W0.cell? ⟨q, 3, none⟩ = some (.int .i64 (X0 : Int)) := by rw [← EX0.out]; exact HQ0.out.nine.2.2.2.1
      have x4 : W0.cell? ⟨q, 4, none⟩ = some (.int .i64 (Y0 : Int)) := by rw [← EY0.out]; exact HQ0.out.nine.2.2.2.2.1
      have x5 : W0.cell? ⟨q, 5, none⟩ = some (.bool b.hid) := HQ0.out.nine.2.2.2.2.2.1
      obtain ⟨H, eH⟩ : ∃ H : Nat, H = if b.hid then 1 else 0 := ⟨_, rfl⟩
      have HH : Hid (H ≤ 1 ∧ (b.hid = true → H = 1) ∧ (b.hid = false → H = 0)) := Lib.hid (by rw [eH]; cases b.hid <;> simp)
      obtain ⟨ns, ens⟩ : ∃ ns : List Nat, ns = [X0, Y0, H] := ⟨_, rfl⟩
      have HNS : Hid (ns.length = 3 ∧ (∀ x ∈ ns, x < 2 ^ 63) ∧ (varsL ns).length ≤ 30) := Lib.hid (by
        have h1 := HXY.out; have h2 := HH.out.1
        have h3 : ∀ x ∈ ns, x < 2 ^ 63 := by
          intro x hx
          rw [ens] at hx
          simp only [List.mem_cons, List.not_mem_nil, or_false] at hx
          rcases hx with rfl | rfl | rfl <;> omega
        refine ⟨by rw [ens]; rfl, h3, ?_⟩
        have h4 := varsL_le ns (fun x hx => by have := h3 x hx; unfold U64; omega)
        rw [ens] at h4 ⊢
        simp only [List.length_cons, List.length_nil] at h4
        omega)
      have HE : Hid (curB a b = lo 2 :: varsL ns) := Lib.hid (by
        rw [HCU.out, ens, eH]
        have hv1 : varL 1 = [1] := by kernel_rfl
        have hv0 : varL 0 = [0] := by kernel_rfl
        cases b.hid
        · simp only [varsL, List.flatMap_cons, List.flatMap_nil, Bool.false_eq_true, if_false, if_true, hv0, List.append_nil]; rfl
        · simp only [varsL, List.flatMap_cons, List.flatMap_nil, if_true, hv1, List.append_nil]; rfl)
      have HRL : Hid (Rd (W0.alloc (.cells #[.int .i64 (X0 : Int), .int .i64 (Y0 : Int), .int .i64 (H : Int)] 3)) (some ⟨W0.heap.size, 0, none⟩) (ns.map nv)) := Lib.hid (rd_nums W0 ns _ _ (by rw [ens]; rfl))
      have HKA : Hid (Below B0 W0 (W0.alloc (.cells #[.int .i64 (X0 : Int), .int .i64 (Y0 : Int), .int .i64 (H : Int)] 3))) := Lib.hid (by rw [EB0.out]; exact (Below.refl _ _).alloc (Nat.le_refl _) _)
      have HKS : Hid (B0 ≤ (W0.alloc (.cells #[.int .i64 (X0 : Int), .int .i64 (Y0 : Int), .int .i64 (H : Int)] 3)).heap.size) := Lib.hid (by rw [EB0.out]; exact HKA.out.size)
      clear eH ens
      cases hh : b.hid
      · obtain rfl : H = 0 := HH.out.2.2 hh
        rw [hh] at x5
        clear hh
        go_wp2_with (first
          | (go_at_call 49; (refine (put17_c 2 (by decide) (some ⟨W0.heap.size, 0, none⟩) 3 3 ns _ HNS.out.1 HRL.out (by decide) HNS.out.2.1).mono ?_); rintro _ w6 ⟨v6, rfl, ho6, hb6⟩; obtain ⟨A6, c6, rfl, _, _, r6, _⟩ := OwnB.form ho6; have R6 := Lib.hid r6; have HK6 := Lib.hid (HKA.out.trans (hb6.mono HKS.out)); have s6 : B0 ≤ w6.heap.size := (by rw [EB0.out]; exact HK6.out.size); clear ho6 hb6 r6)
          | (at_builtin; refine wpList_appB _ rfl (.tmp 32) (.tmp 39) rfl B0 (.slice none 0 0) [] rfl (Own.nil_ _ _ _) A6 _ c6 (lo 2 :: varsL ns) rfl rfl R6.out (by have := HNS.out.2.2; simp only [List.length_cons, List.length_nil]; omega) s6 ?_; intro v8 w8 h8 hg8 _; have HO8 := Lib.hid h8; have HK8 := Lib.hid (HK6.out.grown hg8 s6 (fun q e => by cases e)); clear h8 hg8))
        go_meet
        exact ⟨Lib.hid (by rw [HE.out]; exact HO8.out), HK8⟩
      · obtain rfl : H = 1 := HH.out.2.1 hh
        rw [hh] at x5
        clear hh
        go_wp2_with (first
          | (go_at_call 49; (refine (put17_c 2 (by decide) (some ⟨W0.heap.size, 0, none⟩) 3 3 ns _ HNS.out.1 HRL.out (by decide) HNS.out.2.1).mono ?_); rintro _ w6 ⟨v6, rfl, ho6, hb6⟩; obtain ⟨A6, c6, rfl, _, _, r6, _⟩ := OwnB.form ho6; have R6 := Lib.hid r6; have HK6 := Lib.hid (HKA.out.trans (hb6.mono HKS.out)); have s6 : B0 ≤ w6.heap.size := (by rw [EB0.out]; exact HK6.out.size); clear ho6 hb6 r6)
          | (at_builtin; refine wpList_appB _ rfl (.tmp 32) (.tmp 39) rfl B0 (.slice none 0 0) [] rfl (Own.nil_ _ _ _) A6 _ c6 (lo 2 :: varsL ns) rfl rfl R6.out (by have := HNS.out.2.2; simp only [List.length_cons, List.length_nil]; omega) s6 ?_; intro v8 w8 h8 hg8 _; have HO8 := Lib.hid h8; have HK8 := Lib.hid (HK6.out.grown hg8 s6 (fun q e => by cases e)); clear h8 hg8))
        go_meet
        exact ⟨Lib.hid (by rw [HE.out]; exact HO8.out), HK8⟩
  case rest =>
  obtain ⟨W5, eW_⟩ : ∃ x, x = wc := ⟨_, rfl⟩
  rw [← eW_] at hcut ⊢
  obtain ⟨HO5, HK5⟩ := hcut
  clear eW_
  obtain ⟨V5, eV_⟩ : ∃ V, V = u5 := ⟨_, rfl⟩
  rw [← eV_] at HO5 ⊢
  clear eV_
  obtain ⟨O5, eO_⟩ : ∃ O, O = curB a b := ⟨_, rfl⟩
  rw [← eO_] at HO5
  have EO5 := Lib.hid eO_
  have HS5 : Hid (B0 ≤ W5.heap.size) := Lib.hid (by rw [EB0.out]; exact HK5.out.size)
  have HL5 : Hid (O5.length ≤ 31) := Lib.hid (by rw [eO_]; exact HCL.out)
  clear eO_
  have HQ5 : Hid (ScB W5 q b A n1 c L m cm) := Lib.hid ((HK5.out.block q HB00.out.2.2).trans HQ0.out)
  have HP5 : Hid (ScB W5 p a A1 n1 c1 L1 m1 k1) := Lib.hid ((HK5.out.block p HB00.out.2.1).trans HP0.out)
  have x7 : W5.cell? ⟨q, 7, none⟩ = some (.string b.title) := HQ5.out.nine.2.2.2.2.2.2.2.1
  have y7 : W5.cell? ⟨p, 7, none⟩ = some (.string a.title) := HP5.out.nine.2.2.2.2.2.2.2.1
  have eTE := HTE.out
  go_upto_if 45 with (fail)
  clear y7 eTE x7
  go_cut [5] (fun s5 wx => Hid (OwnB wx B0 s5 (O5 ++ titB17 a b)) ∧ Hid (Below B0 W0 wx))
  case first =>
    cases TE
    rotate_left
    · have HE : Hid (O5 ++ titB17 a b = O5) := Lib.hid (by rw [HTI.out, if_pos rfl, List.append_nil])
      go_wp2_with (fail)
      go_meet
      exact ⟨Lib.hid (by rw [HE.out]; exact HO5.out), HK5⟩
    · have HE : Hid ((O5 ++ [3]) ++ (varL b.title.size ++ strB b.title) = O5 ++ titB17 a b) := Lib.hid (by rw [HTI.out, if_neg (by decide), List.append_assoc]; rfl)
      have x7 : W5.cell? ⟨q, 7, none⟩ = some (.string b.title) := HQ5.out.nine.2.2.2.2.2.2.2.1
      obtain ⟨tb, etb⟩ : ∃ tb, tb = varL b.title.size ++ strB b.title := ⟨_, rfl⟩
      have HTB : Hid (tb.length ≤ 74) := Lib.hid (by have := HXY.out.2.2.2; have h := varL_len10 (n := b.title.size) (u64_small (by omega)); rw [etb, List.length_append, strB_len]; omega)
      rw [← etb] at HE
      have ETB := Lib.hid etb
      clear etb
      go_upto_region 9 with (first
        | (with_reducible refine wpList_convB _ rfl (.tmp 48) rfl b.title rfl (by have := HXY.out.2.2.2; omega) ?_; intro A6 c6 w6 hr6 _ _ hb6; have HR6 := Lib.hid hr6; have HB6 := Lib.hid hb6; clear hr6 hb6)
        | (go_at_call 50; (refine (Text_c A6 b.title.size c6 (strB b.title) w6 (strB_len _) HR6.out (by have := HXY.out.2.2.2; omega)).mono ?_); rintro _ w7 ⟨v7, rfl, ho7, hb7⟩; rw [if_pos (show b.title.size ≤ 4096 by have := HXY.out.2.2.2; omega), ← ETB.out] at ho7; rw [if_pos (show b.title.size ≤ 4096 by have := HXY.out.2.2.2; omega)]; obtain ⟨A7, c7, rfl, _, _, r7, f7⟩ := OwnB.form ho7; have R7 := Lib.hid r7; have F7 := Lib.hid f7; have HO7 := Lib.hid ((HO5.out.below HB6.out).below hb7); have HD7 : Hid (∀ k, V5.ownBlock = some k → k < w6.heap.size) := Lib.hid (fun k e => Nat.lt_of_lt_of_le (Own.lt HO5.out k e).2 HB6.out.size); have HK7 := Lib.hid (HK5.out.trans ((HB6.out.trans (hb7.mono HB6.out.size)).mono HS5.out)); have s7 : B0 ≤ w7.heap.size := (by rw [EB0.out]; exact HK7.out.size); clear ho7 hb7 r7 f7))
      clear x7
      go_wp2_with (first
        | (at_builtin; (refine wpList_appB1 _ rfl (.tmp 53) (.tmp 54) rfl B0 V5 O5 rfl HO7.out (.int .u8 3) rfl 3 bv_three (by have := HL5.out; omega) s7 ?_); intro v9 w9 h9 hg9 hv9; have ha9 : Below w7.heap.size w7 (w7.alloc (.cells #[.int .u8 3] 5)) := (Below.refl _ _).alloc (Nat.le_refl _) _; have hk9 : Below B0 w7 w9 := ((Below.refl _ _).alloc s7 _).grown hg9 (Nat.le_trans s7 (by simp)) (fun k e => (Own.lt HO7.out k e).1); have HO9 := Lib.hid h9; have HK9 := Lib.hid (HK7.out.trans hk9); have s9 : B0 ≤ w9.heap.size := (by rw [EB0.out]; exact HK9.out.size); have R9 : Hid (Rd w9 A7 (tb.map bv)) := Lib.hid (rd_apart (R7.out.below ha9) hg9 HD7.out (fun a e => (F7.out a e).1)); clear h9 hg9 hk9 ha9 hv9)
        | (at_builtin; (refine wpList_appB _ rfl (.tmp 55) (.tmp 56) rfl B0 v9 _ rfl HO9.out A7 _ c7 tb rfl rfl R9.out (by have := HL5.out; have := HTB.out; simp only [List.length_append, List.length_cons, List.length_nil]; omega) s9 ?_); intro v8 w8 h8 hg8 _; have HO8 := Lib.hid h8; have HK8 := Lib.hid (HK9.out.grown hg8 s9 (fun q e => (Own.lt HO9.out q e).1)); clear h8 hg8))
      go_meet
      exact ⟨Lib.hid (by rw [← HE.out]; exact HO8.out), HK8⟩
  case rest =>
  obtain ⟨W6, eW_⟩ : ∃ x, x = wc := ⟨_, rfl⟩
  rw [← eW_] at hcut ⊢
  obtain ⟨HO6, HK6⟩ := hcut
  clear eW_
  obtain ⟨V6, eV_⟩ : ∃ V, V = u5 := ⟨_, rfl⟩
  rw [← eV_] at HO6 ⊢
  clear eV_
  obtain ⟨O6, eO_⟩ : ∃ O, O = O5 ++ titB17 a b := ⟨_, rfl⟩
  rw [← eO_] at HO6
  have EO6 := Lib.hid eO_
  have HS6 : Hid (B0 ≤ W6.heap.size) := Lib.hid (by rw [EB0.out]; exact HK6.out.size)
  have HL6 : Hid (O6.length ≤ 120) := Lib.hid (by rw [eO_]; rw [List.length_append]; have := HL5.out; have := HTL.out; omega)
  clear eO_
  have HQ6 : Hid (ScB W6 q b A n1 c L m cm) := Lib.hid ((HK6.out.block q HB00.out.2.2).trans HQ0.out)
  have HP6 : Hid (ScB W6 p a A1 n1 c1 L1 m1 k1) := Lib.hid ((HK6.out.block p HB00.out.2.1).trans HP0.out)
  clear HO5 HK5 HP5 HQ5 HS5
  have x6 : W6.cell? ⟨q, 6, none⟩ = some (.int .u8 (M0 : Int)) := by rw [← EM0.out]; exact HQ6.out.nine.2.2.2.2.2.2.1
  have y6 : W6.cell? ⟨p, 6, none⟩ = some (.int .u8 a.mouse) := HP6.out.nine.2.2.2.2.2.2.1
  have e4 := E4.out
  rw [EM0.out] at e4
  go_upto_if 62 with (fail)
  clear y6 e4 x6
  go_cut [5] (fun s5 wx => Hid (OwnB wx B0 s5 (O6 ++ mouB a b)) ∧ Hid (Below B0 W0 wx))
  case first =>
    cases d4
    · have HE : Hid (O6 ++ mouB a b = O6) := Lib.hid (by rw [HMU.out, if_neg (by decide), List.append_nil])
      go_wp2_with (fail)
      go_meet
      exact ⟨Lib.hid (by rw [HE.out]; exact HO6.out), HK6⟩
    · obtain ⟨ns, ens⟩ : ∃ ns : List Nat, ns = [M0] := ⟨_, rfl⟩
      have HE : Hid (O6 ++ (lo 4 :: varsL ns) = O6 ++ mouB a b) := Lib.hid (by
        rw [ens, HMU.out, if_pos rfl, varsL, List.flatMap_cons, List.flatMap_nil, varL_lo (by have := HXY.out.2.2.1; omega), List.append_nil]; rfl)
      have x6 : W6.cell? ⟨q, 6, none⟩ = some (.int .u8 (M0 : Int)) := by rw [← EM0.out]; exact HQ6.out.nine.2.2.2.2.2.2.1
      have hwm : IntKind.i64.wrap (M0 : Int) = (M0 : Int) := IntWalk.i64_in _ ⟨by omega, by have := HXY.out.2.2.1; omega⟩
      have HX4 : Hid (∀ x ∈ ns, x < 2 ^ 63) := Lib.hid (by rw [ens]; have := HXY.out.2.2.1; intro x hx; rw [List.mem_singleton] at hx; omega)
      have HVL : Hid ((varsL ns).length ≤ 10 ∧ ns.length = 1) := Lib.hid (by have h := varsL_le ns (fun x hx => by have := HX4.out x hx; unfold U64; omega); rw [ens] at h ⊢; exact ⟨by simpa using h, rfl⟩)
      have HRL : Hid (Rd (W6.alloc (.cells #[.int .i64 (M0 : Int)] 3)) (some ⟨W6.heap.size, 0, none⟩) (ns.map nv)) := Lib.hid (rd_nums W6 ns _ _ (by rw [ens]; rfl))
      have hka : Below W6.heap.size W6 (W6.alloc (.cells #[.int .i64 (M0 : Int)] 3)) := (Below.refl _ _).alloc (Nat.le_refl _) _
      have HKA := Lib.hid (HK6.out.trans (hka.mono HS6.out))
      have HKS := Lib.hid (Nat.le_trans HS6.out hka.size)
      have HOA := Lib.hid (HO6.out.below hka)
      clear hka ens
      go_wp2_with (first
          | (go_at_call 49; (refine (put17_c 4 (by decide) (some ⟨W6.heap.size, 0, none⟩) 1 1 ns _ HVL.out.2 HRL.out (by decide) HX4.out).mono ?_); rintro _ w6 ⟨v6, rfl, ho6, hb6⟩; obtain ⟨A6, c6, rfl, _, _, r6, _⟩ := OwnB.form ho6; have R6 := Lib.hid r6; have HKx := Lib.hid (HKA.out.trans (hb6.mono HKS.out)); have s6 : B0 ≤ w6.heap.size := (by rw [EB0.out]; exact HKx.out.size); have HOx := Lib.hid (HOA.out.below hb6); clear ho6 hb6 r6)
          | (at_builtin; refine wpList_appB _ rfl (.tmp 63) (.tmp 68) rfl B0 V6 O6 rfl HOx.out A6 _ c6 (lo 4 :: varsL ns) rfl rfl R6.out (by have := HL6.out; have := HVL.out.1; (try simp only [List.length_cons]); omega) s6 ?_; intro v8 w8 h8 hg8 _; have HO8 := Lib.hid h8; have HK8 := Lib.hid (HKx.out.grown hg8 s6 (fun q e => (Own.lt HOx.out q e).1)); clear h8 hg8))
      go_meet
      exact ⟨Lib.hid (by rw [← HE.out]; exact HO8.out), HK8⟩
  case rest =>
  obtain ⟨W7, eW_⟩ : ∃ x, x = wc := ⟨_, rfl⟩
  rw [← eW_] at hcut ⊢
  obtain ⟨HO7, HK7⟩ := hcut
  clear eW_
  obtain ⟨V7, eV_⟩ : ∃ V, V = u5 := ⟨_, rfl⟩
  rw [← eV_] at HO7 ⊢
  clear eV_
  obtain ⟨O7, eO_⟩ : ∃ O, O = O6 ++ mouB a b := ⟨_, rfl⟩
  rw [← eO_] at HO7
  have EO7 := Lib.hid eO_
  have HS7 : Hid (B0 ≤ W7.heap.size) := Lib.hid (by rw [EB0.out]; exact HK7.out.size)
  have HL7 : Hid (O7.length ≤ 140) := Lib.hid (by rw [eO_]; rw [List.length_append]; have := HL6.out; have := HML.out; omega)
  clear eO_
  have HQ7 : Hid (ScB W7 q b A n1 c L m cm) := Lib.hid ((HK7.out.block q HB00.out.2.2).trans HQ0.out)
  have HP7 : Hid (ScB W7 p a A1 n1 c1 L1 m1 k1) := Lib.hid ((HK7.out.block p HB00.out.2.1).trans HP0.out)
  clear HO6 HK6 HP6 HQ6 HS6
  obtain ⟨RR, eRR⟩ : ∃ RR, runsD a.cells b.cells = RR := ⟨_, rfl⟩
  have ERR := Lib.hid eRR
  clear eRR
  obtain ⟨K, eK⟩ : ∃ K, K = RR.1 := ⟨_, rfl⟩
  have EK := Lib.hid eK
  have x2 : W7.cell? ⟨q, 2, none⟩ = some (.slice A n1 c) := HQ7.out.nine.2.2.1
  have y2 : W7.cell? ⟨p, 2, none⟩ = some (.slice A1 n1 c1) := HP7.out.nine.2.2.1
  have HK70 : Hid (Below W0.heap.size W0 W7) := Lib.hid (by rw [← EB0.out]; exact HK7.out)
  obtain ⟨bK, hbK⟩ : ∃ t, decide (0 < K) = t := ⟨_, rfl⟩
  have HBK := Lib.hid hbK
  have hbK2 : decide ((0 : Int) < (K : Int)) = bK := by rw [← hbK]; exact decide_eq_decide.2 (by omega)
  have HCL : Hid (celB a b = if bK then 5 :: (varL K ++ RR.2) else []) := Lib.hid (by
    unfold celB
    rw [ERR.out, ← eK]
    cases bK
    · have : K = 0 := by simp only [decide_eq_false_iff_not] at hbK; omega
      rw [if_pos this]; rfl
    · have : ¬ K = 0 := by simp only [decide_eq_true_eq] at hbK; omega
      rw [if_neg this]; rfl)
  clear eK
  go_upto_if 79 with (first
    | (go_at_call 51; (refine (layRuns_c A1 c1 a.cells A n1 c b.cells W7 HN.out.2.1 (RdC.below HRA.out.rd HK70.out) HN.out.2.2 (RdC.below HRB.out.rd HK70.out) HN.out.1 HRB.out.nc HCE.out).mono ?_); rintro _ w8 ⟨v8, rfl, ho8, hb8, hl8, hk8⟩; rw [ERR.out] at ho8 hl8 hk8 ⊢; rw [← EK.out] at hk8 ⊢; have HO8 := Lib.hid ho8; have HB8 := Lib.hid hb8; have HL8 := Lib.hid hl8; have HKN := Lib.hid hk8; clear ho8 hb8 hl8 hk8))
  clear x2 y2
  have HO78 := Lib.hid (HO7.out.below HB8.out)
  have HK78 := Lib.hid (HK7.out.trans (HB8.out.mono HS7.out))
  have HS8 : Hid (B0 ≤ w8.heap.size) := Lib.hid (by rw [EB0.out]; exact HK78.out.size)
  have HD7 : Hid (∀ k, V7.ownBlock = some k → k < W7.heap.size) := Lib.hid (fun k e => (Own.lt HO7.out k e).2)
  have EZF : Hid (O7 ++ celB a b = Z) := Lib.hid (by rw [← EZ.out, EO7.out, EO6.out, EO5.out]; unfold lay17; simp only [List.append_assoc])
  go_cut [5] (fun s5 wx => Hid (OwnB wx B0 s5 Z) ∧ Hid (Below B0 W0 wx) ∧ Hid (Z.length ≤ 200000))
  case first =>
    cases bK
    · have HE : Hid (O7 = Z) := Lib.hid (by rw [← EZF.out, HCL.out, if_neg (by decide), List.append_nil])
      go_wp2_with (fail)
      go_meet
      exact ⟨Lib.hid (by rw [← HE.out]; exact HO78.out), HK78, Lib.hid (by rw [← HE.out]; have := HL7.out; omega)⟩
    · obtain ⟨ns, ens⟩ : ∃ ns : List Nat, ns = [K] := ⟨_, rfl⟩
      have HE : Hid ((O7 ++ (lo 5 :: varsL ns)) ++ RR.2 = Z) := Lib.hid (by
        rw [← EZF.out, HCL.out, if_pos rfl, ens, varsL, List.flatMap_cons, List.flatMap_nil, List.append_nil, List.append_assoc]; rfl)
      have HX4 : Hid (∀ x ∈ ns, x < 2 ^ 63) := Lib.hid (by rw [ens]; have := HKN.out; have := HN.out.1; intro x hx; rw [List.mem_singleton] at hx; omega)
      have HVL : Hid ((varsL ns).length ≤ 10 ∧ ns.length = 1) := Lib.hid (by have h := varsL_le ns (fun x hx => by have := HX4.out x hx; unfold U64; omega); rw [ens] at h ⊢; exact ⟨by simpa using h, rfl⟩)
      have HRL : Hid (Rd (w8.alloc (.cells #[.int .i64 (K : Int)] 3)) (some ⟨w8.heap.size, 0, none⟩) (ns.map nv)) := Lib.hid (rd_nums w8 ns _ _ (by rw [ens]; rfl))
      have hka : Below w8.heap.size w8 (w8.alloc (.cells #[.int .i64 (K : Int)] 3)) := (Below.refl _ _).alloc (Nat.le_refl _) _
      have HKA := Lib.hid (HK78.out.trans (hka.mono HS8.out))
      have HKS := Lib.hid (Nat.le_trans HS8.out hka.size)
      have HOA := Lib.hid (HO78.out.below hka)
      obtain ⟨A8, c8, e8, _, _, r8, f8⟩ := OwnB.form HO8.out
      have R8 := Lib.hid (r8.below hka)
      have F8 := Lib.hid f8
      obtain ⟨l8, el8⟩ : ∃ l8, l8 = RR.2.length := ⟨_, rfl⟩
      rw [← el8] at e8
      have EL8 := Lib.hid el8
      subst e8
      clear hka ens r8 f8 el8
      go_wp2_with (first
          | (go_at_call 49; (refine (put17_c 5 (by decide) (some ⟨w8.heap.size, 0, none⟩) 1 1 ns _ HVL.out.2 HRL.out (by decide) HX4.out).mono ?_); rintro _ w6 ⟨v6, rfl, ho6, hb6⟩; obtain ⟨A6, c6, rfl, _, _, r6, _⟩ := OwnB.form ho6; have R6 := Lib.hid r6; have HKx := Lib.hid (HKA.out.trans (hb6.mono HKS.out)); have s6 : B0 ≤ w6.heap.size := (by rw [EB0.out]; exact HKx.out.size); have HOx := Lib.hid (HOA.out.below hb6); have R86 := Lib.hid (R8.out.below hb6); clear ho6 hb6 r6)
          | (at_builtin; refine wpList_appB _ rfl (.tmp 80) (.tmp 83) rfl B0 V7 O7 rfl HOx.out A6 _ c6 (lo 5 :: varsL ns) rfl rfl R6.out (by have := HL7.out; have := HVL.out.1; (try simp only [List.length_cons]); omega) s6 ?_; intro v9 w9 h9 hg9 _; have HO9 := Lib.hid h9; have HK9 := Lib.hid (HKx.out.grown hg9 s6 (fun q e => (Own.lt HOx.out q e).1)); have s9 : B0 ≤ w9.heap.size := (by rw [EB0.out]; exact HK9.out.size); have R9 : Hid (Rd w9 A8 (RR.2.map bv)) := Lib.hid (rd_apart R86.out hg9 HD7.out (fun a e => (F8.out a e).1)); clear h9 hg9)
          | (at_builtin; refine wpList_appB _ rfl (.tmp 84) (.tmp 85) rfl B0 v9 _ rfl HO9.out A8 l8 c8 RR.2 rfl EL8.out.symm R9.out (by have := HL7.out; have := HVL.out.1; have := EL8.out; have := HL8.out; have := HN.out.1; simp only [List.length_append, List.length_cons]; omega) s9 ?_; intro v5 w5 h5 hg5 _; have HO5 := Lib.hid h5; have HK5 := Lib.hid (HK9.out.grown hg5 s9 (fun q e => (Own.lt HO9.out q e).1)); clear h5 hg5))
      go_meet
      exact ⟨Lib.hid (by rw [← HE.out]; exact HO5.out), HK5, Lib.hid (by rw [← HE.out]; have := HL7.out; have := HVL.out.1; have := HL8.out; have := HN.out.1; simp only [List.length_append, List.length_cons]; omega)⟩
  case rest =>
  obtain ⟨HOF, HKF, HZF⟩ := hcut
  have HFIN : Hid (Below w.heap.size w wc) := Lib.hid (HB0.out.trans (HKF.out.mono HB00.out.1))
  go_wp2_with (fail)
  go_ret
  exact ⟨_, rfl, Own.low HOF.out HB00.out.1, HFIN.out, HZF.out⟩
end Go.Proofs.YtndjggabdajbfaaGreatDoor



/- Regions whose appends of bytes stand in a chain beside operations that float: the bytes that come are known; what each operation yields stays true as they come. Conditions: small slices besides. -/
namespace Go.Proofs.YtndjggabdajbfaaGreatDoor
open Go Go.RowKit

section
variable {F : List UInt8} {B L : Nat}
end
/-! ### The law -/
end Go.Proofs.YtndjggabdajbfaaGreatDoor



/- An append of a text in such a chain; one byte laid. Conditions: as there. -/
namespace Go.Proofs.YtndjggabdajbfaaGreatDoor
open Go Go.RowKit

section
variable {F : List UInt8} {B L : Nat}
end
end Go.Proofs.YtndjggabdajbfaaGreatDoor



/- What rows.lay answers: the diff by rows. Conditions: the second screen fits, the first has as many cells. -/
namespace Go.Proofs.YtndjggabdajbfaaGreatDoor
open Go Go.RowKit Go.Lib

end Go.Proofs.YtndjggabdajbfaaGreatDoor



/- Tools for the walks over screens: sound screens, an answer in memory of its own, Same, a cell turned. Conditions: none. -/
namespace Go.Proofs.YtndjggabdajbfaaGreatDoor
open Go Go.RowKit Go.Lib

theorem OwnC.parts {w : World} {B n c : Nat} {A : Option Addr} {ds : List CeD} (h : OwnC w B (.slice A n c) ds) : ds.length = n ∧ RdC w A ds ∧ n ≤ c ∧ (∀ a, A = some a → B ≤ a.block ∧ a.block < w.heap.size ∧ a.off = 0 ∧ a.spot = none) ∧ (A = none → c = 0) := by
  obtain ⟨A2, c2, e, h1, _, h3, h4, h5⟩ := h.form
  injection e with e1 e2 e3
  subst e1 e2 e3
  exact ⟨rfl, h3, h1, h4, h5⟩
theorem OwnT.parts {w : World} {B n c : Nat} {A : Option Addr} {ss : List ByteArray} (h : OwnT w B (.slice A n c) ss) : ss.length = n ∧ RdT w A ss ∧ n ≤ c ∧ (∀ a, A = some a → B ≤ a.block ∧ a.block < w.heap.size ∧ a.off = 0 ∧ a.spot = none) := by
  obtain ⟨A2, c2, e, h1, _, h3, h4⟩ := OwnT.form h
  injection e with e1 e2 e3
  subst e1 e2 e3
  exact ⟨rfl, h3, h1, h4⟩
/-- A screen that is no greater than is gone through, its numbers such as its types hold. -/
structure Sound (s : ScD) : Prop where
  nl : s.cells.length ≤ 60000
  ml : s.links.length ≤ 60000
  us : ∀ u ∈ s.links, u.size ≤ 140737488355328
  ok : okLn s.cells
  tl : s.title.size ≤ 1000000
  col : ∀ d ∈ s.cells, 0 ≤ d.fg ∧ 0 ≤ d.bg
theorem ScO.sound {W : World} {s : ScD} {A : Option Addr} {n c : Nat} {L : Option Addr} {m cm : Nat} (h : ScO W s A n c L m cm) (h1 : n ≤ 60000) (h2 : m ≤ 60000) (h3 : s.title.size ≤ 1000000) : Sound s :=
  ⟨by rw [h.hn]; exact h1, by rw [h.hm]; exact h2, fun u hu => Nat.le_trans (h.us u hu) (by decide), fun d hd => by have := h.ce d hd; exact ⟨this.2.2.2.2.2.1, by have := this.2.2.2.2.2.2; omega⟩, h3, fun d hd => ⟨(h.ce d hd).2.2.1.1, (h.ce d hd).2.2.2.1.1⟩⟩
theorem Sound.read {s : ScD} (h : Sound s) {w : World} {B B' n c m d : Nat} {A L : Option Addr} (hc : OwnC w B (.slice A n c) s.cells) (ht : OwnT w B' (.slice L m d) s.links) : ScR w s A n c L m d := by
  obtain ⟨c1, c2, c3, _⟩ := hc.parts
  obtain ⟨t1, t2, t3, _⟩ := OwnT.parts ht
  exact ⟨c1, c2, c3, by rw [← c1]; exact h.nl, t1, t2, t3, by rw [← t1]; exact h.ml, h.us, h.ok, h.tl⟩
theorem same_c (s t : ScD) (A : Option Addr) (n c : Nat) (L : Option Addr) (m cm : Nat) (B : Option Addr) (k d : Nat) (M : Option Addr) (l dm : Nat) (w : World) (h1 : ScR w s A n c L m cm) (h2 : ScR w t B k d M l dm) :
    Calls Tryz.prog 10 #[.agg (scC s A n c L m cm), .agg (scC t B k d M l dm)] w fun e w' => e = .returned (.bool (sameS s t)) ∧ Below w.heap.size w w' :=
  refSameS_c s A n c L m cm t B k d M l dm w h1.hn h1.rd h1.hm h1.rt h2.hn h2.rd h2.hm h2.rt (by have := h1.nl; omega) (by have := h1.ml; omega)
/-! ### Cells turned -/
theorem cellsC_rune : ∀ (ds : List CeD) (i : Nat) (h : i < ds.length) (x : Int), (cellsC ds).set (i * 6) (.int .i32 x) = cellsC (ds.set i ⟨x, ds[i].w, ds[i].fg, ds[i].bg, ds[i].at_, ds[i].ln⟩)
  | d :: ds, 0, _, x => rfl
  | d :: ds, i + 1, h, x => by
    have ih := cellsC_rune ds i (by simpa using h) x
    have e0 : (i + 1) * 6 - d.cells.length = i * 6 := by simp [CeD.cells]; omega
    rw [cellsC_cons, List.set_append_right _ _ (by simp [CeD.cells]; omega), e0, ih]
    rfl
theorem OwnC.rune {w : World} {B g n c : Nat} {ds : List CeD} (h : OwnC w B (.slice (some ⟨g, 0, none⟩) n c) ds) (i : Nat) (hi : i < ds.length) (x : Int) : OwnC (w.setCell ⟨g, i * 6, none⟩ (.int .i32 x)) B (.slice (some ⟨g, 0, none⟩) n c) (ds.set i ⟨x, ds[i].w, ds[i].fg, ds[i].bg, ds[i].at_, ds[i].ln⟩) := by
  have hl := h.len.1
  have h2 := (h.to_n.stored (i * 6) (.int .i32 x)).1
  rw [cellsC_rune ds i hi x] at h2
  unfold OwnC
  rw [List.length_set, ← hl]
  exact h2
end Go.Proofs.YtndjggabdajbfaaGreatDoor



/- What Full and Encode (16) answer, the code's and the reference's. Conditions: the screens' parts can be read; the tables lie where they were laid. -/
namespace Go.Proofs.YtndjggabdajbfaaGreatDoor
open Go Go.RowKit Go.Lib

theorem blank_sound16 {C R : Nat} (h : fitsI (C : Int) (R : Int) = true) : Sound (blankS C R) := by
  have hn := fitsI_nat h
  obtain ⟨C', R', e1, e2, c1, c2, r1, r2⟩ := hn
  have hm := Nat.mul_le_mul (show C ≤ 80 by omega) (show R ≤ 24 by omega)
  have e : ((C : Int) * (R : Int)).toNat = C * R := by rw [← Int.natCast_mul]; rfl
  have mem : ∀ d ∈ (blankS C R).cells, d = blankD := fun d hd => List.eq_of_mem_replicate hd
  exact ⟨by show (List.replicate ((C : Int) * (R : Int)).toNat blankD).length ≤ 60000; rw [List.length_replicate, e]; omega, Nat.zero_le _, fun u hu => (by cases hu), fun d hd => by rw [mem d hd]; decide, Nat.zero_le _, fun d hd => by rw [mem d hd]; decide⟩
theorem blank_read16 {w : World} {B C R N c : Nat} {A : Option Addr} (hf : fitsI (C : Int) (R : Int) = true) (hN : N = C * R) (h : OwnC w B (.slice A N c) (List.replicate N blankD)) : ScR w (blankS C R) A N c none 0 0 := by
  have e : ((C : Int) * (R : Int)).toNat = N := by rw [← Int.natCast_mul, hN]; rfl
  have h2 : OwnC w B (.slice A N c) (blankS C R).cells := by
    show OwnC w B (.slice A N c) (List.replicate ((C : Int) * (R : Int)).toNat blankD)
    rw [e]; exact h
  exact (blank_sound16 hf).read h2 (World.ownsRow_nil _ 0 _ _)
end Go.Proofs.YtndjggabdajbfaaGreatDoor



/- What Full and Encode (17) answer. Conditions: the screens' parts can be read; the tables lie where they were laid. -/
namespace Go.Proofs.YtndjggabdajbfaaGreatDoor
open Go Go.RowKit Go.Lib

theorem Fit17.fits {s : ScD} {C R : Nat} (h : Fit17 s C R) : fitsI (C : Int) (R : Int) = true := by
  have h1 := h.c1; have h2 := h.c2; have h3 := h.r1; have h4 := h.r2
  simp only [fitsI, Bool.and_eq_true, decide_eq_true_eq]
  omega
/-- Bytes of the own. -/
def Rl.ob (B : Nat) (bs : List UInt8) : Rl := ⟨fun w v => OwnB w B v bs, fun h hb => Own.below h hb⟩
/-- Bytes of the call's own, not too many. -/
def Rl.ownl (B : Nat) (bs : List UInt8) : Rl := ⟨fun w v => OwnB w B v bs ∧ bs.length ≤ 200000, fun h hb => ⟨Own.below h.1 hb, h.2⟩⟩
/-- Numbers in a slice. -/
def Rl.nus (n : Nat) (l : List Nat) : Rl := ⟨fun w v => ∃ X, v = .slice X n n ∧ Rd w X (l.map nv), fun ⟨X, h, r⟩ hb => ⟨X, h, r.below hb⟩⟩
set_option maxRecDepth 100000 in
set_option maxHeartbeats 16000000 in
theorem full17_c (b : ScD) (A : Option Addr) (n c : Nat) (L : Option Addr) (m cm : Nat) (w : World) (hs : ScR w b A n c L m cm) (hc : ∀ d ∈ b.cells, CeOk d) (hm : 0 ≤ b.mouse) (hU : TabU w) :
    Calls Tryz.prog 30 #[.agg (scC b A n c L m cm)] w fun e w' => ∃ v, e = .returned (.tuple #[v, .int .i64 ((full17 b).2 : Int)]) ∧ OwnB w' w.heap.size v (full17 b).1 ∧ Below w.heap.size w w' := by
  obtain ⟨X, eX⟩ : ∃ X, X = scC b A n c L m cm := ⟨_, rfl⟩
  rw [← eX]
  obtain ⟨W0, eW0⟩ : ∃ W0, W0 = w.alloc (.cells X 25) := ⟨_, rfl⟩
  obtain ⟨p, ep⟩ : ∃ p, p = w.heap.size := ⟨_, rfl⟩
  have hb0 : Below w.heap.size w W0 := by rw [eW0]; exact (Below.refl _ _).alloc (Nat.le_refl _) _
  have HP0 : Hid (ScB W0 p b A n c L m cm) := Lib.hid (by rw [eW0, ep, eX]; exact heap_alloc_new _ _)
  have EW0 := Lib.hid eW0
  have EP := Lib.hid ep
  have HB0 := Lib.hid hb0
  have HR0 := Lib.hid (hs.below hb0)
  have HU0 := Lib.hid (hU.next hb0)
  have HCO := Lib.hid hc
  have HMO := Lib.hid hm
  clear hm
  obtain ⟨Z, eZ⟩ : ∃ Z, full17 b = Z := ⟨_, rfl⟩
  rw [eZ]
  unfold full17 at eZ
  clear eX eW0 ep hb0 hs hU hc
  obtain ⟨b1, e1⟩ : ∃ t, fit17 b = t := ⟨_, rfl⟩
  rw [e1] at eZ
  have E1 := Lib.hid e1
  have EZ := Lib.hid eZ
  clear eZ e1
  go_enter Tryz.func30, Tryz.ntmps30
  go_upto_region 1 with (fail)
  rw [← EW0.out, ← EP.out]
  cases b1
  · go_wp2_with (first
      | (refine wpList_load_row rfl 25 (.tmp 1) rfl p rfl 25 _ (0, 0) _ HP0.out Tryz.underlying25 rfl (info_sc.trans rfl) ?_)
      | (go_at_call 14; (refine (fits17_c b A n c L m cm W0 HR0.out  HU0.out).mono ?_); rintro _ w1 ⟨rfl, hb1⟩; rw [E1.out]; have HB1 := Lib.hid (HB0.out.trans (hb1.mono HB0.out.size)); clear hb1))
    go_ret2
    exact ⟨_, by rw [← EZ.out] <;> rfl, by rw [← EZ.out]; exact Own.nil_ _ _ _, HB1.out⟩
  · obtain ⟨C, R, hf⟩ := fit17_of E1.out
    have HF := Lib.hid hf
    have HFI := Lib.hid hf.fits
    obtain ⟨N, eN⟩ : ∃ N, N = C * R := ⟨_, rfl⟩
    have HN := Lib.hid eN
    have HZ : Hid (((lo 1 :: varsL [C, R]) ++ lay17 (blankS C R) b, 0) = Z) := Lib.hid (by rw [← EZ.out, hf.c, hf.r]; simp only [varsL, List.flatMap_cons, List.flatMap_nil, List.append_nil, Int.toNat_natCast, if_true]; rfl)
    clear hf eN
    go_upto_region 4 with (first
      | (refine wpList_load_row rfl 25 (.tmp 1) rfl p rfl 25 _ (0, 0) _ HP0.out Tryz.underlying25 rfl (info_sc.trans rfl) ?_)
      | (go_at_call 14; (refine (fits17_c b A n c L m cm W0 HR0.out  HU0.out).mono ?_); rintro _ w1 ⟨rfl, hb1⟩; rw [E1.out]; have HB1 := Lib.hid (HB0.out.trans (hb1.mono HB0.out.size)); have HR1 := Lib.hid (HR0.out.below hb1); have HP1 := Lib.hid (HP0.out.below hb1); have x0 : w1.cell? ⟨p, 0, none⟩ = some (.int .i64 (C : Int)) := by { rw [← HF.out.c]; exact HP1.out.nine.1 }; have x1 : w1.cell? ⟨p, 1, none⟩ = some (.int .i64 (R : Int)) := by { rw [← HF.out.r]; exact HP1.out.nine.2.1 }; clear hb1)
      | (go_at_call 37; (refine (projBlank_c C R N w1 HFI.out HN.out).mono ?_); rintro _ w2 ⟨A2, c2, rfl, ho2, hb2⟩; have HS2 := Lib.hid (blank_read16 HFI.out HN.out ho2); have HB2 := Lib.hid (HB1.out.trans (hb2.mono HB1.out.size)); have HR2 := Lib.hid (HR1.out.below hb2); have HP2 := Lib.hid (HP1.out.below hb2); clear ho2 hb2)
      | (refine wpList_store_rowTo rfl 25 (.tmp 4) (.tmp 15) rfl rfl w2.heap.size (scC (blankS C R) A2 N c2 none 0 0) rfl rfl 25 _ (heap_alloc_new w2 _) (info_sc.trans rfl) rfl (sc_one _ _ _ _ _ _ _) ?_))
    generalize eX : World.alloc w2 _ = X3
    have hx : Below w2.heap.size w2 X3 := by rw [← eX]; exact (Below.refl _ _).alloc (Nat.le_refl _) _
    obtain ⟨old, hq2⟩ : ∃ old, X3.heap[w2.heap.size]? = some (.cells old 25 (0, 0)) := ⟨_, by rw [← eX]; exact heap_alloc_new _ _⟩
    obtain ⟨g, eg⟩ : ∃ g, g = w2.heap.size := ⟨_, rfl⟩
    obtain ⟨W3, eW3⟩ : ∃ W, W = X3.setRow w2.heap.size (scC (blankS C R) A2 N c2 none 0 0) := ⟨_, rfl⟩
    rw [← eW3, ← eg]
    have HG3 : Hid (ScB W3 g (blankS C R) A2 N c2 none 0 0) := Lib.hid (by rw [eW3, eg]; exact setRow_heap _ _ _ _ _ _ hq2)
    have hb3 : Below w2.heap.size w2 W3 := by rw [eW3]; exact below_setRow hx (Nat.le_refl _) _
    have HB3 := Lib.hid (HB2.out.trans (hb3.mono HB2.out.size))
    have HS3 := Lib.hid (HS2.out.below hb3)
    have HR3 := Lib.hid (HR2.out.below hb3)
    have HP3 := Lib.hid (HP2.out.below hb3)
    have HS3z : Hid (w.heap.size ≤ W3.heap.size) := Lib.hid HB3.out.size
    have HCR : Hid ((∀ x ∈ [C, R], x < 2 ^ 63) ∧ (varsL [C, R]).length ≤ 20) := Lib.hid (by
      have h1 := HF.out.c2; have h2 := HF.out.r2
      have h3 : ∀ x ∈ [C, R], x < 2 ^ 63 := by
        intro x hx
        simp only [List.mem_cons, List.not_mem_nil, or_false] at hx
        rcases hx with rfl | rfl <;> omega
      refine ⟨h3, ?_⟩
      have h4 := varsL_le [C, R] (fun x hx => by have := h3 x hx; unfold U64; omega)
      simpa using h4)
    clear eX hx hq2 eg eW3 hb3 x0 x1
    go_upto_region 4 with (fail)
    refine wp_region_rt 27 9 [Rl.eq (.pointer (some ⟨p, 0, none⟩)), Rl.eq (.int .i64 (C : Int)), Rl.eq (.pointer (some ⟨p, 1, none⟩)), Rl.eq (.int .i64 (R : Int)), Rl.nus 2 [C, R], Rl.ob w.heap.size (lo 1 :: varsL [C, R]), Rl.eq (.agg (scC (blankS C R) A2 N c2 none 0 0)), Rl.eq (.agg (scC b A n c L m cm)), Rl.ownl w.heap.size (lay17 (blankS C R) b)] [17, 18, 19, 20, 21, 22, 23, 24, 25, 26, 2, 3] (by kernel_rfl) rfl (by kernel_rfl) (by kernel_rfl) (by decide) (by kernel_rfl) (by kernel_rfl) ?_ ?_
    · simp only [List.take_succ_cons, List.take_zero]
      repeat (first | exact AllFrom.nil_ | (refine AllFrom.cons_ (by rfl) ?_ ?_; rotate_left))
      · intro f_ w' g_ hF hD
        have h1 : f_ 1 = .pointer (some ⟨p, 0, none⟩) := hF 1 (by kernel_rfl)
        rw [if_pos (wanted_none rfl)]
        clear hF hD
        exact gives_val (by simp only [execOp, evF, h1]; first | rfl | go_simp) ⟨Gr.refl _, rfl⟩
      · intro f_ w' g_ hF hD
        have h17 : f_ 17 = (.pointer (some ⟨p, 0, none⟩)) := hD 0 17 (by kernel_rfl) rfl
        rw [if_pos (wanted_none rfl)]
        clear hF hD
        have kg : Below W3.heap.size W3 w' := (below_drewN (Below.refl _ _) 1).trans g_
        have cl : w'.cell? ⟨p, 0, none⟩ = some (.int .i64 (C : Int)) := by rw [← HF.out.c]; exact (HP3.out.below kg).nine.1
        exact gives_val (by simp only [execOp, evF, h17]; go_simp) ⟨Gr.refl _, rfl⟩
      · intro f_ w' g_ hF hD
        have h1 : f_ 1 = .pointer (some ⟨p, 0, none⟩) := hF 1 (by kernel_rfl)
        rw [if_pos (wanted_none rfl)]
        clear hF hD
        exact gives_val (by simp only [execOp, evF, h1]; first | rfl | go_simp) ⟨Gr.refl _, rfl⟩
      · intro f_ w' g_ hF hD
        have h19 : f_ 19 = (.pointer (some ⟨p, 1, none⟩)) := hD 2 19 (by kernel_rfl) rfl
        rw [if_pos (wanted_none rfl)]
        clear hF hD
        have kg : Below W3.heap.size W3 w' := (below_drewN (Below.refl _ _) 1).trans g_
        have cl : w'.cell? ⟨p, 1, none⟩ = some (.int .i64 (R : Int)) := by rw [← HF.out.r]; exact (HP3.out.below kg).nine.2.1
        exact gives_val (by simp only [execOp, evF, h19]; go_simp) ⟨Gr.refl _, rfl⟩
      · intro f_ w' g_ hF hD
        have h18 : f_ 18 = (.int .i64 (C : Int)) := hD 1 18 (by kernel_rfl) rfl
        have h20 : f_ 20 = (.int .i64 (R : Int)) := hD 3 20 (by kernel_rfl) rfl
        rw [if_pos (wanted_none rfl)]
        clear hF hD
        have r1 : ∃ X, Value.slice (some ⟨w'.heap.size, 0, none⟩) 2 2 = .slice X 2 2 ∧ Rd (w'.alloc (.cells #[.int .i64 (C : Int), .int .i64 (R : Int)] 3)) X ([C, R].map nv) := ⟨_, rfl, rd_nums w' [C, R] _ _ rfl⟩
        exact gives_val (by simp only [execOp, evF, h18, h20]; first | rfl | go_simp) ⟨(Below.refl _ _).alloc (Nat.le_refl _) _, r1⟩
      · intro f_ w' g_ hF hD
        have q21 := hD 4 21 (by kernel_rfl) rfl
        rw [if_pos (wanted_none rfl)]
        clear hF hD
        have kg : Below W3.heap.size W3 w' := (below_drewN (Below.refl _ _) 1).trans g_
        obtain ⟨X21, e21, r21⟩ := q21
        refine gives_func rfl Tryz.func49 (by kernel_rfl) rfl (by simp only [List.map_toArray, List.map_cons, List.map_nil, evF, e21]; rfl) ((put17_c 1 (by decide) X21 2 2 [C, R] w' rfl r21 (by decide) HCR.out.1).mono ?_)
        rintro e w'' ⟨v, rfl, ho, hb⟩
        exact ⟨_, rfl, hb, Own.low ho (Nat.le_trans HS3z.out kg.size)⟩
      · intro f_ w' g_ hF hD
        have h4 : f_ 4 = .pointer (some ⟨g, 0, none⟩) := hF 4 (by kernel_rfl)
        rw [if_pos (wanted_none rfl)]
        clear hF hD
        have kg : Below W3.heap.size W3 w' := (below_drewN (Below.refl _ _) 1).trans g_
        exact gives_load_row 25 (.tmp 4) rfl g (by simp only [evF, h4]) 25 (scC (blankS C R) A2 N c2 none 0 0) (0, 0) _ (HG3.out.below kg) Tryz.underlying25 rfl (info_sc.trans rfl) ⟨Gr.refl _, rfl⟩
      · intro f_ w' g_ hF hD
        have h1 : f_ 1 = .pointer (some ⟨p, 0, none⟩) := hF 1 (by kernel_rfl)
        rw [if_pos (wanted_none rfl)]
        clear hF hD
        have kg : Below W3.heap.size W3 w' := (below_drewN (Below.refl _ _) 1).trans g_
        exact gives_load_row 25 (.tmp 1) rfl p (by simp only [evF, h1]) 25 (scC b A n c L m cm) (0, 0) _ (HP3.out.below kg) Tryz.underlying25 rfl (info_sc.trans rfl) ⟨Gr.refl _, rfl⟩
      · intro f_ w' g_ hF hD
        have h23 : f_ 23 = (.agg (scC (blankS C R) A2 N c2 none 0 0)) := hD 6 23 (by kernel_rfl) rfl
        have h24 : f_ 24 = (.agg (scC b A n c L m cm)) := hD 7 24 (by kernel_rfl) rfl
        rw [if_pos (wanted_none rfl)]
        clear hF hD
        have kg : Below W3.heap.size W3 w' := (below_drewN (Below.refl _ _) 1).trans g_
        refine gives_func rfl Tryz.func31 (by kernel_rfl) rfl (by simp only [List.map_toArray, List.map_cons, List.map_nil, evF, h23, h24]) ((lay17_c (blankS C R) b A2 N c2 none 0 0 A n c L m cm C R w' (HS3.out.below kg) (HR3.out.below kg) HF.out HCO.out (by rw [HS3.out.hn, HN.out]) HMO.out).mono ?_)
        rintro e w'' ⟨v, rfl, ho, hb, hl⟩
        exact ⟨_, rfl, hb, Own.low ho (Nat.le_trans HS3z.out kg.size), hl⟩
    intro f_ w7 gg hD
    have h22 : OwnB w7 w.heap.size (f_ 22) (lo 1 :: varsL [C, R]) := hD 5 22 (by decide) rfl
    obtain ⟨h25, hl25⟩ : OwnB w7 w.heap.size (f_ 25) (lay17 (blankS C R) b) ∧ (lay17 (blankS C R) b).length ≤ 200000 := hD 8 25 (by decide) rfl
    simp only [List.drop_succ_cons, List.drop_zero, putAll, List.setIfInBounds_toArray, List.set_cons_zero, List.set_cons_succ]
    have H22 := Lib.hid h22
    obtain ⟨A5, c5, e5, _, _, r5, _⟩ := OwnB.form h25
    have R5 := Lib.hid r5
    have kg : Below W3.heap.size W3 w7 := (below_drewN (Below.refl _ _) 1).trans gg
    have HK7 := Lib.hid (HB3.out.trans (kg.mono HS3z.out))
    have HLN : Hid ((lo 1 :: varsL [C, R]).length ≤ 21) := Lib.hid (by rw [List.length_cons]; have := HCR.out.2; omega)
    have HL5 := Lib.hid hl25
    rw [e5]
    generalize f_ 17 = d17
    generalize f_ 18 = d18
    generalize f_ 19 = d19
    generalize f_ 20 = d20
    generalize f_ 21 = d21
    generalize f_ 22 = d22 at H22 ⊢
    generalize f_ 23 = d23
    generalize f_ 24 = d24
    generalize f_ 26 = d26
    clear hD gg h22 h25 hl25 r5 kg e5
    go_wp2_with (first
      | (at_builtin; refine wpList_appB _ rfl (.tmp 22) (.tmp 25) rfl w.heap.size _ _ rfl H22.out A5 _ c5 _ rfl rfl R5.out (by have := HLN.out; have := HL5.out; omega) HK7.out.size ?_; intro v8 w8 h8 hg8 _; have HO8 := Lib.hid h8; have HK8 := Lib.hid (HK7.out.grown hg8 HK7.out.size (fun q e => (Own.lt H22.out q e).1)); clear h8 hg8))
    go_ret2
    exact ⟨_, by rw [← HZ.out] <;> rfl, by rw [← HZ.out]; exact HO8.out, HK8.out⟩
set_option maxRecDepth 100000 in
set_option maxHeartbeats 16000000 in
theorem enc17_c (a b : ScD) (A1 : Option Addr) (n1 c1 : Nat) (L1 : Option Addr) (m1 k1 : Nat) (A : Option Addr) (n c : Nat) (L : Option Addr) (m cm : Nat) (w : World) (ha : ScR w a A1 n1 c1 L1 m1 k1) (hs : ScR w b A n c L m cm) (hc : ∀ d ∈ b.cells, CeOk d) (hm : 0 ≤ b.mouse) (hU : TabU w) :
    Calls Tryz.prog 13 #[.agg (scC a A1 n1 c1 L1 m1 k1), .agg (scC b A n c L m cm)] w fun e w' => ∃ v, e = .returned (.tuple #[v, .int .i64 ((enc17 a b).2 : Int)]) ∧ OwnB w' w.heap.size v (enc17 a b).1 ∧ Below w.heap.size w w' := by
  obtain ⟨X, eX⟩ : ∃ X, X = scC a A1 n1 c1 L1 m1 k1 := ⟨_, rfl⟩
  obtain ⟨Y, eY⟩ : ∃ Y, Y = scC b A n c L m cm := ⟨_, rfl⟩
  rw [← eX, ← eY]
  obtain ⟨W0, eW0⟩ : ∃ W0, W0 = (w.alloc (.cells X 25)).alloc (.cells Y 25) := ⟨_, rfl⟩
  obtain ⟨p, ep⟩ : ∃ p, p = w.heap.size := ⟨_, rfl⟩
  obtain ⟨q, eq⟩ : ∃ q, q = w.heap.size + 1 := ⟨_, rfl⟩
  have hb0 : Below w.heap.size w W0 := by rw [eW0]; exact ((Below.refl _ _).alloc (Nat.le_refl _) _).alloc (by simp) _
  have HP0 : Hid (ScB W0 p a A1 n1 c1 L1 m1 k1) := Lib.hid (by rw [eW0, ep, eX]; exact (Below.heap_alloc _ _ _ (by simp)).trans (heap_alloc_new _ _))
  have HQ0 : Hid (ScB W0 q b A n c L m cm) := Lib.hid (by rw [eW0, eq, eY]; exact heap_alloc2_new _ _ _)
  have EW0 := Lib.hid eW0
  have EP := Lib.hid ep
  have EQ := Lib.hid eq
  have HB0 := Lib.hid hb0
  have HA0 := Lib.hid (ha.below hb0)
  have HR0 := Lib.hid (hs.below hb0)
  have HU0 := Lib.hid (hU.next hb0)
  have HCO := Lib.hid hc
  have HMO := Lib.hid hm
  clear hm
  obtain ⟨Z, eZ⟩ : ∃ Z, enc17 a b = Z := ⟨_, rfl⟩
  rw [eZ]
  unfold enc17 at eZ
  clear eX eY eW0 ep eq hb0 ha hs hU hc
  obtain ⟨b1, e1⟩ : ∃ t, fit17 a = t := ⟨_, rfl⟩
  obtain ⟨b2, e2⟩ : ∃ t, fit17 b = t := ⟨_, rfl⟩
  rw [e1, e2] at eZ
  have E1 := Lib.hid e1
  have E2 := Lib.hid e2
  have EZ := Lib.hid eZ
  clear eZ e1 e2
  go_enter Tryz.func13, Tryz.ntmps13
  go_upto_region 1 with (fail)
  rw [← EW0.out, ← EQ.out, ← EP.out]
  cases b1
  · go_wp2_with (first
      | (refine wpList_load_row rfl 25 (.tmp 2) rfl p rfl 25 _ (0, 0) _ HP0.out Tryz.underlying25 rfl (info_sc.trans rfl) ?_)
      | (go_at_call 14; (refine (fits17_c a A1 n1 c1 L1 m1 k1 W0 HA0.out  HU0.out).mono ?_); rintro _ w1 ⟨rfl, hb1⟩; rw [E1.out]; have HB1 := Lib.hid (HB0.out.trans (hb1.mono HB0.out.size)); clear hb1))
    go_ret2
    exact ⟨_, by rw [← EZ.out] <;> rfl, by rw [← EZ.out]; exact Own.nil_ _ _ _, HB1.out⟩
  · cases b2
    · go_wp2_with (first
        | (refine wpList_load_row rfl 25 (.tmp 2) rfl p rfl 25 _ (0, 0) _ HP0.out Tryz.underlying25 rfl (info_sc.trans rfl) ?_)
        | ((with_reducible refine wpList_openG (o := ⟨some 11, _, _, _, _, _⟩) rfl ?_); (refine wpList_load_row rfl 25 (.tmp 3) rfl q rfl 25 _ (0, 0) _ HQ1.out Tryz.underlying25 rfl (info_sc.trans rfl) ?_))
        | (go_at_call 14; (refine (fits17_c b A n c L m cm w1 HR1.out  HU1.out).mono ?_); rintro _ w2 ⟨rfl, hb2⟩; rw [E2.out]; have HB2 := Lib.hid (HB1.out.trans (hb2.mono HB1.out.size)); clear hb2)
        | (go_at_call 14; (refine (fits17_c a A1 n1 c1 L1 m1 k1 W0 HA0.out  HU0.out).mono ?_); rintro _ w1 ⟨rfl, hb1⟩; rw [E1.out]; have HB1 := Lib.hid (HB0.out.trans (hb1.mono HB0.out.size)); have HR1 := Lib.hid (HR0.out.below hb1); have HQ1 := Lib.hid (HQ0.out.below hb1); have HU1 := Lib.hid (HU0.out.next hb1); clear hb1))
      go_ret2
      exact ⟨_, by rw [← EZ.out] <;> rfl, by rw [← EZ.out]; exact Own.nil_ _ _ _, HB2.out⟩
    · obtain ⟨C1, R1, hf1⟩ := fit17_of E1.out
      obtain ⟨C, R, hf⟩ := fit17_of E2.out
      have HF1 := Lib.hid hf1
      have HF := Lib.hid hf
      clear hf1 hf
      go_upto_if 6 with (first
        | (refine wpList_load_row rfl 25 (.tmp 2) rfl p rfl 25 _ (0, 0) _ HP0.out Tryz.underlying25 rfl (info_sc.trans rfl) ?_)
        | ((with_reducible refine wpList_openG (o := ⟨some 11, _, _, _, _, _⟩) rfl ?_); (refine wpList_load_row rfl 25 (.tmp 3) rfl q rfl 25 _ (0, 0) _ HQ1.out Tryz.underlying25 rfl (info_sc.trans rfl) ?_))
        | (go_at_call 14; (refine (fits17_c b A n c L m cm w1 HR1.out  HU1.out).mono ?_); rintro _ w2 ⟨rfl, hb2⟩; rw [E2.out]; have HB2 := Lib.hid (HB1.out.trans (hb2.mono HB1.out.size)); have HR2 := Lib.hid (HR1.out.below hb2); have HA2 := Lib.hid (HA1.out.below hb2); have HQ2 := Lib.hid (HQ1.out.below hb2); have HP2 := Lib.hid (HP1.out.below hb2); have HU2 := Lib.hid (HU1.out.next hb2); clear hb2)
        | (go_at_call 14; (refine (fits17_c a A1 n1 c1 L1 m1 k1 W0 HA0.out  HU0.out).mono ?_); rintro _ w1 ⟨rfl, hb1⟩; rw [E1.out]; have HB1 := Lib.hid (HB0.out.trans (hb1.mono HB0.out.size)); have HR1 := Lib.hid (HR0.out.below hb1); have HA1 := Lib.hid (HA0.out.below hb1); have HQ1 := Lib.hid (HQ0.out.below hb1); have HP1 := Lib.hid (HP0.out.below hb1); have HU1 := Lib.hid (HU0.out.next hb1); clear hb1))
      have x0 : w2.cell? ⟨p, 0, none⟩ = some (.int .i64 (C1 : Int)) := by rw [← HF1.out.c]; exact HP2.out.nine.1
      have x1 : w2.cell? ⟨p, 1, none⟩ = some (.int .i64 (R1 : Int)) := by rw [← HF1.out.r]; exact HP2.out.nine.2.1
      have y0 : w2.cell? ⟨q, 0, none⟩ = some (.int .i64 (C : Int)) := by rw [← HF.out.c]; exact HQ2.out.nine.1
      have y1 : w2.cell? ⟨q, 1, none⟩ = some (.int .i64 (R : Int)) := by rw [← HF.out.r]; exact HQ2.out.nine.2.1
      by_cases hC : C1 = C
      · have hC' : ((C1 : Int) == (C : Int)) = true := by rw [hC]; exact beq_self_eq_true _
        have hCn : ((C1 : Int) != (C : Int)) = false := by rw [bne, hC']; rfl
        by_cases hR : R1 = R
        · have hR' : ((R1 : Int) == (R : Int)) = true := by rw [hR]; exact beq_self_eq_true _
          have hRn : ((R1 : Int) != (R : Int)) = false := by rw [bne, hR']; rfl
          have HZ : Hid ((lay17 a b, 0) = Z) := Lib.hid (by rw [← EZ.out, HF1.out.c, HF1.out.r, HF.out.c, HF.out.r, hC', hR']; rfl)
          have HAL : Hid (a.cells.length = C * R) := Lib.hid (by rw [HF1.out.len, hC, hR])
          clear hC hR
          go_wp2_with (first
            | (refine wpList_load_row rfl 25 (.tmp 2) rfl p rfl 25 _ (0, 0) _ HP2.out Tryz.underlying25 rfl (info_sc.trans rfl) ?_)
            | (refine wpList_load_row rfl 25 (.tmp 3) rfl q rfl 25 _ (0, 0) _ HQ2.out Tryz.underlying25 rfl (info_sc.trans rfl) ?_)
            | (go_at_call 31; (refine (lay17_c a b A1 n1 c1 L1 m1 k1 A n c L m cm C R w2 HA2.out HR2.out HF.out HCO.out HAL.out HMO.out).mono ?_); rintro _ w4 ⟨v4, rfl, ho4, hb4, -⟩; have HO4 := Lib.hid (Own.low ho4 HB2.out.size); have HB4 := Lib.hid (HB2.out.trans (hb4.mono HB2.out.size)); clear ho4 hb4))
          go_ret2
          exact ⟨_, by rw [← HZ.out] <;> rfl, by rw [← HZ.out]; exact HO4.out, HB4.out⟩
        · have hR' : ((R1 : Int) == (R : Int)) = false := by rw [beq_eq_false_iff_ne]; omega
          have hRn : ((R1 : Int) != (R : Int)) = true := by rw [bne, hR']; rfl
          have HZ : Hid (full17 b = Z) := Lib.hid (by rw [← EZ.out, HF1.out.c, HF1.out.r, HF.out.c, HF.out.r, hC', hR']; rfl)
          clear hC hR
          go_wp2_with (first
            | (refine wpList_load_row rfl 25 (.tmp 3) rfl q rfl 25 _ (0, 0) _ HQ2.out Tryz.underlying25 rfl (info_sc.trans rfl) ?_)
            | (go_at_call 30; (refine (full17_c b A n c L m cm w2 HR2.out HCO.out HMO.out HU2.out).mono ?_); rintro _ w4 ⟨v4, rfl, ho4, hb4⟩; have HO4 := Lib.hid (Own.low ho4 HB2.out.size); have HB4 := Lib.hid (HB2.out.trans (hb4.mono HB2.out.size)); clear ho4 hb4))
          go_ret2
          exact ⟨_, by rw [← HZ.out] <;> rfl, by rw [← HZ.out]; exact HO4.out, HB4.out⟩
      · have hC' : ((C1 : Int) == (C : Int)) = false := by rw [beq_eq_false_iff_ne]; omega
        have hCn : ((C1 : Int) != (C : Int)) = true := by rw [bne, hC']; rfl
        have HZ : Hid (full17 b = Z) := Lib.hid (by rw [← EZ.out, HF1.out.c, HF1.out.r, HF.out.c, HF.out.r, hC']; rfl)
        clear hC
        go_wp2_with (first
          | (refine wpList_load_row rfl 25 (.tmp 3) rfl q rfl 25 _ (0, 0) _ HQ2.out Tryz.underlying25 rfl (info_sc.trans rfl) ?_)
          | (go_at_call 30; (refine (full17_c b A n c L m cm w2 HR2.out HCO.out HMO.out HU2.out).mono ?_); rintro _ w4 ⟨v4, rfl, ho4, hb4⟩; have HO4 := Lib.hid (Own.low ho4 HB2.out.size); have HB4 := Lib.hid (HB2.out.trans (hb4.mono HB2.out.size)); clear ho4 hb4))
        go_ret2
        exact ⟨_, by rw [← HZ.out] <;> rfl, by rw [← HZ.out]; exact HO4.out, HB4.out⟩
end Go.Proofs.YtndjggabdajbfaaGreatDoor



/- Plain: from a screen to itself with another cursor no row is told; the chapter's example by rows. Conditions: none. -/
namespace Go.Proofs.YtndjggabdajbfaaGreatDoor
open Go Go.RowKit Go.Lib

end Go.Proofs.YtndjggabdajbfaaGreatDoor



/- What law 16's great and fixed answer. Conditions: the tables lie where they were laid. -/
namespace Go.Proofs.YtndjggabdajbfaaGreatDoor
open Go Go.RowKit Go.Lib

theorem rd_lit (w : World) (bs : List UInt8) (vs : Array Value) (hv : vs = (bs.map bv).toArray) (hm : bs.length ≤ 1000) : Rd (w.alloc (.cells vs 5)) (some ⟨w.heap.size, 0, none⟩) (bs.map bv) := by
  obtain ⟨A, c, e, _, _, h, _⟩ := OwnB.form (OwnB_lit w bs vs hv bs.length rfl hm)
  injection e with e1 e2 e3
  subst e1
  exact h
theorem own_at {w : World} {B n c : Nat} {A : Option Addr} {ds : List CeD} (h : OwnC w B (.slice A n c) ds) (h0 : 0 < ds.length) : ∃ b, A = some ⟨b, 0, none⟩ := by
  obtain ⟨h1, _, h2, h3, h4⟩ := h.parts
  cases hA : A with
  | none =>
    have := h4 hA
    omega
  | some a =>
    obtain ⟨_, _, g1, g2⟩ := h3 a hA
    obtain ⟨bb, oo, ss⟩ := a
    cases g1; cases g2
    exact ⟨bb, rfl⟩
end Go.Proofs.YtndjggabdajbfaaGreatDoor


