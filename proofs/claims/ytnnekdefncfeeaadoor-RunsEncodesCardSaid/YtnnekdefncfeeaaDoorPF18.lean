/- Parts one behind the other: What the layer wire's and its reference's Text answer: how many bytes there are, and these; What runs.lay answers: the diff by runs; Regions whose appends of bytes stand in a chain beside operations that float: the bytes that come are known; what each operation yields stays true as they come; An append of a text in such a chain; one byte laid; What rows.lay answers: the diff by rows; Tools for the walks over screens: sound screens, an answer in memory of its own, Same, a cell turned; What Full and Encode (16) answer, the code's and the reference's. Conditions: as told at each. -/
import Derived.Test.YtnnekdefncfeeaaDoorPF15
import Derived.Test.YtnnekdefncfeeaaDoorPF17
import Derived.Test.YtnnekdefncfeeaaDoorPF8
import Derived.Deep.DeepCutAuto
import Derived.Test.YtnnekdefncfeeaaDoorPF4
import Derived.Test.YtnnekdefncfeeaaDoorPF1
import Derived.Laws.Append
import Derived.Test.YtnnekdefncfeeaaDoorPF11
import Derived.Lib.AppendStr
import Derived.Test.YtnnekdefncfeeaaDoorPF16
import Derived.Test.YtnnekdefncfeeaaDoorPF12
import Derived.Test.YtnnekdefncfeeaaDoorPF14

set_option linter.unusedVariables false
set_option linter.unusedSimpArgs false
/- What the layer wire's and its reference's Text answer: how many bytes there are, and these. Conditions: lengths that fit. -/
namespace Go.Proofs.YtnnekdefncfeeaaDoor
open Go Go.RowKit

/-! ### Text -/
set_option maxRecDepth 100000 in
set_option maxHeartbeats 400000 in
theorem Text_c (A : Option Addr) (n c : Nat) (bs : List UInt8) (w : World) (hn : bs.length = n) (hr : Rd w A (bs.map bv)) (hl : n ≤ 140737488355000) :
    Calls Tryd.prog 38 #[.slice A n c] w fun e w' => ∃ v, e = .returned (.tuple #[v, .int .i64 (if n ≤ 4096 then 0 else 4)]) ∧ OwnB w' w.heap.size v (if n ≤ 4096 then varL n ++ bs else []) ∧ Below w.heap.size w w' := by
  have HN := Lib.hid hn; clear hn
  rcases Nat.lt_or_ge 4096 n with h | h
  · have e1 : (if n ≤ 4096 then varL n ++ bs else []) = [] := if_neg (by omega)
    have e2 : (if n ≤ 4096 then (0 : Int) else 4) = 4 := if_neg (by omega)
    rw [e1, e2]
    clear e1 e2
    go_enter Tryd.func38, Tryd.ntmps38
    go_wp2
    go_ret2
    exact ⟨_, rfl, Own.nil_ _ _ _, Below.refl _ _⟩
  · have e1 : (if n ≤ 4096 then varL n ++ bs else []) = varL n ++ bs := if_pos (by omega)
    have e2 : (if n ≤ 4096 then (0 : Int) else 4) = 0 := if_pos (by omega)
    rw [e1, e2]
    clear e1 e2
    have hu : U64 n := Nat.lt_of_le_of_lt h (by decide)
    have hv := varL_len10 hu
    go_enter Tryd.func38, Tryd.ntmps38
    go_wp2_with (first | (go_at_call 43; refine (Var_c _ _ hu).mono ?_; rintro e w1 ⟨v, rfl, ho, hb⟩; have hz := hb.size) | (at_builtin; refine wpList_appB _ rfl (.tmp 10) (.tmp 11) rfl w.heap.size _ (varL n) rfl ho A n c bs rfl HN.out (hr.below hb) (by omega) (by omega) ?_; intro v' w2 h1 h2 h3; have H1 := Lib.hid h1; clear h1))
    go_wp2
    go_ret2
    exact ⟨_, rfl, H1.out, hb.grown h2 (by omega) (fun k hk => (ho.lt k hk).1)⟩

end Go.Proofs.YtnnekdefncfeeaaDoor


/- What runs.lay answers: the diff by runs. Conditions: the second screen fits, the first has as many cells. -/
namespace Go.Proofs.YtnnekdefncfeeaaDoor
open Go Go.RowKit Go.Lib

/-- Bytes stay readable while another slice's own block grows. -/
theorem rd_apart {w w' : World} {v : Value} {A : Option Addr} {vs : List Value} {k : Nat} (hr : Rd w A vs) (hg : w.grownBy w' v.ownBlock) (hk : ∀ q, v.ownBlock = some q → q < k) (hA : ∀ a, A = some a → k ≤ a.block) : Rd w' A vs :=
  hr.of_blocks (fun b _ ⟨off, e⟩ => hg.block b (by assumption) (fun e2 => by have h1 := hk b e2.symm; have h2 := hA _ e; simp only at h2; omega)) hg.size
theorem bv_three : Value.int .u8 3 = bv 3 := by kernel_rfl
set_option maxRecDepth 100000 in
set_option maxHeartbeats 16000000 in
theorem lay17_c (a b : ScD) (A1 : Option Addr) (n1 c1 : Nat) (L1 : Option Addr) (m1 k1 : Nat) (A : Option Addr) (n c : Nat) (L : Option Addr) (m cm : Nat) (C R : Nat) (w : World)
    (ha : ScR w a A1 n1 c1 L1 m1 k1) (hb : ScR w b A n c L m cm) (hf : Fit17 b C R) (hce : ∀ d ∈ b.cells, CeOk d) (hal : a.cells.length = C * R) (hm : 0 ≤ b.mouse) :
    Calls Tryd.prog 20 #[.agg (scC a A1 n1 c1 L1 m1 k1), .agg (scC b A n c L m cm)] w fun e w' => ∃ v, e = .returned v ∧ OwnB w' w.heap.size v (lay17 a b) ∧ Below w.heap.size w w' ∧ (lay17 a b).length ≤ 200000 := by
  have hnn : n1 = n := by rw [← ha.hn, ← hb.hn, hal, hf.len]
  subst hnn
  obtain ⟨X, eX⟩ : ∃ X, X = scC a A1 n1 c1 L1 m1 k1 := ⟨_, rfl⟩
  obtain ⟨Y, eY⟩ : ∃ Y, Y = scC b A n1 c L m cm := ⟨_, rfl⟩
  rw [← eX, ← eY]
  obtain ⟨Z, eZ⟩ : ∃ Z, lay17 a b = Z := ⟨_, rfl⟩
  rw [eZ]
  have EZ := Lib.hid eZ
  obtain ⟨W0, eW0⟩ : ∃ W0, W0 = (w.alloc (.cells X 25)).alloc (.cells Y 25) := ⟨_, rfl⟩
  obtain ⟨p, ep⟩ : ∃ p, p = w.heap.size := ⟨_, rfl⟩
  obtain ⟨q, eq⟩ : ∃ q, q = w.heap.size + 1 := ⟨_, rfl⟩
  have hb0 : Below w.heap.size w W0 := by rw [eW0]; exact ((Below.refl _ _).alloc (Nat.le_refl _) _).alloc (by simp) _
  have HP0 : Hid (ScB W0 p a A1 n1 c1 L1 m1 k1) := Lib.hid (by rw [eW0, ep, eX]; exact (Below.heap_alloc _ _ _ (by simp)).trans (heap_alloc_new _ _))
  have HQ0 : Hid (ScB W0 q b A n1 c L m cm) := Lib.hid (by rw [eW0, eq, eY]; exact heap_alloc2_new _ _ _)
  have EW0 := Lib.hid eW0
  have EP := Lib.hid ep
  have EQ := Lib.hid eq
  have HB0 := Lib.hid hb0
  have HRA := Lib.hid (ha.below hb0)
  have HRB := Lib.hid (hb.below hb0)
  have HF := Lib.hid hf
  have HCE : Hid (∀ d ∈ b.cells, CeOk d ∧ 0 ≤ d.r ∧ d.r ≤ 1114111) := Lib.hid (fun d hd => ⟨hce d hd, by have := hf.rune d hd; omega, (hf.rune d hd).2⟩)
  have HMO := Lib.hid hm
  obtain ⟨B0, eB0⟩ : ∃ B, B = W0.heap.size := ⟨_, rfl⟩
  have HB00 : Hid (w.heap.size ≤ B0 ∧ p < B0 ∧ q < B0) := Lib.hid (by rw [eB0]; exact ⟨hb0.size, heap_lt HP0.out, heap_lt HQ0.out⟩)
  have EB0 := Lib.hid eB0
  have HN : Hid (n1 ≤ 1920 ∧ a.cells.length = n1 ∧ b.cells.length = n1) := Lib.hid ⟨by rw [← hb.hn, hf.len]; exact Nat.mul_le_mul hf.c2 hf.r2, ha.hn, hb.hn⟩
  obtain ⟨X0, eX0⟩ : ∃ x : Nat, b.x = (x : Int) := ⟨b.x.toNat, by have := hf.x0; omega⟩
  obtain ⟨Y0, eY0⟩ : ∃ y : Nat, b.y = (y : Int) := ⟨b.y.toNat, by have := hf.y0; omega⟩
  obtain ⟨M0, eM0⟩ : ∃ y : Nat, b.mouse = (y : Int) := ⟨b.mouse.toNat, by omega⟩
  have HXY : Hid (X0 < 80 ∧ Y0 < 24 ∧ M0 ≤ 2 ∧ b.title.size ≤ 64) := Lib.hid (by have h1 := hf.x1; have h2 := hf.y1; have h3 := hf.mo; have h4 := hf.c2; have h5 := hf.r2; have h6 := hf.tl; omega)
  obtain ⟨d1, e1⟩ : ∃ t, (b.x != a.x) = t := ⟨_, rfl⟩
  obtain ⟨d2, e2⟩ : ∃ t, (b.y != a.y) = t := ⟨_, rfl⟩
  obtain ⟨d3, e3⟩ : ∃ t, (b.hid != a.hid) = t := ⟨_, rfl⟩
  obtain ⟨d4, e4⟩ : ∃ t, (b.mouse != a.mouse) = t := ⟨_, rfl⟩
  obtain ⟨T, eT⟩ : ∃ t, (d1 || (d2 || d3)) = t := ⟨_, rfl⟩
  obtain ⟨TE, eTE⟩ : ∃ t, (b.title.toList == a.title.toList) = t := ⟨_, rfl⟩
  have HCU : Hid (curB a b = if T then 2 :: (varL X0 ++ (varL Y0 ++ [if b.hid then 1 else 0])) else []) := Lib.hid (by unfold curB; rw [e1, e2, e3, eT, eX0, eY0]; rfl)
  have HTI : Hid (titB17 a b = if TE then [] else 3 :: (varL b.title.size ++ strB b.title)) := Lib.hid (by unfold titB17; rw [eTE])
  have HMU : Hid (mouB a b = if d4 then [4, lo M0] else []) := Lib.hid (by unfold mouB; rw [e4, eM0]; rfl)
  have HCL : Hid ((curB a b).length ≤ 31) := Lib.hid (by
    have h1 := HXY.out
    have h2 := varL_len10 (n := X0) (u64_small (by omega))
    have h3 := varL_len10 (n := Y0) (u64_small (by omega))
    rw [HCU.out]
    split
    · simp only [List.length_cons, List.length_append, List.length_nil]; omega
    · simp)
  have HTL : Hid ((titB17 a b).length ≤ 80) := Lib.hid (by
    have h1 := HXY.out
    have h2 := varL_len10 (n := b.title.size) (u64_small (by omega))
    rw [HTI.out]
    split
    · simp
    · simp only [List.length_cons, List.length_append, strB_len]; omega)
  have HML : Hid ((mouB a b).length ≤ 2) := Lib.hid (by rw [HMU.out]; split <;> simp)
  have HT := Lib.hid eT
  have E3 : Hid ((b.hid == a.hid) = !d3) := Lib.hid (by rw [← e3, bne, Bool.not_not])
  have HTE := Lib.hid eTE
  have EX0 := Lib.hid eX0
  have EY0 := Lib.hid eY0
  have EM0 := Lib.hid eM0
  have E4 := Lib.hid e4
  clear eX eY eZ eW0 ep eq hb0 ha hb hf hce hal hm eB0 eX0 eY0 eM0 e4 eT eTE
  go_enter Tryd.func20, Tryd.ntmps20
  go_upto_region 2 with (fail)
  rw [← EW0.out, ← EQ.out, ← EP.out]
  have x3 : W0.cell? ⟨q, 3, none⟩ = some (.int .i64 b.x) := HQ0.out.nine.2.2.2.1
  have x4 : W0.cell? ⟨q, 4, none⟩ = some (.int .i64 b.y) := HQ0.out.nine.2.2.2.2.1
  have x5 : W0.cell? ⟨q, 5, none⟩ = some (.bool b.hid) := HQ0.out.nine.2.2.2.2.2.1
  have y3 : W0.cell? ⟨p, 3, none⟩ = some (.int .i64 a.x) := HP0.out.nine.2.2.2.1
  have y4 : W0.cell? ⟨p, 4, none⟩ = some (.int .i64 a.y) := HP0.out.nine.2.2.2.2.1
  have y5 : W0.cell? ⟨p, 5, none⟩ = some (.bool a.hid) := HP0.out.nine.2.2.2.2.2.1
  go_cut [29] (fun s29 wx => s29 = .bool T ∧ Hid (wx = W0))
  case first =>
    cases d1 <;> cases d2 <;> cases d3 <;>
    · go_wp2_with (fail)
      go_meet
      refine ⟨?_, Lib.hid rfl⟩
      first | exact congrArg Value.bool HT.out | exact congrArg Value.bool ((congrArg not E3.out).trans HT.out)
  case rest =>
  obtain ⟨rfl, hwc⟩ := hcut
  obtain rfl := hwc.out.symm
  clear hwc x3 x4 x5 y3 y4 y5 e1 e2 e3 E3
  go_upto_if 29 with (fail)
  go_cut [5] (fun s5 wx => Hid (OwnB wx B0 s5 (curB a b)) ∧ Hid (Below B0 W0 wx))
  case first =>
    cases T
    · have HE : Hid (curB a b = []) := Lib.hid (by rw [HCU.out]; rfl)
      go_wp2_with (fail)
      go_meet
      exact ⟨Lib.hid (by rw [HE.out]; exact Own.nil_ _ _ _), Lib.hid (Below.refl _ _)⟩
    · have x3 : W0.cell? ⟨q, 3, none⟩ = some (.int .i64 (X0 : Int)) := by rw [← EX0.out]; exact HQ0.out.nine.2.2.2.1
      have x4 : W0.cell? ⟨q, 4, none⟩ = some (.int .i64 (Y0 : Int)) := by rw [← EY0.out]; exact HQ0.out.nine.2.2.2.2.1
      have x5 : W0.cell? ⟨q, 5, none⟩ = some (.bool b.hid) := HQ0.out.nine.2.2.2.2.2.1
      obtain ⟨H, eH⟩ : ∃ H : Nat, H = if b.hid then 1 else 0 := ⟨_, rfl⟩
      have HH : Hid (H ≤ 1 ∧ (b.hid = true → H = 1) ∧ (b.hid = false → H = 0)) := Lib.hid (by rw [eH]; cases b.hid <;> simp)
      obtain ⟨ns, ens⟩ : ∃ ns : List Nat, ns = [X0, Y0, H] := ⟨_, rfl⟩
      have HNS : Hid (ns.length = 3 ∧ (∀ x ∈ ns, x < 2 ^ 63) ∧ (varsL ns).length ≤ 30) := Lib.hid (by
        have h1 := HXY.out; have h2 := HH.out.1
        have h3 : ∀ x ∈ ns, x < 2 ^ 63 := by
          intro x hx
          rw [ens] at hx
          simp only [List.mem_cons, List.not_mem_nil, or_false] at hx
          rcases hx with rfl | rfl | rfl <;> omega
        refine ⟨by rw [ens]; rfl, h3, ?_⟩
        have h4 := varsL_le ns (fun x hx => by have := h3 x hx; unfold U64; omega)
        rw [ens] at h4 ⊢
        simp only [List.length_cons, List.length_nil] at h4
        omega)
      have HE : Hid (curB a b = lo 2 :: varsL ns) := Lib.hid (by
        rw [HCU.out, ens, eH]
        have hv1 : varL 1 = [1] := by kernel_rfl
        have hv0 : varL 0 = [0] := by kernel_rfl
        cases b.hid
        · simp only [varsL, List.flatMap_cons, List.flatMap_nil, Bool.false_eq_true, if_false, if_true, hv0, List.append_nil]; rfl
        · simp only [varsL, List.flatMap_cons, List.flatMap_nil, if_true, hv1, List.append_nil]; rfl)
      have HRL : Hid (Rd (W0.alloc (.cells #[.int .i64 (X0 : Int), .int .i64 (Y0 : Int), .int .i64 (H : Int)] 3)) (some ⟨W0.heap.size, 0, none⟩) (ns.map nv)) := Lib.hid (rd_nums W0 ns _ _ (by rw [ens]; rfl))
      have HKA : Hid (Below B0 W0 (W0.alloc (.cells #[.int .i64 (X0 : Int), .int .i64 (Y0 : Int), .int .i64 (H : Int)] 3))) := Lib.hid (by rw [EB0.out]; exact (Below.refl _ _).alloc (Nat.le_refl _) _)
      have HKS : Hid (B0 ≤ (W0.alloc (.cells #[.int .i64 (X0 : Int), .int .i64 (Y0 : Int), .int .i64 (H : Int)] 3)).heap.size) := Lib.hid (by rw [EB0.out]; exact HKA.out.size)
      clear eH ens
      cases hh : b.hid
      · obtain rfl : H = 0 := HH.out.2.2 hh
        rw [hh] at x5
        clear hh
        go_wp2_with (first
          | (go_at_call 23; (refine (put17_c 2 (by decide) (some ⟨W0.heap.size, 0, none⟩) 3 3 ns _ HNS.out.1 HRL.out (by decide) HNS.out.2.1).mono ?_); rintro _ w6 ⟨v6, rfl, ho6, hb6⟩; obtain ⟨A6, c6, rfl, _, _, r6, _⟩ := OwnB.form ho6; have R6 := Lib.hid r6; have HK6 := Lib.hid (HKA.out.trans (hb6.mono HKS.out)); have s6 : B0 ≤ w6.heap.size := (by rw [EB0.out]; exact HK6.out.size); clear ho6 hb6 r6)
          | (at_builtin; refine wpList_appB _ rfl (.tmp 32) (.tmp 39) rfl B0 (.slice none 0 0) [] rfl (Own.nil_ _ _ _) A6 _ c6 (lo 2 :: varsL ns) rfl rfl R6.out (by have := HNS.out.2.2; simp only [List.length_cons, List.length_nil]; omega) s6 ?_; intro v8 w8 h8 hg8 _; have HO8 := Lib.hid h8; have HK8 := Lib.hid (HK6.out.grown hg8 s6 (fun q e => by cases e)); clear h8 hg8))
        go_meet
        exact ⟨Lib.hid (by rw [HE.out]; exact HO8.out), HK8⟩
      · obtain rfl : H = 1 := HH.out.2.1 hh
        rw [hh] at x5
        clear hh
        go_wp2_with (first
          | (go_at_call 23; (refine (put17_c 2 (by decide) (some ⟨W0.heap.size, 0, none⟩) 3 3 ns _ HNS.out.1 HRL.out (by decide) HNS.out.2.1).mono ?_); rintro _ w6 ⟨v6, rfl, ho6, hb6⟩; obtain ⟨A6, c6, rfl, _, _, r6, _⟩ := OwnB.form ho6; have R6 := Lib.hid r6; have HK6 := Lib.hid (HKA.out.trans (hb6.mono HKS.out)); have s6 : B0 ≤ w6.heap.size := (by rw [EB0.out]; exact HK6.out.size); clear ho6 hb6 r6)
          | (at_builtin; refine wpList_appB _ rfl (.tmp 32) (.tmp 39) rfl B0 (.slice none 0 0) [] rfl (Own.nil_ _ _ _) A6 _ c6 (lo 2 :: varsL ns) rfl rfl R6.out (by have := HNS.out.2.2; simp only [List.length_cons, List.length_nil]; omega) s6 ?_; intro v8 w8 h8 hg8 _; have HO8 := Lib.hid h8; have HK8 := Lib.hid (HK6.out.grown hg8 s6 (fun q e => by cases e)); clear h8 hg8))
        go_meet
        exact ⟨Lib.hid (by rw [HE.out]; exact HO8.out), HK8⟩
  case rest =>
  obtain ⟨W5, eW_⟩ : ∃ x, x = wc := ⟨_, rfl⟩
  rw [← eW_] at hcut ⊢
  obtain ⟨HO5, HK5⟩ := hcut
  clear eW_
  obtain ⟨V5, eV_⟩ : ∃ V, V = u5 := ⟨_, rfl⟩
  rw [← eV_] at HO5 ⊢
  clear eV_
  obtain ⟨O5, eO_⟩ : ∃ O, O = curB a b := ⟨_, rfl⟩
  rw [← eO_] at HO5
  have EO5 := Lib.hid eO_
  have HS5 : Hid (B0 ≤ W5.heap.size) := Lib.hid (by rw [EB0.out]; exact HK5.out.size)
  have HL5 : Hid (O5.length ≤ 31) := Lib.hid (by rw [eO_]; exact HCL.out)
  clear eO_
  have HQ5 : Hid (ScB W5 q b A n1 c L m cm) := Lib.hid ((HK5.out.block q HB00.out.2.2).trans HQ0.out)
  have HP5 : Hid (ScB W5 p a A1 n1 c1 L1 m1 k1) := Lib.hid ((HK5.out.block p HB00.out.2.1).trans HP0.out)
  have x7 : W5.cell? ⟨q, 7, none⟩ = some (.string b.title) := HQ5.out.nine.2.2.2.2.2.2.2.1
  have y7 : W5.cell? ⟨p, 7, none⟩ = some (.string a.title) := HP5.out.nine.2.2.2.2.2.2.2.1
  have eTE := HTE.out
  go_upto_if 45 with (fail)
  clear y7 eTE x7
  go_cut [5] (fun s5 wx => Hid (OwnB wx B0 s5 (O5 ++ titB17 a b)) ∧ Hid (Below B0 W0 wx))
  case first =>
    cases TE
    rotate_left
    · have HE : Hid (O5 ++ titB17 a b = O5) := Lib.hid (by rw [HTI.out, if_pos rfl, List.append_nil])
      go_wp2_with (fail)
      go_meet
      exact ⟨Lib.hid (by rw [HE.out]; exact HO5.out), HK5⟩
    · have HE : Hid ((O5 ++ [3]) ++ (varL b.title.size ++ strB b.title) = O5 ++ titB17 a b) := Lib.hid (by rw [HTI.out, if_neg (by decide), List.append_assoc]; rfl)
      have x7 : W5.cell? ⟨q, 7, none⟩ = some (.string b.title) := HQ5.out.nine.2.2.2.2.2.2.2.1
      obtain ⟨tb, etb⟩ : ∃ tb, tb = varL b.title.size ++ strB b.title := ⟨_, rfl⟩
      have HTB : Hid (tb.length ≤ 74) := Lib.hid (by have := HXY.out.2.2.2; have h := varL_len10 (n := b.title.size) (u64_small (by omega)); rw [etb, List.length_append, strB_len]; omega)
      rw [← etb] at HE
      have ETB := Lib.hid etb
      clear etb
      go_upto_region 9 with (first
        | (with_reducible refine wpList_convB _ rfl (.tmp 48) rfl b.title rfl (by have := HXY.out.2.2.2; omega) ?_; intro A6 c6 w6 hr6 _ _ hb6; have HR6 := Lib.hid hr6; have HB6 := Lib.hid hb6; clear hr6 hb6)
        | (go_at_call 38; (refine (Text_c A6 b.title.size c6 (strB b.title) w6 (strB_len _) HR6.out (by have := HXY.out.2.2.2; omega)).mono ?_); rintro _ w7 ⟨v7, rfl, ho7, hb7⟩; rw [if_pos (show b.title.size ≤ 4096 by have := HXY.out.2.2.2; omega), ← ETB.out] at ho7; rw [if_pos (show b.title.size ≤ 4096 by have := HXY.out.2.2.2; omega)]; obtain ⟨A7, c7, rfl, _, _, r7, f7⟩ := OwnB.form ho7; have R7 := Lib.hid r7; have F7 := Lib.hid f7; have HO7 := Lib.hid ((HO5.out.below HB6.out).below hb7); have HD7 : Hid (∀ k, V5.ownBlock = some k → k < w6.heap.size) := Lib.hid (fun k e => Nat.lt_of_lt_of_le (Own.lt HO5.out k e).2 HB6.out.size); have HK7 := Lib.hid (HK5.out.trans ((HB6.out.trans (hb7.mono HB6.out.size)).mono HS5.out)); have s7 : B0 ≤ w7.heap.size := (by rw [EB0.out]; exact HK7.out.size); clear ho7 hb7 r7 f7))
      clear x7
      go_wp2_with (first
        | (at_builtin; (refine wpList_appB1 _ rfl (.tmp 53) (.tmp 54) rfl B0 V5 O5 rfl HO7.out (.int .u8 3) rfl 3 bv_three (by have := HL5.out; omega) s7 ?_); intro v9 w9 h9 hg9 hv9; have ha9 : Below w7.heap.size w7 (w7.alloc (.cells #[.int .u8 3] 5)) := (Below.refl _ _).alloc (Nat.le_refl _) _; have hk9 : Below B0 w7 w9 := ((Below.refl _ _).alloc s7 _).grown hg9 (Nat.le_trans s7 (by simp)) (fun k e => (Own.lt HO7.out k e).1); have HO9 := Lib.hid h9; have HK9 := Lib.hid (HK7.out.trans hk9); have s9 : B0 ≤ w9.heap.size := (by rw [EB0.out]; exact HK9.out.size); have R9 : Hid (Rd w9 A7 (tb.map bv)) := Lib.hid (rd_apart (R7.out.below ha9) hg9 HD7.out (fun a e => (F7.out a e).1)); clear h9 hg9 hk9 ha9 hv9)
        | (at_builtin; (refine wpList_appB _ rfl (.tmp 55) (.tmp 56) rfl B0 v9 _ rfl HO9.out A7 _ c7 tb rfl rfl R9.out (by have := HL5.out; have := HTB.out; simp only [List.length_append, List.length_cons, List.length_nil]; omega) s9 ?_); intro v8 w8 h8 hg8 _; have HO8 := Lib.hid h8; have HK8 := Lib.hid (HK9.out.grown hg8 s9 (fun q e => (Own.lt HO9.out q e).1)); clear h8 hg8))
      go_meet
      exact ⟨Lib.hid (by rw [← HE.out]; exact HO8.out), HK8⟩
  case rest =>
  obtain ⟨W6, eW_⟩ : ∃ x, x = wc := ⟨_, rfl⟩
  rw [← eW_] at hcut ⊢
  obtain ⟨HO6, HK6⟩ := hcut
  clear eW_
  obtain ⟨V6, eV_⟩ : ∃ V, V = u5 := ⟨_, rfl⟩
  rw [← eV_] at HO6 ⊢
  clear eV_
  obtain ⟨O6, eO_⟩ : ∃ O, O = O5 ++ titB17 a b := ⟨_, rfl⟩
  rw [← eO_] at HO6
  have EO6 := Lib.hid eO_
  have HS6 : Hid (B0 ≤ W6.heap.size) := Lib.hid (by rw [EB0.out]; exact HK6.out.size)
  have HL6 : Hid (O6.length ≤ 120) := Lib.hid (by rw [eO_]; rw [List.length_append]; have := HL5.out; have := HTL.out; omega)
  clear eO_
  have HQ6 : Hid (ScB W6 q b A n1 c L m cm) := Lib.hid ((HK6.out.block q HB00.out.2.2).trans HQ0.out)
  have HP6 : Hid (ScB W6 p a A1 n1 c1 L1 m1 k1) := Lib.hid ((HK6.out.block p HB00.out.2.1).trans HP0.out)
  clear HO5 HK5 HP5 HQ5 HS5
  have x6 : W6.cell? ⟨q, 6, none⟩ = some (.int .u8 (M0 : Int)) := by rw [← EM0.out]; exact HQ6.out.nine.2.2.2.2.2.2.1
  have y6 : W6.cell? ⟨p, 6, none⟩ = some (.int .u8 a.mouse) := HP6.out.nine.2.2.2.2.2.2.1
  have e4 := E4.out
  rw [EM0.out] at e4
  go_upto_if 62 with (fail)
  clear y6 e4 x6
  go_cut [5] (fun s5 wx => Hid (OwnB wx B0 s5 (O6 ++ mouB a b)) ∧ Hid (Below B0 W0 wx))
  case first =>
    cases d4
    · have HE : Hid (O6 ++ mouB a b = O6) := Lib.hid (by rw [HMU.out, if_neg (by decide), List.append_nil])
      go_wp2_with (fail)
      go_meet
      exact ⟨Lib.hid (by rw [HE.out]; exact HO6.out), HK6⟩
    · obtain ⟨ns, ens⟩ : ∃ ns : List Nat, ns = [M0] := ⟨_, rfl⟩
      have HE : Hid (O6 ++ (lo 4 :: varsL ns) = O6 ++ mouB a b) := Lib.hid (by
        rw [ens, HMU.out, if_pos rfl, varsL, List.flatMap_cons, List.flatMap_nil, varL_lo (by have := HXY.out.2.2.1; omega), List.append_nil]; rfl)
      have x6 : W6.cell? ⟨q, 6, none⟩ = some (.int .u8 (M0 : Int)) := by rw [← EM0.out]; exact HQ6.out.nine.2.2.2.2.2.2.1
      have hwm : IntKind.i64.wrap (M0 : Int) = (M0 : Int) := IntWalk.i64_in _ ⟨by omega, by have := HXY.out.2.2.1; omega⟩
      have HX4 : Hid (∀ x ∈ ns, x < 2 ^ 63) := Lib.hid (by rw [ens]; have := HXY.out.2.2.1; intro x hx; rw [List.mem_singleton] at hx; omega)
      have HVL : Hid ((varsL ns).length ≤ 10 ∧ ns.length = 1) := Lib.hid (by have h := varsL_le ns (fun x hx => by have := HX4.out x hx; unfold U64; omega); rw [ens] at h ⊢; exact ⟨by simpa using h, rfl⟩)
      have HRL : Hid (Rd (W6.alloc (.cells #[.int .i64 (M0 : Int)] 3)) (some ⟨W6.heap.size, 0, none⟩) (ns.map nv)) := Lib.hid (rd_nums W6 ns _ _ (by rw [ens]; rfl))
      have hka : Below W6.heap.size W6 (W6.alloc (.cells #[.int .i64 (M0 : Int)] 3)) := (Below.refl _ _).alloc (Nat.le_refl _) _
      have HKA := Lib.hid (HK6.out.trans (hka.mono HS6.out))
      have HKS := Lib.hid (Nat.le_trans HS6.out hka.size)
      have HOA := Lib.hid (HO6.out.below hka)
      clear hka ens
      go_wp2_with (first
          | (go_at_call 23; (refine (put17_c 4 (by decide) (some ⟨W6.heap.size, 0, none⟩) 1 1 ns _ HVL.out.2 HRL.out (by decide) HX4.out).mono ?_); rintro _ w6 ⟨v6, rfl, ho6, hb6⟩; obtain ⟨A6, c6, rfl, _, _, r6, _⟩ := OwnB.form ho6; have R6 := Lib.hid r6; have HKx := Lib.hid (HKA.out.trans (hb6.mono HKS.out)); have s6 : B0 ≤ w6.heap.size := (by rw [EB0.out]; exact HKx.out.size); have HOx := Lib.hid (HOA.out.below hb6); clear ho6 hb6 r6)
          | (at_builtin; refine wpList_appB _ rfl (.tmp 63) (.tmp 68) rfl B0 V6 O6 rfl HOx.out A6 _ c6 (lo 4 :: varsL ns) rfl rfl R6.out (by have := HL6.out; have := HVL.out.1; (try simp only [List.length_cons]); omega) s6 ?_; intro v8 w8 h8 hg8 _; have HO8 := Lib.hid h8; have HK8 := Lib.hid (HKx.out.grown hg8 s6 (fun q e => (Own.lt HOx.out q e).1)); clear h8 hg8))
      go_meet
      exact ⟨Lib.hid (by rw [← HE.out]; exact HO8.out), HK8⟩
  case rest =>
  obtain ⟨W7, eW_⟩ : ∃ x, x = wc := ⟨_, rfl⟩
  rw [← eW_] at hcut ⊢
  obtain ⟨HO7, HK7⟩ := hcut
  clear eW_
  obtain ⟨V7, eV_⟩ : ∃ V, V = u5 := ⟨_, rfl⟩
  rw [← eV_] at HO7 ⊢
  clear eV_
  obtain ⟨O7, eO_⟩ : ∃ O, O = O6 ++ mouB a b := ⟨_, rfl⟩
  rw [← eO_] at HO7
  have EO7 := Lib.hid eO_
  have HS7 : Hid (B0 ≤ W7.heap.size) := Lib.hid (by rw [EB0.out]; exact HK7.out.size)
  have HL7 : Hid (O7.length ≤ 140) := Lib.hid (by rw [eO_]; rw [List.length_append]; have := HL6.out; have := HML.out; omega)
  clear eO_
  have HQ7 : Hid (ScB W7 q b A n1 c L m cm) := Lib.hid ((HK7.out.block q HB00.out.2.2).trans HQ0.out)
  have HP7 : Hid (ScB W7 p a A1 n1 c1 L1 m1 k1) := Lib.hid ((HK7.out.block p HB00.out.2.1).trans HP0.out)
  clear HO6 HK6 HP6 HQ6 HS6
  obtain ⟨RR, eRR⟩ : ∃ RR, runsD a.cells b.cells = RR := ⟨_, rfl⟩
  have ERR := Lib.hid eRR
  clear eRR
  obtain ⟨K, eK⟩ : ∃ K, K = RR.1 := ⟨_, rfl⟩
  have EK := Lib.hid eK
  have x2 : W7.cell? ⟨q, 2, none⟩ = some (.slice A n1 c) := HQ7.out.nine.2.2.1
  have y2 : W7.cell? ⟨p, 2, none⟩ = some (.slice A1 n1 c1) := HP7.out.nine.2.2.1
  have HK70 : Hid (Below W0.heap.size W0 W7) := Lib.hid (by rw [← EB0.out]; exact HK7.out)
  obtain ⟨bK, hbK⟩ : ∃ t, decide (0 < K) = t := ⟨_, rfl⟩
  have HBK := Lib.hid hbK
  have hbK2 : decide ((0 : Int) < (K : Int)) = bK := by rw [← hbK]; exact decide_eq_decide.2 (by omega)
  have HCL : Hid (celB a b = if bK then 5 :: (varL K ++ RR.2) else []) := Lib.hid (by
    unfold celB
    rw [ERR.out, ← eK]
    cases bK
    · have : K = 0 := by simp only [decide_eq_false_iff_not] at hbK; omega
      rw [if_pos this]; rfl
    · have : ¬ K = 0 := by simp only [decide_eq_true_eq] at hbK; omega
      rw [if_neg this]; rfl)
  clear eK
  go_upto_if 79 with (first
    | (go_at_call 39; (refine (layRuns_c A1 c1 a.cells A n1 c b.cells W7 HN.out.2.1 (RdC.below HRA.out.rd HK70.out) HN.out.2.2 (RdC.below HRB.out.rd HK70.out) HN.out.1 HRB.out.nc HCE.out).mono ?_); rintro _ w8 ⟨v8, rfl, ho8, hb8, hl8, hk8⟩; rw [ERR.out] at ho8 hl8 hk8 ⊢; rw [← EK.out] at hk8 ⊢; have HO8 := Lib.hid ho8; have HB8 := Lib.hid hb8; have HL8 := Lib.hid hl8; have HKN := Lib.hid hk8; clear ho8 hb8 hl8 hk8))
  clear x2 y2
  have HO78 := Lib.hid (HO7.out.below HB8.out)
  have HK78 := Lib.hid (HK7.out.trans (HB8.out.mono HS7.out))
  have HS8 : Hid (B0 ≤ w8.heap.size) := Lib.hid (by rw [EB0.out]; exact HK78.out.size)
  have HD7 : Hid (∀ k, V7.ownBlock = some k → k < W7.heap.size) := Lib.hid (fun k e => (Own.lt HO7.out k e).2)
  have EZF : Hid (O7 ++ celB a b = Z) := Lib.hid (by rw [← EZ.out, EO7.out, EO6.out, EO5.out]; unfold lay17; simp only [List.append_assoc])
  go_cut [5] (fun s5 wx => Hid (OwnB wx B0 s5 Z) ∧ Hid (Below B0 W0 wx) ∧ Hid (Z.length ≤ 200000))
  case first =>
    cases bK
    · have HE : Hid (O7 = Z) := Lib.hid (by rw [← EZF.out, HCL.out, if_neg (by decide), List.append_nil])
      go_wp2_with (fail)
      go_meet
      exact ⟨Lib.hid (by rw [← HE.out]; exact HO78.out), HK78, Lib.hid (by rw [← HE.out]; have := HL7.out; omega)⟩
    · obtain ⟨ns, ens⟩ : ∃ ns : List Nat, ns = [K] := ⟨_, rfl⟩
      have HE : Hid ((O7 ++ (lo 5 :: varsL ns)) ++ RR.2 = Z) := Lib.hid (by
        rw [← EZF.out, HCL.out, if_pos rfl, ens, varsL, List.flatMap_cons, List.flatMap_nil, List.append_nil, List.append_assoc]; rfl)
      have HX4 : Hid (∀ x ∈ ns, x < 2 ^ 63) := Lib.hid (by rw [ens]; have := HKN.out; have := HN.out.1; intro x hx; rw [List.mem_singleton] at hx; omega)
      have HVL : Hid ((varsL ns).length ≤ 10 ∧ ns.length = 1) := Lib.hid (by have h := varsL_le ns (fun x hx => by have := HX4.out x hx; unfold U64; omega); rw [ens] at h ⊢; exact ⟨by simpa using h, rfl⟩)
      have HRL : Hid (Rd (w8.alloc (.cells #[.int .i64 (K : Int)] 3)) (some ⟨w8.heap.size, 0, none⟩) (ns.map nv)) := Lib.hid (rd_nums w8 ns _ _ (by rw [ens]; rfl))
      have hka : Below w8.heap.size w8 (w8.alloc (.cells #[.int .i64 (K : Int)] 3)) := (Below.refl _ _).alloc (Nat.le_refl _) _
      have HKA := Lib.hid (HK78.out.trans (hka.mono HS8.out))
      have HKS := Lib.hid (Nat.le_trans HS8.out hka.size)
      have HOA := Lib.hid (HO78.out.below hka)
      obtain ⟨A8, c8, e8, _, _, r8, f8⟩ := OwnB.form HO8.out
      have R8 := Lib.hid (r8.below hka)
      have F8 := Lib.hid f8
      obtain ⟨l8, el8⟩ : ∃ l8, l8 = RR.2.length := ⟨_, rfl⟩
      rw [← el8] at e8
      have EL8 := Lib.hid el8
      subst e8
      clear hka ens r8 f8 el8
      go_wp2_with (first
          | (go_at_call 23; (refine (put17_c 5 (by decide) (some ⟨w8.heap.size, 0, none⟩) 1 1 ns _ HVL.out.2 HRL.out (by decide) HX4.out).mono ?_); rintro _ w6 ⟨v6, rfl, ho6, hb6⟩; obtain ⟨A6, c6, rfl, _, _, r6, _⟩ := OwnB.form ho6; have R6 := Lib.hid r6; have HKx := Lib.hid (HKA.out.trans (hb6.mono HKS.out)); have s6 : B0 ≤ w6.heap.size := (by rw [EB0.out]; exact HKx.out.size); have HOx := Lib.hid (HOA.out.below hb6); have R86 := Lib.hid (R8.out.below hb6); clear ho6 hb6 r6)
          | (at_builtin; refine wpList_appB _ rfl (.tmp 80) (.tmp 83) rfl B0 V7 O7 rfl HOx.out A6 _ c6 (lo 5 :: varsL ns) rfl rfl R6.out (by have := HL7.out; have := HVL.out.1; (try simp only [List.length_cons]); omega) s6 ?_; intro v9 w9 h9 hg9 _; have HO9 := Lib.hid h9; have HK9 := Lib.hid (HKx.out.grown hg9 s6 (fun q e => (Own.lt HOx.out q e).1)); have s9 : B0 ≤ w9.heap.size := (by rw [EB0.out]; exact HK9.out.size); have R9 : Hid (Rd w9 A8 (RR.2.map bv)) := Lib.hid (rd_apart R86.out hg9 HD7.out (fun a e => (F8.out a e).1)); clear h9 hg9)
          | (at_builtin; refine wpList_appB _ rfl (.tmp 84) (.tmp 85) rfl B0 v9 _ rfl HO9.out A8 l8 c8 RR.2 rfl EL8.out.symm R9.out (by have := HL7.out; have := HVL.out.1; have := EL8.out; have := HL8.out; have := HN.out.1; simp only [List.length_append, List.length_cons]; omega) s9 ?_; intro v5 w5 h5 hg5 _; have HO5 := Lib.hid h5; have HK5 := Lib.hid (HK9.out.grown hg5 s9 (fun q e => (Own.lt HO9.out q e).1)); clear h5 hg5))
      go_meet
      exact ⟨Lib.hid (by rw [← HE.out]; exact HO5.out), HK5, Lib.hid (by rw [← HE.out]; have := HL7.out; have := HVL.out.1; have := HL8.out; have := HN.out.1; simp only [List.length_append, List.length_cons]; omega)⟩
  case rest =>
  obtain ⟨HOF, HKF, HZF⟩ := hcut
  have HFIN : Hid (Below w.heap.size w wc) := Lib.hid (HB0.out.trans (HKF.out.mono HB00.out.1))
  go_wp2_with (fail)
  go_ret
  exact ⟨_, rfl, Own.low HOF.out HB00.out.1, HFIN.out, HZF.out⟩
end Go.Proofs.YtnnekdefncfeeaaDoor


/- Regions whose appends of bytes stand in a chain beside operations that float: the bytes that come are known; what each operation yields stays true as they come. Conditions: small slices besides. -/
namespace Go.Proofs.YtnnekdefncfeeaaDoor
open Go Go.RowKit

/-- A block of bytes that has room for L, into which bytes of F came. -/
def OutAt (F : List UInt8) (L : Nat) (a b : World) (j : Nat) : Prop := ∃ cs ds : Array Value, a.heap[j]? = some (.cells cs 5 (0, 0)) ∧ b.heap[j]? = some (.cells ds 5 (0, 0)) ∧ ds.size = cs.size ∧ L ≤ cs.size ∧ ∀ (i : Nat) (x : UInt8), F[i]? = some x → cs[i]? = some (bv x) → ds[i]? = some (bv x)
structure Hc (F : List UInt8) (B L : Nat) (a b : World) : Prop where
  low : Below B a b
  blk : ∀ j, j < a.heap.size → b.heap[j]? = a.heap[j]? ∨ OutAt F L a b j
theorem Hc.refl (F : List UInt8) (B L : Nat) (a : World) : Hc F B L a a := ⟨Below.refl _ _, fun _ _ => .inl rfl⟩
theorem Hc.trans {F : List UInt8} {B L : Nat} {a b c : World} (h : Hc F B L a b) (k : Hc F B L b c) : Hc F B L a c := by
  refine ⟨h.low.trans k.low, fun j hj => ?_⟩
  have hj2 := Nat.lt_of_lt_of_le hj h.low.size
  rcases h.blk j hj with e | ⟨cs, ds, h1, h2, h3, h4, h5⟩
  · rcases k.blk j hj2 with e2 | ⟨cs, ds, h1, h2, h3, h4, h5⟩
    · exact .inl (e2.trans e)
    · exact .inr ⟨cs, ds, by rw [← e]; exact h1, h2, h3, h4, h5⟩
  · rcases k.blk j hj2 with e2 | ⟨cs', ds', k1, k2, k3, k4, k5⟩
    · exact .inr ⟨cs, ds, h1, by rw [e2]; exact h2, h3, h4, h5⟩
    · rw [h2] at k1
      injection k1 with k1
      injection k1 with k1
      subst k1
      exact .inr ⟨cs, ds', h1, k2, k3.trans h3, h4, fun i x hx hc => k5 i x hx (h5 i x hx hc)⟩
theorem Hc.of {F : List UInt8} {B L : Nat} {a b : World} (hB : B ≤ a.heap.size) (h : Below a.heap.size a b) : Hc F B L a b := ⟨h.mono hB, fun j hj => .inl (h.block j hj)⟩
/-- Relations that stay. -/
structure Rh (F : List UInt8) (B L : Nat) where
  R : World → Value → Prop
  mono : ∀ {a b : World} {v : Value}, R a v → Hc F B L a b → R b v
section
variable {F : List UInt8} {B L : Nat}
def Rh.eq (u : Value) : Rh F B L := ⟨fun _ v => v = u, fun h _ => h⟩
def Rh.any : Rh F B L := ⟨fun _ _ => True, fun h _ => h⟩
/-- A slice of few bytes in a small block. -/
def SmallB (L : Nat) (bs : List UInt8) (w : World) (v : Value) : Prop := ∃ h cur c, v = .slice (some ⟨h, 0, none⟩) bs.length c ∧ w.heap[h]? = some (.cells cur 5 (0, 0)) ∧ cur.size < L ∧ ∀ (i : Nat) (x : UInt8), bs[i]? = some x → cur[i]? = some (bv x)
def Rh.small (bs : List UInt8) : Rh F B L := ⟨SmallB L bs, fun {a b v} ⟨h, cur, c, e, hg, hs, hc⟩ g => by
  rcases g.blk h (heap_lt hg) with e2 | ⟨cs, ds, h1, h2, h3, h4, h5⟩
  · exact ⟨h, cur, c, e, e2.trans hg, hs, hc⟩
  · rw [hg] at h1
    injection h1 with h1
    injection h1 with h1
    subst h1
    omega⟩
/-- What came so far. -/
def OutV (F : List UInt8) (B L k : Nat) (w : World) (v : Value) : Prop := ∃ g cur c, v = .slice (some ⟨g, 0, none⟩) k c ∧ B ≤ g ∧ w.heap[g]? = some (.cells cur 5 (0, 0)) ∧ cur.size = c ∧ L ≤ k ∧ k ≤ c ∧ c ≤ maxLen ∧ k ≤ F.length ∧ ∀ (i : Nat) (x : UInt8), i < k → F[i]? = some x → cur[i]? = some (bv x)
def Rh.out (k : Nat) : Rh F B L := ⟨OutV F B L k, fun {a b v} ⟨g, cur, c, e, hB, hg, hs, hL, hk, hm, hF, hc⟩ h => by
  rcases h.blk g (heap_lt hg) with e2 | ⟨cs, ds, h1, h2, h3, h4, h5⟩
  · exact ⟨g, cur, c, e, hB, e2.trans hg, hs, hL, hk, hm, hF, hc⟩
  · rw [hg] at h1
    injection h1 with h1
    injection h1 with h1
    subst h1
    exact ⟨g, ds, c, e, hB, h2, h3.trans hs, hL, hk, hm, hF, fun i x hi hx => h5 i x hx (hc i x hi hx)⟩⟩
theorem OutV.of {w : World} {v : Value} {bs : List UInt8} (h : OwnB w B v bs) (hF : ∃ r, F = bs ++ r) (hL : L ≤ bs.length) (h0 : 0 < bs.length) : OutV F B L bs.length w v := by
  obtain ⟨r, rfl⟩ := hF
  rcases h.2 with ⟨_, h1⟩ | ⟨g, cap, cur, rfl, hb, hg, hn, hm, hcs, ht⟩
  · rw [List.length_map] at h1; omega
  · rw [List.length_map] at hn ⊢
    refine ⟨g, cur, cap, rfl, hb, hg, by omega, hL, hn, hm, by simp, fun i x hi hx => ?_⟩
    rw [List.getElem?_append_left hi] at hx
    have h2 : (bs.map bv)[i]? = some (bv x) := by rw [List.getElem?_map, hx]; rfl
    rw [← ht, List.getElem?_take, List.length_map, if_pos (by omega)] at h2
    simpa using h2
theorem OutV.own {w : World} {v : Value} {k : Nat} (h : OutV F B L k w v) : OwnB w B v (F.take k) := by
  obtain ⟨g, cur, c, rfl, hB, hg, hs, hL, hk, hm, hF, hc⟩ := h
  have hl : (F.take k).length = k := by rw [List.length_take]; omega
  refine ⟨by rw [List.length_map, hl, Nat.mul_one], .inr ⟨g, c, cur, by rw [List.length_map, hl], hB, hg, by rw [List.length_map, hl]; exact hk, hm, by omega, ?_⟩⟩
  rw [List.length_map, hl, Nat.mul_one]
  apply List.ext_getElem?
  intro i
  rw [List.getElem?_take, List.getElem?_map, List.getElem?_take]
  by_cases hi : i < k
  · rw [if_pos hi, if_pos hi]
    obtain ⟨x, hx⟩ : ∃ x, F[i]? = some x := ⟨F[i]'(by omega), List.getElem?_eq_getElem (by omega)⟩
    rw [hx]
    simpa using hc i x hi hx
  · rw [if_neg hi, if_neg hi]; rfl
/-- One append of the chain. -/
theorem OutV.app {P : Program} {w : World} {v : Value} {k m c : Nat} {ty : TypeId} {i0 : TypeInfo} (ht : P.underlying 29 = some (.slice 5)) (hi : P.info? 5 = some i0) (hz : i0.zero = some (.int .u8 0)) (hz1 : i0.size = 1) (hz2 : i0.bytes = 1)
    (h : OutV F B L k w v) (ns : List UInt8) (a : Addr) (hm : ns.length = m) (hr : ∀ j u, (ns.map bv)[j]? = some u → w.cell? (a.add j) = some u) (hF : (F.drop k).take m = ns) (hsm : k + m ≤ 100000000) (h0 : 0 < L) (hB : B ≤ w.heap.size) :
    ∃ v' w', (Builtin.append_ #[29, 29] ty #[v, .slice (some a) m c]).run P w = .ok v' w' ∧ OutV F B L (k + m) w' v' ∧ Hc F B L w w' := by
  have hown := h.own
  obtain ⟨g, cur, cc, rfl, hBg, hg, hs, hL, hk, hmx, hFl, hc⟩ := h
  have hkm : k + m ≤ F.length := by
    have := congrArg List.length hF
    rw [List.length_take, List.length_drop, hm] at this
    omega
  have hFi : ∀ j, j < m → F[k + j]? = ns[j]? := fun j hj => by rw [← hF, List.getElem?_take, if_pos hj, List.getElem?_drop]
  by_cases hroom : k + m ≤ cc
  · have hrun := run_append_room (P := P) w 29 ty 5 i0 ht hi g k cc cur hg a m c (ns.map bv) (by rw [List.length_map, hm, hz1, Nat.mul_one]) hr (bv_one _) hroom (by rw [hz1, Nat.mul_one, List.length_map, hm]; omega)
    rw [hz1, Nat.mul_one, List.length_map, hm] at hrun
    obtain ⟨D, eD⟩ : ∃ D, D = (cur.toList.take k ++ ns.map bv ++ cur.toList.drop (k + m)).toArray := ⟨_, rfl⟩
    rw [← eD] at hrun
    have hDs : D.size = cur.size := by rw [eD]; simp [hm]; omega
    have hD1 : ∀ i, i < k → D[i]? = cur[i]? := fun i hi => by
      rw [eD, List.getElem?_toArray, List.append_assoc, List.getElem?_append_left (by simp; omega), List.getElem?_take, if_pos hi]; simp
    have hD2 : ∀ j, j < m → D[k + j]? = (ns.map bv)[j]? := fun j hj => by
      rw [eD, List.getElem?_toArray, List.append_assoc, List.getElem?_append_right (by simp; omega), List.getElem?_append_left (by simp; omega)]
      congr 1; simp; omega
    have hD3 : ∀ i, k + m ≤ i → D[i]? = cur[i]? := fun i hi => by
      rw [eD, List.getElem?_toArray, List.getElem?_append_right (by simp [hm]; omega), List.getElem?_drop]
      have : k + m + (i - (cur.toList.take k ++ ns.map bv).length) = i := by simp [hm]; omega
      rw [this]; simp
    have hnew : ∀ (i : Nat) (x : UInt8), i < k + m → k ≤ i → F[i]? = some x → D[i]? = some (bv x) := fun i x h1 h2 hx => by
      have e := hFi (i - k) (by omega)
      rw [show k + (i - k) = i by omega, hx] at e
      have := hD2 (i - k) (by omega)
      rw [show k + (i - k) = i by omega, List.getElem?_map, ← e] at this
      exact this
    refine ⟨_, _, hrun, ⟨g, D, cc, rfl, hBg, setRow_heap w g cur _ _ _ hg, hDs.trans hs, by omega, hroom, hmx, hkm, fun i x hi' hx => ?_⟩, ⟨⟨rfl, rfl, rfl, by simp, fun q hq => setRow_other w g q _ (by omega)⟩, fun j hj => ?_⟩⟩
    · rcases Nat.lt_or_ge i k with h1 | h1
      · rw [hD1 i h1]; exact hc i x h1 hx
      · exact hnew i x hi' h1 hx
    · by_cases e : j = g
      · subst e
        refine .inr ⟨cur, D, hg, setRow_heap w j cur _ _ _ hg, hDs, by omega, fun i x hx hcx => ?_⟩
        rcases Nat.lt_or_ge i k with h1 | h1
        · rw [hD1 i h1]; exact hcx
        · rcases Nat.lt_or_ge i (k + m) with h2 | h2
          · exact hnew i x h2 h1 hx
          · rw [hD3 i h2]; exact hcx
      · exact .inl (setRow_other w g j _ e)
  · have hx : (F.take k ++ ns) = F.take (k + m) := by rw [List.take_add, hF]
    have htl : (F.take k).length = k := by rw [List.length_take]; omega
    have holds : ∀ j u, ((F.take k).map bv)[j]? = some u → w.cell? ((⟨g, 0, none⟩ : Addr).add j) = some u := by
      have := hown.cells (g := g) rfl
      exact this
    obtain ⟨v', w', r1, r2, r3, _, _⟩ := run_append_own_at (P := P) w B 29 ty 5 i0 (.int .u8 0) 1 1 ht hi hz hz1 hz2 rfl (by decide) _ _ ((F.take k).map bv) hown a m c (ns.map bv) (by rw [List.length_map, hm, Nat.mul_one]) hr (bv_one _) (by rw [List.length_map, htl]; unfold maxLen; omega) (by rw [List.length_map, htl]; omega) hB
    have r4 := run_append_grow (P := P) w 29 ty 5 i0 (.int .u8 0) ht hi hz ⟨g, 0, none⟩ k cc ((F.take k).map bv) (by rw [List.length_map, htl, hz1, Nat.mul_one]) holds a m c (ns.map bv) (by rw [List.length_map, hm, hz1, Nat.mul_one]) hr (by omega) (by omega) (growslice_fits (by omega) (by rw [hz2]; omega))
    have e := r4.symm.trans r1
    injection e with e1 e2
    have hbw : Below w.heap.size w w' := by rw [← e2]; exact (show Below w.heap.size w w.drew from below_drewN (Below.refl _ _) 1).alloc (Nat.le_refl _) _
    refine ⟨v', w', r1, ?_, Hc.of hB hbw⟩
    have r2' : OwnB w' B v' (F.take (k + m)) := by
      rw [← hx]
      rw [List.length_map, htl] at r2
      unfold OwnB Own
      rw [List.length_map, List.length_append, htl, hm, List.map_append]
      exact r2
    have hl2 : (F.take (k + m)).length = k + m := by rw [List.length_take]; omega
    have := OutV.of (F := F) (L := L) r2' ⟨F.drop (k + m), (List.take_append_drop _ _).symm⟩ (by omega)
    rw [hl2] at this
    exact this (by omega)
end
/-! ### The law -/
theorem SmallB.rd {L : Nat} {bs : List UInt8} {w : World} {v : Value} (h : SmallB L bs w v) : ∃ a c, v = .slice (some a) bs.length c ∧ ∀ j u, (bs.map bv)[j]? = some u → w.cell? (a.add j) = some u := by
  obtain ⟨g, cur, c, e, hg, _, hc⟩ := h
  refine ⟨⟨g, 0, none⟩, c, e, fun j u hu => ?_⟩
  rw [List.getElem?_map] at hu
  obtain ⟨x, hx, rfl⟩ := Option.map_eq_some_iff.1 hu
  rw [Addr.add_lit, Nat.zero_add, cell_of_row w g j cur _ (0, 0) hg]
  exact hc j x hx
end Go.Proofs.YtnnekdefncfeeaaDoor


/- An append of a text in such a chain; one byte laid. Conditions: as there. -/
namespace Go.Proofs.YtnnekdefncfeeaaDoor
open Go Go.RowKit

section
variable {F : List UInt8} {B L : Nat}
end
end Go.Proofs.YtnnekdefncfeeaaDoor


/- What rows.lay answers: the diff by rows. Conditions: the second screen fits, the first has as many cells. -/
namespace Go.Proofs.YtnnekdefncfeeaaDoor
open Go Go.RowKit Go.Lib

theorem Hc.keep {F : List UInt8} {B L : Nat} {a b : World} {j : Nat} {cs : Array Value} {t : TypeId} (h : Hc F B L a b) (hj : a.heap[j]? = some (.cells cs t (0, 0))) (ht : t ≠ 5) : b.heap[j]? = some (.cells cs t (0, 0)) := by
  rcases h.blk j (heap_lt hj) with e | ⟨cs', ds, h1, _⟩
  · exact e.trans hj
  · rw [hj] at h1
    injection h1 with h1
    injection h1 with _ h2
    exact absurd h2 ht
end Go.Proofs.YtnnekdefncfeeaaDoor


/- Tools for the walks over screens: sound screens, an answer in memory of its own, Same, a cell turned. Conditions: none. -/
namespace Go.Proofs.YtnnekdefncfeeaaDoor
open Go Go.RowKit Go.Lib

theorem OwnC.parts {w : World} {B n c : Nat} {A : Option Addr} {ds : List CeD} (h : OwnC w B (.slice A n c) ds) : ds.length = n ∧ RdC w A ds ∧ n ≤ c ∧ (∀ a, A = some a → B ≤ a.block ∧ a.block < w.heap.size ∧ a.off = 0 ∧ a.spot = none) ∧ (A = none → c = 0) := by
  obtain ⟨A2, c2, e, h1, _, h3, h4, h5⟩ := h.form
  injection e with e1 e2 e3
  subst e1 e2 e3
  exact ⟨rfl, h3, h1, h4, h5⟩
theorem OwnT.parts {w : World} {B n c : Nat} {A : Option Addr} {ss : List ByteArray} (h : OwnT w B (.slice A n c) ss) : ss.length = n ∧ RdT w A ss ∧ n ≤ c ∧ (∀ a, A = some a → B ≤ a.block ∧ a.block < w.heap.size ∧ a.off = 0 ∧ a.spot = none) := by
  obtain ⟨A2, c2, e, h1, _, h3, h4⟩ := OwnT.form h
  injection e with e1 e2 e3
  subst e1 e2 e3
  exact ⟨rfl, h3, h1, h4⟩
/-- A screen that is no greater than is gone through, its numbers such as its types hold. -/
structure Sound (s : ScD) : Prop where
  nl : s.cells.length ≤ 60000
  ml : s.links.length ≤ 60000
  us : ∀ u ∈ s.links, u.size ≤ 140737488355328
  ok : okLn s.cells
  tl : s.title.size ≤ 1000000
  col : ∀ d ∈ s.cells, 0 ≤ d.fg ∧ 0 ≤ d.bg
theorem Sound.read {s : ScD} (h : Sound s) {w : World} {B B' n c m d : Nat} {A L : Option Addr} (hc : OwnC w B (.slice A n c) s.cells) (ht : OwnT w B' (.slice L m d) s.links) : ScR w s A n c L m d := by
  obtain ⟨c1, c2, c3, _⟩ := hc.parts
  obtain ⟨t1, t2, t3, _⟩ := OwnT.parts ht
  exact ⟨c1, c2, c3, by rw [← c1]; exact h.nl, t1, t2, t3, by rw [← t1]; exact h.ml, h.us, h.ok, h.tl⟩
/-- An answer: a screen in memory of its own. -/
def ScrV (w : World) (B : Nat) (s : ScD) (v : Value) : Prop := ∃ A n c L m d, v = .agg (scC s A n c L m d) ∧ OwnC w B (.slice A n c) s.cells ∧ OwnT w B (.slice L m d) s.links ∧ (∀ a b, A = some a → L = some b → a.block ≠ b.block)
theorem ScrV.below {w w' : World} {B : Nat} {s : ScD} {v : Value} (h : ScrV w B s v) (hb : Below w.heap.size w w') : ScrV w' B s v := by
  obtain ⟨A, n, c, L, m, d, e, h1, h2, h3⟩ := h
  exact ⟨A, n, c, L, m, d, e, OwnC.below h1 hb, Own.below h2 hb, h3⟩
def Rl.scr (B : Nat) (s : ScD) : Rl := ⟨fun w v => ScrV w B s v, fun h g => h.below g⟩
theorem same_c (s t : ScD) (A : Option Addr) (n c : Nat) (L : Option Addr) (m cm : Nat) (B : Option Addr) (k d : Nat) (M : Option Addr) (l dm : Nat) (w : World) (h1 : ScR w s A n c L m cm) (h2 : ScR w t B k d M l dm) :
    Calls Tryd.prog 17 #[.agg (scC s A n c L m cm), .agg (scC t B k d M l dm)] w fun e w' => e = .returned (.bool (sameS s t)) ∧ Below w.heap.size w w' :=
  refSameS_c s A n c L m cm t B k d M l dm w h1.hn h1.rd h1.hm h1.rt h2.hn h2.rd h2.hm h2.rt (by have := h1.nl; omega) (by have := h1.ml; omega)
/-! ### Cells turned -/
theorem cellsC_rune : ∀ (ds : List CeD) (i : Nat) (h : i < ds.length) (x : Int), (cellsC ds).set (i * 6) (.int .i32 x) = cellsC (ds.set i ⟨x, ds[i].w, ds[i].fg, ds[i].bg, ds[i].at_, ds[i].ln⟩)
  | d :: ds, 0, _, x => rfl
  | d :: ds, i + 1, h, x => by
    have ih := cellsC_rune ds i (by simpa using h) x
    have e0 : (i + 1) * 6 - d.cells.length = i * 6 := by simp [CeD.cells]; omega
    rw [cellsC_cons, List.set_append_right _ _ (by simp [CeD.cells]; omega), e0, ih]
    rfl
theorem OwnC.rune {w : World} {B g n c : Nat} {ds : List CeD} (h : OwnC w B (.slice (some ⟨g, 0, none⟩) n c) ds) (i : Nat) (hi : i < ds.length) (x : Int) : OwnC (w.setCell ⟨g, i * 6, none⟩ (.int .i32 x)) B (.slice (some ⟨g, 0, none⟩) n c) (ds.set i ⟨x, ds[i].w, ds[i].fg, ds[i].bg, ds[i].at_, ds[i].ln⟩) := by
  have hl := h.len.1
  have h2 := (h.to_n.stored (i * 6) (.int .i32 x)).1
  rw [cellsC_rune ds i hi x] at h2
  unfold OwnC
  rw [List.length_set, ← hl]
  exact h2
end Go.Proofs.YtnnekdefncfeeaaDoor


/- What Full and Encode (16) answer, the code's and the reference's. Conditions: the screens' parts can be read; the tables lie where they were laid. -/
namespace Go.Proofs.YtnnekdefncfeeaaDoor
open Go Go.RowKit Go.Lib

theorem Fit16.fits {s : ScD} {C R : Nat} (h : Fit16 s C R) : fitsI (C : Int) (R : Int) = true := by
  have h1 := h.c1; have h2 := h.c2; have h3 := h.r1; have h4 := h.r2
  simp only [fitsI, Bool.and_eq_true, decide_eq_true_eq]
  omega
theorem blank_sound16 {C R : Nat} (h : fitsI (C : Int) (R : Int) = true) : Sound (blankS C R) := by
  have hn := fitsI_nat h
  obtain ⟨C', R', e1, e2, c1, c2, r1, r2⟩ := hn
  have hm := Nat.mul_le_mul (show C ≤ 80 by omega) (show R ≤ 24 by omega)
  have e : ((C : Int) * (R : Int)).toNat = C * R := by rw [← Int.natCast_mul]; rfl
  have mem : ∀ d ∈ (blankS C R).cells, d = blankD := fun d hd => List.eq_of_mem_replicate hd
  exact ⟨by show (List.replicate ((C : Int) * (R : Int)).toNat blankD).length ≤ 60000; rw [List.length_replicate, e]; omega, Nat.zero_le _, fun u hu => (by cases hu), fun d hd => by rw [mem d hd]; decide, Nat.zero_le _, fun d hd => by rw [mem d hd]; decide⟩
theorem blank_read16 {w : World} {B C R N c : Nat} {A : Option Addr} (hf : fitsI (C : Int) (R : Int) = true) (hN : N = C * R) (h : OwnC w B (.slice A N c) (List.replicate N blankD)) : ScR w (blankS C R) A N c none 0 0 := by
  have e : ((C : Int) * (R : Int)).toNat = N := by rw [← Int.natCast_mul, hN]; rfl
  have h2 : OwnC w B (.slice A N c) (blankS C R).cells := by
    show OwnC w B (.slice A N c) (List.replicate ((C : Int) * (R : Int)).toNat blankD)
    rw [e]; exact h
  exact (blank_sound16 hf).read h2 (World.ownsRow_nil _ 0 _ _)
end Go.Proofs.YtnnekdefncfeeaaDoor

