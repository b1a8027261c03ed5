/- The walk of the law KeysEncodes: it returns true. Conditions: the row's own. -/
import Derived.Test.YtgnciejbhaebeaaKq2
import Derived.Test.YtgnciejbhaebeaaKe3
import Derived.Test.YtgnciejbhaebeaaKe4
import Derived.Test.YtgnciejbhaebeaaKe7
import Derived.Test.YtgnciejbhaebeaaOev
namespace Go.Proofs.Ytgnciejbhaebeaa
open Go Go.RowKit

theorem u64_nat {z : Int} (hz : (Lit.int .u64 z).wf = true) : ∃ k : Nat, z = (k : Int) ∧ U64 k := by
  simp only [Lit.wf, IntKind.min, IntKind.max, IntKind.signed, IntKind.bits, Bool.and_eq_true, decide_eq_true_eq] at hz
  have w1 : (0 : Int) ≤ z := by simpa using hz.1
  have w2 : z ≤ 18446744073709551615 := by simpa using hz.2
  exact ⟨z.toNat, by omega, by unfold U64; omega⟩
structure Five (w : World) (b off k : Nat) (At : Option Addr) (m cm : Nat) (z0 z2 z3 z4 : Int) : Prop where
  lt : b < w.heap.size
  c : w.cell? ⟨b, off + k * 5, none⟩ = some (.int .i64 z0) ∧ w.cell? ⟨b, off + k * 5 + 1, none⟩ = some (.slice At m cm) ∧ w.cell? ⟨b, off + k * 5 + 2, none⟩ = some (.int .i64 z2) ∧ w.cell? ⟨b, off + k * 5 + 3, none⟩ = some (.int .i64 z3) ∧ w.cell? ⟨b, off + k * 5 + 4, none⟩ = some (.int .i64 z4)
theorem Five.drewN {w : World} {b off k m cm : Nat} {At : Option Addr} {z0 z2 z3 z4 : Int} (h : Five w b off k At m cm z0 z2 z3 z4) (q : Nat) : Five (w.drewN q) b off k At m cm z0 z2 z3 z4 := ⟨h.lt, h.c⟩
theorem Five.below {w w' : World} {b off k m cm : Nat} {At : Option Addr} {z0 z2 z3 z4 : Int} (h : Five w b off k At m cm z0 z2 z3 z4) (hb : Below w.heap.size w w') : w'.cell? ⟨b, off + k * 5, none⟩ = some (.int .i64 z0) ∧ w'.cell? ⟨b, off + k * 5 + 1, none⟩ = some (.slice At m cm) ∧ w'.cell? ⟨b, off + k * 5 + 2, none⟩ = some (.int .i64 z2) ∧ w'.cell? ⟨b, off + k * 5 + 3, none⟩ = some (.int .i64 z3) ∧ w'.cell? ⟨b, off + k * 5 + 4, none⟩ = some (.int .i64 z4) := by
  obtain ⟨c0, c1, c2, c3, c4⟩ := h.c
  exact ⟨(hb.cell (p := ⟨b, _, none⟩) h.lt).trans c0, (hb.cell (p := ⟨b, _, none⟩) h.lt).trans c1, (hb.cell (p := ⟨b, _, none⟩) h.lt).trans c2, (hb.cell (p := ⟨b, _, none⟩) h.lt).trans c3, (hb.cell (p := ⟨b, _, none⟩) h.lt).trans c4⟩

set_option maxRecDepth 100000 in
set_option maxHeartbeats 4000000 in
theorem KeysEncodes_n (w : World) (ver : Int) (base : Nat) (hu : U64 base) (A : Option Addr) (n c : Nat) (ds : List EvV) (es : List Ev) (hn : es.length = n) (hr : EvsR (· < w.heap.size) w A ds es) (hc : n ≤ c) (hm : c ≤ maxLen) (hl : n ≤ 2513169434843) :
    Calls Try.prog 3 #[.int .i64 ver, .int .u64 (base : Int), .slice A n c] w fun r w' => r = .returned (.bool true) ∧ Below w.heap.size w w' := by
  have HN := Lib.hid hn; clear hn
  have HR := Lib.hid hr; clear hr
  obtain ⟨G, eG⟩ : ∃ G, G = greatB es := ⟨_, rfl⟩
  obtain ⟨L, er, eE⟩ : ∃ L er, encE ver base es = (L, er) := ⟨_, _, rfl⟩
  have EE := Lib.hid eE; clear eE
  have hne : ((er : Int) != (er : Int)) = false := by simp
  go_enter Try.func3, Try.ntmps3
  go_wp2_with (fail)
  refine (great_c _ A n c ds es w HN.out HR.out hc hm).mono ?_
  rintro r w0 ⟨rfl, q, rfl⟩
  rw [← eG]
  clear eG
  have k0 := below_drewN (Below.refl w.heap.size w) q
  cases G with
  | true =>
    go_wp2_with (fail)
    refine (fixed24_c _).mono ?_
    rintro r w1 ⟨rfl, hb1⟩
    go_wp2_with (fail)
    go_ret
    exact ⟨rfl, k0.trans (hb1.mono k0.size)⟩
  | false =>
    have HR0 := Lib.hid (HR.out.below k0)
    go_wp2_with (fail)
    refine (Copy24_c _ A n c ds es _ HN.out HR0.out (by omega)).mono ?_
    rintro r w1 ⟨v1, d1, rfl, ho1, hb1⟩
    obtain ⟨A1, c', rfl, p1, p2, p3⟩ := ho1.form
    rw [HN.out] at p1 ⊢
    have k1 := k0.trans (hb1.mono k0.size)
    have H1 := Lib.hid p3
    clear ho1 hb1 p3 HR0
    go_wp2_with (fail)
    refine (Encode_c _ ver base A1 n c' d1 es w1 hu HN.out H1.out (by omega)).mono ?_
    rintro r w2 ⟨v2, rfl, ho2, hb2⟩
    rw [EE.out] at ho2 ⊢
    simp only at ho2 ⊢
    obtain ⟨A2, c2, rfl, p3, p4, p5, _⟩ := OwnB.form ho2
    have k2 := k1.trans (hb2.mono k1.size)
    have H2 := Lib.hid (H1.out.below hb2)
    have B2 := Lib.hid p5
    clear ho2 hb2 H1 p5
    obtain ⟨ln, eln⟩ : ∃ ln, ln = L.length := ⟨_, rfl⟩
    rw [← eln] at p3 ⊢
    have LN := Lib.hid eln; clear eln
    go_wp2_with (fail)
    refine (refEncode_c _ ver base A n c ds es w2 hu HN.out (HR.out.below k2) (by omega)).mono ?_
    rintro r w3 ⟨v3, rfl, ho3, hb3⟩
    rw [EE.out] at ho3 ⊢
    simp only at ho3 ⊢
    obtain ⟨A3, c3, rfl, p6, p7, p8, _⟩ := OwnB.form ho3
    rw [← LN.out] at p6 ⊢
    have k3 := k2.trans (hb3.mono k2.size)
    have H3 := Lib.hid (H2.out.below hb3)
    have B2' := Lib.hid (B2.out.below hb3)
    have B3 := Lib.hid p8
    clear ho3 hb3 H2 p8 B2
    go_wp2_with (fail)
    refine (fixed24_c w3).mono ?_
    rintro r w4 ⟨rfl, hb4⟩
    have k4 := k3.trans (hb4.mono k3.size)
    have H4 := Lib.hid (H3.out.below hb4)
    have B2 := Lib.hid (B2'.out.below hb4)
    have B3' := Lib.hid (B3.out.below hb4)
    clear hb4 H3 B2' B3
    go_wp2_with (fail)
    refine (Same_t A2 A3 ln ln c2 c3 L w4 LN.out.symm LN.out.symm B2.out B3'.out (Nat.le_trans p3 p4)).mono ?_
    rintro r w5 ⟨rfl, q5, rfl⟩
    have k5 := below_drewN k4 q5
    have H5 := Lib.hid (H4.out.below (below_drewN (Below.refl _ _) q5))
    obtain ⟨w5, ew5⟩ : ∃ w5, w5 = w4.drewN q5 := ⟨_, rfl⟩
    rw [← ew5] at k5 H5 ⊢
    clear ew5 H4 B2 B3' k0 k1 k2 k3 k4
    go_wp2_with (fail)
    go_loopw [47] (fun i wr => ∃ (k : Nat), k ≤ n ∧ i = .int .i64 k ∧ Below w5.heap.size w5 wr) (fun i _ => n - (intOf i).toNat)
    case atStart => exact ⟨0, Nat.zero_le _, rfl, Below.refl _ _⟩
    case round =>
      obtain ⟨k, hk, rfl, kb⟩ := hrel
      have kz := k5.trans (kb.mono k5.size)
      have H6 := Lib.hid (H5.out.below kb)
      have HR6 := Lib.hid (HR.out.below kz)
      rcases Nat.lt_or_ge k n with hlt | hge
      · obtain ⟨e, b1, o1, At1, m, cm1, ee, rfl, hb1, -, t1, c0, ca, cb, cc, cd⟩ := H6.out.at_ k (by rw [HN.out]; exact hlt)
        obtain ⟨e', b2, o2, At2, m2, cm2, ee', rfl, hb2, -, t2, d0, da, db, dc, dd⟩ := HR6.out.at_ k (by rw [HN.out]; exact hlt)
        obtain rfl : e = e' := ee.trans ee'.symm
        clear ee ee'
        obtain ⟨z0, t, z2, z3, z4⟩ := e
        obtain ⟨l1, -⟩ := t1
        obtain ⟨l2, -⟩ := t2
        simp only at c0 ca cb cc cd d0 da db dc dd l1 l2
        obtain rfl : m = m2 := l1.symm.trans l2
        have F1 : Hid (Five wr b1 o1 k At1 m cm1 z0 z2 z3 z4) := Lib.hid ⟨hb1, c0, ca, cb, cc, cd⟩
        have F2 : Hid (Five wr b2 o2 k At2 m cm2 z0 z2 z3 z4) := Lib.hid ⟨hb2, d0, da, db, dc, dd⟩
        clear c0 ca cb cc cd d0 da db dc dd l1 l2
        have hlt' : (k : Int) < (n : Int) := by omega
        go_wp2_with (fail)
        refine wp_region_rw 65 [Rl.eq (.slice (some ⟨b1, o1, none⟩) n c'), Rl.eq (.int .i64 (k : Int)), Rl.eq (.pointer (some ⟨b1, o1 + k * 5, none⟩)), Rl.eq (.agg #[.int .i64 z0, .slice At1 m cm1, .int .i64 z2, .int .i64 z3, .int .i64 z4]), Rl.eq (.bool (mayB z0 z2 z3 z4 m)), Rl.eq (.slice (some ⟨b2, o2, none⟩) n c), Rl.eq (.int .i64 (k : Int)), Rl.eq (.pointer (some ⟨b2, o2 + k * 5, none⟩)), Rl.eq (.agg #[.int .i64 z0, .slice At2 m cm2, .int .i64 z2, .int .i64 z3, .int .i64 z4]), Rl.eq (.bool (mayB z0 z2 z3 z4 m)), Rl.eq (.bool false)] [50, 51, 52, 53, 54, 55, 56, 57, 58, 59, 60] (by kernel_rfl) rfl (by kernel_rfl) (by kernel_rfl) ?_ ?_
        · repeat (first | exact AllFrom.nil_ | (refine AllFrom.cons_ (by rfl) ?_ ?_; rotate_left))
          · intro f w' g hF hD
            have h7 : f 7 = .slice (some ⟨b1, o1, none⟩) n c' := hF 7 (by kernel_rfl)
            rw [if_pos (wanted_none rfl)]
            clear hF hD
            exact gives_val (by simp only [execOp, evF, h7]; first | rfl | go_simp) ⟨Gr.refl _, rfl⟩
          · intro f w' g hF hD
            have h12 : f 12 = .int .i64 (k : Int) := hF 12 (by kernel_rfl)
            rw [if_pos (wanted_none rfl)]
            clear hF hD
            exact gives_val (by simp only [execOp, evF, h12]; first | rfl | go_simp) ⟨Gr.refl _, rfl⟩
          · intro f w' g hF hD
            have h50 : f 50 = (.slice (some ⟨b1, o1, none⟩) n c') := hD 0 50 (by kernel_rfl) rfl
            have h51 : f 51 = (.int .i64 (k : Int)) := hD 1 51 (by kernel_rfl) rfl
            rw [if_pos (wanted_none rfl)]
            clear hF hD
            exact gives_val (by simp only [execOp, evF, h50, h51]; first | rfl | go_simp) ⟨Gr.refl _, rfl⟩
          · intro f w' g hF hD
            have h52 : f 52 = (.pointer (some ⟨b1, o1 + k * 5, none⟩)) := hD 2 52 (by kernel_rfl) rfl
            rw [if_pos (wanted_none rfl)]
            clear hF hD
            obtain ⟨c0, ca, cb, cc, cd⟩ := (F1.out.drewN 1).below g
            exact gives_val (by simp only [execOp, evF, h52]; go_simp) ⟨Gr.refl _, rfl⟩
          · intro f w' g hF hD
            have h53 : f 53 = (.agg #[.int .i64 z0, .slice At1 m cm1, .int .i64 z2, .int .i64 z3, .int .i64 z4]) := hD 3 53 (by kernel_rfl) rfl
            rw [if_pos (wanted_none rfl)]
            clear hF hD
            refine gives_func rfl Try.func22 (by kernel_rfl) rfl (by simp only [List.map_toArray, List.map_cons, List.map_nil, evF, h53]) ((May_c z0 z2 z3 z4 At1 m cm1 w').mono ?_)
            rintro e w'' ⟨rfl, hb⟩
            exact ⟨_, rfl, hb, rfl⟩
          · intro f w' g hF hD
            have h2 : f 2 = .slice (some ⟨b2, o2, none⟩) n c := hF 2 (by kernel_rfl)
            rw [if_pos (wanted_none rfl)]
            clear hF hD
            exact gives_val (by simp only [execOp, evF, h2]; first | rfl | go_simp) ⟨Gr.refl _, rfl⟩
          · intro f w' g hF hD
            have h12 : f 12 = .int .i64 (k : Int) := hF 12 (by kernel_rfl)
            rw [if_pos (wanted_none rfl)]
            clear hF hD
            exact gives_val (by simp only [execOp, evF, h12]; first | rfl | go_simp) ⟨Gr.refl _, rfl⟩
          · intro f w' g hF hD
            have h55 : f 55 = (.slice (some ⟨b2, o2, none⟩) n c) := hD 5 55 (by kernel_rfl) rfl
            have h56 : f 56 = (.int .i64 (k : Int)) := hD 6 56 (by kernel_rfl) rfl
            rw [if_pos (wanted_none rfl)]
            clear hF hD
            exact gives_val (by simp only [execOp, evF, h55, h56]; first | rfl | go_simp) ⟨Gr.refl _, rfl⟩
          · intro f w' g hF hD
            have h57 : f 57 = (.pointer (some ⟨b2, o2 + k * 5, none⟩)) := hD 7 57 (by kernel_rfl) rfl
            rw [if_pos (wanted_none rfl)]
            clear hF hD
            obtain ⟨c0, ca, cb, cc, cd⟩ := (F2.out.drewN 1).below g
            exact gives_val (by simp only [execOp, evF, h57]; go_simp) ⟨Gr.refl _, rfl⟩
          · intro f w' g hF hD
            have h58 : f 58 = (.agg #[.int .i64 z0, .slice At2 m cm2, .int .i64 z2, .int .i64 z3, .int .i64 z4]) := hD 8 58 (by kernel_rfl) rfl
            rw [if_pos (wanted_none rfl)]
            clear hF hD
            refine gives_func rfl Try.func23 (by kernel_rfl) rfl (by simp only [List.map_toArray, List.map_cons, List.map_nil, evF, h58]) ((refMay_c z0 z2 z3 z4 At2 m cm2 w').mono ?_)
            rintro e w'' ⟨rfl, hb⟩
            exact ⟨_, rfl, hb, rfl⟩
          · intro f w' g hF hD
            have h54 : f 54 = (.bool (mayB z0 z2 z3 z4 m)) := hD 4 54 (by kernel_rfl) rfl
            have h59 : f 59 = (.bool (mayB z0 z2 z3 z4 m)) := hD 9 59 (by kernel_rfl) rfl
            rw [if_pos (wanted_none rfl)]
            clear hF hD
            exact gives_val (by simp only [execOp, evF, h54, h59]; go_simp) ⟨Gr.refl _, rfl⟩
        · intro f w' g hD
          have h60 : f 60 = .bool false := hD 10 60 rfl
          have kf := (below_drewN kb 1).trans (g.mono (below_drewN kb 1).size)
          clear hD F1 F2
          simp only [putAll, List.setIfInBounds_toArray, List.set_cons_zero, List.set_cons_succ, h60]
          go_wp2_with (fail)
          go_roundw
          case rel => exact ⟨k + 1, by omega, by go_num, kf⟩
          case measure => simp [intOf]; omega
      · obtain rfl : n = k := by omega
        go_wp2_with (fail)
        refine (Same24_t _ _ A1 A n c' c d1 ds es wr HN.out H6.out HR6.out (by omega)).mono ?_
        rintro r w7 ⟨rfl, q7, rfl⟩
        go_wp2_with (fail)
        go_ret
        exact ⟨rfl, below_drewN kz q7⟩

theorem KeysEncodes_walk (w : World) (ver : Int) (_ : (Lit.int .i64 ver).wf = true) (z : Int) (hz : (Lit.int .u64 z).wf = true) (A : Option Addr) (n c : Nat) (ds : List EvV) (es : List Ev) (h : es.length = n ∧ EvsR (· < w.heap.size) w A ds es ∧ n ≤ c ∧ c ≤ maxLen ∧ n ≤ 2513169434843) :
    Calls Try.prog 3 #[.int .i64 ver, .int .u64 z, .slice A n c] w fun r w' => r = .returned (.bool true) ∧ Below w.heap.size w w' := by
  obtain ⟨k, rfl, hk⟩ := u64_nat hz
  exact KeysEncodes_n w ver k hk A n c ds es h.1 h.2.1 h.2.2.1 h.2.2.2.1 h.2.2.2.2
end Go.Proofs.Ytgnciejbhaebeaa
