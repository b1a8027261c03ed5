/- Parts one behind the other: What a reading's runs do: runs of cells are read and put into the screen. Conditions: as told at each. -/
import Derived.Test.YtndjggabdajbfaaGreatDoorPG22
import Derived.Test.YtndjggabdajbfaaGreatDoorPG18
import Derived.Test.YtndjggabdajbfaaGreatDoorPG13
import Derived.Test.YtndjggabdajbfaaGreatDoorPG14
import Derived.Deep.CutBlock
import Derived.Deep.CutRange
import Derived.Deep.RegionWith
import Derived.Test.YtndjggabdajbfaaGreatDoorPG21

set_option linter.unusedVariables false
set_option linter.unusedSimpArgs false
/- What a reading's runs do: runs of cells are read and put into the screen. Conditions: the reading, its reader and the cells lie in blocks of their own; the tables lie where they were laid. -/
namespace Go.Proofs.YtndjggabdajbfaaGreatDoor
open Go Go.RowKit Go.Lib

def RuP (B p r gs : Nat) (gA : Option Addr) (s : ScD) (n c : Nat) (L : Option Addr) (d : Nat) (w : World) (T : Nat × ScD × List UInt8) (e : Ending) (w' : World) : Prop :=
  (T.1 = 0 → e = .returned (.tuple #[]) ∧ ∃ st', RnS B p r gs gA s n c L d st' T.2.1.cells w w' ∧ st'.rest = T.2.2) ∧ (T.1 ≠ 0 → e = thrownE T.1) ∧ Stays (fun k => k = r ∨ k = gs) w w'
theorem RuP.no {B p r gs : Nat} {gA : Option Addr} {s : ScD} {n c : Nat} {L : Option Addr} {d : Nat} {w w' : World} {T : Nat × ScD × List UInt8} {e : Nat} (h : T.1 = e) (h0 : e ≠ 0) (hs : Stays (fun k => k = r ∨ k = gs) w w') : RuP B p r gs gA s n c L d w T (thrownE e) w' :=
  ⟨fun h2 => absurd (h.symm.trans h2) h0, fun _ => by rw [h], hs⟩
section
variable {B p r gs : Nat} {gA : Option Addr} {s : ScD} {n c : Nat} {L : Option Addr} {d : Nat} {cs3 : List CeD} {w wr wx : World} {l6 : List UInt8} {pb : Nat} {u f g t : Int}
theorem cell_new (hx : ∃ st4, RnS B p r gs gA s n c L d st4 cs3 w wx ∧ st4.rest = l6) (hp : wx.heap[pb]? = some (.cells #[.int .u32 f, .int .u32 g, .int .u8 t, .int .u16 0] 41 (0, 0))) (_ : r < wr.heap.size ∧ gs < wr.heap.size ∧ p < wr.heap.size ∧ w.heap.size ≤ wr.heap.size) :
    ∃ e st4, Value.pointer (some ⟨wx.heap.size, 0, none⟩) = .pointer (some ⟨e, 0, none⟩) ∧ RnS B p r gs gA s n c L d st4 cs3 w (wx.alloc (.cells #[.int .i32 u, .int .u8 0, .int .u32 f, .int .u32 g, .int .u8 t, .int .u16 0] 43)) ∧ st4.rest = l6 ∧ (wx.alloc (.cells #[.int .i32 u, .int .u8 0, .int .u32 f, .int .u32 g, .int .u8 t, .int .u16 0] 43)).heap[e]? = some (.cells #[.int .i32 u, .int .u8 0, .int .u32 f, .int .u32 g, .int .u8 t, .int .u16 0] 43 (0, 0)) ∧ (wx.alloc (.cells #[.int .i32 u, .int .u8 0, .int .u32 f, .int .u32 g, .int .u8 t, .int .u16 0] 43)).heap[pb]? = some (.cells #[.int .u32 f, .int .u32 g, .int .u8 t, .int .u16 0] 41 (0, 0)) ∧ e ≠ r ∧ e ≠ gs := by
  obtain ⟨st4, h1, h2⟩ := hx
  have hb : Below wx.heap.size wx (wx.alloc (.cells #[.int .i32 u, .int .u8 0, .int .u32 f, .int .u32 g, .int .u8 t, .int .u16 0] 43)) := (Below.refl _ _).alloc (Nat.le_refl _) _
  exact ⟨wx.heap.size, st4, rfl, h1.below hb, h2, heap_alloc_new _ _, (hb.block pb (heap_lt hp)).trans hp, by have := h1.rd.lt; omega, by have := h1.own.len.2.2.2.2; omega⟩
theorem cell_set (hx : ∃ st4, RnS B p r gs gA s n c L d st4 cs3 w wx ∧ st4.rest = l6) (hz : wx.heap[wr.heap.size]? = some (.cells #[.int .i32 0, .int .u8 0, .int .u32 0, .int .u32 0, .int .u8 0, .int .u16 0] 43 (0, 0))) (hp : wx.heap[pb]? = some (.cells #[.int .u32 f, .int .u32 g, .int .u8 t, .int .u16 0] 41 (0, 0))) (ho : r < wr.heap.size ∧ gs < wr.heap.size ∧ p < wr.heap.size ∧ w.heap.size ≤ wr.heap.size) (_ : pb ≠ r ∧ pb ≠ gs) :
    ∃ e st4, Value.pointer (some ⟨wr.heap.size, 0, none⟩) = .pointer (some ⟨e, 0, none⟩) ∧ RnS B p r gs gA s n c L d st4 cs3 w ((((((wx.setCell ⟨wr.heap.size, 0, none⟩ (.int .i32 u)).setCell ⟨wr.heap.size, 1, none⟩ (.int .u8 0)).setCell ⟨wr.heap.size, 2, none⟩ (.int .u32 f)).setCell ⟨wr.heap.size, 3, none⟩ (.int .u32 g)).setCell ⟨wr.heap.size, 4, none⟩ (.int .u8 t)).setCell ⟨wr.heap.size, 5, none⟩ (.int .u16 0)) ∧ st4.rest = l6 ∧
      ((((((wx.setCell ⟨wr.heap.size, 0, none⟩ (.int .i32 u)).setCell ⟨wr.heap.size, 1, none⟩ (.int .u8 0)).setCell ⟨wr.heap.size, 2, none⟩ (.int .u32 f)).setCell ⟨wr.heap.size, 3, none⟩ (.int .u32 g)).setCell ⟨wr.heap.size, 4, none⟩ (.int .u8 t)).setCell ⟨wr.heap.size, 5, none⟩ (.int .u16 0)).heap[e]? = some (.cells #[.int .i32 u, .int .u8 0, .int .u32 f, .int .u32 g, .int .u8 t, .int .u16 0] 43 (0, 0)) ∧
      ((((((wx.setCell ⟨wr.heap.size, 0, none⟩ (.int .i32 u)).setCell ⟨wr.heap.size, 1, none⟩ (.int .u8 0)).setCell ⟨wr.heap.size, 2, none⟩ (.int .u32 f)).setCell ⟨wr.heap.size, 3, none⟩ (.int .u32 g)).setCell ⟨wr.heap.size, 4, none⟩ (.int .u8 t)).setCell ⟨wr.heap.size, 5, none⟩ (.int .u16 0)).heap[pb]? = some (.cells #[.int .u32 f, .int .u32 g, .int .u8 t, .int .u16 0] 41 (0, 0)) ∧ e ≠ r ∧ e ≠ gs := by
  obtain ⟨st4, h1, h2⟩ := hx
  have k := six_stays (fun k => k = wr.heap.size) wx wr.heap.size 0 1 2 3 4 5 (.int .i32 u) (.int .u8 0) (.int .u32 f) (.int .u32 g) (.int .u8 t) (.int .u16 0) rfl
  have hne : pb ≠ wr.heap.size := fun e => by
    rw [e, hz] at hp
    injection hp with hp
    injection hp with hp1 hp2
    injection hp1 with hp1
    injection hp1 with hp1 hp3
    cases hp1
  exact ⟨wr.heap.size, st4, rfl, h1.far k ⟨by omega, by omega, by omega, by omega⟩, h2, six_heap hz _ _ _ _ _ _, (k.block pb (heap_lt hp) hne).trans hp, by omega, by omega⟩
end
theorem thing5 (s : ScD) (l : List UInt8) : thing17 5 s l = (match varGo l 0 with | .bad e => (e, s, l) | .ok n kn => if n = 0 then (3, s, l) else ((runsP n 0 (l.drop kn) s.cells).1, ⟨s.cols, s.rows, (runsP n 0 (l.drop kn) s.cells).2.2, s.x, s.y, s.hid, s.mouse, s.title, s.links⟩, (runsP n 0 (l.drop kn) s.cells).2.1)) := rfl
set_option maxRecDepth 100000 in
set_option maxHeartbeats 16000000 in
theorem runs17_c (B p r gs : Nat) (gA : Option Addr) (s : ScD) (n c : Nat) (L : Option Addr) (d : Nat) (st : RS) (w : World) (h : RnS B p r gs gA s n c L d st s.cells w w) (hU : TabU w) :
    Calls Tryz.prog 40 #[.pointer (some ⟨p, 0, none⟩)] w fun e w' => RuP B p r gs gA s n c L d w (thing17 5 s st.rest) e w' := by
  have H0 := Lib.hid h
  have HU := Lib.hid hU
  have hc0 := h.pt.cell
  obtain ⟨T, eT⟩ : ∃ T, thing17 5 s st.rest = T := ⟨_, rfl⟩; rw [eT]; rw [thing5] at eT
  have hn : n ≤ 1920 := h.nl
  cases hv : varGo st.rest 0 with
  | bad e =>
    rw [hv] at eT
    have HV := Lib.hid (varR_bad h.er hv)
    have HE : Hid (e ≠ 0) := Lib.hid (by have := varGo_err hv; omega)
    have HT : Hid (T.1 = e) := Lib.hid (by rw [← eT])
    clear hv eT h hU
    go_enter Tryz.func40, Tryz.ntmps40
    go_wp2_with (first
      | (go_at_call 35; (refine (Rvar_c r st w H0.out.rd).mono ?_); rintro _ w1 ⟨rfl, hr1, hg⟩; rw [HV.out] at hr1 ⊢; have HR1 := Lib.hid hr1; have HG := Lib.hid hg; have HP1 := Lib.hid (H0.out.pt.grown hg H0.out.ap.1); clear hr1 hg))
    refine (must17_t p r { st with err := e } w1 HP1.out.cell HR1.out HE.out).mono ?_
    rintro _ wx ⟨rfl, hx⟩
    rw [← hx]; clear hx wx
    unfold thrownE
    go_wp2_with (fail)
    exact ⟨rfl, RuP.no HT.out HE.out (Stays.of_grown HG.out _ (.inl rfl))⟩
  | ok n0 k0 =>
    rw [hv] at eT
    simp only at eT
    have HV := Lib.hid (varR_ok h.er hv)
    have hu0 : U64 n0 := (varGo_u64 hv).1
    obtain ⟨s1, es1⟩ : ∃ s1 : RS, s1 = { st with at_ := st.at_ + k0 } := ⟨_, rfl⟩; rw [← es1] at HV
    have HS1 : Hid (s1.err = 0 ∧ s1.rest = st.rest.drop k0 ∧ s1.gA = st.gA) := Lib.hid (by rw [es1]; exact ⟨h.er, rest_at st k0, rfl⟩)
    rw [← HS1.out.2.1] at eT
    have HU0 := Lib.hid hu0
    clear hv es1 h hU hu0
    by_cases h00 : n0 = 0
    · subst h00
      rw [if_pos rfl] at eT
      have HT : Hid (T.1 = 3) := Lib.hid (by rw [← eT])
      clear eT
      go_enter Tryz.func40, Tryz.ntmps40
      go_wp2_with (first
        | (go_at_call 35; (refine (Rvar_c r st w H0.out.rd).mono ?_); rintro _ w1 ⟨rfl, hr1, hg⟩; rw [HV.out] at hr1 ⊢; have H1 := Lib.hid (H0.out.read hr1 HS1.out.1 HS1.out.2.2 hg); clear hr1 hg)
        | (go_at_call 36; (refine (must17_c p r s1 w1 H1.out.pt.cell H1.out.rd HS1.out.1).mono ?_); rintro _ _ ⟨rfl, rfl⟩))
      exact ⟨rfl, RuP.no HT.out (by decide) H1.out.stay⟩
    rw [if_neg h00] at eT; obtain ⟨RR, eRR⟩ : ∃ RR, runsP n0 0 s1.rest s.cells = RR := ⟨_, rfl⟩; rw [eRR] at eT
    have HT : Hid (T = (RR.1, ⟨s.cols, s.rows, RR.2.2, s.x, s.y, s.hid, s.mouse, s.title, s.links⟩, RR.2.1)) := Lib.hid eT.symm
    have HRR := Lib.hid eRR
    have z0 : ((n0 : Int) == 0) = false := by rw [beq_eq_false_iff_ne]; omega
    have z1 : (n0 == 0) = false := by rw [beq_eq_false_iff_ne]; omega
    clear eT eRR h00
    go_enter Tryz.func40, Tryz.ntmps40
    go_wp2_with (first
      | (go_at_call 35; (refine (Rvar_c r st w H0.out.rd).mono ?_); rintro _ w1 ⟨rfl, hr1, hg⟩; rw [HV.out] at hr1 ⊢; have H1 := Lib.hid (H0.out.read hr1 HS1.out.1 HS1.out.2.2 hg); clear hr1 hg)
      | (go_at_call 36; (refine (must17_c p r s1 w1 H1.out.pt.cell H1.out.rd HS1.out.1).mono ?_); rintro _ _ ⟨rfl, rfl⟩))
    clear z0 z1 hc0
    go_loopw [2, 3] (fun nn aa wr => ∃ (N a : Nat) (st2 : RS) (cs : List CeD), nn = .int .u64 N ∧ aa = .int .i64 a ∧ a ≤ n ∧ Hid (U64 N) ∧ Hid (runsP N a st2.rest cs = RR) ∧ Hid (RnS B p r gs gA s n c L d st2 cs w wr)) (fun nn _ _ => (intOf nn).toNat)
    case atStart => exact ⟨n0, 0, s1, s.cells, rfl, rfl, Nat.zero_le _, HU0, HRR, H1⟩
    case round =>
      clear H1 HRR HU0 HS1 HV H0; obtain ⟨N, a, st2, cs, rfl, rfl, ha, HN, HR, H2⟩ := hrel
      rcases Nat.eq_zero_or_pos N with h0 | hpos
      · subst h0
        have HZ : Hid ((0, st2.rest, cs) = RR) := Lib.hid HR.out
        go_wp2_with (fail)
        go_end0
        refine ⟨fun _ => ⟨rfl, st2, ?_, ?_⟩, fun hne => absurd (by rw [HT.out, ← HZ.out]) hne, H2.out.stay⟩
        · rw [HT.out, ← HZ.out]; exact H2.out
        · rw [HT.out, ← HZ.out]
      · obtain ⟨M, eM⟩ : ∃ M, N = M + 1 := ⟨N - 1, by omega⟩
        have hpos' : decide ((0 : Int) < (N : Int)) = true := decide_eq_true (by omega)
        have hposn : decide (0 < N) = true := decide_eq_true hpos
        have x3 := H2.out.c3
        have HL : Hid (cs.length = n) := Lib.hid H2.out.len
        have HU1 := Lib.hid (upTo_c p r st2 ((n : Int) - (a : Int)) wr H2.out.pt H2.out.rd H2.out.ap.1 H2.out.er ⟨by omega, by omega⟩)
        obtain ⟨Q1, eQ1⟩ : ∃ Q, num17 ((n : Int) - (a : Int)) st2.rest = Q := ⟨_, rfl⟩; rw [eQ1] at HU1
        have EQ1 : Hid (num17 ((cs.length : Int) - (a : Int)) st2.rest = Q1) := Lib.hid (by rw [HL.out]; exact eQ1)
        have EM := Lib.hid eM
        obtain ⟨x, ex⟩ : ∃ x, x = Q1.2.1 := ⟨_, rfl⟩
        have EX := Lib.hid ex
        by_cases hq1 : Q1.1 = 0
        rotate_left
        · have HQ1 := Lib.hid hq1
          have HZ : Hid (T.1 = Q1.1) := Lib.hid (by rw [HT.out, ← HR.out, EM.out]; show (runsP (M + 1) a st2.rest cs).1 = _; rw [runsP_no (by rw [oneP_1 (by rw [EQ1.out]; exact hq1), EQ1.out]; exact hq1), oneP_1 (by rw [EQ1.out]; exact hq1), EQ1.out])
          clear hq1 eQ1 eM ex
          go_wp2_with (fail)
          refine HU1.out.mono ?_
          rintro _ wx ⟨_, k2, k3⟩
          obtain rfl := k2 HQ1.out
          have HG := Lib.hid (H2.out.stay.trans (Stays.of_grown k3 (fun k => k = r ∨ k = gs) (.inl rfl)))
          clear k2 k3
          unfold thrownE
          go_wp2_with (fail)
          exact ⟨rfl, RuP.no HZ.out HQ1.out HG.out⟩
        have HQ1 := Lib.hid hq1
        have hx : x + a ≤ n := by
          have h := num17_le (most := (n : Int) - (a : Int)) (l := st2.rest) (by rw [eQ1]; exact hq1)
          rw [eQ1, ← ex] at h
          omega
        obtain ⟨a1, ea1⟩ : ∃ a1 : Nat, (a : Int) + (x : Int) = (a1 : Int) := ⟨a + x, by omega⟩
        have ha1 : a1 ≤ n := by omega
        have EA1 : Hid (a + x = a1) := Lib.hid (by omega)
        have E1 : Hid (num17 ((cs.length : Int) - (a : Int)) st2.rest = (0, x, Q1.2.2)) := Lib.hid (by rw [EQ1.out, ex, ← hq1])
        clear hq1 eQ1 eM ex
        go_upto_region 8 with (first
          | (go_at_call 38; (with_reducible refine HU1.out.mono ?_); rintro _ w2 ⟨k1, _, k3⟩; obtain ⟨rfl, s2, g1, g2, g3, g4⟩ := k1 HQ1.out; rw [← EX.out]; have Hs2 := Lib.hid (H2.out.read g1 g2 g4 k3); have Ts2 := Lib.hid g3; clear k1 k3 g1 g2 g3 g4))
        clear x3
        have x3 := Hs2.out.c3
        have HU2 := Lib.hid (upTo_c p r s2 ((n : Int) - (a1 : Int)) w2 Hs2.out.pt Hs2.out.rd Hs2.out.ap.1 Hs2.out.er ⟨by omega, by omega⟩)
        obtain ⟨Q2, eQ2⟩ : ∃ Q, num17 ((n : Int) - (a1 : Int)) s2.rest = Q := ⟨_, rfl⟩; rw [eQ2] at HU2
        have EQ2 : Hid (num17 ((cs.length : Int) - ((a + x : Nat) : Int)) Q1.2.2 = Q2) := Lib.hid (by rw [HL.out, EA1.out, ← Ts2.out]; exact eQ2)
        obtain ⟨k, ek⟩ : ∃ k, k = Q2.2.1 := ⟨_, rfl⟩
        have EK := Lib.hid ek
        by_cases hq2 : Q2.1 = 0
        rotate_left
        · have HQ2 := Lib.hid hq2
          have HZ : Hid (T.1 = Q2.1) := Lib.hid (by rw [HT.out, ← HR.out, EM.out]; show (runsP (M + 1) a st2.rest cs).1 = _; rw [runsP_no (by rw [oneP_2 E1.out (by rw [EQ2.out]; exact hq2), EQ2.out]; exact hq2), oneP_2 E1.out (by rw [EQ2.out]; exact hq2), EQ2.out])
          clear hq2 eQ2 ek
          go_wp2_with (fail)
          refine HU2.out.mono ?_
          rintro _ wx ⟨_, k2, k3⟩
          obtain rfl := k2 HQ2.out
          have HG := Lib.hid (Hs2.out.stay.trans (Stays.of_grown k3 (fun k => k = r ∨ k = gs) (.inl rfl)))
          clear k2 k3
          unfold thrownE
          go_wp2_with (fail)
          exact ⟨rfl, RuP.no HZ.out HQ2.out HG.out⟩
        have HQ2 := Lib.hid hq2
        have hk : k + a1 ≤ n := by
          have h := num17_le (most := (n : Int) - (a1 : Int)) (l := s2.rest) (by rw [eQ2]; exact hq2)
          rw [eQ2, ← ek] at h
          omega
        have E2 : Hid (num17 ((cs.length : Int) - ((a + x : Nat) : Int)) Q1.2.2 = (0, k, Q2.2.2)) := Lib.hid (by rw [EQ2.out, ek, ← hq2])
        clear hq2 eQ2 ek ea1
        by_cases hk0 : k = 0
        · have z0 : ((k : Int) == 0) = true := by rw [beq_iff_eq]; omega
          have z1 : (k == 0) = true := by rw [beq_iff_eq]; exact hk0
          have HZ : Hid (T.1 = 3) := Lib.hid (by
            have h3 := E2.out
            rw [hk0] at h3
            have h4 := oneP_3 E1.out h3
            rw [HT.out, ← HR.out, EM.out]; show (runsP (M + 1) a st2.rest cs).1 = _; rw [runsP_no (by rw [h4]; decide), h4])
          clear hk0
          go_wp2_with (first
            | (go_at_call 38; (with_reducible refine HU2.out.mono ?_); rintro _ w3 ⟨k1, _, k3⟩; obtain ⟨rfl, s3, g1, g2, g3, g4⟩ := k1 HQ2.out; rw [← EK.out]; have Hs3 := Lib.hid (Hs2.out.read g1 g2 g4 k3); have Ts3 := Lib.hid g3; clear k1 k3 g1 g2 g3 g4))
          exact ⟨rfl, RuP.no HZ.out (by decide) Hs3.out.stay⟩
        have z0 : ((k : Int) == 0) = false := by rw [beq_eq_false_iff_ne]; omega
        have z1 : (k == 0) = false := by rw [beq_eq_false_iff_ne]; exact hk0
        have HK0 := Lib.hid hk0
        obtain ⟨hc1, hc2⟩ := oneP_col E1.out E2.out hk0
        have HC1 := Lib.hid hc1
        have HC2 := Lib.hid hc2
        clear hc1 hc2 hk0
        go_upto_region 11 with (first
          | (go_at_call 38; (with_reducible refine HU2.out.mono ?_); rintro _ w3 ⟨k1, _, k3⟩; obtain ⟨rfl, s3, g1, g2, g3, g4⟩ := k1 HQ2.out; rw [← EK.out]; have Hs3 := Lib.hid (Hs2.out.read g1 g2 g4 k3); have Ts3 := Lib.hid g3; clear k1 k3 g1 g2 g3 g4))
        clear x3 z0 z1
        have x0 := Hs3.out.pt.cell
        rw [← Ts3.out] at HC1 HC2
        have HU3 := Lib.hid (color_c p r s3 w3 Hs3.out.pt Hs3.out.rd Hs3.out.ap.1 Hs3.out.er)
        obtain ⟨Q3, eQ3⟩ : ∃ Q, colR s3.rest = Q := ⟨_, rfl⟩; rw [eQ3] at HU3 HC1 HC2; obtain ⟨f, ef⟩ : ∃ f, f = Q3.2.1 := ⟨_, rfl⟩
        have EF := Lib.hid ef
        by_cases hq3 : Q3.1 = 0
        rotate_left
        · have HQ3 := Lib.hid hq3
          have HZ : Hid (T.1 = Q3.1) := Lib.hid (by
            have h := HC1.out
            rw [if_pos hq3] at h
            rw [HT.out, ← HR.out, EM.out]; show (runsP (M + 1) a st2.rest cs).1 = _; rw [runsP_no (by rw [h]; exact hq3), h])
          clear hq3 eQ3 ef
          go_wp2_with (fail)
          refine HU3.out.mono ?_
          rintro _ wx ⟨_, k2, k3⟩
          obtain rfl := k2 HQ3.out
          have HG := Lib.hid (Hs3.out.stay.trans (Stays.of_grown k3 (fun k => k = r ∨ k = gs) (.inl rfl)))
          clear k2 k3
          unfold thrownE
          go_wp2_with (fail)
          exact ⟨rfl, RuP.no HZ.out HQ3.out HG.out⟩
        have HQ3 := Lib.hid hq3
        have HLF : Hid (f ≤ 4294967295) := Lib.hid (by
          have h3 : (colR s3.rest).1 = 0 := by rw [eQ3]; exact hq3
          have h := colR_le h3
          rw [eQ3, ← ef] at h
          exact h)
        clear hq3 eQ3 ef
        go_wp2_with (first
          | (go_at_call 61; (with_reducible refine HU3.out.mono ?_); rintro _ w4 ⟨k1, _, k3⟩; obtain ⟨rfl, _, s4, g1, g2, g3, g4⟩ := k1 HQ3.out; rw [← EF.out]; have Hs4 := Lib.hid (Hs3.out.read g1 g2 g4 k3); have Ts4 := Lib.hid g3; clear k1 k3 g1 g2 g3 g4))
        have HU4 := Lib.hid (color_c p r s4 w4 Hs4.out.pt Hs4.out.rd Hs4.out.ap.1 Hs4.out.er)
        obtain ⟨Q4, eQ4⟩ : ∃ Q, colR s4.rest = Q := ⟨_, rfl⟩; rw [← Ts4.out, eQ4] at HC1 HC2; rw [eQ4] at HU4; obtain ⟨g, eg⟩ : ∃ g, g = Q4.2.1 := ⟨_, rfl⟩
        have EG := Lib.hid eg
        by_cases hq4 : Q4.1 = 0
        rotate_left
        · have HQ4 := Lib.hid hq4
          have HZ : Hid (T.1 = Q4.1) := Lib.hid (by
            have h := HC1.out
            rw [if_neg (by rw [HQ3.out]; decide), if_pos hq4] at h
            rw [HT.out, ← HR.out, EM.out]; show (runsP (M + 1) a st2.rest cs).1 = _; rw [runsP_no (by rw [h]; exact hq4), h])
          clear hq4 eQ4 eg; refine HU4.out.mono ?_
          rintro _ wx ⟨_, k2, k3⟩
          obtain rfl := k2 HQ4.out
          have HG := Lib.hid (Hs4.out.stay.trans (Stays.of_grown k3 (fun k => k = r ∨ k = gs) (.inl rfl)))
          clear k2 k3
          unfold thrownE
          go_wp2_with (fail)
          exact ⟨rfl, RuP.no HZ.out HQ4.out HG.out⟩
        have HQ4 := Lib.hid hq4
        have HLG : Hid (g ≤ 4294967295) := Lib.hid (by
          have h3 : (colR s4.rest).1 = 0 := by rw [eQ4]; exact hq4
          have h := colR_le h3
          rw [eQ4, ← eg] at h
          exact h)
        clear hq4 eQ4 eg
        go_wp2_with (first
          | (go_at_call 61; (with_reducible refine HU4.out.mono ?_); rintro _ w5 ⟨k1, _, k3⟩; obtain ⟨rfl, _, s5, g1, g2, g3, g4⟩ := k1 HQ4.out; rw [← EG.out]; have Hs5 := Lib.hid (Hs4.out.read g1 g2 g4 k3); have Ts5 := Lib.hid g3; clear k1 k3 g1 g2 g3 g4))
        have HU5 := Lib.hid (upTo_c p r s5 255 w5 Hs5.out.pt Hs5.out.rd Hs5.out.ap.1 Hs5.out.er ⟨by decide, by decide⟩)
        obtain ⟨Q5, eQ5⟩ : ∃ Q, num17 255 s5.rest = Q := ⟨_, rfl⟩; rw [← Ts5.out, eQ5] at HC1 HC2; rw [eQ5] at HU5; obtain ⟨t, et⟩ : ∃ t, t = Q5.2.1 := ⟨_, rfl⟩
        have ET := Lib.hid et
        by_cases hq5 : Q5.1 = 0
        rotate_left
        · have HQ5 := Lib.hid hq5
          have HZ : Hid (T.1 = Q5.1) := Lib.hid (by
            have h := HC1.out
            rw [if_neg (by rw [HQ3.out]; decide), if_neg (by rw [HQ4.out]; decide), if_pos hq5] at h
            rw [HT.out, ← HR.out, EM.out]; show (runsP (M + 1) a st2.rest cs).1 = _; rw [runsP_no (by rw [h]; exact hq5), h])
          clear hq5 eQ5 et; refine HU5.out.mono ?_
          rintro _ wx ⟨_, k2, k3⟩
          obtain rfl := k2 HQ5.out
          have HG := Lib.hid (Hs5.out.stay.trans (Stays.of_grown k3 (fun k => k = r ∨ k = gs) (.inl rfl)))
          clear k2 k3
          unfold thrownE
          go_wp2_with (fail)
          exact ⟨rfl, RuP.no HZ.out HQ5.out HG.out⟩
        have HQ5 := Lib.hid hq5
        have ht : t ≤ 255 := by
          have h := num17_le (most := 255) (l := s5.rest) (by rw [eQ5]; exact hq5)
          rw [eQ5, ← et] at h
          omega
        have hwt : IntKind.u8.wrap (t : Int) = (t : Int) := IntWalk.u8_in _ ⟨by omega, by omega⟩
        have HC3 : Hid (oneP a st2.rest cs = ((runesP (f : Int) (g : Int) (t : Int) k a1 Q5.2.2 cs).1, a1 + k, (runesP (f : Int) (g : Int) (t : Int) k a1 Q5.2.2 cs).2.1, (runesP (f : Int) (g : Int) (t : Int) k a1 Q5.2.2 cs).2.2)) := Lib.hid (by
          have h := HC2.out HQ3.out HQ4.out hq5
          rw [← EF.out, ← EG.out, ← et, EA1.out] at h
          exact h)
        clear hq5 eQ5 et HC1 HC2; obtain ⟨R2, eR2⟩ : ∃ R2, runesP (f : Int) (g : Int) (t : Int) k a1 Q5.2.2 cs = R2 := ⟨_, rfl⟩; rw [eR2] at HC3
        have HR2 : Hid (runesP (f : Int) (g : Int) (t : Int) k a1 Q5.2.2 cs = R2) := Lib.hid eR2
        -- what an error within the runes ends with
        have HERR : Hid (∀ e, R2.1 = e → e ≠ 0 → T.1 = e) := Lib.hid (fun e h1 h2 => by
          rw [HT.out, ← HR.out, EM.out]
          show (runsP (M + 1) a st2.rest cs).1 = _
          rw [runsP_no (by rw [HC3.out]; show R2.1 ≠ 0; rw [h1]; exact h2), HC3.out]
          exact h1)
        have HGO : Hid (R2.1 = 0 → runsP M (a1 + k) R2.2.1 R2.2.2 = RR) := Lib.hid (fun h1 => by
          have h := HR.out
          rw [EM.out, runsP_go (by rw [HC3.out]; exact h1), HC3.out] at h
          exact h)
        clear eR2
        go_upto_region 12 with (first
          | (go_at_call 38; (with_reducible refine HU5.out.mono ?_); rintro _ w6 ⟨k1, _, k3⟩; obtain ⟨rfl, s6, g1, g2, g3, g4⟩ := k1 HQ5.out; rw [← ET.out]; have Hs6 := Lib.hid (Hs5.out.read g1 g2 g4 k3); have Ts6 := Lib.hid g3; clear k1 k3 g1 g2 g3 g4))
        generalize eX : World.alloc w6 _ = W7
        obtain ⟨pb, epb⟩ : ∃ pb, pb = w6.heap.size := ⟨_, rfl⟩; rw [← epb]
        have HPB : Hid (W7.heap[pb]? = some (.cells #[.int .u32 (f : Int), .int .u32 (g : Int), .int .u8 (t : Int), .int .u16 0] 41 (0, 0))) := Lib.hid (by rw [← eX, epb]; exact heap_alloc_new _ _)
        have hb7 : Below w6.heap.size w6 W7 := by rw [← eX]; exact (Below.refl _ _).alloc (Nat.le_refl _) _
        have H7 := Lib.hid (Hs6.out.below hb7)
        have HPN : Hid (pb ≠ r ∧ pb ≠ gs) := Lib.hid ⟨by have := Hs6.out.rd.lt; omega, by have := Hs6.out.own.len.2.2.2.2; omega⟩
        have HI7 : Hid (runesP (f : Int) (g : Int) (t : Int) (k - 0) (a1 + 0) s6.rest cs = R2) := Lib.hid (by rw [Ts6.out, Nat.sub_zero, Nat.add_zero]; exact HR2.out)
        clear eX epb hb7 x0 hwt HC3 HR2
        go_wp2_with (fail)
        go_loopw [3, 55] (fun aa ii wr => ∃ (j a2 : Nat) (st3 : RS) (cs3 : List CeD), ii = .int .i64 j ∧ aa = .int .i64 a2 ∧ a2 = a1 + j ∧ j ≤ k ∧ Hid (runesP (f : Int) (g : Int) (t : Int) (k - j) a2 st3.rest cs3 = R2) ∧ Hid (RnS B p r gs gA s n c L d st3 cs3 w wr) ∧ Hid (wr.heap[pb]? = some (.cells #[.int .u32 (f : Int), .int .u32 (g : Int), .int .u8 (t : Int), .int .u16 0] 41 (0, 0)))) (fun _ ii _ => k - (intOf ii).toNat)
        case atStart => exact ⟨0, a1, s6, cs, by go_num, rfl, rfl, Nat.zero_le _, by { have h := HI7.out; rw [Nat.add_zero] at h; exact Lib.hid h }, H7, HPB⟩
        case round =>
          clear HI7 H7 HPB; obtain ⟨j, a2, st3, cs3, rfl, rfl, ea2, hj, HI, H3, HPB⟩ := hrel
          have EA2 := Lib.hid ea2
          have ha2 : a2 ≤ n := by omega
          rcases Nat.lt_or_ge j k with hjk | hjk
          · have hjk' : (j : Int) < (k : Int) := by omega
            have HL3 : Hid (cs3.length = n) := Lib.hid H3.out.len
            have ha2n : a2 < n := by omega
            obtain ⟨q, eq⟩ : ∃ q, k - j = q + 1 := ⟨k - j - 1, by omega⟩
            have EQq : Hid (k - j = q + 1 ∧ q = k - (j + 1)) := Lib.hid ⟨eq, by omega⟩
            obtain ⟨Q6, eQ6⟩ : ∃ Q, num17 1114111 st3.rest = Q := ⟨_, rfl⟩; obtain ⟨u, eu⟩ : ∃ u, u = Q6.2.1 := ⟨_, rfl⟩
            have EU := Lib.hid eu
            have EQ6 := Lib.hid eQ6
            clear ea2 eq
            have x0 := H3.out.pt.cell
            by_cases hq6 : Q6.1 = 0
            rotate_left
            · have HQ6 := Lib.hid hq6
              have HZ : Hid (T.1 = Q6.1) := Lib.hid (HERR.out _ (by rw [← HI.out, EQq.out.1, runesP_no (by rw [EQ6.out]; exact hq6), EQ6.out]) hq6)
              clear hq6 eQ6 eu
              have HU6 : Hid (∀ W : World, Below wr.heap.size wr W → Calls Tryz.prog 38 #[.pointer (some ⟨p, 0, none⟩), .int .i64 1114111] W fun e w' => e = thrownE Q6.1 ∧ Stays (fun k => k = r ∨ k = gs) w w') := Lib.hid (fun W hW => by
                have H3d := H3.out.below hW
                have h := upTo_c p r st3 1114111 W H3d.pt H3d.rd H3d.ap.1 H3d.er ⟨by decide, by decide⟩
                rw [EQ6.out] at h; refine h.mono ?_
                rintro e w' ⟨_, k2, k3⟩
                exact ⟨k2 HQ6.out, H3d.stay.trans (Stays.of_grown k3 _ (.inl rfl))⟩)
              obtain ⟨e0, e1, e2, e3⟩ : wr.cell? ⟨pb, 0, none⟩ = some (.int .u32 (f : Int)) ∧ wr.cell? ⟨pb, 1, none⟩ = some (.int .u32 (g : Int)) ∧ wr.cell? ⟨pb, 2, none⟩ = some (.int .u8 (t : Int)) ∧ wr.cell? ⟨pb, 3, none⟩ = some (.int .u16 0) := ⟨by rw [heap_cell HPB.out]; rfl, by rw [heap_cell HPB.out]; rfl, by rw [heap_cell HPB.out]; rfl, by rw [heap_cell HPB.out]; rfl⟩
              have hpl : pb < wr.heap.size := heap_lt HPB.out
              have BD : Hid (Below wr.heap.size wr wr.drew) := Lib.hid (below_drewN (Below.refl _ _) 1)
              have BA : Hid (Below wr.heap.size wr (wr.alloc (.cells #[.int .i32 0, .int .u8 0, .int .u32 0, .int .u32 0, .int .u8 0, .int .u16 0] 43)).drew) := Lib.hid (below_drewN ((Below.refl _ _).alloc (Nat.le_refl _) _) 1)
              go_upto_region 14 with (fail)
              refine wp_region_any (by kernel_rfl) ?_
              change wpAny _ _ _ _ _ _ _ (World.drew _)
              refine wpAny_take (i := 0) (v := .pointer (some ⟨p, 0, none⟩)) rfl (by kernel_rfl) (by kernel_rfl) (by kernel_rfl) (fun _ _ _ h => h) (Or.inl ⟨by rfl, fun w => by go_simp⟩) ?_; refine wpAny_ready (rs := [1, 3, 5]) (by kernel_rfl) (by simp) ?_; refine AllReady.cons rfl (fun K hK => ?_) (AllReady.cons rfl (fun K hK => ?_) (AllReady.cons rfl (fun K hK => ?_) AllReady.nil))
              · go_simp
                refine (HU6.out (wr.drew) BD.out).mono ?_
                rintro _ wx ⟨rfl, hs⟩
                have HS := Lib.hid hs
                clear hs
                unfold thrownE
                go_wp2_with (fail)
                exact ⟨rfl, RuP.no HZ.out HQ6.out HS.out⟩
              · go_simp
                refine hK _ _ ?_; clear hK K; refine wpAny_ready (rs := [1, 5]) (by kernel_rfl) (by simp) ?_; refine AllReady.cons rfl (fun K hK => ?_) (AllReady.cons rfl (fun K hK => ?_) AllReady.nil)
                · go_simp
                  refine (HU6.out (wr.drew) BD.out).mono ?_
                  rintro _ wx ⟨rfl, hs⟩
                  have HS := Lib.hid hs
                  clear hs
                  unfold thrownE
                  go_wp2_with (fail)
                  exact ⟨rfl, RuP.no HZ.out HQ6.out HS.out⟩
                · go_simp
                  refine hK _ _ ?_; clear hK K; refine wpAny_ready (rs := [1]) (by kernel_rfl) (by simp) ?_; refine AllReady.cons rfl (fun K hK => ?_) AllReady.nil
                  go_simp
                  refine (HU6.out ((wr.alloc (.cells #[.int .i32 0, .int .u8 0, .int .u32 0, .int .u32 0, .int .u8 0, .int .u16 0] 43)).drew) BA.out).mono ?_
                  rintro _ wx ⟨rfl, hs⟩
                  have HS := Lib.hid hs
                  clear hs
                  unfold thrownE
                  go_wp2_with (fail)
                  exact ⟨rfl, RuP.no HZ.out HQ6.out HS.out⟩
              · go_simp
                refine hK _ _ ?_; clear hK K; refine wpAny_ready (rs := [1, 3]) (by kernel_rfl) (by simp) ?_; refine AllReady.cons rfl (fun K hK => ?_) (AllReady.cons rfl (fun K hK => ?_) AllReady.nil)
                · go_simp
                  refine (HU6.out ((wr.alloc (.cells #[.int .i32 0, .int .u8 0, .int .u32 0, .int .u32 0, .int .u8 0, .int .u16 0] 43)).drew) BA.out).mono ?_
                  rintro _ wx ⟨rfl, hs⟩
                  have HS := Lib.hid hs
                  clear hs
                  unfold thrownE
                  go_wp2_with (fail)
                  exact ⟨rfl, RuP.no HZ.out HQ6.out HS.out⟩
                · go_simp
                  refine hK _ _ ?_; clear hK K; refine wpAny_ready (rs := [1]) (by kernel_rfl) (by simp) ?_; refine AllReady.cons rfl (fun K hK => ?_) AllReady.nil
                  go_simp
                  refine (HU6.out ((wr.alloc (.cells #[.int .i32 0, .int .u8 0, .int .u32 0, .int .u32 0, .int .u8 0, .int .u16 0] 43)).drew) BA.out).mono ?_
                  rintro _ wx ⟨rfl, hs⟩
                  have HS := Lib.hid hs
                  clear hs
                  unfold thrownE
                  go_wp2_with (fail)
                  exact ⟨rfl, RuP.no HZ.out HQ6.out HS.out⟩
            have HQ6 := Lib.hid hq6
            have hu : u ≤ 1114111 := by
              have h := num17_le (most := 1114111) (l := st3.rest) (by rw [eQ6]; exact hq6)
              rw [eQ6, ← eu] at h
              omega
            have hwu : IntKind.i32.wrap (u : Int) = (u : Int) := IntWalk.i32_in _ ⟨by omega, by omega⟩
            obtain ⟨e0, e1, e2, e3⟩ : wr.cell? ⟨pb, 0, none⟩ = some (.int .u32 (f : Int)) ∧ wr.cell? ⟨pb, 1, none⟩ = some (.int .u32 (g : Int)) ∧ wr.cell? ⟨pb, 2, none⟩ = some (.int .u8 (t : Int)) ∧ wr.cell? ⟨pb, 3, none⟩ = some (.int .u16 0) := ⟨by rw [heap_cell HPB.out]; rfl, by rw [heap_cell HPB.out]; rfl, by rw [heap_cell HPB.out]; rfl, by rw [heap_cell HPB.out]; rfl⟩
            have hpl : pb < wr.heap.size := heap_lt HPB.out
            have HU7 : Hid (∀ W : World, Below wr.heap.size wr W → Calls Tryz.prog 38 #[.pointer (some ⟨p, 0, none⟩), .int .i64 1114111] W fun e w' => e = .returned (.int .i64 (u : Int)) ∧ (∃ st4, RnS B p r gs gA s n c L d st4 cs3 w w' ∧ st4.rest = Q6.2.2) ∧ W.grownBy w' (some r)) := Lib.hid (fun W hW => by
              have H3d := H3.out.below hW
              have h := upTo_c p r st3 1114111 W H3d.pt H3d.rd H3d.ap.1 H3d.er ⟨by decide, by decide⟩
              rw [EQ6.out] at h; refine h.mono ?_
              rintro e w' ⟨k1, _, k3⟩
              obtain ⟨rfl, st4, g1, g2, g3, g4⟩ := k1 HQ6.out
              exact ⟨by rw [EU.out], ⟨st4, H3d.read g1 g2 g4 k3, g3⟩, k3⟩)
            have BD : Hid (Below wr.heap.size wr wr.drew) := Lib.hid (below_drewN (Below.refl _ _) 1)
            have BA : Hid (Below wr.heap.size wr (wr.alloc (.cells #[.int .i32 0, .int .u8 0, .int .u32 0, .int .u32 0, .int .u8 0, .int .u16 0] 43)).drew) := Lib.hid (below_drewN ((Below.refl _ _).alloc (Nat.le_refl _) _) 1)
            have HEZ : Hid (((wr.alloc (.cells #[.int .i32 0, .int .u8 0, .int .u32 0, .int .u32 0, .int .u8 0, .int .u16 0] 43)).drew).heap[wr.heap.size]? = some (.cells #[.int .i32 0, .int .u8 0, .int .u32 0, .int .u32 0, .int .u8 0, .int .u16 0] 43 (0, 0))) := Lib.hid (heap_alloc_new wr _)
            have HPZ : Hid (((wr.alloc (.cells #[.int .i32 0, .int .u8 0, .int .u32 0, .int .u32 0, .int .u8 0, .int .u16 0] 43)).drew).heap[pb]? = some (.cells #[.int .u32 (f : Int), .int .u32 (g : Int), .int .u8 (t : Int), .int .u16 0] 41 (0, 0))) := Lib.hid ((BA.out.block pb (heap_lt HPB.out)).trans HPB.out)
            have HRE : Hid (r < wr.heap.size ∧ gs < wr.heap.size ∧ p < wr.heap.size ∧ w.heap.size ≤ wr.heap.size) := Lib.hid ⟨H3.out.rd.lt, H3.out.own.len.2.2.2.2, heap_lt H3.out.hp, H3.out.stay.size⟩
            clear hq6 eQ6 eu
            go_upto_region 14 with (fail)
            go_cut [6] from 56 to 76 (fun c6 wx => Hid (∃ e st4, c6 = .pointer (some ⟨e, 0, none⟩) ∧ RnS B p r gs gA s n c L d st4 cs3 w wx ∧ st4.rest = Q6.2.2 ∧ wx.heap[e]? = some (.cells #[.int .i32 (u : Int), .int .u8 0, .int .u32 (f : Int), .int .u32 (g : Int), .int .u8 (t : Int), .int .u16 0] 43 (0, 0)) ∧ wx.heap[pb]? = some (.cells #[.int .u32 (f : Int), .int .u32 (g : Int), .int .u8 (t : Int), .int .u16 0] 41 (0, 0)) ∧ e ≠ r ∧ e ≠ gs))
            case first =>
              go_region_with (first
                | (go_at_call 38; (with_reducible refine (HU7.out wr.drew BD.out).mono ?_); rintro _ wx ⟨rfl, hx, hg⟩; have HX := Lib.hid hx; have HGX := Lib.hid hg; have hp := hg.block pb (show pb < wr.drew.heap.size from heap_lt HPB.out) (fun e => HPN.out.1 (by { injection e with e })); have HPX := Lib.hid (hp.trans HPB.out); have e0 : wx.cell? ⟨pb, 0, none⟩ = some (.int .u32 (f : Int)) := (by { rw [heap_cell HPX.out]; rfl }); have e1 : wx.cell? ⟨pb, 1, none⟩ = some (.int .u32 (g : Int)) := (by { rw [heap_cell HPX.out]; rfl }); have e2 : wx.cell? ⟨pb, 2, none⟩ = some (.int .u8 (t : Int)) := (by { rw [heap_cell HPX.out]; rfl }); have e3 : wx.cell? ⟨pb, 3, none⟩ = some (.int .u16 0) := (by { rw [heap_cell HPX.out]; rfl }); have hpx : pb < wx.heap.size := heap_lt HPX.out; clear hx hg hp)
                | (go_at_call 38; (with_reducible refine (HU7.out ((wr.alloc (.cells #[.int .i32 0, .int .u8 0, .int .u32 0, .int .u32 0, .int .u8 0, .int .u16 0] 43)).drew) BA.out).mono ?_); rintro _ wx ⟨rfl, hx, hg⟩; have HX := Lib.hid hx; have HGX := Lib.hid hg; have hp := hg.block pb (heap_lt HPZ.out) (fun e => HPN.out.1 (by { injection e with e })); have HPX := Lib.hid (hp.trans HPZ.out); have e0 : wx.cell? ⟨pb, 0, none⟩ = some (.int .u32 (f : Int)) := (by { rw [heap_cell HPX.out]; rfl }); have e1 : wx.cell? ⟨pb, 1, none⟩ = some (.int .u32 (g : Int)) := (by { rw [heap_cell HPX.out]; rfl }); have e2 : wx.cell? ⟨pb, 2, none⟩ = some (.int .u8 (t : Int)) := (by { rw [heap_cell HPX.out]; rfl }); have e3 : wx.cell? ⟨pb, 3, none⟩ = some (.int .u16 0) := (by { rw [heap_cell HPX.out]; rfl }); have hpx : pb < wx.heap.size := heap_lt HPX.out; have hz := hg.block wr.heap.size (heap_lt HEZ.out) (fun e => by { injection e with e; have := HRE.out; omega }); have HZX := Lib.hid (hz.trans HEZ.out); have q0 : wx.cell? ⟨wr.heap.size, 0, none⟩ = some (.int .i32 0) := (by { rw [heap_cell HZX.out]; rfl }); have q1 : wx.cell? ⟨wr.heap.size, 1, none⟩ = some (.int .u8 0) := (by { rw [heap_cell HZX.out]; rfl }); have q2 : wx.cell? ⟨wr.heap.size, 2, none⟩ = some (.int .u32 0) := (by { rw [heap_cell HZX.out]; rfl }); have q3 : wx.cell? ⟨wr.heap.size, 3, none⟩ = some (.int .u32 0) := (by { rw [heap_cell HZX.out]; rfl }); have q4 : wx.cell? ⟨wr.heap.size, 4, none⟩ = some (.int .u8 0) := (by { rw [heap_cell HZX.out]; rfl }); have q5 : wx.cell? ⟨wr.heap.size, 5, none⟩ = some (.int .u16 0) := (by { rw [heap_cell HZX.out]; rfl }); have r0 := heap_free HZX.out 0; have r1 := heap_free HZX.out 1; have r2 := heap_free HZX.out 2; have r3 := heap_free HZX.out 3; have r4 := heap_free HZX.out 4; have r5 := heap_free HZX.out 5; clear hx hg hp hz))
              all_goals
                go_wp2_with (fail)
                go_meet
                first
                  | with_reducible exact Lib.hid (cell_new HX.out HPX.out HRE.out)
                  | with_reducible exact Lib.hid (cell_set HX.out HZX.out HPX.out HRE.out HPN.out)
            case rest =>
            obtain ⟨e, st4, rfl, hx4, hr4, he4, hp4, hn4⟩ := hcut.out
            have H4 := Lib.hid hx4
            have HR4 := Lib.hid hr4
            have HE4 := Lib.hid he4
            have HP4 := Lib.hid hp4
            have HN4 := Lib.hid hn4
            obtain ⟨D, eD⟩ : ∃ D : CeD, D = ⟨(u : Int), 0, (f : Int), (g : Int), (t : Int), 0⟩ := ⟨_, rfl⟩
            have ED := Lib.hid eD
            have HDV : Hid (D.val = .agg #[.int .i32 (u : Int), .int .u8 0, .int .u32 (f : Int), .int .u32 (g : Int), .int .u8 (t : Int), .int .u16 0]) := Lib.hid (by rw [eD]; rfl)
            have HM : Hid (Calls Tryz.prog 62 #[.agg #[.int .i32 (u : Int), .int .u8 0, .int .u32 (f : Int), .int .u32 (g : Int), .int .u8 (t : Int), .int .u16 0]] wc fun e w' => e = .returned (.bool (mayC D)) ∧ Below wc.heap.size wc w') := Lib.hid (by rw [← HDV.out]; exact May_c D wc (H4.out.tab HU.out))
            have EQD : Hid ((num17 1114111 st3.rest).1 = 0 ∧ (⟨((num17 1114111 st3.rest).2.1 : Int), 0, (f : Int), (g : Int), (t : Int), 0⟩ : CeD) = D ∧ (num17 1114111 st3.rest).2.2 = st4.rest) := Lib.hid ⟨by rw [EQ6.out]; exact HQ6.out, by rw [EQ6.out, ← EU.out, eD], by rw [EQ6.out, hr4]⟩
            obtain ⟨mb, emb⟩ : ∃ mb, mayC D = mb := ⟨_, rfl⟩
            have EMB := Lib.hid emb
            clear hcut hx4 hr4 he4 hp4 hn4 eD emb HU7 BD BA HEZ HPZ HRE hpl e0 e1 e2 e3 hwu
            cases mb
            · have HZ : Hid (T.1 = 3) := Lib.hid (HERR.out 3 (by rw [← HI.out, EQq.out.1, runesP_may EQD.out.1 (by rw [EQD.out.2.1]; exact EMB.out)]) (by decide))
              go_wp2_with (first
                | (refine wpList_load_row rfl 43 (.tmp 6) rfl e rfl 43 _ (0, 0) _ HE4.out Tryz.underlying43 rfl (info_ce6.trans rfl) ?_)
                | (go_at_call 62; (refine HM.out.mono ?_); rintro _ wf ⟨rfl, hbf⟩; rw [EMB.out]; have HBF := Lib.hid hbf; clear hbf))
              exact ⟨rfl, RuP.no HZ.out (by decide) (H4.out.below HBF.out).stay⟩
            · go_upto_region 17 with (first
                | (refine wpList_load_row rfl 43 (.tmp 6) rfl e rfl 43 _ (0, 0) _ HE4.out Tryz.underlying43 rfl (info_ce6.trans rfl) ?_)
                | (go_at_call 62; (refine HM.out.mono ?_); rintro _ wf ⟨rfl, hbf⟩; rw [EMB.out]; have HBF := Lib.hid hbf; clear hbf))
              have H5 := Lib.hid (H4.out.below HBF.out)
              have HE5 := Lib.hid ((HBF.out.block e (heap_lt HE4.out)).trans HE4.out)
              have HP5 := Lib.hid ((HBF.out.block pb (heap_lt HP4.out)).trans HP4.out)
              have HE5s : Hid (wf.heap.size ≤ wf.heap.size) := Lib.hid (Nat.le_refl _)
              go_upto_region 17 with (fail)
              refine wp_region_rt 77 8 [Rl.eq (.pointer (some ⟨p, 0, none⟩)), Rl.eq (.pointer (some ⟨p, 0, none⟩)), Rl.eq (.pointer (some ⟨p, 1, none⟩)), Rl.eq (.pointer (some ⟨p, 3, none⟩)), Rl.eq (.slice (some ⟨gs, 0, none⟩) n c), Rl.eq (.int .i64 (a2 : Int)), Rl.eq (.agg #[.int .i32 (u : Int), .int .u8 0, .int .u32 (f : Int), .int .u32 (g : Int), .int .u8 (t : Int), .int .u16 0]), Rl.eq (.pointer (some ⟨gs, a2 * 6, none⟩))] [66, 67, 68, 69, 70, 71, 72, 73] (by kernel_rfl) rfl (by kernel_rfl) (by kernel_rfl) (by decide) (by kernel_rfl) (by kernel_rfl) ?_ ?_
              · simp only [List.take_succ_cons, List.take_zero]
                repeat (first | exact AllFrom.nil_ | (refine AllFrom.cons_ (by rfl) ?_ ?_; rotate_left))
                · intro f_ w' g_ hF hD; have h0 : f_ 0 = .pointer (some ⟨p, 0, none⟩) := hF 0 (by kernel_rfl); rw [if_pos (wanted_none rfl)]; clear hF hD; exact gives_val (by simp only [execOp, evF, h0]; first | rfl | go_simp) ⟨Gr.refl _, rfl⟩
                · intro f_ w' g_ hF hD; have h66 : f_ 66 = (.pointer (some ⟨p, 0, none⟩)) := hD 0 66 (by kernel_rfl) rfl; rw [if_pos (wanted_none rfl)]; clear hF hD; exact gives_val (by simp only [execOp, evF, h66]; first | rfl | go_simp) ⟨Gr.refl _, rfl⟩
                · intro f_ w' g_ hF hD; have h67 : f_ 67 = (.pointer (some ⟨p, 0, none⟩)) := hD 1 67 (by kernel_rfl) rfl; rw [if_pos (wanted_none rfl)]; clear hF hD; exact gives_val (by simp only [execOp, evF, h67]; first | rfl | go_simp) ⟨Gr.refl _, rfl⟩
                · intro f_ w' g_ hF hD; have h68 : f_ 68 = (.pointer (some ⟨p, 1, none⟩)) := hD 2 68 (by kernel_rfl) rfl; rw [if_pos (wanted_none rfl)]; clear hF hD; exact gives_val (by simp only [execOp, evF, h68]; first | rfl | go_simp) ⟨Gr.refl _, rfl⟩
                · intro f_ w' g_ hF hD; have h69 : f_ 69 = (.pointer (some ⟨p, 3, none⟩)) := hD 3 69 (by kernel_rfl) rfl; rw [if_pos (wanted_none rfl)]; clear hF hD
                  have kg : Below wf.heap.size wf w' := (below_drewN (Below.refl _ _) 1).trans g_
                  have cl := (H5.out.below kg).c3
                  exact gives_val (by simp only [execOp, evF, h69]; go_simp) ⟨Gr.refl _, rfl⟩
                · intro f_ w' g_ hF hD; have h3 : f_ 3 = .int .i64 (a2 : Int) := hF 3 (by kernel_rfl); rw [if_pos (wanted_none rfl)]; clear hF hD; exact gives_val (by simp only [execOp, evF, h3]; first | rfl | go_simp) ⟨Gr.refl _, rfl⟩
                · intro f_ w' g_ hF hD; have h6 : f_ 6 = .pointer (some ⟨e, 0, none⟩) := hF 6 (by kernel_rfl); rw [if_pos (wanted_none rfl)]; clear hF hD
                  have kg : Below wf.heap.size wf w' := (below_drewN (Below.refl _ _) 1).trans g_
                  exact gives_load_row 43 (.tmp 6) rfl e (by simp only [evF, h6]) 43 #[.int .i32 (u : Int), .int .u8 0, .int .u32 (f : Int), .int .u32 (g : Int), .int .u8 (t : Int), .int .u16 0] (0, 0) _ ((kg.block e (heap_lt HE5.out)).trans HE5.out) Tryz.underlying43 rfl (info_ce6.trans rfl) ⟨Gr.refl _, rfl⟩
                · intro f_ w' g_ hF hD; have h70 : f_ 70 = (.slice (some ⟨gs, 0, none⟩) n c) := hD 4 70 (by kernel_rfl) rfl; have h71 : f_ 71 = (.int .i64 (a2 : Int)) := hD 5 71 (by kernel_rfl) rfl; rw [if_pos (wanted_none rfl)]; clear hF hD; exact gives_val (by simp only [execOp, evF, h70, h71]; first | rfl | go_simp) ⟨Gr.refl _, rfl⟩
              intro f_ w7 gg hD; have h72 : f_ 72 = .agg #[.int .i32 (u : Int), .int .u8 0, .int .u32 (f : Int), .int .u32 (g : Int), .int .u8 (t : Int), .int .u16 0] := hD 6 72 (by decide) rfl; have h73 : f_ 73 = .pointer (some ⟨gs, a2 * 6, none⟩) := hD 7 73 (by decide) rfl
              have kg : Below wf.heap.size wf w7 := (below_drewN (Below.refl _ _) 1).trans gg
              simp only [List.drop_succ_cons, List.drop_zero, putAll, List.setIfInBounds_toArray, List.set_cons_zero, List.set_cons_succ, h72, h73]
              have H7 := Lib.hid (H5.out.below kg)
              have HP7 := Lib.hid ((kg.block pb (heap_lt HP5.out)).trans HP5.out)
              obtain ⟨yo, -, z0, z1, z2, z3, z4, z5⟩ := H7.out.own.cellsAt a2 (by rw [HL3.out]; exact ha2n)
              have f0 := H7.out.own.free (a2 * 6)
              have f1 := H7.out.own.free (a2 * 6 + 1)
              have f2 := H7.out.own.free (a2 * 6 + 2)
              have f3 := H7.out.own.free (a2 * 6 + 3)
              have f4 := H7.out.own.free (a2 * 6 + 4)
              have f5 := H7.out.own.free (a2 * 6 + 5)
              generalize f_ 66 = d66; generalize f_ 67 = d67; generalize f_ 68 = d68; generalize f_ 69 = d69; generalize f_ 70 = d70; generalize f_ 71 = d71; clear hD gg h72 h73 kg
              go_upto_region 18 with (fail)
              obtain ⟨W8, eW8⟩ : ∃ W8, W8 = ((((((w7.setCell ⟨gs, a2 * 6, none⟩ (.int .i32 (u : Int))).setCell ⟨gs, a2 * 6 + 1, none⟩ (.int .u8 0)).setCell ⟨gs, a2 * 6 + 2, none⟩ (.int .u32 (f : Int))).setCell ⟨gs, a2 * 6 + 3, none⟩ (.int .u32 (g : Int))).setCell ⟨gs, a2 * 6 + 4, none⟩ (.int .u8 (t : Int))).setCell ⟨gs, a2 * 6 + 5, none⟩ (.int .u16 0)) := ⟨_, rfl⟩; rw [← eW8]
              have H8 : Hid (RnS B p r gs gA s n c L d st4 (cs3.set a2 D) w W8) := Lib.hid (by
                have h := H7.out.put a2 (by rw [HL3.out]; exact ha2n) D (by rw [ED.out])
                rw [eW8]; rw [ED.out] at h ⊢
                exact h)
              have HP8 : Hid (W8.heap[pb]? = some (.cells #[.int .u32 (f : Int), .int .u32 (g : Int), .int .u8 (t : Int), .int .u16 0] 41 (0, 0))) := Lib.hid (by
                rw [eW8]
                exact ((six_stays (fun k => k = gs) w7 gs (a2 * 6) (a2 * 6 + 1) (a2 * 6 + 2) (a2 * 6 + 3) (a2 * 6 + 4) (a2 * 6 + 5) _ _ _ _ _ _ rfl).block pb (heap_lt HP7.out) (fun x => HPN.out.2 x)).trans HP7.out)
              have HI8 : Hid (runesP (f : Int) (g : Int) (t : Int) (k - (j + 1)) (a2 + 1) st4.rest (cs3.set a2 D) = R2) := Lib.hid (by
                rw [← HI.out, EQq.out.1, runesP_go EQD.out.1 (by rw [EQD.out.2.1]; exact EMB.out), EQD.out.2.1, EQD.out.2.2, EQq.out.2])
              have ea2 := EA2.out
              clear eW8 yo z0 z1 z2 z3 z4 z5 f0 f1 f2 f3 f4 f5
              go_wp2_with (fail)
              go_roundw
              case rel => exact ⟨j + 1, a2 + 1, st4, cs3.set a2 D, by go_num, by go_num, by omega, by omega, HI8, H8, HP8⟩
              case measure => simp [intOf]; omega
          · obtain rfl : k = j := by omega
            have HRZ : Hid (R2 = (0, st3.rest, cs3)) := Lib.hid (by rw [← HI.out, Nat.sub_self]; rfl)
            have HRF : Hid (runsP M a2 st3.rest cs3 = RR) := Lib.hid (by have h := HGO.out (by rw [HRZ.out]); rw [HRZ.out, ← EA2.out] at h; exact h)
            have hN := EM.out
            have hwN : IntKind.u64.wrap ((N : Int) - 1) = (M : Int) := by
              have h : (N : Int) - 1 = (M : Int) := by omega
              rw [h]; exact IntWalk.u64_in _ ⟨by omega, by have h2 := HN.out; unfold U64 at h2; omega⟩
            have HNM : Hid (U64 M) := Lib.hid (by have h2 := HN.out; unfold U64 at h2 ⊢; omega)
            have HMN := Lib.hid hN
            clear hN HGO HERR ea2
            go_wp2_with (fail)
            go_roundw
            case rel => exact ⟨M, a2, st3, cs3, rfl, rfl, ha2, HNM, HRF, H3⟩
            case measure => have := HMN.out; simp [intOf]; omega
end Go.Proofs.YtndjggabdajbfaaGreatDoor


