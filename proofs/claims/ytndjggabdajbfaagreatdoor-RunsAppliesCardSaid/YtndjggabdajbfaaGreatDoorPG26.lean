/- Parts one behind the other: What rows.Apply answers: the screen to which the bytes lead, or the error's number; What runs.Apply answers: the screen to which the bytes lead, or the error's number; What runs.Apply answers: the screen to which the bytes lead, or the error's number; Plain: what the walks of layer 17 lean on: cells such as the second version tells them; a screen that fits is read; Plain: the reference's number (17) by the reader's state, and that it is num17 of the bytes ahead; Plain: a run's five numbers, one by one, as the reference reads them, and that they are those of oneP; What the reference's reader does: the same as the layer's; What the reference's reader does: Var, Take, Text, End. Conditions: as told at each. -/
import Derived.Test.YtndjggabdajbfaaGreatDoorPG21
import Derived.Deep.CutBlock
import Derived.Test.YtndjggabdajbfaaGreatDoorPG25
import Derived.Test.YtndjggabdajbfaaGreatDoorPG12
import Derived.Recover
import Derived.Laws.EntriesVeiled
import Derived.Test.YtndjggabdajbfaaGreatDoorPG15
import Derived.Test.YtndjggabdajbfaaGreatDoorPG16
import Derived.Test.YtndjggabdajbfaaGreatDoorPG18
import Derived.Test.YtndjggabdajbfaaGreatDoorPG20
import Derived.Test.YtndjggabdajbfaaGreatDoorPG22

set_option linter.unusedVariables false
set_option linter.unusedSimpArgs false
/- What rows.Apply answers: the screen to which the bytes lead, or the error's number. Conditions: the screen's parts and the bytes can be read; the tables lie where they were laid. -/
namespace Go.Proofs.YtndjggabdajbfaaGreatDoor
open Go Go.RowKit Go.Lib

/-- The answer's form: a screen in memory of its own, and a number. -/
def PostA (w : World) (Z : ScD × Nat) (e : Ending) (w' : World) : Prop := ∃ A' n' c' L' d', e = .returned (.tuple #[.agg (scC Z.1 A' n' c' L' 0 d'), .int .i64 (Z.2 : Int)]) ∧ OwnC w' w.heap.size (.slice A' n' c') Z.1.cells ∧ Z.1.links = [] ∧ Below w.heap.size w w'
theorem PostA.none_ {w w' : World} {Z : ScD × Nat} {E : Nat} {x : Int} (h : (scZ, E) = Z) (hx : x = (E : Int)) (hb : Below w.heap.size w w') : PostA w Z (.returned (.tuple #[.agg (scC scZ none 0 0 none 0 0), .int .i64 x])) w' := by
  subst hx
  rw [← h]
  exact ⟨none, 0, 0, none, 0, rfl, OwnC.nil_ _ _, rfl, hb⟩
theorem PostA.some_ {w w' : World} {Z : ScD × Nat} {s : ScD} {A : Option Addr} {n c : Nat} {L : Option Addr} {d : Nat} (h : (s, 0) = Z) (ho : OwnC w' w.heap.size (.slice A n c) s.cells) (hl : s.links = []) (hb : Below w.heap.size w w') : PostA w Z (.returned (.tuple #[.agg (scC s A n c L 0 d), .int .i64 0])) w' := by
  rw [← h]
  exact ⟨A, n, c, L, d, rfl, ho, hl, hb⟩
end Go.Proofs.YtndjggabdajbfaaGreatDoor



/- What runs.Apply answers: the screen to which the bytes lead, or the error's number. Conditions: the screen's parts and the bytes can be read; the tables lie where they were laid. -/
namespace Go.Proofs.YtndjggabdajbfaaGreatDoor
open Go Go.RowKit Go.Lib

theorem assert_err (v : Value) (W : World) : (Instr.typeAssert (.iface 31 v) 20 31 true).run Tryz.prog W = .ok (.tuple #[v, .bool true]) W := by kernel_rfl
set_option maxRecDepth 100000 in
set_option maxHeartbeats 2000000 in
theorem catch17 (g h : Nat) (e : Nat) (older : List PanicEntry) (w : World) (cs : Array Value) (y : Int) (hcs : cs.size = 9) (hg : w.heap[g]? = some (.cells cs 25 (0, 0))) (hh : w.heap[h]? = some (.cells #[.int .i64 y] 31 (0, 0))) (hne : h ≠ g) :
    CallsD Tryz.prog 15 #[.pointer (some ⟨g, 0, none⟩), .pointer (some ⟨h, 0, none⟩)] (.panicking ({ v := .iface 31 (.int .i64 (e : Int)), recovered := false } :: older)) w fun r u' w' =>
      r = .returned (.tuple #[]) ∧ u' = .panicking ({ v := .iface 31 (.int .i64 (e : Int)), recovered := true } :: older) ∧ w' = (w.setRow g (scC scZ none 0 0 none 0 0)).setCell ⟨h, 0, none⟩ (.int .i64 (e : Int)) := by
  refine callsD_of_wpS Tryz.func15 rfl fun c₀ cs' hu => ?_
  apply wpS_seq
  apply wpS_region
  simp [wpOpsS, go_sem, recoverD, hu, Tryz.ntmps15, Exit.thenS]
  have e1 : (#[Value.pointer (some ⟨g, 0, none⟩), Value.pointer (some ⟨h, 0, none⟩)] ++ ((Array.replicate 15 undef).setIfInBounds 3 (Value.iface 31 (Value.int IntKind.i64 (e : Int)))).setIfInBounds 0 (Value.iface 31 (Value.int IntKind.i64 (e : Int)))) =
      #[Value.pointer (some ⟨g, 0, none⟩), Value.pointer (some ⟨h, 0, none⟩), .iface 31 (.int .i64 (e : Int)), undef, undef, .iface 31 (.int .i64 (e : Int)), undef, undef, undef, undef, undef, undef, undef, undef, undef, undef, undef] := rfl
  rw [e1]
  refine wpS_of_wp ?_
  have ha := assert_err (.int .i64 (e : Int))
  have HG := Lib.hid hg
  have HCS := Lib.hid hcs
  have hc2 : (w.setRow g (scC scZ none 0 0 none 0 0)).cell? ⟨h, 0, none⟩ = some (.int .i64 y) := by rw [heap_cell ((setRow_other w g h _ hne).trans hh)]; rfl
  have hz2 : (w.setRow g (scC scZ none 0 0 none 0 0)).frozen? ⟨h, 0, none⟩ = false := heap_free ((setRow_other w g h _ hne).trans hh) 0
  clear e1 hg hh hcs
  go_wp2_with (first
    | (refine wpList_store_rowTo rfl 25 (.tmp 0) (.tmp 15) rfl rfl g (scC scZ none 0 0 none 0 0) rfl rfl 25 _ HG.out (info_sc.trans rfl) (by rw [HCS.out]; rfl) (sc_one _ _ _ _ _ _ _) ?_))
  simp [bodyPostS, results, Tryz.results15]
set_option maxRecDepth 100000 in
set_option maxHeartbeats 2000000 in
theorem catch17_idle (p q : Addr) (w : World) :
    CallsD Tryz.prog 15 #[.pointer (some p), .pointer (some q)] .returning w fun r u' w' => r = .returned (.tuple #[]) ∧ u' = .returning ∧ w' = w := by
  refine callsD_of_wpS Tryz.func15 rfl fun c₀ cs hu => ?_
  apply wpS_seq
  apply wpS_region
  simp [wpOpsS, go_sem, recoverD, hu, Tryz.ntmps15, Exit.thenS]
  have e1 : (#[Value.pointer (some p), Value.pointer (some q)] ++ ((Array.replicate 15 undef).setIfInBounds 3 Value.nilIface).setIfInBounds 0 Value.nilIface) =
      #[Value.pointer (some p), Value.pointer (some q), .nilIface, undef, undef, .nilIface, undef, undef, undef, undef, undef, undef, undef, undef, undef, undef, undef] := rfl
  rw [e1]
  refine wpS_of_wp ?_
  clear e1
  go_wp2
  cases c₀
  simp_all [bodyPostS, results, Tryz.results15]
theorem app_results (tmps : Array Value) (g h : Nat) (cs : Array Value) (y : Int) (h4 : tmps.getD 4 undef = .pointer (some ⟨g, 0, none⟩)) (h5 : tmps.getD 5 undef = .pointer (some ⟨h, 0, none⟩)) (w : World) (hg : w.heap[g]? = some (.cells cs 25 (0, 0))) (hi : (Tryz.prog.info? 25).map (·.size) = some cs.size) (hc : w.cell? ⟨h, 0, none⟩ = some (.int .i64 y)) :
    (results Tryz.f8 tmps).run Tryz.prog w = .ok (.tuple #[.agg cs, .int .i64 y]) w := by
  have h4' : tmps[4]?.getD undef = .pointer (some ⟨g, 0, none⟩) := by simpa using h4
  have h5' : tmps[5]?.getD undef = .pointer (some ⟨h, 0, none⟩) := by simpa using h5
  have h2 : (loadVar 31 ⟨h, 0, none⟩).run Tryz.prog w = .ok (.int .i64 y) w := by simp [go_sem, hc]
  simp [results, Tryz.results8, h4', h5', asAddr, run_loadVar_row w g 25 25 cs (0, 0) _ hg Tryz.underlying25 rfl hi, h2]
end Go.Proofs.YtndjggabdajbfaaGreatDoor



/- What runs.Apply answers: the screen to which the bytes lead, or the error's number. Conditions: the screen's parts and the bytes can be read; the tables lie where they were laid. -/
namespace Go.Proofs.YtndjggabdajbfaaGreatDoor
open Go Go.RowKit Go.Lib

theorem thing17_c (k : Nat) (hk : 1 ≤ k ∧ k ≤ 5) (B p r gs : Nat) (gA : Option Addr) (C R : Nat) (s : ScD) (n c : Nat) (L : Option Addr) (d : Nat) (st : RS) (w0 w : World) (h : RgS B p r gs gA C R s n c L d st w0 w) (hU : TabU w0) :
    Calls Tryz.prog 20 #[.pointer (some ⟨p, 0, none⟩), .int .i64 (k : Int)] w fun e w' => ThP B p r gA w0 (thing17 k s st.rest) e w' := by
  have h5 : k = 1 ∨ k = 2 ∨ k = 3 ∨ k = 4 ∨ k = 5 := by omega
  rcases h5 with rfl | rfl | rfl | rfl | rfl
  · exact thing17_1 B p r gs gA C R s n c L d st w0 w h hU
  · exact thing17_2 B p r gs gA C R s n c L d st w0 w h hU
  · exact thing17_3 B p r gs gA C R s n c L d st w0 w h hU
  · exact thing17_4 B p r gs gA C R s n c L d st w0 w h hU
  · exact thing17_5 B p r gs gA C R s n c L d st w0 w h hU
theorem clone_at (A : Option Addr) (n c : Nat) (ds : List CeD) (w : World) (hn : ds.length = n) (hr : RdC w A ds) (hl : n ≤ 7000000000000) (h0 : 0 < n) :
    Calls Tryz.prog 16 #[.slice A n c] w fun r w' => ∃ g c', r = .returned (.slice (some ⟨g, 0, none⟩) n c') ∧ OwnC w' w.heap.size (.slice (some ⟨g, 0, none⟩) n c') ds ∧ Below w.heap.size w w' := by
  refine (CloneC_c A n c ds w hn hr hl).mono ?_
  rintro e w' ⟨v, he, ho, hb⟩
  obtain ⟨A2, c2, e2, _⟩ := ho.form
  rw [hn] at e2
  subst e2
  obtain ⟨g, rfl⟩ := own_at2 ho (by omega)
  exact ⟨g, c2, he, ho, hb⟩
theorem fin_w {w w1 : World} {B q4 q5 : Nat} {cs : Array Value} {y : Int} (h4 : w1.heap[q4]? = some (.cells cs 25 (0, 0))) (h5 : w1.heap[q5]? = some (.cells #[.int .i64 y] 31 (0, 0))) (hne : q5 ≠ q4) (vs : Array Value) (e : Int) (hb : Below B w w1) (hB : B ≤ q4 ∧ B ≤ q5) :
    ((w1.setRow q4 vs).setCell ⟨q5, 0, none⟩ (.int .i64 e)).heap[q4]? = some (.cells vs 25 (0, 0)) ∧ ((w1.setRow q4 vs).setCell ⟨q5, 0, none⟩ (.int .i64 e)).cell? ⟨q5, 0, none⟩ = some (.int .i64 e) ∧ Below B w ((w1.setRow q4 vs).setCell ⟨q5, 0, none⟩ (.int .i64 e)) := by
  have h6 := (setRow_other w1 q4 q5 vs hne).trans h5
  refine ⟨(heap_far _ (fun x => hne x.symm)).trans (setRow_heap w1 q4 _ _ _ _ h4), ?_, (below_setRow hb hB.1 vs).setCell (p := ⟨q5, 0, none⟩) hB.2 _⟩
  rw [heap_cell (heap_set h6 0 (.int .i64 e))]
  rfl
/-- The answer's form, and that its cells' links are numbers. -/
def PostR (w : World) (Z : ScD × Nat) (e : Ending) (w' : World) : Prop := PostA w Z e w' ∧ okLn Z.1.cells
theorem PostR.none_ {w w' : World} {Z : ScD × Nat} {E : Nat} {x : Int} (h : (scZ, E) = Z) (hx : x = (E : Int)) (hb : Below w.heap.size w w') : PostR w Z (.returned (.tuple #[.agg (scC scZ none 0 0 none 0 0), .int .i64 x])) w' :=
  ⟨PostA.none_ h hx hb, by rw [← h]; intro d hd; cases hd⟩
theorem PostR.some_ {w w' : World} {Z : ScD × Nat} {s : ScD} {A : Option Addr} {n c : Nat} {L : Option Addr} {d : Nat} (h : (s, 0) = Z) (ho : OwnC w' w.heap.size (.slice A n c) s.cells) (hl : s.links = []) (hb : Below w.heap.size w w') (hk : okLn s.cells) : PostR w Z (.returned (.tuple #[.agg (scC s A n c L 0 d), .int .i64 0])) w' :=
  ⟨PostA.some_ h ho hl hb, by rw [← h]; exact hk⟩
/-- A new reader of these bytes. -/
def Rl.newr (B : Nat) (bs : List UInt8) : Rl := ⟨fun w v => ∃ r gA, v = .pointer (some ⟨r, 0, none⟩) ∧ B ≤ r ∧ Rdr w r ⟨bs, 0, 0, gA⟩ ∧ ∀ a, gA = some a → B ≤ a.block ∧ a.block < w.heap.size, fun ⟨r, gA, h1, h2, h3, h4⟩ hb => ⟨r, gA, h1, h2, h3.below hb, fun a ha => ⟨(h4 a ha).1, Nat.lt_of_lt_of_le (h4 a ha).2 hb.size⟩⟩⟩
theorem rg_load {w : World} {p r n c m d : Nat} {s : ScD} {A L : Option Addr} (h : w.heap[p]? = some (.cells (rgC r s A n c L m d) 55 (0, 0))) : ∀ j v, (scC s A n c L m d).toList[j]? = some v → w.cell? ((⟨p, 1, none⟩ : Addr).add j) = some v := by
  intro j v hv
  rw [addr_add, heap_cell h, ← hv]
  match j with
  | 0 => rfl
  | 1 => rfl
  | 2 => rfl
  | 3 => rfl
  | 4 => rfl
  | 5 => rfl
  | 6 => rfl
  | 7 => rfl
  | 8 => rfl
  | _ + 9 => cases hv
theorem RgS.scr {B p r gs : Nat} {gA : Option Addr} {C R : Nat} {s : ScD} {n c : Nat} {L : Option Addr} {d : Nat} {st : RS} {w0 wx : World} (h : RgS B p r gs gA C R s n c L d st w0 wx) : ScR wx s (some ⟨gs, 0, none⟩) n c L 0 d := by
  obtain ⟨p1, p2, p3, _⟩ := h.own.parts
  have hn0 := h.nl
  exact ⟨p1, p2, p3, by omega, by rw [h.lk]; rfl, by rw [h.lk]; exact .inl rfl, Nat.zero_le _, Nat.zero_le _, (fun u hu => by rw [h.lk] at hu; cases hu), h.ok, h.tl⟩
set_option maxRecDepth 100000 in
set_option maxHeartbeats 16000000 in
theorem apply17_c (a : ScD) (A : Option Addr) (n c : Nat) (L : Option Addr) (m cm : Nat) (D : Option Addr) (dn dc : Nat) (bs : List UInt8) (w : World) (hs : ScR w a A n c L m cm) (hdn : bs.length = dn) (hdr : Rd w D (bs.map bv)) (hdl : dn ≤ 140737488355328) (hU : TabU w) :
    Calls Tryz.prog 8 #[.agg (scC a A n c L m cm), .slice D dn dc] w fun e w' => PostR w (app17 a bs) e w' := by
  have hmf : ∀ (fn : Fn) (first cap : Array Value) (w : World), (Instr.makeFunc fn first cap).run Tryz.prog w = .ok (.func fn first cap) w := fun _ _ _ _ => rfl
  obtain ⟨X, eX⟩ : ∃ X, X = scC a A n c L m cm := ⟨_, rfl⟩
  rw [← eX]
  obtain ⟨W0, eW0⟩ : ∃ W0, W0 = ((w.alloc (.cells X 25)).alloc (.cells (scC scZ none 0 0 none 0 0) 25)).alloc (.cells #[.int .i64 0] 31) := ⟨_, rfl⟩
  obtain ⟨p0, ep0⟩ : ∃ p, p = w.heap.size := ⟨_, rfl⟩
  obtain ⟨q4, eq4⟩ : ∃ q, q = w.heap.size + 1 := ⟨_, rfl⟩
  obtain ⟨q5, eq5⟩ : ∃ q, q = w.heap.size + 1 + 1 := ⟨_, rfl⟩
  have hs1 : ((w.alloc (.cells X 25)).alloc (.cells (scC scZ none 0 0 none 0 0) 25)).heap.size = w.heap.size + 1 + 1 := by simp
  have hb0 : Below w.heap.size w W0 := by rw [eW0]; exact (((Below.refl _ _).alloc (Nat.le_refl _) _).alloc (by simp) _).alloc (by simp; omega) _
  have HP0 : Hid (ScB W0 p0 a A n c L m cm) := Lib.hid (by rw [eW0, ep0, eX]; exact (Below.heap_alloc _ _ _ (by simp; omega)).trans ((Below.heap_alloc _ _ _ (by simp)).trans (heap_alloc_new _ _)))
  have HQ0 : Hid (ScB W0 q4 scZ none 0 0 none 0 0) := Lib.hid (by rw [eW0, eq4]; exact (Below.heap_alloc _ _ _ (by simp)).trans (heap_alloc2_new _ _ _))
  have HE0 : Hid (W0.heap[q5]? = some (.cells #[.int .i64 0] 31 (0, 0))) := Lib.hid (by rw [eW0, eq5, ← hs1]; exact heap_alloc_new _ _)
  have eW0' : ((w.alloc (.cells X 25)).alloc (.cells #[.int .i64 0, .int .i64 0, .slice none 0 0, .int .i64 0, .int .i64 0, .bool false, .int .u8 0, .string { data := #[] }, .slice none 0 0] 25)).alloc (.cells #[.int .i64 0] 31) = W0 := by rw [eW0]; rfl
  have EW0 := Lib.hid eW0'
  have EP0 := Lib.hid ep0
  have EQ4 := Lib.hid eq4
  have EQ5 := Lib.hid eq5
  have HQQ : Hid (w.heap.size ≤ q4 ∧ w.heap.size ≤ q5 ∧ q5 ≠ q4 ∧ w.heap.size ≤ p0 ∧ p0 ≠ q4 ∧ p0 ≠ q5) := Lib.hid (by omega)
  have HB0 := Lib.hid hb0
  have HR0 := Lib.hid (hs.below hb0)
  have HD0 := Lib.hid (hdr.below hb0)
  have HDW := Lib.hid hdr
  have HU0 := Lib.hid (hU.next hb0)
  have HUW : Hid (∀ W, Below w.heap.size w W → TabU W) := Lib.hid (fun W h => hU.next h)
  have HDN := Lib.hid hdn
  have HDL := Lib.hid hdl
  obtain ⟨Z, eZ⟩ : ∃ Z, app17 a bs = Z := ⟨_, rfl⟩
  rw [eZ]
  have EZ := Lib.hid eZ
  obtain ⟨b1, e1⟩ : ∃ t, fit17 a = t := ⟨_, rfl⟩
  have E1 := Lib.hid e1
  have HM0 := Lib.hid hs.hm
  have HW1 := Lib.hid hU.size
  have HOT := Lib.hid (And.intro hs.ok hs.tl)
  clear eX eW0 eW0' ep0 eq4 eq5 hs1 hb0 hs hdr hU eZ e1 hdn hdl
  go_enter_defers Tryz.func8, Tryz.ntmps8
  go_upto_region 1 with (fail)
  rw [EW0.out, ← EQ5.out, ← EQ4.out, ← EP0.out]
  cases b1
  · have HZ : Hid ((scZ, 1) = Z) := Lib.hid (by rw [← EZ.out]; unfold app17; rw [if_neg (by rw [E1.out]; decide)])
    go_wp2_with (first
      | (refine wpList_load_row rfl 25 (.tmp 2) rfl p0 rfl 25 _ (0, 0) _ HP0.out Tryz.underlying25 rfl (info_sc.trans rfl) ?_)
      | (go_at_call 14; (refine (fits17_c a A n c L m cm W0 HR0.out HU0.out).mono ?_); rintro _ w1 ⟨rfl, hb1⟩; rw [E1.out]; have HB1 := Lib.hid (HB0.out.trans (hb1.mono HB0.out.size)); have HP1 := Lib.hid (HP0.out.below hb1); have HQ1 := Lib.hid (HQ0.out.below hb1); have HE1 := Lib.hid ((hb1.block q5 (heap_lt HE0.out)).trans HE0.out); have HR1 := Lib.hid (HR0.out.below hb1); have HD1 := Lib.hid (HD0.out.below hb1); have HU1 := Lib.hid (HU0.out.next hb1); have y5 : (w1.setRow q4 (scC scZ none 0 0 none 0 0)).cell? ⟨q5, 0, none⟩ = some (.int .i64 0) := (by { rw [heap_cell ((setRow_other w1 q4 q5 _ HQQ.out.2.2.1).trans HE1.out)]; rfl }); have f5 := heap_free ((setRow_other w1 q4 q5 (scC scZ none 0 0 none 0 0) HQQ.out.2.2.1).trans HE1.out) 0; clear hb1)
      | (refine wpList_store_row rfl 25 (.tmp 4) (.tmp 12) rfl q4 (scC scZ none 0 0 none 0 0) rfl rfl 25 _ HQ1.out (info_sc.trans rfl) rfl (sc_one _ _ _ _ _ _ _) ?_))
    obtain ⟨g1, g2, g3⟩ := fin_w HQ1.out HE1.out HQQ.out.2.2.1 (scC scZ none 0 0 none 0 0) 1 HB1.out ⟨HQQ.out.1, HQQ.out.2.1⟩
    exact ⟨_, app_results _ q4 q5 _ 1 rfl rfl _ g1 (info_sc.trans rfl) g2, PostR.none_ HZ.out rfl g3⟩
  · obtain ⟨C, R, hf⟩ := fit17_of E1.out
    obtain ⟨hf1, hf2, hf3, hf4⟩ : 1 ≤ C ∧ C ≤ 80 ∧ 1 ≤ R ∧ R ≤ 24 := ⟨hf.c1, hf.c2, hf.r1, hf.r2⟩
    obtain rfl : m = 0 := by rw [← HM0.out, hf.lk]; rfl
    have hnC : n = C * R := by rw [← HR0.out.hn, hf.len]
    have hn0 : 0 < n := by rw [hnC]; exact Nat.mul_pos hf1 hf3
    have hn2 : n ≤ 1920 := by rw [hnC]; exact Nat.mul_le_mul hf2 hf4
    have HF := Lib.hid hf
    have HNC := Lib.hid hnC
    have HN0 := Lib.hid hn0
    clear hf hnC hn0 hf1 hf2 hf3 hf4
    go_upto_region 5 with (first
      | (refine wpList_load_row rfl 25 (.tmp 2) rfl p0 rfl 25 _ (0, 0) _ HP0.out Tryz.underlying25 rfl (info_sc.trans rfl) ?_)
      | (go_at_call 14; (refine (fits17_c a A n c L 0 cm W0 HR0.out HU0.out).mono ?_); rintro _ w1 ⟨rfl, hb1⟩; rw [E1.out]; have HB1 := Lib.hid (HB0.out.trans (hb1.mono HB0.out.size)); have HP1 := Lib.hid (HP0.out.below hb1); have HQ1 := Lib.hid (HQ0.out.below hb1); have HE1 := Lib.hid ((hb1.block q5 (heap_lt HE0.out)).trans HE0.out); have HR1 := Lib.hid (HR0.out.below hb1); have HD1 := Lib.hid (HD0.out.below hb1); have HU1 := Lib.hid (HU0.out.next hb1); have x2 := HP1.out.nine.2.2.1; clear hb1)
      | (go_at_call 16; (refine (clone_at A n c a.cells w1 HR1.out.hn HR1.out.rd (by omega) HN0.out).mono ?_); rintro _ w2 ⟨gs, c2, rfl, ho2, hb2⟩; have HO2 := Lib.hid ho2; have HB2 := Lib.hid hb2; have HP2 := Lib.hid (HP1.out.below hb2); have HQ2 := Lib.hid (HQ1.out.below hb2); have HE2 := Lib.hid ((hb2.block q5 (heap_lt HE1.out)).trans HE1.out); have x2' := HP2.out.nine.2.2.1; have f2' := heap_free HP2.out 2; clear ho2 hb2))
    obtain ⟨W3, eW3⟩ : ∃ W, W = w2.setCell ⟨p0, 2, none⟩ (.slice (some ⟨gs, 0, none⟩) n c2) := ⟨_, rfl⟩
    rw [← eW3]
    have k3 : Stays (fun k => k = p0) w2 W3 := by rw [eW3]; exact Stays.set _ _ ⟨p0, 2, none⟩ _ rfl
    have HP3 : Hid (ScB W3 p0 a (some ⟨gs, 0, none⟩) n c2 L 0 cm) := Lib.hid (by rw [eW3]; exact heap_set HP2.out 2 _)
    have HQ3 := Lib.hid (k3.scB HQ2.out (fun e => HQQ.out.2.2.2.2.1 e.symm))
    have HE3 := Lib.hid ((k3.block q5 (heap_lt HE2.out) (fun e => HQQ.out.2.2.2.2.2 e.symm)).trans HE2.out)
    obtain ⟨B, eB⟩ : ∃ B, B = w1.heap.size := ⟨_, rfl⟩
    have HBL : Hid (p0 < B ∧ q4 < B ∧ q5 < B ∧ B ≤ gs ∧ B ≤ W3.heap.size ∧ gs < W3.heap.size ∧ w.heap.size ≤ B) := Lib.hid ⟨by rw [eB]; exact heap_lt HP1.out, by rw [eB]; exact heap_lt HQ1.out, by rw [eB]; exact heap_lt HE1.out, by rw [eB]; exact (HO2.out.lt gs rfl).1, by rw [eB]; exact Nat.le_trans HB2.out.size k3.size, Nat.lt_of_lt_of_le (HO2.out.lt gs rfl).2 k3.size, by rw [eB]; exact HB1.out.size⟩
    have HO3 : Hid (OwnC W3 B (.slice (some ⟨gs, 0, none⟩) n c2) a.cells) := Lib.hid (by rw [eB]; exact k3.keepC HO2.out (fun j ej x => by injection ej with ej; have h1 := HBL.out; have : gs = j := ej; omega))
    have HB3 : Hid (Below w.heap.size w W3) := Lib.hid (HB1.out.trans ((HB2.out.mono HB1.out.size).trans (k3.below (Nat.le_trans HB1.out.size HB2.out.size) (fun j hj x => by have := HQQ.out.2.2.2.1; omega))))
    have HD3 : Hid (Rd W3 D (bs.map bv)) := Lib.hid (HDW.out.below HB3.out)
    have HU3 : Hid (TabU W3) := Lib.hid (HUW.out W3 HB3.out)
    go_upto_region 5 with (fail)
    clear eW3 k3 eB HO2 HP2 HQ2 HE2 HP1 HQ1 HE1 HR1 HD1 HU1 HB2 x2 x2' f2'
    refine wp_region_rt 58 3 [Rl.eq (.slice D dn dc), Rl.newr W3.heap.size bs, Rl.eq (.agg (scC a (some ⟨gs, 0, none⟩) n c2 L 0 cm))] [18, 19, 20, 21, 22, 6] (by kernel_rfl) rfl (by kernel_rfl) (by kernel_rfl) (by decide) (by kernel_rfl) (by kernel_rfl) ?_ ?_
    · simp only [List.take_succ_cons, List.take_zero]
      repeat (first | exact AllFrom.nil_ | (refine AllFrom.cons_ (by rfl) ?_ ?_; rotate_left))
      · intro f_ w' g_ hF hD
        have h1 : f_ 1 = .slice D dn dc := hF 1 (by kernel_rfl)
        rw [if_pos (wanted_none rfl)]
        clear hF hD
        exact gives_val (by simp only [execOp, evF, h1]; first | rfl | go_simp) ⟨Gr.refl _, rfl⟩
      · intro f_ w' g_ hF hD
        have h18 : f_ 18 = (.slice D dn dc) := hD 0 18 (by kernel_rfl) rfl
        rw [if_pos (wanted_none rfl)]
        clear hF hD
        have kg : Below W3.heap.size W3 w' := (below_drewN (Below.refl _ _) 1).trans g_
        refine gives_func rfl Tryz.func17 (by kernel_rfl) rfl (by simp only [List.map_toArray, List.map_cons, List.map_nil, evF, h18]) ((Rnew_c D dn dc bs w' HDN.out (HD3.out.below kg) HDL.out).mono ?_)
        rintro e w'' ⟨r, gA, rfl, h1, h2, h3, h4⟩
        exact ⟨_, rfl, h3, r, gA, rfl, Nat.le_trans kg.size h1, h2, fun ad ha => ⟨Nat.le_trans kg.size (h4 ad ha).1, (h4 ad ha).2⟩⟩
      · intro f_ w' g_ hF hD
        have h2 : f_ 2 = .pointer (some ⟨p0, 0, none⟩) := hF 2 (by kernel_rfl)
        rw [if_pos (wanted_none rfl)]
        clear hF hD
        have kg : Below W3.heap.size W3 w' := (below_drewN (Below.refl _ _) 1).trans g_
        exact gives_load_row 25 (.tmp 2) rfl p0 (by simp only [evF, h2]) 25 (scC a (some ⟨gs, 0, none⟩) n c2 L 0 cm) (0, 0) _ (HP3.out.below kg) Tryz.underlying25 rfl (info_sc.trans rfl) ⟨Gr.refl _, rfl⟩
    intro f_ w7 gg hD
    obtain ⟨r, gA, h19, hr1, hr2, hr3⟩ : ∃ r gA, f_ 19 = .pointer (some ⟨r, 0, none⟩) ∧ W3.heap.size ≤ r ∧ Rdr w7 r ⟨bs, 0, 0, gA⟩ ∧ ∀ a, gA = some a → W3.heap.size ≤ a.block ∧ a.block < w7.heap.size := hD 1 19 (by decide) rfl
    have h20 : f_ 20 = .agg (scC a (some ⟨gs, 0, none⟩) n c2 L 0 cm) := hD 2 20 (by decide) rfl
    have kg : Below W3.heap.size W3 w7 := (below_drewN (Below.refl _ _) 1).trans gg
    simp only [List.drop_succ_cons, List.drop_zero, putAll, List.setIfInBounds_toArray, List.set_cons_zero, List.set_cons_succ, h19, h20]
    have HR7 : Hid (W3.heap.size ≤ r ∧ Rdr w7 r ⟨bs, 0, 0, gA⟩ ∧ ∀ a, gA = some a → W3.heap.size ≤ a.block ∧ a.block < w7.heap.size) := Lib.hid ⟨hr1, hr2, hr3⟩
    have HK7 := Lib.hid kg
    generalize f_ 18 = d18
    clear hD gg h19 h20 kg hr1 hr2 hr3
    have hsz : (scC a (some ⟨gs, 0, none⟩) n c2 L 0 cm).size = 9 := rfl
    go_upto_region 6 with (fail)
    clear hsz
    generalize eY : Array.foldl (fun (cs : Array Value) (x : Value × Nat) => cs.setIfInBounds (1 + x.2) x.1) _ _ _ _ = Y
    have HY : Hid (Y = rgC r a (some ⟨gs, 0, none⟩) n c2 L 0 cm) := Lib.hid (by rw [← eY]; kernel_rfl)
    generalize eX : World.alloc w7 _ = W8
    obtain ⟨p, ep⟩ : ∃ p, p = w7.heap.size := ⟨_, rfl⟩
    rw [← ep]
    have HG8 : Hid (RgS B p r gs gA C R a n c2 L cm ⟨bs, 0, 0, gA⟩ W3 W8) := Lib.hid (by
      have hb8 : Below w7.heap.size w7 W8 := by rw [← eX]; exact (Below.refl _ _).alloc (Nat.le_refl _) _
      have h38 : Below W3.heap.size W3 W8 := HK7.out.trans (hb8.mono HK7.out.size)
      have hbl := HBL.out
      have h7 := HR7.out
      have hp8 : W8.heap[p]? = some (.cells (rgC r a (some ⟨gs, 0, none⟩) n c2 L 0 cm) 55 (0, 0)) := by rw [← eX, ep, ← HY.out]; exact heap_alloc_new _ _
      have hz7 := HK7.out.size
      have hrl := h7.2.1.lt
      exact ⟨h38.mono hbl.2.2.2.2.1, hp8, h7.2.1.below hb8, rfl, rfl, OwnC.below HO3.out h38, ⟨by omega, by omega, by omega, fun ad ha => ⟨by have := h7.2.2 ad ha; omega, by have := h7.2.2 ad ha; omega, by have := h7.2.2 ad ha; have := hb8.size; omega⟩⟩, ⟨by have := HW1.out; omega, by omega, by omega⟩, HOT.out.1, HNC.out, ⟨HF.out.c1, HF.out.c2, HF.out.r1, HF.out.r2⟩, HF.out.c, HF.out.r, HF.out.lk, HOT.out.2⟩)
    obtain ⟨TT, eTT⟩ : ∃ TT, things17 6 0 a bs = TT := ⟨_, rfl⟩
    have HTT := Lib.hid eTT
    have HZE : Hid (∀ e, TT.1 = e → e ≠ 0 → (scZ, e) = Z) := Lib.hid (fun e h1 h2 => by rw [← EZ.out]; unfold app17; rw [if_pos E1.out, HTT.out, if_neg (by rw [h1]; exact h2), h1])
    have HZ0 : Hid (∀ s, TT = (0, s) → (fit17 s = true → (s, 0) = Z) ∧ (fit17 s = false → (scZ, 3) = Z)) := Lib.hid (fun s h1 => ⟨fun h2 => by rw [← EZ.out]; unfold app17; rw [if_pos E1.out, HTT.out, h1, if_pos rfl, if_pos h2], fun h2 => by rw [← EZ.out]; unfold app17; rw [if_pos E1.out, HTT.out, h1, if_pos rfl, if_neg (by rw [h2]; decide)]⟩)
    have HQB : Hid (∀ W, Below B W3 W → ScB W q4 scZ none 0 0 none 0 0 ∧ W.heap[q5]? = some (.cells #[.int .i64 0] 31 (0, 0)) ∧ Below w.heap.size w W) := Lib.hid (fun W hW => ⟨(hW.block q4 HBL.out.2.1).trans HQ3.out, (hW.block q5 HBL.out.2.2.1).trans HE3.out, HB3.out.trans (hW.mono HBL.out.2.2.2.2.2.2)⟩)
    clear eY eX ep eTT HP3 HQ3 HE3 HO3 HB3 HD3 HR7 HK7 HY
    go_wp2_with (fail)
    go_loopw [7] (fun la wr => ∃ (l f gs C R : Nat) (s : ScD) (n c : Nat) (L : Option Addr) (d : Nat) (st : RS), la = .int .i64 l ∧ l ≤ 5 ∧ Hid (6 ≤ f + l) ∧ Hid (things17 f l s st.rest = TT) ∧ Hid (RgS B p r gs gA C R s n c L d st W3 wr)) (fun la _ => 5 - (intOf la).toNat)
    case atStart => exact ⟨0, 6, gs, C, R, a, n, c2, L, cm, ⟨bs, 0, 0, gA⟩, rfl, Nat.zero_le _, Lib.hid (Nat.le_refl _), HTT, HG8⟩
    case round =>
      clear HG8 HTT HN0 HNC HF
      obtain ⟨l, f, gs2, C2, R2, s, n2, c3, L2, d2, st, rfl, hl, HF6, HT, H2⟩ := hrel
      obtain ⟨F, rfl⟩ : ∃ F, f = F + 1 := ⟨f - 1, by have := HF6.out; omega⟩
      have c0 := H2.out.pt.cell
      have HRL := Lib.hid (rest_len st)
      cases hr : st.rest with
      | nil =>
        have HS : Hid (TT = (0, s)) := Lib.hid (by rw [← HT.out, hr]; rfl)
        have hlen : st.b.length - st.at_ = 0 := by rw [← HRL.out, hr]; rfl
        have HLEN := Lib.hid hlen
        obtain ⟨b2, e2⟩ : ∃ t, fit17 s = t := ⟨_, rfl⟩
        have E2 := Lib.hid e2
        obtain ⟨hz1, hz2⟩ := HZ0.out s HS.out
        have HZ1 := Lib.hid hz1
        have HZ2 := Lib.hid hz2
        clear hr hlen e2 hz1 hz2
        cases b2
        · go_wp2_with (first
            | (go_at_call 18; (refine (Rleft_c r st wr H2.out.rd).mono ?_); rintro _ wx ⟨rfl, hq⟩; rw [HLEN.out]; obtain ⟨qq, hq⟩ := hq; have H3 := Lib.hid (show RgS B p r gs2 gA C2 R2 s n2 c3 L2 d2 st W3 wx from hq ▸ H2.out.below (below_drewN (Below.refl _ _) qq)); have c1 := H3.out.pt.cell; clear hq)
            | (refine wpList_load_cells rfl 25 (.tmp 49) rfl ⟨p, 1, none⟩ rfl (scC s (some ⟨gs2, 0, none⟩) n2 c3 L2 0 d2).toList (.agg (scC s (some ⟨gs2, 0, none⟩) n2 c3 L2 0 d2)) rfl _ (rg_load H3.out.hp) Tryz.underlying25 rfl (info_sc.trans rfl) ?_)
            | (go_at_call 14; (refine (fits17_c s (some ⟨gs2, 0, none⟩) n2 c3 L2 0 d2 wx H3.out.scr (H3.out.tab HU3.out)).mono ?_); rintro _ w4 ⟨rfl, hb4⟩; rw [E2.out]; have H4 := Lib.hid (H3.out.below hb4); have H4Q := Lib.hid (HQB.out w4 H4.out.bel); have y5 : (w4.setRow q4 (scC scZ none 0 0 none 0 0)).cell? ⟨q5, 0, none⟩ = some (.int .i64 0) := (by { rw [heap_cell ((setRow_other w4 q4 q5 _ HQQ.out.2.2.1).trans H4Q.out.2.1)]; rfl }); have f5 := heap_free ((setRow_other w4 q4 q5 (scC scZ none 0 0 none 0 0) HQQ.out.2.2.1).trans H4Q.out.2.1) 0; clear hb4)
            | (refine wpList_store_row rfl 25 (.tmp 4) (.tmp 53) rfl q4 (scC scZ none 0 0 none 0 0) rfl rfl 25 _ H4Q.out.1 (info_sc.trans rfl) rfl (sc_one _ _ _ _ _ _ _) ?_))
          obtain ⟨g1, g2, g3⟩ := fin_w H4Q.out.1 H4Q.out.2.1 HQQ.out.2.2.1 (scC scZ none 0 0 none 0 0) 3 H4Q.out.2.2 ⟨HQQ.out.1, HQQ.out.2.1⟩
          refine leaves_cons (f := 15) (args := #[.pointer (some ⟨q4, 0, none⟩), .pointer (some ⟨q5, 0, none⟩)]) (by simp) (by simp [go_sem]) ?_
          refine (catch17_idle _ _ _).mono ?_
          rintro e u' w'' ⟨rfl, rfl, rfl⟩
          exact ⟨_, app_results _ q4 q5 _ 3 rfl rfl _ g1 (info_sc.trans rfl) g2, PostR.none_ (HZ2.out E2.out) rfl g3⟩
        · go_wp2_with (first
            | (go_at_call 18; (refine (Rleft_c r st wr H2.out.rd).mono ?_); rintro _ wx ⟨rfl, hq⟩; rw [HLEN.out]; obtain ⟨qq, hq⟩ := hq; have H3 := Lib.hid (show RgS B p r gs2 gA C2 R2 s n2 c3 L2 d2 st W3 wx from hq ▸ H2.out.below (below_drewN (Below.refl _ _) qq)); have c1 := H3.out.pt.cell; clear hq)
            | (refine wpList_load_cells rfl 25 (.tmp 49) rfl ⟨p, 1, none⟩ rfl (scC s (some ⟨gs2, 0, none⟩) n2 c3 L2 0 d2).toList (.agg (scC s (some ⟨gs2, 0, none⟩) n2 c3 L2 0 d2)) rfl _ (rg_load H3.out.hp) Tryz.underlying25 rfl (info_sc.trans rfl) ?_)
            | (go_at_call 14; (refine (fits17_c s (some ⟨gs2, 0, none⟩) n2 c3 L2 0 d2 wx H3.out.scr (H3.out.tab HU3.out)).mono ?_); rintro _ w4 ⟨rfl, hb4⟩; rw [E2.out]; have H4 := Lib.hid (H3.out.below hb4); have H4Q := Lib.hid (HQB.out w4 H4.out.bel); have y5 : (w4.setRow q4 (scC s (some ⟨gs2, 0, none⟩) n2 c3 L2 0 d2)).cell? ⟨q5, 0, none⟩ = some (.int .i64 0) := (by { rw [heap_cell ((setRow_other w4 q4 q5 _ HQQ.out.2.2.1).trans H4Q.out.2.1)]; rfl }); have f5 := heap_free ((setRow_other w4 q4 q5 (scC s (some ⟨gs2, 0, none⟩) n2 c3 L2 0 d2) HQQ.out.2.2.1).trans H4Q.out.2.1) 0; clear hb4)
            | (refine wpList_load_cells rfl 25 (.tmp 56) rfl ⟨p, 1, none⟩ rfl (scC s (some ⟨gs2, 0, none⟩) n2 c3 L2 0 d2).toList (.agg (scC s (some ⟨gs2, 0, none⟩) n2 c3 L2 0 d2)) rfl _ (rg_load H4.out.hp) Tryz.underlying25 rfl (info_sc.trans rfl) ?_)
            | (refine wpList_store_row rfl 25 (.tmp 4) (.tmp 57) rfl q4 (scC s (some ⟨gs2, 0, none⟩) n2 c3 L2 0 d2) rfl rfl 25 _ H4Q.out.1 (info_sc.trans rfl) rfl (sc_one _ _ _ _ _ _ _) ?_))
          obtain ⟨g1, g2, g3⟩ := fin_w H4Q.out.1 H4Q.out.2.1 HQQ.out.2.2.1 (scC s (some ⟨gs2, 0, none⟩) n2 c3 L2 0 d2) 0 H4Q.out.2.2 ⟨HQQ.out.1, HQQ.out.2.1⟩
          have g4 : OwnC ((w4.setRow q4 (scC s (some ⟨gs2, 0, none⟩) n2 c3 L2 0 d2)).setCell ⟨q5, 0, none⟩ (.int .i64 0)) w.heap.size (.slice (some ⟨gs2, 0, none⟩) n2 c3) s.cells :=
            (((Stays.setRow (fun k => k = q4 ∨ k = q5) w4 q4 (scC s (some ⟨gs2, 0, none⟩) n2 c3 L2 0 d2) (.inl rfl)).trans (Stays.set _ _ ⟨q5, 0, none⟩ (.int .i64 0) (.inr rfl))).keepC H4.out.own (fun j ej x => by injection ej with ej; have h1 := H4.out.own.len.2.2.2.1; have h2 := HBL.out; have : gs2 = j := ej; omega)).low HBL.out.2.2.2.2.2.2
          refine leaves_cons (f := 15) (args := #[.pointer (some ⟨q4, 0, none⟩), .pointer (some ⟨q5, 0, none⟩)]) (by simp) (by simp [go_sem]) ?_
          refine (catch17_idle _ _ _).mono ?_
          rintro e u' w'' ⟨rfl, rfl, rfl⟩
          exact ⟨_, app_results _ q4 q5 _ 0 rfl rfl _ g1 (info_sc.trans rfl) g2, PostR.some_ (HZ1.out E2.out) g4 H4.out.lk g3 H4.out.ok⟩
      | cons k l' =>
        obtain ⟨s1, e1, a1, b1, g1, -⟩ := num1_cons H2.out.er hr
        obtain ⟨K, eK⟩ : ∃ K, K = k.toNat := ⟨_, rfl⟩
        rw [← eK] at e1
        have hK : K < 256 := by rw [eK]; exact UInt8.toNat_lt k
        have HSTEP : Hid ((if K ≤ l ∨ 5 < K then (3, s) else if (thing17 K s l').1 = 0 then things17 F K (thing17 K s l').2.1 (thing17 K s l').2.2 else ((thing17 K s l').1, (thing17 K s l').2.1)) = TT) := Lib.hid (by rw [← HT.out, hr, eK]; rfl)
        obtain ⟨N1, eN1⟩ : ∃ N1, st.b.length - st.at_ = N1 := ⟨_, rfl⟩
        have hN1 : 0 < N1 := by rw [← eN1, ← HRL.out, hr, List.length_cons]; exact Nat.succ_pos _
        have hN1d : decide ((0 : Int) < (N1 : Int)) = true := decide_eq_true (by omega)
        have hN1n : decide (0 < N1) = true := decide_eq_true hN1
        have HLEN := Lib.hid eN1
        have EN := Lib.hid e1
        have A1 := Lib.hid a1
        have B1 := Lib.hid b1
        have G1 := Lib.hid g1
        have hwK : IntKind.i64.wrap (K : Int) = (K : Int) := IntWalk.i64_in _ ⟨by omega, by omega⟩
        obtain ⟨b3, d3⟩ : ∃ b, decide (K ≤ l) = b := ⟨_, rfl⟩
        obtain ⟨b4, d4⟩ : ∃ b, decide (5 < K) = b := ⟨_, rfl⟩
        have d3i : decide ((K : Int) ≤ (l : Int)) = b3 := by rw [← d3]; exact decide_eq_decide.2 (by omega)
        have d4i : decide ((5 : Int) < (K : Int)) = b4 := by rw [← d4]; exact decide_eq_decide.2 (by omega)
        have D3 := Lib.hid d3
        have D4 := Lib.hid d4
        clear hr e1 a1 b1 g1 eK eN1
        cases b3
        rotate_left
        · have HE3 : Hid ((scZ, 3) = Z) := Lib.hid (HZE.out 3 (by rw [← HSTEP.out, if_pos (.inl (of_decide_eq_true D3.out))]) (by decide))
          go_wp2_with (first
            | (go_at_call 18; (refine (Rleft_c r st wr H2.out.rd).mono ?_); rintro _ wx ⟨rfl, hq⟩; rw [HLEN.out]; obtain ⟨qq, hq⟩ := hq; have H3 := Lib.hid (show RgS B p r gs2 gA C2 R2 s n2 c3 L2 d2 st W3 wx from hq ▸ H2.out.below (below_drewN (Below.refl _ _) qq)); have c1 := H3.out.pt.cell; clear hq)
            | (go_at_call 19; (refine (Rnum_c r st 1 wx H3.out.rd (by decide)).mono ?_); rintro _ w4 ⟨rfl, hr4, hg4⟩; rw [EN.out] at hr4 ⊢; have H4 := Lib.hid (H3.out.read hr4 A1.out G1.out hg4); have H4Q := Lib.hid (HQB.out w4 H4.out.bel); clear hr4 hg4))
          refine leaves_cons (f := 15) (args := #[.pointer (some ⟨q4, 0, none⟩), .pointer (some ⟨q5, 0, none⟩)]) (by simp) (by simp [go_sem]) ?_
          obtain ⟨g1, g2, g3⟩ := fin_w H4Q.out.1 H4Q.out.2.1 HQQ.out.2.2.1 (scC scZ none 0 0 none 0 0) ((3 : Nat) : Int) H4Q.out.2.2 ⟨HQQ.out.1, HQQ.out.2.1⟩
          refine (catch17 q4 q5 (3) [] _ _ 0 rfl H4Q.out.1 H4Q.out.2.1 HQQ.out.2.2.1).mono ?_
          rintro r' u' w'' ⟨rfl, rfl, rfl⟩
          exact ⟨_, app_results _ q4 q5 _ _ rfl rfl _ g1 (info_sc.trans rfl) g2, PostR.none_ (HE3.out) rfl g3⟩
        cases b4
        rotate_left
        · have HE3 : Hid ((scZ, 3) = Z) := Lib.hid (HZE.out 3 (by rw [← HSTEP.out, if_pos (.inr (of_decide_eq_true D4.out))]) (by decide))
          go_wp2_with (first
            | (go_at_call 18; (refine (Rleft_c r st wr H2.out.rd).mono ?_); rintro _ wx ⟨rfl, hq⟩; rw [HLEN.out]; obtain ⟨qq, hq⟩ := hq; have H3 := Lib.hid (show RgS B p r gs2 gA C2 R2 s n2 c3 L2 d2 st W3 wx from hq ▸ H2.out.below (below_drewN (Below.refl _ _) qq)); have c1 := H3.out.pt.cell; clear hq)
            | (go_at_call 19; (refine (Rnum_c r st 1 wx H3.out.rd (by decide)).mono ?_); rintro _ w4 ⟨rfl, hr4, hg4⟩; rw [EN.out] at hr4 ⊢; have H4 := Lib.hid (H3.out.read hr4 A1.out G1.out hg4); have H4Q := Lib.hid (HQB.out w4 H4.out.bel); clear hr4 hg4))
          refine leaves_cons (f := 15) (args := #[.pointer (some ⟨q4, 0, none⟩), .pointer (some ⟨q5, 0, none⟩)]) (by simp) (by simp [go_sem]) ?_
          obtain ⟨g1, g2, g3⟩ := fin_w H4Q.out.1 H4Q.out.2.1 HQQ.out.2.2.1 (scC scZ none 0 0 none 0 0) ((3 : Nat) : Int) H4Q.out.2.2 ⟨HQQ.out.1, HQQ.out.2.1⟩
          refine (catch17 q4 q5 (3) [] _ _ 0 rfl H4Q.out.1 H4Q.out.2.1 HQQ.out.2.2.1).mono ?_
          rintro r' u' w'' ⟨rfl, rfl, rfl⟩
          exact ⟨_, app_results _ q4 q5 _ _ rfl rfl _ g1 (info_sc.trans rfl) g2, PostR.none_ (HE3.out) rfl g3⟩
        have hKl : l < K := by have := of_decide_eq_false D3.out; omega
        have hK5 : K ≤ 5 := by have := of_decide_eq_false D4.out; omega
        obtain ⟨T, eT⟩ : ∃ T, thing17 K s l' = T := ⟨_, rfl⟩
        have HST : Hid ((if T.1 = 0 then things17 F K T.2.1 T.2.2 else (T.1, T.2.1)) = TT) := Lib.hid (by have h := HSTEP.out; rw [if_neg (by omega), eT] at h; exact h)
        have HTH : Hid (∀ w4, RgS B p r gs2 gA C2 R2 s n2 c3 L2 d2 s1 W3 w4 → Calls Tryz.prog 20 #[.pointer (some ⟨p, 0, none⟩), .int .i64 (K : Int)] w4 fun e w' => ThP B p r gA W3 T e w') := Lib.hid (fun w4 h4 => by
          have h := thing17_c K ⟨by omega, hK5⟩ B p r gs2 gA C2 R2 s n2 c3 L2 d2 s1 W3 w4 h4 HU3.out
          rw [B1.out, eT] at h
          exact h)
        have HKB : Hid (l < K ∧ K ≤ 5) := Lib.hid ⟨hKl, hK5⟩
        clear eT HSTEP
        by_cases hT : T.1 = 0
        · have HT0 := Lib.hid hT
          clear hT
          go_wp2_with (first
            | (go_at_call 18; (refine (Rleft_c r st wr H2.out.rd).mono ?_); rintro _ wx ⟨rfl, hq⟩; rw [HLEN.out]; obtain ⟨qq, hq⟩ := hq; have H3 := Lib.hid (show RgS B p r gs2 gA C2 R2 s n2 c3 L2 d2 st W3 wx from hq ▸ H2.out.below (below_drewN (Below.refl _ _) qq)); have c1 := H3.out.pt.cell; clear hq)
            | (go_at_call 19; (refine (Rnum_c r st 1 wx H3.out.rd (by decide)).mono ?_); rintro _ w4 ⟨rfl, hr4, hg4⟩; rw [EN.out] at hr4 ⊢; have H4 := Lib.hid (H3.out.read hr4 A1.out G1.out hg4); have H4Q := Lib.hid (HQB.out w4 H4.out.bel); clear hr4 hg4)
            | (go_at_call 20; (refine (HTH.out w4 H4.out).mono ?_); rintro _ w5 ⟨k1, _, k3⟩; obtain ⟨rfl, hk⟩ := k1 HT0.out; have HK5 := Lib.hid hk; clear k1 k3 hk))
          obtain ⟨gs6, C6, R6, n6, c6, L6, d6, s6, h6, hr6⟩ := HK5.out
          have H6 := Lib.hid h6
          have HR6 : Hid (things17 F K T.2.1 s6.rest = TT) := Lib.hid (by rw [hr6]; have h := HST.out; rw [if_pos HT0.out] at h; exact h)
          clear h6 hr6 HK5
          go_roundw
          case rel => exact ⟨K, F, gs6, C6, R6, T.2.1, n6, c6, L6, d6, s6, rfl, hK5, Lib.hid (by have := HF6.out; omega), HR6, H6⟩
          case measure => simp [intOf]; omega
        · have HT0 := Lib.hid hT
          have HE3 : Hid ((scZ, T.1) = Z) := Lib.hid (HZE.out T.1 (by rw [← HST.out, if_neg hT]) hT)
          clear hT
          go_wp2_with (first
            | (go_at_call 18; (refine (Rleft_c r st wr H2.out.rd).mono ?_); rintro _ wx ⟨rfl, hq⟩; rw [HLEN.out]; obtain ⟨qq, hq⟩ := hq; have H3 := Lib.hid (show RgS B p r gs2 gA C2 R2 s n2 c3 L2 d2 st W3 wx from hq ▸ H2.out.below (below_drewN (Below.refl _ _) qq)); have c1 := H3.out.pt.cell; clear hq)
            | (go_at_call 19; (refine (Rnum_c r st 1 wx H3.out.rd (by decide)).mono ?_); rintro _ w4 ⟨rfl, hr4, hg4⟩; rw [EN.out] at hr4 ⊢; have H4 := Lib.hid (H3.out.read hr4 A1.out G1.out hg4); have H4Q := Lib.hid (HQB.out w4 H4.out.bel); clear hr4 hg4))
          refine (HTH.out w4 H4.out).mono ?_
          rintro _ w5 ⟨_, k2, k3⟩
          obtain rfl := k2 HT0.out
          have H5Q := Lib.hid (HQB.out w5 k3)
          clear k2 k3
          unfold thrownE
          go_wp2_with (fail)
          refine leaves_cons (f := 15) (args := #[.pointer (some ⟨q4, 0, none⟩), .pointer (some ⟨q5, 0, none⟩)]) (by simp) (by simp [go_sem]) ?_
          obtain ⟨g1, g2, g3⟩ := fin_w H5Q.out.1 H5Q.out.2.1 HQQ.out.2.2.1 (scC scZ none 0 0 none 0 0) ((T.1 : Nat) : Int) H5Q.out.2.2 ⟨HQQ.out.1, HQQ.out.2.1⟩
          refine (catch17 q4 q5 (T.1) [] _ _ 0 rfl H5Q.out.1 H5Q.out.2.1 HQQ.out.2.2.1).mono ?_
          rintro r' u' w'' ⟨rfl, rfl, rfl⟩
          exact ⟨_, app_results _ q4 q5 _ _ rfl rfl _ g1 (info_sc.trans rfl) g2, PostR.none_ (HE3.out) rfl g3⟩
    end Go.Proofs.YtndjggabdajbfaaGreatDoor



/- Plain: what the walks of layer 17 lean on: cells such as the second version tells them; a screen that fits is read. Conditions: none. -/
namespace Go.Proofs.YtndjggabdajbfaaGreatDoor
open Go Go.RowKit Go.Lib

end Go.Proofs.YtndjggabdajbfaaGreatDoor



/- Plain: the reference's number (17) by the reader's state, and that it is num17 of the bytes ahead. Conditions: the state has no error. -/
namespace Go.Proofs.YtndjggabdajbfaaGreatDoor
open Go Go.RowKit Go.Lib

theorem varGo_bad : ∀ (l : List UInt8) (i e : Nat), varGo l i = .bad e → e ≠ 0
  | [], i, e, h => by rw [varGo] at h; injection h with h; omega
  | d :: l, i, e, h => by
    rw [varGo] at h
    split at h
    · injection h with h; omega
    · split at h
      · cases h
      · split at h
        · rename_i e' he
          injection h with h
          exact h ▸ varGo_bad l (i + 1) e' he
        · cases h
/-- What number answers: the number, the reader behind it, the error. -/
def refNum (s : RS) (most : Int) : Nat × RS × Nat :=
  if (varR s).2.err ≠ 0 then (0, (varR s).2, (varR s).2.err) else if most < 0 ∨ most < ((varR s).1 : Int) then (0, (varR s).2, 3) else ((varR s).1, (varR s).2, 0)
theorem refNum_is {s : RS} {most : Int} (h0 : s.err = 0) :
    (refNum s most).2.2 = (num17 most (s.b.drop s.at_)).1 ∧ (refNum s most).1 = (num17 most (s.b.drop s.at_)).2.1 ∧
      ((num17 most (s.b.drop s.at_)).1 = 0 → (refNum s most).2.1.b = s.b ∧ (refNum s most).2.1.gA = s.gA ∧ (refNum s most).2.1.err = 0 ∧ s.b.drop (refNum s most).2.1.at_ = (num17 most (s.b.drop s.at_)).2.2) := by
  have hv : varR s = match varGo (s.b.drop s.at_) 0 with
    | .bad e => (0, { s with err := e })
    | .ok n k => (n, { s with at_ := s.at_ + k }) := by
    rw [varR, if_neg (by rw [h0]; decide)]
    cases varGo (s.b.drop s.at_) 0 <;> rfl
  unfold refNum num17
  rw [hv]
  cases hg : varGo (s.b.drop s.at_) 0 with
  | bad e =>
    have he := varGo_bad _ _ _ hg
    simp only []
    rw [if_pos he]
    exact ⟨rfl, rfl, fun h => absurd h he⟩
  | ok n k =>
    simp only []
    rw [if_neg (by rw [h0]; decide)]
    by_cases hm : most < 0 ∨ most < (n : Int)
    · rw [if_pos hm, if_pos hm]
      exact ⟨rfl, rfl, fun h => (by cases h)⟩
    · rw [if_neg hm, if_neg hm]
      exact ⟨rfl, rfl, fun _ => ⟨rfl, rfl, h0, by rw [List.drop_drop]⟩⟩
end Go.Proofs.YtndjggabdajbfaaGreatDoor



/- Plain: a run's five numbers, one by one, as the reference reads them, and that they are those of oneP. Conditions: none. -/
namespace Go.Proofs.YtndjggabdajbfaaGreatDoor
open Go Go.RowKit Go.Lib

/-- How great the number at place i may be. -/
def most5 (i : Nat) (d : Int) : Int := if i < 2 then d else if i = 4 then 255 else 4294967295
/-- Is the number at place i none? -/
def bad5 (i v : Nat) : Bool := (i == 1 && v == 0) || ((i == 2 || i == 3) && !colMay (v : Int))
/-- The numbers from place i on: the error, the place, the numbers, the bytes behind. -/
def fiveP (N : Nat) : Nat → Nat → Nat → List Nat → List UInt8 → Nat × Nat × List Nat × List UInt8
  | 0, _, a, vs, l => (0, a, vs, l)
  | m + 1, i, a, vs, l =>
    if (num17 (most5 i ((N : Int) - (a : Int))) l).1 ≠ 0 then ((num17 (most5 i ((N : Int) - (a : Int))) l).1, a, vs, l)
    else if bad5 i (num17 (most5 i ((N : Int) - (a : Int))) l).2.1 = true then (3, a, vs, l)
    else fiveP N m (i + 1) (if i = 0 then a + (num17 (most5 i ((N : Int) - (a : Int))) l).2.1 else a) (vs.set i (num17 (most5 i ((N : Int) - (a : Int))) l).2.1) (num17 (most5 i ((N : Int) - (a : Int))) l).2.2
section
variable {N m i a q : Nat} {vs : List Nat} {l l' : List UInt8}
theorem fiveP_no (h : (num17 (most5 i ((N : Int) - (a : Int))) l).1 ≠ 0) : (fiveP N (m + 1) i a vs l).1 = (num17 (most5 i ((N : Int) - (a : Int))) l).1 := by
  rw [fiveP, if_pos h]
theorem fiveP_bad (h : num17 (most5 i ((N : Int) - (a : Int))) l = (0, q, l')) (hb : bad5 i q = true) : (fiveP N (m + 1) i a vs l).1 = 3 := by
  rw [fiveP, h]
  simp only [ne_eq, not_true_eq_false, if_false]
  rw [if_pos hb]
theorem fiveP_go (h : num17 (most5 i ((N : Int) - (a : Int))) l = (0, q, l')) (hb : bad5 i q = false) : fiveP N (m + 1) i a vs l = fiveP N m (i + 1) (if i = 0 then a + q else a) (vs.set i q) l' := by
  rw [fiveP, h]
  simp only [ne_eq, not_true_eq_false, if_false]
  rw [if_neg (by rw [hb]; decide)]
end
/-- A run by its five numbers. -/
theorem oneP_five (a : Nat) (l : List UInt8) (cs : List CeD) (ha : a ≤ cs.length) :
    ((fiveP cs.length 5 0 a [0, 0, 0, 0, 0] l).1 ≠ 0 → (oneP a l cs).1 = (fiveP cs.length 5 0 a [0, 0, 0, 0, 0] l).1) ∧
    ((fiveP cs.length 5 0 a [0, 0, 0, 0, 0] l).1 = 0 → ∃ x k f b t l', fiveP cs.length 5 0 a [0, 0, 0, 0, 0] l = (0, a + x, [x, k, f, b, t], l') ∧ k ≠ 0 ∧ a + x + k ≤ cs.length ∧ f ≤ 4294967295 ∧ b ≤ 4294967295 ∧ t ≤ 255 ∧
      oneP a l cs = ((runesP (f : Int) (b : Int) (t : Int) k (a + x) l' cs).1, a + x + k, (runesP (f : Int) (b : Int) (t : Int) k (a + x) l' cs).2.1, (runesP (f : Int) (b : Int) (t : Int) k (a + x) l' cs).2.2)) := by
  have m0 : ∀ d : Int, most5 0 d = d := fun _ => rfl
  have m1 : ∀ d : Int, most5 1 d = d := fun _ => rfl
  have m2 : ∀ d : Int, most5 2 d = 4294967295 := fun _ => rfl
  have m3 : ∀ d : Int, most5 3 d = 4294967295 := fun _ => rfl
  have m4 : ∀ d : Int, most5 4 d = 255 := fun _ => rfl
  have b0 : ∀ v, bad5 0 v = false := fun _ => rfl
  have b1 : ∀ v, bad5 1 v = (v == 0) := fun v => by simp [bad5]
  have b2 : ∀ v, bad5 2 v = !colMay (v : Int) := fun v => by simp [bad5]
  have b3 : ∀ v, bad5 3 v = !colMay (v : Int) := fun v => by simp [bad5]
  have b4 : ∀ v, bad5 4 v = false := fun v => by simp [bad5]
  by_cases h1 : (num17 ((cs.length : Int) - (a : Int)) l).1 = 0
  rotate_left
  · have e : (fiveP cs.length 5 0 a [0, 0, 0, 0, 0] l).1 = (num17 ((cs.length : Int) - (a : Int)) l).1 := fiveP_no (i := 0) h1
    refine ⟨fun _ => by rw [e]; exact oneP_1 h1, fun h => absurd (e ▸ h) h1⟩
  obtain ⟨x, ex⟩ : ∃ x, (num17 ((cs.length : Int) - (a : Int)) l).2.1 = x := ⟨_, rfl⟩
  obtain ⟨l1, el1⟩ : ∃ x, (num17 ((cs.length : Int) - (a : Int)) l).2.2 = x := ⟨_, rfl⟩
  have E1 : num17 ((cs.length : Int) - (a : Int)) l = (0, x, l1) := by rw [num17_eta h1, ex, el1]
  have x1 := num17_le h1
  rw [ex] at x1
  have g1 : fiveP cs.length 5 0 a [0, 0, 0, 0, 0] l = fiveP cs.length 4 1 (a + x) [x, 0, 0, 0, 0] l1 := fiveP_go (i := 0) E1 (b0 x)
  rw [g1]
  by_cases h2 : (num17 ((cs.length : Int) - ((a + x : Nat) : Int)) l1).1 = 0
  rotate_left
  · have e : (fiveP cs.length 4 1 (a + x) [x, 0, 0, 0, 0] l1).1 = (num17 ((cs.length : Int) - ((a + x : Nat) : Int)) l1).1 := fiveP_no (i := 1) h2
    refine ⟨fun _ => by rw [e]; exact oneP_2 E1 h2, fun h => absurd (e ▸ h) h2⟩
  obtain ⟨k, ek⟩ : ∃ y, (num17 ((cs.length : Int) - ((a + x : Nat) : Int)) l1).2.1 = y := ⟨_, rfl⟩
  obtain ⟨l2, el2⟩ : ∃ y, (num17 ((cs.length : Int) - ((a + x : Nat) : Int)) l1).2.2 = y := ⟨_, rfl⟩
  have E2 : num17 ((cs.length : Int) - ((a + x : Nat) : Int)) l1 = (0, k, l2) := by rw [num17_eta h2, ek, el2]
  have k1 := num17_le h2
  rw [ek] at k1
  by_cases hk : k = 0
  · subst hk
    have e : (fiveP cs.length 4 1 (a + x) [x, 0, 0, 0, 0] l1).1 = 3 := fiveP_bad (i := 1) E2 (by rw [b1]; rfl)
    refine ⟨fun _ => by rw [e]; exact oneP_3 E1 E2, fun h => absurd (e ▸ h) (by decide)⟩
  have g2 : fiveP cs.length 4 1 (a + x) [x, 0, 0, 0, 0] l1 = fiveP cs.length 3 2 (a + x) [x, k, 0, 0, 0] l2 := fiveP_go (i := 1) E2 (by rw [b1, beq_eq_false_iff_ne]; exact hk)
  rw [g2]
  obtain ⟨hc1, hc2⟩ := oneP_col E1 E2 hk
  by_cases h3 : (num17 4294967295 l2).1 = 0
  rotate_left
  · have e : (fiveP cs.length 3 2 (a + x) [x, k, 0, 0, 0] l2).1 = (num17 4294967295 l2).1 := fiveP_no (i := 2) h3
    rw [colR_bad h3, if_pos h3] at hc1
    refine ⟨fun _ => by rw [e]; exact hc1, fun h => absurd (e ▸ h) h3⟩
  cases c3 : colMay ((num17 4294967295 l2).2.1 : Int)
  · have e : (fiveP cs.length 3 2 (a + x) [x, k, 0, 0, 0] l2).1 = 3 := fiveP_bad (i := 2) (q := (num17 4294967295 l2).2.1) (l' := (num17 4294967295 l2).2.2) (num17_eta h3) (by rw [b2, c3]; rfl)
    rw [colR_col h3 c3] at hc1
    refine ⟨fun _ => by rw [e]; exact hc1, fun h => absurd (e ▸ h) (by decide)⟩
  have f1 := num17_le h3
  have K3 := colR_ok h3 c3
  obtain ⟨f, ef⟩ : ∃ x, (num17 4294967295 l2).2.1 = x := ⟨_, rfl⟩
  obtain ⟨l3, el3⟩ : ∃ y, (num17 4294967295 l2).2.2 = y := ⟨_, rfl⟩
  have E3 : num17 4294967295 l2 = (0, f, l3) := by rw [num17_eta h3, ef, el3]
  rw [ef, el3] at K3
  rw [ef] at c3 f1
  have g3 : fiveP cs.length 3 2 (a + x) [x, k, 0, 0, 0] l2 = fiveP cs.length 2 3 (a + x) [x, k, f, 0, 0] l3 := fiveP_go (i := 2) E3 (by rw [b2, c3]; rfl)
  rw [g3]
  rw [K3] at hc1 hc2
  simp only [ne_eq, not_true_eq_false, if_false] at hc1 hc2
  by_cases h4 : (num17 4294967295 l3).1 = 0
  rotate_left
  · have e : (fiveP cs.length 2 3 (a + x) [x, k, f, 0, 0] l3).1 = (num17 4294967295 l3).1 := fiveP_no (i := 3) h4
    rw [colR_bad h4, if_pos h4] at hc1
    refine ⟨fun _ => by rw [e]; exact hc1, fun h => absurd (e ▸ h) h4⟩
  cases c4 : colMay ((num17 4294967295 l3).2.1 : Int)
  · have e : (fiveP cs.length 2 3 (a + x) [x, k, f, 0, 0] l3).1 = 3 := fiveP_bad (i := 3) (q := (num17 4294967295 l3).2.1) (l' := (num17 4294967295 l3).2.2) (num17_eta h4) (by rw [b3, c4]; rfl)
    rw [colR_col h4 c4] at hc1
    refine ⟨fun _ => by rw [e]; exact hc1, fun h => absurd (e ▸ h) (by decide)⟩
  have bb1 := num17_le h4
  have K4 := colR_ok h4 c4
  obtain ⟨b, eb⟩ : ∃ x, (num17 4294967295 l3).2.1 = x := ⟨_, rfl⟩
  obtain ⟨l4, el4⟩ : ∃ y, (num17 4294967295 l3).2.2 = y := ⟨_, rfl⟩
  have E4 : num17 4294967295 l3 = (0, b, l4) := by rw [num17_eta h4, eb, el4]
  rw [eb, el4] at K4
  rw [eb] at c4 bb1
  have g4 : fiveP cs.length 2 3 (a + x) [x, k, f, 0, 0] l3 = fiveP cs.length 1 4 (a + x) [x, k, f, b, 0] l4 := fiveP_go (i := 3) E4 (by rw [b3, c4]; rfl)
  rw [g4]
  rw [K4] at hc1 hc2
  simp only [not_true_eq_false, if_false] at hc1 hc2
  by_cases h5 : (num17 255 l4).1 = 0
  rotate_left
  · have e : (fiveP cs.length 1 4 (a + x) [x, k, f, b, 0] l4).1 = (num17 255 l4).1 := fiveP_no (i := 4) h5
    rw [if_pos h5] at hc1
    refine ⟨fun _ => by rw [e]; exact hc1, fun h => absurd (e ▸ h) h5⟩
  have t1 := num17_le h5
  obtain ⟨t, et⟩ : ∃ x, (num17 255 l4).2.1 = x := ⟨_, rfl⟩
  obtain ⟨l5, el5⟩ : ∃ y, (num17 255 l4).2.2 = y := ⟨_, rfl⟩
  have E5 : num17 255 l4 = (0, t, l5) := by rw [num17_eta h5, et, el5]
  rw [et] at t1
  have g5 : fiveP cs.length 1 4 (a + x) [x, k, f, b, 0] l4 = (0, a + x, [x, k, f, b, t], l5) := fiveP_go (i := 4) E5 (b4 t)
  rw [g5]
  refine ⟨fun h => absurd rfl h, fun _ => ⟨x, k, f, b, t, l5, rfl, hk, by omega, by omega, by omega, by omega, ?_⟩⟩
  have h := hc2 trivial trivial h5
  rw [et, el5] at h
  exact h
/-- What the numbers lead to, within the runs that are left. -/
theorem runs_five {n N k a : Nat} {l : List UInt8} {cs : List CeD} {RR : Nat × List UInt8 × List CeD} (hcl : cs.length = n) (ha : a ≤ n) (hk : k < N) (hR : runsP (N - k) a l cs = RR) :
    ((fiveP n 5 0 a [0, 0, 0, 0, 0] l).1 ≠ 0 → RR.1 = (fiveP n 5 0 a [0, 0, 0, 0, 0] l).1) ∧
    ((fiveP n 5 0 a [0, 0, 0, 0, 0] l).1 = 0 → ∃ x m f b t l', fiveP n 5 0 a [0, 0, 0, 0, 0] l = (0, a + x, [x, m, f, b, t], l') ∧ m ≠ 0 ∧ a + x + m ≤ n ∧ f ≤ 4294967295 ∧ b ≤ 4294967295 ∧ t ≤ 255 ∧
      ((runesP (f : Int) (b : Int) (t : Int) m (a + x) l' cs).1 ≠ 0 → RR.1 = (runesP (f : Int) (b : Int) (t : Int) m (a + x) l' cs).1) ∧
      ((runesP (f : Int) (b : Int) (t : Int) m (a + x) l' cs).1 = 0 → runsP (N - (k + 1)) (a + x + m) (runesP (f : Int) (b : Int) (t : Int) m (a + x) l' cs).2.1 (runesP (f : Int) (b : Int) (t : Int) m (a + x) l' cs).2.2 = RR)) := by
  subst hcl
  obtain ⟨M, eM⟩ : ∃ M, N - k = M + 1 := ⟨N - k - 1, by omega⟩
  have eM2 : N - (k + 1) = M := by omega
  rw [eM] at hR
  rw [eM2]
  obtain ⟨h1, h2⟩ := oneP_five a l cs ha
  refine ⟨fun h => ?_, fun h => ?_⟩
  · have h3 := h1 h
    rw [← hR, runsP_no (by rw [h3]; exact h), h3]
  · obtain ⟨x, m, f, b, t, l', e, g1, g2, g3, g4, g5, g6⟩ := h2 h
    refine ⟨x, m, f, b, t, l', e, g1, g2, g3, g4, g5, fun h4 => ?_, fun h4 => ?_⟩
    · rw [← hR, runsP_no (by rw [g6]; exact h4), g6]
    · rw [← hR, runsP_go (by rw [g6]; exact h4), g6]
theorem most5_in {i n a : Nat} (ha : a ≤ n) (hn : n ≤ 1920) : -1 ≤ most5 i ((n : Int) - (a : Int)) ∧ most5 i ((n : Int) - (a : Int)) ≤ 4294967295 := by
  unfold most5
  split
  · omega
  · split <;> omega
theorem five_self {vs : List Nat} {i x : Nat} (h : i < vs.length) : (vs.set i x).getD i 0 = x := by
  simp [List.getD, h]
end Go.Proofs.YtndjggabdajbfaaGreatDoor



/- What the reference's reader does: the same as the layer's. Conditions: lengths that fit. -/
namespace Go.Proofs.YtndjggabdajbfaaGreatDoor
open Go Go.RowKit

/-- The reference's reader as a value. -/
def rsV (A : Option Addr) (c : Nat) (s : RS) : Value := .agg #[.slice A s.b.length c, .int .i64 (s.at_ : Int), .int .i64 (s.err : Int)]
/-- What is known of it. -/
def RsOk (w : World) (A : Option Addr) (c : Nat) (s : RS) : Prop := Rd w A (s.b.map bv) ∧ s.b.length ≤ c ∧ c ≤ maxLen ∧ s.at_ ≤ s.b.length ∧ s.b.length ≤ 140737488355328

set_option maxRecDepth 100000 in
set_option maxHeartbeats 400000 in
theorem refLeft_c (A : Option Addr) (c : Nat) (s : RS) (w : World) (h : RsOk w A c s) :
    Calls Tryz.prog 22 #[rsV A c s] w fun e w' => e = .returned (.int .i64 ((s.b.length - s.at_ : Nat) : Int)) ∧ Below w.heap.size w w' := by
  obtain ⟨h1, h2, h3, h4, h5⟩ := h
  have e1 : ((s.b.length - s.at_ : Nat) : Int) = (s.b.length : Int) - (s.at_ : Int) := by omega
  rw [e1]
  clear e1
  unfold rsV
  go_enter Tryz.func22, Tryz.ntmps22
  go_wp2
  go_ret
  exact ⟨rfl, (Below.refl _ _).alloc (Nat.le_refl _) _⟩

end Go.Proofs.YtndjggabdajbfaaGreatDoor



/- What the reference's reader does: Var, Take, Text, End. Conditions: lengths that fit. -/
namespace Go.Proofs.YtndjggabdajbfaaGreatDoor
open Go Go.RowKit

theorem heap2_old (w : World) (a b : Obj) : ((w.alloc a).alloc b).heap[w.heap.size]? = some a := (Below.heap_alloc _ _ w.heap.size (by simp)).trans (heap_alloc_new w _)
theorem heap2_new (w : World) (a b : Obj) : ((w.alloc a).alloc b).heap[w.heap.size + 1]? = some b := by
  have h := heap_alloc_new (w.alloc a) b
  rwa [World.size_alloc] at h

/-- What is known of a box of three cells. -/
theorem box3 {w : World} {g : Nat} {x y z : Value} {t : TypeId} (h : w.heap[g]? = some (.cells #[x, y, z] t (0, 0))) :
    (w.cell? ⟨g, 0, none⟩ = some x ∧ w.cell? ⟨g, 1, none⟩ = some y ∧ w.cell? ⟨g, 2, none⟩ = some z) ∧ w.frozen? ⟨g, 0, none⟩ = false ∧ w.frozen? ⟨g, 1, none⟩ = false ∧ w.frozen? ⟨g, 2, none⟩ = false :=
  ⟨⟨by rw [heap_cell h]; rfl, by rw [heap_cell h]; rfl, by rw [heap_cell h]; rfl⟩, heap_free h _, heap_free h _, heap_free h _⟩

set_option maxRecDepth 100000 in
set_option maxHeartbeats 400000 in
theorem refTake_c (A : Option Addr) (c : Nat) (s : RS) (n : Int) (w : World) (h : RsOk w A c s) (hs : (Lit.int .i64 n).wf = true) :
    Calls Tryz.prog 43 #[rsV A c s, .int .i64 n] w fun e w' => ∃ v, e = .returned (.tuple #[v, rsV A c (takeR s n).2]) ∧ OwnB w' w.heap.size v (takeR s n).1 ∧ Below w.heap.size w w' := by
  obtain ⟨h1, h2, h3, h4, h5⟩ := h
  by_cases h0 : s.err = 0
  · have hb : (((s.err : Nat) : Int) != 0) = false := by rw [bne_eq_false_iff_eq]; omega
    rcases Int.lt_or_le n 0 with k1 | k1
    · have e1 : takeR s n = ([], { s with err := 1 }) := by rw [takeR, if_neg (by omega), if_pos k1]
      rw [e1]
      clear e1
      have H0 := Lib.hid h0; clear h0
      unfold rsV
      go_enter Tryz.func43, Tryz.ntmps43
      go_wp2
      go_region
      all_goals
        go_wp2
        go_returns
        exact ⟨_, rfl, Own.nil_ _ _ _, by go_grown⟩
    · obtain ⟨m, rfl⟩ := Int.eq_ofNat_of_zero_le k1
      by_cases hsh : (s.b.length : Int) - (s.at_ : Int) < (m : Int)
      · have e1 : takeR s m = ([], { s with err := 2 }) := by rw [takeR, if_neg (by omega), if_neg (by omega), if_pos hsh]
        rw [e1]
        clear e1
        have H0 := Lib.hid h0; clear h0
        unfold rsV
        go_enter Tryz.func43, Tryz.ntmps43
        go_wp2
        go_region
        all_goals
          go_wp2
          go_returns
          exact ⟨_, rfl, Own.nil_ _ _ _, by go_grown⟩
      · have e1 : takeR s m = ((s.b.drop s.at_).take m, { s with at_ := s.at_ + m }) := by rw [takeR, if_neg (by omega), if_neg (by omega), if_neg hsh]; rfl
        have hsh' : (m : Int) ≤ (s.b.length : Int) - (s.at_ : Int) := by omega
        have hlen : ((s.b.drop s.at_).take m).length = m := by rw [List.length_take, List.length_drop]; omega
        have HLEN := Lib.hid hlen; clear hlen
        have hcut := (h1.cut (by rw [List.length_map]) h4 h2).take m
        rw [← List.map_drop, ← List.map_take] at hcut
        have hw2 : (s.at_ : Int) + (m : Int) ≤ (c : Int) := by omega
        rw [e1]
        clear e1 hsh
        have H0 := Lib.hid h0; clear h0
        unfold rsV
        by_cases hc : c = s.at_
        · subst hc
          obtain rfl : m = 0 := by omega
          rw [if_pos rfl] at hcut
          have HCUT := Lib.hid hcut; clear hcut
          go_enter Tryz.func43, Tryz.ntmps43
          go_wp2_with (fail)
          refine (Copy_c _ _ _ ((s.b.drop s.at_).take 0) _ HLEN.out ((HCUT.out.alloc _).alloc _) (by omega)).mono ?_
          rintro e w1 ⟨v, rfl, ho, hb1⟩
          have z := hb1.size
          simp only [World.size_alloc] at z hb1 ho
          have x0 := box3 ((hb1.block w.heap.size (by omega)).trans (heap2_old w _ _))
          have x1 := box3 ((hb1.block (w.heap.size + 1) (by omega)).trans (heap2_new w _ _))
          obtain ⟨⟨a0, a1, a2⟩, b0, b1, b2⟩ := x0
          obtain ⟨⟨d0, d1, d2⟩, f0, f1, f2⟩ := x1
          have hB : Below w.heap.size w w1 := (((Below.refl _ _).alloc (Nat.le_refl _) _).alloc (by simp) _).trans (hb1.mono (by omega))
          have HO := Lib.hid ho; clear ho
          go_wp2_with (fail)
          go_region
          all_goals
            go_wp2
            refine bodyPost_ret (v := .tuple #[v, .agg #[.slice A s.b.length s.at_, .int .i64 ((s.at_ : Int) + ((0 : Nat) : Int)), .int .i64 (s.err : Int)]]) (by simp [results, Tryz.results43, go_sem, d0, d1, d2]) rfl ?_
            refine ⟨v, by simp only [Int.natCast_add], ?_, ?_⟩
            · exact Own.low (Own.drewN (Own.setBelow (Own.setBelow (Own.setBelow (Own.setBelow HO.out (by show w.heap.size < _; omega) _) (by show w.heap.size + 1 < _; omega) _) (by show w.heap.size + 1 < _; omega) _) (by show w.heap.size + 1 < _; omega) _) 1) (by omega)
            · exact ((((hB.setCell (by simp) _).setCell (by simp) _).setCell (by simp) _).setCell (by simp) _).drew
        · rw [if_neg hc] at hcut
          have HCUT := Lib.hid hcut; clear hcut
          go_enter Tryz.func43, Tryz.ntmps43
          go_wp2_with (fail)
          refine (Copy_c _ _ _ ((s.b.drop s.at_).take m) _ HLEN.out ((HCUT.out.alloc _).alloc _) (by omega)).mono ?_
          rintro e w1 ⟨v, rfl, ho, hb1⟩
          have z := hb1.size
          simp only [World.size_alloc] at z hb1 ho
          have x0 := box3 ((hb1.block w.heap.size (by omega)).trans (heap2_old w _ _))
          have x1 := box3 ((hb1.block (w.heap.size + 1) (by omega)).trans (heap2_new w _ _))
          obtain ⟨⟨a0, a1, a2⟩, b0, b1, b2⟩ := x0
          obtain ⟨⟨d0, d1, d2⟩, f0, f1, f2⟩ := x1
          have hB : Below w.heap.size w w1 := (((Below.refl _ _).alloc (Nat.le_refl _) _).alloc (by simp) _).trans (hb1.mono (by omega))
          have HO := Lib.hid ho; clear ho
          go_wp2_with (fail)
          go_region
          all_goals
            go_wp2
            refine bodyPost_ret (v := .tuple #[v, .agg #[.slice A s.b.length c, .int .i64 ((s.at_ : Int) + ((m : Nat) : Int)), .int .i64 (s.err : Int)]]) (by simp [results, Tryz.results43, go_sem, d0, d1, d2]) rfl ?_
            refine ⟨v, by simp only [Int.natCast_add], ?_, ?_⟩
            · exact Own.low (Own.drewN (Own.setBelow (Own.setBelow (Own.setBelow (Own.setBelow HO.out (by show w.heap.size < _; omega) _) (by show w.heap.size + 1 < _; omega) _) (by show w.heap.size + 1 < _; omega) _) (by show w.heap.size + 1 < _; omega) _) 1) (by omega)
            · exact ((((hB.setCell (by simp) _).setCell (by simp) _).setCell (by simp) _).setCell (by simp) _).drew
  · have hb : (((s.err : Nat) : Int) != 0) = true := by rw [bne_iff_ne]; omega
    have e1 : takeR s n = ([], s) := if_pos h0
    rw [e1]
    clear e1
    have H0 := Lib.hid h0; clear h0
    unfold rsV
    go_enter Tryz.func43, Tryz.ntmps43
    go_wp2
    go_region
    all_goals
      go_wp2
      go_returns
      exact ⟨_, rfl, Own.nil_ _ _ _, by go_grown⟩
end Go.Proofs.YtndjggabdajbfaaGreatDoor


