/- Parts one behind the other: What rows.Apply answers: the screen to which the bytes lead, or the error's number; What runs.Apply answers: the screen to which the bytes lead, or the error's number; What runs.Apply answers: the screen to which the bytes lead, or the error's number; Plain: what the walks of layer 17 lean on: cells such as the second version tells them; a screen that fits is read. Conditions: as told at each. -/
import Derived.Test.YtnnekdefncfeeaaDoorPF21
import Derived.Deep.CutBlock
import Derived.Test.YtnnekdefncfeeaaDoorPF25
import Derived.Test.YtnnekdefncfeeaaDoorPF12
import Derived.Recover
import Derived.Laws.EntriesVeiled
import Derived.Test.YtnnekdefncfeeaaDoorPF15
import Derived.Test.YtnnekdefncfeeaaDoorPF16
import Derived.Test.YtnnekdefncfeeaaDoorPF18

set_option linter.unusedVariables false
set_option linter.unusedSimpArgs false
/- What rows.Apply answers: the screen to which the bytes lead, or the error's number. Conditions: the screen's parts and the bytes can be read; the tables lie where they were laid. -/
namespace Go.Proofs.YtnnekdefncfeeaaDoor
open Go Go.RowKit Go.Lib

/-- The answer's form: a screen in memory of its own, and a number. -/
def PostA (w : World) (Z : ScD × Nat) (e : Ending) (w' : World) : Prop := ∃ A' n' c' L' d', e = .returned (.tuple #[.agg (scC Z.1 A' n' c' L' 0 d'), .int .i64 (Z.2 : Int)]) ∧ OwnC w' w.heap.size (.slice A' n' c') Z.1.cells ∧ Z.1.links = [] ∧ Below w.heap.size w w'
theorem PostA.none_ {w w' : World} {Z : ScD × Nat} {E : Nat} {x : Int} (h : (scZ, E) = Z) (hx : x = (E : Int)) (hb : Below w.heap.size w w') : PostA w Z (.returned (.tuple #[.agg (scC scZ none 0 0 none 0 0), .int .i64 x])) w' := by
  subst hx
  rw [← h]
  exact ⟨none, 0, 0, none, 0, rfl, OwnC.nil_ _ _, rfl, hb⟩
theorem PostA.some_ {w w' : World} {Z : ScD × Nat} {s : ScD} {A : Option Addr} {n c : Nat} {L : Option Addr} {d : Nat} (h : (s, 0) = Z) (ho : OwnC w' w.heap.size (.slice A n c) s.cells) (hl : s.links = []) (hb : Below w.heap.size w w') : PostA w Z (.returned (.tuple #[.agg (scC s A n c L 0 d), .int .i64 0])) w' := by
  rw [← h]
  exact ⟨A, n, c, L, d, rfl, ho, hl, hb⟩
end Go.Proofs.YtnnekdefncfeeaaDoor


/- What runs.Apply answers: the screen to which the bytes lead, or the error's number. Conditions: the screen's parts and the bytes can be read; the tables lie where they were laid. -/
namespace Go.Proofs.YtnnekdefncfeeaaDoor
open Go Go.RowKit Go.Lib

theorem assert_err (v : Value) (W : World) : (Instr.typeAssert (.iface 30 v) 20 30 true).run Tryd.prog W = .ok (.tuple #[v, .bool true]) W := by kernel_rfl
set_option maxRecDepth 100000 in
set_option maxHeartbeats 2000000 in
theorem catch17 (g h : Nat) (e : Nat) (older : List PanicEntry) (w : World) (cs : Array Value) (y : Int) (hcs : cs.size = 9) (hg : w.heap[g]? = some (.cells cs 25 (0, 0))) (hh : w.heap[h]? = some (.cells #[.int .i64 y] 30 (0, 0))) (hne : h ≠ g) :
    CallsD Tryd.prog 31 #[.pointer (some ⟨g, 0, none⟩), .pointer (some ⟨h, 0, none⟩)] (.panicking ({ v := .iface 30 (.int .i64 (e : Int)), recovered := false } :: older)) w fun r u' w' =>
      r = .returned (.tuple #[]) ∧ u' = .panicking ({ v := .iface 30 (.int .i64 (e : Int)), recovered := true } :: older) ∧ w' = (w.setRow g (scC scZ none 0 0 none 0 0)).setCell ⟨h, 0, none⟩ (.int .i64 (e : Int)) := by
  refine callsD_of_wpS Tryd.func31 rfl fun c₀ cs' hu => ?_
  apply wpS_seq
  apply wpS_region
  simp [wpOpsS, go_sem, recoverD, hu, Tryd.ntmps31, Exit.thenS]
  have e1 : (#[Value.pointer (some ⟨g, 0, none⟩), Value.pointer (some ⟨h, 0, none⟩)] ++ ((Array.replicate 15 undef).setIfInBounds 3 (Value.iface 30 (Value.int IntKind.i64 (e : Int)))).setIfInBounds 0 (Value.iface 30 (Value.int IntKind.i64 (e : Int)))) =
      #[Value.pointer (some ⟨g, 0, none⟩), Value.pointer (some ⟨h, 0, none⟩), .iface 30 (.int .i64 (e : Int)), undef, undef, .iface 30 (.int .i64 (e : Int)), undef, undef, undef, undef, undef, undef, undef, undef, undef, undef, undef] := rfl
  rw [e1]
  refine wpS_of_wp ?_
  have ha := assert_err (.int .i64 (e : Int))
  have HG := Lib.hid hg
  have HCS := Lib.hid hcs
  have hc2 : (w.setRow g (scC scZ none 0 0 none 0 0)).cell? ⟨h, 0, none⟩ = some (.int .i64 y) := by rw [heap_cell ((setRow_other w g h _ hne).trans hh)]; rfl
  have hz2 : (w.setRow g (scC scZ none 0 0 none 0 0)).frozen? ⟨h, 0, none⟩ = false := heap_free ((setRow_other w g h _ hne).trans hh) 0
  clear e1 hg hh hcs
  go_wp2_with (first
    | (refine wpList_store_rowTo rfl 25 (.tmp 0) (.tmp 15) rfl rfl g (scC scZ none 0 0 none 0 0) rfl rfl 25 _ HG.out (info_sc.trans rfl) (by rw [HCS.out]; rfl) (sc_one _ _ _ _ _ _ _) ?_))
  simp [bodyPostS, results, Tryd.results31]
set_option maxRecDepth 100000 in
set_option maxHeartbeats 2000000 in
theorem catch17_idle (p q : Addr) (w : World) :
    CallsD Tryd.prog 31 #[.pointer (some p), .pointer (some q)] .returning w fun r u' w' => r = .returned (.tuple #[]) ∧ u' = .returning ∧ w' = w := by
  refine callsD_of_wpS Tryd.func31 rfl fun c₀ cs hu => ?_
  apply wpS_seq
  apply wpS_region
  simp [wpOpsS, go_sem, recoverD, hu, Tryd.ntmps31, Exit.thenS]
  have e1 : (#[Value.pointer (some p), Value.pointer (some q)] ++ ((Array.replicate 15 undef).setIfInBounds 3 Value.nilIface).setIfInBounds 0 Value.nilIface) =
      #[Value.pointer (some p), Value.pointer (some q), .nilIface, undef, undef, .nilIface, undef, undef, undef, undef, undef, undef, undef, undef, undef, undef, undef] := rfl
  rw [e1]
  refine wpS_of_wp ?_
  clear e1
  go_wp2
  cases c₀
  simp_all [bodyPostS, results, Tryd.results31]
theorem app_results (tmps : Array Value) (g h : Nat) (cs : Array Value) (y : Int) (h4 : tmps.getD 4 undef = .pointer (some ⟨g, 0, none⟩)) (h5 : tmps.getD 5 undef = .pointer (some ⟨h, 0, none⟩)) (w : World) (hg : w.heap[g]? = some (.cells cs 25 (0, 0))) (hi : (Tryd.prog.info? 25).map (·.size) = some cs.size) (hc : w.cell? ⟨h, 0, none⟩ = some (.int .i64 y)) :
    (results Tryd.f18 tmps).run Tryd.prog w = .ok (.tuple #[.agg cs, .int .i64 y]) w := by
  have h4' : tmps[4]?.getD undef = .pointer (some ⟨g, 0, none⟩) := by simpa using h4
  have h5' : tmps[5]?.getD undef = .pointer (some ⟨h, 0, none⟩) := by simpa using h5
  have h2 : (loadVar 30 ⟨h, 0, none⟩).run Tryd.prog w = .ok (.int .i64 y) w := by simp [go_sem, hc]
  simp [results, Tryd.results18, h4', h5', asAddr, run_loadVar_row w g 25 25 cs (0, 0) _ hg Tryd.underlying25 rfl hi, h2]
end Go.Proofs.YtnnekdefncfeeaaDoor


/- What runs.Apply answers: the screen to which the bytes lead, or the error's number. Conditions: the screen's parts and the bytes can be read; the tables lie where they were laid. -/
namespace Go.Proofs.YtnnekdefncfeeaaDoor
open Go Go.RowKit Go.Lib

theorem thing17_c (k : Nat) (hk : 1 ≤ k ∧ k ≤ 5) (B p r gs : Nat) (gA : Option Addr) (C R : Nat) (s : ScD) (n c : Nat) (L : Option Addr) (d : Nat) (st : RS) (w0 w : World) (h : RgS B p r gs gA C R s n c L d st w0 w) (hU : TabU w0) :
    Calls Tryd.prog 36 #[.pointer (some ⟨p, 0, none⟩), .int .i64 (k : Int)] w fun e w' => ThP B p r gA w0 (thing17 k s st.rest) e w' := by
  have h5 : k = 1 ∨ k = 2 ∨ k = 3 ∨ k = 4 ∨ k = 5 := by omega
  rcases h5 with rfl | rfl | rfl | rfl | rfl
  · exact thing17_1 B p r gs gA C R s n c L d st w0 w h hU
  · exact thing17_2 B p r gs gA C R s n c L d st w0 w h hU
  · exact thing17_3 B p r gs gA C R s n c L d st w0 w h hU
  · exact thing17_4 B p r gs gA C R s n c L d st w0 w h hU
  · exact thing17_5 B p r gs gA C R s n c L d st w0 w h hU
theorem clone_at (A : Option Addr) (n c : Nat) (ds : List CeD) (w : World) (hn : ds.length = n) (hr : RdC w A ds) (hl : n ≤ 7000000000000) (h0 : 0 < n) :
    Calls Tryd.prog 32 #[.slice A n c] w fun r w' => ∃ g c', r = .returned (.slice (some ⟨g, 0, none⟩) n c') ∧ OwnC w' w.heap.size (.slice (some ⟨g, 0, none⟩) n c') ds ∧ Below w.heap.size w w' := by
  refine (CloneC_c A n c ds w hn hr hl).mono ?_
  rintro e w' ⟨v, he, ho, hb⟩
  obtain ⟨A2, c2, e2, _⟩ := ho.form
  rw [hn] at e2
  subst e2
  obtain ⟨g, rfl⟩ := own_at2 ho (by omega)
  exact ⟨g, c2, he, ho, hb⟩
theorem fin_w {w w1 : World} {B q4 q5 : Nat} {cs : Array Value} {y : Int} (h4 : w1.heap[q4]? = some (.cells cs 25 (0, 0))) (h5 : w1.heap[q5]? = some (.cells #[.int .i64 y] 30 (0, 0))) (hne : q5 ≠ q4) (vs : Array Value) (e : Int) (hb : Below B w w1) (hB : B ≤ q4 ∧ B ≤ q5) :
    ((w1.setRow q4 vs).setCell ⟨q5, 0, none⟩ (.int .i64 e)).heap[q4]? = some (.cells vs 25 (0, 0)) ∧ ((w1.setRow q4 vs).setCell ⟨q5, 0, none⟩ (.int .i64 e)).cell? ⟨q5, 0, none⟩ = some (.int .i64 e) ∧ Below B w ((w1.setRow q4 vs).setCell ⟨q5, 0, none⟩ (.int .i64 e)) := by
  have h6 := (setRow_other w1 q4 q5 vs hne).trans h5
  refine ⟨(heap_far _ (fun x => hne x.symm)).trans (setRow_heap w1 q4 _ _ _ _ h4), ?_, (below_setRow hb hB.1 vs).setCell (p := ⟨q5, 0, none⟩) hB.2 _⟩
  rw [heap_cell (heap_set h6 0 (.int .i64 e))]
  rfl
/-- The answer's form, and that its cells' links are numbers. -/
def PostR (w : World) (Z : ScD × Nat) (e : Ending) (w' : World) : Prop := PostA w Z e w' ∧ okLn Z.1.cells
theorem PostR.none_ {w w' : World} {Z : ScD × Nat} {E : Nat} {x : Int} (h : (scZ, E) = Z) (hx : x = (E : Int)) (hb : Below w.heap.size w w') : PostR w Z (.returned (.tuple #[.agg (scC scZ none 0 0 none 0 0), .int .i64 x])) w' :=
  ⟨PostA.none_ h hx hb, by rw [← h]; intro d hd; cases hd⟩
theorem PostR.some_ {w w' : World} {Z : ScD × Nat} {s : ScD} {A : Option Addr} {n c : Nat} {L : Option Addr} {d : Nat} (h : (s, 0) = Z) (ho : OwnC w' w.heap.size (.slice A n c) s.cells) (hl : s.links = []) (hb : Below w.heap.size w w') (hk : okLn s.cells) : PostR w Z (.returned (.tuple #[.agg (scC s A n c L 0 d), .int .i64 0])) w' :=
  ⟨PostA.some_ h ho hl hb, by rw [← h]; exact hk⟩
/-- A new reader of these bytes. -/
def Rl.newr (B : Nat) (bs : List UInt8) : Rl := ⟨fun w v => ∃ r gA, v = .pointer (some ⟨r, 0, none⟩) ∧ B ≤ r ∧ Rdr w r ⟨bs, 0, 0, gA⟩ ∧ ∀ a, gA = some a → B ≤ a.block ∧ a.block < w.heap.size, fun ⟨r, gA, h1, h2, h3, h4⟩ hb => ⟨r, gA, h1, h2, h3.below hb, fun a ha => ⟨(h4 a ha).1, Nat.lt_of_lt_of_le (h4 a ha).2 hb.size⟩⟩⟩
theorem rg_load {w : World} {p r n c m d : Nat} {s : ScD} {A L : Option Addr} (h : w.heap[p]? = some (.cells (rgC r s A n c L m d) 68 (0, 0))) : ∀ j v, (scC s A n c L m d).toList[j]? = some v → w.cell? ((⟨p, 1, none⟩ : Addr).add j) = some v := by
  intro j v hv
  rw [addr_add, heap_cell h, ← hv]
  match j with
  | 0 => rfl
  | 1 => rfl
  | 2 => rfl
  | 3 => rfl
  | 4 => rfl
  | 5 => rfl
  | 6 => rfl
  | 7 => rfl
  | 8 => rfl
  | _ + 9 => cases hv
theorem RgS.scr {B p r gs : Nat} {gA : Option Addr} {C R : Nat} {s : ScD} {n c : Nat} {L : Option Addr} {d : Nat} {st : RS} {w0 wx : World} (h : RgS B p r gs gA C R s n c L d st w0 wx) : ScR wx s (some ⟨gs, 0, none⟩) n c L 0 d := by
  obtain ⟨p1, p2, p3, _⟩ := h.own.parts
  have hn0 := h.nl
  exact ⟨p1, p2, p3, by omega, by rw [h.lk]; rfl, by rw [h.lk]; exact .inl rfl, Nat.zero_le _, Nat.zero_le _, (fun u hu => by rw [h.lk] at hu; cases hu), h.ok, h.tl⟩
set_option maxRecDepth 100000 in
set_option maxHeartbeats 16000000 in
theorem apply17_c (a : ScD) (A : Option Addr) (n c : Nat) (L : Option Addr) (m cm : Nat) (D : Option Addr) (dn dc : Nat) (bs : List UInt8) (w : World) (hs : ScR w a A n c L m cm) (hdn : bs.length = dn) (hdr : Rd w D (bs.map bv)) (hdl : dn ≤ 140737488355328) (hU : TabU w) :
    Calls Tryd.prog 18 #[.agg (scC a A n c L m cm), .slice D dn dc] w fun e w' => PostR w (app17 a bs) e w' := by
  have hmf : ∀ (fn : Fn) (first cap : Array Value) (w : World), (Instr.makeFunc fn first cap).run Tryd.prog w = .ok (.func fn first cap) w := fun _ _ _ _ => rfl
  obtain ⟨X, eX⟩ : ∃ X, X = scC a A n c L m cm := ⟨_, rfl⟩
  rw [← eX]
  obtain ⟨W0, eW0⟩ : ∃ W0, W0 = ((w.alloc (.cells X 25)).alloc (.cells (scC scZ none 0 0 none 0 0) 25)).alloc (.cells #[.int .i64 0] 30) := ⟨_, rfl⟩
  obtain ⟨p0, ep0⟩ : ∃ p, p = w.heap.size := ⟨_, rfl⟩
  obtain ⟨q4, eq4⟩ : ∃ q, q = w.heap.size + 1 := ⟨_, rfl⟩
  obtain ⟨q5, eq5⟩ : ∃ q, q = w.heap.size + 1 + 1 := ⟨_, rfl⟩
  have hs1 : ((w.alloc (.cells X 25)).alloc (.cells (scC scZ none 0 0 none 0 0) 25)).heap.size = w.heap.size + 1 + 1 := by simp
  have hb0 : Below w.heap.size w W0 := by rw [eW0]; exact (((Below.refl _ _).alloc (Nat.le_refl _) _).alloc (by simp) _).alloc (by simp; omega) _
  have HP0 : Hid (ScB W0 p0 a A n c L m cm) := Lib.hid (by rw [eW0, ep0, eX]; exact (Below.heap_alloc _ _ _ (by simp; omega)).trans ((Below.heap_alloc _ _ _ (by simp)).trans (heap_alloc_new _ _)))
  have HQ0 : Hid (ScB W0 q4 scZ none 0 0 none 0 0) := Lib.hid (by rw [eW0, eq4]; exact (Below.heap_alloc _ _ _ (by simp)).trans (heap_alloc2_new _ _ _))
  have HE0 : Hid (W0.heap[q5]? = some (.cells #[.int .i64 0] 30 (0, 0))) := Lib.hid (by rw [eW0, eq5, ← hs1]; exact heap_alloc_new _ _)
  have eW0' : ((w.alloc (.cells X 25)).alloc (.cells #[.int .i64 0, .int .i64 0, .slice none 0 0, .int .i64 0, .int .i64 0, .bool false, .int .u8 0, .string { data := #[] }, .slice none 0 0] 25)).alloc (.cells #[.int .i64 0] 30) = W0 := by rw [eW0]; rfl
  have EW0 := Lib.hid eW0'
  have EP0 := Lib.hid ep0
  have EQ4 := Lib.hid eq4
  have EQ5 := Lib.hid eq5
  have HQQ : Hid (w.heap.size ≤ q4 ∧ w.heap.size ≤ q5 ∧ q5 ≠ q4 ∧ w.heap.size ≤ p0 ∧ p0 ≠ q4 ∧ p0 ≠ q5) := Lib.hid (by omega)
  have HB0 := Lib.hid hb0
  have HR0 := Lib.hid (hs.below hb0)
  have HD0 := Lib.hid (hdr.below hb0)
  have HDW := Lib.hid hdr
  have HU0 := Lib.hid (hU.next hb0)
  have HUW : Hid (∀ W, Below w.heap.size w W → TabU W) := Lib.hid (fun W h => hU.next h)
  have HDN := Lib.hid hdn
  have HDL := Lib.hid hdl
  obtain ⟨Z, eZ⟩ : ∃ Z, app17 a bs = Z := ⟨_, rfl⟩
  rw [eZ]
  have EZ := Lib.hid eZ
  obtain ⟨b1, e1⟩ : ∃ t, fit17 a = t := ⟨_, rfl⟩
  have E1 := Lib.hid e1
  have HM0 := Lib.hid hs.hm
  have HW1 := Lib.hid hU.size
  have HOT := Lib.hid (And.intro hs.ok hs.tl)
  clear eX eW0 eW0' ep0 eq4 eq5 hs1 hb0 hs hdr hU eZ e1 hdn hdl
  go_enter_defers Tryd.func18, Tryd.ntmps18
  go_upto_region 1 with (fail)
  rw [EW0.out, ← EQ5.out, ← EQ4.out, ← EP0.out]
  cases b1
  · have HZ : Hid ((scZ, 1) = Z) := Lib.hid (by rw [← EZ.out]; unfold app17; rw [if_neg (by rw [E1.out]; decide)])
    go_wp2_with (first
      | (refine wpList_load_row rfl 25 (.tmp 2) rfl p0 rfl 25 _ (0, 0) _ HP0.out Tryd.underlying25 rfl (info_sc.trans rfl) ?_)
      | (go_at_call 15; (refine (fits17_c a A n c L m cm W0 HR0.out HU0.out).mono ?_); rintro _ w1 ⟨rfl, hb1⟩; rw [E1.out]; have HB1 := Lib.hid (HB0.out.trans (hb1.mono HB0.out.size)); have HP1 := Lib.hid (HP0.out.below hb1); have HQ1 := Lib.hid (HQ0.out.below hb1); have HE1 := Lib.hid ((hb1.block q5 (heap_lt HE0.out)).trans HE0.out); have HR1 := Lib.hid (HR0.out.below hb1); have HD1 := Lib.hid (HD0.out.below hb1); have HU1 := Lib.hid (HU0.out.next hb1); have y5 : (w1.setRow q4 (scC scZ none 0 0 none 0 0)).cell? ⟨q5, 0, none⟩ = some (.int .i64 0) := (by { rw [heap_cell ((setRow_other w1 q4 q5 _ HQQ.out.2.2.1).trans HE1.out)]; rfl }); have f5 := heap_free ((setRow_other w1 q4 q5 (scC scZ none 0 0 none 0 0) HQQ.out.2.2.1).trans HE1.out) 0; clear hb1)
      | (refine wpList_store_row rfl 25 (.tmp 4) (.tmp 12) rfl q4 (scC scZ none 0 0 none 0 0) rfl rfl 25 _ HQ1.out (info_sc.trans rfl) rfl (sc_one _ _ _ _ _ _ _) ?_))
    obtain ⟨g1, g2, g3⟩ := fin_w HQ1.out HE1.out HQQ.out.2.2.1 (scC scZ none 0 0 none 0 0) 1 HB1.out ⟨HQQ.out.1, HQQ.out.2.1⟩
    exact ⟨_, app_results _ q4 q5 _ 1 rfl rfl _ g1 (info_sc.trans rfl) g2, PostR.none_ HZ.out rfl g3⟩
  · obtain ⟨C, R, hf⟩ := fit17_of E1.out
    obtain ⟨hf1, hf2, hf3, hf4⟩ : 1 ≤ C ∧ C ≤ 80 ∧ 1 ≤ R ∧ R ≤ 24 := ⟨hf.c1, hf.c2, hf.r1, hf.r2⟩
    obtain rfl : m = 0 := by rw [← HM0.out, hf.lk]; rfl
    have hnC : n = C * R := by rw [← HR0.out.hn, hf.len]
    have hn0 : 0 < n := by rw [hnC]; exact Nat.mul_pos hf1 hf3
    have hn2 : n ≤ 1920 := by rw [hnC]; exact Nat.mul_le_mul hf2 hf4
    have HF := Lib.hid hf
    have HNC := Lib.hid hnC
    have HN0 := Lib.hid hn0
    clear hf hnC hn0 hf1 hf2 hf3 hf4
    go_upto_region 5 with (first
      | (refine wpList_load_row rfl 25 (.tmp 2) rfl p0 rfl 25 _ (0, 0) _ HP0.out Tryd.underlying25 rfl (info_sc.trans rfl) ?_)
      | (go_at_call 15; (refine (fits17_c a A n c L 0 cm W0 HR0.out HU0.out).mono ?_); rintro _ w1 ⟨rfl, hb1⟩; rw [E1.out]; have HB1 := Lib.hid (HB0.out.trans (hb1.mono HB0.out.size)); have HP1 := Lib.hid (HP0.out.below hb1); have HQ1 := Lib.hid (HQ0.out.below hb1); have HE1 := Lib.hid ((hb1.block q5 (heap_lt HE0.out)).trans HE0.out); have HR1 := Lib.hid (HR0.out.below hb1); have HD1 := Lib.hid (HD0.out.below hb1); have HU1 := Lib.hid (HU0.out.next hb1); have x2 := HP1.out.nine.2.2.1; clear hb1)
      | (go_at_call 32; (refine (clone_at A n c a.cells w1 HR1.out.hn HR1.out.rd (by omega) HN0.out).mono ?_); rintro _ w2 ⟨gs, c2, rfl, ho2, hb2⟩; have HO2 := Lib.hid ho2; have HB2 := Lib.hid hb2; have HP2 := Lib.hid (HP1.out.below hb2); have HQ2 := Lib.hid (HQ1.out.below hb2); have HE2 := Lib.hid ((hb2.block q5 (heap_lt HE1.out)).trans HE1.out); have x2' := HP2.out.nine.2.2.1; have f2' := heap_free HP2.out 2; clear ho2 hb2))
    obtain ⟨W3, eW3⟩ : ∃ W, W = w2.setCell ⟨p0, 2, none⟩ (.slice (some ⟨gs, 0, none⟩) n c2) := ⟨_, rfl⟩
    rw [← eW3]
    have k3 : Stays (fun k => k = p0) w2 W3 := by rw [eW3]; exact Stays.set _ _ ⟨p0, 2, none⟩ _ rfl
    have HP3 : Hid (ScB W3 p0 a (some ⟨gs, 0, none⟩) n c2 L 0 cm) := Lib.hid (by rw [eW3]; exact heap_set HP2.out 2 _)
    have HQ3 := Lib.hid (k3.scB HQ2.out (fun e => HQQ.out.2.2.2.2.1 e.symm))
    have HE3 := Lib.hid ((k3.block q5 (heap_lt HE2.out) (fun e => HQQ.out.2.2.2.2.2 e.symm)).trans HE2.out)
    obtain ⟨B, eB⟩ : ∃ B, B = w1.heap.size := ⟨_, rfl⟩
    have HBL : Hid (p0 < B ∧ q4 < B ∧ q5 < B ∧ B ≤ gs ∧ B ≤ W3.heap.size ∧ gs < W3.heap.size ∧ w.heap.size ≤ B) := Lib.hid ⟨by rw [eB]; exact heap_lt HP1.out, by rw [eB]; exact heap_lt HQ1.out, by rw [eB]; exact heap_lt HE1.out, by rw [eB]; exact (HO2.out.lt gs rfl).1, by rw [eB]; exact Nat.le_trans HB2.out.size k3.size, Nat.lt_of_lt_of_le (HO2.out.lt gs rfl).2 k3.size, by rw [eB]; exact HB1.out.size⟩
    have HO3 : Hid (OwnC W3 B (.slice (some ⟨gs, 0, none⟩) n c2) a.cells) := Lib.hid (by rw [eB]; exact k3.keepC HO2.out (fun j ej x => by injection ej with ej; have h1 := HBL.out; have : gs = j := ej; omega))
    have HB3 : Hid (Below w.heap.size w W3) := Lib.hid (HB1.out.trans ((HB2.out.mono HB1.out.size).trans (k3.below (Nat.le_trans HB1.out.size HB2.out.size) (fun j hj x => by have := HQQ.out.2.2.2.1; omega))))
    have HD3 : Hid (Rd W3 D (bs.map bv)) := Lib.hid (HDW.out.below HB3.out)
    have HU3 : Hid (TabU W3) := Lib.hid (HUW.out W3 HB3.out)
    go_upto_region 5 with (fail)
    clear eW3 k3 eB HO2 HP2 HQ2 HE2 HP1 HQ1 HE1 HR1 HD1 HU1 HB2 x2 x2' f2'
    refine wp_region_rt 58 3 [Rl.eq (.slice D dn dc), Rl.newr W3.heap.size bs, Rl.eq (.agg (scC a (some ⟨gs, 0, none⟩) n c2 L 0 cm))] [18, 19, 20, 21, 22, 6] (by kernel_rfl) rfl (by kernel_rfl) (by kernel_rfl) (by decide) (by kernel_rfl) (by kernel_rfl) ?_ ?_
    · simp only [List.take_succ_cons, List.take_zero]
      repeat (first | exact AllFrom.nil_ | (refine AllFrom.cons_ (by rfl) ?_ ?_; rotate_left))
      · intro f_ w' g_ hF hD
        have h1 : f_ 1 = .slice D dn dc := hF 1 (by kernel_rfl)
        rw [if_pos (wanted_none rfl)]
        clear hF hD
        exact gives_val (by simp only [execOp, evF, h1]; first | rfl | go_simp) ⟨Gr.refl _, rfl⟩
      · intro f_ w' g_ hF hD
        have h18 : f_ 18 = (.slice D dn dc) := hD 0 18 (by kernel_rfl) rfl
        rw [if_pos (wanted_none rfl)]
        clear hF hD
        have kg : Below W3.heap.size W3 w' := (below_drewN (Below.refl _ _) 1).trans g_
        refine gives_func rfl Tryd.func33 (by kernel_rfl) rfl (by simp only [List.map_toArray, List.map_cons, List.map_nil, evF, h18]) ((Rnew_c D dn dc bs w' HDN.out (HD3.out.below kg) HDL.out).mono ?_)
        rintro e w'' ⟨r, gA, rfl, h1, h2, h3, h4⟩
        exact ⟨_, rfl, h3, r, gA, rfl, Nat.le_trans kg.size h1, h2, fun ad ha => ⟨Nat.le_trans kg.size (h4 ad ha).1, (h4 ad ha).2⟩⟩
      · intro f_ w' g_ hF hD
        have h2 : f_ 2 = .pointer (some ⟨p0, 0, none⟩) := hF 2 (by kernel_rfl)
        rw [if_pos (wanted_none rfl)]
        clear hF hD
        have kg : Below W3.heap.size W3 w' := (below_drewN (Below.refl _ _) 1).trans g_
        exact gives_load_row 25 (.tmp 2) rfl p0 (by simp only [evF, h2]) 25 (scC a (some ⟨gs, 0, none⟩) n c2 L 0 cm) (0, 0) _ (HP3.out.below kg) Tryd.underlying25 rfl (info_sc.trans rfl) ⟨Gr.refl _, rfl⟩
    intro f_ w7 gg hD
    obtain ⟨r, gA, h19, hr1, hr2, hr3⟩ : ∃ r gA, f_ 19 = .pointer (some ⟨r, 0, none⟩) ∧ W3.heap.size ≤ r ∧ Rdr w7 r ⟨bs, 0, 0, gA⟩ ∧ ∀ a, gA = some a → W3.heap.size ≤ a.block ∧ a.block < w7.heap.size := hD 1 19 (by decide) rfl
    have h20 : f_ 20 = .agg (scC a (some ⟨gs, 0, none⟩) n c2 L 0 cm) := hD 2 20 (by decide) rfl
    have kg : Below W3.heap.size W3 w7 := (below_drewN (Below.refl _ _) 1).trans gg
    simp only [List.drop_succ_cons, List.drop_zero, putAll, List.setIfInBounds_toArray, List.set_cons_zero, List.set_cons_succ, h19, h20]
    have HR7 : Hid (W3.heap.size ≤ r ∧ Rdr w7 r ⟨bs, 0, 0, gA⟩ ∧ ∀ a, gA = some a → W3.heap.size ≤ a.block ∧ a.block < w7.heap.size) := Lib.hid ⟨hr1, hr2, hr3⟩
    have HK7 := Lib.hid kg
    generalize f_ 18 = d18
    clear hD gg h19 h20 kg hr1 hr2 hr3
    have hsz : (scC a (some ⟨gs, 0, none⟩) n c2 L 0 cm).size = 9 := rfl
    go_upto_region 6 with (fail)
    clear hsz
    generalize eY : Array.foldl (fun (cs : Array Value) (x : Value × Nat) => cs.setIfInBounds (1 + x.2) x.1) _ _ _ _ = Y
    have HY : Hid (Y = rgC r a (some ⟨gs, 0, none⟩) n c2 L 0 cm) := Lib.hid (by rw [← eY]; kernel_rfl)
    generalize eX : World.alloc w7 _ = W8
    obtain ⟨p, ep⟩ : ∃ p, p = w7.heap.size := ⟨_, rfl⟩
    rw [← ep]
    have HG8 : Hid (RgS B p r gs gA C R a n c2 L cm ⟨bs, 0, 0, gA⟩ W3 W8) := Lib.hid (by
      have hb8 : Below w7.heap.size w7 W8 := by rw [← eX]; exact (Below.refl _ _).alloc (Nat.le_refl _) _
      have h38 : Below W3.heap.size W3 W8 := HK7.out.trans (hb8.mono HK7.out.size)
      have hbl := HBL.out
      have h7 := HR7.out
      have hp8 : W8.heap[p]? = some (.cells (rgC r a (some ⟨gs, 0, none⟩) n c2 L 0 cm) 68 (0, 0)) := by rw [← eX, ep, ← HY.out]; exact heap_alloc_new _ _
      have hz7 := HK7.out.size
      have hrl := h7.2.1.lt
      exact ⟨h38.mono hbl.2.2.2.2.1, hp8, h7.2.1.below hb8, rfl, rfl, OwnC.below HO3.out h38, ⟨by omega, by omega, by omega, fun ad ha => ⟨by have := h7.2.2 ad ha; omega, by have := h7.2.2 ad ha; omega, by have := h7.2.2 ad ha; have := hb8.size; omega⟩⟩, ⟨by have := HW1.out; omega, by omega, by omega⟩, HOT.out.1, HNC.out, ⟨HF.out.c1, HF.out.c2, HF.out.r1, HF.out.r2⟩, HF.out.c, HF.out.r, HF.out.lk, HOT.out.2⟩)
    obtain ⟨TT, eTT⟩ : ∃ TT, things17 6 0 a bs = TT := ⟨_, rfl⟩
    have HTT := Lib.hid eTT
    have HZE : Hid (∀ e, TT.1 = e → e ≠ 0 → (scZ, e) = Z) := Lib.hid (fun e h1 h2 => by rw [← EZ.out]; unfold app17; rw [if_pos E1.out, HTT.out, if_neg (by rw [h1]; exact h2), h1])
    have HZ0 : Hid (∀ s, TT = (0, s) → (fit17 s = true → (s, 0) = Z) ∧ (fit17 s = false → (scZ, 3) = Z)) := Lib.hid (fun s h1 => ⟨fun h2 => by rw [← EZ.out]; unfold app17; rw [if_pos E1.out, HTT.out, h1, if_pos rfl, if_pos h2], fun h2 => by rw [← EZ.out]; unfold app17; rw [if_pos E1.out, HTT.out, h1, if_pos rfl, if_neg (by rw [h2]; decide)]⟩)
    have HQB : Hid (∀ W, Below B W3 W → ScB W q4 scZ none 0 0 none 0 0 ∧ W.heap[q5]? = some (.cells #[.int .i64 0] 30 (0, 0)) ∧ Below w.heap.size w W) := Lib.hid (fun W hW => ⟨(hW.block q4 HBL.out.2.1).trans HQ3.out, (hW.block q5 HBL.out.2.2.1).trans HE3.out, HB3.out.trans (hW.mono HBL.out.2.2.2.2.2.2)⟩)
    clear eY eX ep eTT HP3 HQ3 HE3 HO3 HB3 HD3 HR7 HK7 HY
    go_wp2_with (fail)
    go_loopw [7] (fun la wr => ∃ (l f gs C R : Nat) (s : ScD) (n c : Nat) (L : Option Addr) (d : Nat) (st : RS), la = .int .i64 l ∧ l ≤ 5 ∧ Hid (6 ≤ f + l) ∧ Hid (things17 f l s st.rest = TT) ∧ Hid (RgS B p r gs gA C R s n c L d st W3 wr)) (fun la _ => 5 - (intOf la).toNat)
    case atStart => exact ⟨0, 6, gs, C, R, a, n, c2, L, cm, ⟨bs, 0, 0, gA⟩, rfl, Nat.zero_le _, Lib.hid (Nat.le_refl _), HTT, HG8⟩
    case round =>
      clear HG8 HTT HN0 HNC HF
      obtain ⟨l, f, gs2, C2, R2, s, n2, c3, L2, d2, st, rfl, hl, HF6, HT, H2⟩ := hrel
      obtain ⟨F, rfl⟩ : ∃ F, f = F + 1 := ⟨f - 1, by have := HF6.out; omega⟩
      have c0 := H2.out.pt.cell
      have HRL := Lib.hid (rest_len st)
      cases hr : st.rest with
      | nil =>
        have HS : Hid (TT = (0, s)) := Lib.hid (by rw [← HT.out, hr]; rfl)
        have hlen : st.b.length - st.at_ = 0 := by rw [← HRL.out, hr]; rfl
        have HLEN := Lib.hid hlen
        obtain ⟨b2, e2⟩ : ∃ t, fit17 s = t := ⟨_, rfl⟩
        have E2 := Lib.hid e2
        obtain ⟨hz1, hz2⟩ := HZ0.out s HS.out
        have HZ1 := Lib.hid hz1
        have HZ2 := Lib.hid hz2
        clear hr hlen e2 hz1 hz2
        cases b2
        · go_wp2_with (first
            | (go_at_call 34; (refine (Rleft_c r st wr H2.out.rd).mono ?_); rintro _ wx ⟨rfl, hq⟩; rw [HLEN.out]; obtain ⟨qq, hq⟩ := hq; have H3 := Lib.hid (show RgS B p r gs2 gA C2 R2 s n2 c3 L2 d2 st W3 wx from hq ▸ H2.out.below (below_drewN (Below.refl _ _) qq)); have c1 := H3.out.pt.cell; clear hq)
            | (refine wpList_load_cells rfl 25 (.tmp 49) rfl ⟨p, 1, none⟩ rfl (scC s (some ⟨gs2, 0, none⟩) n2 c3 L2 0 d2).toList (.agg (scC s (some ⟨gs2, 0, none⟩) n2 c3 L2 0 d2)) rfl _ (rg_load H3.out.hp) Tryd.underlying25 rfl (info_sc.trans rfl) ?_)
            | (go_at_call 15; (refine (fits17_c s (some ⟨gs2, 0, none⟩) n2 c3 L2 0 d2 wx H3.out.scr (H3.out.tab HU3.out)).mono ?_); rintro _ w4 ⟨rfl, hb4⟩; rw [E2.out]; have H4 := Lib.hid (H3.out.below hb4); have H4Q := Lib.hid (HQB.out w4 H4.out.bel); have y5 : (w4.setRow q4 (scC scZ none 0 0 none 0 0)).cell? ⟨q5, 0, none⟩ = some (.int .i64 0) := (by { rw [heap_cell ((setRow_other w4 q4 q5 _ HQQ.out.2.2.1).trans H4Q.out.2.1)]; rfl }); have f5 := heap_free ((setRow_other w4 q4 q5 (scC scZ none 0 0 none 0 0) HQQ.out.2.2.1).trans H4Q.out.2.1) 0; clear hb4)
            | (refine wpList_store_row rfl 25 (.tmp 4) (.tmp 53) rfl q4 (scC scZ none 0 0 none 0 0) rfl rfl 25 _ H4Q.out.1 (info_sc.trans rfl) rfl (sc_one _ _ _ _ _ _ _) ?_))
          obtain ⟨g1, g2, g3⟩ := fin_w H4Q.out.1 H4Q.out.2.1 HQQ.out.2.2.1 (scC scZ none 0 0 none 0 0) 3 H4Q.out.2.2 ⟨HQQ.out.1, HQQ.out.2.1⟩
          refine leaves_cons (f := 31) (args := #[.pointer (some ⟨q4, 0, none⟩), .pointer (some ⟨q5, 0, none⟩)]) (by simp) (by simp [go_sem]) ?_
          refine (catch17_idle _ _ _).mono ?_
          rintro e u' w'' ⟨rfl, rfl, rfl⟩
          exact ⟨_, app_results _ q4 q5 _ 3 rfl rfl _ g1 (info_sc.trans rfl) g2, PostR.none_ (HZ2.out E2.out) rfl g3⟩
        · go_wp2_with (first
            | (go_at_call 34; (refine (Rleft_c r st wr H2.out.rd).mono ?_); rintro _ wx ⟨rfl, hq⟩; rw [HLEN.out]; obtain ⟨qq, hq⟩ := hq; have H3 := Lib.hid (show RgS B p r gs2 gA C2 R2 s n2 c3 L2 d2 st W3 wx from hq ▸ H2.out.below (below_drewN (Below.refl _ _) qq)); have c1 := H3.out.pt.cell; clear hq)
            | (refine wpList_load_cells rfl 25 (.tmp 49) rfl ⟨p, 1, none⟩ rfl (scC s (some ⟨gs2, 0, none⟩) n2 c3 L2 0 d2).toList (.agg (scC s (some ⟨gs2, 0, none⟩) n2 c3 L2 0 d2)) rfl _ (rg_load H3.out.hp) Tryd.underlying25 rfl (info_sc.trans rfl) ?_)
            | (go_at_call 15; (refine (fits17_c s (some ⟨gs2, 0, none⟩) n2 c3 L2 0 d2 wx H3.out.scr (H3.out.tab HU3.out)).mono ?_); rintro _ w4 ⟨rfl, hb4⟩; rw [E2.out]; have H4 := Lib.hid (H3.out.below hb4); have H4Q := Lib.hid (HQB.out w4 H4.out.bel); have y5 : (w4.setRow q4 (scC s (some ⟨gs2, 0, none⟩) n2 c3 L2 0 d2)).cell? ⟨q5, 0, none⟩ = some (.int .i64 0) := (by { rw [heap_cell ((setRow_other w4 q4 q5 _ HQQ.out.2.2.1).trans H4Q.out.2.1)]; rfl }); have f5 := heap_free ((setRow_other w4 q4 q5 (scC s (some ⟨gs2, 0, none⟩) n2 c3 L2 0 d2) HQQ.out.2.2.1).trans H4Q.out.2.1) 0; clear hb4)
            | (refine wpList_load_cells rfl 25 (.tmp 56) rfl ⟨p, 1, none⟩ rfl (scC s (some ⟨gs2, 0, none⟩) n2 c3 L2 0 d2).toList (.agg (scC s (some ⟨gs2, 0, none⟩) n2 c3 L2 0 d2)) rfl _ (rg_load H4.out.hp) Tryd.underlying25 rfl (info_sc.trans rfl) ?_)
            | (refine wpList_store_row rfl 25 (.tmp 4) (.tmp 57) rfl q4 (scC s (some ⟨gs2, 0, none⟩) n2 c3 L2 0 d2) rfl rfl 25 _ H4Q.out.1 (info_sc.trans rfl) rfl (sc_one _ _ _ _ _ _ _) ?_))
          obtain ⟨g1, g2, g3⟩ := fin_w H4Q.out.1 H4Q.out.2.1 HQQ.out.2.2.1 (scC s (some ⟨gs2, 0, none⟩) n2 c3 L2 0 d2) 0 H4Q.out.2.2 ⟨HQQ.out.1, HQQ.out.2.1⟩
          have g4 : OwnC ((w4.setRow q4 (scC s (some ⟨gs2, 0, none⟩) n2 c3 L2 0 d2)).setCell ⟨q5, 0, none⟩ (.int .i64 0)) w.heap.size (.slice (some ⟨gs2, 0, none⟩) n2 c3) s.cells :=
            (((Stays.setRow (fun k => k = q4 ∨ k = q5) w4 q4 (scC s (some ⟨gs2, 0, none⟩) n2 c3 L2 0 d2) (.inl rfl)).trans (Stays.set _ _ ⟨q5, 0, none⟩ (.int .i64 0) (.inr rfl))).keepC H4.out.own (fun j ej x => by injection ej with ej; have h1 := H4.out.own.len.2.2.2.1; have h2 := HBL.out; have : gs2 = j := ej; omega)).low HBL.out.2.2.2.2.2.2
          refine leaves_cons (f := 31) (args := #[.pointer (some ⟨q4, 0, none⟩), .pointer (some ⟨q5, 0, none⟩)]) (by simp) (by simp [go_sem]) ?_
          refine (catch17_idle _ _ _).mono ?_
          rintro e u' w'' ⟨rfl, rfl, rfl⟩
          exact ⟨_, app_results _ q4 q5 _ 0 rfl rfl _ g1 (info_sc.trans rfl) g2, PostR.some_ (HZ1.out E2.out) g4 H4.out.lk g3 H4.out.ok⟩
      | cons k l' =>
        obtain ⟨s1, e1, a1, b1, g1, -⟩ := num1_cons H2.out.er hr
        obtain ⟨K, eK⟩ : ∃ K, K = k.toNat := ⟨_, rfl⟩
        rw [← eK] at e1
        have hK : K < 256 := by rw [eK]; exact UInt8.toNat_lt k
        have HSTEP : Hid ((if K ≤ l ∨ 5 < K then (3, s) else if (thing17 K s l').1 = 0 then things17 F K (thing17 K s l').2.1 (thing17 K s l').2.2 else ((thing17 K s l').1, (thing17 K s l').2.1)) = TT) := Lib.hid (by rw [← HT.out, hr, eK]; rfl)
        obtain ⟨N1, eN1⟩ : ∃ N1, st.b.length - st.at_ = N1 := ⟨_, rfl⟩
        have hN1 : 0 < N1 := by rw [← eN1, ← HRL.out, hr, List.length_cons]; exact Nat.succ_pos _
        have hN1d : decide ((0 : Int) < (N1 : Int)) = true := decide_eq_true (by omega)
        have hN1n : decide (0 < N1) = true := decide_eq_true hN1
        have HLEN := Lib.hid eN1
        have EN := Lib.hid e1
        have A1 := Lib.hid a1
        have B1 := Lib.hid b1
        have G1 := Lib.hid g1
        have hwK : IntKind.i64.wrap (K : Int) = (K : Int) := IntWalk.i64_in _ ⟨by omega, by omega⟩
        obtain ⟨b3, d3⟩ : ∃ b, decide (K ≤ l) = b := ⟨_, rfl⟩
        obtain ⟨b4, d4⟩ : ∃ b, decide (5 < K) = b := ⟨_, rfl⟩
        have d3i : decide ((K : Int) ≤ (l : Int)) = b3 := by rw [← d3]; exact decide_eq_decide.2 (by omega)
        have d4i : decide ((5 : Int) < (K : Int)) = b4 := by rw [← d4]; exact decide_eq_decide.2 (by omega)
        have D3 := Lib.hid d3
        have D4 := Lib.hid d4
        clear hr e1 a1 b1 g1 eK eN1
        cases b3
        rotate_left
        · have HE3 : Hid ((scZ, 3) = Z) := Lib.hid (HZE.out 3 (by rw [← HSTEP.out, if_pos (.inl (of_decide_eq_true D3.out))]) (by decide))
          go_wp2_with (first
            | (go_at_call 34; (refine (Rleft_c r st wr H2.out.rd).mono ?_); rintro _ wx ⟨rfl, hq⟩; rw [HLEN.out]; obtain ⟨qq, hq⟩ := hq; have H3 := Lib.hid (show RgS B p r gs2 gA C2 R2 s n2 c3 L2 d2 st W3 wx from hq ▸ H2.out.below (below_drewN (Below.refl _ _) qq)); have c1 := H3.out.pt.cell; clear hq)
            | (go_at_call 35; (refine (Rnum_c r st 1 wx H3.out.rd (by decide)).mono ?_); rintro _ w4 ⟨rfl, hr4, hg4⟩; rw [EN.out] at hr4 ⊢; have H4 := Lib.hid (H3.out.read hr4 A1.out G1.out hg4); have H4Q := Lib.hid (HQB.out w4 H4.out.bel); clear hr4 hg4))
          refine leaves_cons (f := 31) (args := #[.pointer (some ⟨q4, 0, none⟩), .pointer (some ⟨q5, 0, none⟩)]) (by simp) (by simp [go_sem]) ?_
          obtain ⟨g1, g2, g3⟩ := fin_w H4Q.out.1 H4Q.out.2.1 HQQ.out.2.2.1 (scC scZ none 0 0 none 0 0) ((3 : Nat) : Int) H4Q.out.2.2 ⟨HQQ.out.1, HQQ.out.2.1⟩
          refine (catch17 q4 q5 (3) [] _ _ 0 rfl H4Q.out.1 H4Q.out.2.1 HQQ.out.2.2.1).mono ?_
          rintro r' u' w'' ⟨rfl, rfl, rfl⟩
          exact ⟨_, app_results _ q4 q5 _ _ rfl rfl _ g1 (info_sc.trans rfl) g2, PostR.none_ (HE3.out) rfl g3⟩
        cases b4
        rotate_left
        · have HE3 : Hid ((scZ, 3) = Z) := Lib.hid (HZE.out 3 (by rw [← HSTEP.out, if_pos (.inr (of_decide_eq_true D4.out))]) (by decide))
          go_wp2_with (first
            | (go_at_call 34; (refine (Rleft_c r st wr H2.out.rd).mono ?_); rintro _ wx ⟨rfl, hq⟩; rw [HLEN.out]; obtain ⟨qq, hq⟩ := hq; have H3 := Lib.hid (show RgS B p r gs2 gA C2 R2 s n2 c3 L2 d2 st W3 wx from hq ▸ H2.out.below (below_drewN (Below.refl _ _) qq)); have c1 := H3.out.pt.cell; clear hq)
            | (go_at_call 35; (refine (Rnum_c r st 1 wx H3.out.rd (by decide)).mono ?_); rintro _ w4 ⟨rfl, hr4, hg4⟩; rw [EN.out] at hr4 ⊢; have H4 := Lib.hid (H3.out.read hr4 A1.out G1.out hg4); have H4Q := Lib.hid (HQB.out w4 H4.out.bel); clear hr4 hg4))
          refine leaves_cons (f := 31) (args := #[.pointer (some ⟨q4, 0, none⟩), .pointer (some ⟨q5, 0, none⟩)]) (by simp) (by simp [go_sem]) ?_
          obtain ⟨g1, g2, g3⟩ := fin_w H4Q.out.1 H4Q.out.2.1 HQQ.out.2.2.1 (scC scZ none 0 0 none 0 0) ((3 : Nat) : Int) H4Q.out.2.2 ⟨HQQ.out.1, HQQ.out.2.1⟩
          refine (catch17 q4 q5 (3) [] _ _ 0 rfl H4Q.out.1 H4Q.out.2.1 HQQ.out.2.2.1).mono ?_
          rintro r' u' w'' ⟨rfl, rfl, rfl⟩
          exact ⟨_, app_results _ q4 q5 _ _ rfl rfl _ g1 (info_sc.trans rfl) g2, PostR.none_ (HE3.out) rfl g3⟩
        have hKl : l < K := by have := of_decide_eq_false D3.out; omega
        have hK5 : K ≤ 5 := by have := of_decide_eq_false D4.out; omega
        obtain ⟨T, eT⟩ : ∃ T, thing17 K s l' = T := ⟨_, rfl⟩
        have HST : Hid ((if T.1 = 0 then things17 F K T.2.1 T.2.2 else (T.1, T.2.1)) = TT) := Lib.hid (by have h := HSTEP.out; rw [if_neg (by omega), eT] at h; exact h)
        have HTH : Hid (∀ w4, RgS B p r gs2 gA C2 R2 s n2 c3 L2 d2 s1 W3 w4 → Calls Tryd.prog 36 #[.pointer (some ⟨p, 0, none⟩), .int .i64 (K : Int)] w4 fun e w' => ThP B p r gA W3 T e w') := Lib.hid (fun w4 h4 => by
          have h := thing17_c K ⟨by omega, hK5⟩ B p r gs2 gA C2 R2 s n2 c3 L2 d2 s1 W3 w4 h4 HU3.out
          rw [B1.out, eT] at h
          exact h)
        have HKB : Hid (l < K ∧ K ≤ 5) := Lib.hid ⟨hKl, hK5⟩
        clear eT HSTEP
        by_cases hT : T.1 = 0
        · have HT0 := Lib.hid hT
          clear hT
          go_wp2_with (first
            | (go_at_call 34; (refine (Rleft_c r st wr H2.out.rd).mono ?_); rintro _ wx ⟨rfl, hq⟩; rw [HLEN.out]; obtain ⟨qq, hq⟩ := hq; have H3 := Lib.hid (show RgS B p r gs2 gA C2 R2 s n2 c3 L2 d2 st W3 wx from hq ▸ H2.out.below (below_drewN (Below.refl _ _) qq)); have c1 := H3.out.pt.cell; clear hq)
            | (go_at_call 35; (refine (Rnum_c r st 1 wx H3.out.rd (by decide)).mono ?_); rintro _ w4 ⟨rfl, hr4, hg4⟩; rw [EN.out] at hr4 ⊢; have H4 := Lib.hid (H3.out.read hr4 A1.out G1.out hg4); have H4Q := Lib.hid (HQB.out w4 H4.out.bel); clear hr4 hg4)
            | (go_at_call 36; (refine (HTH.out w4 H4.out).mono ?_); rintro _ w5 ⟨k1, _, k3⟩; obtain ⟨rfl, hk⟩ := k1 HT0.out; have HK5 := Lib.hid hk; clear k1 k3 hk))
          obtain ⟨gs6, C6, R6, n6, c6, L6, d6, s6, h6, hr6⟩ := HK5.out
          have H6 := Lib.hid h6
          have HR6 : Hid (things17 F K T.2.1 s6.rest = TT) := Lib.hid (by rw [hr6]; have h := HST.out; rw [if_pos HT0.out] at h; exact h)
          clear h6 hr6 HK5
          go_roundw
          case rel => exact ⟨K, F, gs6, C6, R6, T.2.1, n6, c6, L6, d6, s6, rfl, hK5, Lib.hid (by have := HF6.out; omega), HR6, H6⟩
          case measure => simp [intOf]; omega
        · have HT0 := Lib.hid hT
          have HE3 : Hid ((scZ, T.1) = Z) := Lib.hid (HZE.out T.1 (by rw [← HST.out, if_neg hT]) hT)
          clear hT
          go_wp2_with (first
            | (go_at_call 34; (refine (Rleft_c r st wr H2.out.rd).mono ?_); rintro _ wx ⟨rfl, hq⟩; rw [HLEN.out]; obtain ⟨qq, hq⟩ := hq; have H3 := Lib.hid (show RgS B p r gs2 gA C2 R2 s n2 c3 L2 d2 st W3 wx from hq ▸ H2.out.below (below_drewN (Below.refl _ _) qq)); have c1 := H3.out.pt.cell; clear hq)
            | (go_at_call 35; (refine (Rnum_c r st 1 wx H3.out.rd (by decide)).mono ?_); rintro _ w4 ⟨rfl, hr4, hg4⟩; rw [EN.out] at hr4 ⊢; have H4 := Lib.hid (H3.out.read hr4 A1.out G1.out hg4); have H4Q := Lib.hid (HQB.out w4 H4.out.bel); clear hr4 hg4))
          refine (HTH.out w4 H4.out).mono ?_
          rintro _ w5 ⟨_, k2, k3⟩
          obtain rfl := k2 HT0.out
          have H5Q := Lib.hid (HQB.out w5 k3)
          clear k2 k3
          unfold thrownE
          go_wp2_with (fail)
          refine leaves_cons (f := 31) (args := #[.pointer (some ⟨q4, 0, none⟩), .pointer (some ⟨q5, 0, none⟩)]) (by simp) (by simp [go_sem]) ?_
          obtain ⟨g1, g2, g3⟩ := fin_w H5Q.out.1 H5Q.out.2.1 HQQ.out.2.2.1 (scC scZ none 0 0 none 0 0) ((T.1 : Nat) : Int) H5Q.out.2.2 ⟨HQQ.out.1, HQQ.out.2.1⟩
          refine (catch17 q4 q5 (T.1) [] _ _ 0 rfl H5Q.out.1 H5Q.out.2.1 HQQ.out.2.2.1).mono ?_
          rintro r' u' w'' ⟨rfl, rfl, rfl⟩
          exact ⟨_, app_results _ q4 q5 _ _ rfl rfl _ g1 (info_sc.trans rfl) g2, PostR.none_ (HE3.out) rfl g3⟩
    end Go.Proofs.YtnnekdefncfeeaaDoor


/- Plain: what the walks of layer 17 lean on: cells such as the second version tells them; a screen that fits is read. Conditions: none. -/
namespace Go.Proofs.YtnnekdefncfeeaaDoor
open Go Go.RowKit Go.Lib

theorem told17_of {t : ScD} (hf : fit17 t = true) (hc : ∀ d ∈ t.cells, CeOk d) : ∀ d ∈ t.cells, Told17 d := by
  obtain ⟨C, R, h⟩ := fit17_of hf
  exact h.told hf (fun d hd => by
    obtain ⟨_, _, h1, h2, h3, h4⟩ := hc d hd
    exact ⟨h1, h2, h3, h4.1⟩)
theorem fit_read17 {w : World} {B : Nat} {t : ScD} {A : Option Addr} {n c : Nat} {L : Option Addr} {d : Nat} (hf : fit17 t = true) (ho : OwnC w B (.slice A n c) t.cells) (hl : t.links = []) (hk : okLn t.cells) : ScR w t A n c L 0 d := by
  obtain ⟨C, R, h⟩ := fit17_of hf
  obtain ⟨p1, p2, p3, _⟩ := ho.parts
  have hn : n ≤ 1920 := by rw [← p1, h.len]; exact Nat.mul_le_mul h.c2 h.r2
  exact ⟨p1, p2, p3, by omega, by rw [hl]; rfl, by rw [hl]; exact .inl rfl, Nat.zero_le _, Nat.zero_le _, (fun u hu => by rw [hl] at hu; cases hu), hk, by have := h.tl; omega⟩
theorem varLlen {n : Nat} (h : n ≤ 4294967295) : (varL n).length ≤ 10 := varL_len10 (u64_small h)
theorem runB_len {g : Nat} {y : CeD} {l : List CeD} (hg : g ≤ 1000000) (hl : l.length ≤ 1000000) (hy : CeOk y) (hc : ∀ d ∈ l, d.r ≤ 2147483647) : (runB g y l).length ≤ 50 + l.length * 10 := by
  obtain ⟨_, _, h1, h2, h3, _⟩ := hy
  have e1 := varLlen (n := g) (by omega)
  have e2 := varLlen (n := l.length) (by omega)
  have e3 := varLlen (n := y.fg.toNat) (by omega)
  have e4 := varLlen (n := y.bg.toNat) (by omega)
  have e5 := varLlen (n := y.at_.toNat) (by omega)
  have e6 : (runesB l).length ≤ l.length * 10 := by
    clear hl e2
    induction l with
    | nil => exact Nat.le_refl _
    | cons a l ih =>
      have k1 := varLlen (n := a.r.toNat) (by have := hc a List.mem_cons_self; omega)
      have k2 := ih (fun x hx => hc x (List.mem_cons_of_mem _ hx))
      simp only [runesB, List.flatMap_cons, List.length_append, List.length_cons] at k2 ⊢
      omega
  unfold runB
  simp only [List.length_append]
  omega
theorem runsG_len : ∀ (f g : Nat) (a b : List CeD), (∀ d ∈ b, CeOk d) → g + b.length ≤ 1000000 → (runsG f g a b).2.length ≤ b.length * 60
  | 0, _, _, _, _, _ => Nat.zero_le _
  | f + 1, g, [], [], _, _ => Nat.zero_le _
  | f + 1, g, [], _ :: _, _, _ => Nat.zero_le _
  | f + 1, g, _ :: _, [], _, _ => Nat.zero_le _
  | f + 1, g, x :: a, y :: b, hc, hg => by
    rw [List.length_cons] at hg
    rw [runsG, List.length_cons]
    split
    · have ih := runsG_len f (g + 1) a b (fun d hd => hc d (List.mem_cons_of_mem _ hd)) (by omega)
      omega
    · obtain ⟨k, ek⟩ : ∃ k, runEnd y a b = k := ⟨_, rfl⟩
      have hk := (runEnd_le y a b).1
      rw [ek] at hk
      rw [ek]
      have ih := runsG_len f 0 (a.drop k) (b.drop k) (fun d hd => hc d (List.mem_cons_of_mem _ (List.mem_of_mem_drop hd))) (by rw [List.length_drop]; omega)
      have h2 := runB_len (g := g) (y := y) (l := y :: b.take k) (by omega) (by rw [List.length_cons, List.length_take]; omega) (hc y List.mem_cons_self) (fun d hd => by
        rcases List.mem_cons.1 hd with rfl | hd
        · exact (hc _ List.mem_cons_self).1.2
        · exact (hc d (List.mem_cons_of_mem _ (List.mem_of_mem_take hd))).1.2)
      rw [List.length_cons, List.length_take] at h2
      rw [List.length_drop] at ih
      simp only [List.length_append]
      omega
theorem lay17_len {a b : ScD} {C R : Nat} (hf : Fit17 b C R) (hc : ∀ d ∈ b.cells, CeOk d) : (lay17 a b).length ≤ 150000 := by
  have hn : b.cells.length ≤ 1920 := by rw [hf.len]; exact Nat.mul_le_mul hf.c2 hf.r2
  have h1 := hf.x1; have h2 := hf.y1; have h3 := hf.mo; have h4 := hf.c2; have h5 := hf.r2; have h6 := hf.tl
  have e1 := varLlen (n := b.x.toNat) (by omega)
  have e2 := varLlen (n := b.y.toNat) (by omega)
  have e3 := varLlen (n := b.title.size) (by omega)
  have hr := runsG_len b.cells.length 0 a.cells b.cells hc (by omega)
  have hk := runsG_count b.cells.length 0 a.cells b.cells
  have e4 := varLlen (n := (runsD a.cells b.cells).1) (by unfold runsD; omega)
  have k1 : (curB a b).length ≤ 30 := by
    unfold curB
    split
    · simp only [List.length_cons, List.length_append, List.length_nil]; omega
    · simp
  have k2 : (titB17 a b).length ≤ 100 := by
    unfold titB17
    split
    · simp
    · simp only [List.length_cons, List.length_append, strB_len]; omega
  have k3 : (mouB a b).length ≤ 2 := by unfold mouB; split <;> simp
  have k4 : (celB a b).length ≤ 140000 := by
    unfold celB
    split
    · simp
    · simp only [List.length_cons, List.length_append]; unfold runsD at e4 ⊢; omega
  unfold lay17
  simp only [List.length_append]
  omega
theorem full17_len {b : ScD} (hc : ∀ d ∈ b.cells, CeOk d) : (full17 b).1.length ≤ 200000 := by
  unfold full17
  split
  · rename_i h
    obtain ⟨C, R, hf⟩ := fit17_of h
    have h1 := hf.c; have h2 := hf.r; have h4 := hf.c2; have h5 := hf.r2
    have e1 := varLlen (n := b.cols.toNat) (by omega)
    have e2 := varLlen (n := b.rows.toNat) (by omega)
    have k := lay17_len (a := blankS b.cols b.rows) hf hc
    simp only [List.length_cons, List.length_append]
    omega
  · simp
theorem enc17_len {a b : ScD} (hc : ∀ d ∈ b.cells, CeOk d) : (enc17 a b).1.length ≤ 200000 := by
  unfold enc17
  split
  · rename_i h
    rw [Bool.and_eq_true] at h
    obtain ⟨C, R, hf⟩ := fit17_of h.2
    split
    · have k := lay17_len (a := a) hf hc
      simp only
      omega
    · exact full17_len hc
  · simp
end Go.Proofs.YtnnekdefncfeeaaDoor

