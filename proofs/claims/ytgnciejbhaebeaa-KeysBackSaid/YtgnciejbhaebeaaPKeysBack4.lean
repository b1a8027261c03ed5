/- Parts one behind the other: What keys.Decode answers: a batch read, or an error; A region that draws its order, by a relation for each operation: what each yields is told by a relation that stays true as the world grows; then whatever the order, all relations hold at the end; What keys.Encode answers: a batch's bytes in a version, or an error; A region that draws its order and whose last operation waits for all others: the others by relations, the last one at the end; A region that draws its order and ends in a tail that waits for all others: the others by relations, the tail one behind the other. Conditions: as told at each. -/
import Derived.Test.YtgnciejbhaebeaaPKeysBack3
import Derived.Test.YtgnciejbhaebeaaPKeysBack1
import Derived.Test.YtgnciejbhaebeaaPKeysBack2
import Derived.Deep.RegionHeld3
import Derived.Laws.Tables
import Derived.Laws.Rows

/- What keys.Decode answers: a batch read, or an error. Conditions: lengths that fit. -/
namespace Go.Proofs.Ytgnciejbhaebeaa
open Go Go.RowKit

theorem decR_eq {ver : Int} {bs : List UInt8} {gA : Option Addr} {f : Bool} {B C : Nat} {s1 s2 : RS} (h1 : 1 ≤ ver) (h3 : ver ≤ 3) (hf : f = decide (ver = 1)) (e1 : getR f ⟨bs, 0, 0, gA⟩ 8 = (B, s1)) (e2 : getR f s1 1 = (C, s2)) :
    decR ver bs gA = if s2.err ≠ 0 then (0, [], s2.err) else if C = 0 ∨ 16 < C then (0, [], 3) else if (goR f C s2 []).1 ≠ 0 then (0, [], (goR f C s2 []).1)
      else if (goR f C s2 []).2.2.at_ < (goR f C s2 []).2.2.b.length then (0, [], 6) else (B, (goR f C s2 []).2.1, 0) := by
  rw [decR, if_neg (by omega)]
  subst hf
  simp only [e1, e2]
theorem EvO.to_d {w0 w w' : World} {r g7 : Nat} {gA : Option Addr} {f : Bool} {s : RS} {v : Value} {acc : List Ev} {d : EvV} {e : Ev} (h : DeS w0 r g7 gA f s v acc w) (he : EvO (w.heap.size ≤ ·) w' d e) : EvO (DOk w0 r g7 gA) w' d e :=
  he.weak (fun k hk _ => h.fresh hk)

set_option maxRecDepth 100000 in
set_option maxHeartbeats 4000000 in
theorem Decode_c (ver : Int) (A : Option Addr) (n c : Nat) (bs : List UInt8) (w : World) (hn : bs.length = n) (hr : Rd w A (bs.map bv)) (hl : n ≤ 140737488355328) (N er : Nat) (l : List Ev) (eR : decR ver bs none = (N, l, er)) :
    Calls Try.prog 56 #[.int .i64 ver, .slice A n c] w fun r w' => ∃ v, r = .returned (.tuple #[.int .u64 (N : Int), v, .int .i64 (er : Int)]) ∧ Evs (w.heap.size ≤ ·) w' v l ∧ Below w.heap.size w w' := by
  have HN := Lib.hid hn; clear hn
  have HR := Lib.hid hr; clear hr
  have ER := Lib.hid eR; clear eR
  have nl : ∀ w', Evs (w.heap.size ≤ ·) w' (.slice none 0 0) [] := fun w' => ⟨[], rfl, World.ownsRow_nil _ _ _ _, fun k e => (by cases e), fun i h => absurd h (by simp)⟩
  have NL := Lib.hid nl; clear nl
  rcases Int.lt_or_le ver 1 with v1 | v1
  · have hR : decR ver bs none = (0, [], 1) := by rw [decR, if_pos (.inl v1)]
    rw [ER.out] at hR
    injection hR with r1 r2
    injection r2 with r2 r3
    subst r1 r2 r3
    go_enter Try.func56, Try.ntmps56
    go_wp2_with (fail)
    go_ret3
    exact ⟨_, rfl, NL.out _, Below.refl _ _⟩
  rcases Int.lt_or_le 3 ver with v3 | v3
  · have hR : decR ver bs none = (0, [], 1) := by rw [decR, if_pos (.inr v3)]
    rw [ER.out] at hR
    injection hR with r1 r2
    injection r2 with r2 r3
    subst r1 r2 r3
    go_enter Try.func56, Try.ntmps56
    go_wp2_with (fail)
    go_ret3
    exact ⟨_, rfl, NL.out _, Below.refl _ _⟩
  have d1 : decide (ver < 1) = false := decide_eq_false (by omega)
  have d2 : decide (3 < ver) = false := decide_eq_false (by omega)
  obtain ⟨f, ef⟩ : ∃ f, f = decide (ver = 1) := ⟨_, rfl⟩
  have efv : (ver == 1) = f := by rw [ef]; rfl
  have EF := Lib.hid ef; clear ef
  obtain ⟨w2, ew2⟩ : ∃ w2, w2 = w.alloc (.cells #[.bool f] 111) := ⟨_, rfl⟩
  obtain ⟨g7, eg7⟩ : ∃ g7, g7 = w.heap.size := ⟨_, rfl⟩
  have b2 : w2.heap[g7]? = some (.cells #[.bool f] 111 (0, 0)) := by rw [ew2, eg7]; exact heap_alloc_new w _
  have k2 : Below w.heap.size w w2 := by rw [ew2]; exact (Below.refl _ _).alloc (Nat.le_refl _) _
  have B2 := Lib.hid b2
  have K2 := Lib.hid k2
  have EW2 := Lib.hid ew2
  have EG7 := Lib.hid eg7
  clear b2 k2 ew2 eg7
  go_enter Try.func56, Try.ntmps56
  go_wp2_with (fail)
  rw [← EW2.out, ← EG7.out]
  refine (Rnew_c A n c bs w2 HN.out (HR.out.below K2.out) hl).mono ?_
  rintro e w3 ⟨r, gA, rfl, hr3, hrd3, hb3, hga3⟩
  have hD3 : DeS w r g7 gA f ⟨bs, 0, 0, gA⟩ (.slice none 0 0) [] w3 := by
    have h2 := heap_lt B2.out
    have h1 := K2.out.size
    have hg := EG7.out
    exact ⟨hrd3, (hb3.block g7 h2).trans B2.out, ⟨[], rfl, World.ownsRow_nil _ _ _ _, fun k e => (by cases e), fun i h => absurd h (by simp)⟩, K2.out.trans (hb3.mono h1), ⟨by omega, by omega⟩, rfl, fun a ha => ⟨(hga3 a ha).2, by have := (hga3 a ha).1; omega⟩⟩
  have HD3 := Lib.hid hD3
  clear hr3 hrd3 hb3 hga3 hD3 B2 K2 EW2 EG7 HR d1 d2
  obtain ⟨B, s1, eB⟩ : ∃ B s1, getR f ⟨bs, 0, 0, gA⟩ 8 = (B, s1) := ⟨_, _, rfl⟩
  obtain ⟨C, s2, eC⟩ : ∃ C s2, getR f s1 1 = (C, s2) := ⟨_, _, rfl⟩
  have hq := decR_eq (gA := gA) v1 v3 EF.out eB eC
  rw [decR_g ver bs gA none, ER.out] at hq
  have HQ := Lib.hid hq
  have EB := Lib.hid eB
  have EC := Lib.hid eC
  have hBu := getR_lt eB
  have hCu := getR_lt eC
  have HG1 := Lib.hid (getR_ga eB)
  have HG2 := Lib.hid (getR_ga eC)
  clear eB eC hq
  have c7 := HD3.out.c7
  have hDd : Hid (DeS w r g7 gA f ⟨bs, 0, 0, gA⟩ (.slice none 0 0) [] w3.drew) := Lib.hid (HD3.out.below (below_drewN (Below.refl _ _) 1))
  go_upto_region 5 with (fail)
  go_region_held3 (fun w' => w'.cell? ⟨g7, 0, none⟩ = some (.bool f)) (first | exact c7 | (with_reducible assumption)) (first
    | (go_at_call 75; (with_reducible refine (get_e f r ⟨bs, 0, 0, gA⟩ s1 8 B w3.drew hDd.out.rd (by decide) EB.out).mono ?_); rintro _ w4 ⟨rfl, hr4, hk4⟩; have HD4 := Lib.hid (hDd.out.step hr4 hk4 HG1.out); have c4 := HD4.out.c7; clear hr4 hk4)
    | (go_at_call 75; (with_reducible refine (get_e f r s1 s2 1 C w4 HD4.out.rd (by decide) EC.out).mono ?_); rintro _ w5 ⟨rfl, hr5, hk5⟩; have HD5 := Lib.hid (HD4.out.step hr5 hk5 HG2.out); have c5 := HD5.out.c7; clear hr5 hk5))
  clear HD3 hDd HD4 c7 c4 c5
  obtain ⟨E2, eE2⟩ : ∃ E2, E2 = s2.err := ⟨_, rfl⟩
  have HE2 := Lib.hid eE2; clear eE2
  go_wp2_with (fail)
  refine (Rerr_e r s2 E2 w5 HD5.out.rd HE2.out.symm).mono ?_
  rintro e w5' ⟨rfl, rfl⟩
  by_cases h2 : E2 = 0
  · subst h2
    by_cases hC : C = 0 ∨ 16 < C
    · have hR := HQ.out
      rw [if_neg (by rw [← HE2.out]; simp), if_pos hC] at hR
      injection hR with r1 r2
      injection r2 with r2 r3
      subst r1 r2 r3
      rcases hC with rfl | hC
      · go_wp2_with (fail)
        go_ret3
        exact ⟨_, rfl, NL.out _, HD5.out.bel⟩
      · have z0 : ((C : Int) == 0) = false := by rw [beq_eq_false_iff_ne]; omega
        have z1 : (16 : Int) < (C : Int) := by omega
        have z2 : ¬ C = 0 := by omega
        go_wp2_with (fail)
        go_ret3
        exact ⟨_, rfl, NL.out _, HD5.out.bel⟩
    · have hC1 : 1 ≤ C := by omega
      have hC16 : C ≤ 16 := by omega
      obtain ⟨G, eG⟩ : ∃ G, G = goR f C s2 [] := ⟨_, rfl⟩
      have hR := HQ.out
      rw [if_neg (by rw [← HE2.out]; simp), if_neg hC, ← eG] at hR
      have HG := Lib.hid hR
      have EG := Lib.hid eG
      clear hR eG hC
      have z0 : ((C : Int) == 0) = false := by rw [beq_eq_false_iff_ne]; omega
      have z1 : (C : Int) ≤ 16 := by omega
      have z2 : ¬ C = 0 := by omega
      go_wp2_with (fail)
      go_loopw [11, 45] (fun v i wr => ∃ (j : Nat) (s : RS) (acc : List Ev), j ≤ C ∧ i = .int .u64 j ∧ Hid (DeS w r g7 gA f s v acc wr) ∧ Hid (goR f (C - j) s acc = G) ∧ acc.length = j) (fun _ i _ => C - (intOf i).toNat)
      case atStart => exact ⟨0, s2, [], Nat.zero_le _, rfl, HD5, Lib.hid EG.out.symm, rfl⟩
      case round =>
        clear HD5
        obtain ⟨j, s, acc, hj, rfl, HD, HGo, hac⟩ := hrel
        have HAC := Lib.hid hac; clear hac
        rcases Nat.lt_or_ge j C with hlt | hge
        · have hlt' : (j : Int) < (C : Int) := by omega
          obtain ⟨ee, e1, s', eE⟩ : ∃ ee e1 s', evR f s = (ee, e1, s') := ⟨_, _, _, rfl⟩
          have hgo := HGo.out
          rw [show C - j = (C - j - 1) + 1 by omega, goR_succ eE] at hgo
          have HGO := Lib.hid hgo
          have EE := Lib.hid eE
          clear hgo eE
          have c7 := HD.out.c7
          go_wp2_with (fail)
          refine (event_e f r s s' ee e1 wr HD.out.rd (fun a ha => (HD.out.gl a (by rw [← HD.out.ga]; exact ha)).1) EE.out).mono ?_
          rintro e w6 ⟨d, rfl, hd6, hr6, hk6⟩
          have HD6 := Lib.hid (HD.out.step hr6 hk6 (evR_e EE.out))
          have ED6 : Hid (ee = 0 → EvO (DOk w r g7 gA) w6 d e1) := Lib.hid (fun h => EvO.to_d HD.out (hd6 h))
          clear hr6 hk6 hd6 c7 HD
          obtain ⟨dk, dA, dn, dc, dx, dy, db⟩ := d
          dsimp only
          by_cases he : ee = 0
          · subst he
            have hgo := HGO.out
            rw [if_neg (by simp)] at hgo
            have HGO2 := Lib.hid hgo
            clear hgo HGO HGo
            have hd6 := ED6.out rfl
            obtain ⟨ds, hds⟩ := HD6.out.ev
            have b7 : Below w6.heap.size w6 ((w6.alloc (.cells #[.int .i64 dk, .slice dA dn dc, .int .i64 dx, .int .i64 dy, .int .i64 db] 36)).alloc (.cells #[.int .i64 dk, .slice dA dn dc, .int .i64 dx, .int .i64 dy, .int .i64 db] 36)) := ((Below.refl _ _).alloc (Nat.le_refl _) _).alloc (by simp) _
            have HD8 := Lib.hid (HD6.out.below b7)
            have HS8 := Lib.hid (hds.below b7)
            have HE8 := Lib.hid (hd6.frame (fun k _ hk => b7.block k hk))
            have hdl : ds.length ≤ 16 := by rw [hds.len, HAC.out]; omega
            have hs6 : (w6.alloc (.cells #[.int .i64 dk, .slice dA dn dc, .int .i64 dx, .int .i64 dy, .int .i64 db] 36)).heap.size = w6.heap.size + 1 := by simp
            have hr8 := Rd.lit (w6.alloc (.cells #[.int .i64 dk, .slice dA dn dc, .int .i64 dx, .int .i64 dy, .int .i64 db] 36)) (cellsV [⟨dk, dA, dn, dc, dx, dy, db⟩]) 36
            rw [hs6] at hr8
            have HR8 := Lib.hid hr8
            have wj : IntKind.u64.wrap ((j : Int) + 1) = ((j + 1 : Nat) : Int) := by
              rw [show (j : Int) + 1 = ((j + 1 : Nat) : Int) by omega]; exact u64_wrapN (by unfold U64; omega)
            clear hd6 hds b7 hs6 hr8 HD6 ED6
            go_wp2_with (at_builtin; refine wpList_appV _ rfl (.tmp 56) (.tmp 58) rfl 0 _ ds rfl HS8.out.row (some ⟨w6.heap.size + 1, 0, none⟩) 1 1 [⟨dk, dA, dn, dc, dx, dy, db⟩] rfl rfl HR8.out (by omega) (Nat.zero_le _) ?_; intro v9 w9 ho9 hg9 hv9; have HD9 := Lib.hid (HD8.out.more HS8.out HE8.out ho9 hg9 hv9); clear ho9 hg9 hv9)
            go_roundw
            case rel => exact ⟨j + 1, s', acc ++ [e1], by omega, by go_num, HD9, Lib.hid (by rw [show C - (j + 1) = C - j - 1 by omega]; exact HGO2.out), by rw [List.length_append, HAC.out]; rfl⟩
            case measure => simp [intOf]; omega
          · have hgo := HGO.out
            rw [if_pos he] at hgo
            have hR := HG.out
            rw [← hgo, if_pos he] at hR
            injection hR with r1 r2
            injection r2 with r2 r3
            subst r1 r2 r3
            have e0 : ((er : Int) != 0) = true := by rw [bne_iff_ne]; omega
            have HB6 := Lib.hid HD6.out.bel
            clear he hgo
            go_wp2_with (fail)
            go_ret3
            exact ⟨_, rfl, NL.out _, HB6.out.alloc HB6.out.size _⟩
        · have hge' : (C : Int) ≤ (j : Int) := by omega
          have hgo := HGo.out
          rw [show C - j = 0 by omega, goR] at hgo
          have hR := HG.out
          rw [← hgo] at hR
          simp only at hR
          rw [if_neg (by simp)] at hR
          have HR2 := Lib.hid hR
          clear hR hgo HGo
          have hat : s.at_ ≤ s.b.length := by obtain ⟨_, _, _, _, _, _, _, h, _⟩ := HD.out.rd; exact h
          obtain ⟨lf, elf⟩ : ∃ lf, lf = s.b.length - s.at_ := ⟨_, rfl⟩
          have hlf : lf ≤ 140737488355328 := by obtain ⟨_, _, _, _, _, _, _, _, h⟩ := HD.out.rd; omega
          have ELF := Lib.hid elf
          have rl := Rleft_c r s wr HD.out.rd
          rw [← elf] at rl
          have RL := Lib.hid rl
          clear elf rl
          go_wp2_with (fail)
          refine RL.out.mono ?_
          rintro e w7 ⟨rfl, q7, e7⟩
          have HD7 := Lib.hid (e7 ▸ HD.out.below (below_drewN (Below.refl _ _) q7))
          clear e7 RL HD
          rcases Nat.eq_zero_or_pos lf with h0 | h0
          · have hR := HR2.out
            rw [if_neg (by have := ELF.out; omega)] at hR
            injection hR with r1 r2
            injection r2 with r2 r3
            subst r1 r2 r3
            have d0 : decide ((0 : Int) < (lf : Int)) = false := decide_eq_false (by omega)
            have d1 : decide (0 < lf) = false := decide_eq_false (by omega)
            clear h0
            go_wp2_with (fail)
            go_ret3
            exact ⟨_, rfl, by obtain ⟨ds, h⟩ := HD7.out.ev; exact ⟨ds, h.weak (fun k hk _ => hk.1)⟩, HD7.out.bel⟩
          · have hR := HR2.out
            rw [if_pos (by have := ELF.out; omega)] at hR
            injection hR with r1 r2
            injection r2 with r2 r3
            subst r1 r2 r3
            have d0 : decide ((0 : Int) < (lf : Int)) = true := decide_eq_true (by omega)
            have d1 : decide (0 < lf) = true := decide_eq_true (by omega)
            clear h0
            go_wp2_with (fail)
            go_ret3
            exact ⟨_, rfl, NL.out _, HD7.out.bel⟩
  · have hR := HQ.out
    rw [if_pos (by rw [← HE2.out]; exact h2), ← HE2.out] at hR
    injection hR with r1 r2
    injection r2 with r2 r3
    subst r1 r2 r3
    have e0 : ((er : Int) != 0) = true := by rw [bne_iff_ne]; omega
    clear h2
    go_wp2_with (fail)
    refine (Rerr_e r s2 er w5 HD5.out.rd HE2.out.symm).mono ?_
    rintro e w5' ⟨rfl, rfl⟩
    go_wp2_with (fail)
    go_ret3
    exact ⟨_, rfl, NL.out _, HD5.out.bel⟩
end Go.Proofs.Ytgnciejbhaebeaa

/- A region that draws its order, by a relation for each operation: what each yields is told by a relation that stays true as the world grows; then whatever the order, all relations hold at the end. No order is gone through. Conditions: each slot is written once; no operation panics. -/
namespace Go.Proofs.Ytgnciejbhaebeaa
open Go Go.RowKit

/-- What an operand is, the slots told by f. -/
def evF (f : Nat → Value) : Operand → Value
  | .tmp t => f t
  | .const v => v
  | .global g => .pointer (some ⟨g, 0, none⟩)
  | .func k => .func (.func k) #[] #[]
theorem evF_eval (a : Act) : a.eval = evF (fun t => a.tmps.getD t undef) := by
  funext x
  cases x <;> rfl
/-- What an operation yields, and the world behind it; it does not panic. -/
def Gives (P : Program) (o : Oper) (f : Nat → Value) (w : World) (K : Value → World → Prop) : Prop :=
  match (execOp (evF f) o).run P w with
  | .ok (.value v) w' => K v w'
  | .ok .skip w' => K undef w'
  | .ok (.enter k args) w' => Calls P k args w' fun e w'' => ∃ v, e = .returned v ∧ K v w''
  | _ => False
theorem Gives.wp {P : Program} {o : Oper} {a : Act} {w : World} {K : Act → World → Prop} {Q : Exit → Act → World → Prop}
    (h : Gives P o (fun t => a.tmps.getD t undef) w (fun v w' => K (a.put o.dst v) w')) : Oper.wp P o a w K Q := by
  unfold Gives at h
  rw [← evF_eval] at h
  unfold Oper.wp
  generalize (execOp a.eval o).run P w = r at h
  cases r with
  | ok n w' =>
    cases n <;> simp only [Oper.upon] at h ⊢
    case value v => exact h
    case skip => exact h
    case enter k args => exact Calls.mono h fun e w'' ⟨v, he, hk⟩ => by subst he; exact hk
    all_goals exact h.elim
  | halt x w' => exact h.elim

def dstOf (ops : Array Oper) (i : Nat) : Option Tmp := (ops[i]?).bind (·.dst)
/-- Which value a guard's operation has yielded. -/
def yieldedF (ops : Array Oper) (f : Nat → Value) (j : Nat) : Option Bool :=
  match dstOf ops j with
  | some d => (match f d with | .bool b => some b | _ => none)
  | none => none
/-- Each slot is written once, and is there. -/
def slotsOk (ops : Array Oper) (n : Nat) : Bool :=
  (List.range ops.size).all fun i => (match dstOf ops i with
    | some d => decide (d < n) && (List.range ops.size).all (fun j => i == j || dstOf ops j != some d)
    | none => true) && (match ops[i]? with | some o => o.after.all (fun e => !Region.binds .any e || decide (e.on < i)) | none => true)
def depOn (ops : Array Oper) (i j : Nat) : Bool := match ops[i]? with | some o => o.after.any (fun e => Region.binds .any e && e.on == j) | none => false
def writes (ops : Array Oper) (t : Nat) : Bool := (List.range ops.size).any (fun j => dstOf ops j == some t)

section
variable {P : Program} {ops : Array Oper} {G : World → World → Prop} {R : Nat → World → Value → Prop} {a0 : Act} {W0 : World}

structure RInv (ops : Array Oper) (G : World → World → Prop) (R : Nat → World → Value → Prop) (a0 : Act) (W0 : World) (listed : Array Bool) (a : Act) (w : World) : Prop where
  grow : G W0 w
  defers : a.defers = a0.defers
  size : a.tmps.size = a0.tmps.size
  lsize : listed.size = ops.size
  frame : ∀ t, writes ops t = false → a.tmps.getD t undef = a0.tmps.getD t undef
  rel : ∀ j d, listed.getD j false = true → dstOf ops j = some d → R j w (a.tmps.getD d undef)

theorem dstOf_lt {i : Nat} {d : Tmp} (h : dstOf ops i = some d) : i < ops.size := by
  unfold dstOf at h
  rcases Nat.lt_or_ge i ops.size with hi | hi
  · exact hi
  · rw [Array.getElem?_eq_none hi] at h; cases h
theorem slotsOk_lt {n : Nat} (h : slotsOk ops n = true) {i : Nat} {d : Tmp} (hd : dstOf ops i = some d) : d < n := by
  have h1 := List.all_eq_true.1 h i (List.mem_range.2 (dstOf_lt hd))
  rw [hd] at h1
  simp only [Bool.and_eq_true, decide_eq_true_eq] at h1
  exact h1.1.1
theorem slotsOk_ne {n : Nat} (h : slotsOk ops n = true) {i j : Nat} {d : Tmp} (hd : dstOf ops i = some d) (hj : dstOf ops j = some d) : i = j := by
  have h1 := List.all_eq_true.1 h i (List.mem_range.2 (dstOf_lt hd))
  rw [hd] at h1
  simp only [Bool.and_eq_true, decide_eq_true_eq] at h1
  have h2 := List.all_eq_true.1 h1.1.2 j (List.mem_range.2 (dstOf_lt hj))
  simp only [Bool.or_eq_true, beq_iff_eq, bne_iff_ne] at h2
  rcases h2 with h2 | h2
  · exact h2
  · exact absurd hj h2
theorem slotsOk_back {n : Nat} (h : slotsOk ops n = true) {i : Nat} {o : Oper} (ho : ops[i]? = some o) (e : Edge) (he : e ∈ o.after) (hb : Region.binds .any e = true) : e.on < i := by
  have hi : i < ops.size := (Array.getElem?_eq_some_iff.1 ho).1
  have h1 := List.all_eq_true.1 h i (List.mem_range.2 hi)
  rw [ho] at h1
  simp only [Bool.and_eq_true] at h1
  have h2 := Array.all_eq_true_iff_forall_mem.1 h1.2 e he
  simpa [hb] using h2
theorem writes_of {j : Nat} {d : Tmp} (h : dstOf ops j = some d) : writes ops d = true :=
  List.any_eq_true.2 ⟨j, List.mem_range.2 (dstOf_lt h), by rw [h]; exact beq_self_eq_true _⟩
theorem yielded_eqF {n : Nat} (h : slotsOk ops n = true) (a : Act) (hs : a.tmps.size = n) : yielded ops a.tmps = yieldedF ops (fun t => a.tmps.getD t undef) := by
  funext j
  unfold yielded yieldedF
  show (match (dstOf ops j).bind (a.tmps[·]?) with | some (.bool b) => some b | _ => none) = _
  cases hd : dstOf ops j with
  | none => rfl
  | some d =>
    have hlt := slotsOk_lt h hd
    have e : a.tmps[d]? = some (a.tmps.getD d undef) := by
      rw [← hs] at hlt
      simp [hlt]
    simp only [Option.bind_some, e]
    generalize a.tmps.getD d undef = u
    cases u <;> rfl

theorem RInv.put {listed : Array Bool} {a : Act} {w w' : World} {i : Nat} {o : Oper} {v : Value} {n : Nat} (ho : ops[i]? = some o) (hok : slotsOk ops n = true) (hn : a0.tmps.size = n) (h : RInv ops G R a0 W0 listed a w)
    (ht : ∀ {a b c}, G a b → G b c → G a c) (hm : ∀ j {a b v}, R j a v → G a b → R j b v) (hg : G w w') (hr : R i w' v) (hi : i < ops.size) : RInv ops G R a0 W0 (listed.setIfInBounds i true) (a.put o.dst v) w' := by
  have hdo : dstOf ops i = o.dst := by unfold dstOf; rw [ho]; rfl
  have get : ∀ t, (a.put o.dst v).tmps.getD t undef = if o.dst = some t ∧ t < n then v else a.tmps.getD t undef := by
    intro t
    unfold Act.put
    cases hd : o.dst with
    | none => simp
    | some d =>
      by_cases e : d = t
      · subst e
        have hlt : d < n := slotsOk_lt hok (hdo.trans hd)
        have hlt2 : d < a.tmps.size := by rw [h.size, hn]; exact hlt
        simp [hlt, hlt2]
      · simp [e, Array.getElem?_setIfInBounds_ne e]
  refine ⟨ht h.grow hg, ?_, ?_, by simp [h.lsize], fun t hw => ?_, fun j d hl hd => ?_⟩
  · rw [← h.defers]; unfold Act.put; cases o.dst <;> rfl
  · rw [← h.size]; unfold Act.put; cases o.dst <;> simp
  · rw [get, if_neg, h.frame t hw]
    rintro ⟨e, _⟩
    have := writes_of (hdo.trans e)
    rw [hw] at this; cases this
  · rw [get]
    by_cases hji : j = i
    · subst hji
      rw [if_pos ⟨hdo.symm.trans hd, slotsOk_lt hok hd⟩]
      exact hr
    · rw [if_neg]
      · refine hm j (h.rel j d ?_ hd) hg
        rw [← hl]
        simp [Array.getElem?_setIfInBounds_ne (Ne.symm hji)]
      · rintro ⟨e, _⟩
        exact hji (slotsOk_ne hok hd (hdo.trans e))

/-- THE LAW. -/
theorem wp_region_rel (n : Nat) {id : Nat} {Q : Exit → Act → World → Prop} {a : Act} {w : World} (hm : P.follows .mixedOrders = true) (hn : a.tmps.size = n) (hok : slotsOk ops n = true)
    (G : World → World → Prop) (R : Nat → World → Value → Prop) (hr : ∀ w, G w w) (ht : ∀ {a b c}, G a b → G b c → G a c) (hmo : ∀ j {a b v}, R j a v → G a b → R j b v)
    (step : ∀ (i : Nat) (o : Oper), ops[i]? = some o → ∀ (f : Nat → Value) (w' : World), G w.drew w' → (∀ t, writes ops t = false → f t = a.tmps.getD t undef) →
      (∀ j d, depOn ops i j = true → dstOf ops j = some d → R j w' (f d)) → if Region.wanted o (yieldedF ops f) = true then Gives P o f w' (fun v w'' => G w' w'' ∧ R i w'' v) else R i w' undef)
    (fin : ∀ (f : Nat → Value) (w' : World), G w.drew w' → (∀ t, writes ops t = false → f t = a.tmps.getD t undef) → (∀ j d, dstOf ops j = some d → R j w' (f d)) → Q .normal ⟨((List.range n).map f).toArray, a.defers⟩ w') :
    (Code.region id ops true).wp P Q a w := by
  refine wp_region_any hm ?_
  have key : ∀ (fuel : Nat) (listed : Array Bool) (b : Act) (v : World), RInv ops G R a w.drew listed b v → ((List.range ops.size).countP (fun i => listed.getD i false == false)) ≤ fuel → wpAny P .any ops Q fuel listed b v := by
    intro fuel
    have done : ∀ (listed : Array Bool) (b : Act) (v : World), RInv ops G R a w.drew listed b v → Region.ready .any ops listed = [] → Q .normal b v := by
      intro listed b v h h0
      have all : ∀ i, i < ops.size → listed.getD i false = true := by
        intro i
        induction i using Nat.strongRecOn with
        | _ i ih =>
          intro hi
          cases hc : listed.getD i false with
          | true => rfl
          | false =>
            have hmem : i ∈ Region.ready .any ops listed := by
              refine mem_ready.2 ⟨?_, ops[i], by simp [hi], fun e he hb => ?_⟩
              · have : i < listed.size := by rw [h.lsize]; exact hi
                simp [this] at hc ⊢
                exact hc
              · have hlt := slotsOk_back hok (i := i) (o := ops[i]) (by simp [hi]) e he hb
                exact ih e.on hlt (by omega)
            rw [h0] at hmem; cases hmem
      have hb : b = ⟨((List.range n).map (fun t => b.tmps.getD t undef)).toArray, a.defers⟩ := by
        have hs : b.tmps.size = n := h.size.trans hn
        have e : b.tmps = ((List.range n).map (fun t => b.tmps.getD t undef)).toArray := by
          apply Array.ext
          · simp [hs]
          · intro i h1 h2
            simp [h1]
        rw [← h.defers, ← e]
      rw [hb]
      exact fin (fun t => b.tmps.getD t undef) v h.grow h.frame (fun j d hd => h.rel j d (all j (dstOf_lt hd)) hd)
    induction fuel with
    | zero =>
      intro listed b v h hc
      have h0 : Region.ready .any ops listed = [] := by
        apply List.eq_nil_iff_forall_not_mem.2
        intro i hi
        obtain ⟨h1, o, ho, _⟩ := mem_ready.1 hi
        have hlt : i < ops.size := (Array.getElem?_eq_some_iff.1 ho).1
        have h2 : listed.getD i false = false := by
          have : i < listed.size := by rw [h.lsize]; exact hlt
          simp [this] at h1 ⊢
          exact h1
        have := List.countP_eq_zero.1 (Nat.le_zero.1 hc) i (List.mem_range.2 hlt)
        rw [h2] at this
        exact this rfl
      exact ⟨h0, done listed b v h h0⟩
    | succ fuel ih =>
      intro listed b v h hc
      refine ⟨fun h0 => done listed b v h h0, fun i hi => ?_⟩
      obtain ⟨h1, o, ho, hall⟩ := mem_ready.1 hi
      have hlt : i < ops.size := (Array.getElem?_eq_some_iff.1 ho).1
      have hls : i < listed.size := by rw [h.lsize]; exact hlt
      have h2 : listed.getD i false = false := by
        simp [hls] at h1 ⊢
        exact h1
      have hcnt : (List.range ops.size).countP (fun k => (listed.setIfInBounds i true).getD k false == false) ≤ fuel := by
        have hsub : (List.range ops.size).countP (fun k => (listed.setIfInBounds i true).getD k false == false) < (List.range ops.size).countP (fun k => listed.getD k false == false) := by
          have gen : ∀ (l : List Nat), i ∈ l → l.countP (fun k => (listed.setIfInBounds i true).getD k false == false) < l.countP (fun k => listed.getD k false == false) := by
            have le : ∀ (l : List Nat), l.countP (fun k => (listed.setIfInBounds i true).getD k false == false) ≤ l.countP (fun k => listed.getD k false == false) := by
              intro l
              apply List.countP_mono_left
              intro k _ hk
              by_cases e : i = k
              · subst e; simp [hls] at hk
              · simpa [Array.getElem?_setIfInBounds_ne e] using hk
            intro l hl
            induction l with
            | nil => cases hl
            | cons k l ihl =>
              by_cases e : i = k
              · subst e
                have := le l
                have h2' : (listed.getD i false == false) = true := by rw [h2]; rfl
                rw [List.countP_cons_of_pos (p := fun k => listed.getD k false == false) (by exact h2'), List.countP_cons_of_neg (by simp [hls])]
                omega
              · have hl' : i ∈ l := by
                  rcases List.mem_cons.1 hl with h | h
                  · exact absurd h e
                  · exact h
                have := ihl hl'
                have e2 : (listed.setIfInBounds i true).getD k false = listed.getD k false := by simp [Array.getElem?_setIfInBounds_ne e]
                rw [List.countP_cons, List.countP_cons, e2]
                omega
          exact gen _ (List.mem_range.2 hlt)
        omega
      have hs := step i o ho (fun t => b.tmps.getD t undef) v h.grow h.frame (fun j d hj hd => by
        unfold depOn at hj
        rw [ho] at hj
        obtain ⟨q, hq, hb⟩ := Array.any_eq_true.1 hj
        have he : o.after[q] ∈ o.after := Array.getElem_mem hq
        generalize o.after[q] = e at he hb
        simp only [Bool.and_eq_true, beq_iff_eq] at hb
        have := hall e he hb.1
        rw [hb.2] at this
        exact h.rel j d this hd)
      unfold wpOp
      simp only [ho]
      rw [yielded_eqF hok b (h.size.trans hn)]
      split
      · rename_i hw
        rw [if_pos hw] at hs
        refine .inl (Gives.wp ?_)
        unfold Gives at hs ⊢
        generalize (execOp (evF fun t => b.tmps.getD t undef) o).run P v = r at hs
        cases r with
        | ok nx w' =>
          cases nx <;> simp only at hs ⊢
          case value u => exact ih _ _ _ (h.put ho hok hn ht hmo hs.1 hs.2 hlt) hcnt
          case skip => exact ih _ _ _ (h.put ho hok hn ht hmo hs.1 hs.2 hlt) hcnt
          case enter k args => exact Calls.mono hs fun e w'' ⟨u, he, hg, hR⟩ => ⟨u, he, ih _ _ _ (h.put ho hok hn ht hmo hg hR hlt) hcnt⟩
        | halt x w' => exact hs.elim
      · rename_i hw
        rw [if_neg hw] at hs
        exact ih _ _ _ (h.put ho hok hn ht hmo (hr v) hs hlt) hcnt
  refine key ops.size _ a _ ⟨hr _, rfl, rfl, by simp, fun t _ => rfl, fun j d hl hd => ?_⟩ ?_
  · have := dstOf_lt hd
    simp [this] at hl
  · refine Nat.le_trans List.countP_le_length ?_
    simp
end

/-! ### The relations as a list; the steps one by one -/
/-- A relation that stays true as the world grows. -/
structure Rl where
  R : World → Value → Prop
  mono : ∀ {a b : World} {v : Value}, R a v → Below a.heap.size a b → R b v
def Rl.eq (u : Value) : Rl := ⟨fun _ v => v = u, fun h _ => h⟩
def Rl.any : Rl := ⟨fun _ _ => True, fun h _ => h⟩
def relOf (l : List Rl) (i : Nat) : World → Value → Prop := (l.getD i Rl.any).R
def Gr (a b : World) : Prop := Below a.heap.size a b
theorem Gr.refl (a : World) : Gr a a := Below.refl _ _
theorem Gr.trans {a b c : World} (h : Gr a b) (k : Gr b c) : Gr a c := Below.trans h (Below.mono k h.size)
/-- Of each operation of the list, from number k on. -/
def AllFrom (Pr : Nat → Oper → Prop) : Nat → List Oper → Prop
  | _, [] => True
  | k, o :: l => Pr k o ∧ AllFrom Pr (k + 1) l
theorem AllFrom.nil_ {Pr : Nat → Oper → Prop} {k : Nat} : AllFrom Pr k [] := trivial
theorem AllFrom.cons_ {Pr : Nat → Oper → Prop} {k k' : Nat} {o : Oper} {l : List Oper} (hk : k' = k + 1) (h : Pr k o) (t : AllFrom Pr k' l) : AllFrom Pr k (o :: l) := by
  subst hk; exact ⟨h, t⟩
theorem AllFrom.out {Pr : Nat → Oper → Prop} : ∀ (l : List Oper) (k : Nat), AllFrom Pr k l → ∀ i o, l[i]? = some o → Pr (k + i) o
  | [], _, _, i, o, h => by simp at h
  | x :: l, k, h, 0, o, ho => by
    simp at ho; subst ho; exact h.1
  | x :: l, k, h, i + 1, o, ho => by
    have := AllFrom.out l (k + 1) h.2 i o (by simpa using ho)
    rwa [Nat.add_assoc, Nat.add_comm 1 i] at this
/-- One operation's step. -/
def Stp (P : Program) (ops : Array Oper) (a : Act) (W : World) (l : List Rl) (i : Nat) (o : Oper) : Prop :=
  ∀ (f : Nat → Value) (w : World), Gr W w → (∀ t, writes ops t = false → f t = a.tmps.getD t undef) →
      (∀ j d, depOn ops i j = true → dstOf ops j = some d → relOf l j w (f d)) → if Region.wanted o (yieldedF ops f) = true then Gives P o f w (fun v w'' => Gr w w'' ∧ relOf l i w'' v) else relOf l i w undef
theorem wp_region_rl {P : Program} (n : Nat) (l : List Rl) {id : Nat} {os : List Oper} {Q : Exit → Act → World → Prop} {a : Act} {w : World} (hm : P.follows .mixedOrders = true) (hn : a.tmps.size = n) (hok : slotsOk os.toArray n = true)
    (steps : AllFrom (Stp P os.toArray a w.drew l) 0 os)
    (fin : ∀ (f : Nat → Value) (w' : World), Gr w.drew w' → (∀ t, writes os.toArray t = false → f t = a.tmps.getD t undef) → (∀ j d, dstOf os.toArray j = some d → relOf l j w' (f d)) → Q .normal ⟨((List.range n).map f).toArray, a.defers⟩ w') :
    (Code.region id os.toArray true).wp P Q a w := by
  refine wp_region_rel n hm hn hok Gr (relOf l) Gr.refl Gr.trans (fun j _ _ _ h g => (l.getD j Rl.any).mono h g) (fun i o ho => ?_) fin
  have := AllFrom.out os 0 steps i o (by simpa using ho)
  rw [Nat.zero_add] at this
  exact this
theorem wanted_none {o : Oper} {y : Nat → Option Bool} (h : o.guard = none) : Region.wanted o y = true := by unfold Region.wanted; rw [h]
theorem wanted_some {ops : Array Oper} {o : Oper} {f : Nat → Value} {j : Nat} {b : Bool} {d : Tmp} (h : o.guard = some (j, b)) (hd : dstOf ops j = some d) (hf : f d = .bool b) : Region.wanted o (yieldedF ops f) = true := by
  unfold Region.wanted yieldedF; rw [h]; simp only [hd, hf, beq_self_eq_true]
theorem gives_val {P : Program} {o : Oper} {f : Nat → Value} {w w' : World} {v : Value} {K : Value → World → Prop} (h : (execOp (evF f) o).run P w = .ok (.value v) w') (hK : K v w') : Gives P o f w K := by
  unfold Gives; rw [h]; exact hK
theorem gives_call {P : Program} {o : Oper} {f : Nat → Value} {w w' : World} {k : FuncId} {args : Array Value} {K : Value → World → Prop} (h : (execOp (evF f) o).run P w = .ok (.enter k args) w') (hK : Calls P k args w' fun e w'' => ∃ v, e = .returned v ∧ K v w'') : Gives P o f w K := by
  unfold Gives; rw [h]; exact hK
/-- A call of a Go function with a body. -/
theorem gives_func {P : Program} {o : Oper} {f : Nat → Value} {w : World} {k : FuncId} {xs : Array Operand} {ats : Array TypeId} {fn : Func} {c : Code} {K : Value → World → Prop} (ho : o.op = .call { callee := .value (.func k), args := xs, argTypes := ats })
    (hf : P.funcs[k]? = some fn) (hname : (fn.name == "runtime.NumGoroutine") = false) (hb : fn.body = some c) {args : Array Value} (ha : xs.map (evF f) = args)
    (hK : Calls P k args w fun e w'' => ∃ v, e = .returned v ∧ K v w'') : Gives P o f w K := by
  subst ha
  refine gives_call (k := k) ?_ hK
  have h1 : fn.name ≠ "runtime.NumGoroutine" := by simpa using hname
  have e : execOp (evF f) o = callFunc k (#[] ++ xs.map (evF f) ++ #[]) := by
    unfold execOp; rw [ho]; rfl
  rw [e]
  simp [callFunc, hf, h1, hb]
/-- The slots of ws are written among these. -/
def putAll (f : Nat → Value) : List Nat → Array Value → Array Value
  | [], T => T
  | t :: l, T => putAll f l (T.setIfInBounds t (f t))
theorem putAll_size (f : Nat → Value) : ∀ (l : List Nat) (T : Array Value), (putAll f l T).size = T.size
  | [], _ => rfl
  | t :: l, T => by rw [putAll, putAll_size f l]; simp
theorem putAll_get (f : Nat → Value) : ∀ (l : List Nat) (T : Array Value) (t : Nat), t < T.size → (t ∈ l ∨ T.getD t undef = f t) → (putAll f l T).getD t undef = f t
  | [], _, _, _, h => by
    rcases h with h | h
    · cases h
    · exact h
  | x :: l, T, t, ht, h => by
    rw [putAll]
    refine putAll_get f l _ t (by simpa using ht) ?_
    by_cases e : x = t
    · subst e
      exact .inr (by simp [ht])
    · rcases h with h | h
      · rcases List.mem_cons.1 h with h | h
        · exact absurd h.symm e
        · exact .inl h
      · exact .inr (by rw [← h]; simp [Array.getElem?_setIfInBounds_ne e])
def allIn (ops : Array Oper) (ws : List Nat) : Bool := (List.range ops.size).all fun j => match dstOf ops j with | some d => ws.contains d | none => true
/-- THE LAW, the frame behind it told by the slots that are written. -/
theorem wp_region_rw {P : Program} (n : Nat) (l : List Rl) (ws : List Nat) {id : Nat} {os : List Oper} {Q : Exit → Act → World → Prop} {a : Act} {w : World} (hm : P.follows .mixedOrders = true) (hn : a.tmps.size = n) (hok : slotsOk os.toArray n = true) (hws : allIn os.toArray ws = true)
    (steps : AllFrom (Stp P os.toArray a w.drew l) 0 os)
    (fin : ∀ (f : Nat → Value) (w' : World), Gr w.drew w' → (∀ j d, dstOf os.toArray j = some d → relOf l j w' (f d)) → Q .normal ⟨putAll f ws a.tmps, a.defers⟩ w') :
    (Code.region id os.toArray true).wp P Q a w := by
  refine wp_region_rl n l hm hn hok steps (fun f w' g hF hD => ?_)
  have e : ((List.range n).map f).toArray = putAll f ws a.tmps := by
    apply Array.ext
    · rw [putAll_size, hn]; simp
    · intro t h1 h2
      have ht : t < n := by simpa using h1
      have h3 := putAll_get f ws a.tmps t (by rw [hn]; exact ht) (by
        by_cases hw : writes os.toArray t = true
        · left
          obtain ⟨j, hj, hd⟩ := List.any_eq_true.1 hw
          have hd := beq_iff_eq.1 hd
          have := List.all_eq_true.1 hws j hj
          rw [hd] at this
          simpa using this
        · right
          exact (hF t (by simpa using hw)).symm)
      have h4 : (putAll f ws a.tmps)[t] = f t := by
        rw [← h3]; simp [h2]
      rw [h4]; simp
  rw [e]
  exact fin f w' g hD
end Go.Proofs.Ytgnciejbhaebeaa

/- What keys.Encode answers: a batch's bytes in a version, or an error. Conditions: events that can be read; lengths that fit. -/
namespace Go.Proofs.Ytgnciejbhaebeaa
open Go Go.RowKit

theorem u64_wrap {n : Nat} (h : U64 n) : IntKind.u64.wrap (n : Int) = (n : Int) := by
  unfold U64 at h
  unfold IntKind.wrap
  simp [IntKind.bits, IntKind.signed]
  omega
/-- 'append(v, xs...)' on bytes, as a step of a region that draws. -/
theorem step_appB' {ops : Array Oper} {o : Oper} {a : Act} {w : World} {K : Act → World → Prop} {Q : Exit → Act → World → Prop} {E : Prop} (hgd : o.guard = none) (s x : Operand)
    (ho : o.op = .call { callee := .builtin .append, args := #[s, x], argTypes := #[27, 27] })
    (B : Nat) (v : Value) (bs : List UInt8) (hs : a.eval s = v) (hown : OwnB w B v bs)
    (A : Option Addr) (m c : Nat) (ns : List UInt8) (hx : a.eval x = .slice A m c) (hm : ns.length = m) (hr : Rd w A (ns.map bv))
    (hlen : bs.length + m ≤ 140737488355328) (hB : B ≤ w.heap.size)
    (h : ∀ v' w', Hid (OwnB w' B v' (bs ++ ns)) → Below B w w' → w.grownBy w' v.ownBlock → (v'.ownBlock = v.ownBlock ∨ v'.ownBlock = some w.heap.size) → K (a.put o.dst v') w') :
    if Region.wanted o (yielded ops a.tmps) = true then Oper.wp Try.prog o a w K Q else E := by
  rw [if_pos (wanted_none hgd)]
  obtain ⟨i0, hi, hz0, hz1, hz2⟩ := info_parts info_u8
  obtain ⟨v', w', hrun, h2, h3, h4⟩ := run_app (P := Try.prog) w B 27 o.type 5 i0 (.int .u8 0) 1 Try.underlying27 hi hz0 hz1 hz2 rfl v (bs.map bv) hown A m c (ns.map bv) (by simpa using hm) hr (bv_one _) (by simp only [List.length_map, maxLen]; omega) (by simp only [List.length_map]; omega) hB
  unfold Oper.wp execOp
  simp only [ho, resolve, invoke, builtin, Sem.run_bind, Sem.run_pure, Result.andThen_ok, List.map_toArray, List.map_cons, List.map_nil, hs, hx, hrun]
  exact h v' w' (Lib.hid (by simpa [OwnB] using h2)) ((Below.refl B w).grown h3 hB (fun k e => (Own.lt hown k e).1)) h3 h4

/-- Block g holds an event. -/
def Evx (w : World) (g K0 X Y Z : Nat) (At : Option Addr) (m cm : Nat) : Prop := w.heap[g]? = some (.cells #[.int .i64 (K0 : Int), .slice At m cm, .int .i64 (X : Int), .int .i64 (Y : Int), .int .i64 (Z : Int)] 36 (0, 0))
theorem Evx.five {w : World} {g K0 X Y Z m cm : Nat} {At : Option Addr} (h : Evx w g K0 X Y Z At m cm) : w.cell? ⟨g, 0, none⟩ = some (.int .i64 (K0 : Int)) ∧ w.cell? ⟨g, 1, none⟩ = some (.slice At m cm) ∧ w.cell? ⟨g, 2, none⟩ = some (.int .i64 (X : Int)) ∧ w.cell? ⟨g, 3, none⟩ = some (.int .i64 (Y : Int)) ∧ w.cell? ⟨g, 4, none⟩ = some (.int .i64 (Z : Int)) :=
  ⟨by rw [heap_cell h]; rfl, by rw [heap_cell h]; rfl, by rw [heap_cell h]; rfl, by rw [heap_cell h]; rfl, by rw [heap_cell h]; rfl⟩
theorem Evx.keep {w w' : World} {g K0 X Y Z m cm : Nat} {At : Option Addr} (h : Evx w g K0 X Y Z At m cm) (hb : w'.heap[g]? = w.heap[g]?) : Evx w' g K0 X Y Z At m cm := hb.trans h
theorem Evx.below {w w' : World} {g K0 X Y Z m cm : Nat} {At : Option Addr} (h : Evx w g K0 X Y Z At m cm) (hb : Below w.heap.size w w') : Evx w' g K0 X Y Z At m cm := h.keep (hb.block g (heap_lt h))
/-- The state of Encode's loop within a round: the bytes so far, the version's box, the event's box. -/
structure ES (w0 : World) (f : Bool) (g8 g11 K0 X Y Z : Nat) (At : Option Addr) (m cm : Nat) (w : World) (v : Value) (P : List UInt8) : Prop where
  own : OwnB w (g8 + 1) v P
  c8 : w.cell? ⟨g8, 0, none⟩ = some (.bool f)
  ev : Evx w g11 K0 X Y Z At m cm
  kb : Below w0.heap.size w0 w
  lo : w0.heap.size ≤ g8
  hi : g8 + 1 ≤ g11
  z : g11 + 1 ≤ w.heap.size
  ne : ∀ q, v.ownBlock = some q → q ≠ g11
section
variable {w0 w w' : World} {f : Bool} {g8 g11 K0 X Y Z m cm : Nat} {At : Option Addr} {v v' : Value} {P N : List UInt8}
theorem ES.call (h : ES w0 f g8 g11 K0 X Y Z At m cm w v P) (hb : Below w.heap.size w w') : ES w0 f g8 g11 K0 X Y Z At m cm w' v P :=
  ⟨Own.below h.own hb, (hb.cell (p := ⟨g8, 0, none⟩) (by have := h.hi; have := h.z; show g8 < _; omega)).trans h.c8, h.ev.below hb, h.kb.trans (hb.mono h.kb.size), h.lo, h.hi, Nat.le_trans h.z hb.size, h.ne⟩
theorem ES.drewN (h : ES w0 f g8 g11 K0 X Y Z At m cm w v P) (q : Nat) : ES w0 f g8 g11 K0 X Y Z At m cm (w.drewN q) v P :=
  ⟨h.own, h.c8, h.ev, below_drewN h.kb q, h.lo, h.hi, h.z, h.ne⟩
theorem ES.app (h : ES w0 f g8 g11 K0 X Y Z At m cm w v P) (ho : OwnB w' (g8 + 1) v' (P ++ N)) (hg : w.grownBy w' v.ownBlock) (hv : v'.ownBlock = v.ownBlock ∨ v'.ownBlock = some w.heap.size) : ES w0 f g8 g11 K0 X Y Z At m cm w' v' (P ++ N) := by
  have hlt := Own.lt h.own
  have hz := h.z
  have hh := h.hi
  have hlo := h.lo
  refine ⟨ho, hg.cell h.c8 (fun e => ?_), h.ev.keep (hg.block g11 (by omega) (fun e => ?_)), h.kb.grown hg h.kb.size (fun q e => ?_), h.lo, h.hi, Nat.le_trans hz hg.size, fun q e => ?_⟩
  · have := (hlt g8 e.symm).1; omega
  · exact h.ne g11 e.symm rfl
  · have := (hlt q e).1; omega
  · rcases hv with hv | hv
    · exact h.ne q (hv.symm.trans e)
    · rw [hv] at e; injection e with e; omega
theorem ES.cells (h : ES w0 f g8 g11 K0 X Y Z At m cm w v P) : w.cell? ⟨g8, 0, none⟩ = some (.bool f) ∧ w.cell? ⟨g11, 0, none⟩ = some (.int .i64 (K0 : Int)) ∧ w.cell? ⟨g11, 1, none⟩ = some (.slice At m cm) ∧ w.cell? ⟨g11, 2, none⟩ = some (.int .i64 (X : Int)) ∧ w.cell? ⟨g11, 3, none⟩ = some (.int .i64 (Y : Int)) ∧ w.cell? ⟨g11, 4, none⟩ = some (.int .i64 (Z : Int)) :=
  ⟨h.c8, h.ev.five⟩
theorem ES.cellsH (h : Hid (ES w0 f g8 g11 K0 X Y Z At m cm w v P)) : w.cell? ⟨g8, 0, none⟩ = some (.bool f) ∧ w.cell? ⟨g11, 0, none⟩ = some (.int .i64 (K0 : Int)) ∧ w.cell? ⟨g11, 1, none⟩ = some (.slice At m cm) ∧ w.cell? ⟨g11, 2, none⟩ = some (.int .i64 (X : Int)) ∧ w.cell? ⟨g11, 3, none⟩ = some (.int .i64 (Y : Int)) ∧ w.cell? ⟨g11, 4, none⟩ = some (.int .i64 (Z : Int)) := h.out.cells
end
theorem keep1 {g : Nat} {u : Value} {a b : World} (h : a.cell? ⟨g, 0, none⟩ = some u) (hb : Below (g + 1) a b) : b.cell? ⟨g, 0, none⟩ = some u :=
  (hb.cell (p := ⟨g, 0, none⟩) (Nat.lt_succ_self _)).trans h

set_option maxRecDepth 100000 in
set_option maxHeartbeats 4000000 in
theorem Encode_c (ok : Nat → Prop) (ver : Int) (base : Nat) (A : Option Addr) (n c : Nat) (ds : List EvV) (es : List Ev) (w : World) (hu : U64 base) (hn : es.length = n) (hr : EvsR ok w A ds es) (hl : n ≤ 140737488355328) :
    Calls Try.prog 19 #[.int .i64 ver, .int .u64 base, .slice A n c] w fun r w' => ∃ v, r = .returned (.tuple #[v, .int .i64 ((encE ver base es).2 : Int)]) ∧ OwnB w' w.heap.size v (encE ver base es).1 ∧ Below w.heap.size w w' := by
  have HN := Lib.hid hn; clear hn
  obtain ⟨L, er, eR⟩ : ∃ L er, encE ver base es = (L, er) := ⟨_, _, rfl⟩
  rw [eR]
  have ER := Lib.hid eR; clear eR
  show Calls _ _ _ _ fun r w' => ∃ v, r = .returned (.tuple #[v, .int .i64 (er : Int)]) ∧ OwnB w' w.heap.size v L ∧ Below w.heap.size w w'
  rcases Int.lt_or_le ver 1 with v1 | v1
  · have hR : encE ver base es = ([], 1) := by rw [encE, if_pos (.inl v1)]
    rw [ER.out] at hR
    injection hR with r1 r2
    subst r1 r2
    go_enter Try.func19, Try.ntmps19
    go_wp2_with (fail)
    go_ret2
    exact ⟨_, rfl, Own.nil_ _ _ _, Below.refl _ _⟩
  rcases Int.lt_or_le 3 ver with v3 | v3
  · have hR : encE ver base es = ([], 1) := by rw [encE, if_pos (.inr (.inl v3))]
    rw [ER.out] at hR
    injection hR with r1 r2
    subst r1 r2
    go_enter Try.func19, Try.ntmps19
    go_wp2_with (fail)
    go_ret2
    exact ⟨_, rfl, Own.nil_ _ _ _, Below.refl _ _⟩
  rcases Nat.eq_zero_or_pos n with h0 | h0
  · have hR : encE ver base es = ([], 1) := by rw [encE, if_pos (.inr (.inr (.inl (List.eq_nil_of_length_eq_zero (HN.out.trans h0)))))]
    rw [ER.out] at hR
    injection hR with r1 r2
    subst r1 r2 h0
    go_enter Try.func19, Try.ntmps19
    go_wp2_with (fail)
    go_ret2
    exact ⟨_, rfl, Own.nil_ _ _ _, Below.refl _ _⟩
  have hne : es ≠ [] := by intro e; have := HN.out; rw [e] at this; simp at this; omega
  have HNE := Lib.hid hne; clear hne
  have d1 : decide (ver < 1) = false := decide_eq_false (by omega)
  have d2 : decide (3 < ver) = false := decide_eq_false (by omega)
  have d3 : ((n : Int) == 0) = false := by rw [beq_eq_false_iff_ne]; omega
  obtain ⟨M, eM⟩ : ∃ M, M = es.all Ev.may := ⟨_, rfl⟩
  have EM := Lib.hid eM
  go_enter Try.func19, Try.ntmps19
  go_wp2_with (fail)
  refine (ContF_c ok A n c ds es w HN.out hr hl).mono ?_
  rintro r w1 ⟨rfl, kb1⟩
  rw [← eM]
  clear eM
  cases M with
  | false =>
    have hR : encE ver base es = ([], 1) := by rw [encE, if_pos (.inr (.inr (.inr EM.out.symm)))]
    rw [ER.out] at hR
    injection hR with r1 r2
    subst r1 r2
    go_wp2_with (fail)
    go_ret2
    exact ⟨_, rfl, Own.nil_ _ _ _, kb1⟩
  | true =>
    have hnb : ¬ (ver < 1 ∨ 3 < ver ∨ es = [] ∨ es.all Ev.may = false) := by
      rintro (h | h | h | h)
      · omega
      · omega
      · exact HNE.out h
      · rw [← EM.out] at h; cases h
    by_cases hbig : 16 < n
    · have hR : encE ver base es = ([], 4) := by rw [encE, if_neg hnb, if_pos (by rw [HN.out]; exact hbig)]
      rw [ER.out] at hR
      injection hR with r1 r2
      subst r1 r2
      have hbig' : (16 : Int) < (n : Int) := by omega
      clear hnb
      go_wp2_with (fail)
      go_ret2
      exact ⟨_, rfl, Own.nil_ _ _ _, kb1⟩
    · have hR : encE ver base es = (encL (decide (ver = 1)) base es, 0) := by rw [encE, if_neg hnb, if_neg (by rw [HN.out]; exact hbig)]
      rw [ER.out] at hR
      injection hR with r1 r2
      subst r2
      have hsm : n ≤ 16 := by omega
      have hsm' : (n : Int) ≤ 16 := by omega
      clear hbig hnb
      obtain ⟨f, ef⟩ : ∃ f, f = decide (ver = 1) := ⟨_, rfl⟩
      have efv : (ver == 1) = f := by rw [ef]; rfl
      rw [← ef] at r1
      have R1 := Lib.hid r1; clear r1 ef
      have wn := u64_wrap (u64_small (n := n) (by omega))
      have k2 := kb1.alloc kb1.size (.cells #[.bool f] 111)
      obtain ⟨w2, ew2⟩ : ∃ w2, w2 = w1.alloc (.cells #[.bool f] 111) := ⟨_, rfl⟩
      have c8 : w2.cell? ⟨w1.heap.size, 0, none⟩ = some (.bool f) := by rw [ew2, cell_of_row _ _ 0 _ _ (0, 0) (heap_alloc_new w1 _)]; rfl
      have s2 : w1.heap.size + 1 = w2.heap.size := by rw [ew2]; simp
      rw [← ew2] at k2
      obtain ⟨g8, eg8⟩ : ∃ g8, g8 = w1.heap.size := ⟨_, rfl⟩
      rw [← eg8] at c8 s2
      have hg8 : w.heap.size ≤ g8 := by rw [eg8]; exact kb1.size
      clear d1 d2 d3
      have HR := Lib.hid hr; clear hr
      go_wp2_with (fail)
      rw [← ew2, ← eg8]
      clear ew2 eg8
      have kr0 : Below w.heap.size w w2.drew := below_drewN k2 1
      have hu1 : U64 n := u64_small (by omega)
      go_region_held3 (fun w' => w'.cell? ⟨g8, 0, none⟩ = some (.bool f)) (first | exact c8 | exact keep1 (by with_reducible assumption) (by with_reducible assumption)) (first
        | (go_at_call 60; (with_reducible refine (put_c f base 8 _ hu).mono ?_); rintro _ w3 ⟨v3, rfl, ho3, hb3⟩; have hk3 : Below (g8 + 1) _ w3 := hb3.mono (Nat.le_of_eq s2); have HO3 : Hid (OwnB w3 (g8 + 1) v3 _) := Lib.hid (Own.low ho3 (Nat.le_of_eq s2)); have z3 : g8 + 1 ≤ w3.heap.size := Nat.le_trans (Nat.le_of_eq s2) hb3.size; clear ho3 hb3)
        | (go_at_call 60; (with_reducible refine (put_c f n 1 _ hu1).mono ?_); rintro _ w5 ⟨v5, rfl, ho5, hb5⟩; have hk5 : Below (g8 + 1) _ w5 := hb5.mono z3; have HO5 : Hid (OwnB w5 (g8 + 1) v3 _) := Lib.hid (Own.below (Own.drewN HO3.out 0) hb5); obtain ⟨A5, c5, rfl, _, _, r5, _⟩ := OwnB.form ho5; have R5 := Lib.hid r5; have z5 : g8 + 1 ≤ w5.heap.size := Nat.le_trans z3 hb5.size; clear ho5 hb5 r5)
        | ((refine step_appB' rfl (.tmp 37) (.tmp 42) rfl (g8 + 1) _ _ rfl HO5.out A5 _ c5 (putL f n 1) rfl rfl R5.out (by have := putL_le f base 8 hu; have := putL_le f n 1 hu1; omega) z5 ?_); intro v7 w7 HO7 hk7 hg7 _))
      have hlow : w.heap.size ≤ g8 + 1 := by omega
      have k7 : Below w.heap.size w w7 := ((kr0.trans (hk3.mono hlow)).trans (hk5.mono hlow)).trans (hk7.mono hlow)
      have c7 : w7.cell? ⟨g8, 0, none⟩ = some (.bool f) := keep1 (keep1 (keep1 (show w2.drew.cell? ⟨g8, 0, none⟩ = some (.bool f) from c8) hk3) hk5) hk7
      have z7 : g8 + 1 ≤ w7.heap.size := Nat.le_trans z5 hk7.size
      have HO : Hid (OwnB w7 (g8 + 1) v7 (preL f base n (es.take 0))) := by
        have : preL f base n (es.take 0) = putL f base 8 ++ putL f n 1 := by rw [List.take_zero, preL]; simp [evsL]
        rw [this]; exact HO7
      clear c8 kr0 hk3 HO3 z3 hk5 HO5 R5 z5 HO7 hk7 hg7 k2 s2 kb1
      have hr' : EvsR ok w A ds es := HR.out
      go_wp2_with (fail)
      go_loopw [9, 46] (fun vb i wr => ∃ (k : Nat), k ≤ n ∧ i = .int .i64 k ∧ Hid (OwnB wr (g8 + 1) vb (preL f base n (es.take k))) ∧ Hid (wr.cell? ⟨g8, 0, none⟩ = some (.bool f)) ∧ Below w.heap.size w wr ∧ g8 + 1 ≤ wr.heap.size) (fun _ i _ => n - (intOf i).toNat)
      case atStart => exact ⟨0, Nat.zero_le _, rfl, HO, Lib.hid c7, k7, z7⟩
      case round =>
        clear HO c7 k7 z7
        obtain ⟨k, hk, rfl, HO, C7, kb, z7⟩ := hrel
        have hpl := preL_le f base n (es.take k) hu hsm (all_take EM.out.symm k) (by rw [List.length_take]; omega)
        obtain ⟨P, eP⟩ : ∃ P, P = preL f base n (es.take k) := ⟨_, rfl⟩
        rw [← eP] at HO hpl
        have EP := Lib.hid eP; clear eP
        rcases Nat.lt_or_ge k n with hlt | hge
        · obtain ⟨e, b1, o1, At, m, cm, ee, rfl, hb1, -, tt, c0, ca, cb, cc, cd⟩ := hr'.at_ k (by rw [HN.out]; exact hlt)
          have hmay : e.may = true := by
            have := EM.out.symm
            rw [List.all_eq_true] at this
            rw [ee]
            exact this _ (List.getElem_mem _)
          obtain ⟨q0, q1, q2, q3, q4, q5, q6, q7⟩ := may_bounds hmay
          have hnext : preL f base n (es.take (k + 1)) = P ++ evL f e := by
            rw [EP.out, ee, preL, preL, evsL_take f es k (by rw [HN.out]; exact hlt)]; simp only [List.append_assoc]
          have HX := Lib.hid hnext; clear hnext ee hmay
          obtain ⟨t1, t2, t3, t4, -, t5⟩ := tt
          obtain ⟨z0, t, z2, z3, z4⟩ := e
          simp only at c0 ca cb cc cd t1 t2 q0 q1 q2 q3 q4 q5 q6 q7
          obtain ⟨K0, rfl⟩ : ∃ K0 : Nat, z0 = (K0 : Int) := ⟨z0.toNat, by omega⟩
          obtain ⟨X, rfl⟩ : ∃ X : Nat, z2 = (X : Int) := ⟨z2.toNat, by omega⟩
          obtain ⟨Y, rfl⟩ : ∃ Y : Nat, z3 = (Y : Int) := ⟨z3.toNat, by omega⟩
          obtain ⟨Z, rfl⟩ : ∃ Z : Nat, z4 = (Z : Int) := ⟨z4.toNat, by omega⟩
          rw [t1] at q1
          have T1 := Lib.hid t1; clear t1
          rw [← kb.cell (p := ⟨b1, _, none⟩) hb1] at c0 ca cb cc cd
          have uK : U64 K0 := u64_small (by omega)
          have uX : U64 X := u64_small (by omega)
          have uY : U64 Y := u64_small (by omega)
          have uZ : U64 Z := u64_small (by omega)
          have uM : U64 m := u64_small (by omega)
          have wK := u64_wrap uK
          have wX := u64_wrap uX
          have wY := u64_wrap uY
          have wZ := u64_wrap uZ
          have wM := u64_wrap uM
          have hlt' : (k : Int) < (n : Int) := by omega
          obtain ⟨wa, ewa⟩ : ∃ wa, wa = wr.alloc (.cells #[.int .i64 (K0 : Int), .slice At m cm, .int .i64 (X : Int), .int .i64 (Y : Int), .int .i64 (Z : Int)] 36) := ⟨_, rfl⟩
          obtain ⟨g11, eg⟩ : ∃ g11, g11 = wr.heap.size := ⟨_, rfl⟩
          have hga : wr.heap.size + 1 = wa.heap.size := by rw [ewa]; simp
          have ab : Below wr.heap.size wr wa := by rw [ewa]; exact (Below.refl _ _).alloc (Nat.le_refl _) _
          have ev : Evx wa g11 K0 X Y Z At m cm := by rw [ewa, eg]; exact heap_alloc_new wr _
          have c8 := (ab.cell (p := ⟨g8, 0, none⟩) (by show g8 < _; omega)).trans C7.out
          have HOa := Lib.hid (show OwnB wa (g8 + 1) _ P from Own.below HO.out ab)
          have ka := kb.trans (ab.mono kb.size)
          rw [← eg] at hga
          have hg11 : g8 + 1 ≤ g11 := by rw [eg]; exact z7
          have T2 := Lib.hid t2
          have EV := Lib.hid ev
          have EWA := Lib.hid ewa
          have EG := Lib.hid eg
          clear ab t2
          have c8a := c8
          rw [ewa] at c8a
          clear ewa eg ev
          go_wp2_with (fail)
          rw [← EG.out, ← EWA.out]
          have hES : ES w f g8 g11 K0 X Y Z At m cm wa u9 P := ⟨HOa.out, c8, EV.out, ka, hg8, hg11, Nat.le_of_eq hga, fun q eq => by have := (Own.lt HO.out q eq).2; have := EG.out; omega⟩
          have H2 := Lib.hid hES; clear hES
          clear c8a EWA EG HOa c8 EV ka hga hg11 HO
          refine (put_c f K0 1 wa uK).mono ?_
          rintro r w3 ⟨v3, rfl, ho3, hb3⟩
          obtain ⟨A3, c3, rfl, _, _, r3, _⟩ := OwnB.form ho3
          have H3 := Lib.hid (H2.out.call hb3)
          have R3 := Lib.hid r3
          have l3 := putL_le f K0 1 uK
          have s3 : g8 + 1 ≤ w3.heap.size := by have := H3.out.z; have := H3.out.hi; omega
          clear ho3 hb3 r3 H2
          go_wp2_with (first | (at_builtin; refine wpList_appB _ rfl (.tmp 50) (.tmp 55) rfl (g8 + 1) _ _ rfl H3.out.own A3 _ c3 (putL f K0 1) rfl rfl R3.out (by omega) s3 ?_; intro v4 w4 h4 hg4 hv4; have H4 := Lib.hid (H3.out.app h4 hg4 hv4); clear h4 hg4 hv4; obtain ⟨_, e0, -⟩ := H4.out.cells))
          refine (most_c (K0 : Int) w4).mono ?_
          rintro r w5 ⟨rfl, rfl⟩
          have HM : Hid (mostI (K0 : Int) = if (K0 : Int) = 1 then 8 else if (K0 : Int) = 2 then 64 else -1) := Lib.hid rfl
          have HEV : Hid (evL f ⟨(K0 : Int), t, (X : Int), (Y : Int), (Z : Int)⟩ = putL f K0 1 ++ (if (K0 : Int) = 1 ∨ (K0 : Int) = 2 then putL f m 1 ++ t else putL f X 1 ++ putL f Y 1 ++ (if (K0 : Int) = 3 then putL f Z 1 else []))) := Lib.hid (by unfold evL; simp only [Int.toNat_natCast, T1.out])
          generalize mostI (K0 : Int) = MM at HM ⊢
          have lM := putL_le f m 1 uM
          have lX := putL_le f X 1 uX
          have lY := putL_le f Y 1 uY
          have lZ := putL_le f Z 1 uZ
          have l4 : (P ++ putL f K0 1).length ≤ 2010 := by rw [List.length_append]; omega
          obtain ⟨P4, eP4⟩ : ∃ P4, P4 = P ++ putL f K0 1 := ⟨_, rfl⟩
          rw [← eP4] at H4 l4
          have hnx : preL f base n (es.take (k + 1)) = P4 ++ (if (K0 : Int) = 1 ∨ (K0 : Int) = 2 then putL f m 1 ++ t else putL f X 1 ++ putL f Y 1 ++ (if (K0 : Int) = 3 then putL f Z 1 else [])) := by rw [HX.out, HEV.out, eP4]; simp only [List.append_assoc]
          have HNX := Lib.hid hnx
          have HD4 := Lib.hid (H4.out.drewN 1)
          have s4 : g8 + 1 ≤ w4.heap.size := by have := H4.out.z; have := H4.out.hi; omega
          clear hnx eP4 HX HEV H3 R3 l3 s3 EP hpl e0 c0 ca cb cc cd
          rcases Nat.lt_or_ge 2 K0 with hK | hK
          · have hMM : MM = -1 := by rw [HM.out, if_neg (by omega), if_neg (by omega)]
            subst hMM
            have hnx := HNX.out
            rw [if_neg (by omega)] at hnx
            have HN2 := Lib.hid hnx; clear hnx HNX HM
            go_wp2_with (fail)
            go_region_held3 (fun w' => w'.cell? ⟨g8, 0, none⟩ = some (.bool f) ∧ w'.cell? ⟨g11, 0, none⟩ = some (.int .i64 (K0 : Int)) ∧ w'.cell? ⟨g11, 1, none⟩ = some (.slice At m cm) ∧ w'.cell? ⟨g11, 2, none⟩ = some (.int .i64 (X : Int)) ∧ w'.cell? ⟨g11, 3, none⟩ = some (.int .i64 (Y : Int)) ∧ w'.cell? ⟨g11, 4, none⟩ = some (.int .i64 (Z : Int))) (first | exact ES.cellsH (by with_reducible assumption) | exact HD4.out.cells) (first
              | (go_at_call 60; (with_reducible refine (put_c f X 1 _ uX).mono ?_); rintro _ w6 ⟨v6, rfl, ho6, hb6⟩; obtain ⟨A6, c6, rfl, _, _, r6, _⟩ := OwnB.form ho6; have H6 := Lib.hid (HD4.out.call hb6); have R6 := Lib.hid r6; have s6 : g8 + 1 ≤ w6.heap.size := Nat.le_trans s4 hb6.size; clear ho6 hb6 r6)
              | ((refine step_appB' rfl (.tmp 72) (.tmp 77) rfl (g8 + 1) _ _ rfl H6.out.own A6 _ c6 (putL f X 1) rfl rfl R6.out (by omega) s6 ?_); intro v7 w7 HO7 hk7 hg7 hv7; have H7 := Lib.hid (H6.out.app HO7.out hg7 hv7); have s7 : g8 + 1 ≤ w7.heap.size := Nat.le_trans s6 hk7.size; clear HO7 hk7 hg7 hv7)
              | (go_at_call 60; (with_reducible refine (put_c f Y 1 _ uY).mono ?_); rintro _ w8 ⟨v8, rfl, ho8, hb8⟩; obtain ⟨A8, c8', rfl, _, _, r8, _⟩ := OwnB.form ho8; have H8 := Lib.hid (H7.out.call hb8); have R8 := Lib.hid r8; have s8 : g8 + 1 ≤ w8.heap.size := Nat.le_trans s7 hb8.size; clear ho8 hb8 r8)
              | ((refine step_appB' rfl (.tmp 78) (.tmp 83) rfl (g8 + 1) _ _ rfl H8.out.own A8 _ c8' (putL f Y 1) rfl rfl R8.out (by rw [List.length_append]; omega) s8 ?_); intro v9 w9 HO9 hk9 hg9 hv9; have H9 := Lib.hid (H8.out.app HO9.out hg9 hv9); clear HO9 hk9 hg9 hv9))
            all_goals
              obtain ⟨P9, eP9⟩ : ∃ P9, P9 = P4 ++ putL f X 1 ++ putL f Y 1 := ⟨_, rfl⟩
              rw [← eP9] at H9
              have l9 : P9.length ≤ 2040 := by rw [eP9, List.length_append, List.length_append]; omega
              have hn9 : preL f base n (es.take (k + 1)) = P9 ++ (if (K0 : Int) = 3 then putL f Z 1 else []) := by
                rw [HN2.out, eP9]; simp only [List.append_assoc]
              have HN9 := Lib.hid hn9; clear hn9 eP9 HN2
              have s9 : g8 + 1 ≤ w9.heap.size := by have := H9.out.z; have := H9.out.hi; omega
              clear H6 H7 H8 R6 R8 s6 s7 s8 HD4 H4 s4
              obtain ⟨c8, e0, -, -, -, e4⟩ := H9.out.cells
              by_cases h3 : K0 = 3
              · have e3 : ((K0 : Int) == 3) = true := by rw [beq_iff_eq]; omega
                have hnx := HN9.out
                rw [if_pos (by omega)] at hnx
                have HNA := Lib.hid hnx; clear hnx HN9 h3
                go_wp2_with (fail)
                refine (put_c f Z 1 w9 uZ).mono ?_
                rintro r wb ⟨vb, rfl, hob, hbb⟩
                obtain ⟨Ab, cb, rfl, _, _, rb, _⟩ := OwnB.form hob
                have HB := Lib.hid (H9.out.call hbb)
                have RB := Lib.hid rb
                have sb : g8 + 1 ≤ wb.heap.size := Nat.le_trans s9 hbb.size
                clear hob hbb rb H9 c8 e0 e4
                go_wp2_with (first | (at_builtin; refine wpList_appB _ rfl (.tmp 88) (.tmp 93) rfl (g8 + 1) _ _ rfl HB.out.own Ab _ cb (putL f Z 1) rfl rfl RB.out (by omega) sb ?_; intro vd wd hd hgd hvd; have HDD := Lib.hid (HB.out.app hd hgd hvd); clear hd hgd hvd))
                have hfin : OwnB wd (g8 + 1) vd (preL f base n (es.take (k + 1))) := by
                  rw [HNA.out]; exact HDD.out.own
                have HFIN := Lib.hid hfin; clear hfin
                have s8 : g8 + 1 ≤ wd.heap.size := by have := HDD.out.z; have := HDD.out.hi; omega
                have C8 := Lib.hid HDD.out.c8
                have kb8 := HDD.out.kb
                go_roundw
                case rel => exact ⟨k + 1, by omega, by go_num, HFIN, C8, kb8, s8⟩
                case measure => simp [intOf]; omega
              · have e3 : ((K0 : Int) == 3) = false := by rw [beq_eq_false_iff_ne]; omega
                have hnx := HN9.out
                rw [if_neg (by omega), List.append_nil] at hnx
                have HNA := Lib.hid hnx; clear hnx HN9 h3
                have hfin : OwnB w9 (g8 + 1) v9 (preL f base n (es.take (k + 1))) := by
                  rw [HNA.out]; exact H9.out.own
                have HFIN := Lib.hid hfin; clear hfin
                have C8 := Lib.hid H9.out.c8
                have kb8 := H9.out.kb
                clear e4 c8
                go_wp2_with (fail)
                go_roundw
                case rel => exact ⟨k + 1, by omega, by go_num, HFIN, C8, kb8, s9⟩
                case measure => simp [intOf]; omega
          · have hMM : 0 ≤ MM := by
              rw [HM.out]
              split
              · decide
              · rw [if_pos (by omega)]; decide
            have hnx := HNX.out
            rw [if_pos (by omega)] at hnx
            have HN2 := Lib.hid hnx; clear hnx HNX HM
            go_wp2_with (fail)
            go_region_held3 (fun w' => w'.cell? ⟨g8, 0, none⟩ = some (.bool f) ∧ w'.cell? ⟨g11, 0, none⟩ = some (.int .i64 (K0 : Int)) ∧ w'.cell? ⟨g11, 1, none⟩ = some (.slice At m cm) ∧ w'.cell? ⟨g11, 2, none⟩ = some (.int .i64 (X : Int)) ∧ w'.cell? ⟨g11, 3, none⟩ = some (.int .i64 (Y : Int)) ∧ w'.cell? ⟨g11, 4, none⟩ = some (.int .i64 (Z : Int))) (first | exact ES.cellsH (by with_reducible assumption) | exact HD4.out.cells) (first
              | (go_at_call 60; (with_reducible refine (put_c f m 1 _ uM).mono ?_); rintro _ w6 ⟨v6, rfl, ho6, hb6⟩; obtain ⟨A6, c6, rfl, _, _, r6, _⟩ := OwnB.form ho6; have H6 := Lib.hid (HD4.out.call hb6); have R6 := Lib.hid r6; have s6 : g8 + 1 ≤ w6.heap.size := Nat.le_trans s4 hb6.size; clear ho6 hb6 r6)
              | ((refine step_appB' rfl (.tmp 61) (.tmp 67) rfl (g8 + 1) _ _ rfl H6.out.own A6 _ c6 (putL f m 1) rfl rfl R6.out (by omega) s6 ?_); intro v7 w7 HO7 hk7 hg7 hv7; have H7 := Lib.hid (H6.out.app HO7.out hg7 hv7); have s7 : g8 + 1 ≤ w7.heap.size := Nat.le_trans s6 hk7.size; clear HO7 hk7 hg7 hv7)
              | ((refine step_appB' rfl (.tmp 68) (.tmp 70) rfl (g8 + 1) _ _ rfl H7.out.own At m cm t rfl T1.out (T2.out.below H7.out.kb) (by rw [List.length_append]; omega) s7 ?_); intro v8 w8 HO8 hk8 hg8' hv8; have H8 := Lib.hid (H7.out.app HO8.out hg8' hv8); clear HO8 hk8 hg8' hv8))
            all_goals
              have hfin : OwnB w8 (g8 + 1) v8 (preL f base n (es.take (k + 1))) := by
                rw [HN2.out, ← List.append_assoc]; exact H8.out.own
              have HFIN := Lib.hid hfin; clear hfin
              have s8 : g8 + 1 ≤ w8.heap.size := by have := H8.out.z; have := H8.out.hi; omega
              have C8 := Lib.hid H8.out.c8
              have kb8 := H8.out.kb
              clear H6 H7 H8 R6 s6 s7 HD4 H4 s4 HN2
              go_wp2_with (fail)
              go_roundw
              case rel => exact ⟨k + 1, by omega, by go_num, HFIN, C8, kb8, s8⟩
              case measure => simp [intOf]; omega
        · obtain rfl : n = k := by omega
          have hfin : OwnB wr w.heap.size u9 L := by
            have h := HO.out
            rw [EP.out, ← HN.out, List.take_length] at h
            rw [R1.out]
            exact Own.low h (by omega)
          have HFIN := Lib.hid hfin; clear hfin HO EP hpl
          go_wp2_with (fail)
          go_ret2
          exact ⟨_, rfl, HFIN.out, kb⟩
end Go.Proofs.Ytgnciejbhaebeaa

/- A region that draws its order and whose last operation waits for all others: the others by relations, the last one at the end. Conditions: each slot is written once; no operation ahead of the last one panics. -/
namespace Go.Proofs.Ytgnciejbhaebeaa
open Go Go.RowKit

/-- A value built of parts. -/
theorem gives_build {P : Program} {o : Oper} {f : Nat → Value} {w : World} {K : Value → World → Prop} (t : TypeId) (parts : Array (Nat × Operand)) (ho : o.op = .build t parts) (cells : Array Value)
    (hf : P.built t (parts.map fun (i, x) => (i, evF f x)).toList = some cells) (hK : K (.agg cells) w) : Gives P o f w K := by
  refine gives_val (v := .agg cells) ?_ hK
  unfold execOp
  simp only [ho]
  rw [Sem.run_bind, run_build w t _ cells hf]
  rfl

/-- A row of cells loaded whole. -/
theorem gives_load_row {P : Program} {o : Oper} {f : Nat → Value} {w : World} {K : Value → World → Prop} (ty : TypeId) (x : Operand) (ho : o.op = .load ty x)
    (g : Nat) (hx : evF f x = .pointer (some ⟨g, 0, none⟩)) (t : TypeId) (cs : Array Value) (fr : Nat × Nat) (d : TypeDesc) (hg : w.heap[g]? = some (.cells cs t fr))
    (hu : P.underlying ty = some d) (hd : (match d with | .struct _ | .array _ _ => true | _ => false) = true) (hi : (P.info? ty).map (·.size) = some cs.size) (hK : K (.agg cs) w) : Gives P o f w K := by
  refine gives_val (v := .agg cs) ?_ hK
  unfold execOp
  simp only [ho, hx, Instr.loadAt, Instr.sureAddr, Sem.run_bind, Sem.run_pure, Result.andThen_ok, run_loadVar_row w g t ty cs fr d hg hu hd hi]

/-- The operations that these wait for. -/
def ups (ops : Array Oper) : Nat → List Nat → List Nat
  | 0, S => S
  | k + 1, S => ups ops k (S ++ (List.range ops.size).filter (fun j => S.any (fun i => depOn ops i j) && !S.contains j))
def waitsAll (ops : Array Oper) (m : Nat) : Bool := (List.range m).all (fun j => (ups ops m [m]).contains j)
theorem ups_in (ops : Array Oper) (T : Nat → Prop) (hc : ∀ i j, T i → depOn ops i j = true → T j) : ∀ (k : Nat) (S : List Nat), (∀ j ∈ S, T j) → ∀ j ∈ ups ops k S, T j
  | 0, _, h, j, hj => h j hj
  | k + 1, S, h, j, hj => by
    refine ups_in ops T hc k _ (fun x hx => ?_) j hj
    rcases List.mem_append.1 hx with hx | hx
    · exact h x hx
    · have h1 := (List.mem_filter.1 hx).2
      simp only [Bool.and_eq_true, List.any_eq_true] at h1
      obtain ⟨⟨i, hi, hd⟩, _⟩ := h1
      exact hc i x (h i hi) hd

section
variable {P : Program} {ops : Array Oper} {G : World → World → Prop} {R : Nat → World → Value → Prop} {a0 : Act} {W0 : World}
theorem wp_region_rel_last (n m : Nat) {id : Nat} {Q : Exit → Act → World → Prop} {a : Act} {w : World} (hm : P.follows .mixedOrders = true) (hn : a.tmps.size = n) (hok : slotsOk ops n = true)
    (hsz : ops.size = m + 1) (hwa : waitsAll ops m = true) (ol : Oper) (hol : ops[m]? = some ol) (hgd : ol.guard = none)
    (G : World → World → Prop) (R : Nat → World → Value → Prop) (hr : ∀ w, G w w) (ht : ∀ {a b c}, G a b → G b c → G a c) (hmo : ∀ j {a b v}, R j a v → G a b → R j b v)
    (step : ∀ (i : Nat) (o : Oper), i < m → ops[i]? = some o → ∀ (f : Nat → Value) (w' : World), G w.drew w' → (∀ t, writes ops t = false → f t = a.tmps.getD t undef) →
      (∀ j d, depOn ops i j = true → dstOf ops j = some d → R j w' (f d)) → if Region.wanted o (yieldedF ops f) = true then Gives P o f w' (fun v w'' => G w' w'' ∧ R i w'' v) else R i w' undef)
    (fin : ∀ (f : Nat → Value) (w' : World), G w.drew w' → (∀ t, writes ops t = false → f t = a.tmps.getD t undef) → (∀ j d, j < m → dstOf ops j = some d → R j w' (f d)) → wpList P ops Q [ol] ⟨((List.range n).map f).toArray, a.defers⟩ w') :
    (Code.region id ops true).wp P Q a w := by
  refine wp_region_any hm ?_
  have fulls : ∀ (listed : Array Bool), (∀ i, i < ops.size → listed.getD i false = true) → listed.size = ops.size → Region.ready .any ops listed = [] := by
    intro listed hall hls
    apply List.eq_nil_iff_forall_not_mem.2
    intro i hi
    obtain ⟨h1, o, ho, _⟩ := mem_ready.1 hi
    have hlt : i < ops.size := (Array.getElem?_eq_some_iff.1 ho).1
    have h2 := hall i hlt
    have : i < listed.size := by rw [hls]; exact hlt
    simp [this] at h1 h2
    rw [h1] at h2; cases h2
  have full : ∀ (fuel : Nat) (listed : Array Bool) (b : Act) (v : World), (∀ i, i < ops.size → listed.getD i false = true) → listed.size = ops.size → Q .normal b v → wpAny P .any ops Q fuel listed b v := by
    intro fuel listed b v hall hls hq
    have h0 := fulls listed hall hls
    cases fuel with
    | zero => exact ⟨h0, hq⟩
    | succ k => exact ⟨fun _ => hq, fun i hi => by rw [h0] at hi; cases hi⟩
  have key : ∀ (fuel : Nat) (listed : Array Bool) (b : Act) (v : World), RInv ops G R a w.drew listed b v → (∀ i j, listed.getD i false = true → depOn ops i j = true → listed.getD j false = true) → listed.getD m false = false →
      ((List.range ops.size).countP (fun i => listed.getD i false == false)) ≤ fuel → wpAny P .any ops Q fuel listed b v := by
    have mready : ∀ (listed : Array Bool), listed.size = ops.size → listed.getD m false = false → Region.ready .any ops listed ≠ [] := by
      intro listed hls hml h0
      have all : ∀ i, i < ops.size → listed.getD i false = true := by
        intro i
        induction i using Nat.strongRecOn with
        | _ i ih =>
          intro hi
          cases hc : listed.getD i false with
          | true => rfl
          | false =>
            have hmem : i ∈ Region.ready .any ops listed := by
              refine mem_ready.2 ⟨?_, ops[i], by simp [hi], fun e he hb => ?_⟩
              · have : i < listed.size := by rw [hls]; exact hi
                simp [this] at hc ⊢
                exact hc
              · have hlt := slotsOk_back hok (i := i) (o := ops[i]) (by simp [hi]) e he hb
                exact ih e.on hlt (by omega)
            rw [h0] at hmem; cases hmem
      have := all m (by omega)
      rw [hml] at this; cases this
    intro fuel
    induction fuel with
    | zero =>
      intro listed b v h _ hml hc
      have := List.countP_eq_zero.1 (Nat.le_zero.1 hc) m (List.mem_range.2 (by omega))
      rw [hml] at this
      exact absurd rfl this
    | succ fuel ih =>
      intro listed b v h hcl hml hc
      refine ⟨fun h0 => absurd h0 (mready listed h.lsize hml), fun i hi => ?_⟩
      obtain ⟨h1, o, ho, hall⟩ := mem_ready.1 hi
      have hlt : i < ops.size := (Array.getElem?_eq_some_iff.1 ho).1
      have hls : i < listed.size := by rw [h.lsize]; exact hlt
      have h2 : listed.getD i false = false := by
        simp [hls] at h1 ⊢
        exact h1
      have hdep : ∀ j, depOn ops i j = true → listed.getD j false = true := by
        intro j hj
        unfold depOn at hj
        rw [ho] at hj
        obtain ⟨q, hq, hb⟩ := Array.any_eq_true.1 hj
        have he : o.after[q] ∈ o.after := Array.getElem_mem hq
        generalize o.after[q] = e at he hb
        simp only [Bool.and_eq_true, beq_iff_eq] at hb
        have := hall e he hb.1
        rw [hb.2] at this
        exact this
      have hcl' : ∀ p j, (listed.setIfInBounds i true).getD p false = true → depOn ops p j = true → (listed.setIfInBounds i true).getD j false = true := by
        intro p j hp hd
        have h3 : listed.getD j false = true := by
          by_cases e : i = p
          · subst e; exact hdep j hd
          · exact hcl p j (by rw [← hp]; simp [Array.getElem?_setIfInBounds_ne e]) hd
        by_cases e : i = j
        · subst e; simp [hls]
        · rw [← h3]; simp [Array.getElem?_setIfInBounds_ne e]
      have hcnt : (List.range ops.size).countP (fun k => (listed.setIfInBounds i true).getD k false == false) ≤ fuel := by
        have hsub : (List.range ops.size).countP (fun k => (listed.setIfInBounds i true).getD k false == false) < (List.range ops.size).countP (fun k => listed.getD k false == false) := by
          have gen : ∀ (l : List Nat), i ∈ l → l.countP (fun k => (listed.setIfInBounds i true).getD k false == false) < l.countP (fun k => listed.getD k false == false) := by
            have le : ∀ (l : List Nat), l.countP (fun k => (listed.setIfInBounds i true).getD k false == false) ≤ l.countP (fun k => listed.getD k false == false) := by
              intro l
              apply List.countP_mono_left
              intro k _ hk
              by_cases e : i = k
              · subst e; simp [hls] at hk
              · simpa [Array.getElem?_setIfInBounds_ne e] using hk
            intro l hl
            induction l with
            | nil => cases hl
            | cons k l ihl =>
              by_cases e : i = k
              · subst e
                have := le l
                have h2' : (listed.getD i false == false) = true := by rw [h2]; rfl
                rw [List.countP_cons_of_pos (p := fun k => listed.getD k false == false) (by exact h2'), List.countP_cons_of_neg (by simp [hls])]
                omega
              · have hl' : i ∈ l := by
                  rcases List.mem_cons.1 hl with h | h
                  · exact absurd h e
                  · exact h
                have := ihl hl'
                have e2 : (listed.setIfInBounds i true).getD k false = listed.getD k false := by simp [Array.getElem?_setIfInBounds_ne e]
                rw [List.countP_cons, List.countP_cons, e2]
                omega
          exact gen _ (List.mem_range.2 hlt)
        omega
      by_cases him : i = m
      · -- the last one
        subst him
        rw [hol] at ho
        injection ho with ho
        subst ho
        have others : ∀ j, j < i → listed.getD j false = true := by
          intro j hj
          have h4 := List.all_eq_true.1 hwa j (List.mem_range.2 hj)
          have h5 := ups_in ops (fun x => x = i ∨ listed.getD x false = true) (fun p q hp hd => by
            rcases hp with rfl | hp
            · exact .inr (hdep q hd)
            · exact .inr (hcl p q hp hd)) i [i] (fun x hx => .inl (by simpa using hx)) j (by simpa using h4)
          rcases h5 with h5 | h5
          · omega
          · exact h5
        have hallL : ∀ k, k < ops.size → (listed.setIfInBounds i true).getD k false = true := by
          intro k hk
          by_cases e : i = k
          · subst e; simp [hls]
          · rw [← others k (by omega)]; simp [Array.getElem?_setIfInBounds_ne e]
        have hb : b = ⟨((List.range n).map (fun t => b.tmps.getD t undef)).toArray, a.defers⟩ := by
          have hs : b.tmps.size = n := h.size.trans hn
          have e : b.tmps = ((List.range n).map (fun t => b.tmps.getD t undef)).toArray := by
            apply Array.ext
            · simp [hs]
            · intro i h1 h2
              simp [h1]
          rw [← h.defers, ← e]
        have hf := fin (fun t => b.tmps.getD t undef) v h.grow h.frame (fun j d hj hd => h.rel j d (others j hj) hd)
        rw [← hb] at hf
        unfold wpOp
        simp only [hol]
        unfold wpList at hf
        rw [if_pos (wanted_none hgd)] at hf ⊢
        exact hf.imp (Oper.wp_mono (fun b' v' hq => full fuel _ b' v' hallL (by simp [h.lsize]) hq)) (fun h => h)
      · have hml' : (listed.setIfInBounds i true).getD m false = false := by
          have e : (listed.setIfInBounds i true).getD m false = listed.getD m false := by simp [Array.getElem?_setIfInBounds_ne him]
          rw [e]; exact hml
        have hs := step i o (by omega) ho (fun t => b.tmps.getD t undef) v h.grow h.frame (fun j d hj hd => h.rel j d (hdep j hj) hd)
        unfold wpOp
        simp only [ho]
        rw [yielded_eqF hok b (h.size.trans hn)]
        split
        · rename_i hw
          rw [if_pos hw] at hs
          refine .inl (Gives.wp ?_)
          unfold Gives at hs ⊢
          generalize (execOp (evF fun t => b.tmps.getD t undef) o).run P v = r at hs
          cases r with
          | ok nx w' =>
            cases nx <;> simp only at hs ⊢
            case value u => exact ih _ _ _ (h.put ho hok hn ht hmo hs.1 hs.2 hlt) hcl' hml' hcnt
            case skip => exact ih _ _ _ (h.put ho hok hn ht hmo hs.1 hs.2 hlt) hcl' hml' hcnt
            case enter k args => exact Calls.mono hs fun e w'' ⟨u, he, hg, hR⟩ => ⟨u, he, ih _ _ _ (h.put ho hok hn ht hmo hg hR hlt) hcl' hml' hcnt⟩
          | halt x w' => exact hs.elim
        · rename_i hw
          rw [if_neg hw] at hs
          exact ih _ _ _ (h.put ho hok hn ht hmo (hr v) hs hlt) hcl' hml' hcnt
  have none0 : ∀ i, (Array.replicate ops.size false).getD i false = false := by
    intro i
    by_cases h : i < ops.size
    · simp [h]
    · simp [h]
  refine key ops.size _ a _ ⟨hr _, rfl, rfl, by simp, fun t _ => rfl, fun j d hl hd => ?_⟩ (fun i j hi _ => ?_) (none0 m) ?_
  · rw [none0] at hl; cases hl
  · rw [none0] at hi; cases hi
  · refine Nat.le_trans List.countP_le_length ?_
    simp
end

theorem AllFrom.outlt {Pr : Nat → Oper → Prop} (l l2 : List Oper) (h : AllFrom Pr 0 l) : ∀ i o, i < l.length → (l ++ l2)[i]? = some o → Pr i o := by
  intro i o hi ho
  rw [List.getElem?_append_left hi] at ho
  have := AllFrom.out l 0 h i o ho
  rwa [Nat.zero_add] at this
/-- THE LAW, the last operation apart: the frame told by the slots that are written. -/
theorem wp_region_rs {P : Program} (n m : Nat) (l : List Rl) (ws : List Nat) {id : Nat} {os : List Oper} {Q : Exit → Act → World → Prop} {a : Act} {w : World} (hm : P.follows .mixedOrders = true) (hn : a.tmps.size = n) (hok : slotsOk os.toArray n = true) (hws : allIn os.toArray ws = true)
    (o : Oper) (hos : os = os.take m ++ [o]) (hml : (os.take m).length = m) (hwa : waitsAll os.toArray m = true) (hgd : o.guard = none)
    (steps : AllFrom (Stp P os.toArray a w.drew l) 0 (os.take m))
    (fin : ∀ (f : Nat → Value) (w' : World), Gr w.drew w' → (∀ j d, j < m → dstOf os.toArray j = some d → relOf l j w' (f d)) → (∀ t, writes os.toArray t = false → f t = a.tmps.getD t undef) → wpList P os.toArray Q [o] ⟨putAll f ws a.tmps, a.defers⟩ w') :
    (Code.region id os.toArray true).wp P Q a w := by
  have hl : os.length = m + 1 := by rw [hos, List.length_append, hml]; rfl
  refine wp_region_rel_last n m hm hn hok (by simpa using hl) hwa o (by rw [List.getElem?_toArray, hos, List.getElem?_append_right (by omega), hml]; simp) hgd Gr (relOf l) Gr.refl Gr.trans (fun j _ _ _ h g => (l.getD j Rl.any).mono h g) (fun i o' hi ho => ?_) (fun f w' g hF hD => ?_)
  · refine AllFrom.outlt (os.take m) [o] steps i o' (by omega) ?_
    rw [← hos]
    simpa using ho
  · have e : ((List.range n).map f).toArray = putAll f ws a.tmps := by
      apply Array.ext
      · rw [putAll_size, hn]; simp
      · intro t h1 h2
        have ht : t < n := by simpa using h1
        have h3 := putAll_get f ws a.tmps t (by rw [hn]; exact ht) (by
          by_cases hw : writes os.toArray t = true
          · left
            obtain ⟨j, hj, hd⟩ := List.any_eq_true.1 hw
            have hd := beq_iff_eq.1 hd
            have := List.all_eq_true.1 hws j hj
            rw [hd] at this
            simpa using this
          · right
            exact (hF t (by simpa using hw)).symm)
        have h4 : (putAll f ws a.tmps)[t] = f t := by
          rw [← h3]; simp [h2]
        rw [h4]; simp
    rw [e]
    exact fin f w' g hD hF
end Go.Proofs.Ytgnciejbhaebeaa

/- A region that draws its order and ends in a tail that waits for all others: the others by relations, the tail one behind the other. Conditions: each slot is written once; no operation ahead of the tail panics. -/
namespace Go.Proofs.Ytgnciejbhaebeaa
open Go Go.RowKit

/-- Slots that operations ahead of number m write. -/
def writesTo (ops : Array Oper) (m t : Nat) : Bool := (List.range m).any (fun j => dstOf ops j == some t)
structure RInvT (ops : Array Oper) (m : Nat) (G : World → World → Prop) (R : Nat → World → Value → Prop) (a0 : Act) (W0 : World) (listed : Array Bool) (a : Act) (w : World) : Prop where
  grow : G W0 w
  defers : a.defers = a0.defers
  size : a.tmps.size = a0.tmps.size
  lsize : listed.size = ops.size
  frame : ∀ t, writesTo ops m t = false → a.tmps.getD t undef = a0.tmps.getD t undef
  rel : ∀ j d, listed.getD j false = true → dstOf ops j = some d → R j w (a.tmps.getD d undef)
theorem RInvT.put {ops : Array Oper} {m : Nat} {G : World → World → Prop} {R : Nat → World → Value → Prop} {a0 : Act} {W0 : World} {listed : Array Bool} {a : Act} {w w' : World} {i : Nat} {o : Oper} {v : Value} {n : Nat} (him : i < m) (ho : ops[i]? = some o) (hok : slotsOk ops n = true) (hn : a0.tmps.size = n) (h : RInvT ops m G R a0 W0 listed a w)
    (ht : ∀ {a b c}, G a b → G b c → G a c) (hm : ∀ j {a b v}, R j a v → G a b → R j b v) (hg : G w w') (hr : R i w' v) (hi : i < ops.size) : RInvT ops m G R a0 W0 (listed.setIfInBounds i true) (a.put o.dst v) w' := by
  have hdo : dstOf ops i = o.dst := by unfold dstOf; rw [ho]; rfl
  have get : ∀ t, (a.put o.dst v).tmps.getD t undef = if o.dst = some t ∧ t < n then v else a.tmps.getD t undef := by
    intro t
    unfold Act.put
    cases hd : o.dst with
    | none => simp
    | some d =>
      by_cases e : d = t
      · subst e
        have hlt : d < n := slotsOk_lt hok (hdo.trans hd)
        have hlt2 : d < a.tmps.size := by rw [h.size, hn]; exact hlt
        simp [hlt, hlt2]
      · simp [e, Array.getElem?_setIfInBounds_ne e]
  refine ⟨ht h.grow hg, ?_, ?_, by simp [h.lsize], fun t hw => ?_, fun j d hl hd => ?_⟩
  · rw [← h.defers]; unfold Act.put; cases o.dst <;> rfl
  · rw [← h.size]; unfold Act.put; cases o.dst <;> simp
  · rw [get, if_neg, h.frame t hw]
    rintro ⟨e, _⟩
    have : writesTo ops m t = true := List.any_eq_true.2 ⟨i, List.mem_range.2 him, by rw [hdo, e]; exact beq_self_eq_true _⟩
    rw [hw] at this; cases this
  · rw [get]
    by_cases hji : j = i
    · subst hji
      rw [if_pos ⟨hdo.symm.trans hd, slotsOk_lt hok hd⟩]
      exact hr
    · rw [if_neg]
      · refine hm j (h.rel j d ?_ hd) hg
        rw [← hl]
        simp [Array.getElem?_setIfInBounds_ne (Ne.symm hji)]
      · rintro ⟨e, _⟩
        exact hji (slotsOk_ne hok hd (hdo.trans e))
/-- One operation's step, ahead of the tail. -/
def StpT (P : Program) (ops : Array Oper) (m : Nat) (a : Act) (W : World) (l : List Rl) (i : Nat) (o : Oper) : Prop :=
  ∀ (f : Nat → Value) (w : World), Gr W w → (∀ t, writesTo ops m t = false → f t = a.tmps.getD t undef) →
      (∀ j d, depOn ops i j = true → dstOf ops j = some d → relOf l j w (f d)) → if Region.wanted o (yieldedF ops f) = true then Gives P o f w (fun v w'' => Gr w w'' ∧ relOf l i w'' v) else relOf l i w undef

/-- From m on each operation waits for the one ahead of it. -/
def chained (ops : Array Oper) (m : Nat) : Bool := (List.range ops.size).all (fun j => decide (j ≤ m) || depOn ops j (j - 1))
section
variable {P : Program} {ops : Array Oper} {Q : Exit → Act → World → Prop}
theorem not_ready_of {listed : Array Bool} {i : Nat} (hi : i ∈ Region.ready .any ops listed) : ∀ j, depOn ops i j = true → listed.getD j false = true := by
  obtain ⟨h1, o, ho, hall⟩ := mem_ready.1 hi
  intro j hj
  unfold depOn at hj
  rw [ho] at hj
  obtain ⟨q, hq, hb⟩ := Array.any_eq_true.1 hj
  have he : o.after[q] ∈ o.after := Array.getElem_mem hq
  generalize o.after[q] = e at he hb
  simp only [Bool.and_eq_true, beq_iff_eq] at hb
  have := hall e he hb.1
  rw [hb.2] at this
  exact this
theorem ready_open {listed : Array Bool} {i : Nat} (hls : listed.size = ops.size) (hi : i ∈ Region.ready .any ops listed) : listed.getD i false = false ∧ i < ops.size := by
  obtain ⟨h1, o, ho, _⟩ := mem_ready.1 hi
  have hlt : i < ops.size := (Array.getElem?_eq_some_iff.1 ho).1
  have : i < listed.size := by rw [hls]; exact hlt
  simp [this] at h1 ⊢
  exact ⟨h1, hlt⟩
theorem ready_mk {n : Nat} (hok : slotsOk ops n = true) {listed : Array Bool} (hls : listed.size = ops.size) {i : Nat} (hi : i < ops.size) (h0 : listed.getD i false = false) (hall : ∀ j, j < i → listed.getD j false = true) : i ∈ Region.ready .any ops listed := by
  refine mem_ready.2 ⟨?_, ops[i], by simp [hi], fun e he hb => ?_⟩
  · have : i < listed.size := by rw [hls]; exact hi
    simp [this] at h0 ⊢
    exact h0
  · have hlt := slotsOk_back hok (i := i) (o := ops[i]) (by simp [hi]) e he hb
    exact hall e.on hlt
theorem set_get (listed : Array Bool) (i j : Nat) (hls : i < listed.size) : (listed.setIfInBounds i true).getD j false = if i = j then true else listed.getD j false := by
  split
  · rename_i e; subst e; simp [hls]
  · rename_i e; simp [Array.getElem?_setIfInBounds_ne e]

theorem tailAny {n m : Nat} (hok : slotsOk ops n = true) (hch : chained ops m = true) : ∀ (r fuel : Nat) (listed : Array Bool) (b : Act) (v : World), listed.size = ops.size → r ≤ ops.size → m ≤ ops.size - r →
    (∀ i, i < ops.size → (listed.getD i false = true ↔ i < ops.size - r)) → r ≤ fuel → wpList P ops Q (ops.toList.drop (ops.size - r)) b v → wpAny P .any ops Q fuel listed b v := by
  intro r
  induction r with
  | zero =>
    intro fuel listed b v hls _ _ hl _ hq
    have h0 : Region.ready .any ops listed = [] := by
      apply List.eq_nil_iff_forall_not_mem.2
      intro i hi
      obtain ⟨h1, h2⟩ := ready_open hls hi
      have := (hl i h2).2 (by omega)
      rw [h1] at this; cases this
    have hq' : Q .normal b v := by
      rw [Nat.sub_zero, List.drop_of_length_le (by simp)] at hq
      exact hq
    cases fuel with
    | zero => exact ⟨h0, hq'⟩
    | succ k => exact ⟨fun _ => hq', fun i hi => by rw [h0] at hi; cases hi⟩
  | succ r ih =>
    intro fuel listed b v hls hr hm hl hf hq
    obtain ⟨j, ej⟩ : ∃ j, j = ops.size - (r + 1) := ⟨_, rfl⟩
    have hj : j < ops.size := by omega
    have hj0 : listed.getD j false = false := by
      cases h : listed.getD j false
      · rfl
      · have := (hl j hj).1 h; omega
    have hjr : j ∈ Region.ready .any ops listed := ready_mk hok hls hj hj0 (fun i hi => (hl i (by omega)).2 (by omega))
    cases fuel with
    | zero => omega
    | succ k =>
      refine ⟨fun h0 => (by rw [h0] at hjr; cases hjr), fun i hi => ?_⟩
      obtain ⟨h1, h2⟩ := ready_open hls hi
      have hij : i = j := by
        have hge : j ≤ i := by
          rcases Nat.lt_or_ge i j with h | h
          · have := (hl i h2).2 (by omega)
            rw [h1] at this; cases this
          · exact h
        rcases Nat.eq_or_lt_of_le hge with h | h
        · exact h.symm
        · have h3 := List.all_eq_true.1 hch i (List.mem_range.2 h2)
          simp only [Bool.or_eq_true, decide_eq_true_eq] at h3
          rcases h3 with h3 | h3
          · omega
          · have h4 := not_ready_of hi (i - 1) h3
            have := (hl (i - 1) (by omega)).1 h4
            omega
      subst hij
      have hd : ops.toList.drop i = ops[i] :: ops.toList.drop (i + 1) := by
        rw [List.drop_eq_getElem_cons (by simpa using hj)]
        simp
      rw [← ej, hd] at hq
      have hw : wpOp P ops Q i (wpList P ops Q (ops.toList.drop (i + 1))) b v := by
        unfold wpOp
        rw [Array.getElem?_eq_getElem hj]
        exact hq
      refine wpOp_mono (fun b' v' hq' => ih k _ b' v' (by simpa using hls) (by omega) (by omega) (fun q hqs => ?_) (by omega) ?_) hw
      · rw [set_get _ _ _ (by rw [hls]; exact hj)]
        split
        · simp; omega
        · rw [hl q hqs]; omega
      · rw [show ops.size - r = i + 1 by omega]; exact hq'

variable {G : World → World → Prop} {R : Nat → World → Value → Prop} {a0 : Act} {W0 : World}
theorem wp_region_rel_tail (n m : Nat) {id : Nat} {a : Act} {w : World} (hm : P.follows .mixedOrders = true) (hn : a.tmps.size = n) (hok : slotsOk ops n = true)
    (hsz : m < ops.size) (hwa : waitsAll ops m = true) (hch : chained ops m = true)
    (G : World → World → Prop) (R : Nat → World → Value → Prop) (hr : ∀ w, G w w) (ht : ∀ {a b c}, G a b → G b c → G a c) (hmo : ∀ j {a b v}, R j a v → G a b → R j b v)
    (step : ∀ (i : Nat) (o : Oper), i < m → ops[i]? = some o → ∀ (f : Nat → Value) (w' : World), G w.drew w' → (∀ t, writesTo ops m t = false → f t = a.tmps.getD t undef) →
      (∀ j d, depOn ops i j = true → dstOf ops j = some d → R j w' (f d)) → if Region.wanted o (yieldedF ops f) = true then Gives P o f w' (fun v w'' => G w' w'' ∧ R i w'' v) else R i w' undef)
    (fin : ∀ (f : Nat → Value) (w' : World), G w.drew w' → (∀ t, writesTo ops m t = false → f t = a.tmps.getD t undef) → (∀ j d, j < m → dstOf ops j = some d → R j w' (f d)) → wpList P ops Q (ops.toList.drop m) ⟨((List.range n).map f).toArray, a.defers⟩ w') :
    (Code.region id ops true).wp P Q a w := by
  refine wp_region_any hm ?_
  have key : ∀ (fuel : Nat) (listed : Array Bool) (b : Act) (v : World), RInvT ops m G R a w.drew listed b v → (∀ i j, listed.getD i false = true → depOn ops i j = true → listed.getD j false = true) → (∀ i, m ≤ i → i < ops.size → listed.getD i false = false) →
      ((List.range ops.size).countP (fun i => listed.getD i false == false)) ≤ fuel → wpAny P .any ops Q fuel listed b v := by
    intro fuel
    induction fuel with
    | zero =>
      intro listed b v h _ hml hc
      have := List.countP_eq_zero.1 (Nat.le_zero.1 hc) m (List.mem_range.2 hsz)
      rw [hml m (Nat.le_refl _) hsz] at this
      exact absurd rfl this
    | succ fuel ih =>
      intro listed b v h hcl hml hc
      by_cases hall : ∀ i, i < m → listed.getD i false = true
      · have hcount : ops.size - m ≤ fuel + 1 := by
          refine Nat.le_trans ?_ hc
          have e : (List.range ops.size) = List.range m ++ (List.range (ops.size - m)).map (m + ·) := by
            rw [← List.range_add]; congr 1; omega
          rw [e, List.countP_append]
          have : ((List.range (ops.size - m)).map (m + ·)).countP (fun i => listed.getD i false == false) = ops.size - m := by
            rw [List.countP_eq_length.2]
            · simp
            · intro i hi
              obtain ⟨q, hq, rfl⟩ := List.mem_map.1 hi
              have := List.mem_range.1 hq
              rw [hml (m + q) (by omega) (by omega)]
              rfl
          omega
        have hb : b = ⟨((List.range n).map (fun t => b.tmps.getD t undef)).toArray, a.defers⟩ := by
          have hs : b.tmps.size = n := h.size.trans hn
          have e : b.tmps = ((List.range n).map (fun t => b.tmps.getD t undef)).toArray := by
            apply Array.ext
            · simp [hs]
            · intro i h1 h2
              simp [h1]
          rw [← h.defers, ← e]
        have hf := fin (fun t => b.tmps.getD t undef) v h.grow h.frame (fun j d hj hd => h.rel j d (hall j hj) hd)
        rw [← hb] at hf
        have e1 : ops.size - (ops.size - m) = m := by omega
        refine tailAny hok hch (ops.size - m) (fuel + 1) listed b v h.lsize (by omega) (by omega) (fun i hi => ?_) hcount (by rw [e1]; exact hf)
        rw [e1]
        constructor
        · intro h1
          rcases Nat.lt_or_ge i m with h2 | h2
          · exact h2
          · rw [hml i h2 hi] at h1; cases h1
        · exact hall i
      · have lessm : ∀ i, i ∈ Region.ready .any ops listed → i < m := by
          intro i hi
          obtain ⟨h1, h2⟩ := ready_open h.lsize hi
          rcases Nat.lt_trichotomy i m with h3 | h3 | h3
          · exact h3
          · exfalso
            subst h3
            apply hall
            intro j hj
            have h4 := List.all_eq_true.1 hwa j (List.mem_range.2 hj)
            have h5 := ups_in ops (fun x => x = i ∨ listed.getD x false = true) (fun p q hp hd => by
              rcases hp with rfl | hp
              · exact .inr (not_ready_of hi q hd)
              · exact .inr (hcl p q hp hd)) i [i] (fun x hx => .inl (by simpa using hx)) j (by simpa using h4)
            rcases h5 with h5 | h5
            · omega
            · exact h5
          · have h4 := List.all_eq_true.1 hch i (List.mem_range.2 h2)
            simp only [Bool.or_eq_true, decide_eq_true_eq] at h4
            rcases h4 with h4 | h4
            · omega
            · have h5 := not_ready_of hi (i - 1) h4
              rw [hml (i - 1) (by omega) (by omega)] at h5; cases h5
        refine ⟨fun h0 => ?_, fun i hi => ?_⟩
        · exfalso
          apply hall
          intro i
          induction i using Nat.strongRecOn with
          | _ i ih2 =>
            intro hi
            cases hc2 : listed.getD i false with
            | true => rfl
            | false =>
              have := ready_mk hok h.lsize (by omega : i < ops.size) hc2 (fun j hj => ih2 j hj (by omega))
              rw [h0] at this; cases this
        · have him := lessm i hi
          obtain ⟨h2, hlt⟩ := ready_open h.lsize hi
          obtain ⟨h1, o, ho, _⟩ := mem_ready.1 hi
          have hls : i < listed.size := by rw [h.lsize]; exact hlt
          have hdep := not_ready_of hi
          have hcl' : ∀ p j, (listed.setIfInBounds i true).getD p false = true → depOn ops p j = true → (listed.setIfInBounds i true).getD j false = true := by
            intro p j hp hd
            rw [set_get _ _ _ hls] at hp ⊢
            split
            · rfl
            · split at hp
              · rename_i e; subst e; exact hdep j hd
              · exact hcl p j hp hd
          have hml' : ∀ q, m ≤ q → q < ops.size → (listed.setIfInBounds i true).getD q false = false := by
            intro q h3 h4
            rw [set_get _ _ _ hls, if_neg (by omega)]
            exact hml q h3 h4
          have hcnt : (List.range ops.size).countP (fun k => (listed.setIfInBounds i true).getD k false == false) ≤ fuel := by
            have gen : ∀ (l : List Nat), i ∈ l → l.countP (fun k => (listed.setIfInBounds i true).getD k false == false) < l.countP (fun k => listed.getD k false == false) := by
              have le : ∀ (l : List Nat), l.countP (fun k => (listed.setIfInBounds i true).getD k false == false) ≤ l.countP (fun k => listed.getD k false == false) := by
                intro l
                apply List.countP_mono_left
                intro k _ hk
                rw [set_get _ _ _ hls] at hk
                split at hk
                · cases hk
                · exact hk
              intro l hl
              induction l with
              | nil => cases hl
              | cons k l ihl =>
                by_cases e : i = k
                · subst e
                  have := le l
                  have h2' : (listed.getD i false == false) = true := by rw [h2]; rfl
                  rw [List.countP_cons_of_pos (p := fun k => listed.getD k false == false) (by exact h2'), List.countP_cons_of_neg (by simp [hls])]
                  omega
                · have hl' : i ∈ l := by
                    rcases List.mem_cons.1 hl with h | h
                    · exact absurd h e
                    · exact h
                  have := ihl hl'
                  have e2 : (listed.setIfInBounds i true).getD k false = listed.getD k false := by rw [set_get _ _ _ hls, if_neg e]
                  rw [List.countP_cons, List.countP_cons, e2]
                  omega
            have := gen _ (List.mem_range.2 hlt)
            omega
          have hs := step i o him ho (fun t => b.tmps.getD t undef) v h.grow h.frame (fun j d hj hd => h.rel j d (hdep j hj) hd)
          unfold wpOp
          simp only [ho]
          rw [yielded_eqF hok b (h.size.trans hn)]
          split
          · rename_i hw
            rw [if_pos hw] at hs
            refine .inl (Gives.wp ?_)
            unfold Gives at hs ⊢
            generalize (execOp (evF fun t => b.tmps.getD t undef) o).run P v = r at hs
            cases r with
            | ok nx w' =>
              cases nx <;> simp only at hs ⊢
              case value u => exact ih _ _ _ (h.put him ho hok hn ht hmo hs.1 hs.2 hlt) hcl' hml' hcnt
              case skip => exact ih _ _ _ (h.put him ho hok hn ht hmo hs.1 hs.2 hlt) hcl' hml' hcnt
              case enter k args => exact Calls.mono hs fun e w'' ⟨u, he, hg, hR⟩ => ⟨u, he, ih _ _ _ (h.put him ho hok hn ht hmo hg hR hlt) hcl' hml' hcnt⟩
            | halt x w' => exact hs.elim
          · rename_i hw
            rw [if_neg hw] at hs
            exact ih _ _ _ (h.put him ho hok hn ht hmo (hr v) hs hlt) hcl' hml' hcnt
  have none0 : ∀ i, (Array.replicate ops.size false).getD i false = false := by
    intro i
    by_cases h : i < ops.size
    · simp [h]
    · simp [h]
  refine key ops.size _ a _ ⟨hr _, rfl, rfl, by simp, fun t _ => rfl, fun j d hl hd => ?_⟩ (fun i j hi _ => ?_) (fun i _ _ => none0 i) ?_
  · rw [none0] at hl; cases hl
  · rw [none0] at hi; cases hi
  · refine Nat.le_trans List.countP_le_length ?_
    simp
end

theorem AllFrom.outT {Pr : Nat → Oper → Prop} (l : List Oper) (m : Nat) (h : AllFrom Pr 0 (l.take m)) : ∀ i o, i < m → l[i]? = some o → Pr i o := by
  intro i o hi ho
  have h2 : (l.take m)[i]? = some o := by rw [List.getElem?_take, if_pos hi]; exact ho
  have := AllFrom.out _ 0 h i o h2
  rwa [Nat.zero_add] at this
/-- THE LAW, the tail apart: the frame told by the slots that are written. -/
theorem wp_region_rt {P : Program} (n m : Nat) (l : List Rl) (ws : List Nat) {id : Nat} {os : List Oper} {Q : Exit → Act → World → Prop} {a : Act} {w : World} (hm : P.follows .mixedOrders = true) (hn : a.tmps.size = n) (hok : slotsOk os.toArray n = true) (hws : allIn os.toArray ws = true)
    (hsz : m < os.toArray.size) (hwa : waitsAll os.toArray m = true) (hch : chained os.toArray m = true)
    (steps : AllFrom (StpT P os.toArray m a w.drew l) 0 (os.take m))
    (fin : ∀ (f : Nat → Value) (w' : World), Gr w.drew w' → (∀ j d, j < m → dstOf os.toArray j = some d → relOf l j w' (f d)) → wpList P os.toArray Q (os.drop m) ⟨putAll f ws a.tmps, a.defers⟩ w') :
    (Code.region id os.toArray true).wp P Q a w := by
  refine wp_region_rel_tail n m hm hn hok hsz hwa hch Gr (relOf l) Gr.refl Gr.trans (fun j _ _ _ h g => (l.getD j Rl.any).mono h g) (fun i o' hi ho => ?_) (fun f w' g hF hD => ?_)
  · exact AllFrom.outT os m steps i o' hi (by simpa using ho)
  · have e : ((List.range n).map f).toArray = putAll f ws a.tmps := by
      apply Array.ext
      · rw [putAll_size, hn]; simp
      · intro t h1 h2
        have ht : t < n := by simpa using h1
        have h3 := putAll_get f ws a.tmps t (by rw [hn]; exact ht) (by
          by_cases hw : writesTo os.toArray m t = true
          · left
            obtain ⟨j, hj, hd⟩ := List.any_eq_true.1 hw
            have hd := beq_iff_eq.1 hd
            have := List.all_eq_true.1 hws j (List.mem_range.2 (by have := List.mem_range.1 hj; omega))
            rw [hd] at this
            simpa using this
          · right
            exact (hF t (by simpa using hw)).symm)
        have h4 : (putAll f ws a.tmps)[t] = f t := by
          rw [← h3]; simp [h2]
        rw [h4]; simp
    rw [e]
    simpa using fin f w' g hD
/-- A slice of n bytes at a row's head. -/
def Rl.rdb (n : Nat) (bs : List UInt8) : Rl := ⟨fun w v => ∃ g, v = .slice (some ⟨g, 0, none⟩) n n ∧ Rd w (some ⟨g, 0, none⟩) (bs.map bv), fun ⟨g, h, r⟩ hb => ⟨g, h, r.below hb⟩⟩
theorem rdb_lit (w : World) (bs : List UInt8) (n : Nat) (t : TypeId) : (Rl.rdb n bs).R (w.alloc (.cells (bs.map bv).toArray t)) (.slice (some ⟨w.heap.size, 0, none⟩) n n) := ⟨_, rfl, Rd.lit w _ t⟩
end Go.Proofs.Ytgnciejbhaebeaa
