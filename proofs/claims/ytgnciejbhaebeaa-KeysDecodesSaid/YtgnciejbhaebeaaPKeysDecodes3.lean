/- Parts one behind the other: What keys.numbers.put and the reference's lay answer: a number in a version's way; and which event may not be; Rows of events that the call itself makes: appended, made, stored into; What slices.Clone, keys.clone and the reference's Copy answer of events: the same events in memory of one's own; The bytes of a batch of events, in plain words; What an inbox and a nil queue answer; What keys.numbers.event answers: an event read, or an error; The world within the reference's reading of an event; What the reference's event answers: no kind; What the reference's event answers: a text. Conditions: as told at each. -/
import Derived.Test.YtgnciejbhaebeaaPKeysDecodes2
import Derived.Test.YtgnciejbhaebeaaPKeysDecodes1
import Derived.Deep.RegionHeld3
import Derived.BigRegion

/- What keys.numbers.put and the reference's lay answer: a number in a version's way; and which event may not be. Conditions: events that can be read. -/
namespace Go.Proofs.Ytgnciejbhaebeaa
open Go Go.RowKit

def putL (f : Bool) (n : Nat) (size : Int) : List UInt8 := if f then numLI n size else varL n

set_option maxRecDepth 100000 in
set_option maxHeartbeats 1000000 in
theorem put_c (f : Bool) (n : Nat) (size : Int) (w : World) (hn : U64 n) :
    Calls Try.prog 60 #[.agg #[.bool f], .int .u64 n, .int .i64 size] w fun r w' => ∃ v, r = .returned v ∧ OwnB w' w.heap.size v (putL f n size) ∧ Below w.heap.size w w' := by
  have k0 : Below w.heap.size w (w.alloc (.cells #[.bool f] 111)) := (Below.refl _ _).alloc (Nat.le_refl _) _
  cases f
  · go_enter Try.func60, Try.ntmps60
    go_wp2_with (fail)
    refine (Var_c n _ hn).mono ?_
    rintro r w1 ⟨v, rfl, ho, hb⟩
    have HO := Lib.hid ho; clear ho
    go_wp2_with (fail)
    go_ret
    exact ⟨_, rfl, Own.low HO.out k0.size, k0.trans (hb.mono k0.size)⟩
  · go_enter Try.func60, Try.ntmps60
    go_wp2_with (fail)
    refine (Num_c n size _ hn).mono ?_
    rintro r w1 ⟨v, rfl, ho, hb⟩
    have HO := Lib.hid ho; clear ho
    go_wp2_with (fail)
    go_ret
    exact ⟨_, rfl, Own.low HO.out k0.size, k0.trans (hb.mono k0.size)⟩

set_option maxRecDepth 100000 in
set_option maxHeartbeats 1000000 in
theorem lay24_c (ver : Int) (n : Nat) (size : Int) (w : World) (hn : U64 n) :
    Calls Try.prog 62 #[.int .i64 ver, .int .u64 n, .int .i64 size] w fun r w' => ∃ v, r = .returned v ∧ OwnB w' w.heap.size v (putL (decide (ver = 1)) n size) ∧ Below w.heap.size w w' := by
  by_cases h1 : ver = 1
  · subst h1
    go_enter Try.func62, Try.ntmps62
    go_wp2_with (fail)
    refine (refNum_c n size _ hn).mono ?_
    rintro r w1 ⟨v, rfl, ho, hb⟩
    have HO := Lib.hid ho; clear ho
    go_wp2_with (fail)
    go_ret
    exact ⟨_, rfl, HO.out, hb⟩
  · have e1 : (ver == 1) = false := by rw [beq_eq_false_iff_ne]; exact h1
    have e2 : decide (ver = 1) = false := decide_eq_false h1
    have E2 := Lib.hid e2; clear e2 h1
    go_enter Try.func62, Try.ntmps62
    go_wp2_with (fail)
    refine (refVar_c n _ hn).mono ?_
    rintro r w1 ⟨v, rfl, ho, hb⟩
    have HO := Lib.hid ho; clear ho
    go_wp2_with (fail)
    go_ret
    exact ⟨_, rfl, by rw [E2.out]; exact HO.out, hb⟩

def mostI (k : Int) : Int := if k = 1 then 8 else if k = 2 then 64 else -1
set_option maxRecDepth 100000 in
theorem most_c (k : Int) (w : World) : Calls Try.prog 61 #[.int .i64 k] w fun r w' => r = .returned (.int .i64 (mostI k)) ∧ w = w' := by
  by_cases h1 : k = 1
  · subst h1
    go_enter Try.func61, Try.ntmps61
    go_wp2
    go_ret
    exact ⟨rfl, rfl⟩
  · by_cases h2 : k = 2
    · subst h2
      go_enter Try.func61, Try.ntmps61
      go_wp2
      go_ret
      exact ⟨rfl, rfl⟩
    · have e1 : (k == 1) = false := by rw [beq_eq_false_iff_ne]; exact h1
      have e2 : (k == 2) = false := by rw [beq_eq_false_iff_ne]; exact h2
      have e3 : mostI k = -1 := by rw [mostI, if_neg h1, if_neg h2]
      rw [e3]
      clear e3 h1 h2
      go_enter Try.func61, Try.ntmps61
      go_wp2
      go_ret
      exact ⟨rfl, rfl⟩

set_option maxRecDepth 100000 in
theorem Enc1_c (k x y b : Int) (A : Option Addr) (n c : Nat) (w : World) :
    Calls Try.prog 59 #[.agg #[.int .i64 k, .slice A n c, .int .i64 x, .int .i64 y, .int .i64 b]] w fun r w' => r = .returned (.bool (!(mayB k x y b n))) ∧ Below w.heap.size w w' := by
  have k0 : Below w.heap.size w (w.alloc (.cells #[.int .i64 k, .slice A n c, .int .i64 x, .int .i64 y, .int .i64 b] 36)) := (Below.refl _ _).alloc (Nat.le_refl _) _
  go_enter Try.func59, Try.ntmps59
  go_wp2_with (fail)
  refine (May_c k x y b A n c _).mono ?_
  rintro r w1 ⟨rfl, hb⟩
  obtain ⟨m, em⟩ : ∃ m, m = mayB k x y b n := ⟨_, rfl⟩
  rw [← em]
  have EM := Lib.hid em; clear em
  cases m <;> (go_wp2_with (fail); go_ret; exact ⟨by rw [← EM.out] <;> rfl, k0.trans (hb.mono k0.size)⟩)

/-- The first event that may not be; -1: there is none. -/
def badGo : Nat → List Ev → Int
  | _, [] => -1
  | k, e :: es => if e.may then badGo (k + 1) es else k
theorem badGo_neg : ∀ (es : List Ev) (k : Nat), (0 ≤ badGo k es) ↔ es.all Ev.may = false
  | [], k => by simp [badGo]
  | e :: es, k => by
    rw [badGo, List.all_cons]
    cases h : e.may
    · simp
    · simpa using badGo_neg es (k + 1)

set_option maxRecDepth 100000 in
set_option maxHeartbeats 2000000 in
theorem IndexF_c (ok : Nat → Prop) (A : Option Addr) (n c : Nat) (ds : List EvV) (es : List Ev) (w : World) (hn : es.length = n) (hr : EvsR ok w A ds es) (hl : n ≤ 140737488355328) :
    Calls Try.prog 82 #[.slice A n c, .func (.func 59) #[] #[]] w fun r w' => r = .returned (.int .i64 (badGo 0 es)) ∧ Below w.heap.size w w' := by
  have HN := Lib.hid hn; clear hn
  obtain ⟨R, eR⟩ : ∃ R, R = badGo 0 es := ⟨_, rfl⟩
  rw [← eR]
  have ER := Lib.hid eR; clear eR
  go_enter Try.func82, Try.ntmps82
  go_wp2_with (fail)
  go_loopw [8] (fun i wr => ∃ (k : Nat), k ≤ n ∧ i = .int .i64 k ∧ Hid (badGo 0 es = badGo k (es.drop k)) ∧ Below w.heap.size w wr) (fun i _ => n - (intOf i).toNat)
  case atStart => exact ⟨0, Nat.zero_le _, rfl, Lib.hid (by rw [List.drop_zero]), Below.refl _ _⟩
  case round =>
    obtain ⟨k, hk, rfl, HG, kb⟩ := hrel
    rcases Nat.lt_or_ge k n with hlt | hge
    · obtain ⟨e, b1, o1, At, m, cm, ee, rfl, hb1, -, tt, c0, ca, cb, cc, cd⟩ := hr.at_ k (by rw [HN.out]; exact hlt)
      obtain ⟨t1, -⟩ := tt
      have hd : es.drop k = es[k]'(by rw [HN.out]; exact hlt) :: es.drop (k + 1) := List.drop_eq_getElem_cons (by rw [HN.out]; exact hlt)
      rw [← ee] at hd
      have hmay : e.may = mayB e.k e.x e.y e.b m := by rw [Ev.may, t1]
      have hg := HG.out
      rw [hd, badGo, hmay] at hg
      have HG2 := Lib.hid hg; clear hg HG hd hmay ee t1
      obtain ⟨z0, t, z2, z3, z4⟩ := e
      simp only at c0 ca cb cc cd HG2
      rw [← kb.cell (p := ⟨b1, _, none⟩) hb1] at c0 ca cb cc cd
      have hlt' : (k : Int) < (n : Int) := by omega
      go_wp2_with (fail)
      refine (Enc1_c z0 z2 z3 z4 At m cm wr).mono ?_
      rintro r w1 ⟨rfl, hb⟩
      have kb1 := kb.trans (hb.mono kb.size)
      clear c0 ca cb cc cd
      obtain ⟨M, eM⟩ : ∃ M, M = mayB z0 z2 z3 z4 m := ⟨_, rfl⟩
      rw [← eM]
      rw [← eM] at HG2
      clear eM
      cases M
      · have hR : R = k := by rw [ER.out, HG2.out]; rfl
        have HRR := Lib.hid hR; clear hR HG2
        go_wp2_with (fail)
        go_ret
        exact ⟨by rw [HRR.out] <;> rfl, kb1⟩
      · have hR : badGo 0 es = badGo (k + 1) (es.drop (k + 1)) := by rw [HG2.out]; rfl
        have HRR := Lib.hid hR; clear hR HG2
        go_wp2_with (fail)
        go_roundw
        case rel => exact ⟨k + 1, by omega, by go_num, HRR, kb1⟩
        case measure => simp [intOf]; omega
    · obtain rfl : n = k := by omega
      have hR : R = -1 := by rw [ER.out, HG.out, ← HN.out, List.drop_length]; rfl
      have HRR := Lib.hid hR; clear hR
      go_wp2_with (fail)
      go_ret
      exact ⟨by rw [HRR.out] <;> rfl, kb⟩
set_option maxRecDepth 100000 in
theorem ContF_c (ok : Nat → Prop) (A : Option Addr) (n c : Nat) (ds : List EvV) (es : List Ev) (w : World) (hn : es.length = n) (hr : EvsR ok w A ds es) (hl : n ≤ 140737488355328) :
    Calls Try.prog 58 #[.slice A n c, .func (.func 59) #[] #[]] w fun r w' => r = .returned (.bool (!es.all Ev.may)) ∧ Below w.heap.size w w' := by
  have hb := badGo_neg es 0
  obtain ⟨R, eR⟩ : ∃ R, R = badGo 0 es := ⟨_, rfl⟩
  rw [← eR] at hb
  have e1 : decide (0 ≤ R) = (!es.all Ev.may) := by
    cases h : es.all Ev.may
    · exact decide_eq_true (hb.2 h)
    · refine decide_eq_false (fun h2 => ?_)
      rw [hb.1 h2] at h; cases h
  have E1 := Lib.hid e1
  have ER := Lib.hid eR
  clear e1 eR hb
  go_enter Try.func58, Try.ntmps58
  go_wp2_with (fail)
  refine (IndexF_c ok A n c ds es w hn hr hl).mono ?_
  rintro r w1 ⟨rfl, hb⟩
  rw [← ER.out]
  go_wp2_with (fail)
  go_ret
  exact ⟨by rw [← E1.out] <;> rfl, hb⟩
end Go.Proofs.Ytgnciejbhaebeaa

/- Rows of events that the call itself makes: appended, made, stored into. Conditions: lengths that fit. -/
namespace Go.Proofs.Ytgnciejbhaebeaa
open Go Go.RowKit

theorem run_appN {P : Program} (w : World) (base : Nat) (t ty e : TypeId) (i : TypeInfo) (z : Value) (size bytes : Nat) (ht : P.underlying t = some (.slice e)) (hi : P.info? e = some i) (hz : i.zero = some z)
    (hsize : i.size = size) (hby : i.bytes = bytes) (hzs : z.cells.size = size) (hsz : 0 < size)
    (v : Value) (n : Nat) (xs : List Value) (hown : w.ownsRow base e size v n xs) (A : Option Addr) (m c : Nat) (news : List Value) (hm : news.length = m * size) (hr : Rd w A news) (h1 : ∀ u ∈ news, u.oneCell' = true)
    (hlen : n + m ≤ maxLen) (hbytes : (n + m) * bytes ≤ 140737488355328) (hbase : base ≤ w.heap.size) :
    ∃ v' w', (Builtin.append_ #[t, t] ty #[v, .slice A m c]).run P w = .ok v' w' ∧ w'.ownsRow base e size v' (n + m) (xs ++ news) ∧ w.grownBy w' v.ownBlock ∧
      (v'.ownBlock = v.ownBlock ∨ v'.ownBlock = some w.heap.size) := by
  rcases A with _ | ad
  · have hn : news = [] := by
      rcases hr with h | ⟨_, _, h, _⟩
      · exact h
      · cases h
    subst hn
    have hm0 : m = 0 := by
      rcases Nat.eq_zero_or_pos m with h | h
      · exact h
      · have := Nat.mul_pos h hsz
        simp at hm; omega
    subst hm0
    exact ⟨v, w, run_append_of_nil w base t ty e i size ht hi v n xs hown c, by simpa using hown, World.grownBy.refl w _, .inl rfl⟩
  · obtain ⟨v', w', hrun, h2, h3, _, h5⟩ := run_append_own_at (P := P) w base t ty e i z size bytes ht hi hz hsize hby hzs hsz v n xs hown ad m c news hm (hr.cellsAt ad rfl) h1 hlen hbytes hbase
    exact ⟨v', w', hrun, h2, h3, h5⟩

theorem info_ev : (Try.prog.info? 36).map (fun i => (i.zero, i.size, i.bytes)) = some (some (.agg #[.int .i64 0, .slice none 0 0, .int .i64 0, .int .i64 0, .int .i64 0]), 5, 56) := by kernel_rfl

/-- 'append(v, xs...)' on events. -/
theorem wpList_appV (w : World) {ops : Array Oper} {rest : List Oper} {o : Oper} {a : Act} {Q : Exit → Act → World → Prop} (hgd : o.guard = none) (s x : Operand)
    (ho : o.op = .call { callee := .builtin .append, args := #[s, x], argTypes := #[23, 23] })
    (B : Nat) (v : Value) (ds : List EvV) (hs : a.eval s = v) (hown : OwnV w B v ds)
    (A : Option Addr) (m c : Nat) (ns : List EvV) (hx : a.eval x = .slice A m c) (hm : ns.length = m) (hr : Rd w A (cellsV ns))
    (hlen : ds.length + m ≤ 2513169434916) (hB : B ≤ w.heap.size)
    (h : ∀ v' w', OwnV w' B v' (ds ++ ns) → w.grownBy w' v.ownBlock → (v'.ownBlock = v.ownBlock ∨ v'.ownBlock = some w.heap.size) → wpList Try.prog ops Q rest (a.put o.dst v') w') : wpList Try.prog ops Q (o :: rest) a w := by
  obtain ⟨i0, hi, hz0, hz1, hz2⟩ := info_parts info_ev
  refine wpList_plain hgd fun K hK => ?_
  obtain ⟨v', w', hrun, h2, h3, h4⟩ := run_appN (P := Try.prog) w B 23 o.type 36 i0 _ 5 56 Try.underlying23 hi hz0 hz1 hz2 rfl (by decide) v ds.length (cellsV ds) hown A m c (cellsV ns) (by rw [cellsV_length, hm]) hr (cellsV_one _) (by unfold maxLen; omega) (by omega) hB
  unfold Oper.wp execOp
  simp only [ho, resolve, invoke, builtin, Sem.run_bind, Sem.run_pure, Result.andThen_ok, List.map_toArray, List.map_cons, List.map_nil, hs, hx, hrun]
  refine hK _ _ (h v' w' ?_ h3 h4)
  unfold OwnV
  rw [cellsV_append, List.length_append, hm]
  exact h2
def EvV.zero : EvV := ⟨0, none, 0, 0, 0, 0, 0⟩
theorem cellsV_zeros : ∀ n, (madeCells #[Value.int .i64 0, .slice none 0 0, .int .i64 0, .int .i64 0, .int .i64 0] (n * 5)).toList = cellsV (List.replicate n EvV.zero) := by
  intro n
  apply List.ext_getElem?
  intro j
  rcases Nat.lt_or_ge j (n * 5) with hj | hj
  · have hi : j / 5 < (List.replicate n EvV.zero).length := by rw [List.length_replicate]; omega
    have h := cellsV_get (List.replicate n EvV.zero) (j / 5) hi (j % 5) (Nat.mod_lt _ (by decide))
    rw [show j / 5 * 5 + j % 5 = j by omega] at h
    rw [h]
    have e : (madeCells #[Value.int .i64 0, .slice none 0 0, .int .i64 0, .int .i64 0, .int .i64 0] (n * 5)).toList[j]? = some (#[Value.int .i64 0, .slice none 0 0, .int .i64 0, .int .i64 0, .int .i64 0][j % 5]!) := by
      simp only [madeCells, Array.getElem?_toList, Array.getElem?_map]
      rw [Array.getElem?_eq_getElem (by simpa using hj)]
      simp
    rw [e, List.getElem_replicate]
    have h5 : j % 5 < 5 := Nat.mod_lt _ (by decide)
    generalize j % 5 = q at h5
    match q, h5 with
    | 0, _ => rfl
    | 1, _ => rfl
    | 2, _ => rfl
    | 3, _ => rfl
    | 4, _ => rfl
  · rw [List.getElem?_eq_none (by simp [madeCells]; omega), List.getElem?_eq_none (by rw [cellsV_length, List.length_replicate]; omega)]
/-- 'make([]Event, n)'. -/
theorem wpList_makeV (w : World) {ops : Array Oper} {rest : List Oper} {o : Oper} {a : Act} {Q : Exit → Act → World → Prop} (hgd : o.guard = none) (l c : Operand) (ho : o.op = Op.makeSlice 23 l c)
    (kl kc : IntKind) (L C : Int) (n : Nat) (hl : a.eval l = .int kl L) (hc : a.eval c = .int kc C) (hL : L = (n : Int)) (hC : C = (n : Int)) (hn : n ≤ 2513169434916)
    (h : ∀ w', OwnV w' w.heap.size (.slice (some ⟨w.heap.size, 0, none⟩) n n) (List.replicate n EvV.zero) → Below w.heap.size w w' → w.grownBy w' none → wpList Try.prog ops Q rest (a.put o.dst (.slice (some ⟨w.heap.size, 0, none⟩) n n)) w') :
    wpList Try.prog ops Q (o :: rest) a w := by
  obtain ⟨i0, hi, hz0, hz1, hz2⟩ := info_parts info_ev
  refine wpList_make_full w hgd l c 23 ho w.heap.size 36 i0 _ 5 Try.underlying23 hi hz0 hz1 kl kc L C n hl hc hL hC (by rw [hz2]; omega) (by unfold maxLen; omega) (Nat.le_refl _) ?_
  intro w' h1 h2
  refine h w' ?_ ((Below.refl _ _).grown h2 (Nat.le_refl _) (fun k hk => by cases hk)) h2
  unfold OwnV
  rw [List.length_replicate, ← cellsV_zeros]
  exact h1

section
variable {w : World} {B g n c : Nat} {ds : List EvV}
theorem OwnV.len (h : OwnV w B (.slice (some ⟨g, 0, none⟩) n c) ds) : n = ds.length ∧ ds.length ≤ c ∧ c ≤ maxLen ∧ B ≤ g ∧ g < w.heap.size := by
  rcases h.2 with ⟨h, _⟩ | ⟨g', cap, cur, hv, hb, hg, hn, hm, _⟩
  · cases h
  · injection hv with h1 h2 h3
    injection h1 with h1
    injection h1 with h1
    subst h1
    exact ⟨h2, by omega, by omega, hb, (Array.getElem?_eq_some_iff.1 hg).1⟩
theorem OwnV.to_n (h : OwnV w B (.slice (some ⟨g, 0, none⟩) n c) ds) : w.ownsRow B 36 5 (.slice (some ⟨g, 0, none⟩) n c) n (cellsV ds) := by
  have := h.len.1; subst this; exact h
theorem OwnV.five (h : OwnV w B (.slice (some ⟨g, 0, none⟩) n c) ds) (i : Nat) (hi : i < ds.length) :
    w.cell? ⟨g, i * 5, none⟩ = some (.int .i64 ds[i].k) ∧ w.cell? ⟨g, i * 5 + 1, none⟩ = some (.slice ds[i].A ds[i].n ds[i].c) ∧ w.cell? ⟨g, i * 5 + 2, none⟩ = some (.int .i64 ds[i].x) ∧
    w.cell? ⟨g, i * 5 + 3, none⟩ = some (.int .i64 ds[i].y) ∧ w.cell? ⟨g, i * 5 + 4, none⟩ = some (.int .i64 ds[i].b) := by
  have hl := h.len.1
  have get : ∀ j, j < 5 → w.cell? ⟨g, i * 5 + j, none⟩ = (ds[i].cells)[j]? := by
    intro j hj
    rw [h.to_n.cellAt (i * 5 + j) (by omega), cellsV_get ds i hi j hj]
  exact ⟨get 0 (by decide), get 1 (by decide), get 2 (by decide), get 3 (by decide), get 4 (by decide)⟩
theorem OwnV.free (h : OwnV w B (.slice (some ⟨g, 0, none⟩) n c) ds) (j : Nat) : w.frozen? ⟨g, j, none⟩ = false := h.to_n.frozenAt j
theorem OwnV.setT (h : OwnV w B (.slice (some ⟨g, 0, none⟩) n c) ds) (i : Nat) (hi : i < ds.length) (A' : Option Addr) (n' c' : Nat) :
    OwnV (w.setCell ⟨g, i * 5 + 1, none⟩ (.slice A' n' c')) B (.slice (some ⟨g, 0, none⟩) n c) (ds.set i (ds[i].txt A' n' c')) := by
  have h2 := (h.to_n.stored (i * 5 + 1) (.slice A' n' c')).1
  have hl := h.len.1
  rw [cellsV_txt ds i hi] at h2
  unfold OwnV
  rw [List.length_set, ← hl]
  exact h2
theorem OwnV.setX (h : OwnV w B (.slice (some ⟨g, 0, none⟩) n c) ds) (i : Nat) (hi : i < ds.length) (x : Int) :
    OwnV (w.setCell ⟨g, i * 5 + 2, none⟩ (.int .i64 x)) B (.slice (some ⟨g, 0, none⟩) n c) (ds.set i (ds[i].x' x)) := by
  have h2 := (h.to_n.stored (i * 5 + 2) (.int .i64 x)).1
  have hl := h.len.1
  rw [cellsV_x ds i hi] at h2
  unfold OwnV
  rw [List.length_set, ← hl]
  exact h2
theorem OwnV.setAll (h : OwnV w B (.slice (some ⟨g, 0, none⟩) n c) ds) (i : Nat) (hi : i < ds.length) (d : EvV) :
    OwnV (((((w.setCell ⟨g, i * 5, none⟩ (.int .i64 d.k)).setCell ⟨g, i * 5 + 1, none⟩ (.slice d.A d.n d.c)).setCell ⟨g, i * 5 + 2, none⟩ (.int .i64 d.x)).setCell ⟨g, i * 5 + 3, none⟩ (.int .i64 d.y)).setCell ⟨g, i * 5 + 4, none⟩ (.int .i64 d.b)) B
      (.slice (some ⟨g, 0, none⟩) n c) (ds.set i d) := by
  have hl := h.len.1
  have h2 := (((((h.to_n.stored (i * 5) (.int .i64 d.k)).1.stored (i * 5 + 1) (.slice d.A d.n d.c)).1.stored (i * 5 + 2) (.int .i64 d.x)).1.stored (i * 5 + 3) (.int .i64 d.y)).1.stored (i * 5 + 4) (.int .i64 d.b)).1
  rw [cellsV_all ds i hi d] at h2
  unfold OwnV
  rw [List.length_set, ← hl]
  exact h2
theorem OwnV.low {B' : Nat} {v : Value} (h : OwnV w B v ds) (hB : B' ≤ B) : OwnV w B' v ds := ⟨h.1, h.2.imp id (fun ⟨g, cap, cur, hv, hb, r⟩ => ⟨g, cap, cur, hv, Nat.le_trans hB hb, r⟩)⟩
theorem OwnV.below {w' : World} {v : Value} (h : OwnV w B v ds) (hb : Below w.heap.size w w') : OwnV w' B v ds := Own.frameK h (fun g e => hb.block g (World.ownsRow.lt h g e).2)
theorem OwnV.drewN {v : Value} (h : OwnV w B v ds) (q : Nat) : OwnV (w.drewN q) B v ds := h
end
end Go.Proofs.Ytgnciejbhaebeaa

/- What slices.Clone, keys.clone and the reference's Copy answer of events: the same events in memory of one's own. Conditions: events that can be read; lengths that fit. -/
namespace Go.Proofs.Ytgnciejbhaebeaa
open Go Go.RowKit

set_option maxRecDepth 100000 in
set_option maxHeartbeats 1000000 in
/-- slices.Clone: the same cells in a row of its own. -/
theorem CloneV_c (ok : Nat → Prop) (A : Option Addr) (n c : Nat) (ds : List EvV) (es : List Ev) (w : World) (hn : es.length = n) (hr : EvsR ok w A ds es) (hl : n ≤ 2513169434916) :
    Calls Try.prog 64 #[.slice A n c] w fun r w' => ∃ v, r = .returned v ∧ OwnV w' w.heap.size v ds ∧ Below w.heap.size w w' := by
  have hdn : ds.length = n := hr.len.trans hn
  have HD := Lib.hid hdn; clear hdn
  have HR := Lib.hid hr.row; clear hr hn
  cases A with
  | none =>
    have h0 : ds = [] := by
      rcases HR.out with h | ⟨_, _, h, _⟩
      · have := congrArg List.length h
        rw [cellsV_length] at this
        simp only [List.length_nil] at this
        exact List.eq_nil_of_length_eq_zero (by omega)
      · cases h
    subst h0
    have he : ∀ w : World, (binOp .eql 23 (.slice none n c) (.slice none 0 0)).run Try.prog w = .ok (.bool true) w := fun _ => rfl
    go_enter Try.func64, Try.ntmps64
    go_wp2_with (fail)
    go_ret
    exact ⟨_, rfl, World.ownsRow_nil _ _ _ _, Below.refl _ _⟩
  | some a =>
    have o1 : OwnV (w.alloc (.cells #[] 36)) w.heap.size (.slice (some ⟨w.heap.size, 0, none⟩) 0 0) [] := World.ownsRow_made w #[] 0 (Nat.le_refl _) (Nat.zero_le _) rfl
    have k1 : Below w.heap.size w (w.alloc (.cells #[] 36)) := (Below.refl _ _).alloc (Nat.le_refl _) _
    have O1 := Lib.hid o1; clear o1
    have he : ∀ w : World, (binOp .eql 23 (.slice (some a) n c) (.slice none 0 0)).run Try.prog w = .ok (.bool false) w := fun _ => rfl
    go_enter Try.func64, Try.ntmps64
    go_wp2_with (first | (at_builtin; refine wpList_appV _ rfl (.tmp 5) (.tmp 6) rfl w.heap.size _ [] rfl O1.out (some a) n c ds rfl HD.out (HR.out.below k1) (by simpa using hl) k1.size ?_; intro v2 w2 h2 h3 _; have H2 := Lib.hid h2; clear h2; have k2 := k1.grown h3 k1.size (fun k e => (World.ownsRow.lt O1.out k e).1); clear h3))
    go_ret
    exact ⟨_, rfl, by have := H2.out; simpa using this, k2⟩

/-- k of them have texts of their own. -/
def Cl (w : World) (B g n c : Nat) (ds : List EvV) (es : List Ev) (k : Nat) : Prop :=
  ∃ ds' : List EvV, ds'.length = n ∧ OwnV w B (.slice (some ⟨g, 0, none⟩) n c) ds' ∧ (∀ i (h1 : i < ds'.length) (h2 : i < es.length), i < k → EvO (g < ·) w ds'[i] es[i]) ∧ ∀ i (h1 : i < ds'.length) (h2 : i < ds.length), k ≤ i → ds'[i] = ds[i]
theorem Cl.below {w w' : World} {B g n c k : Nat} {ds : List EvV} {es : List Ev} (h : Cl w B g n c ds es k) (hb : Below w.heap.size w w') : Cl w' B g n c ds es k := by
  obtain ⟨ds', h1, h2, h3, h4⟩ := h
  exact ⟨ds', h1, h2.below hb, fun i g1 g2 g3 => (h3 i g1 g2 g3).frame (fun q _ hq => hb.block q hq), h4⟩
theorem Cl.put {w : World} {B g n c k : Nat} {ds : List EvV} {es : List Ev} (h : Cl w B g n c ds es k) (hds : ds.length = n) (hes : es.length = n) (hk : k < n) (A' : Option Addr) (n' c' : Nat)
    (ht : ∀ (h1 : k < ds.length) (h2 : k < es.length), EvO (g < ·) w (ds[k].txt A' n' c') es[k]) : Cl (w.setCell ⟨g, k * 5 + 1, none⟩ (.slice A' n' c')) B g n c ds es (k + 1) := by
  obtain ⟨ds', h1, h2, h3, h4⟩ := h
  have far : ∀ {d : EvV} {e : Ev}, EvO (g < ·) w d e → EvO (g < ·) (w.setCell ⟨g, k * 5 + 1, none⟩ (.slice A' n' c')) d e := fun h => h.frame (fun q hq _ => heap_far _ (by show q ≠ g; omega))
  have e := h4 k (by omega) (by omega) (Nat.le_refl _)
  refine ⟨_, by rw [List.length_set]; exact h1, h2.setT k (by omega) A' n' c', fun i g1 g2 g3 => ?_, fun i g1 g2 g3 => ?_⟩
  · rw [List.getElem_set]
    split
    · rename_i hki
      subst hki
      rw [e]
      exact far (ht _ _)
    · exact far (h3 i _ _ (by omega))
  · rw [List.getElem_set, if_neg (by omega)]
    exact h4 i _ _ (by omega)
theorem Cl.cell {w : World} {B g n c k : Nat} {ds : List EvV} {es : List Ev} (h : Cl w B g n c ds es k) (j : Nat) (hj : j < n) :
    ∃ u0 u1 u2 u3 u4, w.cell? ⟨g, j * 5, none⟩ = some u0 ∧ w.cell? ⟨g, j * 5 + 1, none⟩ = some u1 ∧ w.cell? ⟨g, j * 5 + 2, none⟩ = some u2 ∧ w.cell? ⟨g, j * 5 + 3, none⟩ = some u3 ∧ w.cell? ⟨g, j * 5 + 4, none⟩ = some u4 := by
  obtain ⟨ds', h1, h2, _⟩ := h
  obtain ⟨a0, a1, a2, a3, a4⟩ := h2.five j (by omega)
  exact ⟨_, _, _, _, _, a0, a1, a2, a3, a4⟩
theorem Cl.free {w : World} {B g n c k : Nat} {ds : List EvV} {es : List Ev} (h : Cl w B g n c ds es k) (j : Nat) : w.frozen? ⟨g, j, none⟩ = false := by
  obtain ⟨ds', _, h2, _⟩ := h
  exact h2.free j
theorem Cl.out {w : World} {B g n c : Nat} {ds : List EvV} {es : List Ev} (h : Cl w B g n c ds es n) (hes : es.length = n) : ∃ ds', EvsO (B ≤ ·) w (.slice (some ⟨g, 0, none⟩) n c) ds' es := by
  obtain ⟨ds', h1, h2, h3, h4⟩ := h
  have hg := h2.len.2.2.2.1
  refine ⟨ds', by omega, h2.low (Nat.zero_le _), fun k e => ?_, fun i g1 g2 => (h3 i g1 g2 (by omega)).weak (fun q hq _ => by have : g < q := hq; show B ≤ q; omega)⟩
  injection e with e
  subst e
  exact hg

set_option maxRecDepth 100000 in
set_option maxHeartbeats 2000000 in
theorem clone_c (ok : Nat → Prop) (A : Option Addr) (n c : Nat) (ds : List EvV) (es : List Ev) (w : World) (hn : es.length = n) (hr : EvsR ok w A ds es) (hl : n ≤ 2513169434916) :
    Calls Try.prog 63 #[.slice A n c] w fun r w' => ∃ v ds', r = .returned v ∧ EvsO (w.heap.size ≤ ·) w' v ds' es ∧ Below w.heap.size w w' := by
  have hdn : ds.length = n := hr.len.trans hn
  have HD := Lib.hid hdn; clear hdn
  have HN := Lib.hid hn
  go_enter Try.func63, Try.ntmps63
  go_wp2_with (fail)
  refine (CloneV_c ok A n c ds es w hn hr hl).mono ?_
  rintro e w1 ⟨v, rfl, ho1, hb1⟩
  obtain ⟨A1, c1, rfl, p1, p2, p3, p4, p5⟩ := OwnV.form ho1
  rw [HD.out] at p1 ho1 ⊢
  have HO1 := Lib.hid ho1; clear ho1
  rcases Nat.eq_zero_or_pos n with h0 | h0
  · subst h0
    have he : es = [] := List.eq_nil_of_length_eq_zero HN.out
    have hde : ds = [] := List.eq_nil_of_length_eq_zero HD.out
    subst he hde
    clear p3 p4 p5 hn hr
    go_wp2_with (fail)
    go_loopw [9] (fun i wr => i = .int .i64 (0 : Nat) ∧ wr = w1) (fun _ _ => 0)
    case atStart => exact ⟨rfl, rfl⟩
    case round =>
      obtain ⟨rfl, rfl⟩ := hrel
      go_wp2_with (fail)
      go_ret
      have h1 := HO1.out
      exact ⟨_, [], rfl, ⟨rfl, OwnV.low h1 (Nat.zero_le _), fun k e => (World.ownsRow.lt h1 k e).1, fun i h1 => absurd h1 (by simp)⟩, hb1⟩
  · obtain ⟨b, off, rfl, _⟩ := p3.addr (by rw [cellsV_length, HD.out]; omega)
    obtain ⟨q1, q2, q3, q4⟩ := p4 _ rfl
    simp only at q3 q4
    subst q3
    have hcl : Cl w1 w.heap.size b n c1 ds es 0 := ⟨ds, HD.out, HO1.out, fun i _ _ h => absurd h (by omega), fun i _ _ _ => rfl⟩
    have HC := Lib.hid hcl; clear hcl HO1
    clear p3 p4 p5 hn
    have hl2 := q2
    go_wp2_with (fail)
    go_loopw [9] (fun i wr => ∃ k : Nat, k ≤ n ∧ i = .int .i64 k ∧ Hid (Cl wr w.heap.size b n c1 ds es k) ∧ Below w.heap.size w wr ∧ b < wr.heap.size) (fun i _ => n - (intOf i).toNat)
    case atStart => exact ⟨0, Nat.zero_le _, rfl, HC, hb1, q2⟩
    case round =>
      clear HC hb1
      obtain ⟨k, hk, rfl, HC, kb, hbw⟩ := hrel
      rcases Nat.lt_or_ge k n with hlt | hge
      · obtain ⟨e, b1, o1, At, m, cm, ee, rfl, hb1, -, tt, c0, ca, cb, cc, cd⟩ := hr.at_ k (by rw [HN.out]; exact hlt)
        obtain ⟨t1, t2, t3, t4, -, t5⟩ := tt
        have ca' := ca
        rw [← kb.cell (p := ⟨b1, _, none⟩) hb1] at ca'
        have T1 := Lib.hid t1; clear t1
        have EE := Lib.hid ee; clear ee
        clear c0 ca cb cc cd
        have hlt' : (k : Int) < (n : Int) := by omega
        go_wp2_with (first | (at_builtin; refine wpList_cloneB _ rfl (.tmp 18) rfl At m cm e.t rfl T1.out (t2.below kb) (by omega) ?_; intro A2 c2 w2 g1 g2 g3 g4 g5 g6; have G1 := Lib.hid g1; clear g1 g5; have HC2 := Lib.hid (HC.out.below g2); have k2 := kb.trans (g2.mono kb.size); obtain ⟨u0, u1, u2, u3, u4, -, f1, -⟩ := HC2.out.cell k hlt; have fr := HC2.out.free (k * 5 + 1); have gs := g2.size))
        have ho : EvO (b < ·) w2 (ds[k]'(by rw [HD.out]; exact hlt) |>.txt A2 m c2) (es[k]'(by rw [HN.out]; exact hlt)) := by
          have h5 := hr.each k (by rw [HD.out]; exact hlt) (by rw [HN.out]; exact hlt)
          rw [← EE.out] at h5 ⊢
          exact ⟨h5.1, h5.2.1, h5.2.2.1, h5.2.2.2.1, T1.out, Own.low G1.out (Nat.zero_le _), fun a ea => Nat.lt_of_lt_of_le hbw (g6 a ea).1, t5⟩
        have hput := HC2.out.put HD.out HN.out hlt A2 m c2 (fun _ _ => ho)
        have kset := k2.grown (only_set b (k * 5 + 1) (.slice A2 m c2)) k2.size (fun q e => by injection e with e; omega)
        have hput' := Lib.hid hput
        clear hput ho
        go_roundw
        case rel => exact ⟨k + 1, by omega, by go_num, hput', kset, by show b < _; simp [World.setCell]; omega⟩
        case measure => simp [intOf]; omega
      · obtain rfl : n = k := by omega
        go_wp2_with (fail)
        go_ret
        obtain ⟨ds', h1⟩ := HC.out.out HN.out
        exact ⟨_, ds', rfl, h1, kb⟩
end Go.Proofs.Ytgnciejbhaebeaa

/- The bytes of a batch of events, in plain words. Conditions: none. -/
namespace Go.Proofs.Ytgnciejbhaebeaa
open Go Go.RowKit

def evL (f : Bool) (e : Ev) : List UInt8 :=
  putL f e.k.toNat 1 ++ (if e.k = 1 ∨ e.k = 2 then putL f e.t.length 1 ++ e.t else putL f e.x.toNat 1 ++ putL f e.y.toNat 1 ++ (if e.k = 3 then putL f e.b.toNat 1 else []))
def evsL (f : Bool) (es : List Ev) : List UInt8 := (es.map (evL f)).flatten
def encL (f : Bool) (base : Nat) (es : List Ev) : List UInt8 := putL f base 8 ++ putL f es.length 1 ++ evsL f es
def encE (ver : Int) (base : Nat) (es : List Ev) : List UInt8 × Nat :=
  if ver < 1 ∨ 3 < ver ∨ es = [] ∨ es.all Ev.may = false then ([], 1) else if 16 < es.length then ([], 4) else (encL (decide (ver = 1)) base es, 0)
theorem numLI_le (n : Nat) (s : Int) : (numLI n s).length ≤ 8 := by
  unfold numLI
  split
  · rw [numL_length]; omega
  · simp
theorem putL_le (f : Bool) (n : Nat) (s : Int) (h : U64 n) : (putL f n s).length ≤ 10 := by
  unfold putL
  split
  · have := numLI_le n s; omega
  · exact varL_len10 h
theorem may_bounds {e : Ev} (h : e.may = true) : (e.k = 1 ∨ e.k = 2 ∨ e.k = 3 ∨ e.k = 4) ∧ e.t.length ≤ 64 ∧ 0 ≤ e.x ∧ e.x ≤ 80 ∧ 0 ≤ e.y ∧ e.y ≤ 24 ∧ 0 ≤ e.b ∧ e.b ≤ 255 := by
  have := of_decide_eq_true h
  unfold mayP at this
  omega
theorem u64_small {n : Nat} (h : n ≤ 1000000) : U64 n := by unfold U64; omega
theorem evL_le (f : Bool) (e : Ev) (h : e.may = true) : (evL f e).length ≤ 100 := by
  obtain ⟨h0, h1, h2, h3, h4, h5, h6, h7⟩ := may_bounds h
  have p0 := putL_le f e.k.toNat 1 (u64_small (by omega))
  have p1 := putL_le f e.t.length 1 (u64_small (by omega))
  have p2 := putL_le f e.x.toNat 1 (u64_small (by omega))
  have p3 := putL_le f e.y.toNat 1 (u64_small (by omega))
  have p4 := putL_le f e.b.toNat 1 (u64_small (by omega))
  unfold evL
  rw [List.length_append]
  split
  · rw [List.length_append]; omega
  · rw [List.length_append, List.length_append]
    split
    · omega
    · simp only [List.length_nil]; omega
theorem evsL_le (f : Bool) : ∀ (es : List Ev), es.all Ev.may = true → (evsL f es).length ≤ 100 * es.length
  | [], _ => by simp [evsL]
  | e :: es, h => by
    rw [List.all_cons, Bool.and_eq_true] at h
    have h1 := evL_le f e h.1
    have h2 := evsL_le f es h.2
    have e1 : evsL f (e :: es) = evL f e ++ evsL f es := rfl
    rw [e1, List.length_append, List.length_cons]
    omega
theorem evsL_take (f : Bool) (es : List Ev) (k : Nat) (h : k < es.length) : evsL f (es.take (k + 1)) = evsL f (es.take k) ++ evL f es[k] := by
  unfold evsL
  rw [List.take_succ_eq_append_getElem h, List.map_append, List.flatten_append, List.map_cons, List.map_nil, List.flatten_cons, List.flatten_nil, List.append_nil]
def preL (f : Bool) (base n : Nat) (es : List Ev) : List UInt8 := putL f base 8 ++ putL f n 1 ++ evsL f es
theorem preL_le (f : Bool) (base n : Nat) (es : List Ev) (hb : U64 base) (hn : n ≤ 16) (hm : es.all Ev.may = true) (hl : es.length ≤ 16) : (preL f base n es).length ≤ 2000 := by
  have p0 := putL_le f base 8 hb
  have p1 := putL_le f n 1 (u64_small (by omega))
  have p2 := evsL_le f es hm
  unfold preL
  rw [List.length_append, List.length_append]
  omega
theorem all_take {es : List Ev} (h : es.all Ev.may = true) (k : Nat) : (es.take k).all Ev.may = true := by
  rw [List.all_eq_true] at h ⊢
  intro e he
  exact h e (List.mem_of_mem_take he)
end Go.Proofs.Ytgnciejbhaebeaa

/- What an inbox and a nil queue answer. Conditions: events that can be read; lengths that fit. -/
namespace Go.Proofs.Ytgnciejbhaebeaa
open Go Go.RowKit

/-- Events of one's own. -/
def Evs (ok : Nat → Prop) (w : World) (v : Value) (es : List Ev) : Prop := ∃ ds, EvsO ok w v ds es
def U63 (n : Nat) : Prop := n < 9223372036854775808
theorem u64_wrapN {n : Nat} (h : U64 n) : IntKind.u64.wrap (n : Int) = (n : Int) := by
  unfold U64 at h
  unfold IntKind.wrap
  simp [IntKind.bits, IntKind.signed]
  omega
/-- Block b is an inbox to which so many came. -/
def Ib (w : World) (b got : Nat) : Prop := w.heap[b]? = some (.cells #[.int .u64 (got : Int)] 118 (0, 0))
section
variable {w w' : World} {b got : Nat}
theorem Ib.cell (h : Ib w b got) : w.cell? ⟨b, 0, none⟩ = some (.int .u64 (got : Int)) := by rw [heap_cell h]; rfl
theorem Ib.free (h : Ib w b got) : w.frozen? ⟨b, 0, none⟩ = false := heap_free h 0
theorem Ib.lt (h : Ib w b got) : b < w.heap.size := heap_lt h
theorem Ib.below (h : Ib w b got) (hb : Below w.heap.size w w') : Ib w' b got := (hb.block b h.lt).trans h
theorem Ib.keep (h : Ib w b got) (hb : w'.heap[b]? = w.heap[b]?) : Ib w' b got := hb.trans h
theorem Ib.set (h : Ib w b got) (m : Nat) : Ib (w.setCell ⟨b, 0, none⟩ (.int .u64 (m : Int))) b m := by
  unfold Ib
  rw [heap_set h]
  rfl
end
set_option maxRecDepth 100000 in
theorem NewInbox_c (w : World) : Calls Try.prog 28 #[] w fun r w' => r = .returned (.pointer (some ⟨w.heap.size, 0, none⟩)) ∧ Ib w' w.heap.size 0 ∧ Below w.heap.size w w' := by
  have k0 : Below w.heap.size w (w.alloc (.cells #[.int .u64 0] 118)) := (Below.refl _ _).alloc (Nat.le_refl _) _
  have h0 : Ib (w.alloc (.cells #[.int .u64 0] 118)) w.heap.size 0 := heap_alloc_new w _
  have H0 := Lib.hid h0; clear h0
  go_enter Try.func28, Try.ntmps28
  go_wp2_with (fail)
  go_ret
  exact ⟨rfl, H0.out, k0⟩
set_option maxRecDepth 100000 in
theorem NewQueue_c (w : World) : Calls Try.prog 25 #[] w fun r w' => r = .returned (.pointer (some ⟨w.heap.size, 0, none⟩)) ∧ w'.heap[w.heap.size]? = some (.cells #[.int .u64 0, .slice none 0 0] 116 (0, 0)) ∧ Below w.heap.size w w' ∧ w'.heap.size = w.heap.size + 1 := by
  have k0 : Below w.heap.size w (w.alloc (.cells #[.int .u64 0, .slice none 0 0] 116)) := (Below.refl _ _).alloc (Nat.le_refl _) _
  have h0 : (w.alloc (.cells #[.int .u64 0, .slice none 0 0] 116)).heap[w.heap.size]? = some (.cells #[.int .u64 0, .slice none 0 0] 116 (0, 0)) := heap_alloc_new w _
  have H0 := Lib.hid h0; clear h0
  go_enter Try.func25, Try.ntmps25
  go_wp2_with (fail)
  go_ret
  exact ⟨rfl, H0.out, k0, by simp⟩
set_option maxRecDepth 100000 in
theorem Got_c (b got : Nat) (w : World) (h : Ib w b got) : Calls Try.prog 37 #[.pointer (some ⟨b, 0, none⟩)] w fun r w' => r = .returned (.int .u64 (got : Int)) ∧ w = w' := by
  have c0 := h.cell
  go_enter Try.func37, Try.ntmps37
  go_wp2
  go_ret
  exact ⟨rfl, rfl⟩
set_option maxRecDepth 100000 in
theorem Got_n (w : World) : Calls Try.prog 37 #[.pointer none] w fun r w' => r = .returned (.int .u64 0) ∧ w = w' := by
  go_enter Try.func37, Try.ntmps37
  go_wp2
  go_ret
  exact ⟨rfl, rfl⟩
set_option maxRecDepth 100000 in
theorem Accepted_n (w : World) : Calls Try.prog 36 #[.pointer none] w fun r w' => r = .returned (.int .u64 0) ∧ w = w' := by
  go_enter Try.func36, Try.ntmps36
  go_wp2
  go_ret
  exact ⟨rfl, rfl⟩
set_option maxRecDepth 100000 in
theorem Batch_n (w : World) : Calls Try.prog 34 #[.pointer none] w fun r w' => r = .returned (.tuple #[.int .u64 0, .slice none 0 0]) ∧ w = w' := by
  go_enter Try.func34, Try.ntmps34
  go_wp2
  go_ret2
  exact ⟨rfl, rfl⟩
set_option maxRecDepth 100000 in
theorem Ack_n (n : Int) (w : World) : Calls Try.prog 27 #[.pointer none, .int .u64 n] w fun r w' => r = .returned (.int .i64 0) ∧ w = w' := by
  go_enter Try.func27, Try.ntmps27
  go_wp2
  go_ret
  exact ⟨rfl, rfl⟩
set_option maxRecDepth 100000 in
theorem Push_n (k x y b : Int) (A : Option Addr) (n c : Nat) (w : World) : Calls Try.prog 26 #[.pointer none, .agg #[.int .i64 k, .slice A n c, .int .i64 x, .int .i64 y, .int .i64 b]] w fun r w' => r = .returned (.tuple #[.int .u64 0, .int .i64 1]) ∧ Below w.heap.size w w' := by
  have kb : Below w.heap.size w (w.alloc (.cells #[.int .i64 k, .slice A n c, .int .i64 x, .int .i64 y, .int .i64 b] 36)) := (Below.refl _ _).alloc (Nat.le_refl _) _
  go_enter Try.func26, Try.ntmps26
  go_wp2
  go_ret2
  exact ⟨rfl, kb⟩
set_option maxRecDepth 100000 in
theorem Take_n (base : Int) (A : Option Addr) (n c : Nat) (w : World) : Calls Try.prog 32 #[.pointer none, .int .u64 base, .slice A n c] w fun r w' => r = .returned (.tuple #[.slice none 0 0, .int .i64 1]) ∧ w = w' := by
  go_enter Try.func32, Try.ntmps32
  go_wp2
  go_ret2
  exact ⟨rfl, rfl⟩

/-- What an inbox takes: the new ones, the error, how many came. -/
def tkR (got base : Nat) (es : List Ev) : List Ev × Nat × Nat :=
  if es = [] ∨ 16 < es.length then ([], 1, got) else if got < base then ([], 15, got) else if es.length ≤ got - base then ([], 16, got) else (es.drop (got - base), 0, got + (es.length - (got - base)))
theorem EvsR.cut {ok : Nat → Prop} {w : World} {A : Option Addr} {ds : List EvV} {es : List Ev} (h : EvsR ok w A ds es) {k c : Nat} (hk : k ≤ es.length) (hc : es.length ≤ c) : EvsR ok w (if c = k then A else A.map (fun x => x.add (k * 5))) (ds.drop k) (es.drop k) := by
  have hl := h.len
  have hcd : cellsV (ds.drop k) = (cellsV ds).drop (k * 5) := by
    have e : cellsV ds = cellsV (ds.take k) ++ cellsV (ds.drop k) := by rw [← cellsV_append, List.take_append_drop]
    rw [e, List.drop_left' (by rw [cellsV_length, List.length_take]; omega)]
  refine ⟨by rw [List.length_drop, List.length_drop, hl], ?_, fun h0 a e => ?_, fun i h1 h2 => ?_⟩
  · rw [hcd]
    rcases h.row with h2 | ⟨b, off, rfl, hb, hcc⟩
    · left; rw [h2]; simp
    · by_cases e : c = k
      · left
        apply List.eq_nil_of_length_eq_zero
        rw [List.length_drop, cellsV_length]; omega
      · rw [if_neg e]
        refine .inr ⟨b, off + k * 5, ?_, hb, fun j hj => ?_⟩
        · unfold Addr.add
          by_cases h0 : k * 5 = 0
          · have : k = 0 := by omega
            subst this; simp
          · simp [h0]
        · simp only [List.length_drop] at hj
          rw [Nat.add_assoc, hcc (k * 5 + j) (by omega)]
          simp
  · rw [List.length_drop] at h0
    split at e
    · exact h.ok_ (by omega) a e
    · obtain ⟨a', ha, rfl⟩ := Option.map_eq_some_iff.1 e
      have := h.ok_ (by omega) a' ha
      unfold Addr.add
      split <;> exact this
  · have h1' : k + i < ds.length := by rw [List.length_drop] at h1; omega
    have h2' : k + i < es.length := by omega
    have := h.each (k + i) h1' h2'
    rw [List.getElem_drop, List.getElem_drop]
    exact this

set_option maxRecDepth 100000 in
set_option maxHeartbeats 2000000 in
theorem Take24_c (ok : Nat → Prop) (b got base : Nat) (A : Option Addr) (n c : Nat) (ds : List EvV) (es : List Ev) (w : World) (hg : U63 got) (hu : U64 base) (hi : Ib w b got) (hn : es.length = n) (hr : EvsR ok w A ds es) (hc : n ≤ c) (hm : c ≤ maxLen) (hl : n ≤ 140737488355328) :
    Calls Try.prog 32 #[.pointer (some ⟨b, 0, none⟩), .int .u64 base, .slice A n c] w fun r w' => ∃ v, r = .returned (.tuple #[v, .int .i64 ((tkR got base es).2.1 : Int)]) ∧ Evs (w.heap.size ≤ ·) w' v (tkR got base es).1 ∧ Ib w' b (tkR got base es).2.2 ∧ w.grownBy w' (some b) := by
  have HN := Lib.hid hn; clear hn
  have c0 := hi.cell
  have HI := Lib.hid hi; clear hi
  obtain ⟨L, er, gt, eR⟩ : ∃ L er gt, tkR got base es = (L, er, gt) := ⟨_, _, _, rfl⟩
  rw [eR]
  have ER := Lib.hid eR; clear eR
  show Calls _ _ _ _ fun r w' => ∃ v, r = .returned (.tuple #[v, .int .i64 (er : Int)]) ∧ Evs (w.heap.size ≤ ·) w' v L ∧ Ib w' b gt ∧ w.grownBy w' (some b)
  have nil_ : ∀ w', EvsO (w.heap.size ≤ ·) w' (.slice none 0 0) [] [] := fun w' => ⟨rfl, World.ownsRow_nil _ _ _ _, fun k e => (by cases e), fun i h => absurd h (by simp)⟩
  have NIL := Lib.hid nil_; clear nil_
  rcases Nat.eq_zero_or_pos n with h0 | h0
  · have hR : tkR got base es = ([], 1, got) := by rw [tkR, if_pos (.inl (List.eq_nil_of_length_eq_zero (HN.out.trans h0)))]
    rw [ER.out] at hR
    injection hR with r1 r2
    injection r2 with r2 r3
    have r3 := r3.symm
    subst r1 r2 r3 h0
    go_enter Try.func32, Try.ntmps32
    go_wp2_with (fail)
    go_ret2
    exact ⟨_, rfl, ⟨[], NIL.out _⟩, HI.out, World.grownBy.refl _ _⟩
  have d3 : ((n : Int) == 0) = false := by rw [beq_eq_false_iff_ne]; omega
  by_cases hbig : 16 < n
  · have hR : tkR got base es = ([], 1, got) := by rw [tkR, if_pos (.inr (by rw [HN.out]; exact hbig))]
    rw [ER.out] at hR
    injection hR with r1 r2
    injection r2 with r2 r3
    have r3 := r3.symm
    subst r1 r2 r3
    have d4 : decide ((16 : Int) < (n : Int)) = true := decide_eq_true (by omega)
    clear hbig
    go_enter Try.func32, Try.ntmps32
    go_wp2_with (fail)
    go_ret2
    exact ⟨_, rfl, ⟨[], NIL.out _⟩, HI.out, World.grownBy.refl _ _⟩
  have hnb : ¬ (es = [] ∨ 16 < es.length) := by
    rintro (h | h)
    · have := HN.out; rw [h] at this; simp at this; omega
    · rw [HN.out] at h; exact hbig h
  have d4 : decide ((16 : Int) < (n : Int)) = false := decide_eq_false (by omega)
  have hsm : n ≤ 16 := by omega
  clear hbig
  rcases Nat.lt_or_ge got base with hgb | hgb
  · have hR : tkR got base es = ([], 15, got) := by rw [tkR, if_neg hnb, if_pos hgb]
    rw [ER.out] at hR
    injection hR with r1 r2
    injection r2 with r2 r3
    have r3 := r3.symm
    subst r1 r2 r3
    have d5 : decide (got < base) = true := decide_eq_true (by omega)
    clear hnb hgb
    go_enter Try.func32, Try.ntmps32
    go_wp2_with (fail)
    go_ret2
    exact ⟨_, rfl, ⟨[], NIL.out _⟩, HI.out, World.grownBy.refl _ _⟩
  have d5 : decide (got < base) = false := decide_eq_false (by omega)
  obtain ⟨K, eK⟩ : ∃ K, K = got - base := ⟨_, rfl⟩
  have wd : IntKind.u64.wrap ((got : Int) - (base : Int)) = (K : Int) := by
    have : (got : Int) - (base : Int) = (K : Int) := by omega
    rw [this]
    exact u64_wrapN (by unfold U63 at hg; unfold U64; omega)
  have wn : IntKind.u64.wrap (n : Int) = (n : Int) := u64_wrapN (by unfold U64; omega)
  rcases Nat.lt_or_ge K n with hKn | hKn
  · have hR : tkR got base es = (es.drop K, 0, got + (n - K)) := by rw [tkR, if_neg hnb, if_neg (by omega), ← eK, HN.out, if_neg (by omega)]
    rw [ER.out] at hR
    injection hR with r1 r2
    injection r2 with r2 r3
    subst r2
    have d6 : decide (n ≤ K) = false := decide_eq_false (by omega)
    have R1 := Lib.hid r1; have R3 := Lib.hid r3
    have wa : IntKind.u64.wrap ((got : Int) + ((n - K : Nat) : Int)) = ((got + (n - K) : Nat) : Int) := by
      rw [show (got : Int) + ((n - K : Nat) : Int) = ((got + (n - K) : Nat) : Int) by omega]
      exact u64_wrapN (by unfold U63 at hg; unfold U64; omega)
    have wn2 : IntKind.u64.wrap ((n - K : Nat) : Int) = ((n - K : Nat) : Int) := u64_wrapN (by unfold U64; omega)
    have cut := hr.cut (k := K) (c := c) (by rw [HN.out]; omega) (by rw [HN.out]; exact hc)
    have CUT := Lib.hid cut
    have EK := Lib.hid eK
    clear hnb hgb r1 r3 eK cut hr
    go_enter Try.func32, Try.ntmps32
    go_wp2_with (fail)
    have cut := CUT.out
    rw [if_neg (by omega)] at cut
    refine (clone_c ok _ (n - K) (c - K) _ _ w (by rw [List.length_drop, HN.out]) cut (by omega)).mono ?_
    rintro r w1 ⟨v, ds', rfl, ho, hb⟩
    obtain ⟨A', c', rfl, p1, p2, p3⟩ := ho.form
    have hI1 := HI.out.below hb
    have hlen : (es.drop K).length = n - K := by rw [List.length_drop, HN.out]
    rw [hlen] at p1 ho ⊢
    have c1 := hI1.cell
    have f1 := hI1.free
    have HO := Lib.hid ho; clear ho
    have HI1 := Lib.hid hI1; clear hI1
    have HB := Lib.hid hb; clear hb
    have HL := Lib.hid hlen
    clear cut c0 p1 p2 p3 hlen
    go_wp2_with (fail)
    go_ret2
    have hlt := HI.out.lt
    refine ⟨_, rfl, ⟨ds', ?_⟩, ?_, ?_⟩
    · rw [R1.out]
      refine HO.out.frame (fun k hk _ => heap_far _ ?_)
      have : w.heap.size ≤ k := hk
      show k ≠ b; omega
    · rw [R3.out]
      exact HI1.out.set _
    · exact only_trans (grownBy_of_below HB.out (some b)) (only_set b 0 _)
  · have hR : tkR got base es = ([], 16, got) := by rw [tkR, if_neg hnb, if_neg (by omega), ← eK, HN.out, if_pos hKn]
    rw [ER.out] at hR
    injection hR with r1 r2
    injection r2 with r2 r3
    have r3 := r3.symm
    subst r1 r2 r3
    have d6 : decide (n ≤ K) = true := decide_eq_true (by omega)
    clear hnb hgb hKn eK
    go_enter Try.func32, Try.ntmps32
    go_wp2_with (fail)
    go_ret2
    exact ⟨_, rfl, ⟨[], NIL.out _⟩, HI.out, World.grownBy.refl _ _⟩
end Go.Proofs.Ytgnciejbhaebeaa

/- What keys.numbers.event answers: an event read, or an error. Conditions: a reader. -/
namespace Go.Proofs.Ytgnciejbhaebeaa
open Go Go.RowKit

/-- What is known within an event's reading: the reader, the version's box, the result's cells. -/
structure EvS (w0 : World) (r g2 g4 : Nat) (f : Bool) (s : RS) (w : World) : Prop where
  rd : Rdr w r s
  b2 : w.heap[g2]? = some (.cells #[.bool f] 111 (0, 0))
  b4 : w.heap[g4]? = some (.cells #[.int .i64 0, .slice none 0 0, .int .i64 0, .int .i64 0, .int .i64 0] 36 (0, 0))
  kp : Keeps (fun j => j = r) w0 w
  lo : r < g2 ∧ g2 < g4 ∧ w0.heap.size ≤ g2
  ga : ∀ a, s.gA = some a → a.block < g2
theorem EvS.step {w0 w w' : World} {r g2 g4 : Nat} {f : Bool} {s s' : RS} (h : EvS w0 r g2 g4 f s w) (hr : Rdr w' r s') (hk : Keeps (fun j => j = r) w w') (hg : s'.gA = s.gA) : EvS w0 r g2 g4 f s' w' :=
  ⟨hr, (hk.block g2 (heap_lt h.b2) (by have := h.lo; omega)).trans h.b2, (hk.block g4 (heap_lt h.b4) (by have := h.lo; omega)).trans h.b4, h.kp.trans hk, h.lo, by rw [hg]; exact h.ga⟩
theorem EvS.c2 {w0 w : World} {r g2 g4 : Nat} {f : Bool} {s : RS} (h : EvS w0 r g2 g4 f s w) : w.cell? ⟨g2, 0, none⟩ = some (.bool f) := by rw [heap_cell h.b2]; rfl
theorem five_cells {w : World} {g : Nat} {u0 u1 u2 u3 u4 : Value} {t : TypeId} (h : w.heap[g]? = some (.cells #[u0, u1, u2, u3, u4] t (0, 0))) :
    (w.cell? ⟨g, 0, none⟩ = some u0 ∧ w.cell? ⟨g, 1, none⟩ = some u1 ∧ w.cell? ⟨g, 2, none⟩ = some u2 ∧ w.cell? ⟨g, 3, none⟩ = some u3 ∧ w.cell? ⟨g, 4, none⟩ = some u4) ∧
    (w.frozen? ⟨g, 0, none⟩ = false ∧ w.frozen? ⟨g, 1, none⟩ = false ∧ w.frozen? ⟨g, 2, none⟩ = false ∧ w.frozen? ⟨g, 3, none⟩ = false ∧ w.frozen? ⟨g, 4, none⟩ = false) :=
  ⟨⟨by rw [heap_cell h]; rfl, by rw [heap_cell h]; rfl, by rw [heap_cell h]; rfl, by rw [heap_cell h]; rfl, by rw [heap_cell h]; rfl⟩, heap_free h 0, heap_free h 1, heap_free h 2, heap_free h 3, heap_free h 4⟩
theorem Rerr_e (r : Nat) (s : RS) (E : Nat) (w : World) (h : Rdr w r s) (he : s.err = E) : Calls Try.prog 76 #[.pointer (some ⟨r, 0, none⟩)] w fun e w' => e = .returned (.int .i64 (E : Int)) ∧ w = w' := by
  subst he
  exact Rerr_c r s w h
theorem get_e (f : Bool) (r : Nat) (s s' : RS) (z : Int) (K : Nat) (w : World) (h : Rdr w r s) (hz : (Lit.int .i64 z).wf = true) (e : getR f s z = (K, s')) :
    Calls Try.prog 75 #[.agg #[.bool f], .pointer (some ⟨r, 0, none⟩), .int .i64 z] w fun e w' => e = .returned (.int .u64 (K : Int)) ∧ Rdr w' r s' ∧ Keeps (fun j => j = r) w w' := by
  have := get_c f r s z w h hz
  rw [e] at this
  exact this
theorem i64_w {n : Nat} (h : U63 n) : IntKind.i64.wrap (n : Int) = (n : Int) := by
  unfold U63 at h
  unfold IntKind.wrap
  simp [IntKind.bits, IntKind.signed]
  omega
/-- 'max(x, y, z)' of three numbers. -/
theorem wpList_max3 (w : World) {ops : Array Oper} {rest : List Oper} {o : Oper} {a : Act} {Q : Exit → Act → World → Prop} (hgd : o.guard = none) (x y z : Operand) (ts : Array TypeId)
    (ho : o.op = .call { callee := .builtin .max, args := #[x, y, z], argTypes := ts }) (X Y Z : Nat) (hx : a.eval x = .int .u64 (X : Int)) (hy : a.eval y = .int .u64 (Y : Int)) (hz : a.eval z = .int .u64 (Z : Int))
    (h : ∀ M : Nat, (255 < M ↔ 255 < X ∨ 255 < Y ∨ 255 < Z) → wpList Try.prog ops Q rest (a.put o.dst (.int .u64 (M : Int))) w) : wpList Try.prog ops Q (o :: rest) a w := by
  refine wpList_plain hgd fun K hK => ?_
  unfold Oper.wp execOp
  simp only [ho, resolve, invoke, builtin, Sem.run_bind, Sem.run_pure, Result.andThen_ok, List.map_toArray, List.map_cons, List.map_nil, hx, hy, hz, run_max_int3]
  have e : (if (Z : Int) > (if (Y : Int) > (X : Int) then (Y : Int) else (X : Int)) then (Z : Int) else (if (Y : Int) > (X : Int) then (Y : Int) else (X : Int))) = ((max (max X Y) Z : Nat) : Int) := by
    by_cases h1 : (Y : Int) > (X : Int)
    · simp only [if_pos h1]
      by_cases h2 : (Z : Int) > (Y : Int)
      · rw [if_pos h2]; omega
      · rw [if_neg h2]; omega
    · simp only [if_neg h1]
      by_cases h2 : (Z : Int) > (X : Int)
      · rw [if_pos h2]; omega
      · rw [if_neg h2]; omega
  rw [e]
  exact hK _ _ (h _ (by omega))
/-- And the event's own box. -/
structure EvB (w0 : World) (r g2 g4 g7 : Nat) (f : Bool) (s : RS) (u0 u1 u2 u3 u4 : Value) (w : World) : Prop where
  es : EvS w0 r g2 g4 f s w
  b7 : w.heap[g7]? = some (.cells #[u0, u1, u2, u3, u4] 36 (0, 0))
  lo : g4 < g7
theorem EvB.step {w0 w w' : World} {r g2 g4 g7 : Nat} {f : Bool} {s s' : RS} {u0 u1 u2 u3 u4 : Value} (h : EvB w0 r g2 g4 g7 f s u0 u1 u2 u3 u4 w) (hr : Rdr w' r s') (hk : Keeps (fun j => j = r) w w') (hg : s'.gA = s.gA) : EvB w0 r g2 g4 g7 f s' u0 u1 u2 u3 u4 w' :=
  ⟨h.es.step hr hk hg, (hk.block g7 (heap_lt h.b7) (by have := h.lo; have := h.es.lo; omega)).trans h.b7, h.lo⟩
theorem getR_ga {f : Bool} {s s' : RS} {z : Int} {K : Nat} (e : getR f s z = (K, s')) : s'.gA = s.gA := by
  have := (getR_b f s z).2
  rw [e] at this
  exact this
theorem getR_lt {f : Bool} {s s' : RS} {z : Int} {K : Nat} (e : getR f s z = (K, s')) : U64 K := by
  have := getR_u64 f s z
  rw [e] at this
  exact this
theorem Rdr.keeps {S : Nat → Prop} {w w' : World} {r : Nat} {s : RS} (h : Rdr w r s) (hk : Keeps S w w') (hr : ¬ S r) (hA : ∀ a, s.gA = some a → a.block < w.heap.size → ¬ S a.block) : Rdr w' r s := by
  obtain ⟨A, c, h1, h2, h3, h4⟩ := h
  refine ⟨A, c, (hk.block r (heap_lt h1) hr).trans h1, h2.of_blocks (fun b hb ⟨off, e⟩ => hk.block b hb ?_) hk.size, h3, h4⟩
  exact hA ⟨b, off, none⟩ (by rw [← h3.1, e]) hb
theorem Keeps.setNew {w0 w : World} {r g i : Nat} {u : Value} (h : Keeps (fun j => j = r) w0 w) (hg : w0.heap.size ≤ g) : Keeps (fun j => j = r) w0 (w.setCell ⟨g, i, none⟩ u) := by
  have hk := Keeps.set (fun j => j = g) w ⟨g, i, none⟩ u rfl
  exact ⟨hk.os.trans h.os, hk.tape.trans h.tape, hk.output.trans h.output, Nat.le_trans h.size hk.size, fun j hj hn => (hk.block j (Nat.lt_of_lt_of_le hj h.size) (by omega)).trans (h.block j hj hn)⟩
theorem EvS.far {w0 w : World} {r g2 g4 g i : Nat} {f : Bool} {s : RS} {u : Value} (h : EvS w0 r g2 g4 f s w) (hg : g4 < g) : EvS w0 r g2 g4 f s (w.setCell ⟨g, i, none⟩ u) := by
  have hl := h.lo
  exact ⟨h.rd.keeps (Keeps.set (fun j => j = g) w ⟨g, i, none⟩ u rfl) (by omega) (fun a ha _ => by have := h.ga a ha; omega), (heap_far u (by show g2 ≠ g; omega)).trans h.b2, (heap_far u (by show g4 ≠ g; omega)).trans h.b4, h.kp.setNew (by omega), h.lo, h.ga⟩
theorem EvB.set1 {w0 w : World} {r g2 g4 g7 : Nat} {f : Bool} {s : RS} {u0 u1 u2 u3 u4 u : Value} (h : EvB w0 r g2 g4 g7 f s u0 u1 u2 u3 u4 w) : EvB w0 r g2 g4 g7 f s u0 u u2 u3 u4 (w.setCell ⟨g7, 1, none⟩ u) :=
  ⟨h.es.far h.lo, by rw [heap_set h.b7 1]; rfl, h.lo⟩
theorem EvB.set234 {w0 w : World} {r g2 g4 g7 : Nat} {f : Bool} {s : RS} {u0 u1 u2 u3 u4 x y z : Value} (h : EvB w0 r g2 g4 g7 f s u0 u1 u2 u3 u4 w) : EvB w0 r g2 g4 g7 f s u0 u1 x y z (((w.setCell ⟨g7, 2, none⟩ x).setCell ⟨g7, 3, none⟩ y).setCell ⟨g7, 4, none⟩ z) := by
  have h2 := heap_set h.b7 2 x
  have h3 := heap_set h2 3 y
  have h4 := heap_set h3 4 z
  exact ⟨((h.es.far h.lo).far h.lo).far h.lo, by rw [h4]; rfl, h.lo⟩
theorem EvB.below {w0 w w' : World} {r g2 g4 g7 : Nat} {f : Bool} {s : RS} {u0 u1 u2 u3 u4 : Value} (h : EvB w0 r g2 g4 g7 f s u0 u1 u2 u3 u4 w) (hb : Below w.heap.size w w') : EvB w0 r g2 g4 g7 f s u0 u1 u2 u3 u4 w' :=
  h.step (h.es.rd.below hb) (Keeps.of_below hb _ (fun _ hk _ => hk)) rfl
/-- The bytes of a text that was taken. -/
theorem EvB.took {w0 w w' : World} {r g2 g4 g7 : Nat} {f : Bool} {s s' : RS} {u0 u1 u2 u3 u4 : Value} {A : Option Addr} {n c : Nat} {bs : List UInt8} (h : EvB w0 r g2 g4 g7 f s u0 u1 u2 u3 u4 w) (hr : Rdr w' r s') (hk : Keeps (fun j => j = r) w w') (hg : s'.gA = s.gA) (ho : OwnB w' w.heap.size (.slice A n c) bs) (hn : bs.length = n) (hl : n ≤ 140737488355328) :
    EvB w0 r g2 g4 g7 f s' u0 (.slice A n c) u2 u3 u4 (w'.setCell ⟨g7, 1, none⟩ (.slice A n c)) ∧ TxtO (fun j => w0.heap.size ≤ j ∧ j ≠ g4) (w'.setCell ⟨g7, 1, none⟩ (.slice A n c)) A n c bs := by
  have h7 := heap_lt h.b7
  have hlo := h.lo
  have hl2 := h.es.lo
  have hown := Own.lt ho
  refine ⟨(h.step hr hk hg).set1, hn, Own.frameK (Own.low ho (Nat.zero_le _)) (fun g eg => heap_far _ (by have := (hown g eg).1; show g ≠ g7; omega)), fun a ea => ?_, hl⟩
  have := (hown a.block (by rw [ea]; rfl)).1
  exact ⟨by omega, by omega⟩
/-- What is answered: the error, and an event of one's own where there is none. -/
def EvQ (w0 : World) (r : Nat) (R : Nat × Ev × RS) (res : Ending) (w' : World) : Prop := ∃ d : EvV, res = .returned (.tuple #[.agg #[.int .i64 d.k, .slice d.A d.n d.c, .int .i64 d.x, .int .i64 d.y, .int .i64 d.b], .int .i64 (R.1 : Int)]) ∧
  (R.1 = 0 → EvO (w0.heap.size ≤ ·) w' d R.2.1) ∧ Rdr w' r R.2.2 ∧ Keeps (fun j => j = r) w0 w'

/-- Five cells stored. -/
def set5 (w : World) (g : Nat) (u0 u1 u2 u3 u4 : Value) : World := ((((w.setCell ⟨g, 0, none⟩ u0).setCell ⟨g, 1, none⟩ u1).setCell ⟨g, 2, none⟩ u2).setCell ⟨g, 3, none⟩ u3).setCell ⟨g, 4, none⟩ u4
theorem set5_heap {w : World} {g : Nat} {a0 a1 a2 a3 a4 u0 u1 u2 u3 u4 : Value} {t : TypeId} (h : w.heap[g]? = some (.cells #[a0, a1, a2, a3, a4] t (0, 0))) : (set5 w g u0 u1 u2 u3 u4).heap[g]? = some (.cells #[u0, u1, u2, u3, u4] t (0, 0)) := by
  unfold set5
  have h1 := heap_set h 0 u0
  have h2 := heap_set h1 1 u1
  have h3 := heap_set h2 2 u2
  have h4 := heap_set h3 3 u3
  have h5 := heap_set h4 4 u4
  rw [h5]
  rfl
theorem set5_keeps (w : World) (g : Nat) (u0 u1 u2 u3 u4 : Value) : Keeps (fun j => j = g) w (set5 w g u0 u1 u2 u3 u4) :=
  ((((Keeps.set (fun j => j = g) w ⟨g, 0, none⟩ u0 rfl).trans (Keeps.set _ _ ⟨g, 1, none⟩ u1 rfl)).trans (Keeps.set _ _ ⟨g, 2, none⟩ u2 rfl)).trans (Keeps.set _ _ ⟨g, 3, none⟩ u3 rfl)).trans (Keeps.set _ _ ⟨g, 4, none⟩ u4 rfl)
/-- The end: the result's cells are stored. -/
theorem EvS.ends {w0 w : World} {r g2 g4 : Nat} {f : Bool} {s : RS} {R : Nat × Ev × RS} (h : EvS w0 r g2 g4 f s w) (d : EvV) (er : Nat) (e : Ev) (hR : R = (er, e, s)) (hd : er = 0 → EvO (fun j => w0.heap.size ≤ j ∧ j ≠ g4) w d e) :
    EvQ w0 r R (.returned (.tuple #[.agg #[.int .i64 d.k, .slice d.A d.n d.c, .int .i64 d.x, .int .i64 d.y, .int .i64 d.b], .int .i64 (er : Int)])) (set5 w g4 (.int .i64 d.k) (.slice d.A d.n d.c) (.int .i64 d.x) (.int .i64 d.y) (.int .i64 d.b)) := by
  subst hR
  have hl := h.lo
  have hk := set5_keeps w g4 (.int .i64 d.k) (.slice d.A d.n d.c) (.int .i64 d.x) (.int .i64 d.y) (.int .i64 d.b)
  refine ⟨d, rfl, fun he => ?_, h.rd.keeps hk (by omega) (fun a ha _ => by have := h.ga a ha; omega), ⟨hk.os.trans h.kp.os, hk.tape.trans h.kp.tape, hk.output.trans h.kp.output, Nat.le_trans h.kp.size hk.size, fun j hj hn => (hk.block j (Nat.lt_of_lt_of_le hj h.kp.size) (by omega)).trans (h.kp.block j hj hn)⟩⟩
  exact ((hd he).frame (fun k hk' hl' => hk.block k hl' hk'.2)).weak (fun k hk' _ => hk'.1)

end Go.Proofs.Ytgnciejbhaebeaa

/- The world within the reference's reading of an event. Conditions: a reader. -/
namespace Go.Proofs.Ytgnciejbhaebeaa
open Go Go.RowKit

/-- Three cells stored. -/
def set3 (w : World) (g : Nat) (u0 u1 u2 : Value) : World := ((w.setCell ⟨g, 0, none⟩ u0).setCell ⟨g, 1, none⟩ u1).setCell ⟨g, 2, none⟩ u2
theorem set3_heap {w : World} {g : Nat} {a0 a1 a2 u0 u1 u2 : Value} {t : TypeId} (h : w.heap[g]? = some (.cells #[a0, a1, a2] t (0, 0))) : (set3 w g u0 u1 u2).heap[g]? = some (.cells #[u0, u1, u2] t (0, 0)) := by
  unfold set3
  have h1 := heap_set h 0 u0
  have h2 := heap_set h1 1 u1
  have h3 := heap_set h2 2 u2
  rw [h3]
  rfl
theorem set3_keeps (w : World) (g : Nat) (u0 u1 u2 : Value) : Keeps (fun j => j = g) w (set3 w g u0 u1 u2) :=
  ((Keeps.set (fun j => j = g) w ⟨g, 0, none⟩ u0 rfl).trans (Keeps.set _ _ ⟨g, 1, none⟩ u1 rfl)).trans (Keeps.set _ _ ⟨g, 2, none⟩ u2 rfl)
theorem below_keeps {w0 w w' : World} {S : Nat → Prop} (h : Below w0.heap.size w0 w) (hk : Keeps S w w') (hS : ∀ j, S j → w0.heap.size ≤ j) : Below w0.heap.size w0 w' :=
  h.trans (hk.below (fun j hj => ⟨Nat.lt_of_lt_of_le hj h.size, fun e => by have := hS j e; omega⟩))
/-- A reader's three cells in a block. -/
def RdB (w : World) (g : Nat) (A : Option Addr) (c : Nat) (s : RS) : Prop := w.heap[g]? = some (.cells #[.slice A s.b.length c, .int .i64 (s.at_ : Int), .int .i64 (s.err : Int)] 142 (0, 0))
theorem RdB.cells {w : World} {g c : Nat} {A : Option Addr} {s : RS} (h : RdB w g A c s) : (w.cell? ⟨g, 0, none⟩ = some (.slice A s.b.length c) ∧ w.cell? ⟨g, 1, none⟩ = some (.int .i64 (s.at_ : Int)) ∧ w.cell? ⟨g, 2, none⟩ = some (.int .i64 (s.err : Int))) ∧ w.frozen? ⟨g, 0, none⟩ = false ∧ w.frozen? ⟨g, 1, none⟩ = false ∧ w.frozen? ⟨g, 2, none⟩ = false := box3 h
structure RvS (w0 : World) (g3 g4 g5 g7 : Nat) (A : Option Addr) (c : Nat) (s : RS) (u0 u1 u2 u3 u4 : Value) (w : World) : Prop where
  ok0 : RsOk w0 A c s
  b3 : RdB w g3 A c s
  b4 : w.heap[g4]? = some (.cells #[.int .i64 0, .slice none 0 0, .int .i64 0, .int .i64 0, .int .i64 0] 36 (0, 0))
  b5 : w.heap[g5]? = some (.cells #[.slice none 0 0, .int .i64 0, .int .i64 0] 142 (0, 0))
  b7 : w.heap[g7]? = some (.cells #[u0, u1, u2, u3, u4] 36 (0, 0))
  bel : Below w0.heap.size w0 w
  lo : w0.heap.size ≤ g3 ∧ g3 < g4 ∧ g4 < g5 ∧ g5 < g7
section
variable {w0 w w' : World} {g3 g4 g5 g7 c : Nat} {A : Option Addr} {s s' : RS} {u0 u1 u2 u3 u4 : Value}
theorem RvS.ok (h : RvS w0 g3 g4 g5 g7 A c s u0 u1 u2 u3 u4 w) : RsOk w A c s := h.ok0.below h.bel
theorem RvS.below (h : RvS w0 g3 g4 g5 g7 A c s u0 u1 u2 u3 u4 w) (hb : Below w.heap.size w w') : RvS w0 g3 g4 g5 g7 A c s u0 u1 u2 u3 u4 w' :=
  ⟨h.ok0, (hb.block g3 (heap_lt h.b3)).trans h.b3, (hb.block g4 (heap_lt h.b4)).trans h.b4, (hb.block g5 (heap_lt h.b5)).trans h.b5, (hb.block g7 (heap_lt h.b7)).trans h.b7, h.bel.trans (hb.mono h.bel.size), h.lo⟩
/-- What is written elsewhere. -/
theorem RvS.far {S : Nat → Prop} (h : RvS w0 g3 g4 g5 g7 A c s u0 u1 u2 u3 u4 w) (hk : Keeps S w w') (hS : ∀ j, S j → g7 < j) : RvS w0 g3 g4 g5 g7 A c s u0 u1 u2 u3 u4 w' := by
  have hl := h.lo
  exact ⟨h.ok0, (hk.block g3 (heap_lt h.b3) (fun e => by have := hS _ e; omega)).trans h.b3, (hk.block g4 (heap_lt h.b4) (fun e => by have := hS _ e; omega)).trans h.b4, (hk.block g5 (heap_lt h.b5) (fun e => by have := hS _ e; omega)).trans h.b5, (hk.block g7 (heap_lt h.b7) (fun e => by have := hS _ e; omega)).trans h.b7,
    below_keeps h.bel hk (fun j e => by have := hS _ e; omega), h.lo⟩
/-- Another reader is stored. -/
theorem RvS.setR (h : RvS w0 g3 g4 g5 g7 A c s u0 u1 u2 u3 u4 w) (hs : RsOk w0 A c s') : RvS w0 g3 g4 g5 g7 A c s' u0 u1 u2 u3 u4 (set3 w g3 (.slice A s'.b.length c) (.int .i64 (s'.at_ : Int)) (.int .i64 (s'.err : Int))) := by
  have hl := h.lo
  have hk := set3_keeps w g3 (.slice A s'.b.length c) (.int .i64 (s'.at_ : Int)) (.int .i64 (s'.err : Int))
  exact ⟨hs, set3_heap h.b3, (hk.block g4 (heap_lt h.b4) (by omega)).trans h.b4, (hk.block g5 (heap_lt h.b5) (by omega)).trans h.b5, (hk.block g7 (heap_lt h.b7) (by omega)).trans h.b7, below_keeps h.bel hk (fun j e => by omega), h.lo⟩
theorem RvS.set0 {u : Value} (h : RvS w0 g3 g4 g5 g7 A c s u0 u1 u2 u3 u4 w) : RvS w0 g3 g4 g5 g7 A c s u u1 u2 u3 u4 (w.setCell ⟨g7, 0, none⟩ u) := by
  have hl := h.lo
  have hk := Keeps.set (fun j => j = g7) w ⟨g7, 0, none⟩ u rfl
  exact ⟨h.ok0, (hk.block g3 (heap_lt h.b3) (by omega)).trans h.b3, (hk.block g4 (heap_lt h.b4) (by omega)).trans h.b4, (hk.block g5 (heap_lt h.b5) (by omega)).trans h.b5, by rw [heap_set h.b7 0]; rfl, below_keeps h.bel hk (fun j e => by omega), h.lo⟩
theorem RvS.set1 {u : Value} (h : RvS w0 g3 g4 g5 g7 A c s u0 u1 u2 u3 u4 w) : RvS w0 g3 g4 g5 g7 A c s u0 u u2 u3 u4 (w.setCell ⟨g7, 1, none⟩ u) := by
  have hl := h.lo
  have hk := Keeps.set (fun j => j = g7) w ⟨g7, 1, none⟩ u rfl
  exact ⟨h.ok0, (hk.block g3 (heap_lt h.b3) (by omega)).trans h.b3, (hk.block g4 (heap_lt h.b4) (by omega)).trans h.b4, (hk.block g5 (heap_lt h.b5) (by omega)).trans h.b5, by rw [heap_set h.b7 1]; rfl, below_keeps h.bel hk (fun j e => by omega), h.lo⟩
theorem RvS.set2 {u : Value} (h : RvS w0 g3 g4 g5 g7 A c s u0 u1 u2 u3 u4 w) : RvS w0 g3 g4 g5 g7 A c s u0 u1 u u3 u4 (w.setCell ⟨g7, 2, none⟩ u) := by
  have hl := h.lo
  have hk := Keeps.set (fun j => j = g7) w ⟨g7, 2, none⟩ u rfl
  exact ⟨h.ok0, (hk.block g3 (heap_lt h.b3) (by omega)).trans h.b3, (hk.block g4 (heap_lt h.b4) (by omega)).trans h.b4, (hk.block g5 (heap_lt h.b5) (by omega)).trans h.b5, by rw [heap_set h.b7 2]; rfl, below_keeps h.bel hk (fun j e => by omega), h.lo⟩
theorem RvS.set3_ {u : Value} (h : RvS w0 g3 g4 g5 g7 A c s u0 u1 u2 u3 u4 w) : RvS w0 g3 g4 g5 g7 A c s u0 u1 u2 u u4 (w.setCell ⟨g7, 3, none⟩ u) := by
  have hl := h.lo
  have hk := Keeps.set (fun j => j = g7) w ⟨g7, 3, none⟩ u rfl
  exact ⟨h.ok0, (hk.block g3 (heap_lt h.b3) (by omega)).trans h.b3, (hk.block g4 (heap_lt h.b4) (by omega)).trans h.b4, (hk.block g5 (heap_lt h.b5) (by omega)).trans h.b5, by rw [heap_set h.b7 3]; rfl, below_keeps h.bel hk (fun j e => by omega), h.lo⟩
theorem RvS.set4 {u : Value} (h : RvS w0 g3 g4 g5 g7 A c s u0 u1 u2 u3 u4 w) : RvS w0 g3 g4 g5 g7 A c s u0 u1 u2 u3 u (w.setCell ⟨g7, 4, none⟩ u) := by
  have hl := h.lo
  have hk := Keeps.set (fun j => j = g7) w ⟨g7, 4, none⟩ u rfl
  exact ⟨h.ok0, (hk.block g3 (heap_lt h.b3) (by omega)).trans h.b3, (hk.block g4 (heap_lt h.b4) (by omega)).trans h.b4, (hk.block g5 (heap_lt h.b5) (by omega)).trans h.b5, by rw [heap_set h.b7 4]; rfl, below_keeps h.bel hk (fun j e => by omega), h.lo⟩
/-- All cells that a return looks at. -/
theorem RvS.facts (h : RvS w0 g3 g4 g5 g7 A c s u0 u1 u2 u3 u4 w) :
    ((w.cell? ⟨g3, 0, none⟩ = some (.slice A s.b.length c) ∧ w.cell? ⟨g3, 1, none⟩ = some (.int .i64 (s.at_ : Int)) ∧ w.cell? ⟨g3, 2, none⟩ = some (.int .i64 (s.err : Int))) ∧ w.frozen? ⟨g3, 0, none⟩ = false ∧ w.frozen? ⟨g3, 1, none⟩ = false ∧ w.frozen? ⟨g3, 2, none⟩ = false) ∧
    ((w.cell? ⟨g7, 0, none⟩ = some u0 ∧ w.cell? ⟨g7, 1, none⟩ = some u1 ∧ w.cell? ⟨g7, 2, none⟩ = some u2 ∧ w.cell? ⟨g7, 3, none⟩ = some u3 ∧ w.cell? ⟨g7, 4, none⟩ = some u4) ∧ w.frozen? ⟨g7, 0, none⟩ = false ∧ w.frozen? ⟨g7, 1, none⟩ = false ∧ w.frozen? ⟨g7, 2, none⟩ = false ∧ w.frozen? ⟨g7, 3, none⟩ = false ∧ w.frozen? ⟨g7, 4, none⟩ = false) ∧
    ((w.cell? ⟨g4, 0, none⟩ = some (.int .i64 0) ∧ w.cell? ⟨g4, 1, none⟩ = some (.slice none 0 0) ∧ w.cell? ⟨g4, 2, none⟩ = some (.int .i64 0) ∧ w.cell? ⟨g4, 3, none⟩ = some (.int .i64 0) ∧ w.cell? ⟨g4, 4, none⟩ = some (.int .i64 0)) ∧ w.frozen? ⟨g4, 0, none⟩ = false ∧ w.frozen? ⟨g4, 1, none⟩ = false ∧ w.frozen? ⟨g4, 2, none⟩ = false ∧ w.frozen? ⟨g4, 3, none⟩ = false ∧ w.frozen? ⟨g4, 4, none⟩ = false) ∧
    ((w.cell? ⟨g5, 0, none⟩ = some (.slice none 0 0) ∧ w.cell? ⟨g5, 1, none⟩ = some (.int .i64 0) ∧ w.cell? ⟨g5, 2, none⟩ = some (.int .i64 0)) ∧ w.frozen? ⟨g5, 0, none⟩ = false ∧ w.frozen? ⟨g5, 1, none⟩ = false ∧ w.frozen? ⟨g5, 2, none⟩ = false) ∧
    ((¬ g4 = g3 ∧ ¬ g3 = g4 ∧ ¬ g5 = g3 ∧ ¬ g3 = g5) ∧ (¬ g7 = g4 ∧ ¬ g4 = g7 ∧ ¬ g7 = g5 ∧ ¬ g5 = g7) ∧ ¬ g5 = g4 ∧ ¬ g4 = g5) := by
  have hl := h.lo
  exact ⟨h.b3.cells, five_cells h.b7, five_cells h.b4, box3 h.b5, ⟨by omega, by omega, by omega, by omega⟩, ⟨by omega, by omega, by omega, by omega⟩, by omega, by omega⟩
end
/-- What is answered: the error, and where there is none an event of one's own and the reader behind it. -/
def EvQr (w0 : World) (A : Option Addr) (c : Nat) (R : Nat × Ev × RS) (res : Ending) (w' : World) : Prop := ∃ (d : EvV) (s : RS), res = .returned (.tuple #[.agg #[.int .i64 d.k, .slice d.A d.n d.c, .int .i64 d.x, .int .i64 d.y, .int .i64 d.b], .agg #[.slice A s.b.length c, .int .i64 (s.at_ : Int), .int .i64 (s.err : Int)], .int .i64 (R.1 : Int)]) ∧
  (R.1 = 0 → EvO (w0.heap.size ≤ ·) w' d R.2.1 ∧ s = R.2.2) ∧ Below w0.heap.size w0 w'
theorem RvS.ends {w0 w : World} {g3 g4 g5 g7 c : Nat} {A : Option Addr} {s0 : RS} {u0 u1 u2 u3 u4 : Value} {R : Nat × Ev × RS} (h : RvS w0 g3 g4 g5 g7 A c s0 u0 u1 u2 u3 u4 w) (d : EvV) (s : RS) (er : Nat) (e : Ev) (s' : RS) (hR : R = (er, e, s')) (hd : er = 0 → EvO (fun j => w0.heap.size ≤ j ∧ j ≠ g4 ∧ j ≠ g5) w d e ∧ s = s') :
    EvQr w0 A c R (.returned (.tuple #[.agg #[.int .i64 d.k, .slice d.A d.n d.c, .int .i64 d.x, .int .i64 d.y, .int .i64 d.b], .agg #[.slice A s.b.length c, .int .i64 (s.at_ : Int), .int .i64 (s.err : Int)], .int .i64 (er : Int)]))
      (set3 (set5 w g4 (.int .i64 d.k) (.slice d.A d.n d.c) (.int .i64 d.x) (.int .i64 d.y) (.int .i64 d.b)) g5 (.slice A s.b.length c) (.int .i64 (s.at_ : Int)) (.int .i64 (s.err : Int))).drew := by
  subst hR
  have hl := h.lo
  have k1 := set5_keeps w g4 (.int .i64 d.k) (.slice d.A d.n d.c) (.int .i64 d.x) (.int .i64 d.y) (.int .i64 d.b)
  have k2 := set3_keeps (set5 w g4 (.int .i64 d.k) (.slice d.A d.n d.c) (.int .i64 d.x) (.int .i64 d.y) (.int .i64 d.b)) g5 (.slice A s.b.length c) (.int .i64 (s.at_ : Int)) (.int .i64 (s.err : Int))
  have k := (k1.mono (T := fun j => j = g4 ∨ j = g5) (fun j e => .inl e)).trans (k2.mono (fun j e => .inr e))
  clear k1 k2
  generalize (set3 (set5 w g4 (.int .i64 d.k) (.slice d.A d.n d.c) (.int .i64 d.x) (.int .i64 d.y) (.int .i64 d.b)) g5 (.slice A s.b.length c) (.int .i64 (s.at_ : Int)) (.int .i64 (s.err : Int))) = W at k ⊢
  refine ⟨d, s, rfl, fun he => ⟨?_, (hd he).2⟩, (below_keeps h.bel k (fun j e => by omega)).drew⟩
  have := (hd he).1.frame (w' := W.drew) (fun j hj hjl => k.block j hjl (by have := hj.2; omega))
  exact this.weak (fun j hj _ => hj.1)
end Go.Proofs.Ytgnciejbhaebeaa

/- What the reference's event answers: no kind. Conditions: a reader. -/
namespace Go.Proofs.Ytgnciejbhaebeaa
open Go Go.RowKit

theorem RvS_start {w wa : World} {A : Option Addr} {c g3 g4 g5 g7 : Nat} {s : RS} (h : RsOk w A c s) (ewa : wa = (((w.alloc (.cells #[.slice A s.b.length c, .int .i64 (s.at_ : Int), .int .i64 (s.err : Int)] 142)).alloc (.cells #[.int .i64 0, .slice none 0 0, .int .i64 0, .int .i64 0, .int .i64 0] 36)).alloc (.cells #[.slice none 0 0, .int .i64 0, .int .i64 0] 142)).alloc (.cells #[.int .i64 0, .slice none 0 0, .int .i64 0, .int .i64 0, .int .i64 0] 36))
    (eg3 : g3 = w.heap.size) (eg4 : g4 = g3 + 1) (eg5 : g5 = g4 + 1) (eg7 : g7 = g5 + 1) : RvS w g3 g4 g5 g7 A c s (.int .i64 0) (.slice none 0 0) (.int .i64 0) (.int .i64 0) (.int .i64 0) wa := by
  subst eg3 eg4 eg5 eg7
  generalize hb1 : Obj.cells #[.slice A s.b.length c, .int .i64 (s.at_ : Int), .int .i64 (s.err : Int)] 142 = b1 at ewa
  generalize hb2 : Obj.cells #[.int .i64 0, .slice none 0 0, .int .i64 0, .int .i64 0, .int .i64 0] 36 = b2 at ewa
  generalize hb3 : Obj.cells #[.slice none 0 0, .int .i64 0, .int .i64 0] 142 = b3 at ewa
  have s1 : (w.alloc b1).heap.size = w.heap.size + 1 := by simp
  have s2 : ((w.alloc b1).alloc b2).heap.size = w.heap.size + 1 + 1 := by simp
  have s3 : (((w.alloc b1).alloc b2).alloc b3).heap.size = w.heap.size + 1 + 1 + 1 := by simp
  refine ⟨h, ?_, ?_, ?_, ?_, ?_, by omega⟩
  · unfold RdB
    rw [ewa, Below.heap_alloc _ _ _ (by omega), Below.heap_alloc _ _ _ (by omega), Below.heap_alloc _ _ _ (by omega), heap_alloc_new, ← hb1]
  · rw [ewa, Below.heap_alloc _ _ _ (by omega), Below.heap_alloc _ _ _ (by omega), ← s1, heap_alloc_new, ← hb2]
  · rw [ewa, Below.heap_alloc _ _ _ (by omega), ← s2, heap_alloc_new, ← hb3]
  · rw [ewa, ← s3, heap_alloc_new, ← hb2]
  · rw [ewa]
    exact ((((Below.refl _ _).alloc (Nat.le_refl _) _).alloc (by omega) _).alloc (by omega) _).alloc (by omega) _

set_option maxRecDepth 100000 in
set_option maxHeartbeats 4000000 in
theorem refEvent_p (ver : Int) (A : Option Addr) (c : Nat) (s : RS) (w : World) (h : RsOk w A c s) (hyp : (getR (decide (ver = 1)) s 1).2.err ≠ 0 ∨ (getR (decide (ver = 1)) s 1).1 < 1 ∨ 4 < (getR (decide (ver = 1)) s 1).1) : Calls Try.prog 80 #[.int .i64 ver, rsV A c s] w (EvQr w A c (evR (decide (ver = 1)) s)) := by
  have HYP := Lib.hid hyp; clear hyp
  obtain ⟨R, eR⟩ : ∃ R, R = evR (decide (ver = 1)) s := ⟨_, rfl⟩
  rw [← eR]
  have ER := Lib.hid eR; clear eR
  obtain ⟨wa, ewa⟩ : ∃ wa, wa = (((w.alloc (.cells #[.slice A s.b.length c, .int .i64 (s.at_ : Int), .int .i64 (s.err : Int)] 142)).alloc (.cells #[.int .i64 0, .slice none 0 0, .int .i64 0, .int .i64 0, .int .i64 0] 36)).alloc (.cells #[.slice none 0 0, .int .i64 0, .int .i64 0] 142)).alloc (.cells #[.int .i64 0, .slice none 0 0, .int .i64 0, .int .i64 0, .int .i64 0] 36) := ⟨_, rfl⟩
  obtain ⟨g3, eg3⟩ : ∃ g3, g3 = w.heap.size := ⟨_, rfl⟩
  obtain ⟨g4, eg4⟩ : ∃ g4, g4 = g3 + 1 := ⟨_, rfl⟩
  obtain ⟨g5, eg5⟩ : ∃ g5, g5 = g4 + 1 := ⟨_, rfl⟩
  obtain ⟨g7, eg7⟩ : ∃ g7, g7 = g5 + 1 := ⟨_, rfl⟩
  have HS := Lib.hid (RvS_start h ewa eg3 eg4 eg5 eg7)
  have EWA := Lib.hid ewa
  have EG3 := Lib.hid eg3
  have EG4 := Lib.hid eg4
  have EG5 := Lib.hid eg5
  have EG7 := Lib.hid eg7
  obtain ⟨K, s1, eA⟩ : ∃ K s1, getR (decide (ver = 1)) s 1 = (K, s1) := ⟨_, _, rfl⟩
  have hku := getR_lt eA
  have HKZ : Hid (s1.err ≠ 0 → K = 0) := Lib.hid (by have := getR_zero (f := decide (ver = 1)) (s := s) (z := 1); rw [eA] at this; exact this)
  have OK1 := Lib.hid (getR_ok h eA).1
  have EA := Lib.hid eA
  clear ewa eg3 eg4 eg5 eg7 h eA
  unfold rsV
  go_enter Try.func80, Try.ntmps80
  go_wp2_with (fail)
  rw [← EWA.out, ← EG3.out, ← EG4.out, ← EG5.out, ← EG7.out]
  refine (refRead_c ver A c s s1 1 K wa HS.out.ok (by decide) EA.out).mono ?_
  rintro e w1 ⟨rfl, hb1⟩
  unfold rsV
  have HS1 := Lib.hid (HS.out.below hb1)
  clear hb1 HS EWA EG3 EG4 EG5 EG7
  obtain ⟨⟨⟨x0, x1, x2⟩, xf0, xf1, xf2⟩, ⟨⟨y0, y1, y2, y3, y4⟩, yf0, yf1, yf2, yf3, yf4⟩, ⟨⟨z0, z1, z2, z3, z4⟩, zf0, zf1, zf2, zf3, zf4⟩, ⟨⟨q0, q1, q2⟩, qf0, qf1, qf2⟩, ⟨n1, n2, n3, n4⟩, ⟨n5, n6, n7, n8⟩, n9, n10⟩ := HS1.out.facts
  obtain ⟨w2, ew2⟩ : ∃ w2, w2 = set3 w1 g3 (.slice A s1.b.length c) (.int .i64 (s1.at_ : Int)) (.int .i64 (s1.err : Int)) := ⟨_, rfl⟩
  have HS2 := Lib.hid (ew2 ▸ HS1.out.setR OK1.out)
  unfold set3 at ew2
  have EW2 := Lib.hid ew2; clear ew2
  have hyp := HYP.out
  rw [EA.out] at hyp
  replace hyp : s1.err ≠ 0 ∨ K < 1 ∨ 4 < K := hyp
  by_cases he : s1.err = 0
  · have hk : K < 1 ∨ 4 < K := by
      rcases hyp with h | h
      · exact absurd he h
      · exact h
    clear hyp
    have hR : R = (3, ev0, s1) := by rw [ER.out, evR, EA.out, if_neg (by simpa using he), if_pos hk]
    have HR := Lib.hid hR; clear hR
    have e0 : ((s1.err : Int) != 0) = false := by rw [bne_eq_false_iff_eq]; omega
    have HE := Lib.hid he; clear he
    rcases hk with hk | hk
    · have hk0 : ((K : Int) < 1) := by omega
      go_upto_region 6 with (fail)
      rw [← EW2.out]
      clear x0 x1 x2 xf0 xf1 xf2 y0 y1 y2 y3 y4 yf0 yf1 yf2 yf3 yf4 z0 z1 z2 z3 z4 zf0 zf1 zf2 zf3 zf4 q0 q1 q2 qf0 qf1 qf2 n1 n2 n3 n4 n5 n6 n7 n8 n9 n10 EW2
      obtain ⟨⟨⟨x0, x1, x2⟩, xf0, xf1, xf2⟩, ⟨⟨y0, y1, y2, y3, y4⟩, yf0, yf1, yf2, yf3, yf4⟩, ⟨⟨z0, z1, z2, z3, z4⟩, zf0, zf1, zf2, zf3, zf4⟩, ⟨⟨q0, q1, q2⟩, qf0, qf1, qf2⟩, ⟨n1, n2, n3, n4⟩, ⟨n5, n6, n7, n8⟩, n9, n10⟩ := HS2.out.facts
      go_region
      go_wp2_with (fail)
      refine bodyPost_ret (v := .tuple #[.agg #[.int .i64 0, .slice none 0 0, .int .i64 0, .int .i64 0, .int .i64 0], .agg #[.slice A s1.b.length c, .int .i64 (s1.at_ : Int), .int .i64 (s1.err : Int)], .int .i64 3]) (by simp [results, Try.results80, go_sem, z0, z1, z2, z3, z4, q0, q1, q2, n9, n10]) rfl (HS2.out.ends ⟨0, none, 0, 0, 0, 0, 0⟩ s1 3 _ _ HR.out (fun h => by cases h))
    · have hk0 : ¬ ((K : Int) < 1) := by omega
      have hk4 : ((4 : Int) < (K : Int)) := by omega
      go_upto_region 6 with (fail)
      rw [← EW2.out]
      clear x0 x1 x2 xf0 xf1 xf2 y0 y1 y2 y3 y4 yf0 yf1 yf2 yf3 yf4 z0 z1 z2 z3 z4 zf0 zf1 zf2 zf3 zf4 q0 q1 q2 qf0 qf1 qf2 n1 n2 n3 n4 n5 n6 n7 n8 n9 n10 EW2
      obtain ⟨⟨⟨x0, x1, x2⟩, xf0, xf1, xf2⟩, ⟨⟨y0, y1, y2, y3, y4⟩, yf0, yf1, yf2, yf3, yf4⟩, ⟨⟨z0, z1, z2, z3, z4⟩, zf0, zf1, zf2, zf3, zf4⟩, ⟨⟨q0, q1, q2⟩, qf0, qf1, qf2⟩, ⟨n1, n2, n3, n4⟩, ⟨n5, n6, n7, n8⟩, n9, n10⟩ := HS2.out.facts
      go_region
      go_wp2_with (fail)
      refine bodyPost_ret (v := .tuple #[.agg #[.int .i64 0, .slice none 0 0, .int .i64 0, .int .i64 0, .int .i64 0], .agg #[.slice A s1.b.length c, .int .i64 (s1.at_ : Int), .int .i64 (s1.err : Int)], .int .i64 3]) (by simp [results, Try.results80, go_sem, z0, z1, z2, z3, z4, q0, q1, q2, n9, n10]) rfl (HS2.out.ends ⟨0, none, 0, 0, 0, 0, 0⟩ s1 3 _ _ HR.out (fun h => by cases h))
  · have hR : R = (s1.err, ev0, s1) := by rw [ER.out, evR, EA.out, if_pos he]
    have HR := Lib.hid hR; clear hR
    have e0 : ((s1.err : Int) != 0) = true := by rw [bne_iff_ne]; omega
    have HE := Lib.hid he; clear he hyp
    go_upto_region 4 with (fail)
    rw [← EW2.out]
    clear x0 x1 x2 xf0 xf1 xf2 y0 y1 y2 y3 y4 yf0 yf1 yf2 yf3 yf4 z0 z1 z2 z3 z4 zf0 zf1 zf2 zf3 zf4 q0 q1 q2 qf0 qf1 qf2 n1 n2 n3 n4 n5 n6 n7 n8 n9 n10 EW2
    obtain ⟨⟨⟨x0, x1, x2⟩, xf0, xf1, xf2⟩, ⟨⟨y0, y1, y2, y3, y4⟩, yf0, yf1, yf2, yf3, yf4⟩, ⟨⟨z0, z1, z2, z3, z4⟩, zf0, zf1, zf2, zf3, zf4⟩, ⟨⟨q0, q1, q2⟩, qf0, qf1, qf2⟩, ⟨n1, n2, n3, n4⟩, ⟨n5, n6, n7, n8⟩, n9, n10⟩ := HS2.out.facts
    go_region
    go_wp2_with (fail)
    refine bodyPost_ret (v := .tuple #[.agg #[.int .i64 0, .slice none 0 0, .int .i64 0, .int .i64 0, .int .i64 0], .agg #[.slice A s1.b.length c, .int .i64 (s1.at_ : Int), .int .i64 (s1.err : Int)], .int .i64 (s1.err : Int)]) (by simp [results, Try.results80, go_sem, z0, z1, z2, z3, z4, q0, q1, q2, n9, n10]) rfl (HS2.out.ends ⟨0, none, 0, 0, 0, 0, 0⟩ s1 s1.err _ _ HR.out (fun h => absurd h HE.out))
end Go.Proofs.Ytgnciejbhaebeaa

/- What the reference's event answers: a text. Conditions: a reader. -/
namespace Go.Proofs.Ytgnciejbhaebeaa
open Go Go.RowKit

theorem RvS.set7_keeps {w : World} {g7 i : Nat} {u : Value} : Keeps (fun j => j = g7) w (w.setCell ⟨g7, i, none⟩ u) := Keeps.set _ w ⟨g7, i, none⟩ u rfl

set_option maxRecDepth 100000 in
set_option maxHeartbeats 4000000 in
theorem refEvent_t (ver : Int) (A : Option Addr) (c : Nat) (s : RS) (w : World) (h : RsOk w A c s) (hyp : (getR (decide (ver = 1)) s 1).2.err = 0 ∧ ((getR (decide (ver = 1)) s 1).1 = 1 ∨ (getR (decide (ver = 1)) s 1).1 = 2)) : Calls Try.prog 80 #[.int .i64 ver, rsV A c s] w (EvQr w A c (evR (decide (ver = 1)) s)) := by
  have HYP := Lib.hid hyp; clear hyp
  obtain ⟨R, eR⟩ : ∃ R, R = evR (decide (ver = 1)) s := ⟨_, rfl⟩
  rw [← eR]
  have ER := Lib.hid eR; clear eR
  obtain ⟨wa, ewa⟩ : ∃ wa, wa = (((w.alloc (.cells #[.slice A s.b.length c, .int .i64 (s.at_ : Int), .int .i64 (s.err : Int)] 142)).alloc (.cells #[.int .i64 0, .slice none 0 0, .int .i64 0, .int .i64 0, .int .i64 0] 36)).alloc (.cells #[.slice none 0 0, .int .i64 0, .int .i64 0] 142)).alloc (.cells #[.int .i64 0, .slice none 0 0, .int .i64 0, .int .i64 0, .int .i64 0] 36) := ⟨_, rfl⟩
  obtain ⟨g3, eg3⟩ : ∃ g3, g3 = w.heap.size := ⟨_, rfl⟩
  obtain ⟨g4, eg4⟩ : ∃ g4, g4 = g3 + 1 := ⟨_, rfl⟩
  obtain ⟨g5, eg5⟩ : ∃ g5, g5 = g4 + 1 := ⟨_, rfl⟩
  obtain ⟨g7, eg7⟩ : ∃ g7, g7 = g5 + 1 := ⟨_, rfl⟩
  have HS := Lib.hid (RvS_start h ewa eg3 eg4 eg5 eg7)
  have EWA := Lib.hid ewa
  have EG3 := Lib.hid eg3
  have EG4 := Lib.hid eg4
  have EG5 := Lib.hid eg5
  have EG7 := Lib.hid eg7
  obtain ⟨K, s1, eA⟩ : ∃ K s1, getR (decide (ver = 1)) s 1 = (K, s1) := ⟨_, _, rfl⟩
  have hku := getR_lt eA
  have HKZ : Hid (s1.err ≠ 0 → K = 0) := Lib.hid (by have := getR_zero (f := decide (ver = 1)) (s := s) (z := 1); rw [eA] at this; exact this)
  have OK1 := Lib.hid (getR_ok h eA).1
  have EA := Lib.hid eA
  clear ewa eg3 eg4 eg5 eg7 h eA
  unfold rsV
  go_enter Try.func80, Try.ntmps80
  go_wp2_with (fail)
  rw [← EWA.out, ← EG3.out, ← EG4.out, ← EG5.out, ← EG7.out]
  refine (refRead_c ver A c s s1 1 K wa HS.out.ok (by decide) EA.out).mono ?_
  rintro e w1 ⟨rfl, hb1⟩
  unfold rsV
  have HS1 := Lib.hid (HS.out.below hb1)
  clear hb1 HS EWA EG3 EG4 EG5 EG7
  obtain ⟨⟨⟨x0, x1, x2⟩, xf0, xf1, xf2⟩, ⟨⟨y0, y1, y2, y3, y4⟩, yf0, yf1, yf2, yf3, yf4⟩, ⟨⟨z0, z1, z2, z3, z4⟩, zf0, zf1, zf2, zf3, zf4⟩, ⟨⟨q0, q1, q2⟩, qf0, qf1, qf2⟩, ⟨n1, n2, n3, n4⟩, ⟨n5, n6, n7, n8⟩, n9, n10⟩ := HS1.out.facts
  obtain ⟨w2, ew2⟩ : ∃ w2, w2 = set3 w1 g3 (.slice A s1.b.length c) (.int .i64 (s1.at_ : Int)) (.int .i64 (s1.err : Int)) := ⟨_, rfl⟩
  have HS2 := Lib.hid (ew2 ▸ HS1.out.setR OK1.out)
  unfold set3 at ew2
  have EW2 := Lib.hid ew2; clear ew2
  have hyp := HYP.out
  rw [EA.out] at hyp
  obtain ⟨he, h12'⟩ : s1.err = 0 ∧ (K = 1 ∨ K = 2) := hyp
  have h12 := Lib.hid h12'
  have he1 := Lib.hid he
  have e0 : ((s1.err : Int) != 0) = false := by rw [bne_eq_false_iff_eq]; omega
  have k1 : ¬ ((K : Int) < 1) := by omega
  have k4 : ¬ ((4 : Int) < (K : Int)) := by omega
  have k3 : ((K : Int) < 3) := by omega
  have wK := i64_w (n := K) (by unfold U63; omega)
  clear h12' he
  go_upto_region 7 with (fail)
  rw [← EW2.out]
  clear x0 x1 x2 xf0 xf1 xf2 y0 y1 y2 y3 y4 yf0 yf1 yf2 yf3 yf4 z0 z1 z2 z3 z4 zf0 zf1 zf2 zf3 zf4 q0 q1 q2 qf0 qf1 qf2 n1 n2 n3 n4 n5 n6 n7 n8 n9 n10 EW2
  obtain ⟨⟨⟨x0, x1, x2⟩, xf0, xf1, xf2⟩, ⟨⟨y0, y1, y2, y3, y4⟩, yf0, yf1, yf2, yf3, yf4⟩, ⟨⟨z0, z1, z2, z3, z4⟩, zf0, zf1, zf2, zf3, zf4⟩, ⟨⟨q0, q1, q2⟩, qf0, qf1, qf2⟩, ⟨n1, n2, n3, n4⟩, ⟨n5, n6, n7, n8⟩, n9, n10⟩ := HS2.out.facts
  have hlo := HS2.out.lo
  have n11 : ¬ g7 = g3 := by omega
  have n12 : ¬ g3 = g7 := by omega
  obtain ⟨w3, ew3⟩ : ∃ w3, w3 = w2.setCell ⟨g7, 0, none⟩ (.int .i64 (K : Int)) := ⟨_, rfl⟩
  have HS3 := Lib.hid (ew3 ▸ HS2.out.set0 (u := .int .i64 (K : Int)))
  have EW3 := Lib.hid ew3; clear ew3
  obtain ⟨N, s2, eB⟩ : ∃ N s2, getR (decide (ver = 1)) s1 1 = (N, s2) := ⟨_, _, rfl⟩
  have hNu : U64 N := getR_lt eB
  have OK2 := Lib.hid (getR_ok OK1.out eB).1
  have EB := Lib.hid eB
  obtain ⟨M, eM⟩ : ∃ M, M = mostN K := ⟨_, rfl⟩
  have EM := Lib.hid eM
  have hM64 : M ≤ 64 := by rw [eM]; unfold mostN; split <;> omega
  have hRt : Hid (R = (if s2.err ≠ 0 then (s2.err, ev0, s2) else if M < N then (3, ev0, s2)
            else if (takeR s2 N).2.err ≠ 0 then ((takeR s2 N).2.err, ev0, (takeR s2 N).2)
            else if Ev.may ⟨K, (takeR s2 N).1, 0, 0, 0⟩ = false then (3, ev0, (takeR s2 N).2)
            else (0, ⟨K, (takeR s2 N).1, 0, 0, 0⟩, (takeR s2 N).2))) := Lib.hid (by
    rw [ER.out, evR, EA.out, if_neg (by simpa using he1.out), if_neg (by simp only; omega), if_pos (by simp only; omega), eM]
    simp only [eB])
  clear eB eM hku
  go_wp2_with (fail)
  rw [← EW3.out]
  clear x0 x1 x2 xf0 xf1 xf2 y0 y1 y2 y3 y4 yf0 yf1 yf2 yf3 yf4 z0 z1 z2 z3 z4 zf0 zf1 zf2 zf3 zf4 q0 q1 q2 qf0 qf1 qf2 n1 n2 n3 n4 n5 n6 n7 n8 n9 n10 EW3 wK
  refine (refRead_c ver A c s1 s2 1 N w3 HS3.out.ok (by decide) EB.out).mono ?_
  rintro e w4 ⟨rfl, hb4⟩
  unfold rsV
  have HS4 := Lib.hid (HS3.out.below hb4)
  obtain ⟨w5, ew5⟩ : ∃ w5, w5 = w4.alloc (.cells #[.slice A s2.b.length c, .int .i64 (s2.at_ : Int), .int .i64 (s2.err : Int)] 142) := ⟨_, rfl⟩
  obtain ⟨g10, eg10⟩ : ∃ g10, g10 = w4.heap.size := ⟨_, rfl⟩
  have HS5 := Lib.hid (HS4.out.below (w' := w5) (by rw [ew5]; exact (Below.refl _ _).alloc (Nat.le_refl _) _))
  have hB10 : RdB w5 g10 A c s2 := by rw [ew5, eg10]; exact heap_alloc_new w4 _
  have hg10 : g7 < g10 := by rw [eg10]; exact heap_lt HS4.out.b7
  have B10 := Lib.hid hB10
  have EW5 := Lib.hid ew5
  have EG10 := Lib.hid eg10
  clear hb4 HS3 ew5 eg10 hB10 HS2
  go_upto_region 10 with (fail)
  rw [← EW5.out, ← EG10.out]
  clear EW5 EG10 HS4
  obtain ⟨⟨b0, b1, b2⟩, bf0, bf1, bf2⟩ := B10.out.cells
  by_cases h2 : s2.err = 0
  · have h2e : ((s2.err : Int) != 0) = false := by rw [bne_eq_false_iff_eq]; omega
    have H2 := Lib.hid h2; clear h2
    go_upto_region 12 with (fail)
    obtain ⟨L, eL⟩ : ∃ L, L = decide (M < N) := ⟨_, rfl⟩
    have EL := Lib.hid eL; clear eL
    go_cut [66] (fun s66 wx => s66 = .bool L ∧ w5 = wx)
    case first =>
      rcases h12.out with hK | hK
      · subst hK
        have hM : M = 8 := EM.out
        by_cases hl : 8 < N
        · have l1 : decide ((8 : Int) < (N : Int)) = true := decide_eq_true (by omega)
          have l2 : decide (8 < N) = true := decide_eq_true hl
          have HM := Lib.hid (show decide (M < N) = true from decide_eq_true (by omega))
          clear hM hl
          go_wp2_with (fail)
          go_meet
          exact ⟨by rw [EL.out, HM.out], rfl⟩
        · have l1 : decide ((8 : Int) < (N : Int)) = false := decide_eq_false (by omega)
          have l2 : decide (8 < N) = false := decide_eq_false hl
          have l3 : decide ((64 : Int) < (N : Int)) = false := decide_eq_false (by omega)
          have l4 : decide (64 < N) = false := decide_eq_false (by omega)
          have HM := Lib.hid (show decide (M < N) = false from decide_eq_false (by omega))
          clear hM hl
          go_wp2_with (fail)
          go_meet
          exact ⟨by rw [EL.out, HM.out], rfl⟩
      · subst hK
        have hM : M = 64 := EM.out
        by_cases hl : 64 < N
        · have l3 : decide ((64 : Int) < (N : Int)) = true := decide_eq_true (by omega)
          have l4 : decide (64 < N) = true := decide_eq_true (by omega)
          have HM := Lib.hid (show decide (M < N) = true from decide_eq_true (by omega))
          clear hM hl
          go_wp2_with (fail)
          go_meet
          exact ⟨by rw [EL.out, HM.out], rfl⟩
        · have l3 : decide ((64 : Int) < (N : Int)) = false := decide_eq_false (by omega)
          have l4 : decide (64 < N) = false := decide_eq_false (by omega)
          have HM := Lib.hid (show decide (M < N) = false from decide_eq_false (by omega))
          clear hM hl
          go_wp2_with (fail)
          go_meet
          exact ⟨by rw [EL.out, HM.out], rfl⟩
    case rest =>
      obtain ⟨rfl, rfl⟩ := hcut
      cases L with
      | true =>
        have hl : M < N := of_decide_eq_true EL.out.symm
        have hR : R = (3, ev0, s2) := by rw [hRt.out, if_neg (by simpa using H2.out), if_pos hl]
        have HR := Lib.hid hR; clear hR
        clear hl
        obtain ⟨⟨⟨x0, x1, x2⟩, xf0, xf1, xf2⟩, ⟨⟨y0, y1, y2, y3, y4⟩, yf0, yf1, yf2, yf3, yf4⟩, ⟨⟨z0, z1, z2, z3, z4⟩, zf0, zf1, zf2, zf3, zf4⟩, ⟨⟨q0, q1, q2⟩, qf0, qf1, qf2⟩, ⟨n1, n2, n3, n4⟩, ⟨n5, n6, n7, n8⟩, n9, n10⟩ := HS5.out.facts
        have m1 : ¬ g10 = g4 := by omega
        have m2 : ¬ g4 = g10 := by omega
        have m3 : ¬ g10 = g5 := by omega
        have m4 : ¬ g5 = g10 := by omega
        go_upto_region 13 with (fail)
        go_region
        go_wp2_with (fail)
        refine bodyPost_ret (v := .tuple #[.agg #[.int .i64 (K : Int), .slice none 0 0, .int .i64 0, .int .i64 0, .int .i64 0], .agg #[.slice A s2.b.length c, .int .i64 (s2.at_ : Int), .int .i64 (s2.err : Int)], .int .i64 3]) (by simp [results, Try.results80, go_sem, z0, z1, z2, z3, z4, q0, q1, q2, n9, n10]) rfl (HS5.out.ends ⟨(K : Int), none, 0, 0, 0, 0, 0⟩ s2 3 _ _ HR.out (fun h => by cases h))
      | false =>
        have hl : ¬ M < N := of_decide_eq_false EL.out.symm
        have hN64 : N ≤ 64 := by omega
        have HL := Lib.hid hl; clear hl hNu
        have wN := i64_w (n := N) (by unfold U63; omega)
        obtain ⟨t, s4, eT⟩ : ∃ t s4, takeR s2 (N : Int) = (t, s4) := ⟨_, _, rfl⟩
        have htl : t.length ≤ N := by
          have : (takeR s2 (N : Int)).1.length ≤ N := by
            unfold takeR
            split
            · exact Nat.zero_le _
            · split
              · exact Nat.zero_le _
              · split
                · exact Nat.zero_le _
                · show (List.take _ _).length ≤ N
                  rw [List.length_take]; omega
          rw [eT] at this; exact this
        have hOK4 : RsOk w A c s4 := by
          have q1 := (takeR_b s2 (N : Int)).1
          have q2 := takeR_at s2 (N : Int) OK2.out.2.2.2.1
          rw [eT] at q1 q2
          simp only at q1 q2
          exact ⟨by rw [q1]; exact OK2.out.1, by rw [q1]; exact OK2.out.2.1, OK2.out.2.2.1, by rw [q1]; exact q2, by rw [q1]; exact OK2.out.2.2.2.2⟩
        have OK4 := Lib.hid hOK4
        have ET := Lib.hid eT
        have tk := refTake_c A c s2 (N : Int) w5 (OK2.out.below HS5.out.bel) (by simp [Lit.wf, IntKind.min, IntKind.max, IntKind.signed, IntKind.bits]; omega)
        rw [eT] at tk
        unfold rsV at tk
        have TK := Lib.hid tk
        clear eT tk hOK4
        go_wp2_with (fail)
        refine TK.out.mono ?_
        rintro e w6 ⟨v6, rfl, ho6, hb6⟩
        dsimp only
        obtain ⟨A6, c6, ev6, -, -, -, -⟩ := OwnB.form ho6
        obtain ⟨tn, en6⟩ : ∃ tn, tn = t.length := ⟨_, rfl⟩
        replace ev6 : v6 = .slice A6 tn c6 := by rw [en6]; exact ev6
        subst ev6
        replace ho6 : OwnB w6 w5.heap.size (.slice A6 tn c6) t := ho6
        have hT6 : TxtO (w5.heap.size ≤ ·) w6 A6 tn c6 t := ⟨en6.symm, Own.low ho6 (Nat.zero_le _), fun a ea => (Own.lt ho6 a.block (by rw [ea]; rfl)).1, by omega⟩
        obtain ⟨w7, ew7⟩ : ∃ w7, w7 = w6.alloc (.cells #[.slice A s4.b.length c, .int .i64 (s4.at_ : Int), .int .i64 (s4.err : Int)] 142) := ⟨_, rfl⟩
        obtain ⟨g12, eg12⟩ : ∃ g12, g12 = w6.heap.size := ⟨_, rfl⟩
        have hb7 : Below w5.heap.size w5 w7 := by rw [ew7]; exact hb6.alloc hb6.size _
        have hb67 : Below w6.heap.size w6 w7 := by rw [ew7]; exact (Below.refl _ _).alloc (Nat.le_refl _) _
        have hS7 := HS5.out.below hb7
        have hB7 : RdB w7 g10 A c s2 := (hb7.block g10 (heap_lt B10.out)).trans B10.out
        have hB12 : RdB w7 g12 A c s4 := by rw [ew7, eg12]; exact heap_alloc_new w6 _
        have hg12 : g10 < g12 := by rw [eg12]; exact Nat.lt_of_lt_of_le (heap_lt B10.out) hb6.size
        have hT7 := hT6.frame (w' := w7) (fun j _ hj => hb67.block j hj)
        have hw5 : g10 < w5.heap.size := heap_lt B10.out
        obtain ⟨w8, ew8⟩ : ∃ w8, w8 = w7.setCell ⟨g7, 1, none⟩ (.slice A6 tn c6) := ⟨_, rfl⟩
        have k8 : Keeps (fun j => j = g7) w7 w8 := by rw [ew8]; exact RvS.set7_keeps
        have hS8 := hS7.set1 (u := .slice A6 tn c6)
        rw [← ew8] at hS8
        have hB8 : RdB w8 g10 A c s2 := (k8.block g10 (heap_lt hB7) (by omega)).trans hB7
        have hB128 : RdB w8 g12 A c s4 := (k8.block g12 (heap_lt hB12) (by omega)).trans hB12
        have hT8 := hT7.frame (w' := w8) (fun j hj hl => k8.block j hl (by show j ≠ g7; have : w5.heap.size ≤ j := hj; omega))
        obtain ⟨w9, ew9⟩ : ∃ w9, w9 = set3 w8 g10 (.slice A s4.b.length c) (.int .i64 (s4.at_ : Int)) (.int .i64 (s4.err : Int)) := ⟨_, rfl⟩
        have k9 : Keeps (fun j => j = g10) w8 w9 := by rw [ew9]; exact set3_keeps _ _ _ _ _
        have hS9 := hS8.far k9 (fun j e => by omega)
        have hB9 : RdB w9 g10 A c s4 := by rw [ew9]; exact set3_heap hB8
        have hT9 := hT8.frame (w' := w9) (fun j hj hl => k9.block j hl (by show j ≠ g10; have : w5.heap.size ≤ j := hj; omega))
        obtain ⟨⟨p0, p1, p2⟩, pf0, pf1, pf2⟩ := hB8.cells
        obtain ⟨⟨r0, r1, r2⟩, rf0, rf1, rf2⟩ := hB128.cells
        have y1 := hS7.facts.2.1.1.2.1
        have yf1 := hS7.facts.2.1.2.2.1
        have HS9 := Lib.hid hS9
        have HB9 := Lib.hid hB9
        have HT9 := Lib.hid (hT9.weak (ok' := fun j => w.heap.size ≤ j ∧ j ≠ g4 ∧ j ≠ g5) (fun j hj _ => by have := HS5.out.lo; have : w5.heap.size ≤ j := hj; exact ⟨by omega, by omega, by omega⟩))
        have EN6 := Lib.hid en6
        have EW7 := Lib.hid ew7
        have EW8 := Lib.hid ew8
        unfold set3 at ew9
        have EW9 := Lib.hid ew9
        have EG12 := Lib.hid eg12
        clear hb6 hb67 hb7 hT6 hT7 hT8 hT9 hS7 hS8 hS9 hB7 hB8 hB9 hB12 hB128 k8 k9 ew7 ew8 ew9 en6 eg12 ho6 HS5 TK b0 b1 b2 bf0 bf1 bf2 hw5
        go_upto_region 15 with (fail)
        rw [← EW7.out, ← EG12.out]
        clear EW7 EG12
        go_upto_region 16 with (fail)
        rw [← EW8.out]
        clear EW8 y1 yf1
        go_upto_region 17 with (fail)
        rw [← EW9.out]
        clear EW9 p0 p1 p2 pf0 pf1 pf2 r0 r1 r2 rf0 rf1 rf2
        obtain ⟨⟨p0, p1, p2⟩, pf0, pf1, pf2⟩ := HB9.out.cells
        obtain ⟨⟨⟨x0, x1, x2⟩, xf0, xf1, xf2⟩, ⟨⟨y0, y1, y2, y3, y4⟩, yf0, yf1, yf2, yf3, yf4⟩, ⟨⟨z0, z1, z2, z3, z4⟩, zf0, zf1, zf2, zf3, zf4⟩, ⟨⟨q0, q1, q2⟩, qf0, qf1, qf2⟩, ⟨n1, n2, n3, n4⟩, ⟨n5, n6, n7, n8⟩, n9, n10⟩ := HS9.out.facts
        have m1 : ¬ g10 = g4 := by omega
        have m2 : ¬ g4 = g10 := by omega
        have m3 : ¬ g10 = g5 := by omega
        have m4 : ¬ g5 = g10 := by omega
        by_cases h4 : s4.err = 0
        · have h4e : ((s4.err : Int) != 0) = false := by rw [bne_eq_false_iff_eq]; omega
          have hR4 : Hid (R = if Ev.may ⟨K, t, 0, 0, 0⟩ = false then (3, ev0, s4) else (0, ⟨K, t, 0, 0, 0⟩, s4)) := Lib.hid (by
            rw [hRt.out]
            simp only [ET.out]
            rw [if_neg (by simpa using H2.out), if_neg HL.out, if_neg (by simpa using h4)])
          have hmay : Ev.may ⟨(K : Int), t, 0, 0, 0⟩ = mayB (K : Int) 0 0 0 tn := by rw [Ev.may, EN6.out]
          obtain ⟨M4, eM4⟩ : ∃ M4, M4 = mayB (K : Int) 0 0 0 tn := ⟨_, rfl⟩
          rw [← eM4] at hmay
          have HM := Lib.hid hmay; clear hmay h4
          go_wp2_with (fail)
          refine (refMay_c (K : Int) 0 0 0 A6 tn c6 w9).mono ?_
          rintro e w10 ⟨rfl, hb10⟩
          rw [← eM4]
          have HS10 := Lib.hid (HS9.out.below hb10)
          have HB10 := Lib.hid (show RdB w10 g10 A c s4 from (hb10.block g10 (heap_lt HB9.out)).trans HB9.out)
          have HT10 := Lib.hid (HT9.out.frame (w' := w10) (fun j _ hj => hb10.block j hj))
          clear x0 x1 x2 xf0 xf1 xf2 y0 y1 y2 y3 y4 yf0 yf1 yf2 yf3 yf4 z0 z1 z2 z3 z4 zf0 zf1 zf2 zf3 zf4 q0 q1 q2 qf0 qf1 qf2 n1 n2 n3 n4 n5 n6 n7 n8 n9 n10 p0 p1 p2 pf0 pf1 pf2 hb10 eM4 HS9 HB9 HT9
          obtain ⟨⟨p0, p1, p2⟩, pf0, pf1, pf2⟩ := HB10.out.cells
          obtain ⟨⟨⟨x0, x1, x2⟩, xf0, xf1, xf2⟩, ⟨⟨y0, y1, y2, y3, y4⟩, yf0, yf1, yf2, yf3, yf4⟩, ⟨⟨z0, z1, z2, z3, z4⟩, zf0, zf1, zf2, zf3, zf4⟩, ⟨⟨q0, q1, q2⟩, qf0, qf1, qf2⟩, ⟨n1, n2, n3, n4⟩, ⟨n5, n6, n7, n8⟩, n9, n10⟩ := HS10.out.facts
          cases M4 with
          | false =>
            have hR : R = (3, ev0, s4) := by rw [hR4.out, HM.out, if_pos rfl]
            have HR := Lib.hid hR; clear hR
            go_upto_region 20 with (fail)
            go_region
            go_wp2_with (fail)
            refine bodyPost_ret (v := .tuple #[.agg #[.int .i64 (K : Int), .slice A6 tn c6, .int .i64 0, .int .i64 0, .int .i64 0], .agg #[.slice A s4.b.length c, .int .i64 (s4.at_ : Int), .int .i64 (s4.err : Int)], .int .i64 3]) (by simp [results, Try.results80, go_sem, z0, z1, z2, z3, z4, q0, q1, q2, n9, n10]) rfl (HS10.out.ends ⟨(K : Int), A6, tn, c6, 0, 0, 0⟩ s4 3 _ _ HR.out (fun h => by cases h))
          | true =>
            have hR : R = (0, ⟨K, t, 0, 0, 0⟩, s4) := by rw [hR4.out, HM.out, if_neg (by decide)]
            have HR := Lib.hid hR; clear hR
            go_upto_region 21 with (fail)
            go_region
            go_wp2_with (fail)
            refine bodyPost_ret (v := .tuple #[.agg #[.int .i64 (K : Int), .slice A6 tn c6, .int .i64 0, .int .i64 0, .int .i64 0], .agg #[.slice A s4.b.length c, .int .i64 (s4.at_ : Int), .int .i64 (s4.err : Int)], .int .i64 0]) (by simp [results, Try.results80, go_sem, z0, z1, z2, z3, z4, q0, q1, q2, n9, n10]) rfl (HS10.out.ends ⟨(K : Int), A6, tn, c6, 0, 0, 0⟩ s4 0 _ _ HR.out (fun _ => ⟨⟨rfl, rfl, rfl, rfl, HT10.out⟩, rfl⟩))
        · have hR : R = (s4.err, ev0, s4) := by
            rw [hRt.out]
            simp only [ET.out]
            rw [if_neg (by simpa using H2.out), if_neg HL.out, if_pos h4]
          have HR := Lib.hid hR; clear hR
          have h4e : ((s4.err : Int) != 0) = true := by rw [bne_iff_ne]; omega
          have H4 := Lib.hid h4; clear h4
          go_upto_region 18 with (fail)
          go_region
          go_wp2_with (fail)
          refine bodyPost_ret (v := .tuple #[.agg #[.int .i64 (K : Int), .slice A6 tn c6, .int .i64 0, .int .i64 0, .int .i64 0], .agg #[.slice A s4.b.length c, .int .i64 (s4.at_ : Int), .int .i64 (s4.err : Int)], .int .i64 (s4.err : Int)]) (by simp [results, Try.results80, go_sem, z0, z1, z2, z3, z4, q0, q1, q2, n9, n10]) rfl (HS9.out.ends ⟨(K : Int), A6, tn, c6, 0, 0, 0⟩ s4 s4.err _ _ HR.out (fun h => absurd h H4.out))
  · have hR : R = (s2.err, ev0, s2) := by rw [hRt.out, if_pos h2]
    have HR := Lib.hid hR; clear hR
    have h2e : ((s2.err : Int) != 0) = true := by rw [bne_iff_ne]; omega
    have H2 := Lib.hid h2; clear h2
    obtain ⟨⟨⟨x0, x1, x2⟩, xf0, xf1, xf2⟩, ⟨⟨y0, y1, y2, y3, y4⟩, yf0, yf1, yf2, yf3, yf4⟩, ⟨⟨z0, z1, z2, z3, z4⟩, zf0, zf1, zf2, zf3, zf4⟩, ⟨⟨q0, q1, q2⟩, qf0, qf1, qf2⟩, ⟨n1, n2, n3, n4⟩, ⟨n5, n6, n7, n8⟩, n9, n10⟩ := HS5.out.facts
    have m1 : ¬ g10 = g4 := by omega
    have m2 : ¬ g4 = g10 := by omega
    have m3 : ¬ g10 = g5 := by omega
    have m4 : ¬ g5 = g10 := by omega
    go_upto_region 11 with (fail)
    go_region
    go_wp2_with (fail)
    refine bodyPost_ret (v := .tuple #[.agg #[.int .i64 (K : Int), .slice none 0 0, .int .i64 0, .int .i64 0, .int .i64 0], .agg #[.slice A s2.b.length c, .int .i64 (s2.at_ : Int), .int .i64 (s2.err : Int)], .int .i64 (s2.err : Int)]) (by simp [results, Try.results80, go_sem, z0, z1, z2, z3, z4, q0, q1, q2, n9, n10]) rfl (HS5.out.ends ⟨(K : Int), none, 0, 0, 0, 0, 0⟩ s2 s2.err _ _ HR.out (fun h => absurd h H2.out))
end Go.Proofs.Ytgnciejbhaebeaa
