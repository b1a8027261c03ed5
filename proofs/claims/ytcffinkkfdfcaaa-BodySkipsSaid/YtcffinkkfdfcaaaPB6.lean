/- Parts one behind the other: Rows of items in memory: five cells each; appended, made, stored into; Lists of items built by a call: rows whose items can be read, or are one's own; A list of items of one's own, grown item by item; What the reader of the layer wire does: its small methods; What the reader of the layer wire does: Var; What the reader of the layer wire does: Num and Take. Conditions: as told at each. -/
import Derived.Test.YtcffinkkfdfcaaaPB1
import Derived.Test.YtcffinkkfdfcaaaPB3

set_option linter.unusedVariables false
set_option linter.unusedSimpArgs false
/- Rows of items in memory: five cells each; appended, made, stored into. Conditions: lengths that fit. -/
namespace Go.Proofs.Ytcffinkkfdfcaaa
open Go Go.RowKit

/-- An item in memory: its five cells. -/
structure ItV where
  k : Int
  cr : Bool
  li : Bool
  A : Option Addr
  n : Nat
  c : Nat
  As : Option Addr
  ns : Nat
  cs : Nat
def ItV.cells (e : ItV) : List Value := [.int .i64 e.k, .bool e.cr, .bool e.li, .slice e.A e.n e.c, .slice e.As e.ns e.cs]
/-! ### The cells of a row -/
def cellsI (ds : List ItV) : List Value := ds.flatMap ItV.cells
theorem cellsI_cons (d : ItV) (ds : List ItV) : cellsI (d :: ds) = d.cells ++ cellsI ds := rfl
theorem cellsI_append (a b : List ItV) : cellsI (a ++ b) = cellsI a ++ cellsI b := by simp [cellsI]
theorem cellsI_length (ds : List ItV) : (cellsI ds).length = ds.length * 5 := by
  induction ds with
  | nil => rfl
  | cons d ds ih => rw [cellsI_cons, List.length_append, ih]; simp [ItV.cells]; omega
theorem cellsI_get : ∀ (ds : List ItV) (i : Nat) (h : i < ds.length) (j : Nat), j < 5 → (cellsI ds)[i * 5 + j]? = (ds[i].cells)[j]?
  | d :: ds, 0, _, j, hj => by
    rw [cellsI_cons, Nat.zero_mul, Nat.zero_add, List.getElem?_append_left (by simpa [ItV.cells] using hj)]
    rfl
  | d :: ds, i + 1, h, j, hj => by
    rw [cellsI_cons, List.getElem?_append_right (by simp [ItV.cells]; omega)]
    have e : (i + 1) * 5 + j - d.cells.length = i * 5 + j := by simp [ItV.cells]; omega
    rw [e, cellsI_get ds i (by simpa using h) j hj]
    rfl
theorem cellsI_one (ds : List ItV) : ∀ u ∈ cellsI ds, u.oneCell' = true := by
  intro u hu
  obtain ⟨d, _, h⟩ := List.mem_flatMap.1 hu
  simp only [ItV.cells, List.mem_cons, List.not_mem_nil, or_false] at h
  rcases h with rfl | rfl | rfl | rfl | rfl <;> rfl

def ItV.txt (d : ItV) (A : Option Addr) (n c : Nat) : ItV := ⟨d.k, d.cr, d.li, A, n, c, d.As, d.ns, d.cs⟩
def ItV.sub (d : ItV) (A : Option Addr) (n c : Nat) : ItV := ⟨d.k, d.cr, d.li, d.A, d.n, d.c, A, n, c⟩
theorem cellsI_txt : ∀ (ds : List ItV) (i : Nat) (h : i < ds.length) (A : Option Addr) (n c : Nat), (cellsI ds).set (i * 5 + 3) (.slice A n c) = cellsI (ds.set i (ds[i].txt A n c))
  | d :: ds, 0, _, A, n, c => rfl
  | d :: ds, i + 1, h, A, n, c => by
    rw [cellsI_cons, List.set_append_right _ _ (by simp [ItV.cells]; omega)]
    have e : (i + 1) * 5 + 3 - d.cells.length = i * 5 + 3 := by simp [ItV.cells]; omega
    rw [e, cellsI_txt ds i (by simpa using h)]
    rfl
theorem cellsI_sub : ∀ (ds : List ItV) (i : Nat) (h : i < ds.length) (A : Option Addr) (n c : Nat), (cellsI ds).set (i * 5 + 4) (.slice A n c) = cellsI (ds.set i (ds[i].sub A n c))
  | d :: ds, 0, _, A, n, c => rfl
  | d :: ds, i + 1, h, A, n, c => by
    rw [cellsI_cons, List.set_append_right _ _ (by simp [ItV.cells]; omega)]
    have e : (i + 1) * 5 + 4 - d.cells.length = i * 5 + 4 := by simp [ItV.cells]; omega
    rw [e, cellsI_sub ds i (by simpa using h)]
    rfl
theorem cellsI_all : ∀ (ds : List ItV) (i : Nat) (_ : i < ds.length) (d' : ItV),
    (((((cellsI ds).set (i * 5) (.int .i64 d'.k)).set (i * 5 + 1) (.bool d'.cr)).set (i * 5 + 2) (.bool d'.li)).set (i * 5 + 3) (.slice d'.A d'.n d'.c)).set (i * 5 + 4) (.slice d'.As d'.ns d'.cs) = cellsI (ds.set i d')
  | d :: ds, 0, _, d' => rfl
  | d :: ds, i + 1, h, d' => by
    have ih := cellsI_all ds i (by simpa using h) d'
    have e : ∀ j, (i + 1) * 5 + j - d.cells.length = i * 5 + j := by intro j; simp [ItV.cells]; omega
    have e0 : (i + 1) * 5 - d.cells.length = i * 5 := e 0
    rw [cellsI_cons, List.set_append_right _ _ (by simp [ItV.cells]; omega), List.set_append_right _ _ (by simp [ItV.cells]; omega), List.set_append_right _ _ (by simp [ItV.cells]; omega), List.set_append_right _ _ (by simp [ItV.cells]; omega), List.set_append_right _ _ (by simp [ItV.cells]; omega), e0, e 1, e 2, e 3, e 4, ih]
    rfl


def OwnI (w : World) (B : Nat) (v : Value) (ds : List ItV) : Prop := w.ownsRow B 76 5 v ds.length (cellsI ds)
theorem info_it : (Try.prog.info? 76).map (fun i => (i.zero, i.size, i.bytes)) = some (some (.agg #[.int .i64 0, .bool false, .bool false, .slice none 0 0, .slice none 0 0]), 5, 64) := by kernel_rfl

/-- 'append(v, xs...)' on events. -/
theorem wpList_appI (w : World) {ops : Array Oper} {rest : List Oper} {o : Oper} {a : Act} {Q : Exit → Act → World → Prop} (hgd : o.guard = none) (s x : Operand)
    (ho : o.op = .call { callee := .builtin .append, args := #[s, x], argTypes := #[74, 74] })
    (B : Nat) (v : Value) (ds : List ItV) (hs : a.eval s = v) (hown : OwnI w B v ds)
    (A : Option Addr) (m c : Nat) (ns : List ItV) (hx : a.eval x = .slice A m c) (hm : ns.length = m) (hr : Rd w A (cellsI ns))
    (hlen : ds.length + m ≤ 2199023255488) (hB : B ≤ w.heap.size)
    (h : ∀ v' w', OwnI w' B v' (ds ++ ns) → w.grownBy w' v.ownBlock → (v'.ownBlock = v.ownBlock ∨ v'.ownBlock = some w.heap.size) → wpList Try.prog ops Q rest (a.put o.dst v') w') : wpList Try.prog ops Q (o :: rest) a w := by
  obtain ⟨i0, hi, hz0, hz1, hz2⟩ := info_parts info_it
  refine wpList_plain hgd fun K hK => ?_
  obtain ⟨v', w', hrun, h2, h3, h4⟩ := run_appN (P := Try.prog) w B 74 o.type 76 i0 _ 5 64 Try.underlying74 hi hz0 hz1 hz2 rfl (by decide) v ds.length (cellsI ds) hown A m c (cellsI ns) (by rw [cellsI_length, hm]) hr (cellsI_one _) (by unfold maxLen; omega) (by omega) hB
  unfold Oper.wp execOp
  simp only [ho, resolve, invoke, builtin, Sem.run_bind, Sem.run_pure, Result.andThen_ok, List.map_toArray, List.map_cons, List.map_nil, hs, hx, hrun]
  refine hK _ _ (h v' w' ?_ h3 h4)
  unfold OwnI
  rw [cellsI_append, List.length_append, hm]
  exact h2
def ItV.zero : ItV := ⟨0, false, false, none, 0, 0, none, 0, 0⟩
theorem cellsI_zeros : ∀ n, (madeCells #[Value.int .i64 0, .bool false, .bool false, .slice none 0 0, .slice none 0 0] (n * 5)).toList = cellsI (List.replicate n ItV.zero) := by
  intro n
  apply List.ext_getElem?
  intro j
  rcases Nat.lt_or_ge j (n * 5) with hj | hj
  · have hi : j / 5 < (List.replicate n ItV.zero).length := by rw [List.length_replicate]; omega
    have h := cellsI_get (List.replicate n ItV.zero) (j / 5) hi (j % 5) (Nat.mod_lt _ (by decide))
    rw [show j / 5 * 5 + j % 5 = j by omega] at h
    rw [h]
    have e : (madeCells #[Value.int .i64 0, .bool false, .bool false, .slice none 0 0, .slice none 0 0] (n * 5)).toList[j]? = some (#[Value.int .i64 0, .bool false, .bool false, .slice none 0 0, .slice none 0 0][j % 5]!) := by
      simp only [madeCells, Array.getElem?_toList, Array.getElem?_map]
      rw [Array.getElem?_eq_getElem (by simpa using hj)]
      simp
    rw [e, List.getElem_replicate]
    have h5 : j % 5 < 5 := Nat.mod_lt _ (by decide)
    generalize j % 5 = q at h5
    match q, h5 with
    | 0, _ => rfl
    | 1, _ => rfl
    | 2, _ => rfl
    | 3, _ => rfl
    | 4, _ => rfl
  · rw [List.getElem?_eq_none (by simp [madeCells]; omega), List.getElem?_eq_none (by rw [cellsI_length, List.length_replicate]; omega)]
/-- 'make([]Event, n)'. -/
theorem wpList_makeI (w : World) {ops : Array Oper} {rest : List Oper} {o : Oper} {a : Act} {Q : Exit → Act → World → Prop} (hgd : o.guard = none) (l c : Operand) (ho : o.op = Op.makeSlice 74 l c)
    (kl kc : IntKind) (L C : Int) (n : Nat) (hl : a.eval l = .int kl L) (hc : a.eval c = .int kc C) (hL : L = (n : Int)) (hC : C = (n : Int)) (hn : n ≤ 2199023255488)
    (h : ∀ w', OwnI w' w.heap.size (.slice (some ⟨w.heap.size, 0, none⟩) n n) (List.replicate n ItV.zero) → Below w.heap.size w w' → w.grownBy w' none → wpList Try.prog ops Q rest (a.put o.dst (.slice (some ⟨w.heap.size, 0, none⟩) n n)) w') :
    wpList Try.prog ops Q (o :: rest) a w := by
  obtain ⟨i0, hi, hz0, hz1, hz2⟩ := info_parts info_it
  refine wpList_make_full w hgd l c 74 ho w.heap.size 76 i0 _ 5 Try.underlying74 hi hz0 hz1 kl kc L C n hl hc hL hC (by rw [hz2]; omega) (by unfold maxLen; omega) (Nat.le_refl _) ?_
  intro w' h1 h2
  refine h w' ?_ ((Below.refl _ _).grown h2 (Nat.le_refl _) (fun k hk => by cases hk)) h2
  unfold OwnI
  rw [List.length_replicate, ← cellsI_zeros]
  exact h1

section
variable {w : World} {B g n c : Nat} {ds : List ItV}
theorem OwnI.len (h : OwnI w B (.slice (some ⟨g, 0, none⟩) n c) ds) : n = ds.length ∧ ds.length ≤ c ∧ c ≤ maxLen ∧ B ≤ g ∧ g < w.heap.size := by
  rcases h.2 with ⟨h, _⟩ | ⟨g', cap, cur, hv, hb, hg, hn, hm, _⟩
  · cases h
  · injection hv with h1 h2 h3
    injection h1 with h1
    injection h1 with h1
    subst h1
    exact ⟨h2, by omega, by omega, hb, (Array.getElem?_eq_some_iff.1 hg).1⟩
theorem OwnI.to_n (h : OwnI w B (.slice (some ⟨g, 0, none⟩) n c) ds) : w.ownsRow B 76 5 (.slice (some ⟨g, 0, none⟩) n c) n (cellsI ds) := by
  have := h.len.1; subst this; exact h
theorem OwnI.five (h : OwnI w B (.slice (some ⟨g, 0, none⟩) n c) ds) (i : Nat) (hi : i < ds.length) :
    w.cell? ⟨g, i * 5, none⟩ = some (.int .i64 ds[i].k) ∧ w.cell? ⟨g, i * 5 + 1, none⟩ = some (.bool ds[i].cr) ∧ w.cell? ⟨g, i * 5 + 2, none⟩ = some (.bool ds[i].li) ∧
    w.cell? ⟨g, i * 5 + 3, none⟩ = some (.slice ds[i].A ds[i].n ds[i].c) ∧ w.cell? ⟨g, i * 5 + 4, none⟩ = some (.slice ds[i].As ds[i].ns ds[i].cs) := by
  have hl := h.len.1
  have get : ∀ j, j < 5 → w.cell? ⟨g, i * 5 + j, none⟩ = (ds[i].cells)[j]? := by
    intro j hj
    rw [h.to_n.cellAt (i * 5 + j) (by omega), cellsI_get ds i hi j hj]
  exact ⟨get 0 (by decide), get 1 (by decide), get 2 (by decide), get 3 (by decide), get 4 (by decide)⟩
theorem OwnI.free (h : OwnI w B (.slice (some ⟨g, 0, none⟩) n c) ds) (j : Nat) : w.frozen? ⟨g, j, none⟩ = false := h.to_n.frozenAt j
theorem OwnI.setT (h : OwnI w B (.slice (some ⟨g, 0, none⟩) n c) ds) (i : Nat) (hi : i < ds.length) (A' : Option Addr) (n' c' : Nat) :
    OwnI (w.setCell ⟨g, i * 5 + 3, none⟩ (.slice A' n' c')) B (.slice (some ⟨g, 0, none⟩) n c) (ds.set i (ds[i].txt A' n' c')) := by
  have h2 := (h.to_n.stored (i * 5 + 3) (.slice A' n' c')).1
  have hl := h.len.1
  rw [cellsI_txt ds i hi] at h2
  unfold OwnI
  rw [List.length_set, ← hl]
  exact h2
theorem OwnI.setS (h : OwnI w B (.slice (some ⟨g, 0, none⟩) n c) ds) (i : Nat) (hi : i < ds.length) (A' : Option Addr) (n' c' : Nat) :
    OwnI (w.setCell ⟨g, i * 5 + 4, none⟩ (.slice A' n' c')) B (.slice (some ⟨g, 0, none⟩) n c) (ds.set i (ds[i].sub A' n' c')) := by
  have h2 := (h.to_n.stored (i * 5 + 4) (.slice A' n' c')).1
  have hl := h.len.1
  rw [cellsI_sub ds i hi] at h2
  unfold OwnI
  rw [List.length_set, ← hl]
  exact h2
theorem OwnI.setAll (h : OwnI w B (.slice (some ⟨g, 0, none⟩) n c) ds) (i : Nat) (hi : i < ds.length) (d : ItV) :
    OwnI (((((w.setCell ⟨g, i * 5, none⟩ (.int .i64 d.k)).setCell ⟨g, i * 5 + 1, none⟩ (.bool d.cr)).setCell ⟨g, i * 5 + 2, none⟩ (.bool d.li)).setCell ⟨g, i * 5 + 3, none⟩ (.slice d.A d.n d.c)).setCell ⟨g, i * 5 + 4, none⟩ (.slice d.As d.ns d.cs)) B
      (.slice (some ⟨g, 0, none⟩) n c) (ds.set i d) := by
  have hl := h.len.1
  have h2 := (((((h.to_n.stored (i * 5) (.int .i64 d.k)).1.stored (i * 5 + 1) (.bool d.cr)).1.stored (i * 5 + 2) (.bool d.li)).1.stored (i * 5 + 3) (.slice d.A d.n d.c)).1.stored (i * 5 + 4) (.slice d.As d.ns d.cs)).1
  rw [cellsI_all ds i hi d] at h2
  unfold OwnI
  rw [List.length_set, ← hl]
  exact h2
theorem OwnI.low {B' : Nat} {v : Value} (h : OwnI w B v ds) (hB : B' ≤ B) : OwnI w B' v ds := ⟨h.1, h.2.imp id (fun ⟨g, cap, cur, hv, hb, r⟩ => ⟨g, cap, cur, hv, Nat.le_trans hB hb, r⟩)⟩
theorem OwnI.below {w' : World} {v : Value} (h : OwnI w B v ds) (hb : Below w.heap.size w w') : OwnI w' B v ds := Own.frameK h (fun g e => hb.block g (World.ownsRow.lt h g e).2)
theorem OwnI.drewN {v : Value} (h : OwnI w B v ds) (q : Nat) : OwnI (w.drewN q) B v ds := h
end
theorem OwnI.form {w : World} {v : Value} {ds : List ItV} {B : Nat} (h : OwnI w B v ds) : ∃ A c, v = .slice A ds.length c ∧ ds.length ≤ c ∧ c ≤ maxLen ∧ Rd w A (cellsI ds) ∧ (∀ a, A = some a → B ≤ a.block ∧ a.block < w.heap.size ∧ a.off = 0 ∧ a.spot = none) ∧ (A = none → c = 0) := by
  obtain ⟨hl, h2⟩ := h
  rcases h2 with ⟨rfl, h0⟩ | ⟨g, cap, cur, rfl, hb, hg, hn, hm, hcs, ht⟩
  · obtain rfl : ds = [] := List.eq_nil_of_length_eq_zero h0
    exact ⟨none, 0, rfl, Nat.le_refl _, Nat.zero_le _, .inl rfl, fun a ha => by (cases ha), fun _ => rfl⟩
  · refine ⟨some ⟨g, 0, none⟩, cap, rfl, hn, hm, .inr ⟨g, 0, rfl, (Array.getElem?_eq_some_iff.1 hg).1, fun k hk => ?_⟩, fun a ha => ?_, fun ha => by (cases ha)⟩
    · rw [Nat.zero_add, cell_of_row w g k cur _ (0, 0) hg]
      have h1 : (cellsI ds)[k]? = some (cellsI ds)[k] := List.getElem?_eq_getElem hk
      rw [← h1]
      conv => rhs; rw [← ht]
      rw [List.getElem?_take, if_pos (by omega)]
      simp
    · injection ha with ha; subst ha; exact ⟨hb, (Array.getElem?_eq_some_iff.1 hg).1, rfl, rfl⟩
end Go.Proofs.Ytcffinkkfdfcaaa

/- Lists of items built by a call: rows whose items can be read, or are one's own. Conditions: none. -/
namespace Go.Proofs.Ytcffinkkfdfcaaa
open Go Go.RowKit

/-- One list behind another. -/
def Fo.app : Fo → Fo → Fo
  | .nil, g => g
  | .cons k cr li bs sub rest, g => .cons k cr li bs sub (rest.app g)
theorem Fo.app_nil : ∀ (f : Fo), f.app .nil = f
  | .nil => rfl
  | .cons k cr li bs sub rest => by rw [Fo.app, Fo.app_nil rest]
theorem Fo.app_assoc (g h : Fo) : ∀ (f : Fo), (f.app g).app h = f.app (g.app h)
  | .nil => rfl
  | .cons k cr li bs sub rest => by rw [Fo.app, Fo.app, Fo.app, Fo.app_assoc g h rest]
theorem Fo.len_app (g : Fo) : ∀ (f : Fo), (f.app g).len = f.len + g.len
  | .nil => by simp [Fo.app, Fo.len]
  | .cons k cr li bs sub rest => by rw [Fo.app, Fo.len, Fo.len, Fo.len_app g rest]; omega
theorem Fo.size_app (g : Fo) : ∀ (f : Fo), (f.app g).size = f.size + g.size
  | .nil => by simp [Fo.app, Fo.size]
  | .cons k cr li bs sub rest => by rw [Fo.app, Fo.size, Fo.size, Fo.size_app g rest]; omega
theorem Fo.len_le : ∀ (f : Fo), f.len ≤ f.size
  | .nil => Nat.le_refl _
  | .cons k cr li bs sub rest => by have := Fo.len_le rest; simp only [Fo.len, Fo.size]; omega

/-- Items that can be read. -/
def ItsR (ok : Nat → Prop) (w : World) : List ItV → Fo → Prop
  | ds, .nil => ds = []
  | ds, .cons k cr li bs sub rest => ∃ d ds', ds = d :: ds' ∧ d.k = k ∧ d.cr = cr ∧ d.li = li ∧ TxtR ok w d.A d.n d.c bs ∧
      (d.ns = sub.len ∧ FoR ok w d.As 0 sub ∧ sub.len ≤ d.cs ∧ d.cs ≤ maxLen ∧ sub.len ≤ 2199023255488) ∧ ItsR ok w ds' rest
/-- Items of one's own. -/
def ItsO (ok : Nat → Prop) (w : World) : List ItV → Fo → Prop
  | ds, .nil => ds = []
  | ds, .cons k cr li bs sub rest => ∃ d ds', ds = d :: ds' ∧ d.k = k ∧ d.cr = cr ∧ d.li = li ∧ TxtO ok w d.A d.n d.c bs ∧
      (∃ es, OwnI w 0 (.slice d.As d.ns d.cs) es ∧ (∀ g, (Value.slice d.As d.ns d.cs).ownBlock = some g → ok g) ∧ ItsO ok w es sub ∧ sub.len ≤ 2199023255488) ∧ ItsO ok w ds' rest
/-- A list of items of one's own. -/
def FoO (ok : Nat → Prop) (w : World) (v : Value) (f : Fo) : Prop := ∃ ds, OwnI w 0 v ds ∧ (∀ g, v.ownBlock = some g → ok g) ∧ ItsO ok w ds f
/-- A row of one's own, its items to be read. -/
def FoM (ok : Nat → Prop) (w : World) (v : Value) (f : Fo) : Prop := ∃ ds, OwnI w 0 v ds ∧ (∀ g, v.ownBlock = some g → ok g) ∧ ItsR ok w ds f

theorem ItsR.len {ok : Nat → Prop} {w : World} : ∀ (f : Fo) (ds : List ItV), ItsR ok w ds f → ds.length = f.len
  | .nil, ds, h => by rw [h]; rfl
  | .cons k cr li bs sub rest, ds, h => by
    obtain ⟨d, ds', rfl, _, _, _, _, _, h2⟩ := h
    rw [List.length_cons, ItsR.len rest ds' h2, Fo.len]
theorem ItsO.len {ok : Nat → Prop} {w : World} : ∀ (f : Fo) (ds : List ItV), ItsO ok w ds f → ds.length = f.len
  | .nil, ds, h => by rw [h]; rfl
  | .cons k cr li bs sub rest, ds, h => by
    obtain ⟨d, ds', rfl, _, _, _, _, _, h2⟩ := h
    rw [List.length_cons, ItsO.len rest ds' h2, Fo.len]
theorem ItsR.frame {ok : Nat → Prop} {w w' : World} (hk : ∀ j, ok j → j < w.heap.size → w'.heap[j]? = w.heap[j]?) (hs : w.heap.size ≤ w'.heap.size) : ∀ (f : Fo) (ds : List ItV), ItsR ok w ds f → ItsR ok w' ds f
  | .nil, _, h => h
  | .cons k cr li bs sub rest, ds, h => by
    obtain ⟨d, ds', rfl, h1, h2, h3, h4, ⟨h5, h6, h7⟩, h8⟩ := h
    exact ⟨d, ds', rfl, h1, h2, h3, h4.frame hk hs, ⟨h5, FoR.frame hk hs _ _ _ h6, h7⟩, ItsR.frame hk hs rest ds' h8⟩
theorem OwnI.lt {w : World} {B : Nat} {v : Value} {ds : List ItV} (h : OwnI w B v ds) : ∀ k, v.ownBlock = some k → B ≤ k ∧ k < w.heap.size := World.ownsRow.lt h
theorem OwnI.frame {w w' : World} {B : Nat} {v : Value} {ds : List ItV} (h : OwnI w B v ds) (hk : ∀ g, v.ownBlock = some g → w'.heap[g]? = w.heap[g]?) : OwnI w' B v ds := Own.frameK h hk
theorem ItsO.frame {ok : Nat → Prop} {w w' : World} (hk : ∀ j, ok j → j < w.heap.size → w'.heap[j]? = w.heap[j]?) : ∀ (f : Fo) (ds : List ItV), ItsO ok w ds f → ItsO ok w' ds f
  | .nil, _, h => h
  | .cons k cr li bs sub rest, ds, h => by
    obtain ⟨d, ds', rfl, h1, h2, h3, h4, ⟨es, h5, h6, h7, h9⟩, h8⟩ := h
    exact ⟨d, ds', rfl, h1, h2, h3, h4.frame hk, ⟨es, h5.frame (fun g e => hk g (h6 g e) (h5.lt g e).2), h6, ItsO.frame hk sub es h7, h9⟩, ItsO.frame hk rest ds' h8⟩
theorem ItsR.weak {ok ok' : Nat → Prop} {w : World} (hk : ∀ j, ok j → j < w.heap.size → ok' j) : ∀ (f : Fo) (ds : List ItV), ItsR ok w ds f → ItsR ok' w ds f
  | .nil, _, h => h
  | .cons k cr li bs sub rest, ds, h => by
    obtain ⟨d, ds', rfl, h1, h2, h3, h4, ⟨h5, h6, h7⟩, h8⟩ := h
    exact ⟨d, ds', rfl, h1, h2, h3, h4.weak hk, ⟨h5, FoR.weak hk _ _ _ h6, h7⟩, ItsR.weak hk rest ds' h8⟩
theorem ItsO.weak {ok ok' : Nat → Prop} {w : World} (hk : ∀ j, ok j → j < w.heap.size → ok' j) : ∀ (f : Fo) (ds : List ItV), ItsO ok w ds f → ItsO ok' w ds f
  | .nil, _, h => h
  | .cons k cr li bs sub rest, ds, h => by
    obtain ⟨d, ds', rfl, h1, h2, h3, h4, ⟨es, h5, h6, h7, h9⟩, h8⟩ := h
    exact ⟨d, ds', rfl, h1, h2, h3, h4.weak hk, ⟨es, h5, fun g e => hk g (h6 g e) (h5.lt g e).2, ItsO.weak hk sub es h7, h9⟩, ItsO.weak hk rest ds' h8⟩
theorem FoO.frame {ok : Nat → Prop} {w w' : World} {v : Value} {f : Fo} (h : FoO ok w v f) (hk : ∀ j, ok j → j < w.heap.size → w'.heap[j]? = w.heap[j]?) : FoO ok w' v f := by
  obtain ⟨ds, h1, h2, h3⟩ := h
  exact ⟨ds, h1.frame (fun g e => hk g (h2 g e) (h1.lt g e).2), h2, h3.frame hk⟩
theorem FoM.frame {ok : Nat → Prop} {w w' : World} {v : Value} {f : Fo} (h : FoM ok w v f) (hk : ∀ j, ok j → j < w.heap.size → w'.heap[j]? = w.heap[j]?) (hs : w.heap.size ≤ w'.heap.size) : FoM ok w' v f := by
  obtain ⟨ds, h1, h2, h3⟩ := h
  exact ⟨ds, h1.frame (fun g e => hk g (h2 g e) (h1.lt g e).2), h2, h3.frame hk hs⟩
theorem FoO.below {ok : Nat → Prop} {w w' : World} {v : Value} {f : Fo} (h : FoO ok w v f) (hb : Below w.heap.size w w') : FoO ok w' v f := h.frame (fun j _ hj => hb.block j hj)
theorem FoM.below {ok : Nat → Prop} {w w' : World} {v : Value} {f : Fo} (h : FoM ok w v f) (hb : Below w.heap.size w w') : FoM ok w' v f := h.frame (fun j _ hj => hb.block j hj) hb.size
theorem FoO.weak {ok ok' : Nat → Prop} {w : World} {v : Value} {f : Fo} (h : FoO ok w v f) (hk : ∀ j, ok j → j < w.heap.size → ok' j) : FoO ok' w v f := by
  obtain ⟨ds, h1, h2, h3⟩ := h
  exact ⟨ds, h1, fun g e => hk g (h2 g e) (h1.lt g e).2, h3.weak hk⟩
theorem FoM.weak {ok ok' : Nat → Prop} {w : World} {v : Value} {f : Fo} (h : FoM ok w v f) (hk : ∀ j, ok j → j < w.heap.size → ok' j) : FoM ok' w v f := by
  obtain ⟨ds, h1, h2, h3⟩ := h
  exact ⟨ds, h1, fun g e => hk g (h2 g e) (h1.lt g e).2, h3.weak hk⟩
theorem FoO.nil_ (ok : Nat → Prop) (w : World) : FoO ok w (.slice none 0 0) .nil := ⟨[], World.ownsRow_nil _ _ _ _, fun g e => (by cases e), rfl⟩
theorem FoM.nil_ (ok : Nat → Prop) (w : World) : FoM ok w (.slice none 0 0) .nil := ⟨[], World.ownsRow_nil _ _ _ _, fun g e => (by cases e), rfl⟩

/-- A row's items from place i on. -/
theorem FoR.of_row {ok : Nat → Prop} {w : World} {b off : Nat} (hb : b < w.heap.size) (hok : ok b) : ∀ (f : Fo) (ds : List ItV) (i : Nat),
    (∀ k (h : k < (cellsI ds).length), w.cell? ⟨b, off + i * 5 + k, none⟩ = some (cellsI ds)[k]) → ItsR ok w ds f → FoR ok w (some ⟨b, off, none⟩) i f
  | .nil, _, _, _, _ => trivial
  | .cons k cr li bs sub rest, ds, i, hc, h => by
    obtain ⟨d, ds', rfl, h1, h2, h3, h4, ⟨h5, h6, h7, h8, h9⟩, hr⟩ := h
    have hl : (cellsI (d :: ds')).length = (ds'.length + 1) * 5 := by rw [cellsI_length]; rfl
    have g : ∀ j v, d.cells[j]? = some v → w.cell? ⟨b, off + i * 5 + j, none⟩ = some v := fun j v hv => by
      have hj : j < d.cells.length := (List.getElem?_eq_some_iff.1 hv).1
      have hj5 : j < 5 := hj
      rw [hc j (by omega)]
      have : (cellsI (d :: ds'))[j]? = some v := by rw [cellsI_cons, List.getElem?_append_left hj]; exact hv
      rw [List.getElem?_eq_getElem (by omega)] at this
      exact this
    refine ⟨⟨b, off, d.A, d.n, d.c, d.As, d.cs, rfl, hb, hok, ⟨g 0 _ ?_, g 1 _ ?_, g 2 _ ?_, g 3 _ rfl, g 4 _ ?_⟩, h4, h6, h7, h8, h9⟩, ?_⟩
    · rw [← h1]; rfl
    · rw [← h2]; rfl
    · rw [← h3]; rfl
    · rw [← h5]; rfl
    · refine FoR.of_row hb hok rest ds' (i + 1) (fun q hq => ?_) hr
      have hq2 : q + 5 < (cellsI (d :: ds')).length := by rw [cellsI_cons, List.length_append]; have : d.cells.length = 5 := rfl; omega
      have := hc (q + 5) hq2
      rw [show off + (i + 1) * 5 + q = off + i * 5 + (q + 5) by omega, this]
      congr 1
theorem ItsO.r {ok : Nat → Prop} {w : World} : ∀ (f : Fo) (ds : List ItV), ItsO ok w ds f → ItsR ok w ds f
  | .nil, _, h => h
  | .cons k cr li bs sub rest, ds, h => by
    obtain ⟨d, ds', rfl, h1, h2, h3, h4, ⟨es, h5, h6, h7, h9⟩, h8⟩ := h
    have hs := ItsO.r sub es h7
    obtain ⟨A', c', e, q1, q2, q3, q4, -⟩ := h5.form
    injection e with e1 e2 e3
    have hel := ItsR.len sub es hs
    refine ⟨d, ds', rfl, h1, h2, h3, h4.r, ⟨e2.trans hel, ?_, by rw [← hel, e3]; exact q1, by rw [e3]; exact q2, h9⟩, ItsO.r rest ds' h8⟩
    rcases q3 with q3 | ⟨b, off, e, hb, hc⟩
    · have : es.length = 0 := by have := congrArg List.length q3; rw [cellsI_length] at this; simp at this; omega
      obtain rfl : sub = .nil := by
        cases sub with
        | nil => rfl
        | cons => simp only [Fo.len] at hel; omega
      trivial
    · have hA : d.As = some ⟨b, off, none⟩ := e1.trans e
      rw [hA]
      refine FoR.of_row hb (h6 b (by rw [hA]; rfl)) sub es 0 (fun k hk => ?_) hs
      rw [Nat.zero_mul, Nat.add_zero]
      exact hc k hk
theorem FoO.m {ok : Nat → Prop} {w : World} {v : Value} {f : Fo} (h : FoO ok w v f) : FoM ok w v f := by
  obtain ⟨ds, h1, h2, h3⟩ := h
  exact ⟨ds, h1, h2, h3.r⟩
/-- The list as it can be read. -/
theorem FoM.form {ok : Nat → Prop} {w : World} {v : Value} {f : Fo} {n : Nat} (h : FoM ok w v f) (hn : f.len = n) : ∃ A c, v = .slice A n c ∧ n ≤ c ∧ c ≤ maxLen ∧ FoR ok w A 0 f := by
  obtain ⟨ds, h1, h2, h3⟩ := h
  have hl := h3.len
  obtain ⟨A, c, rfl, q1, q2, q3, q4, -⟩ := h1.form
  refine ⟨A, c, by rw [hl, hn], by rw [← hn, ← hl]; exact q1, q2, ?_⟩
  rcases q3 with q3 | ⟨b, off, rfl, hb, hc⟩
  · have : ds.length = 0 := by have := congrArg List.length q3; rw [cellsI_length] at this; simp at this; omega
    obtain rfl : f = .nil := by
      cases f with
      | nil => rfl
      | cons => simp only [Fo.len] at hl; omega
    trivial
  · exact FoR.of_row hb (h2 b rfl) f ds 0 (fun k hk => by rw [Nat.zero_mul, Nat.add_zero]; exact hc k hk) h3
theorem FoO.form {ok : Nat → Prop} {w : World} {v : Value} {f : Fo} {n : Nat} (h : FoO ok w v f) (hn : f.len = n) : ∃ A c, v = .slice A n c ∧ n ≤ c ∧ c ≤ maxLen ∧ FoR ok w A 0 f := h.m.form hn
/-- One more item at the end. -/
theorem ItsR.snoc {ok : Nat → Prop} {w : World} {ds1 : List ItV} {g : Fo} (h : ItsR ok w ds1 g) : ∀ (f : Fo) (ds : List ItV), ItsR ok w ds f → ItsR ok w (ds ++ ds1) (f.app g)
  | .nil, _, h0 => by rw [h0]; exact h
  | .cons k cr li bs sub rest, ds, h0 => by
    obtain ⟨d, ds', rfl, h1, h2, h3, h4, h5, h8⟩ := h0
    exact ⟨d, ds' ++ ds1, rfl, h1, h2, h3, h4, h5, ItsR.snoc h rest ds' h8⟩
theorem ItsO.snoc {ok : Nat → Prop} {w : World} {ds1 : List ItV} {g : Fo} (h : ItsO ok w ds1 g) : ∀ (f : Fo) (ds : List ItV), ItsO ok w ds f → ItsO ok w (ds ++ ds1) (f.app g)
  | .nil, _, h0 => by rw [h0]; exact h
  | .cons k cr li bs sub rest, ds, h0 => by
    obtain ⟨d, ds', rfl, h1, h2, h3, h4, h5, h8⟩ := h0
    exact ⟨d, ds' ++ ds1, rfl, h1, h2, h3, h4, h5, ItsO.snoc h rest ds' h8⟩
end Go.Proofs.Ytcffinkkfdfcaaa

/- A list of items of one's own, grown item by item. Conditions: none. -/
namespace Go.Proofs.Ytcffinkkfdfcaaa
open Go Go.RowKit

/-- A list of items of one's own; none of its items has anything in the row's own block. -/
structure FoP (ok : Nat → Prop) (w : World) (v : Value) (ds : List ItV) (f : Fo) : Prop where
  row : OwnI w 0 v ds
  ok_ : ∀ g, v.ownBlock = some g → ok g
  its : ItsO (fun j => ok j ∧ v.ownBlock ≠ some j) w ds f
section
variable {ok ok' : Nat → Prop} {w w' : World} {v v' : Value} {ds : List ItV} {f : Fo}
theorem FoP.nil_ (ok : Nat → Prop) (w : World) : FoP ok w (.slice none 0 0) [] .nil := ⟨World.ownsRow_nil _ _ _ _, fun g e => (by cases e), rfl⟩
theorem FoP.o (h : FoP ok w v ds f) : FoO ok w v f := ⟨ds, h.row, h.ok_, h.its.weak (fun _ hj _ => hj.1)⟩
theorem FoP.lt (h : FoP ok w v ds f) : ∀ k, v.ownBlock = some k → k < w.heap.size := fun k e => (h.row.lt k e).2
theorem FoP.frame (h : FoP ok w v ds f) (hk : ∀ j, ok j → j < w.heap.size → w'.heap[j]? = w.heap[j]?) : FoP ok w' v ds f :=
  ⟨h.row.frame (fun g e => hk g (h.ok_ g e) (h.lt g e)), h.ok_, h.its.frame (fun j hj => hk j hj.1)⟩
theorem FoP.below (h : FoP ok w v ds f) (hb : Below w.heap.size w w') : FoP ok w' v ds f := h.frame (fun j _ hj => hb.block j hj)
theorem FoP.weak (h : FoP ok w v ds f) (hk : ∀ j, ok j → j < w.heap.size → ok' j) : FoP ok' w v ds f :=
  ⟨h.row, fun g e => hk g (h.ok_ g e) (h.lt g e), h.its.weak (fun j hj hl => ⟨hk j hj.1 hl, hj.2⟩)⟩
theorem FoP.more (h : FoP ok w v ds f) {d : ItV} {R : Fo} (hd : ItsO (fun j => ok j ∧ v.ownBlock ≠ some j) w [d] R) (ho : OwnI w' 0 v' (ds ++ [d])) (hg : w.grownBy w' v.ownBlock) (hv : v'.ownBlock = v.ownBlock ∨ v'.ownBlock = some w.heap.size) (hok : ok w.heap.size) :
    FoP ok w' v' (ds ++ [d]) (f.app R) := by
  refine ⟨ho, fun g e => ?_, ?_⟩
  · rcases hv with hv | hv
    · exact h.ok_ g (hv.symm.trans e)
    · rw [hv] at e; injection e with e; subst e; exact hok
  · have hi := ItsO.snoc hd f ds h.its
    refine (hi.weak (ok' := fun j => (ok j ∧ v.ownBlock ≠ some j) ∧ v'.ownBlock ≠ some j) (fun j hj hl => ⟨hj, fun e => ?_⟩)).frame (w' := w') (fun j hj hl => hg.block j hl (fun e => hj.1.2 e.symm)) |>.weak (fun j hj _ => ⟨hj.1.1, hj.2⟩)
    rcases hv with hv | hv
    · exact hj.2 (hv.symm.trans e)
    · rw [hv] at e; injection e with e; omega
end
/-- One item of one's own. -/
theorem ItsO.one {ok : Nat → Prop} {w : World} {k : Int} {cr li : Bool} {bs : List UInt8} {sub : Fo} {A As : Option Addr} {n c ns cs : Nat} (ht : TxtO ok w A n c bs) (hs : FoO ok w (.slice As ns cs) sub) (hl : sub.len ≤ 2199023255488) :
    ItsO ok w [⟨k, cr, li, A, n, c, As, ns, cs⟩] (.cons k cr li bs sub .nil) := by
  obtain ⟨es, h1, h2, h3⟩ := hs
  exact ⟨_, [], rfl, rfl, rfl, rfl, ht, ⟨es, h1, h2, h3, hl⟩, rfl⟩
theorem TxtO.nil_ (ok : Nat → Prop) (w : World) : TxtO ok w none 0 0 [] := ⟨rfl, Own.nil_ _ _ _, fun a e => (by cases e), by omega⟩
theorem TxtO.of_own {ok : Nat → Prop} {w : World} {B : Nat} {A : Option Addr} {n c : Nat} {bs : List UInt8} (h : OwnB w B (.slice A n c) bs) (hn : bs.length = n) (hl : n ≤ 140737488355328) (hok : ∀ j, B ≤ j → j < w.heap.size → ok j) : TxtO ok w A n c bs := by
  refine ⟨hn, Own.low h (Nat.zero_le _), fun a e => ?_, hl⟩
  subst e
  have := Own.lt h a.block rfl
  exact hok _ this.1 this.2
end Go.Proofs.Ytcffinkkfdfcaaa

/- What the reader of the layer wire does: its small methods. Conditions: a reader that lies in a block of its own. -/
namespace Go.Proofs.Ytcffinkkfdfcaaa
open Go Go.RowKit

/-- A reader's state: its bytes, its place, its error; where its bytes lie (no word of the program's). -/
structure RS where
  b : List UInt8
  at_ : Nat
  err : Nat
  gA : Option Addr

/-- Block r holds the reader s. -/
def Rdr (w : World) (r : Nat) (s : RS) : Prop :=
  ∃ A c, w.heap[r]? = some (.cells #[.slice A s.b.length c, .int .i64 (s.at_ : Int), .int .i64 (s.err : Int)] 148 (0, 0)) ∧ Rd w A (s.b.map bv) ∧ (A = s.gA ∧ ∀ a, A = some a → a.block ≠ r) ∧
    s.b.length ≤ c ∧ c ≤ maxLen ∧ s.at_ ≤ s.b.length ∧ s.b.length ≤ 140737488355328

theorem Rdr.below {w w' : World} {r : Nat} {s : RS} (h : Rdr w r s) (hb : Below w.heap.size w w') : Rdr w' r s := by
  obtain ⟨A, c, h1, h2, h3⟩ := h
  exact ⟨A, c, (hb.block r (heap_lt h1)).trans h1, h2.below hb, h3⟩
theorem Rdr.drewN {w : World} {r : Nat} {s : RS} (h : Rdr w r s) (n : Nat) : Rdr (w.drewN n) r s := h
theorem Rdr.lt {w : World} {r : Nat} {s : RS} (h : Rdr w r s) : r < w.heap.size := by
  obtain ⟨A, c, h1, _⟩ := h; exact heap_lt h1

set_option maxRecDepth 100000 in
set_option maxHeartbeats 400000 in
theorem Rnew_c (A : Option Addr) (n c : Nat) (bs : List UInt8) (w : World) (hn : bs.length = n) (hr : Rd w A (bs.map bv)) (hl : n ≤ 140737488355328) :
    Calls Try.prog 70 #[.slice A n c] w fun e w' => ∃ r A', e = .returned (.pointer (some ⟨r, 0, none⟩)) ∧ w.heap.size ≤ r ∧ Rdr w' r ⟨bs, 0, 0, A'⟩ ∧ Below w.heap.size w w' ∧ ∀ a, A' = some a → w.heap.size ≤ a.block ∧ a.block < w'.heap.size := by
  have HN := Lib.hid hn; clear hn
  go_enter Try.func70, Try.ntmps70
  go_wp2_with (first | (at_builtin; refine wpList_cloneB _ rfl (.tmp 3) rfl A n c bs rfl HN.out hr hl ?_; intro A' c' w2 h1 h2 h3 h4 h5 h6; have H1 := Lib.hid h1; clear h1; have H5 := Lib.hid h5; clear h5; have H6 := Lib.hid h6; clear h6))
  go_ret
  have hz := h2.size
  refine ⟨_, A', rfl, hz, ⟨A', c', ?_, Rd.alloc H5.out _, ⟨rfl, ?_⟩, by simp [HN.out]; exact h3, h4, Nat.zero_le _, by simp [HN.out]; exact hl⟩, h2.alloc hz _, ?_⟩
  · rw [heap_alloc_new]; simp [HN.out]
  · intro a ha; have := (H6.out a ha).2; omega
  · intro a ha; have := H6.out a ha; simp only [World.size_alloc]; omega

/-- The reader's cells, for a walk. -/
theorem Rdr.open_ {w : World} {r : Nat} {s : RS} (h : Rdr w r s) : ∃ A c, (w.cell? ⟨r, 0, none⟩ = some (.slice A s.b.length c) ∧ w.cell? ⟨r, 1, none⟩ = some (.int .i64 (s.at_ : Int)) ∧ w.cell? ⟨r, 2, none⟩ = some (.int .i64 (s.err : Int))) ∧
    (w.frozen? ⟨r, 0, none⟩ = false ∧ w.frozen? ⟨r, 1, none⟩ = false ∧ w.frozen? ⟨r, 2, none⟩ = false) ∧ Rd w A (s.b.map bv) ∧ s.b.length ≤ c ∧ c ≤ maxLen ∧ s.at_ ≤ s.b.length ∧ s.b.length ≤ 140737488355328 := by
  obtain ⟨A, c, h1, h2, h3, h4, h5, h6, h7⟩ := h
  exact ⟨A, c, ⟨by rw [heap_cell h1]; rfl, by rw [heap_cell h1]; rfl, by rw [heap_cell h1]; rfl⟩, ⟨heap_free h1 _, heap_free h1 _, heap_free h1 _⟩, h2, h4, h5, h6, h7⟩
theorem Rdr.setErr {w : World} {r : Nat} {s : RS} (h : Rdr w r s) (e : Nat) : Rdr (w.setCell ⟨r, 2, none⟩ (.int .i64 (e : Int))) r { s with err := e } := by
  obtain ⟨A, c, h1, h2, h3, h4⟩ := h
  exact ⟨A, c, by rw [heap_set h1]; rfl, h2.far _ h3.2, h3, h4⟩
theorem Rdr.setAt {w : World} {r : Nat} {s : RS} (h : Rdr w r s) (k : Nat) (hk : k ≤ s.b.length) : Rdr (w.setCell ⟨r, 1, none⟩ (.int .i64 (k : Int))) r { s with at_ := k } := by
  obtain ⟨A, c, h1, h2, h3, h4, h5, _, h6⟩ := h
  exact ⟨A, c, by rw [heap_set h1]; rfl, h2.far _ h3.2, h3, h4, h5, hk, h6⟩
/-- A store elsewhere. -/
theorem Rdr.farSet {w : World} {r : Nat} {s : RS} (h : Rdr w r s) {p : Addr} (u : Value) (h1 : r ≠ p.block) (h2 : ∀ a, s.gA = some a → a.block ≠ p.block) : Rdr (w.setCell p u) r s := by
  obtain ⟨A, c, g1, g2, g3, g4⟩ := h
  exact ⟨A, c, (heap_far u h1).trans g1, g2.far _ (by rw [g3.1]; exact h2), g3, g4⟩

/-! ### Err, Left, End -/
set_option maxRecDepth 100000 in
set_option maxHeartbeats 400000 in
theorem Rerr_c (r : Nat) (s : RS) (w : World) (h : Rdr w r s) :
    Calls Try.prog 76 #[.pointer (some ⟨r, 0, none⟩)] w fun e w' => e = .returned (.int .i64 (s.err : Int)) ∧ w = w' := by
  obtain ⟨A, c, ⟨c0, c1, c2⟩, _, _⟩ := h.open_
  go_enter Try.func76, Try.ntmps76
  go_wp2
  go_ret
  exact ⟨rfl, rfl⟩

set_option maxRecDepth 100000 in
set_option maxHeartbeats 400000 in
theorem Rleft_c (r : Nat) (s : RS) (w : World) (h : Rdr w r s) :
    Calls Try.prog 79 #[.pointer (some ⟨r, 0, none⟩)] w fun e w' => e = .returned (.int .i64 ((s.b.length - s.at_ : Nat) : Int)) ∧ ∃ q, w' = w.drewN q := by
  obtain ⟨A, c, ⟨c0, c1, c2⟩, _, _, _, _, hk, hl⟩ := h.open_
  have e1 : ((s.b.length - s.at_ : Nat) : Int) = (s.b.length : Int) - (s.at_ : Int) := by omega
  rw [e1]
  clear e1
  go_enter Try.func79, Try.ntmps79
  go_wp2
  go_quiet (fail)
  go_wp2
  go_ret
  exact ⟨rfl, _, rfl⟩

def endR (s : RS) : Nat := if s.err = 0 ∧ s.at_ < s.b.length then 6 else s.err

set_option maxRecDepth 100000 in
set_option maxHeartbeats 400000 in
theorem Rend_c (r : Nat) (s : RS) (w : World) (h : Rdr w r s) :
    Calls Try.prog 77 #[.pointer (some ⟨r, 0, none⟩)] w fun e w' => e = .returned (.int .i64 (endR s : Int)) ∧ ∃ q, w' = w.drewN q := by
  by_cases h0 : s.err = 0
  · have hb : (((s.err : Nat) : Int) == 0) = true := by rw [beq_iff_eq]; omega
    by_cases h1 : s.at_ < s.b.length
    · have hd : decide ((0 : Int) < ((s.b.length - s.at_ : Nat) : Int)) = true := decide_eq_true (by omega)
      have e1 : endR s = 6 := if_pos ⟨h0, h1⟩
      rw [e1]
      clear e1
      have H0 := Lib.hid h0; clear h0
      go_enter Try.func77, Try.ntmps77
      go_wp2_with (first | (go_at_call 76; refine (Rerr_c _ _ _ h).mono ?_; rintro e w' ⟨rfl, rfl⟩) | (go_at_call 79; refine (Rleft_c _ _ _ h).mono ?_; rintro e w' ⟨rfl, q, rfl⟩))
      go_ret
      exact ⟨rfl, _, rfl⟩
    · have hd : decide ((0 : Int) < ((s.b.length - s.at_ : Nat) : Int)) = false := decide_eq_false (by omega)
      have e1 : endR s = s.err := if_neg (fun h => h1 h.2)
      rw [e1]
      clear e1
      have H0 := Lib.hid h0; clear h0
      go_enter Try.func77, Try.ntmps77
      go_wp2_with (first | (go_at_call 76; first | (refine (Rerr_c _ _ _ h).mono ?_; rintro e w' ⟨rfl, rfl⟩) | (refine (Rerr_c _ _ _ (h.drewN _)).mono ?_; rintro e w' ⟨rfl, rfl⟩)) | (go_at_call 79; refine (Rleft_c _ _ _ h).mono ?_; rintro e w' ⟨rfl, q, rfl⟩))
      go_ret
      exact ⟨rfl, _, rfl⟩
  · have hb : (((s.err : Nat) : Int) == 0) = false := by rw [beq_eq_false_iff_ne]; omega
    have e1 : endR s = s.err := if_neg (fun h => h0 h.1)
    rw [e1]
    clear e1
    have H0 := Lib.hid h0; clear h0
    go_enter Try.func77, Try.ntmps77
    go_wp2_with (first | (go_at_call 76; refine (Rerr_c _ _ _ h).mono ?_; rintro e w' ⟨rfl, rfl⟩))
    go_ret
    exact ⟨rfl, 0, rfl⟩
end Go.Proofs.Ytcffinkkfdfcaaa

/- What the reader of the layer wire does: Var. Conditions: a reader that lies in a block of its own. -/
namespace Go.Proofs.Ytcffinkkfdfcaaa
open Go Go.RowKit

def varR (s : RS) : Nat × RS :=
  if s.err ≠ 0 then (0, s) else match varGo (s.b.drop s.at_) 0 with
    | .bad e => (0, { s with err := e })
    | .ok n k => (n, { s with at_ := s.at_ + k })

set_option maxRecDepth 100000 in
set_option maxHeartbeats 400000 in
theorem Rvar_c (r : Nat) (s : RS) (w : World) (h : Rdr w r s) :
    Calls Try.prog 83 #[.pointer (some ⟨r, 0, none⟩)] w fun e w' => e = .returned (.int .u64 ((varR s).1 : Int)) ∧ Rdr w' r (varR s).2 ∧ w.grownBy w' (some r) := by
  obtain ⟨A, c, ⟨c0, c1, c2⟩, ⟨f0, f1, f2⟩, hrd, hlc, hcm, hk, hl⟩ := h.open_
  by_cases h0 : s.err = 0
  · have hb : (((s.err : Nat) : Int) != 0) = false := by rw [bne_eq_false_iff_eq]; omega
    obtain ⟨l, el⟩ : ∃ l, l = s.b.drop s.at_ := ⟨_, rfl⟩
    have e1 : varR s = match varGo l 0 with
      | .bad e => (0, { s with err := e })
      | .ok n k => (n, { s with at_ := s.at_ + k }) := by rw [varR, if_neg (by omega), el]
    have hll : l.length + s.at_ = s.b.length := by rw [el, List.length_drop]; omega
    have hcell : ∀ i (hi : i < l.length), ∃ b off, A = some ⟨b, off, none⟩ ∧ w.cell? ⟨b, off + (s.at_ + i), none⟩ = some (.int .u8 ((l[i]).toNat : Int)) := by
      intro i hi
      obtain ⟨b, off, hA, _, hc⟩ := hrd.addrB (by omega)
      refine ⟨b, off, hA, ?_⟩
      rw [hc (s.at_ + i) (by omega)]
      subst el
      simp [bv]
    have HC := Lib.hid hcell; clear hcell
    have H1 := Lib.hid e1; clear e1
    have H0 := Lib.hid h0; clear h0
    clear el
    go_enter Try.func83, Try.ntmps83
    go_wp2
    go_loopw [3, 4] (fun n i wr => ∃ (x k : Nat), k ≤ 9 ∧ k ≤ l.length ∧ n = .int .u64 x ∧ i = .int .i64 k ∧ x < 128 ^ k ∧ varGo l 0 = (varGo (l.drop k) k).after x k ∧ ∃ q, wr = w.drewN q) (fun n i _ => 10 - (intOf i).toNat)
    case atStart => exact ⟨0, 0, by omega, by omega, rfl, rfl, by decide, by rw [VR.after_zero]; rfl, 0, rfl⟩
    case round =>
      obtain ⟨x, k, hk9, hkl, rfl, rfl, hx, hv, q, rfl⟩ := hrel
      have HV := Lib.hid hv; clear hv
      have HX := Lib.hid hx; clear hx
      rcases Nat.lt_or_ge k l.length with hlt | hge
      · have hu : (s.at_ : Int) + (k : Int) < (s.b.length : Int) := by omega
        obtain ⟨b, off, rfl, hc⟩ := HC.out k hlt
        obtain ⟨d, ed⟩ : ∃ d, d = (l[k]).toNat := ⟨_, rfl⟩
        have hd : d < 256 := by rw [ed]; exact UInt8.toNat_lt _
        rw [← ed] at hc
        have ED := Lib.hid ed; clear ed
        have hu2 : U64 x := by
          rcases Nat.eq_zero_or_pos k with h | h
          · have := HX.out; rw [h] at this; exact Nat.lt_of_lt_of_le this (by decide)
          · exact Nat.lt_of_lt_of_le HX.out (Nat.le_trans (Nat.pow_le_pow_right (by decide) hk9) (by decide))
        have ha := and127 d hd
        by_cases hbad : badD k d
        · have hv3 : varR s = (0, { s with err := 3 }) := by rw [H1.out, HV.out, varGo_form' hlt ED.out x hbad]
          have HV3 := Lib.hid hv3; clear hv3
          have fin : ∀ q', Rdr ((w.drewN q').setCell ⟨r, 2, none⟩ (.int .i64 3)) r (varR s).2 ∧ w.grownBy ((w.drewN q').setCell ⟨r, 2, none⟩ (.int .i64 3)) (some r) := fun q' => by
            rw [HV3.out]
            exact ⟨(h.drewN q').setErr 3, only_setD q' r 2 _⟩
          have FIN := Lib.hid fin; clear fin
          have go : ∀ (P : Prop), (P → True) := fun _ _ => trivial
          clear go
          rcases hbad with ⟨h9, h1⟩ | ⟨h9, h1⟩
          · have hb9 : (((k : Nat) : Int) == 9) = true := by rw [beq_iff_eq]; omega
            have H9 := Lib.hid h9; clear h9
            go_wp2
            go_quiet (fail)
            go_wp2
            go_quiet (fail)
            go_wp2
            go_ret
            exact ⟨by rw [HV3.out]; rfl, FIN.out _⟩
          · have hb9 : (((d : Nat) : Int) == 0) = true := by rw [beq_iff_eq]; omega
            have hb8 : decide ((1 : Int) < (d : Int)) = false := decide_eq_false (by omega)
            have HD1 := Lib.hid h1; clear h1
            go_wp2
            go_quiet (fail)
            go_wp2
            go_quiet (fail)
            go_wp2
            all_goals
              go_ret
              exact ⟨by rw [HV3.out]; rfl, FIN.out _⟩
        · have h9d : k = 9 → d % 128 ≤ 1 := by
            intro h; have : ¬ 1 < d := fun h1 => hbad (.inl ⟨h, h1⟩); omega
          obtain ⟨y, hy⟩ : ∃ y, y = x + 128 ^ k * (d % 128) := ⟨_, rfl⟩
          have hor := or_walk HX.out hk9 h9d hu2
          rw [← hy] at hor
          have hb1 : ¬ (k = 9 ∧ 1 < d) := fun h => hbad (.inl h)
          have hb2 : ¬ (0 < k ∧ d = 0) := fun h => hbad (.inr h)
          have HB := Lib.hid hbad; clear hbad
          have HY := Lib.hid hy; clear hy
          clear h9d
          rcases Nat.lt_or_ge d 128 with h8 | h8
          · have hv3 : varR s = (y, { s with at_ := s.at_ + (k + 1) }) := by rw [H1.out, HV.out, varGo_last' hlt ED.out x HB.out h8, HY.out]
            have HV3 := Lib.hid hv3; clear hv3
            have fin : ∀ q', Rdr ((w.drewN q').setCell ⟨r, 1, none⟩ (.int .i64 ((s.at_ : Int) + ((k : Int) + 1)))) r (varR s).2 ∧ w.grownBy ((w.drewN q').setCell ⟨r, 1, none⟩ (.int .i64 ((s.at_ : Int) + ((k : Int) + 1)))) (some r) := fun q' => by
              rw [HV3.out, show (s.at_ : Int) + ((k : Int) + 1) = ((s.at_ + (k + 1) : Nat) : Int) by omega]
              exact ⟨(h.drewN q').setAt _ (by omega), only_setD q' r 1 _⟩
            have FIN := Lib.hid fin; clear fin
            by_cases h9 : k = 9
            · have hb9 : (((k : Nat) : Int) == 9) = true := by rw [beq_iff_eq]; omega
              have hb0 : (((d : Nat) : Int) == 0) = false := by rw [beq_eq_false_iff_ne]; omega
              have hb8 : decide ((1 : Int) < (d : Int)) = false := decide_eq_false (by omega)
              clear hb1 hb2 h9
              go_wp2
              go_quiet (fail)
              go_wp2
              go_quiet (fail)
              go_wp2
              all_goals
                go_ret
                exact ⟨by rw [HV3.out]; rfl, FIN.out _⟩
            · have hb9 : (((k : Nat) : Int) == 9) = false := by rw [beq_eq_false_iff_ne]; omega
              rcases Nat.eq_zero_or_pos k with h0k | h0k
              · have hbk : decide ((0 : Int) < (k : Int)) = false := decide_eq_false (by omega)
                have hbn : ¬ 0 < k := by omega
                have H0K := Lib.hid h0k
                clear hb1 hb2 h9 h0k
                go_wp2
                go_quiet (fail)
                go_wp2
                go_quiet (fail)
                go_wp2
                all_goals
                  go_ret
                  exact ⟨by rw [HV3.out]; rfl, FIN.out _⟩
              · have hb0 : (((d : Nat) : Int) == 0) = false := by rw [beq_eq_false_iff_ne]; omega
                clear hb1 hb2 h9
                go_wp2
                go_quiet (fail)
                go_wp2
                go_quiet (fail)
                go_wp2
                all_goals
                  go_ret
                  exact ⟨by rw [HV3.out]; rfl, FIN.out _⟩
          · have hk9' : k < 9 := by
              rcases Nat.lt_or_ge k 9 with h | h
              · exact h
              · exact absurd ⟨by omega, by omega⟩ hb1
            have hrel : y < 128 ^ (k + 1) ∧ varGo l 0 = (varGo (l.drop (k + 1)) (k + 1)).after y (k + 1) := by
              refine ⟨by rw [HY.out]; exact digit_lt HX.out (by omega), ?_⟩
              rw [HV.out, varGo_more' hlt ED.out x HB.out h8, HY.out]
            have HR := Lib.hid hrel; clear hrel
            have hb9 : (((k : Nat) : Int) == 9) = false := by rw [beq_eq_false_iff_ne]; omega
            have hb0 : (((d : Nat) : Int) == 0) = false := by rw [beq_eq_false_iff_ne]; omega
            clear hb1 hb2
            go_wp2
            go_quiet (fail)
            go_wp2
            go_quiet (fail)
            go_wp2
            all_goals
              go_roundw
              case rel => exact ⟨y, k + 1, by omega, by omega, rfl, by go_num, HR.out.1, HR.out.2, _, rfl⟩
              case measure => simp [intOf]; omega
      · have hv3 : varR s = (0, { s with err := 2 }) := by rw [H1.out, HV.out, varGo_end hge]
        have HV3 := Lib.hid hv3; clear hv3
        have fin : ∀ q', Rdr ((w.drewN q').setCell ⟨r, 2, none⟩ (.int .i64 2)) r (varR s).2 ∧ w.grownBy ((w.drewN q').setCell ⟨r, 2, none⟩ (.int .i64 2)) (some r) := fun q' => by
          rw [HV3.out]
          exact ⟨(h.drewN q').setErr 2, only_setD q' r 2 _⟩
        have FIN := Lib.hid fin; clear fin
        have hu : (s.b.length : Int) ≤ (s.at_ : Int) + (k : Int) := by omega
        go_wp2
        go_quiet (fail)
        go_wp2
        go_ret
        exact ⟨by rw [HV3.out]; rfl, FIN.out _⟩
  · have hb : (((s.err : Nat) : Int) != 0) = true := by rw [bne_iff_ne]; omega
    have e1 : varR s = (0, s) := if_pos h0
    rw [e1]
    clear e1
    have H0 := Lib.hid h0; clear h0
    go_enter Try.func83, Try.ntmps83
    go_wp2
    go_ret
    exact ⟨rfl, h, World.grownBy.refl _ _⟩
end Go.Proofs.Ytcffinkkfdfcaaa

/- What the reader of the layer wire does: Num and Take. Conditions: a reader that lies in a block of its own. -/
namespace Go.Proofs.Ytcffinkkfdfcaaa
open Go Go.RowKit

def numR (s : RS) (size : Int) : Nat × RS :=
  if s.err ≠ 0 then (0, s) else if size < 1 ∨ 8 < size then (0, { s with err := 1 })
  else if (s.b.length : Int) - (s.at_ : Int) < size then (0, { s with err := 2 })
  else (beN ((s.b.drop s.at_).take size.toNat), { s with at_ := s.at_ + size.toNat })

theorem setErr_only {w : World} {r : Nat} {s : RS} (h : Rdr w r s) (q e : Nat) : Rdr ((w.drewN q).setCell ⟨r, 2, none⟩ (.int .i64 (e : Int))) r { s with err := e } ∧ w.grownBy ((w.drewN q).setCell ⟨r, 2, none⟩ (.int .i64 (e : Int))) (some r) :=
  ⟨(h.drewN q).setErr e, only_setD q r 2 _⟩

set_option maxRecDepth 100000 in
set_option maxHeartbeats 400000 in
theorem Rnum_c (r : Nat) (s : RS) (size : Int) (w : World) (h : Rdr w r s) (hs : (Lit.int .i64 size).wf = true) :
    Calls Try.prog 71 #[.pointer (some ⟨r, 0, none⟩), .int .i64 size] w fun e w' => e = .returned (.int .u64 ((numR s size).1 : Int)) ∧ Rdr w' r (numR s size).2 ∧ w.grownBy w' (some r) := by
  obtain ⟨A, c, ⟨c0, c1, c2⟩, ⟨f0, f1, f2⟩, hrd, hlc, hcm, hk, hl⟩ := h.open_
  by_cases h0 : s.err = 0
  · have hb : (((s.err : Nat) : Int) != 0) = false := by rw [bne_eq_false_iff_eq]; omega
    by_cases hsz : size < 1 ∨ 8 < size
    · have e1 : numR s size = (0, { s with err := 1 }) := by rw [numR, if_neg (by omega), if_pos hsz]
      rw [e1]
      clear e1
      have H0 := Lib.hid h0; clear h0
      rcases hsz with h1 | h1
      · go_enter Try.func71, Try.ntmps71
        go_wp2
        go_ret
        exact ⟨rfl, setErr_only h 0 1⟩
      · go_enter Try.func71, Try.ntmps71
        go_wp2
        go_ret
        exact ⟨rfl, setErr_only h 0 1⟩
    · obtain ⟨n, rfl⟩ := Int.eq_ofNat_of_zero_le (show 0 ≤ size by omega)
      have hn1 : 1 ≤ (n : Int) := by omega
      have hn8 : (n : Int) ≤ 8 := by omega
      by_cases hsh : (s.b.length : Int) - (s.at_ : Int) < (n : Int)
      · have e1 : numR s n = (0, { s with err := 2 }) := by rw [numR, if_neg (by omega), if_neg (by omega), if_pos hsh]
        rw [e1]
        clear e1
        have H0 := Lib.hid h0; clear h0
        have HS := Lib.hid hsz; clear hsz
        go_enter Try.func71, Try.ntmps71
        go_wp2
        go_quiet (fail)
        go_wp2
        go_ret
        exact ⟨rfl, setErr_only h _ 2⟩
      · obtain ⟨l, el⟩ : ∃ l, l = s.b.drop s.at_ := ⟨_, rfl⟩
        have e1 : numR s n = (beN (l.take n), { s with at_ := s.at_ + n }) := by rw [numR, if_neg (by omega), if_neg (by omega), if_neg hsh, el]; rfl
        have hll : l.length + s.at_ = s.b.length := by rw [el, List.length_drop]; omega
        have hsh' : (n : Int) ≤ (s.b.length : Int) - (s.at_ : Int) := by omega
        have H1 := Lib.hid e1; clear e1
        have H0 := Lib.hid h0; clear h0
        have HS := Lib.hid hsz; clear hsz
        have EL := Lib.hid el; clear el
        clear hsh
        go_enter Try.func71, Try.ntmps71
        go_wp2
        go_quiet (fail)
        go_wp2
        go_loopw [5, 43] (fun x i wr => ∃ k : Nat, k ≤ n ∧ i = .int .i64 k ∧ x = .int .u64 ((beN (l.take k) : Nat) : Int) ∧ Rdr wr r { s with at_ := s.at_ + k } ∧ w.grownBy wr (some r)) (fun x i _ => n - (intOf i).toNat)
        case atStart => exact ⟨0, Nat.zero_le _, rfl, rfl, h, ⟨rfl, rfl, rfl, Nat.le_refl _, fun _ _ _ => rfl⟩⟩
        case round =>
          obtain ⟨k, hkn, rfl, rfl, hw, hg⟩ := hrel
          rcases Nat.lt_or_ge k n with hlt | hge
          · have hkl : k < l.length := by omega
            obtain ⟨A', c', ⟨d0, d1, d2⟩, ⟨g0, g1, g2⟩, hrd', hlc', _, _, _⟩ := hw.open_
            simp only [] at d0 d1 d2 hrd' hlc'
            obtain ⟨b, off, rfl, _, hc⟩ := hrd'.addrB (by omega)
            obtain ⟨d, ed⟩ : ∃ d, d = (l[k]).toNat := ⟨_, rfl⟩
            have hcell : wr.cell? ⟨b, off + (s.at_ + k), none⟩ = some (.int .u8 (d : Int)) := by
              rw [hc (s.at_ + k) (by omega), ed]
              have := EL.out
              subst this
              simp [bv]
            have hd : d < 256 := by rw [ed]; exact UInt8.toNat_lt _
            obtain ⟨x, hx⟩ : ∃ x, x = beN (l.take k) := ⟨_, rfl⟩
            have hx1 : beN (l.take (k + 1)) = x * 256 + d := by
              rw [List.take_succ_eq_append_getElem hkl, beN_snoc, hx, ed]
            have hx2 : x < 256 ^ 7 := by
              rw [hx]
              exact Nat.lt_of_lt_of_le (beN_lt _) (Nat.pow_le_pow_right (by decide) (by rw [List.length_take]; omega))
            rw [← hx]
            have hxm : x * 256 < 18446744073709551616 := by omega
            have hor := or_walk8 hxm hd
            have HX1 := Lib.hid hx1; clear hx1
            have HX2 := Lib.hid hx2; clear hx2
            have hwx : IntKind.u64.wrap ((x : Int) * 256) = (x : Int) * 256 := IntWalk.u64_in _ ⟨by omega, by omega⟩
            rw [← hwx] at hor
            have fin : ∀ q' : Nat, ∃ y : Nat, Value.int .i64 ((s.at_ : Int) + (k : Int) + 1) = .int .i64 (y : Int) ∧ Rdr ((wr.drewN q').setCell ⟨r, 1, none⟩ (.int .i64 (y : Int))) r { s with at_ := s.at_ + (k + 1) } ∧ w.grownBy ((wr.drewN q').setCell ⟨r, 1, none⟩ (.int .i64 (y : Int))) (some r) := fun q' =>
              ⟨s.at_ + (k + 1), by congr 1, (hw.drewN q').setAt _ (by show _ ≤ s.b.length; omega), only_trans hg (only_setD q' r 1 _)⟩
            have FIN := Lib.hid fin; clear fin
            have HOR := Lib.hid hor; clear hor
            clear hwx
            have HXM := Lib.hid hxm; clear hxm
            have HX := Lib.hid hx; clear hx
            have ED := Lib.hid ed; clear ed
            have hsk : (s.at_ : Int) + (k : Int) < (s.b.length : Int) := by omega
            clear hc c0 c1 c2 f0 f1 f2
            go_wp2
            go_quiet (fail)
            go_wp2
            go_roundw
            case rel =>
              obtain ⟨y, e1, e2, e3⟩ := FIN.out nq
              refine ⟨k + 1, by omega, by go_num, by rw [HOR.out, HX1.out], ?_, ?_⟩
              · rw [← e1] at e2; exact e2
              · rw [← e1] at e3; exact e3
            case measure => simp [intOf]; omega
          · obtain rfl : k = n := by omega
            go_wp2
            go_ret
            rw [H1.out]
            exact ⟨rfl, hw, hg⟩
  · have hb : (((s.err : Nat) : Int) != 0) = true := by rw [bne_iff_ne]; omega
    have e1 : numR s size = (0, s) := if_pos h0
    rw [e1]
    clear e1
    have H0 := Lib.hid h0; clear h0
    go_enter Try.func71, Try.ntmps71
    go_wp2
    go_ret
    exact ⟨rfl, h, World.grownBy.refl _ _⟩
end Go.Proofs.Ytcffinkkfdfcaaa
