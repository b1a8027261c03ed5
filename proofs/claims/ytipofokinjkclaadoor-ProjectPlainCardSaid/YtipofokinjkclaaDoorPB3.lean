/- Parts one behind the other: Rows of cells in memory: six cells each; appended, made, copied, stored into; texts in a row; What may be of colours, pens, cells, told by the program and by the reference; when two pens, two cells are equal; A region that draws its order, by a relation for each operation: what each yields is told by a relation that stays true as the world grows; then whatever the order, all relations hold at the end; Steps of a region told by relations: operations whose guard does not want them; loads of one cell and of several. Conditions: as told at each. -/
import Derived.Test.YtipofokinjkclaaDoorPB2
import Derived.Test.YtipofokinjkclaaDoorPB1
import Derived.Laws.OwnMore
import Derived.Laws.StructEq

set_option linter.unusedVariables false
set_option linter.unusedSimpArgs false
/- Rows of cells in memory: six cells each; appended, made, copied, stored into; texts in a row. Conditions: lengths that fit. -/
namespace Go.Proofs.YtipofokinjkclaaDoor
open Go Go.RowKit

def CeD.cells (d : CeD) : List Value := [.int .i32 d.r, .int .u8 d.w, .int .u32 d.fg, .int .u32 d.bg, .int .u8 d.at_, .int .u16 d.ln]
def CeD.val (d : CeD) : Value := .agg #[.int .i32 d.r, .int .u8 d.w, .int .u32 d.fg, .int .u32 d.bg, .int .u8 d.at_, .int .u16 d.ln]
def cellsC (ds : List CeD) : List Value := ds.flatMap CeD.cells
theorem cellsC_cons (d : CeD) (ds : List CeD) : cellsC (d :: ds) = d.cells ++ cellsC ds := rfl
theorem cellsC_append (a b : List CeD) : cellsC (a ++ b) = cellsC a ++ cellsC b := by simp [cellsC]
theorem cellsC_length (ds : List CeD) : (cellsC ds).length = ds.length * 6 := by
  induction ds with
  | nil => rfl
  | cons d ds ih => rw [cellsC_cons, List.length_append, ih]; simp [CeD.cells]; omega
theorem cellsC_get : ∀ (ds : List CeD) (i : Nat) (h : i < ds.length) (j : Nat), j < 6 → (cellsC ds)[i * 6 + j]? = (ds[i].cells)[j]?
  | d :: ds, 0, _, j, hj => by
    rw [cellsC_cons, Nat.zero_mul, Nat.zero_add, List.getElem?_append_left (by simpa [CeD.cells] using hj)]
    rfl
  | d :: ds, i + 1, h, j, hj => by
    rw [cellsC_cons, List.getElem?_append_right (by simp [CeD.cells]; omega)]
    have e : (i + 1) * 6 + j - d.cells.length = i * 6 + j := by simp [CeD.cells]; omega
    rw [e, cellsC_get ds i (by simpa using h) j hj]
    rfl
theorem cellsC_one (ds : List CeD) : ∀ u ∈ cellsC ds, u.oneCell' = true := by
  intro u hu
  obtain ⟨d, _, h⟩ := List.mem_flatMap.1 hu
  simp only [CeD.cells, List.mem_cons, List.not_mem_nil, or_false] at h
  rcases h with rfl | rfl | rfl | rfl | rfl | rfl <;> rfl
theorem cellsC_take : ∀ (ds : List CeD) (k : Nat), cellsC (ds.take k) = (cellsC ds).take (k * 6)
  | [], k => by simp [cellsC]
  | d :: ds, 0 => by simp [cellsC]
  | d :: ds, k + 1 => by
    rw [List.take_succ_cons, cellsC_cons, cellsC_cons, cellsC_take ds k, List.take_append]
    have h6 : d.cells.length = 6 := rfl
    rw [List.take_of_length_le (l := d.cells) (by omega), h6, show (k + 1) * 6 - 6 = k * 6 by omega]
theorem cellsC_drop : ∀ (ds : List CeD) (k : Nat), cellsC (ds.drop k) = (cellsC ds).drop (k * 6)
  | [], k => by simp [cellsC]
  | d :: ds, 0 => by simp
  | d :: ds, k + 1 => by
    rw [List.drop_succ_cons, cellsC_cons, cellsC_drop ds k, List.drop_append]
    have h6 : d.cells.length = 6 := rfl
    rw [show List.drop ((k + 1) * 6) d.cells = [] from List.drop_eq_nil_of_le (by omega), h6, show (k + 1) * 6 - 6 = k * 6 by omega, List.nil_append]
theorem cellsC_all : ∀ (ds : List CeD) (i : Nat) (_ : i < ds.length) (d' : CeD),
    ((((((cellsC ds).set (i * 6) (.int .i32 d'.r)).set (i * 6 + 1) (.int .u8 d'.w)).set (i * 6 + 2) (.int .u32 d'.fg)).set (i * 6 + 3) (.int .u32 d'.bg)).set (i * 6 + 4) (.int .u8 d'.at_)).set (i * 6 + 5) (.int .u16 d'.ln) = cellsC (ds.set i d')
  | d :: ds, 0, _, d' => rfl
  | d :: ds, i + 1, h, d' => by
    have ih := cellsC_all ds i (by simpa using h) d'
    have e : ∀ j, (i + 1) * 6 + j - d.cells.length = i * 6 + j := by intro j; simp [CeD.cells]; omega
    have e0 : (i + 1) * 6 - d.cells.length = i * 6 := e 0
    rw [cellsC_cons, List.set_append_right _ _ (by simp [CeD.cells]; omega), List.set_append_right _ _ (by simp [CeD.cells]; omega), List.set_append_right _ _ (by simp [CeD.cells]; omega), List.set_append_right _ _ (by simp [CeD.cells]; omega), List.set_append_right _ _ (by simp [CeD.cells]; omega), List.set_append_right _ _ (by simp [CeD.cells]; omega), e0, e 1, e 2, e 3, e 4, e 5, ih]
    rfl

/-- Cells to be read at an address. -/
def RdC (w : World) (A : Option Addr) (ds : List CeD) : Prop := Rd w A (cellsC ds)
/-- The six cells of one of them. -/
theorem RdC.six {w : World} {A : Option Addr} {ds : List CeD} (h : RdC w A ds) (h0 : 0 < ds.length) : ∃ b off, A = some ⟨b, off, none⟩ ∧ b < w.heap.size ∧ ∀ i (h : i < ds.length),
    w.cell? ⟨b, off + i * 6, none⟩ = some (.int .i32 ds[i].r) ∧ w.cell? ⟨b, off + i * 6 + 1, none⟩ = some (.int .u8 ds[i].w) ∧ w.cell? ⟨b, off + i * 6 + 2, none⟩ = some (.int .u32 ds[i].fg) ∧
    w.cell? ⟨b, off + i * 6 + 3, none⟩ = some (.int .u32 ds[i].bg) ∧ w.cell? ⟨b, off + i * 6 + 4, none⟩ = some (.int .u8 ds[i].at_) ∧ w.cell? ⟨b, off + i * 6 + 5, none⟩ = some (.int .u16 ds[i].ln) := by
  obtain ⟨b, off, rfl, hb, hc⟩ := Rd.addr h (by rw [cellsC_length]; omega)
  refine ⟨b, off, rfl, hb, fun i hi => ?_⟩
  have get : ∀ j, j < 6 → w.cell? ⟨b, off + i * 6 + j, none⟩ = (ds[i].cells)[j]? := by
    intro j hj
    have hlt : i * 6 + j < (cellsC ds).length := by rw [cellsC_length]; omega
    rw [Nat.add_assoc, hc (i * 6 + j) hlt, ← List.getElem?_eq_getElem hlt, cellsC_get ds i hi j hj]
  exact ⟨get 0 (by decide), get 1 (by decide), get 2 (by decide), get 3 (by decide), get 4 (by decide), get 5 (by decide)⟩
/-- One of them, under a name. -/
theorem RdC.at_ {w : World} {A : Option Addr} {ds : List CeD} (h : RdC w A ds) (k : Nat) (hk : k < ds.length) : ∃ (d : CeD) (b off : Nat), d = ds[k] ∧ A = some ⟨b, off, none⟩ ∧ b < w.heap.size ∧
    w.cell? ⟨b, off + k * 6, none⟩ = some (.int .i32 d.r) ∧ w.cell? ⟨b, off + k * 6 + 1, none⟩ = some (.int .u8 d.w) ∧ w.cell? ⟨b, off + k * 6 + 2, none⟩ = some (.int .u32 d.fg) ∧
    w.cell? ⟨b, off + k * 6 + 3, none⟩ = some (.int .u32 d.bg) ∧ w.cell? ⟨b, off + k * 6 + 4, none⟩ = some (.int .u8 d.at_) ∧ w.cell? ⟨b, off + k * 6 + 5, none⟩ = some (.int .u16 d.ln) := by
  obtain ⟨b, off, e, hb, hc⟩ := h.six (by omega)
  obtain ⟨h0, h1, h2, h3, h4, h5⟩ := hc k hk
  exact ⟨ds[k], b, off, rfl, e, hb, h0, h1, h2, h3, h4, h5⟩
theorem RdC.below {w w' : World} {A : Option Addr} {ds : List CeD} (h : RdC w A ds) (hb : Below w.heap.size w w') : RdC w' A ds := Rd.below h hb
theorem RdC.drewN {w : World} {A : Option Addr} {ds : List CeD} (h : RdC w A ds) (n : Nat) : RdC (w.drewN n) A ds := h

/-- Cells in a row of the call's own. -/
def OwnC (w : World) (B : Nat) (v : Value) (ds : List CeD) : Prop := w.ownsRow B 47 6 v ds.length (cellsC ds)
theorem info_ce : (Tryd.prog.info? 47).map (fun i => (i.zero, i.size, i.bytes)) = some (some (.agg #[.int .i32 0, .int .u8 0, .int .u32 0, .int .u32 0, .int .u8 0, .int .u16 0]), 6, 20) := by kernel_rfl
theorem OwnC.nil_ (w : World) (B : Nat) : OwnC w B (.slice none 0 0) [] := World.ownsRow_nil _ _ _ _
theorem OwnC.form {w : World} {v : Value} {ds : List CeD} {B : Nat} (h : OwnC w B v ds) : ∃ A c, v = .slice A ds.length c ∧ ds.length ≤ c ∧ c ≤ maxLen ∧ RdC w A ds ∧ (∀ a, A = some a → B ≤ a.block ∧ a.block < w.heap.size ∧ a.off = 0 ∧ a.spot = none) ∧ (A = none → c = 0) := by
  obtain ⟨hl, h2⟩ := h
  rcases h2 with ⟨rfl, h0⟩ | ⟨g, cap, cur, rfl, hb, hg, hn, hm, hcs, ht⟩
  · obtain rfl : ds = [] := List.eq_nil_of_length_eq_zero h0
    exact ⟨none, 0, rfl, Nat.le_refl _, Nat.zero_le _, .inl rfl, fun a ha => by (cases ha), fun _ => rfl⟩
  · refine ⟨some ⟨g, 0, none⟩, cap, rfl, hn, hm, .inr ⟨g, 0, rfl, (Array.getElem?_eq_some_iff.1 hg).1, fun k hk => ?_⟩, fun a ha => ?_, fun ha => by (cases ha)⟩
    · rw [Nat.zero_add, cell_of_row w g k cur _ (0, 0) hg]
      have h1 : (cellsC ds)[k]? = some (cellsC ds)[k] := List.getElem?_eq_getElem hk
      rw [← h1]
      conv => rhs; rw [← ht]
      rw [List.getElem?_take, if_pos (by omega)]
      simp
    · injection ha with ha; subst ha; exact ⟨hb, (Array.getElem?_eq_some_iff.1 hg).1, rfl, rfl⟩
theorem OwnC.keep {w w' : World} {B : Nat} {v : Value} {ds : List CeD} (h : OwnC w B v ds) (hk : ∀ g, v.ownBlock = some g → w'.heap[g]? = w.heap[g]?) : OwnC w' B v ds := by
  refine ⟨h.1, ?_⟩
  rcases h.2 with h2 | ⟨g, cap, cur, rfl, hb, hg, r⟩
  · exact .inl h2
  · exact .inr ⟨g, cap, cur, rfl, hb, (hk g rfl).trans hg, r⟩
theorem OwnC.lt {w : World} {B : Nat} {v : Value} {ds : List CeD} (h : OwnC w B v ds) : ∀ k, v.ownBlock = some k → B ≤ k ∧ k < w.heap.size := World.ownsRow.lt h
theorem OwnC.below {w w' : World} {B : Nat} {v : Value} {ds : List CeD} (h : OwnC w B v ds) (hb : Below w.heap.size w w') : OwnC w' B v ds := h.keep (fun g e => hb.block g (h.lt g e).2)
theorem OwnC.low {w : World} {B B' : Nat} {v : Value} {ds : List CeD} (h : OwnC w B v ds) (hB : B' ≤ B) : OwnC w B' v ds := ⟨h.1, h.2.imp id (fun ⟨g, cap, cur, hv, hb, r⟩ => ⟨g, cap, cur, hv, Nat.le_trans hB hb, r⟩)⟩
theorem OwnC.drewN {w : World} {B : Nat} {v : Value} {ds : List CeD} (h : OwnC w B v ds) (q : Nat) : OwnC (w.drewN q) B v ds := h

/-- append onto a row of the call's own, elements of several cells. -/
theorem run_appC {P : Program} (w : World) (base : Nat) (t ty e : TypeId) (i : TypeInfo) (z : Value) (size bytes : Nat) (ht : P.underlying t = some (.slice e)) (hi : P.info? e = some i) (hz : i.zero = some z)
    (hsize : i.size = size) (hby : i.bytes = bytes) (hzs : z.cells.size = size) (hsz : 0 < size)
    (v : Value) (n : Nat) (xs : List Value) (hown : w.ownsRow base e size v n xs) (A : Option Addr) (m c : Nat) (news : List Value) (hm : news.length = m * size) (hr : Rd w A news) (h1 : ∀ u ∈ news, u.oneCell' = true)
    (hlen : n + m ≤ maxLen) (hbytes : (n + m) * bytes ≤ 140737488355328) (hbase : base ≤ w.heap.size) :
    ∃ v' w', (Builtin.append_ #[t, t] ty #[v, .slice A m c]).run P w = .ok v' w' ∧ w'.ownsRow base e size v' (n + m) (xs ++ news) ∧ w.grownBy w' v.ownBlock ∧
      (v'.ownBlock = v.ownBlock ∨ v'.ownBlock = some w.heap.size) := by
  rcases A with _ | ad
  · have hn : news = [] := by
      rcases hr with h | ⟨_, _, h, _⟩
      · exact h
      · cases h
    subst hn
    have hm0 : m = 0 := by
      rcases Nat.eq_zero_or_pos m with h | h
      · exact h
      · have := Nat.mul_pos h hsz
        simp at hm; omega
    subst hm0
    exact ⟨v, w, run_append_of_nil w base t ty e i size ht hi v n xs hown c, by simpa using hown, World.grownBy.refl w _, .inl rfl⟩
  · obtain ⟨v', w', hrun, h2, h3, _, h5⟩ := run_append_own_at (P := P) w base t ty e i z size bytes ht hi hz hsize hby hzs hsz v n xs hown ad m c news hm (hr.cellsAt ad rfl) h1 hlen hbytes hbase
    exact ⟨v', w', hrun, h2, h3, h5⟩
/-- 'append(v, xs...)' on cells. -/
theorem wpList_appC (w : World) {ops : Array Oper} {rest : List Oper} {o : Oper} {a : Act} {Q : Exit → Act → World → Prop} (hgd : o.guard = none) (s x : Operand)
    (ho : o.op = .call { callee := .builtin .append, args := #[s, x], argTypes := #[22, 22] })
    (B : Nat) (v : Value) (ds : List CeD) (hs : a.eval s = v) (hown : OwnC w B v ds)
    (A : Option Addr) (m c : Nat) (ns : List CeD) (hx : a.eval x = .slice A m c) (hm : ns.length = m) (hr : RdC w A ns)
    (hlen : ds.length + m ≤ 7000000000000) (hB : B ≤ w.heap.size)
    (h : ∀ v' w', OwnC w' B v' (ds ++ ns) → w.grownBy w' v.ownBlock → (v'.ownBlock = v.ownBlock ∨ v'.ownBlock = some w.heap.size) → wpList Tryd.prog ops Q rest (a.put o.dst v') w') : wpList Tryd.prog ops Q (o :: rest) a w := by
  obtain ⟨i0, hi, hz0, hz1, hz2⟩ := info_parts info_ce
  refine wpList_plain hgd fun K hK => ?_
  obtain ⟨v', w', hrun, h2, h3, h4⟩ := run_appC (P := Tryd.prog) w B 22 o.type 47 i0 _ 6 20 Tryd.underlying22 hi hz0 hz1 hz2 rfl (by decide) v ds.length (cellsC ds) hown A m c (cellsC ns) (by rw [cellsC_length, hm]) hr (cellsC_one _) (by unfold maxLen; omega) (by omega) hB
  unfold Oper.wp execOp
  simp only [ho, resolve, invoke, builtin, Sem.run_bind, Sem.run_pure, Result.andThen_ok, List.map_toArray, List.map_cons, List.map_nil, hs, hx, hrun]
  refine hK _ _ (h v' w' ?_ h3 h4)
  unfold OwnC
  rw [cellsC_append, List.length_append, hm]
  exact h2
def CeD.zero : CeD := ⟨0, 0, 0, 0, 0, 0⟩
theorem cellsC_zeros : ∀ n, (madeCells #[Value.int .i32 0, .int .u8 0, .int .u32 0, .int .u32 0, .int .u8 0, .int .u16 0] (n * 6)).toList = cellsC (List.replicate n CeD.zero) := by
  intro n
  apply List.ext_getElem?
  intro j
  rcases Nat.lt_or_ge j (n * 6) with hj | hj
  · have hi : j / 6 < (List.replicate n CeD.zero).length := by rw [List.length_replicate]; omega
    have h := cellsC_get (List.replicate n CeD.zero) (j / 6) hi (j % 6) (Nat.mod_lt _ (by decide))
    rw [show j / 6 * 6 + j % 6 = j by omega] at h
    rw [h]
    have e : (madeCells #[Value.int .i32 0, .int .u8 0, .int .u32 0, .int .u32 0, .int .u8 0, .int .u16 0] (n * 6)).toList[j]? = some (#[Value.int .i32 0, .int .u8 0, .int .u32 0, .int .u32 0, .int .u8 0, .int .u16 0][j % 6]!) := by
      simp only [madeCells, Array.getElem?_toList, Array.getElem?_map]
      rw [Array.getElem?_eq_getElem (by simpa using hj)]
      simp
    rw [e, List.getElem_replicate]
    have h5 : j % 6 < 6 := Nat.mod_lt _ (by decide)
    generalize j % 6 = q at h5
    match q, h5 with
    | 0, _ => rfl
    | 1, _ => rfl
    | 2, _ => rfl
    | 3, _ => rfl
    | 4, _ => rfl
    | 5, _ => rfl
  · rw [List.getElem?_eq_none (by simp [madeCells]; omega), List.getElem?_eq_none (by rw [cellsC_length, List.length_replicate]; omega)]
/-- 'make([]Cell, n)'. -/
theorem wpList_makeC (w : World) {ops : Array Oper} {rest : List Oper} {o : Oper} {a : Act} {Q : Exit → Act → World → Prop} (hgd : o.guard = none) (l c : Operand) (ho : o.op = Op.makeSlice 22 l c)
    (kl kc : IntKind) (L C : Int) (n : Nat) (hl : a.eval l = .int kl L) (hc : a.eval c = .int kc C) (hL : L = (n : Int)) (hC : C = (n : Int)) (hn : n ≤ 7000000000000)
    (h : ∀ w', OwnC w' w.heap.size (.slice (some ⟨w.heap.size, 0, none⟩) n n) (List.replicate n CeD.zero) → Below w.heap.size w w' → w.grownBy w' none → wpList Tryd.prog ops Q rest (a.put o.dst (.slice (some ⟨w.heap.size, 0, none⟩) n n)) w') :
    wpList Tryd.prog ops Q (o :: rest) a w := by
  obtain ⟨i0, hi, hz0, hz1, hz2⟩ := info_parts info_ce
  refine wpList_make_full w hgd l c 22 ho w.heap.size 47 i0 _ 6 Tryd.underlying22 hi hz0 hz1 kl kc L C n hl hc hL hC (by rw [hz2]; omega) (by unfold maxLen; omega) (Nat.le_refl _) ?_
  intro w' h1 h2
  refine h w' ?_ ((Below.refl _ _).grown h2 (Nat.le_refl _) (fun k hk => by cases hk)) h2
  unfold OwnC
  rw [List.length_replicate, ← cellsC_zeros]
  exact h1

section
variable {w : World} {B g n c : Nat} {ds : List CeD}
theorem OwnC.len (h : OwnC w B (.slice (some ⟨g, 0, none⟩) n c) ds) : n = ds.length ∧ ds.length ≤ c ∧ c ≤ maxLen ∧ B ≤ g ∧ g < w.heap.size := by
  rcases h.2 with ⟨h, _⟩ | ⟨g', cap, cur, hv, hb, hg, hn, hm, _⟩
  · cases h
  · injection hv with h1 h2 h3
    injection h1 with h1
    injection h1 with h1
    subst h1
    exact ⟨h2, by omega, by omega, hb, (Array.getElem?_eq_some_iff.1 hg).1⟩
theorem OwnC.to_n (h : OwnC w B (.slice (some ⟨g, 0, none⟩) n c) ds) : w.ownsRow B 47 6 (.slice (some ⟨g, 0, none⟩) n c) n (cellsC ds) := by
  have := h.len.1; subst this; exact h
theorem OwnC.six (h : OwnC w B (.slice (some ⟨g, 0, none⟩) n c) ds) (i : Nat) (hi : i < ds.length) :
    w.cell? ⟨g, i * 6, none⟩ = some (.int .i32 ds[i].r) ∧ w.cell? ⟨g, i * 6 + 1, none⟩ = some (.int .u8 ds[i].w) ∧ w.cell? ⟨g, i * 6 + 2, none⟩ = some (.int .u32 ds[i].fg) ∧
    w.cell? ⟨g, i * 6 + 3, none⟩ = some (.int .u32 ds[i].bg) ∧ w.cell? ⟨g, i * 6 + 4, none⟩ = some (.int .u8 ds[i].at_) ∧ w.cell? ⟨g, i * 6 + 5, none⟩ = some (.int .u16 ds[i].ln) := by
  have hl := h.len.1
  have get : ∀ j, j < 6 → w.cell? ⟨g, i * 6 + j, none⟩ = (ds[i].cells)[j]? := by
    intro j hj
    rw [h.to_n.cellAt (i * 6 + j) (by omega), cellsC_get ds i hi j hj]
  exact ⟨get 0 (by decide), get 1 (by decide), get 2 (by decide), get 3 (by decide), get 4 (by decide), get 5 (by decide)⟩
theorem OwnC.free (h : OwnC w B (.slice (some ⟨g, 0, none⟩) n c) ds) (j : Nat) : w.frozen? ⟨g, j, none⟩ = false := h.to_n.frozenAt j
theorem OwnC.setAll (h : OwnC w B (.slice (some ⟨g, 0, none⟩) n c) ds) (i : Nat) (hi : i < ds.length) (d : CeD) :
    OwnC ((((((w.setCell ⟨g, i * 6, none⟩ (.int .i32 d.r)).setCell ⟨g, i * 6 + 1, none⟩ (.int .u8 d.w)).setCell ⟨g, i * 6 + 2, none⟩ (.int .u32 d.fg)).setCell ⟨g, i * 6 + 3, none⟩ (.int .u32 d.bg)).setCell ⟨g, i * 6 + 4, none⟩ (.int .u8 d.at_)).setCell ⟨g, i * 6 + 5, none⟩ (.int .u16 d.ln)) B
      (.slice (some ⟨g, 0, none⟩) n c) (ds.set i d) := by
  have hl := h.len.1
  have h2 := ((((((h.to_n.stored (i * 6) (.int .i32 d.r)).1.stored (i * 6 + 1) (.int .u8 d.w)).1.stored (i * 6 + 2) (.int .u32 d.fg)).1.stored (i * 6 + 3) (.int .u32 d.bg)).1.stored (i * 6 + 4) (.int .u8 d.at_)).1.stored (i * 6 + 5) (.int .u16 d.ln)).1
  rw [cellsC_all ds i hi d] at h2
  unfold OwnC
  rw [List.length_set, ← hl]
  exact h2
end

/-! ### Texts in a row -/
theorem info_st : (Tryd.prog.info? 9).map (fun i => (i.zero, i.size, i.bytes)) = some (some (.string ⟨#[]⟩), 1, 16) := by kernel_rfl
def strV (ss : List ByteArray) : List Value := ss.map Value.string
theorem strV_one (ss : List ByteArray) : ∀ u ∈ strV ss, u.oneCell' = true := by
  intro u hu
  obtain ⟨_, _, rfl⟩ := List.mem_map.1 hu
  rfl
def RdT (w : World) (A : Option Addr) (ss : List ByteArray) : Prop := Rd w A (strV ss)
theorem RdT.addr {w : World} {A : Option Addr} {ss : List ByteArray} (h : RdT w A ss) (h0 : 0 < ss.length) : ∃ b off, A = some ⟨b, off, none⟩ ∧ b < w.heap.size ∧ ∀ k (h : k < ss.length), w.cell? ⟨b, off + k, none⟩ = some (.string ss[k]) := by
  obtain ⟨b, off, rfl, hb, hc⟩ := Rd.addr h (by rw [strV, List.length_map]; exact h0)
  refine ⟨b, off, rfl, hb, fun k hk => ?_⟩
  have := hc k (by rw [strV, List.length_map]; exact hk)
  rw [this]; simp [strV]
theorem RdT.below {w w' : World} {A : Option Addr} {ss : List ByteArray} (h : RdT w A ss) (hb : Below w.heap.size w w') : RdT w' A ss := Rd.below h hb
def OwnT (w : World) (B : Nat) (v : Value) (ss : List ByteArray) : Prop := Own w B 9 v (strV ss)
/-- 'append(v, xs...)' on texts. -/
theorem wpList_appT (w : World) {ops : Array Oper} {rest : List Oper} {o : Oper} {a : Act} {Q : Exit → Act → World → Prop} (hgd : o.guard = none) (s x : Operand)
    (ho : o.op = .call { callee := .builtin .append, args := #[s, x], argTypes := #[23, 23] })
    (B : Nat) (v : Value) (ss : List ByteArray) (hs : a.eval s = v) (hown : OwnT w B v ss)
    (A : Option Addr) (m c : Nat) (ns : List ByteArray) (hx : a.eval x = .slice A m c) (hm : ns.length = m) (hr : RdT w A ns)
    (hlen : ss.length + m ≤ 8000000000000) (hB : B ≤ w.heap.size)
    (h : ∀ v' w', OwnT w' B v' (ss ++ ns) → w.grownBy w' v.ownBlock → (v'.ownBlock = v.ownBlock ∨ v'.ownBlock = some w.heap.size) → wpList Tryd.prog ops Q rest (a.put o.dst v') w') : wpList Tryd.prog ops Q (o :: rest) a w := by
  obtain ⟨i0, hi, hz0, hz1, hz2⟩ := info_parts info_st
  refine wpList_app w hgd s x 23 ho B 9 i0 _ 16 Tryd.underlying23 hi hz0 hz1 hz2 rfl v (strV ss) hs hown A m c (strV ns) hx (by simpa [strV] using hm) hr (strV_one _) (by simp only [strV, List.length_map, maxLen]; omega) (by simp only [strV, List.length_map]; omega) hB ?_
  intro v' w' h1 h2 h3
  exact h v' w' (by simpa [OwnT, strV] using h1) h2 h3
theorem OwnT.form {w : World} {B : Nat} {v : Value} {ss : List ByteArray} (h : OwnT w B v ss) :
    ∃ A c, v = .slice A ss.length c ∧ ss.length ≤ c ∧ c ≤ maxLen ∧ RdT w A ss ∧ (∀ a, A = some a → B ≤ a.block ∧ a.block < w.heap.size ∧ a.off = 0 ∧ a.spot = none) := by
  obtain ⟨A, c, h1, h2, h3, h4, h5, _⟩ := Own.form h
  simp only [strV, List.length_map] at h1 h2
  exact ⟨A, c, h1, h2, h3, h4, h5⟩
end Go.Proofs.YtipofokinjkclaaDoor

/- What may be of colours, pens, cells, told by the program and by the reference; when two pens, two cells are equal. Conditions: the two tables stand. -/
namespace Go.Proofs.YtipofokinjkclaaDoor
open Go Go.RowKit

def CeD.pen (d : CeD) : Value := .agg #[.int .u32 d.fg, .int .u32 d.bg, .int .u8 d.at_, .int .u16 d.ln]
theorem beq_int (a b : Int) : (a == b) = decide (a = b) := by
  by_cases h : a = b
  · subst h; simp
  · rw [decide_eq_false h, beq_eq_false_iff_ne]; exact h
theorem fields_pen : Tryd.prog.underlying 45 = some (.struct (Tryd.prog.fieldsOf 45)) := by kernel_rfl
theorem fields_cell : Tryd.prog.underlying 47 = some (.struct (Tryd.prog.fieldsOf 47)) := by kernel_rfl
theorem held_pen : Tryd.prog.stoodInHeld 45 = false := by kernel_rfl
theorem held_cell : Tryd.prog.stoodInHeld 47 = false := by kernel_rfl
set_option maxRecDepth 100000 in
theorem run_penIn (a b : CeD) (d : Nat) (w : World) : (Op.equalIn (d + 2) 45 a.pen b.pen).run Tryd.prog w = .ok (penEq a b) w := by
  unfold CeD.pen penEq
  rw [run_equalIn_agg w _ _ _ _ fields_pen held_pen]
  rw [← beq_int, ← beq_int, ← beq_int, ← beq_int]
  obtain ⟨b1, e1⟩ : ∃ x, (a.fg == b.fg) = x := ⟨_, rfl⟩
  obtain ⟨b2, e2⟩ : ∃ x, (a.bg == b.bg) = x := ⟨_, rfl⟩
  obtain ⟨b3, e3⟩ : ∃ x, (a.at_ == b.at_) = x := ⟨_, rfl⟩
  obtain ⟨b4, e4⟩ : ∃ x, (a.ln == b.ln) = x := ⟨_, rfl⟩
  rw [e1, e2, e3, e4]
  cases b1 <;> cases b2 <;> cases b3 <;> cases b4 <;> simp [go_sem, e1, e2, e3, e4]
set_option maxRecDepth 100000 in
theorem run_penEq (a b : CeD) (w : World) : (binOp .eql 45 a.pen b.pen).run Tryd.prog w = .ok (.bool (penEq a b)) w := by
  have h := run_penIn a b 9998 w
  unfold CeD.pen at h ⊢
  rw [run_eql_struct, h]; rfl
theorem run_penNe (a b : CeD) (w : World) : (binOp .neq 45 a.pen b.pen).run Tryd.prog w = .ok (.bool (!penEq a b)) w := by
  have h := run_penIn a b 9998 w
  unfold CeD.pen at h ⊢
  rw [run_neq_struct, h]; rfl
/-- Two cells that are equal. -/
def cellEq (a b : CeD) : Bool := decide (a.r = b.r) && (decide (a.w = b.w) && penEq a b)
set_option maxRecDepth 100000 in
theorem run_cellIn (a b : CeD) (d : Nat) (w : World) : (Op.equalIn (d + 3) 47 a.val b.val).run Tryd.prog w = .ok (cellEq a b) w := by
  unfold CeD.val cellEq penEq
  rw [run_equalIn_agg w _ _ _ _ fields_cell held_cell]
  rw [← beq_int, ← beq_int, ← beq_int, ← beq_int, ← beq_int, ← beq_int]
  obtain ⟨b1, e1⟩ : ∃ x, (a.fg == b.fg) = x := ⟨_, rfl⟩
  obtain ⟨b2, e2⟩ : ∃ x, (a.bg == b.bg) = x := ⟨_, rfl⟩
  obtain ⟨b3, e3⟩ : ∃ x, (a.at_ == b.at_) = x := ⟨_, rfl⟩
  obtain ⟨b4, e4⟩ : ∃ x, (a.ln == b.ln) = x := ⟨_, rfl⟩
  obtain ⟨b5, e5⟩ : ∃ x, (a.r == b.r) = x := ⟨_, rfl⟩
  obtain ⟨b6, e6⟩ : ∃ x, (a.w == b.w) = x := ⟨_, rfl⟩
  rw [e1, e2, e3, e4, e5, e6]
  cases b5
  · simp [go_sem, e5]
  cases b6
  · simp [go_sem, e5, e6]
  cases b1 <;> cases b2 <;> cases b3 <;> cases b4 <;> simp [go_sem, e1, e2, e3, e4, e5, e6]
theorem run_cellEq (a b : CeD) (w : World) : (binOp .eql 47 a.val b.val).run Tryd.prog w = .ok (.bool (cellEq a b)) w := by
  have h := run_cellIn a b 9997 w
  unfold CeD.val at h ⊢
  rw [run_eql_struct, h]; rfl
theorem run_cellNe (a b : CeD) (w : World) : (binOp .neq 47 a.val b.val).run Tryd.prog w = .ok (.bool (!cellEq a b)) w := by
  have h := run_cellIn a b 9997 w
  unfold CeD.val at h ⊢
  rw [run_neq_struct, h]; rfl
set_option maxRecDepth 100000 in
theorem ColorMay_c (c : Int) (w : World) : Calls Tryd.prog 143 #[.int .u32 c] w fun e w' => e = .returned (.bool (colMay c)) ∧ w' = w := by
  unfold colMay
  obtain ⟨b1, e1⟩ : ∃ b, decide (c ≤ 256) = b := ⟨_, rfl⟩
  obtain ⟨b2, e2⟩ : ∃ b, decide (16777216 ≤ c) = b := ⟨_, rfl⟩
  obtain ⟨b3, e3⟩ : ∃ b, decide (c ≤ 33554431) = b := ⟨_, rfl⟩
  rw [e1, e2, e3]
  cases b1 <;> cases b2 <;> cases b3 <;>
  · go_enter Tryd.func143, Tryd.ntmps143
    go_wp2
    go_ret
    exact ⟨rfl, rfl⟩
set_option maxRecDepth 100000 in
theorem refColorMay_c (c : Int) (w : World) : Calls Tryd.prog 141 #[.int .u32 c] w fun e w' => e = .returned (.bool (colMay c)) ∧ w' = w := by
  have hcol : colMay c = (decide (c ≤ 256) || (decide (16777216 ≤ c) && decide (c < 33554432))) := by
    unfold colMay; rw [show decide (c ≤ 33554431) = decide (c < 33554432) from decide_eq_decide.2 (by omega)]
  rw [hcol]
  clear hcol
  obtain ⟨b1, e1⟩ : ∃ b, decide (c ≤ 256) = b := ⟨_, rfl⟩
  obtain ⟨b2, e2⟩ : ∃ b, decide (16777216 ≤ c) = b := ⟨_, rfl⟩
  obtain ⟨b3, e3⟩ : ∃ b, decide (c < 33554432) = b := ⟨_, rfl⟩
  rw [e1, e2, e3]
  cases b1 <;> cases b2 <;> cases b3 <;>
  · go_enter Tryd.func141, Tryd.ntmps141
    go_wp2
    go_ret
    exact ⟨rfl, rfl⟩
set_option maxRecDepth 100000 in
theorem penMay_c (d : CeD) (w : World) : Calls Tryd.prog 140 #[d.pen] w fun e w' => e = .returned (.bool (penMay d)) ∧ Below w.heap.size w w' := by
  unfold CeD.pen penMay
  obtain ⟨r, wd, fg, bg, at_, ln⟩ := d
  simp only
  have k0 : Below w.heap.size w (w.alloc (.cells #[.int .u32 fg, .int .u32 bg, .int .u8 at_, .int .u16 ln] 45)) := (Below.refl _ _).alloc (Nat.le_refl _) _
  obtain ⟨b1, e1⟩ : ∃ b, colMay fg = b := ⟨_, rfl⟩
  obtain ⟨b2, e2⟩ : ∃ b, colMay bg = b := ⟨_, rfl⟩
  rw [e1, e2]
  cases b1 <;> cases b2 <;>
  · go_enter Tryd.func140, Tryd.ntmps140
    go_wp2_with (go_at_call 143; refine (ColorMay_c _ _).mono ?_; rintro _ _ ⟨rfl, rfl⟩)
    go_ret
    exact ⟨rfl, k0⟩
set_option maxRecDepth 100000 in
theorem refPenMay_c (d : CeD) (w : World) : Calls Tryd.prog 122 #[d.pen] w fun e w' => e = .returned (.bool (penMay d)) ∧ Below w.heap.size w w' := by
  unfold CeD.pen penMay
  obtain ⟨r, wd, fg, bg, at_, ln⟩ := d
  simp only
  have k0 : Below w.heap.size w (w.alloc (.cells #[.int .u32 fg, .int .u32 bg, .int .u8 at_, .int .u16 ln] 45)) := (Below.refl _ _).alloc (Nat.le_refl _) _
  obtain ⟨b1, e1⟩ : ∃ b, colMay fg = b := ⟨_, rfl⟩
  obtain ⟨b2, e2⟩ : ∃ b, colMay bg = b := ⟨_, rfl⟩
  rw [e1, e2]
  cases b1 <;> cases b2 <;>
  · go_enter Tryd.func122, Tryd.ntmps122
    go_wp2_with (go_at_call 141; refine (refColorMay_c _ _).mono ?_; rintro _ _ ⟨rfl, rfl⟩)
    go_ret
    exact ⟨rfl, k0⟩

/-! ### Cells -/
set_option maxRecDepth 100000 in
set_option maxHeartbeats 4000000 in
theorem May_c (d : CeD) (w : World) (hT : TabU w) : Calls Tryd.prog 120 #[d.val] w fun e w' => e = .returned (.bool (mayC d)) ∧ Below w.heap.size w w' := by
  have hpm : ∀ w', Calls Tryd.prog 140 #[.agg #[.int .u32 d.fg, .int .u32 d.bg, .int .u8 d.at_, .int .u16 d.ln]] w' fun e w'' => e = .returned (.bool (penMay d)) ∧ Below w'.heap.size w' w'' := fun w' => penMay_c d w'
  obtain ⟨V, eV⟩ : ∃ V, mayC d = V := ⟨_, rfl⟩
  rw [eV]
  unfold CeD.val
  obtain ⟨P, eP⟩ : ∃ P, penMay d = P := ⟨_, rfl⟩
  have EV : Hid (V = (P && ((decide (d.w = 0) && decide (widI d.r = 1)) || (decide (d.w = 1) && decide (widI d.r = 2)) || (decide (d.w = 2) && decide (d.r = 0))))) := Lib.hid (by rw [← eV, mayC, eP])
  rw [eP] at hpm
  have HPM := Lib.hid hpm
  obtain ⟨r, wd, fg, bg, at_, ln⟩ := d
  simp only at EV HPM ⊢
  have k0 : Below w.heap.size w (w.alloc (.cells #[.int .i32 r, .int .u8 wd, .int .u32 fg, .int .u32 bg, .int .u8 at_, .int .u16 ln] 47)) := (Below.refl _ _).alloc (Nat.le_refl _) _
  have HT := Lib.hid hT
  clear hpm eP eV hT
  cases P
  · have hV : V = false := by rw [EV.out]; rfl
    have HV := Lib.hid hV; clear hV
    go_enter Tryd.func120, Tryd.ntmps120
    go_wp2_with (go_at_call 140; refine (HPM.out _).mono ?_; rintro _ w1 ⟨rfl, hb1⟩)
    go_ret
    exact ⟨by rw [HV.out] <;> rfl, k0.trans (hb1.mono k0.size)⟩
  have d0 : ∀ x : Int, wd ≠ x → (wd == x) = false := fun x h => by rw [beq_eq_false_iff_ne]; exact h
  rcases (show wd = 0 ∨ wd = 1 ∨ (wd ≠ 0 ∧ wd ≠ 1) by omega) with h0 | h0 | h0
  · have e0 : (wd == 0) = true := by rw [h0]; rfl
    obtain ⟨N, eN⟩ : ∃ N, widI r = N := ⟨_, rfl⟩
    have hV : V = (N == 1) := by rw [EV.out, eN, h0, beq_int]; simp
    have HV := Lib.hid hV
    have EN := Lib.hid eN
    clear hV eN h0 d0
    go_enter Tryd.func120, Tryd.ntmps120
    go_wp2_with (first | (go_at_call 140; refine (HPM.out _).mono ?_; rintro _ w1 ⟨rfl, hb1⟩; have k1 := k0.trans (hb1.mono k0.size); have hr0 : w1.cell? ⟨w.heap.size, 0, none⟩ = some (.int .i32 r) := (hb1.cell (p := ⟨w.heap.size, 0, none⟩) (by simp)).trans (by simp [go_sem]); have hr1 : w1.cell? ⟨w.heap.size, 1, none⟩ = some (.int .u8 wd) := (hb1.cell (p := ⟨w.heap.size, 1, none⟩) (by simp)).trans (by simp [go_sem]); clear hb1) | (go_at_call 67; refine (Width_c _ _ (HT.out.next k1)).mono ?_; rintro _ w2 ⟨rfl, hb2⟩; rw [EN.out]))
    go_ret
    exact ⟨by rw [HV.out] <;> rfl, k1.trans (hb2.mono k1.size)⟩
  · have e0 : (wd == 1) = true := by rw [h0]; rfl
    have e9 := d0 0 (by omega)
    obtain ⟨N, eN⟩ : ∃ N, widI r = N := ⟨_, rfl⟩
    have hV : V = (N == 2) := by rw [EV.out, eN, h0, beq_int]; simp
    have HV := Lib.hid hV
    have EN := Lib.hid eN
    clear hV eN h0 d0
    go_enter Tryd.func120, Tryd.ntmps120
    go_wp2_with (first | (go_at_call 140; refine (HPM.out _).mono ?_; rintro _ w1 ⟨rfl, hb1⟩; have k1 := k0.trans (hb1.mono k0.size); have hr0 : w1.cell? ⟨w.heap.size, 0, none⟩ = some (.int .i32 r) := (hb1.cell (p := ⟨w.heap.size, 0, none⟩) (by simp)).trans (by simp [go_sem]); have hr1 : w1.cell? ⟨w.heap.size, 1, none⟩ = some (.int .u8 wd) := (hb1.cell (p := ⟨w.heap.size, 1, none⟩) (by simp)).trans (by simp [go_sem]); clear hb1) | (go_at_call 67; refine (Width_c _ _ (HT.out.next k1)).mono ?_; rintro _ w2 ⟨rfl, hb2⟩; rw [EN.out]))
    go_ret
    exact ⟨by rw [HV.out] <;> rfl, k1.trans (hb2.mono k1.size)⟩
  · have e0 := d0 0 h0.1
    have e1 := d0 1 h0.2
    obtain ⟨b2, e2⟩ : ∃ b, (wd == 2) = b := ⟨_, rfl⟩
    obtain ⟨b3, e3⟩ : ∃ b, (r == 0) = b := ⟨_, rfl⟩
    have hV : V = (b2 && b3) := by
      rw [EV.out, ← e2, ← e3, beq_int, beq_int, decide_eq_false h0.1, decide_eq_false h0.2]; simp
    have HV := Lib.hid hV
    clear hV h0 d0
    cases b2 <;> cases b3 <;>
    · go_enter Tryd.func120, Tryd.ntmps120
      go_wp2_with ((go_at_call 140; refine (HPM.out _).mono ?_; rintro _ w1 ⟨rfl, hb1⟩; have k1 := k0.trans (hb1.mono k0.size); have hr0 : w1.cell? ⟨w.heap.size, 0, none⟩ = some (.int .i32 r) := (hb1.cell (p := ⟨w.heap.size, 0, none⟩) (by simp)).trans (by simp [go_sem]); have hr1 : w1.cell? ⟨w.heap.size, 1, none⟩ = some (.int .u8 wd) := (hb1.cell (p := ⟨w.heap.size, 1, none⟩) (by simp)).trans (by simp [go_sem]); clear hb1))
      go_ret
      exact ⟨by rw [HV.out] <;> rfl, k1⟩
set_option maxRecDepth 100000 in
set_option maxHeartbeats 4000000 in
theorem refMayC_c (d : CeD) (w : World) : Calls Tryd.prog 83 #[d.val] w fun e w' => e = .returned (.bool (mayC d)) ∧ Below w.heap.size w w' := by
  have hpm : ∀ w', Calls Tryd.prog 122 #[.agg #[.int .u32 d.fg, .int .u32 d.bg, .int .u8 d.at_, .int .u16 d.ln]] w' fun e w'' => e = .returned (.bool (penMay d)) ∧ Below w'.heap.size w' w'' := fun w' => refPenMay_c d w'
  obtain ⟨V, eV⟩ : ∃ V, mayC d = V := ⟨_, rfl⟩
  rw [eV]
  unfold CeD.val
  obtain ⟨P, eP⟩ : ∃ P, penMay d = P := ⟨_, rfl⟩
  have EV : Hid (V = (P && ((decide (d.w = 0) && decide (widI d.r = 1)) || (decide (d.w = 1) && decide (widI d.r = 2)) || (decide (d.w = 2) && decide (d.r = 0))))) := Lib.hid (by rw [← eV, mayC, eP])
  rw [eP] at hpm
  have HPM := Lib.hid hpm
  obtain ⟨r, wd, fg, bg, at_, ln⟩ := d
  simp only at EV HPM ⊢
  have k0 : Below w.heap.size w (w.alloc (.cells #[.int .i32 r, .int .u8 wd, .int .u32 fg, .int .u32 bg, .int .u8 at_, .int .u16 ln] 47)) := (Below.refl _ _).alloc (Nat.le_refl _) _
  clear hpm eP eV
  obtain ⟨N, eN⟩ : ∃ N, widI r = N := ⟨_, rfl⟩
  have EN := Lib.hid eN
  clear eN
  cases P
  · have hV : V = false := by rw [EV.out]; rfl
    have HV := Lib.hid hV; clear hV
    go_enter Tryd.func83, Tryd.ntmps83
    go_wp2_with (first | (go_at_call 122; refine (HPM.out _).mono ?_; rintro _ w1 ⟨rfl, hb1⟩; have k1 := k0.trans (hb1.mono k0.size); have hr0 : w1.cell? ⟨w.heap.size, 0, none⟩ = some (.int .i32 r) := (hb1.cell (p := ⟨w.heap.size, 0, none⟩) (by simp)).trans (by simp [go_sem]); have hr1 : w1.cell? ⟨w.heap.size, 1, none⟩ = some (.int .u8 wd) := (hb1.cell (p := ⟨w.heap.size, 1, none⟩) (by simp)).trans (by simp [go_sem]); clear hb1) | (go_at_call 63; refine (refWidth_c _ _).mono ?_; rintro _ _ ⟨rfl, rfl⟩; rw [EN.out]))
    go_ret
    exact ⟨by rw [HV.out] <;> rfl, k1⟩
  have d0 : ∀ x : Int, wd ≠ x → (wd == x) = false := fun x h => by rw [beq_eq_false_iff_ne]; exact h
  rcases (show wd = 0 ∨ wd = 1 ∨ (wd ≠ 0 ∧ wd ≠ 1) by omega) with h0 | h0 | h0
  · have e0 : (wd == 0) = true := by rw [h0]; rfl
    have e1 := d0 1 (by omega)
    have e2 := d0 2 (by omega)
    obtain ⟨b3, e3⟩ : ∃ b, (N == 1) = b := ⟨_, rfl⟩
    have hV : V = b3 := by rw [EV.out, EN.out, h0, ← e3, beq_int]; simp
    have HV := Lib.hid hV
    clear hV h0 d0
    cases b3 <;>
    · go_enter Tryd.func83, Tryd.ntmps83
      go_wp2_with (first | (go_at_call 122; refine (HPM.out _).mono ?_; rintro _ w1 ⟨rfl, hb1⟩; have k1 := k0.trans (hb1.mono k0.size); have hr0 : w1.cell? ⟨w.heap.size, 0, none⟩ = some (.int .i32 r) := (hb1.cell (p := ⟨w.heap.size, 0, none⟩) (by simp)).trans (by simp [go_sem]); have hr1 : w1.cell? ⟨w.heap.size, 1, none⟩ = some (.int .u8 wd) := (hb1.cell (p := ⟨w.heap.size, 1, none⟩) (by simp)).trans (by simp [go_sem]); clear hb1) | (go_at_call 63; refine (refWidth_c _ _).mono ?_; rintro _ _ ⟨rfl, rfl⟩; rw [EN.out]))
      go_ret
      exact ⟨by rw [HV.out] <;> rfl, k1⟩
  · have e0 : (wd == 1) = true := by rw [h0]; rfl
    have e1 := d0 0 (by omega)
    have e2 := d0 2 (by omega)
    obtain ⟨b3, e3⟩ : ∃ b, (N == 2) = b := ⟨_, rfl⟩
    have hV : V = b3 := by rw [EV.out, EN.out, h0, ← e3, beq_int]; simp
    have HV := Lib.hid hV
    clear hV h0 d0
    cases b3 <;>
    · go_enter Tryd.func83, Tryd.ntmps83
      go_wp2_with (first | (go_at_call 122; refine (HPM.out _).mono ?_; rintro _ w1 ⟨rfl, hb1⟩; have k1 := k0.trans (hb1.mono k0.size); have hr0 : w1.cell? ⟨w.heap.size, 0, none⟩ = some (.int .i32 r) := (hb1.cell (p := ⟨w.heap.size, 0, none⟩) (by simp)).trans (by simp [go_sem]); have hr1 : w1.cell? ⟨w.heap.size, 1, none⟩ = some (.int .u8 wd) := (hb1.cell (p := ⟨w.heap.size, 1, none⟩) (by simp)).trans (by simp [go_sem]); clear hb1) | (go_at_call 63; refine (refWidth_c _ _).mono ?_; rintro _ _ ⟨rfl, rfl⟩; rw [EN.out]))
      go_ret
      exact ⟨by rw [HV.out] <;> rfl, k1⟩
  · have e0 := d0 0 h0.1
    have e1 := d0 1 h0.2
    obtain ⟨b2, e2⟩ : ∃ b, (wd == 2) = b := ⟨_, rfl⟩
    obtain ⟨b3, e3⟩ : ∃ b, (r == 0) = b := ⟨_, rfl⟩
    have hV : V = (b2 && b3) := by
      rw [EV.out, ← e2, ← e3, beq_int, beq_int, decide_eq_false h0.1, decide_eq_false h0.2]; simp
    have HV := Lib.hid hV
    clear hV h0 d0
    cases b2 <;> cases b3 <;>
    · go_enter Tryd.func83, Tryd.ntmps83
      go_wp2_with (first | (go_at_call 122; refine (HPM.out _).mono ?_; rintro _ w1 ⟨rfl, hb1⟩; have k1 := k0.trans (hb1.mono k0.size); have hr0 : w1.cell? ⟨w.heap.size, 0, none⟩ = some (.int .i32 r) := (hb1.cell (p := ⟨w.heap.size, 0, none⟩) (by simp)).trans (by simp [go_sem]); have hr1 : w1.cell? ⟨w.heap.size, 1, none⟩ = some (.int .u8 wd) := (hb1.cell (p := ⟨w.heap.size, 1, none⟩) (by simp)).trans (by simp [go_sem]); clear hb1) | (go_at_call 63; refine (refWidth_c _ _).mono ?_; rintro _ _ ⟨rfl, rfl⟩; rw [EN.out]))
      go_ret
      exact ⟨by rw [HV.out] <;> rfl, k1⟩
end Go.Proofs.YtipofokinjkclaaDoor

/- A region that draws its order, by a relation for each operation: what each yields is told by a relation that stays true as the world grows; then whatever the order, all relations hold at the end. No order is gone through. Conditions: each slot is written once; no operation panics. -/
namespace Go.Proofs.YtipofokinjkclaaDoor
open Go Go.RowKit

/-- What an operand is, the slots told by f. -/
def evF (f : Nat → Value) : Operand → Value
  | .tmp t => f t
  | .const v => v
  | .global g => .pointer (some ⟨g, 0, none⟩)
  | .func k => .func (.func k) #[] #[]
theorem evF_eval (a : Act) : a.eval = evF (fun t => a.tmps.getD t undef) := by
  funext x
  cases x <;> rfl
/-- What an operation yields, and the world behind it; it does not panic. -/
def Gives (P : Program) (o : Oper) (f : Nat → Value) (w : World) (K : Value → World → Prop) : Prop :=
  match (execOp (evF f) o).run P w with
  | .ok (.value v) w' => K v w'
  | .ok .skip w' => K undef w'
  | .ok (.enter k args) w' => Calls P k args w' fun e w'' => ∃ v, e = .returned v ∧ K v w''
  | _ => False
theorem Gives.wp {P : Program} {o : Oper} {a : Act} {w : World} {K : Act → World → Prop} {Q : Exit → Act → World → Prop}
    (h : Gives P o (fun t => a.tmps.getD t undef) w (fun v w' => K (a.put o.dst v) w')) : Oper.wp P o a w K Q := by
  unfold Gives at h
  rw [← evF_eval] at h
  unfold Oper.wp
  generalize (execOp a.eval o).run P w = r at h
  cases r with
  | ok n w' =>
    cases n <;> simp only [Oper.upon] at h ⊢
    case value v => exact h
    case skip => exact h
    case enter k args => exact Calls.mono h fun e w'' ⟨v, he, hk⟩ => by subst he; exact hk
    all_goals exact h.elim
  | halt x w' => exact h.elim

def dstOf (ops : Array Oper) (i : Nat) : Option Tmp := (ops[i]?).bind (·.dst)
/-- Which value a guard's operation has yielded. -/
def yieldedF (ops : Array Oper) (f : Nat → Value) (j : Nat) : Option Bool :=
  match dstOf ops j with
  | some d => (match f d with | .bool b => some b | _ => none)
  | none => none
/-- Each slot is written once, and is there. -/
def slotsOk (ops : Array Oper) (n : Nat) : Bool :=
  (List.range ops.size).all fun i => (match dstOf ops i with
    | some d => decide (d < n) && (List.range ops.size).all (fun j => i == j || dstOf ops j != some d)
    | none => true) && (match ops[i]? with | some o => o.after.all (fun e => !Region.binds .any e || decide (e.on < i)) | none => true)
def depOn (ops : Array Oper) (i j : Nat) : Bool := match ops[i]? with | some o => o.after.any (fun e => Region.binds .any e && e.on == j) | none => false
def writes (ops : Array Oper) (t : Nat) : Bool := (List.range ops.size).any (fun j => dstOf ops j == some t)

section
variable {P : Program} {ops : Array Oper} {G : World → World → Prop} {R : Nat → World → Value → Prop} {a0 : Act} {W0 : World}

structure RInv (ops : Array Oper) (G : World → World → Prop) (R : Nat → World → Value → Prop) (a0 : Act) (W0 : World) (listed : Array Bool) (a : Act) (w : World) : Prop where
  grow : G W0 w
  defers : a.defers = a0.defers
  size : a.tmps.size = a0.tmps.size
  lsize : listed.size = ops.size
  frame : ∀ t, writes ops t = false → a.tmps.getD t undef = a0.tmps.getD t undef
  rel : ∀ j d, listed.getD j false = true → dstOf ops j = some d → R j w (a.tmps.getD d undef)

theorem dstOf_lt {i : Nat} {d : Tmp} (h : dstOf ops i = some d) : i < ops.size := by
  unfold dstOf at h
  rcases Nat.lt_or_ge i ops.size with hi | hi
  · exact hi
  · rw [Array.getElem?_eq_none hi] at h; cases h
theorem slotsOk_lt {n : Nat} (h : slotsOk ops n = true) {i : Nat} {d : Tmp} (hd : dstOf ops i = some d) : d < n := by
  have h1 := List.all_eq_true.1 h i (List.mem_range.2 (dstOf_lt hd))
  rw [hd] at h1
  simp only [Bool.and_eq_true, decide_eq_true_eq] at h1
  exact h1.1.1
theorem slotsOk_ne {n : Nat} (h : slotsOk ops n = true) {i j : Nat} {d : Tmp} (hd : dstOf ops i = some d) (hj : dstOf ops j = some d) : i = j := by
  have h1 := List.all_eq_true.1 h i (List.mem_range.2 (dstOf_lt hd))
  rw [hd] at h1
  simp only [Bool.and_eq_true, decide_eq_true_eq] at h1
  have h2 := List.all_eq_true.1 h1.1.2 j (List.mem_range.2 (dstOf_lt hj))
  simp only [Bool.or_eq_true, beq_iff_eq, bne_iff_ne] at h2
  rcases h2 with h2 | h2
  · exact h2
  · exact absurd hj h2
theorem slotsOk_back {n : Nat} (h : slotsOk ops n = true) {i : Nat} {o : Oper} (ho : ops[i]? = some o) (e : Edge) (he : e ∈ o.after) (hb : Region.binds .any e = true) : e.on < i := by
  have hi : i < ops.size := (Array.getElem?_eq_some_iff.1 ho).1
  have h1 := List.all_eq_true.1 h i (List.mem_range.2 hi)
  rw [ho] at h1
  simp only [Bool.and_eq_true] at h1
  have h2 := Array.all_eq_true_iff_forall_mem.1 h1.2 e he
  simpa [hb] using h2
theorem writes_of {j : Nat} {d : Tmp} (h : dstOf ops j = some d) : writes ops d = true :=
  List.any_eq_true.2 ⟨j, List.mem_range.2 (dstOf_lt h), by rw [h]; exact beq_self_eq_true _⟩
theorem yielded_eqF {n : Nat} (h : slotsOk ops n = true) (a : Act) (hs : a.tmps.size = n) : yielded ops a.tmps = yieldedF ops (fun t => a.tmps.getD t undef) := by
  funext j
  unfold yielded yieldedF
  show (match (dstOf ops j).bind (a.tmps[·]?) with | some (.bool b) => some b | _ => none) = _
  cases hd : dstOf ops j with
  | none => rfl
  | some d =>
    have hlt := slotsOk_lt h hd
    have e : a.tmps[d]? = some (a.tmps.getD d undef) := by
      rw [← hs] at hlt
      simp [hlt]
    simp only [Option.bind_some, e]
    generalize a.tmps.getD d undef = u
    cases u <;> rfl

theorem RInv.put {listed : Array Bool} {a : Act} {w w' : World} {i : Nat} {o : Oper} {v : Value} {n : Nat} (ho : ops[i]? = some o) (hok : slotsOk ops n = true) (hn : a0.tmps.size = n) (h : RInv ops G R a0 W0 listed a w)
    (ht : ∀ {a b c}, G a b → G b c → G a c) (hm : ∀ j {a b v}, R j a v → G a b → R j b v) (hg : G w w') (hr : R i w' v) (hi : i < ops.size) : RInv ops G R a0 W0 (listed.setIfInBounds i true) (a.put o.dst v) w' := by
  have hdo : dstOf ops i = o.dst := by unfold dstOf; rw [ho]; rfl
  have get : ∀ t, (a.put o.dst v).tmps.getD t undef = if o.dst = some t ∧ t < n then v else a.tmps.getD t undef := by
    intro t
    unfold Act.put
    cases hd : o.dst with
    | none => simp
    | some d =>
      by_cases e : d = t
      · subst e
        have hlt : d < n := slotsOk_lt hok (hdo.trans hd)
        have hlt2 : d < a.tmps.size := by rw [h.size, hn]; exact hlt
        simp [hlt, hlt2]
      · simp [e, Array.getElem?_setIfInBounds_ne e]
  refine ⟨ht h.grow hg, ?_, ?_, by simp [h.lsize], fun t hw => ?_, fun j d hl hd => ?_⟩
  · rw [← h.defers]; unfold Act.put; cases o.dst <;> rfl
  · rw [← h.size]; unfold Act.put; cases o.dst <;> simp
  · rw [get, if_neg, h.frame t hw]
    rintro ⟨e, _⟩
    have := writes_of (hdo.trans e)
    rw [hw] at this; cases this
  · rw [get]
    by_cases hji : j = i
    · subst hji
      rw [if_pos ⟨hdo.symm.trans hd, slotsOk_lt hok hd⟩]
      exact hr
    · rw [if_neg]
      · refine hm j (h.rel j d ?_ hd) hg
        rw [← hl]
        simp [Array.getElem?_setIfInBounds_ne (Ne.symm hji)]
      · rintro ⟨e, _⟩
        exact hji (slotsOk_ne hok hd (hdo.trans e))

/-- THE LAW. -/
theorem wp_region_rel (n : Nat) {id : Nat} {Q : Exit → Act → World → Prop} {a : Act} {w : World} (hm : P.follows .mixedOrders = true) (hn : a.tmps.size = n) (hok : slotsOk ops n = true)
    (G : World → World → Prop) (R : Nat → World → Value → Prop) (hr : ∀ w, G w w) (ht : ∀ {a b c}, G a b → G b c → G a c) (hmo : ∀ j {a b v}, R j a v → G a b → R j b v)
    (step : ∀ (i : Nat) (o : Oper), ops[i]? = some o → ∀ (f : Nat → Value) (w' : World), G w.drew w' → (∀ t, writes ops t = false → f t = a.tmps.getD t undef) →
      (∀ j d, depOn ops i j = true → dstOf ops j = some d → R j w' (f d)) → if Region.wanted o (yieldedF ops f) = true then Gives P o f w' (fun v w'' => G w' w'' ∧ R i w'' v) else R i w' undef)
    (fin : ∀ (f : Nat → Value) (w' : World), G w.drew w' → (∀ t, writes ops t = false → f t = a.tmps.getD t undef) → (∀ j d, dstOf ops j = some d → R j w' (f d)) → Q .normal ⟨((List.range n).map f).toArray, a.defers⟩ w') :
    (Code.region id ops true).wp P Q a w := by
  refine wp_region_any hm ?_
  have key : ∀ (fuel : Nat) (listed : Array Bool) (b : Act) (v : World), RInv ops G R a w.drew listed b v → ((List.range ops.size).countP (fun i => listed.getD i false == false)) ≤ fuel → wpAny P .any ops Q fuel listed b v := by
    intro fuel
    have done : ∀ (listed : Array Bool) (b : Act) (v : World), RInv ops G R a w.drew listed b v → Region.ready .any ops listed = [] → Q .normal b v := by
      intro listed b v h h0
      have all : ∀ i, i < ops.size → listed.getD i false = true := by
        intro i
        induction i using Nat.strongRecOn with
        | _ i ih =>
          intro hi
          cases hc : listed.getD i false with
          | true => rfl
          | false =>
            have hmem : i ∈ Region.ready .any ops listed := by
              refine mem_ready.2 ⟨?_, ops[i], by simp [hi], fun e he hb => ?_⟩
              · have : i < listed.size := by rw [h.lsize]; exact hi
                simp [this] at hc ⊢
                exact hc
              · have hlt := slotsOk_back hok (i := i) (o := ops[i]) (by simp [hi]) e he hb
                exact ih e.on hlt (by omega)
            rw [h0] at hmem; cases hmem
      have hb : b = ⟨((List.range n).map (fun t => b.tmps.getD t undef)).toArray, a.defers⟩ := by
        have hs : b.tmps.size = n := h.size.trans hn
        have e : b.tmps = ((List.range n).map (fun t => b.tmps.getD t undef)).toArray := by
          apply Array.ext
          · simp [hs]
          · intro i h1 h2
            simp [h1]
        rw [← h.defers, ← e]
      rw [hb]
      exact fin (fun t => b.tmps.getD t undef) v h.grow h.frame (fun j d hd => h.rel j d (all j (dstOf_lt hd)) hd)
    induction fuel with
    | zero =>
      intro listed b v h hc
      have h0 : Region.ready .any ops listed = [] := by
        apply List.eq_nil_iff_forall_not_mem.2
        intro i hi
        obtain ⟨h1, o, ho, _⟩ := mem_ready.1 hi
        have hlt : i < ops.size := (Array.getElem?_eq_some_iff.1 ho).1
        have h2 : listed.getD i false = false := by
          have : i < listed.size := by rw [h.lsize]; exact hlt
          simp [this] at h1 ⊢
          exact h1
        have := List.countP_eq_zero.1 (Nat.le_zero.1 hc) i (List.mem_range.2 hlt)
        rw [h2] at this
        exact this rfl
      exact ⟨h0, done listed b v h h0⟩
    | succ fuel ih =>
      intro listed b v h hc
      refine ⟨fun h0 => done listed b v h h0, fun i hi => ?_⟩
      obtain ⟨h1, o, ho, hall⟩ := mem_ready.1 hi
      have hlt : i < ops.size := (Array.getElem?_eq_some_iff.1 ho).1
      have hls : i < listed.size := by rw [h.lsize]; exact hlt
      have h2 : listed.getD i false = false := by
        simp [hls] at h1 ⊢
        exact h1
      have hcnt : (List.range ops.size).countP (fun k => (listed.setIfInBounds i true).getD k false == false) ≤ fuel := by
        have hsub : (List.range ops.size).countP (fun k => (listed.setIfInBounds i true).getD k false == false) < (List.range ops.size).countP (fun k => listed.getD k false == false) := by
          have gen : ∀ (l : List Nat), i ∈ l → l.countP (fun k => (listed.setIfInBounds i true).getD k false == false) < l.countP (fun k => listed.getD k false == false) := by
            have le : ∀ (l : List Nat), l.countP (fun k => (listed.setIfInBounds i true).getD k false == false) ≤ l.countP (fun k => listed.getD k false == false) := by
              intro l
              apply List.countP_mono_left
              intro k _ hk
              by_cases e : i = k
              · subst e; simp [hls] at hk
              · simpa [Array.getElem?_setIfInBounds_ne e] using hk
            intro l hl
            induction l with
            | nil => cases hl
            | cons k l ihl =>
              by_cases e : i = k
              · subst e
                have := le l
                have h2' : (listed.getD i false == false) = true := by rw [h2]; rfl
                rw [List.countP_cons_of_pos (p := fun k => listed.getD k false == false) (by exact h2'), List.countP_cons_of_neg (by simp [hls])]
                omega
              · have hl' : i ∈ l := by
                  rcases List.mem_cons.1 hl with h | h
                  · exact absurd h e
                  · exact h
                have := ihl hl'
                have e2 : (listed.setIfInBounds i true).getD k false = listed.getD k false := by simp [Array.getElem?_setIfInBounds_ne e]
                rw [List.countP_cons, List.countP_cons, e2]
                omega
          exact gen _ (List.mem_range.2 hlt)
        omega
      have hs := step i o ho (fun t => b.tmps.getD t undef) v h.grow h.frame (fun j d hj hd => by
        unfold depOn at hj
        rw [ho] at hj
        obtain ⟨q, hq, hb⟩ := Array.any_eq_true.1 hj
        have he : o.after[q] ∈ o.after := Array.getElem_mem hq
        generalize o.after[q] = e at he hb
        simp only [Bool.and_eq_true, beq_iff_eq] at hb
        have := hall e he hb.1
        rw [hb.2] at this
        exact h.rel j d this hd)
      unfold wpOp
      simp only [ho]
      rw [yielded_eqF hok b (h.size.trans hn)]
      split
      · rename_i hw
        rw [if_pos hw] at hs
        refine .inl (Gives.wp ?_)
        unfold Gives at hs ⊢
        generalize (execOp (evF fun t => b.tmps.getD t undef) o).run P v = r at hs
        cases r with
        | ok nx w' =>
          cases nx <;> simp only at hs ⊢
          case value u => exact ih _ _ _ (h.put ho hok hn ht hmo hs.1 hs.2 hlt) hcnt
          case skip => exact ih _ _ _ (h.put ho hok hn ht hmo hs.1 hs.2 hlt) hcnt
          case enter k args => exact Calls.mono hs fun e w'' ⟨u, he, hg, hR⟩ => ⟨u, he, ih _ _ _ (h.put ho hok hn ht hmo hg hR hlt) hcnt⟩
        | halt x w' => exact hs.elim
      · rename_i hw
        rw [if_neg hw] at hs
        exact ih _ _ _ (h.put ho hok hn ht hmo (hr v) hs hlt) hcnt
  refine key ops.size _ a _ ⟨hr _, rfl, rfl, by simp, fun t _ => rfl, fun j d hl hd => ?_⟩ ?_
  · have := dstOf_lt hd
    simp [this] at hl
  · refine Nat.le_trans List.countP_le_length ?_
    simp
end

/-! ### The relations as a list; the steps one by one -/
/-- A relation that stays true as the world grows. -/
structure Rl where
  R : World → Value → Prop
  mono : ∀ {a b : World} {v : Value}, R a v → Below a.heap.size a b → R b v
def Rl.eq (u : Value) : Rl := ⟨fun _ v => v = u, fun h _ => h⟩
def Rl.any : Rl := ⟨fun _ _ => True, fun h _ => h⟩
def relOf (l : List Rl) (i : Nat) : World → Value → Prop := (l.getD i Rl.any).R
def Gr (a b : World) : Prop := Below a.heap.size a b
theorem Gr.refl (a : World) : Gr a a := Below.refl _ _
theorem Gr.trans {a b c : World} (h : Gr a b) (k : Gr b c) : Gr a c := Below.trans h (Below.mono k h.size)
/-- Of each operation of the list, from number k on. -/
def AllFrom (Pr : Nat → Oper → Prop) : Nat → List Oper → Prop
  | _, [] => True
  | k, o :: l => Pr k o ∧ AllFrom Pr (k + 1) l
theorem AllFrom.nil_ {Pr : Nat → Oper → Prop} {k : Nat} : AllFrom Pr k [] := trivial
theorem AllFrom.cons_ {Pr : Nat → Oper → Prop} {k k' : Nat} {o : Oper} {l : List Oper} (hk : k' = k + 1) (h : Pr k o) (t : AllFrom Pr k' l) : AllFrom Pr k (o :: l) := by
  subst hk; exact ⟨h, t⟩
theorem AllFrom.out {Pr : Nat → Oper → Prop} : ∀ (l : List Oper) (k : Nat), AllFrom Pr k l → ∀ i o, l[i]? = some o → Pr (k + i) o
  | [], _, _, i, o, h => by simp at h
  | x :: l, k, h, 0, o, ho => by
    simp at ho; subst ho; exact h.1
  | x :: l, k, h, i + 1, o, ho => by
    have := AllFrom.out l (k + 1) h.2 i o (by simpa using ho)
    rwa [Nat.add_assoc, Nat.add_comm 1 i] at this
/-- One operation's step. -/
def Stp (P : Program) (ops : Array Oper) (a : Act) (W : World) (l : List Rl) (i : Nat) (o : Oper) : Prop :=
  ∀ (f : Nat → Value) (w : World), Gr W w → (∀ t, writes ops t = false → f t = a.tmps.getD t undef) →
      (∀ j d, depOn ops i j = true → dstOf ops j = some d → relOf l j w (f d)) → if Region.wanted o (yieldedF ops f) = true then Gives P o f w (fun v w'' => Gr w w'' ∧ relOf l i w'' v) else relOf l i w undef
theorem wp_region_rl {P : Program} (n : Nat) (l : List Rl) {id : Nat} {os : List Oper} {Q : Exit → Act → World → Prop} {a : Act} {w : World} (hm : P.follows .mixedOrders = true) (hn : a.tmps.size = n) (hok : slotsOk os.toArray n = true)
    (steps : AllFrom (Stp P os.toArray a w.drew l) 0 os)
    (fin : ∀ (f : Nat → Value) (w' : World), Gr w.drew w' → (∀ t, writes os.toArray t = false → f t = a.tmps.getD t undef) → (∀ j d, dstOf os.toArray j = some d → relOf l j w' (f d)) → Q .normal ⟨((List.range n).map f).toArray, a.defers⟩ w') :
    (Code.region id os.toArray true).wp P Q a w := by
  refine wp_region_rel n hm hn hok Gr (relOf l) Gr.refl Gr.trans (fun j _ _ _ h g => (l.getD j Rl.any).mono h g) (fun i o ho => ?_) fin
  have := AllFrom.out os 0 steps i o (by simpa using ho)
  rw [Nat.zero_add] at this
  exact this
theorem wanted_none {o : Oper} {y : Nat → Option Bool} (h : o.guard = none) : Region.wanted o y = true := by unfold Region.wanted; rw [h]
theorem wanted_some {ops : Array Oper} {o : Oper} {f : Nat → Value} {j : Nat} {b : Bool} {d : Tmp} (h : o.guard = some (j, b)) (hd : dstOf ops j = some d) (hf : f d = .bool b) : Region.wanted o (yieldedF ops f) = true := by
  unfold Region.wanted yieldedF; rw [h]; simp only [hd, hf, beq_self_eq_true]
theorem gives_val {P : Program} {o : Oper} {f : Nat → Value} {w w' : World} {v : Value} {K : Value → World → Prop} (h : (execOp (evF f) o).run P w = .ok (.value v) w') (hK : K v w') : Gives P o f w K := by
  unfold Gives; rw [h]; exact hK
theorem gives_call {P : Program} {o : Oper} {f : Nat → Value} {w w' : World} {k : FuncId} {args : Array Value} {K : Value → World → Prop} (h : (execOp (evF f) o).run P w = .ok (.enter k args) w') (hK : Calls P k args w' fun e w'' => ∃ v, e = .returned v ∧ K v w'') : Gives P o f w K := by
  unfold Gives; rw [h]; exact hK
/-- A call of a Go function with a body. -/
theorem gives_func {P : Program} {o : Oper} {f : Nat → Value} {w : World} {k : FuncId} {xs : Array Operand} {ats : Array TypeId} {fn : Func} {c : Code} {K : Value → World → Prop} (ho : o.op = .call { callee := .value (.func k), args := xs, argTypes := ats })
    (hf : P.funcs[k]? = some fn) (hname : (fn.name == "runtime.NumGoroutine") = false) (hb : fn.body = some c) {args : Array Value} (ha : xs.map (evF f) = args)
    (hK : Calls P k args w fun e w'' => ∃ v, e = .returned v ∧ K v w'') : Gives P o f w K := by
  subst ha
  refine gives_call (k := k) ?_ hK
  have h1 : fn.name ≠ "runtime.NumGoroutine" := by simpa using hname
  have e : execOp (evF f) o = callFunc k (#[] ++ xs.map (evF f) ++ #[]) := by
    unfold execOp; rw [ho]; rfl
  rw [e]
  simp [callFunc, hf, h1, hb]
/-- The slots of ws are written among these. -/
def putAll (f : Nat → Value) : List Nat → Array Value → Array Value
  | [], T => T
  | t :: l, T => putAll f l (T.setIfInBounds t (f t))
theorem putAll_size (f : Nat → Value) : ∀ (l : List Nat) (T : Array Value), (putAll f l T).size = T.size
  | [], _ => rfl
  | t :: l, T => by rw [putAll, putAll_size f l]; simp
theorem putAll_get (f : Nat → Value) : ∀ (l : List Nat) (T : Array Value) (t : Nat), t < T.size → (t ∈ l ∨ T.getD t undef = f t) → (putAll f l T).getD t undef = f t
  | [], _, _, _, h => by
    rcases h with h | h
    · cases h
    · exact h
  | x :: l, T, t, ht, h => by
    rw [putAll]
    refine putAll_get f l _ t (by simpa using ht) ?_
    by_cases e : x = t
    · subst e
      exact .inr (by simp [ht])
    · rcases h with h | h
      · rcases List.mem_cons.1 h with h | h
        · exact absurd h.symm e
        · exact .inl h
      · exact .inr (by rw [← h]; simp [Array.getElem?_setIfInBounds_ne e])
def allIn (ops : Array Oper) (ws : List Nat) : Bool := (List.range ops.size).all fun j => match dstOf ops j with | some d => ws.contains d | none => true
/-- THE LAW, the frame behind it told by the slots that are written. -/
theorem wp_region_rw {P : Program} (n : Nat) (l : List Rl) (ws : List Nat) {id : Nat} {os : List Oper} {Q : Exit → Act → World → Prop} {a : Act} {w : World} (hm : P.follows .mixedOrders = true) (hn : a.tmps.size = n) (hok : slotsOk os.toArray n = true) (hws : allIn os.toArray ws = true)
    (steps : AllFrom (Stp P os.toArray a w.drew l) 0 os)
    (fin : ∀ (f : Nat → Value) (w' : World), Gr w.drew w' → (∀ j d, dstOf os.toArray j = some d → relOf l j w' (f d)) → Q .normal ⟨putAll f ws a.tmps, a.defers⟩ w') :
    (Code.region id os.toArray true).wp P Q a w := by
  refine wp_region_rl n l hm hn hok steps (fun f w' g hF hD => ?_)
  have e : ((List.range n).map f).toArray = putAll f ws a.tmps := by
    apply Array.ext
    · rw [putAll_size, hn]; simp
    · intro t h1 h2
      have ht : t < n := by simpa using h1
      have h3 := putAll_get f ws a.tmps t (by rw [hn]; exact ht) (by
        by_cases hw : writes os.toArray t = true
        · left
          obtain ⟨j, hj, hd⟩ := List.any_eq_true.1 hw
          have hd := beq_iff_eq.1 hd
          have := List.all_eq_true.1 hws j hj
          rw [hd] at this
          simpa using this
        · right
          exact (hF t (by simpa using hw)).symm)
      have h4 : (putAll f ws a.tmps)[t] = f t := by
        rw [← h3]; simp [h2]
      rw [h4]; simp
  rw [e]
  exact fin f w' g hD
end Go.Proofs.YtipofokinjkclaaDoor

/- Steps of a region told by relations: operations whose guard does not want them; loads of one cell and of several. Conditions: none. -/
namespace Go.Proofs.YtipofokinjkclaaDoor
open Go Go.RowKit

theorem unwanted_some {ops : Array Oper} {o : Oper} {f : Nat → Value} {j : Nat} {b : Bool} {d : Tmp} (h : o.guard = some (j, b)) (hd : dstOf ops j = some d) (hf : f d = .bool (!b)) : ¬ Region.wanted o (yieldedF ops f) = true := by
  unfold Region.wanted yieldedF; rw [h]; simp only [hd, hf]; cases b <;> decide
theorem unwanted_undef {ops : Array Oper} {o : Oper} {f : Nat → Value} {j : Nat} {b : Bool} {d : Tmp} (h : o.guard = some (j, b)) (hd : dstOf ops j = some d) (hf : f d = undef) : ¬ Region.wanted o (yieldedF ops f) = true := by
  unfold Region.wanted yieldedF; rw [h]; simp only [hd, hf, undef]; cases b <;> decide
/-- A load of a whole struct. -/
theorem gives_load_cells {P : Program} {o : Oper} {f : Nat → Value} {w : World} {K : Value → World → Prop} (ty : TypeId) (x : Operand) (ho : o.op = .load ty x)
    (ad : Addr) (hx : evF f x = .pointer (some ad)) (vs : List Value) (V : Value) (hV : V = .agg vs.toArray) (d : TypeDesc) (hc : ∀ j v, vs[j]? = some v → w.cell? (ad.add j) = some v)
    (hu : P.underlying ty = some d) (hd : (match d with | .struct _ | .array _ _ => true | _ => false) = true) (hi : (P.info? ty).map (·.size) = some vs.length)
    (hK : K V w) : Gives P o f w K := by
  have hl : (loadCells ad vs.length).run P w = .ok vs.toArray w := run_loadCells_list (P := P) w ad vs hc
  have hv : (loadVar ty ad).run P w = .ok (.agg vs.toArray) w := by
    cases hq : P.info? ty with
    | none => simp [hq] at hi
    | some i =>
      have hs : i.size = vs.length := by simpa [hq] using hi
      have hagg : (isAgg ty).run P w = .ok true w := by
        unfold isAgg
        rw [Sem.run_bind, run_underlying hu w]
        cases d <;> simp_all
      simp [loadVar, Sem.run_bind, hagg, sizeOf, typeInfo, hq, hs, hl]
  refine gives_val (v := V) (w' := w) ?_ hK
  unfold execOp
  simp only [ho, hx, Instr.loadAt, Instr.sureAddr, Sem.run_bind, Sem.run_pure, Result.andThen_ok, hv, hV]
theorem addr_add (b o j : Nat) : (⟨b, o, none⟩ : Addr).add j = ⟨b, o + j, none⟩ := by unfold Addr.add; split <;> simp_all
end Go.Proofs.YtipofokinjkclaaDoor
