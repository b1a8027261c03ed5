/- Parts one behind the other: Plain: cells, pens, rows, grids, and what may be, told as the program does and as the reference does; Rows of cells in memory: six cells each; appended, made, copied, stored into; texts in a row; What may be of colours, pens, cells, told by the program and by the reference; when two pens, two cells are equal. Conditions: as told at each. -/
import Derived.Test.YtndjggabdajbfaaGreatDoorPG1
import Derived.Laws.OwnMore
import Derived.Test.YtndjggabdajbfaaGreatDoorPG2
import Derived.Laws.StructEq

set_option linter.unusedVariables false
set_option linter.unusedSimpArgs false
/- Plain: cells, pens, rows, grids, and what may be, told as the program does and as the reference does. Conditions: none. -/
namespace Go.Proofs.YtndjggabdajbfaaGreatDoor
open Go Go.Lib

structure CeD where
  r : Int
  w : Int
  fg : Int
  bg : Int
  at_ : Int
  ln : Int

def colMay (c : Int) : Bool := decide (c ≤ 256) || (decide (16777216 ≤ c) && decide (c ≤ 33554431))
def penMay (d : CeD) : Bool := colMay d.fg && colMay d.bg
def mayC (d : CeD) : Bool := penMay d && ((decide (d.w = 0) && decide (widI d.r = 1)) || (decide (d.w = 1) && decide (widI d.r = 2)) || (decide (d.w = 2) && decide (d.r = 0)))
def penEq (a b : CeD) : Bool := decide (a.fg = b.fg) && decide (a.bg = b.bg) && decide (a.at_ = b.at_) && decide (a.ln = b.ln)
theorem penEq_comm (a b : CeD) : penEq a b = penEq b a := by
  unfold penEq
  rw [Bool.eq_iff_iff]
  simp only [Bool.and_eq_true, decide_eq_true_eq]
  constructor <;> (rintro ⟨⟨⟨h1, h2⟩, h3⟩, h4⟩; exact ⟨⟨⟨h1.symm, h2.symm⟩, h3.symm⟩, h4.symm⟩)

/-! ### Rows -/
def isL (d : CeD) : Bool := decide (d.w = 1)
def isR (d : CeD) : Bool := decide (d.w = 2)
def lft : Option CeD → Bool
  | none => false
  | some d => isL d
def pnO : Option CeD → CeD → Bool
  | none, _ => true
  | some d, c => penEq d c
/-- A cell behind another one, as the program asks. -/
def goodP (p : Option CeD) (c : CeD) : Bool := mayC c && ((lft p == isR c) && (!lft p || pnO p c))
def rowP : Option CeD → List CeD → Bool
  | p, [] => !lft p
  | p, c :: l => goodP p c && rowP (some c) l
def rowMayP (l : List CeD) : Bool := decide (1 ≤ l.length) && (decide (l.length ≤ 80) && rowP none l)
/-- The cell behind a left half, as the reference asks. -/
def nxt (c : CeD) : List CeD → Bool
  | [] => false
  | n :: _ => isR n && penEq n c
def goodR (p : Option CeD) (c : CeD) (l : List CeD) : Bool := mayC c && ((!isL c || nxt c l) && (!isR c || lft p))
def rowR : Option CeD → List CeD → Bool
  | _, [] => true
  | p, c :: l => goodR p c l && rowR (some c) l
def condR : Option CeD → List CeD → Bool
  | none, _ => true
  | some d, l => !isL d || nxt d l
theorem rowP_R : ∀ (l : List CeD) (p : Option CeD), rowP p l = (rowR p l && condR p l)
  | [], none => rfl
  | [], some d => by simp [rowP, rowR, condR, lft, nxt]
  | c :: l, p => by
    rw [rowP, rowR, rowP_R l (some c), goodP, goodR]
    cases p with
    | none =>
      simp only [lft, condR, pnO]
      generalize nxt c l = nx
      generalize rowR (some c) l = rr
      cases mayC c <;> cases isR c <;> cases isL c <;> cases nx <;> cases rr <;> rfl
    | some d =>
      have hn : nxt d (c :: l) = (isR c && penEq c d) := rfl
      simp only [lft, condR, pnO]
      rw [hn, penEq_comm c d]
      generalize nxt c l = nx
      generalize rowR (some c) l = rr
      generalize penEq d c = pe
      cases mayC c <;> cases isR c <;> cases isL c <;> cases isL d <;> cases pe <;> cases nx <;> cases rr <;> rfl
theorem rowP_none (l : List CeD) : rowP none l = rowR none l := by rw [rowP_R]; simp [condR]
def rowMayR (l : List CeD) : Bool := decide (1 ≤ l.length) && (decide (l.length ≤ 80) && rowR none l)
theorem rowMay_eq (l : List CeD) : rowMayP l = rowMayR l := by rw [rowMayP, rowMayR, rowP_none]

/-! ### Grids -/
def fitsI (cols rows : Int) : Bool := decide (1 ≤ cols) && (decide (cols ≤ 80) && (decide (1 ≤ rows) && decide (rows ≤ 24)))
/-- The row y of cells. -/
def rowAt (cols y : Nat) (l : List CeD) : List CeD := (l.drop (y * cols)).take cols
/-- Rows from y on. -/
def rowsGo (cols : Nat) : Nat → Nat → List CeD → Bool
  | _, 0, _ => true
  | y, k + 1, l => rowMayP (rowAt cols y l) && rowsGo cols (y + 1) k l
def gridP (cols rows : Int) (l : List CeD) : Bool := fitsI cols rows && (decide ((l.length : Int) = cols * rows) && rowsGo cols.toNat 0 rows.toNat l)

/-! ### Links -/
instance decText : DecidableEq ByteArray := fun a b => decidable_of_iff (a.data = b.data) ⟨fun h => by cases a; cases b; simp only at h; rw [h], fun h => by rw [h]⟩
def uriByte (b : UInt8) : Bool := decide (33 ≤ b.toNat) && decide (b.toNat ≤ 126)
def bytesOf (s : ByteArray) : List UInt8 := s.data.toList
def uriMay (s : ByteArray) : Bool := (bytesOf s).all uriByte && (decide (1 ≤ s.size) && decide (s.size ≤ 64))
def memT (u : ByteArray) (l : List ByteArray) : Bool := l.any fun x => decide (x = u)
theorem memT_no (u : ByteArray) (l : List ByteArray) : memT u l = false ↔ u ∉ l := by
  unfold memT
  rw [List.any_eq_false]
  constructor
  · intro h hm; exact h u hm (decide_eq_true rfl)
  · intro h x hx e; exact h (of_decide_eq_true e ▸ hx)
/-- Each of them may be, and none stands there twice. -/
def lksGo : List ByteArray → List ByteArray → Bool
  | _, [] => true
  | ahead, u :: l => uriMay u && (!memT u ahead && lksGo (ahead ++ [u]) l)
/-- The greatest number so far; none: one comes too early. -/
def topGo (m : Int) : Int → List CeD → Option Int
  | t, [] => some t
  | t, c :: l => if t + 1 < c.ln ∨ m < c.ln then none else if t < c.ln then topGo m c.ln l else topGo m t l
def lnkP (l : List CeD) (ls : List ByteArray) : Bool := decide (ls.length ≤ 16) && (lksGo [] ls && decide (topGo ls.length 0 l = some (ls.length : Int)))

/-- To where a number leads; empty: nowhere. -/
def leadsL (ls : List ByteArray) (n : Int) : ByteArray := if n = 0 then ⟨#[]⟩ else match ls[(n - 1).toNat]? with
  | some u => if uriMay u then u else ⟨#[]⟩
  | none => ⟨#[]⟩
/-- Where a text stands first; its length: nowhere. -/
def placeL (s : ByteArray) : List ByteArray → Nat
  | [] => 0
  | u :: l => if u = s then 0 else placeL s l + 1
def canGo (ls : List ByteArray) : List ByteArray → List CeD → List ByteArray
  | m, [] => m
  | m, c :: l => if 0 < (leadsL ls c.ln).size ∧ placeL (leadsL ls c.ln) m = m.length then canGo ls (m ++ [leadsL ls c.ln]) l else canGo ls m l
def numC (ls m : List ByteArray) (n : Int) : Int := if 0 < (leadsL ls n).size then (if placeL (leadsL ls n) m = m.length then 0 else (placeL (leadsL ls n) m : Int) + 1) else 0
def lnkR (l : List CeD) (ls : List ByteArray) : Bool := decide (ls.length ≤ 16) && (l.all (fun c => decide (numC ls (canGo ls [] l) c.ln = c.ln)) && decide (canGo ls [] l = ls))
end Go.Proofs.YtndjggabdajbfaaGreatDoor



/- Rows of cells in memory: six cells each; appended, made, copied, stored into; texts in a row. Conditions: lengths that fit. -/
namespace Go.Proofs.YtndjggabdajbfaaGreatDoor
open Go Go.RowKit

def CeD.cells (d : CeD) : List Value := [.int .i32 d.r, .int .u8 d.w, .int .u32 d.fg, .int .u32 d.bg, .int .u8 d.at_, .int .u16 d.ln]
def CeD.val (d : CeD) : Value := .agg #[.int .i32 d.r, .int .u8 d.w, .int .u32 d.fg, .int .u32 d.bg, .int .u8 d.at_, .int .u16 d.ln]
def cellsC (ds : List CeD) : List Value := ds.flatMap CeD.cells
theorem cellsC_cons (d : CeD) (ds : List CeD) : cellsC (d :: ds) = d.cells ++ cellsC ds := rfl
theorem cellsC_append (a b : List CeD) : cellsC (a ++ b) = cellsC a ++ cellsC b := by simp [cellsC]
theorem cellsC_length (ds : List CeD) : (cellsC ds).length = ds.length * 6 := by
  induction ds with
  | nil => rfl
  | cons d ds ih => rw [cellsC_cons, List.length_append, ih]; simp [CeD.cells]; omega
theorem cellsC_get : ∀ (ds : List CeD) (i : Nat) (h : i < ds.length) (j : Nat), j < 6 → (cellsC ds)[i * 6 + j]? = (ds[i].cells)[j]?
  | d :: ds, 0, _, j, hj => by
    rw [cellsC_cons, Nat.zero_mul, Nat.zero_add, List.getElem?_append_left (by simpa [CeD.cells] using hj)]
    rfl
  | d :: ds, i + 1, h, j, hj => by
    rw [cellsC_cons, List.getElem?_append_right (by simp [CeD.cells]; omega)]
    have e : (i + 1) * 6 + j - d.cells.length = i * 6 + j := by simp [CeD.cells]; omega
    rw [e, cellsC_get ds i (by simpa using h) j hj]
    rfl
theorem cellsC_one (ds : List CeD) : ∀ u ∈ cellsC ds, u.oneCell' = true := by
  intro u hu
  obtain ⟨d, _, h⟩ := List.mem_flatMap.1 hu
  simp only [CeD.cells, List.mem_cons, List.not_mem_nil, or_false] at h
  rcases h with rfl | rfl | rfl | rfl | rfl | rfl <;> rfl
theorem cellsC_take : ∀ (ds : List CeD) (k : Nat), cellsC (ds.take k) = (cellsC ds).take (k * 6)
  | [], k => by simp [cellsC]
  | d :: ds, 0 => by simp [cellsC]
  | d :: ds, k + 1 => by
    rw [List.take_succ_cons, cellsC_cons, cellsC_cons, cellsC_take ds k, List.take_append]
    have h6 : d.cells.length = 6 := rfl
    rw [List.take_of_length_le (l := d.cells) (by omega), h6, show (k + 1) * 6 - 6 = k * 6 by omega]
theorem cellsC_drop : ∀ (ds : List CeD) (k : Nat), cellsC (ds.drop k) = (cellsC ds).drop (k * 6)
  | [], k => by simp [cellsC]
  | d :: ds, 0 => by simp
  | d :: ds, k + 1 => by
    rw [List.drop_succ_cons, cellsC_cons, cellsC_drop ds k, List.drop_append]
    have h6 : d.cells.length = 6 := rfl
    rw [show List.drop ((k + 1) * 6) d.cells = [] from List.drop_eq_nil_of_le (by omega), h6, show (k + 1) * 6 - 6 = k * 6 by omega, List.nil_append]
theorem cellsC_all : ∀ (ds : List CeD) (i : Nat) (_ : i < ds.length) (d' : CeD),
    ((((((cellsC ds).set (i * 6) (.int .i32 d'.r)).set (i * 6 + 1) (.int .u8 d'.w)).set (i * 6 + 2) (.int .u32 d'.fg)).set (i * 6 + 3) (.int .u32 d'.bg)).set (i * 6 + 4) (.int .u8 d'.at_)).set (i * 6 + 5) (.int .u16 d'.ln) = cellsC (ds.set i d')
  | d :: ds, 0, _, d' => rfl
  | d :: ds, i + 1, h, d' => by
    have ih := cellsC_all ds i (by simpa using h) d'
    have e : ∀ j, (i + 1) * 6 + j - d.cells.length = i * 6 + j := by intro j; simp [CeD.cells]; omega
    have e0 : (i + 1) * 6 - d.cells.length = i * 6 := e 0
    rw [cellsC_cons, List.set_append_right _ _ (by simp [CeD.cells]; omega), List.set_append_right _ _ (by simp [CeD.cells]; omega), List.set_append_right _ _ (by simp [CeD.cells]; omega), List.set_append_right _ _ (by simp [CeD.cells]; omega), List.set_append_right _ _ (by simp [CeD.cells]; omega), List.set_append_right _ _ (by simp [CeD.cells]; omega), e0, e 1, e 2, e 3, e 4, e 5, ih]
    rfl

/-- Cells to be read at an address. -/
def RdC (w : World) (A : Option Addr) (ds : List CeD) : Prop := Rd w A (cellsC ds)
/-- The six cells of one of them. -/
theorem RdC.six {w : World} {A : Option Addr} {ds : List CeD} (h : RdC w A ds) (h0 : 0 < ds.length) : ∃ b off, A = some ⟨b, off, none⟩ ∧ b < w.heap.size ∧ ∀ i (h : i < ds.length),
    w.cell? ⟨b, off + i * 6, none⟩ = some (.int .i32 ds[i].r) ∧ w.cell? ⟨b, off + i * 6 + 1, none⟩ = some (.int .u8 ds[i].w) ∧ w.cell? ⟨b, off + i * 6 + 2, none⟩ = some (.int .u32 ds[i].fg) ∧
    w.cell? ⟨b, off + i * 6 + 3, none⟩ = some (.int .u32 ds[i].bg) ∧ w.cell? ⟨b, off + i * 6 + 4, none⟩ = some (.int .u8 ds[i].at_) ∧ w.cell? ⟨b, off + i * 6 + 5, none⟩ = some (.int .u16 ds[i].ln) := by
  obtain ⟨b, off, rfl, hb, hc⟩ := Rd.addr h (by rw [cellsC_length]; omega)
  refine ⟨b, off, rfl, hb, fun i hi => ?_⟩
  have get : ∀ j, j < 6 → w.cell? ⟨b, off + i * 6 + j, none⟩ = (ds[i].cells)[j]? := by
    intro j hj
    have hlt : i * 6 + j < (cellsC ds).length := by rw [cellsC_length]; omega
    rw [Nat.add_assoc, hc (i * 6 + j) hlt, ← List.getElem?_eq_getElem hlt, cellsC_get ds i hi j hj]
  exact ⟨get 0 (by decide), get 1 (by decide), get 2 (by decide), get 3 (by decide), get 4 (by decide), get 5 (by decide)⟩
theorem RdC.below {w w' : World} {A : Option Addr} {ds : List CeD} (h : RdC w A ds) (hb : Below w.heap.size w w') : RdC w' A ds := Rd.below h hb
/-- Cells in a row of the call's own. -/
def OwnC (w : World) (B : Nat) (v : Value) (ds : List CeD) : Prop := w.ownsRow B 43 6 v ds.length (cellsC ds)
theorem info_ce : (Tryz.prog.info? 43).map (fun i => (i.zero, i.size, i.bytes)) = some (some (.agg #[.int .i32 0, .int .u8 0, .int .u32 0, .int .u32 0, .int .u8 0, .int .u16 0]), 6, 20) := by kernel_rfl
theorem OwnC.nil_ (w : World) (B : Nat) : OwnC w B (.slice none 0 0) [] := World.ownsRow_nil _ _ _ _
theorem OwnC.form {w : World} {v : Value} {ds : List CeD} {B : Nat} (h : OwnC w B v ds) : ∃ A c, v = .slice A ds.length c ∧ ds.length ≤ c ∧ c ≤ maxLen ∧ RdC w A ds ∧ (∀ a, A = some a → B ≤ a.block ∧ a.block < w.heap.size ∧ a.off = 0 ∧ a.spot = none) ∧ (A = none → c = 0) := by
  obtain ⟨hl, h2⟩ := h
  rcases h2 with ⟨rfl, h0⟩ | ⟨g, cap, cur, rfl, hb, hg, hn, hm, hcs, ht⟩
  · obtain rfl : ds = [] := List.eq_nil_of_length_eq_zero h0
    exact ⟨none, 0, rfl, Nat.le_refl _, Nat.zero_le _, .inl rfl, fun a ha => by (cases ha), fun _ => rfl⟩
  · refine ⟨some ⟨g, 0, none⟩, cap, rfl, hn, hm, .inr ⟨g, 0, rfl, (Array.getElem?_eq_some_iff.1 hg).1, fun k hk => ?_⟩, fun a ha => ?_, fun ha => by (cases ha)⟩
    · rw [Nat.zero_add, cell_of_row w g k cur _ (0, 0) hg]
      have h1 : (cellsC ds)[k]? = some (cellsC ds)[k] := List.getElem?_eq_getElem hk
      rw [← h1]
      conv => rhs; rw [← ht]
      rw [List.getElem?_take, if_pos (by omega)]
      simp
    · injection ha with ha; subst ha; exact ⟨hb, (Array.getElem?_eq_some_iff.1 hg).1, rfl, rfl⟩
theorem OwnC.keep {w w' : World} {B : Nat} {v : Value} {ds : List CeD} (h : OwnC w B v ds) (hk : ∀ g, v.ownBlock = some g → w'.heap[g]? = w.heap[g]?) : OwnC w' B v ds := by
  refine ⟨h.1, ?_⟩
  rcases h.2 with h2 | ⟨g, cap, cur, rfl, hb, hg, r⟩
  · exact .inl h2
  · exact .inr ⟨g, cap, cur, rfl, hb, (hk g rfl).trans hg, r⟩
theorem OwnC.lt {w : World} {B : Nat} {v : Value} {ds : List CeD} (h : OwnC w B v ds) : ∀ k, v.ownBlock = some k → B ≤ k ∧ k < w.heap.size := World.ownsRow.lt h
theorem OwnC.below {w w' : World} {B : Nat} {v : Value} {ds : List CeD} (h : OwnC w B v ds) (hb : Below w.heap.size w w') : OwnC w' B v ds := h.keep (fun g e => hb.block g (h.lt g e).2)
theorem OwnC.low {w : World} {B B' : Nat} {v : Value} {ds : List CeD} (h : OwnC w B v ds) (hB : B' ≤ B) : OwnC w B' v ds := ⟨h.1, h.2.imp id (fun ⟨g, cap, cur, hv, hb, r⟩ => ⟨g, cap, cur, hv, Nat.le_trans hB hb, r⟩)⟩
theorem OwnC.drewN {w : World} {B : Nat} {v : Value} {ds : List CeD} (h : OwnC w B v ds) (q : Nat) : OwnC (w.drewN q) B v ds := h

/-- append onto a row of the call's own, elements of several cells. -/
theorem run_appC {P : Program} (w : World) (base : Nat) (t ty e : TypeId) (i : TypeInfo) (z : Value) (size bytes : Nat) (ht : P.underlying t = some (.slice e)) (hi : P.info? e = some i) (hz : i.zero = some z)
    (hsize : i.size = size) (hby : i.bytes = bytes) (hzs : z.cells.size = size) (hsz : 0 < size)
    (v : Value) (n : Nat) (xs : List Value) (hown : w.ownsRow base e size v n xs) (A : Option Addr) (m c : Nat) (news : List Value) (hm : news.length = m * size) (hr : Rd w A news) (h1 : ∀ u ∈ news, u.oneCell' = true)
    (hlen : n + m ≤ maxLen) (hbytes : (n + m) * bytes ≤ 140737488355328) (hbase : base ≤ w.heap.size) :
    ∃ v' w', (Builtin.append_ #[t, t] ty #[v, .slice A m c]).run P w = .ok v' w' ∧ w'.ownsRow base e size v' (n + m) (xs ++ news) ∧ w.grownBy w' v.ownBlock ∧
      (v'.ownBlock = v.ownBlock ∨ v'.ownBlock = some w.heap.size) := by
  rcases A with _ | ad
  · have hn : news = [] := by
      rcases hr with h | ⟨_, _, h, _⟩
      · exact h
      · cases h
    subst hn
    have hm0 : m = 0 := by
      rcases Nat.eq_zero_or_pos m with h | h
      · exact h
      · have := Nat.mul_pos h hsz
        simp at hm; omega
    subst hm0
    exact ⟨v, w, run_append_of_nil w base t ty e i size ht hi v n xs hown c, by simpa using hown, World.grownBy.refl w _, .inl rfl⟩
  · obtain ⟨v', w', hrun, h2, h3, _, h5⟩ := run_append_own_at (P := P) w base t ty e i z size bytes ht hi hz hsize hby hzs hsz v n xs hown ad m c news hm (hr.cellsAt ad rfl) h1 hlen hbytes hbase
    exact ⟨v', w', hrun, h2, h3, h5⟩
/-- 'append(v, xs...)' on cells. -/
theorem wpList_appC (w : World) {ops : Array Oper} {rest : List Oper} {o : Oper} {a : Act} {Q : Exit → Act → World → Prop} (hgd : o.guard = none) (s x : Operand)
    (ho : o.op = .call { callee := .builtin .append, args := #[s, x], argTypes := #[22, 22] })
    (B : Nat) (v : Value) (ds : List CeD) (hs : a.eval s = v) (hown : OwnC w B v ds)
    (A : Option Addr) (m c : Nat) (ns : List CeD) (hx : a.eval x = .slice A m c) (hm : ns.length = m) (hr : RdC w A ns)
    (hlen : ds.length + m ≤ 7000000000000) (hB : B ≤ w.heap.size)
    (h : ∀ v' w', OwnC w' B v' (ds ++ ns) → w.grownBy w' v.ownBlock → (v'.ownBlock = v.ownBlock ∨ v'.ownBlock = some w.heap.size) → wpList Tryz.prog ops Q rest (a.put o.dst v') w') : wpList Tryz.prog ops Q (o :: rest) a w := by
  obtain ⟨i0, hi, hz0, hz1, hz2⟩ := info_parts info_ce
  refine wpList_plain hgd fun K hK => ?_
  obtain ⟨v', w', hrun, h2, h3, h4⟩ := run_appC (P := Tryz.prog) w B 22 o.type 43 i0 _ 6 20 Tryz.underlying22 hi hz0 hz1 hz2 rfl (by decide) v ds.length (cellsC ds) hown A m c (cellsC ns) (by rw [cellsC_length, hm]) hr (cellsC_one _) (by unfold maxLen; omega) (by omega) hB
  unfold Oper.wp execOp
  simp only [ho, resolve, invoke, builtin, Sem.run_bind, Sem.run_pure, Result.andThen_ok, List.map_toArray, List.map_cons, List.map_nil, hs, hx, hrun]
  refine hK _ _ (h v' w' ?_ h3 h4)
  unfold OwnC
  rw [cellsC_append, List.length_append, hm]
  exact h2
def CeD.zero : CeD := ⟨0, 0, 0, 0, 0, 0⟩
theorem cellsC_zeros : ∀ n, (madeCells #[Value.int .i32 0, .int .u8 0, .int .u32 0, .int .u32 0, .int .u8 0, .int .u16 0] (n * 6)).toList = cellsC (List.replicate n CeD.zero) := by
  intro n
  apply List.ext_getElem?
  intro j
  rcases Nat.lt_or_ge j (n * 6) with hj | hj
  · have hi : j / 6 < (List.replicate n CeD.zero).length := by rw [List.length_replicate]; omega
    have h := cellsC_get (List.replicate n CeD.zero) (j / 6) hi (j % 6) (Nat.mod_lt _ (by decide))
    rw [show j / 6 * 6 + j % 6 = j by omega] at h
    rw [h]
    have e : (madeCells #[Value.int .i32 0, .int .u8 0, .int .u32 0, .int .u32 0, .int .u8 0, .int .u16 0] (n * 6)).toList[j]? = some (#[Value.int .i32 0, .int .u8 0, .int .u32 0, .int .u32 0, .int .u8 0, .int .u16 0][j % 6]!) := by
      simp only [madeCells, Array.getElem?_toList, Array.getElem?_map]
      rw [Array.getElem?_eq_getElem (by simpa using hj)]
      simp
    rw [e, List.getElem_replicate]
    have h5 : j % 6 < 6 := Nat.mod_lt _ (by decide)
    generalize j % 6 = q at h5
    match q, h5 with
    | 0, _ => rfl
    | 1, _ => rfl
    | 2, _ => rfl
    | 3, _ => rfl
    | 4, _ => rfl
    | 5, _ => rfl
  · rw [List.getElem?_eq_none (by simp [madeCells]; omega), List.getElem?_eq_none (by rw [cellsC_length, List.length_replicate]; omega)]
/-- 'make([]Cell, n)'. -/
theorem wpList_makeC (w : World) {ops : Array Oper} {rest : List Oper} {o : Oper} {a : Act} {Q : Exit → Act → World → Prop} (hgd : o.guard = none) (l c : Operand) (ho : o.op = Op.makeSlice 22 l c)
    (kl kc : IntKind) (L C : Int) (n : Nat) (hl : a.eval l = .int kl L) (hc : a.eval c = .int kc C) (hL : L = (n : Int)) (hC : C = (n : Int)) (hn : n ≤ 7000000000000)
    (h : ∀ w', OwnC w' w.heap.size (.slice (some ⟨w.heap.size, 0, none⟩) n n) (List.replicate n CeD.zero) → Below w.heap.size w w' → w.grownBy w' none → wpList Tryz.prog ops Q rest (a.put o.dst (.slice (some ⟨w.heap.size, 0, none⟩) n n)) w') :
    wpList Tryz.prog ops Q (o :: rest) a w := by
  obtain ⟨i0, hi, hz0, hz1, hz2⟩ := info_parts info_ce
  refine wpList_make_full w hgd l c 22 ho w.heap.size 43 i0 _ 6 Tryz.underlying22 hi hz0 hz1 kl kc L C n hl hc hL hC (by rw [hz2]; omega) (by unfold maxLen; omega) (Nat.le_refl _) ?_
  intro w' h1 h2
  refine h w' ?_ ((Below.refl _ _).grown h2 (Nat.le_refl _) (fun k hk => by cases hk)) h2
  unfold OwnC
  rw [List.length_replicate, ← cellsC_zeros]
  exact h1

section
variable {w : World} {B g n c : Nat} {ds : List CeD}
theorem OwnC.len (h : OwnC w B (.slice (some ⟨g, 0, none⟩) n c) ds) : n = ds.length ∧ ds.length ≤ c ∧ c ≤ maxLen ∧ B ≤ g ∧ g < w.heap.size := by
  rcases h.2 with ⟨h, _⟩ | ⟨g', cap, cur, hv, hb, hg, hn, hm, _⟩
  · cases h
  · injection hv with h1 h2 h3
    injection h1 with h1
    injection h1 with h1
    subst h1
    exact ⟨h2, by omega, by omega, hb, (Array.getElem?_eq_some_iff.1 hg).1⟩
theorem OwnC.to_n (h : OwnC w B (.slice (some ⟨g, 0, none⟩) n c) ds) : w.ownsRow B 43 6 (.slice (some ⟨g, 0, none⟩) n c) n (cellsC ds) := by
  have := h.len.1; subst this; exact h
theorem OwnC.six (h : OwnC w B (.slice (some ⟨g, 0, none⟩) n c) ds) (i : Nat) (hi : i < ds.length) :
    w.cell? ⟨g, i * 6, none⟩ = some (.int .i32 ds[i].r) ∧ w.cell? ⟨g, i * 6 + 1, none⟩ = some (.int .u8 ds[i].w) ∧ w.cell? ⟨g, i * 6 + 2, none⟩ = some (.int .u32 ds[i].fg) ∧
    w.cell? ⟨g, i * 6 + 3, none⟩ = some (.int .u32 ds[i].bg) ∧ w.cell? ⟨g, i * 6 + 4, none⟩ = some (.int .u8 ds[i].at_) ∧ w.cell? ⟨g, i * 6 + 5, none⟩ = some (.int .u16 ds[i].ln) := by
  have hl := h.len.1
  have get : ∀ j, j < 6 → w.cell? ⟨g, i * 6 + j, none⟩ = (ds[i].cells)[j]? := by
    intro j hj
    rw [h.to_n.cellAt (i * 6 + j) (by omega), cellsC_get ds i hi j hj]
  exact ⟨get 0 (by decide), get 1 (by decide), get 2 (by decide), get 3 (by decide), get 4 (by decide), get 5 (by decide)⟩
theorem OwnC.free (h : OwnC w B (.slice (some ⟨g, 0, none⟩) n c) ds) (j : Nat) : w.frozen? ⟨g, j, none⟩ = false := h.to_n.frozenAt j
theorem OwnC.setAll (h : OwnC w B (.slice (some ⟨g, 0, none⟩) n c) ds) (i : Nat) (hi : i < ds.length) (d : CeD) :
    OwnC ((((((w.setCell ⟨g, i * 6, none⟩ (.int .i32 d.r)).setCell ⟨g, i * 6 + 1, none⟩ (.int .u8 d.w)).setCell ⟨g, i * 6 + 2, none⟩ (.int .u32 d.fg)).setCell ⟨g, i * 6 + 3, none⟩ (.int .u32 d.bg)).setCell ⟨g, i * 6 + 4, none⟩ (.int .u8 d.at_)).setCell ⟨g, i * 6 + 5, none⟩ (.int .u16 d.ln)) B
      (.slice (some ⟨g, 0, none⟩) n c) (ds.set i d) := by
  have hl := h.len.1
  have h2 := ((((((h.to_n.stored (i * 6) (.int .i32 d.r)).1.stored (i * 6 + 1) (.int .u8 d.w)).1.stored (i * 6 + 2) (.int .u32 d.fg)).1.stored (i * 6 + 3) (.int .u32 d.bg)).1.stored (i * 6 + 4) (.int .u8 d.at_)).1.stored (i * 6 + 5) (.int .u16 d.ln)).1
  rw [cellsC_all ds i hi d] at h2
  unfold OwnC
  rw [List.length_set, ← hl]
  exact h2
end

/-! ### Texts in a row -/
theorem info_st : (Tryz.prog.info? 9).map (fun i => (i.zero, i.size, i.bytes)) = some (some (.string ⟨#[]⟩), 1, 16) := by kernel_rfl
def strV (ss : List ByteArray) : List Value := ss.map Value.string
theorem strV_one (ss : List ByteArray) : ∀ u ∈ strV ss, u.oneCell' = true := by
  intro u hu
  obtain ⟨_, _, rfl⟩ := List.mem_map.1 hu
  rfl
def RdT (w : World) (A : Option Addr) (ss : List ByteArray) : Prop := Rd w A (strV ss)
theorem RdT.addr {w : World} {A : Option Addr} {ss : List ByteArray} (h : RdT w A ss) (h0 : 0 < ss.length) : ∃ b off, A = some ⟨b, off, none⟩ ∧ b < w.heap.size ∧ ∀ k (h : k < ss.length), w.cell? ⟨b, off + k, none⟩ = some (.string ss[k]) := by
  obtain ⟨b, off, rfl, hb, hc⟩ := Rd.addr h (by rw [strV, List.length_map]; exact h0)
  refine ⟨b, off, rfl, hb, fun k hk => ?_⟩
  have := hc k (by rw [strV, List.length_map]; exact hk)
  rw [this]; simp [strV]
theorem RdT.below {w w' : World} {A : Option Addr} {ss : List ByteArray} (h : RdT w A ss) (hb : Below w.heap.size w w') : RdT w' A ss := Rd.below h hb
def OwnT (w : World) (B : Nat) (v : Value) (ss : List ByteArray) : Prop := Own w B 9 v (strV ss)
/-- 'append(v, xs...)' on texts. -/
theorem wpList_appT (w : World) {ops : Array Oper} {rest : List Oper} {o : Oper} {a : Act} {Q : Exit → Act → World → Prop} (hgd : o.guard = none) (s x : Operand)
    (ho : o.op = .call { callee := .builtin .append, args := #[s, x], argTypes := #[23, 23] })
    (B : Nat) (v : Value) (ss : List ByteArray) (hs : a.eval s = v) (hown : OwnT w B v ss)
    (A : Option Addr) (m c : Nat) (ns : List ByteArray) (hx : a.eval x = .slice A m c) (hm : ns.length = m) (hr : RdT w A ns)
    (hlen : ss.length + m ≤ 8000000000000) (hB : B ≤ w.heap.size)
    (h : ∀ v' w', OwnT w' B v' (ss ++ ns) → w.grownBy w' v.ownBlock → (v'.ownBlock = v.ownBlock ∨ v'.ownBlock = some w.heap.size) → wpList Tryz.prog ops Q rest (a.put o.dst v') w') : wpList Tryz.prog ops Q (o :: rest) a w := by
  obtain ⟨i0, hi, hz0, hz1, hz2⟩ := info_parts info_st
  refine wpList_app w hgd s x 23 ho B 9 i0 _ 16 Tryz.underlying23 hi hz0 hz1 hz2 rfl v (strV ss) hs hown A m c (strV ns) hx (by simpa [strV] using hm) hr (strV_one _) (by simp only [strV, List.length_map, maxLen]; omega) (by simp only [strV, List.length_map]; omega) hB ?_
  intro v' w' h1 h2 h3
  exact h v' w' (by simpa [OwnT, strV] using h1) h2 h3
theorem OwnT.form {w : World} {B : Nat} {v : Value} {ss : List ByteArray} (h : OwnT w B v ss) :
    ∃ A c, v = .slice A ss.length c ∧ ss.length ≤ c ∧ c ≤ maxLen ∧ RdT w A ss ∧ (∀ a, A = some a → B ≤ a.block ∧ a.block < w.heap.size ∧ a.off = 0 ∧ a.spot = none) := by
  obtain ⟨A, c, h1, h2, h3, h4, h5, _⟩ := Own.form h
  simp only [strV, List.length_map] at h1 h2
  exact ⟨A, c, h1, h2, h3, h4, h5⟩
end Go.Proofs.YtndjggabdajbfaaGreatDoor



/- What may be of colours, pens, cells, told by the program and by the reference; when two pens, two cells are equal. Conditions: the two tables stand. -/
namespace Go.Proofs.YtndjggabdajbfaaGreatDoor
open Go Go.RowKit

def CeD.pen (d : CeD) : Value := .agg #[.int .u32 d.fg, .int .u32 d.bg, .int .u8 d.at_, .int .u16 d.ln]
theorem beq_int (a b : Int) : (a == b) = decide (a = b) := by
  by_cases h : a = b
  · subst h; simp
  · rw [decide_eq_false h, beq_eq_false_iff_ne]; exact h
theorem fields_pen : Tryz.prog.underlying 41 = some (.struct (Tryz.prog.fieldsOf 41)) := by kernel_rfl
theorem fields_cell : Tryz.prog.underlying 43 = some (.struct (Tryz.prog.fieldsOf 43)) := by kernel_rfl
theorem held_pen : Tryz.prog.stoodInHeld 41 = false := by kernel_rfl
theorem held_cell : Tryz.prog.stoodInHeld 43 = false := by kernel_rfl
set_option maxRecDepth 100000 in
theorem run_penIn (a b : CeD) (d : Nat) (w : World) : (Op.equalIn (d + 2) 41 a.pen b.pen).run Tryz.prog w = .ok (penEq a b) w := by
  unfold CeD.pen penEq
  rw [run_equalIn_agg w _ _ _ _ fields_pen held_pen]
  rw [← beq_int, ← beq_int, ← beq_int, ← beq_int]
  obtain ⟨b1, e1⟩ : ∃ x, (a.fg == b.fg) = x := ⟨_, rfl⟩
  obtain ⟨b2, e2⟩ : ∃ x, (a.bg == b.bg) = x := ⟨_, rfl⟩
  obtain ⟨b3, e3⟩ : ∃ x, (a.at_ == b.at_) = x := ⟨_, rfl⟩
  obtain ⟨b4, e4⟩ : ∃ x, (a.ln == b.ln) = x := ⟨_, rfl⟩
  rw [e1, e2, e3, e4]
  cases b1 <;> cases b2 <;> cases b3 <;> cases b4 <;> simp [go_sem, e1, e2, e3, e4]
set_option maxRecDepth 100000 in
theorem run_penEq (a b : CeD) (w : World) : (binOp .eql 41 a.pen b.pen).run Tryz.prog w = .ok (.bool (penEq a b)) w := by
  have h := run_penIn a b 9998 w
  unfold CeD.pen at h ⊢
  rw [run_eql_struct, h]; rfl
theorem run_penNe (a b : CeD) (w : World) : (binOp .neq 41 a.pen b.pen).run Tryz.prog w = .ok (.bool (!penEq a b)) w := by
  have h := run_penIn a b 9998 w
  unfold CeD.pen at h ⊢
  rw [run_neq_struct, h]; rfl
/-- Two cells that are equal. -/
def cellEq (a b : CeD) : Bool := decide (a.r = b.r) && (decide (a.w = b.w) && penEq a b)
set_option maxRecDepth 100000 in
theorem run_cellIn (a b : CeD) (d : Nat) (w : World) : (Op.equalIn (d + 3) 43 a.val b.val).run Tryz.prog w = .ok (cellEq a b) w := by
  unfold CeD.val cellEq penEq
  rw [run_equalIn_agg w _ _ _ _ fields_cell held_cell]
  rw [← beq_int, ← beq_int, ← beq_int, ← beq_int, ← beq_int, ← beq_int]
  obtain ⟨b1, e1⟩ : ∃ x, (a.fg == b.fg) = x := ⟨_, rfl⟩
  obtain ⟨b2, e2⟩ : ∃ x, (a.bg == b.bg) = x := ⟨_, rfl⟩
  obtain ⟨b3, e3⟩ : ∃ x, (a.at_ == b.at_) = x := ⟨_, rfl⟩
  obtain ⟨b4, e4⟩ : ∃ x, (a.ln == b.ln) = x := ⟨_, rfl⟩
  obtain ⟨b5, e5⟩ : ∃ x, (a.r == b.r) = x := ⟨_, rfl⟩
  obtain ⟨b6, e6⟩ : ∃ x, (a.w == b.w) = x := ⟨_, rfl⟩
  rw [e1, e2, e3, e4, e5, e6]
  cases b5
  · simp [go_sem, e5]
  cases b6
  · simp [go_sem, e5, e6]
  cases b1 <;> cases b2 <;> cases b3 <;> cases b4 <;> simp [go_sem, e1, e2, e3, e4, e5, e6]
theorem run_cellEq (a b : CeD) (w : World) : (binOp .eql 43 a.val b.val).run Tryz.prog w = .ok (.bool (cellEq a b)) w := by
  have h := run_cellIn a b 9997 w
  unfold CeD.val at h ⊢
  rw [run_eql_struct, h]; rfl
theorem run_cellNe (a b : CeD) (w : World) : (binOp .neq 43 a.val b.val).run Tryz.prog w = .ok (.bool (!cellEq a b)) w := by
  have h := run_cellIn a b 9997 w
  unfold CeD.val at h ⊢
  rw [run_neq_struct, h]; rfl
set_option maxRecDepth 100000 in
theorem ColorMay_c (c : Int) (w : World) : Calls Tryz.prog 81 #[.int .u32 c] w fun e w' => e = .returned (.bool (colMay c)) ∧ w' = w := by
  unfold colMay
  obtain ⟨b1, e1⟩ : ∃ b, decide (c ≤ 256) = b := ⟨_, rfl⟩
  obtain ⟨b2, e2⟩ : ∃ b, decide (16777216 ≤ c) = b := ⟨_, rfl⟩
  obtain ⟨b3, e3⟩ : ∃ b, decide (c ≤ 33554431) = b := ⟨_, rfl⟩
  rw [e1, e2, e3]
  cases b1 <;> cases b2 <;> cases b3 <;>
  · go_enter Tryz.func81, Tryz.ntmps81
    go_wp2
    go_ret
    exact ⟨rfl, rfl⟩
set_option maxRecDepth 100000 in
theorem refColorMay_c (c : Int) (w : World) : Calls Tryz.prog 44 #[.int .u32 c] w fun e w' => e = .returned (.bool (colMay c)) ∧ w' = w := by
  have hcol : colMay c = (decide (c ≤ 256) || (decide (16777216 ≤ c) && decide (c < 33554432))) := by
    unfold colMay; rw [show decide (c ≤ 33554431) = decide (c < 33554432) from decide_eq_decide.2 (by omega)]
  rw [hcol]
  clear hcol
  obtain ⟨b1, e1⟩ : ∃ b, decide (c ≤ 256) = b := ⟨_, rfl⟩
  obtain ⟨b2, e2⟩ : ∃ b, decide (16777216 ≤ c) = b := ⟨_, rfl⟩
  obtain ⟨b3, e3⟩ : ∃ b, decide (c < 33554432) = b := ⟨_, rfl⟩
  rw [e1, e2, e3]
  cases b1 <;> cases b2 <;> cases b3 <;>
  · go_enter Tryz.func44, Tryz.ntmps44
    go_wp2
    go_ret
    exact ⟨rfl, rfl⟩
set_option maxRecDepth 100000 in
theorem penMay_c (d : CeD) (w : World) : Calls Tryz.prog 82 #[d.pen] w fun e w' => e = .returned (.bool (penMay d)) ∧ Below w.heap.size w w' := by
  unfold CeD.pen penMay
  obtain ⟨r, wd, fg, bg, at_, ln⟩ := d
  simp only
  have k0 : Below w.heap.size w (w.alloc (.cells #[.int .u32 fg, .int .u32 bg, .int .u8 at_, .int .u16 ln] 41)) := (Below.refl _ _).alloc (Nat.le_refl _) _
  obtain ⟨b1, e1⟩ : ∃ b, colMay fg = b := ⟨_, rfl⟩
  obtain ⟨b2, e2⟩ : ∃ b, colMay bg = b := ⟨_, rfl⟩
  rw [e1, e2]
  cases b1 <;> cases b2 <;>
  · go_enter Tryz.func82, Tryz.ntmps82
    go_wp2_with (go_at_call 81; refine (ColorMay_c _ _).mono ?_; rintro _ _ ⟨rfl, rfl⟩)
    go_ret
    exact ⟨rfl, k0⟩
set_option maxRecDepth 100000 in
theorem refPenMay_c (d : CeD) (w : World) : Calls Tryz.prog 68 #[d.pen] w fun e w' => e = .returned (.bool (penMay d)) ∧ Below w.heap.size w w' := by
  unfold CeD.pen penMay
  obtain ⟨r, wd, fg, bg, at_, ln⟩ := d
  simp only
  have k0 : Below w.heap.size w (w.alloc (.cells #[.int .u32 fg, .int .u32 bg, .int .u8 at_, .int .u16 ln] 41)) := (Below.refl _ _).alloc (Nat.le_refl _) _
  obtain ⟨b1, e1⟩ : ∃ b, colMay fg = b := ⟨_, rfl⟩
  obtain ⟨b2, e2⟩ : ∃ b, colMay bg = b := ⟨_, rfl⟩
  rw [e1, e2]
  cases b1 <;> cases b2 <;>
  · go_enter Tryz.func68, Tryz.ntmps68
    go_wp2_with (go_at_call 44; refine (refColorMay_c _ _).mono ?_; rintro _ _ ⟨rfl, rfl⟩)
    go_ret
    exact ⟨rfl, k0⟩

/-! ### Cells -/
set_option maxRecDepth 100000 in
set_option maxHeartbeats 4000000 in
theorem May_c (d : CeD) (w : World) (hT : TabU w) : Calls Tryz.prog 62 #[d.val] w fun e w' => e = .returned (.bool (mayC d)) ∧ Below w.heap.size w w' := by
  have hpm : ∀ w', Calls Tryz.prog 82 #[.agg #[.int .u32 d.fg, .int .u32 d.bg, .int .u8 d.at_, .int .u16 d.ln]] w' fun e w'' => e = .returned (.bool (penMay d)) ∧ Below w'.heap.size w' w'' := fun w' => penMay_c d w'
  obtain ⟨V, eV⟩ : ∃ V, mayC d = V := ⟨_, rfl⟩
  rw [eV]
  unfold CeD.val
  obtain ⟨P, eP⟩ : ∃ P, penMay d = P := ⟨_, rfl⟩
  have EV : Hid (V = (P && ((decide (d.w = 0) && decide (widI d.r = 1)) || (decide (d.w = 1) && decide (widI d.r = 2)) || (decide (d.w = 2) && decide (d.r = 0))))) := Lib.hid (by rw [← eV, mayC, eP])
  rw [eP] at hpm
  have HPM := Lib.hid hpm
  obtain ⟨r, wd, fg, bg, at_, ln⟩ := d
  simp only at EV HPM ⊢
  have k0 : Below w.heap.size w (w.alloc (.cells #[.int .i32 r, .int .u8 wd, .int .u32 fg, .int .u32 bg, .int .u8 at_, .int .u16 ln] 43)) := (Below.refl _ _).alloc (Nat.le_refl _) _
  have HT := Lib.hid hT
  clear hpm eP eV hT
  cases P
  · have hV : V = false := by rw [EV.out]; rfl
    have HV := Lib.hid hV; clear hV
    go_enter Tryz.func62, Tryz.ntmps62
    go_wp2_with (go_at_call 82; refine (HPM.out _).mono ?_; rintro _ w1 ⟨rfl, hb1⟩)
    go_ret
    exact ⟨by rw [HV.out] <;> rfl, k0.trans (hb1.mono k0.size)⟩
  have d0 : ∀ x : Int, wd ≠ x → (wd == x) = false := fun x h => by rw [beq_eq_false_iff_ne]; exact h
  rcases (show wd = 0 ∨ wd = 1 ∨ (wd ≠ 0 ∧ wd ≠ 1) by omega) with h0 | h0 | h0
  · have e0 : (wd == 0) = true := by rw [h0]; rfl
    obtain ⟨N, eN⟩ : ∃ N, widI r = N := ⟨_, rfl⟩
    have hV : V = (N == 1) := by rw [EV.out, eN, h0, beq_int]; simp
    have HV := Lib.hid hV
    have EN := Lib.hid eN
    clear hV eN h0 d0
    go_enter Tryz.func62, Tryz.ntmps62
    go_wp2_with (first | (go_at_call 82; refine (HPM.out _).mono ?_; rintro _ w1 ⟨rfl, hb1⟩; have k1 := k0.trans (hb1.mono k0.size); have hr0 : w1.cell? ⟨w.heap.size, 0, none⟩ = some (.int .i32 r) := (hb1.cell (p := ⟨w.heap.size, 0, none⟩) (by simp)).trans (by simp [go_sem]); have hr1 : w1.cell? ⟨w.heap.size, 1, none⟩ = some (.int .u8 wd) := (hb1.cell (p := ⟨w.heap.size, 1, none⟩) (by simp)).trans (by simp [go_sem]); clear hb1) | (go_at_call 55; refine (Width_c _ _ (HT.out.next k1)).mono ?_; rintro _ w2 ⟨rfl, hb2⟩; rw [EN.out]))
    go_ret
    exact ⟨by rw [HV.out] <;> rfl, k1.trans (hb2.mono k1.size)⟩
  · have e0 : (wd == 1) = true := by rw [h0]; rfl
    have e9 := d0 0 (by omega)
    obtain ⟨N, eN⟩ : ∃ N, widI r = N := ⟨_, rfl⟩
    have hV : V = (N == 2) := by rw [EV.out, eN, h0, beq_int]; simp
    have HV := Lib.hid hV
    have EN := Lib.hid eN
    clear hV eN h0 d0
    go_enter Tryz.func62, Tryz.ntmps62
    go_wp2_with (first | (go_at_call 82; refine (HPM.out _).mono ?_; rintro _ w1 ⟨rfl, hb1⟩; have k1 := k0.trans (hb1.mono k0.size); have hr0 : w1.cell? ⟨w.heap.size, 0, none⟩ = some (.int .i32 r) := (hb1.cell (p := ⟨w.heap.size, 0, none⟩) (by simp)).trans (by simp [go_sem]); have hr1 : w1.cell? ⟨w.heap.size, 1, none⟩ = some (.int .u8 wd) := (hb1.cell (p := ⟨w.heap.size, 1, none⟩) (by simp)).trans (by simp [go_sem]); clear hb1) | (go_at_call 55; refine (Width_c _ _ (HT.out.next k1)).mono ?_; rintro _ w2 ⟨rfl, hb2⟩; rw [EN.out]))
    go_ret
    exact ⟨by rw [HV.out] <;> rfl, k1.trans (hb2.mono k1.size)⟩
  · have e0 := d0 0 h0.1
    have e1 := d0 1 h0.2
    obtain ⟨b2, e2⟩ : ∃ b, (wd == 2) = b := ⟨_, rfl⟩
    obtain ⟨b3, e3⟩ : ∃ b, (r == 0) = b := ⟨_, rfl⟩
    have hV : V = (b2 && b3) := by
      rw [EV.out, ← e2, ← e3, beq_int, beq_int, decide_eq_false h0.1, decide_eq_false h0.2]; simp
    have HV := Lib.hid hV
    clear hV h0 d0
    cases b2 <;> cases b3 <;>
    · go_enter Tryz.func62, Tryz.ntmps62
      go_wp2_with ((go_at_call 82; refine (HPM.out _).mono ?_; rintro _ w1 ⟨rfl, hb1⟩; have k1 := k0.trans (hb1.mono k0.size); have hr0 : w1.cell? ⟨w.heap.size, 0, none⟩ = some (.int .i32 r) := (hb1.cell (p := ⟨w.heap.size, 0, none⟩) (by simp)).trans (by simp [go_sem]); have hr1 : w1.cell? ⟨w.heap.size, 1, none⟩ = some (.int .u8 wd) := (hb1.cell (p := ⟨w.heap.size, 1, none⟩) (by simp)).trans (by simp [go_sem]); clear hb1))
      go_ret
      exact ⟨by rw [HV.out] <;> rfl, k1⟩
set_option maxRecDepth 100000 in
set_option maxHeartbeats 4000000 in
theorem refMayC_c (d : CeD) (w : World) : Calls Tryz.prog 45 #[d.val] w fun e w' => e = .returned (.bool (mayC d)) ∧ Below w.heap.size w w' := by
  have hpm : ∀ w', Calls Tryz.prog 68 #[.agg #[.int .u32 d.fg, .int .u32 d.bg, .int .u8 d.at_, .int .u16 d.ln]] w' fun e w'' => e = .returned (.bool (penMay d)) ∧ Below w'.heap.size w' w'' := fun w' => refPenMay_c d w'
  obtain ⟨V, eV⟩ : ∃ V, mayC d = V := ⟨_, rfl⟩
  rw [eV]
  unfold CeD.val
  obtain ⟨P, eP⟩ : ∃ P, penMay d = P := ⟨_, rfl⟩
  have EV : Hid (V = (P && ((decide (d.w = 0) && decide (widI d.r = 1)) || (decide (d.w = 1) && decide (widI d.r = 2)) || (decide (d.w = 2) && decide (d.r = 0))))) := Lib.hid (by rw [← eV, mayC, eP])
  rw [eP] at hpm
  have HPM := Lib.hid hpm
  obtain ⟨r, wd, fg, bg, at_, ln⟩ := d
  simp only at EV HPM ⊢
  have k0 : Below w.heap.size w (w.alloc (.cells #[.int .i32 r, .int .u8 wd, .int .u32 fg, .int .u32 bg, .int .u8 at_, .int .u16 ln] 43)) := (Below.refl _ _).alloc (Nat.le_refl _) _
  clear hpm eP eV
  obtain ⟨N, eN⟩ : ∃ N, widI r = N := ⟨_, rfl⟩
  have EN := Lib.hid eN
  clear eN
  cases P
  · have hV : V = false := by rw [EV.out]; rfl
    have HV := Lib.hid hV; clear hV
    go_enter Tryz.func45, Tryz.ntmps45
    go_wp2_with (first | (go_at_call 68; refine (HPM.out _).mono ?_; rintro _ w1 ⟨rfl, hb1⟩; have k1 := k0.trans (hb1.mono k0.size); have hr0 : w1.cell? ⟨w.heap.size, 0, none⟩ = some (.int .i32 r) := (hb1.cell (p := ⟨w.heap.size, 0, none⟩) (by simp)).trans (by simp [go_sem]); have hr1 : w1.cell? ⟨w.heap.size, 1, none⟩ = some (.int .u8 wd) := (hb1.cell (p := ⟨w.heap.size, 1, none⟩) (by simp)).trans (by simp [go_sem]); clear hb1) | (go_at_call 67; refine (refWidth_c _ _).mono ?_; rintro _ _ ⟨rfl, rfl⟩; rw [EN.out]))
    go_ret
    exact ⟨by rw [HV.out] <;> rfl, k1⟩
  have d0 : ∀ x : Int, wd ≠ x → (wd == x) = false := fun x h => by rw [beq_eq_false_iff_ne]; exact h
  rcases (show wd = 0 ∨ wd = 1 ∨ (wd ≠ 0 ∧ wd ≠ 1) by omega) with h0 | h0 | h0
  · have e0 : (wd == 0) = true := by rw [h0]; rfl
    have e1 := d0 1 (by omega)
    have e2 := d0 2 (by omega)
    obtain ⟨b3, e3⟩ : ∃ b, (N == 1) = b := ⟨_, rfl⟩
    have hV : V = b3 := by rw [EV.out, EN.out, h0, ← e3, beq_int]; simp
    have HV := Lib.hid hV
    clear hV h0 d0
    cases b3 <;>
    · go_enter Tryz.func45, Tryz.ntmps45
      go_wp2_with (first | (go_at_call 68; refine (HPM.out _).mono ?_; rintro _ w1 ⟨rfl, hb1⟩; have k1 := k0.trans (hb1.mono k0.size); have hr0 : w1.cell? ⟨w.heap.size, 0, none⟩ = some (.int .i32 r) := (hb1.cell (p := ⟨w.heap.size, 0, none⟩) (by simp)).trans (by simp [go_sem]); have hr1 : w1.cell? ⟨w.heap.size, 1, none⟩ = some (.int .u8 wd) := (hb1.cell (p := ⟨w.heap.size, 1, none⟩) (by simp)).trans (by simp [go_sem]); clear hb1) | (go_at_call 67; refine (refWidth_c _ _).mono ?_; rintro _ _ ⟨rfl, rfl⟩; rw [EN.out]))
      go_ret
      exact ⟨by rw [HV.out] <;> rfl, k1⟩
  · have e0 : (wd == 1) = true := by rw [h0]; rfl
    have e1 := d0 0 (by omega)
    have e2 := d0 2 (by omega)
    obtain ⟨b3, e3⟩ : ∃ b, (N == 2) = b := ⟨_, rfl⟩
    have hV : V = b3 := by rw [EV.out, EN.out, h0, ← e3, beq_int]; simp
    have HV := Lib.hid hV
    clear hV h0 d0
    cases b3 <;>
    · go_enter Tryz.func45, Tryz.ntmps45
      go_wp2_with (first | (go_at_call 68; refine (HPM.out _).mono ?_; rintro _ w1 ⟨rfl, hb1⟩; have k1 := k0.trans (hb1.mono k0.size); have hr0 : w1.cell? ⟨w.heap.size, 0, none⟩ = some (.int .i32 r) := (hb1.cell (p := ⟨w.heap.size, 0, none⟩) (by simp)).trans (by simp [go_sem]); have hr1 : w1.cell? ⟨w.heap.size, 1, none⟩ = some (.int .u8 wd) := (hb1.cell (p := ⟨w.heap.size, 1, none⟩) (by simp)).trans (by simp [go_sem]); clear hb1) | (go_at_call 67; refine (refWidth_c _ _).mono ?_; rintro _ _ ⟨rfl, rfl⟩; rw [EN.out]))
      go_ret
      exact ⟨by rw [HV.out] <;> rfl, k1⟩
  · have e0 := d0 0 h0.1
    have e1 := d0 1 h0.2
    obtain ⟨b2, e2⟩ : ∃ b, (wd == 2) = b := ⟨_, rfl⟩
    obtain ⟨b3, e3⟩ : ∃ b, (r == 0) = b := ⟨_, rfl⟩
    have hV : V = (b2 && b3) := by
      rw [EV.out, ← e2, ← e3, beq_int, beq_int, decide_eq_false h0.1, decide_eq_false h0.2]; simp
    have HV := Lib.hid hV
    clear hV h0 d0
    cases b2 <;> cases b3 <;>
    · go_enter Tryz.func45, Tryz.ntmps45
      go_wp2_with (first | (go_at_call 68; refine (HPM.out _).mono ?_; rintro _ w1 ⟨rfl, hb1⟩; have k1 := k0.trans (hb1.mono k0.size); have hr0 : w1.cell? ⟨w.heap.size, 0, none⟩ = some (.int .i32 r) := (hb1.cell (p := ⟨w.heap.size, 0, none⟩) (by simp)).trans (by simp [go_sem]); have hr1 : w1.cell? ⟨w.heap.size, 1, none⟩ = some (.int .u8 wd) := (hb1.cell (p := ⟨w.heap.size, 1, none⟩) (by simp)).trans (by simp [go_sem]); clear hb1) | (go_at_call 67; refine (refWidth_c _ _).mono ?_; rintro _ _ ⟨rfl, rfl⟩; rw [EN.out]))
      go_ret
      exact ⟨by rw [HV.out] <;> rfl, k1⟩
end Go.Proofs.YtndjggabdajbfaaGreatDoor


