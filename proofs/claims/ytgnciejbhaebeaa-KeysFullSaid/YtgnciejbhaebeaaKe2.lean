/- Events in memory: rows of five cells each, with their texts; which blocks they lie in; what stays. Conditions: none. -/
import Derived.Test.YtgnciejbhaebeaaKe0
import Derived.Test.YtgnciejbhaebeaaHp
import Derived.Laws.OwnMore
namespace Go.Proofs.Ytgnciejbhaebeaa
open Go Go.RowKit

/-! ### What stays outside a set of blocks -/
structure Keeps (S : Nat → Prop) (w w' : World) : Prop where
  os : w'.os = w.os
  tape : w'.tape = w.tape
  output : w'.output = w.output
  size : w.heap.size ≤ w'.heap.size
  block : ∀ k, k < w.heap.size → ¬ S k → w'.heap[k]? = w.heap[k]?
theorem Keeps.refl (S : Nat → Prop) (w : World) : Keeps S w w := ⟨rfl, rfl, rfl, Nat.le_refl _, fun _ _ _ => rfl⟩
theorem Keeps.trans {S : Nat → Prop} {a b c : World} (h : Keeps S a b) (k : Keeps S b c) : Keeps S a c :=
  ⟨k.os.trans h.os, k.tape.trans h.tape, k.output.trans h.output, Nat.le_trans h.size k.size, fun i hi hs => (k.block i (Nat.lt_of_lt_of_le hi h.size) hs).trans (h.block i hi hs)⟩
theorem Keeps.of_below {B : Nat} {w w' : World} (h : Below B w w') (S : Nat → Prop) (hS : ∀ k, k < w.heap.size → ¬ S k → k < B) : Keeps S w w' :=
  ⟨h.os, h.tape, h.output, h.size, fun k hk hs => h.block k (hS k hk hs)⟩
theorem Keeps.below {B : Nat} {S : Nat → Prop} {w w' : World} (h : Keeps S w w') (hS : ∀ k, k < B → k < w.heap.size ∧ ¬ S k) : Below B w w' :=
  ⟨h.os, h.tape, h.output, h.size, fun k hk => h.block k (hS k hk).1 (hS k hk).2⟩
theorem Keeps.of_grown {r : Option Nat} {w w' : World} (h : w.grownBy w' r) (S : Nat → Prop) (hS : ∀ k, r = some k → S k) : Keeps S w w' :=
  ⟨h.os, h.tape, h.output, h.size, fun k hk hs => h.block k hk (fun e => hs (hS k e.symm))⟩
theorem Keeps.mono {S T : Nat → Prop} {w w' : World} (h : Keeps S w w') (hS : ∀ k, S k → T k) : Keeps T w w' :=
  ⟨h.os, h.tape, h.output, h.size, fun k hk hs => h.block k hk (fun e => hs (hS k e))⟩
theorem Keeps.set (S : Nat → Prop) (w : World) (p : Addr) (u : Value) (h : S p.block) : Keeps S w (w.setCell p u) :=
  ⟨rfl, rfl, rfl, by simp [World.setCell], fun k _ hs => heap_far u (fun e => hs (e ▸ h))⟩
theorem Keeps.drewN {S : Nat → Prop} {w w' : World} (h : Keeps S w w') (n : Nat) : Keeps S w (w'.drewN n) := ⟨h.os, h.tape, h.output, h.size, h.block⟩
theorem Keeps.alloc {S : Nat → Prop} {w w' : World} (h : Keeps S w w') (o : Obj) : Keeps S w (w'.alloc o) :=
  ⟨h.os, h.tape, h.output, Nat.le_trans h.size (by simp), fun k hk hs => (Below.heap_alloc w' o k (Nat.lt_of_lt_of_le hk h.size)).trans (h.block k hk hs)⟩

/-! ### The cells of a row -/
def cellsV (ds : List EvV) : List Value := ds.flatMap EvV.cells
theorem cellsV_cons (d : EvV) (ds : List EvV) : cellsV (d :: ds) = d.cells ++ cellsV ds := rfl
theorem cellsV_append (a b : List EvV) : cellsV (a ++ b) = cellsV a ++ cellsV b := by simp [cellsV]
theorem cellsV_length (ds : List EvV) : (cellsV ds).length = ds.length * 5 := by
  induction ds with
  | nil => rfl
  | cons d ds ih => rw [cellsV_cons, List.length_append, ih]; simp [EvV.cells]; omega
theorem cellsV_get : ∀ (ds : List EvV) (i : Nat) (h : i < ds.length) (j : Nat), j < 5 → (cellsV ds)[i * 5 + j]? = (ds[i].cells)[j]?
  | d :: ds, 0, _, j, hj => by
    rw [cellsV_cons, Nat.zero_mul, Nat.zero_add, List.getElem?_append_left (by simpa [EvV.cells] using hj)]
    rfl
  | d :: ds, i + 1, h, j, hj => by
    rw [cellsV_cons, List.getElem?_append_right (by simp [EvV.cells]; omega)]
    have e : (i + 1) * 5 + j - d.cells.length = i * 5 + j := by simp [EvV.cells]; omega
    rw [e, cellsV_get ds i (by simpa using h) j hj]
    rfl
theorem cellsV_one (ds : List EvV) : ∀ u ∈ cellsV ds, u.oneCell' = true := by
  intro u hu
  obtain ⟨d, _, h⟩ := List.mem_flatMap.1 hu
  simp only [EvV.cells, List.mem_cons, List.not_mem_nil, or_false] at h
  rcases h with rfl | rfl | rfl | rfl | rfl <;> rfl
def EvV.txt (d : EvV) (A : Option Addr) (n c : Nat) : EvV := ⟨d.k, A, n, c, d.x, d.y, d.b⟩
def EvV.x' (d : EvV) (x : Int) : EvV := ⟨d.k, d.A, d.n, d.c, x, d.y, d.b⟩
theorem cellsV_txt : ∀ (ds : List EvV) (i : Nat) (h : i < ds.length) (A : Option Addr) (n c : Nat), (cellsV ds).set (i * 5 + 1) (.slice A n c) = cellsV (ds.set i (ds[i].txt A n c))
  | d :: ds, 0, _, A, n, c => rfl
  | d :: ds, i + 1, h, A, n, c => by
    rw [cellsV_cons, List.set_append_right _ _ (by simp [EvV.cells]; omega)]
    have e : (i + 1) * 5 + 1 - d.cells.length = i * 5 + 1 := by simp [EvV.cells]; omega
    rw [e, cellsV_txt ds i (by simpa using h)]
    rfl
theorem cellsV_x : ∀ (ds : List EvV) (i : Nat) (h : i < ds.length) (x : Int), (cellsV ds).set (i * 5 + 2) (.int .i64 x) = cellsV (ds.set i (ds[i].x' x))
  | d :: ds, 0, _, x => rfl
  | d :: ds, i + 1, h, x => by
    rw [cellsV_cons, List.set_append_right _ _ (by simp [EvV.cells]; omega)]
    have e : (i + 1) * 5 + 2 - d.cells.length = i * 5 + 2 := by simp [EvV.cells]; omega
    rw [e, cellsV_x ds i (by simpa using h)]
    rfl
theorem cellsV_all : ∀ (ds : List EvV) (i : Nat) (_ : i < ds.length) (d' : EvV),
    (((((cellsV ds).set (i * 5) (.int .i64 d'.k)).set (i * 5 + 1) (.slice d'.A d'.n d'.c)).set (i * 5 + 2) (.int .i64 d'.x)).set (i * 5 + 3) (.int .i64 d'.y)).set (i * 5 + 4) (.int .i64 d'.b) = cellsV (ds.set i d')
  | d :: ds, 0, _, d' => rfl
  | d :: ds, i + 1, h, d' => by
    have ih := cellsV_all ds i (by simpa using h) d'
    have e : ∀ j, (i + 1) * 5 + j - d.cells.length = i * 5 + j := by intro j; simp [EvV.cells]; omega
    have e0 : (i + 1) * 5 - d.cells.length = i * 5 := e 0
    rw [cellsV_cons, List.set_append_right _ _ (by simp [EvV.cells]; omega), List.set_append_right _ _ (by simp [EvV.cells]; omega), List.set_append_right _ _ (by simp [EvV.cells]; omega), List.set_append_right _ _ (by simp [EvV.cells]; omega), List.set_append_right _ _ (by simp [EvV.cells]; omega), e0, e 1, e 2, e 3, e 4, ih]
    rfl

/-! ### Texts -/
/-- Bytes to be read, in blocks of a kind. -/
def TxtR (ok : Nat → Prop) (w : World) (A : Option Addr) (n c : Nat) (bs : List UInt8) : Prop :=
  bs.length = n ∧ Rd w A (bs.map bv) ∧ n ≤ c ∧ c ≤ maxLen ∧ (0 < n → ∀ a, A = some a → ok a.block) ∧ n ≤ 140737488355328
/-- Bytes of one's own. -/
def TxtO (ok : Nat → Prop) (w : World) (A : Option Addr) (n c : Nat) (bs : List UInt8) : Prop :=
  bs.length = n ∧ OwnB w 0 (.slice A n c) bs ∧ (∀ a, A = some a → ok a.block) ∧ n ≤ 140737488355328
section
variable {ok ok' : Nat → Prop} {w w' : World} {A : Option Addr} {n c : Nat} {bs : List UInt8}
theorem TxtO.r (h : TxtO ok w A n c bs) : TxtR ok w A n c bs := by
  obtain ⟨h1, h2, h3, h4⟩ := h
  obtain ⟨A', c', e, q1, q2, q3, _⟩ := OwnB.form h2
  injection e with e1 e2 e3
  subst e1 e3 e2
  exact ⟨rfl, q3, q1, q2, fun _ => h3, h4⟩
theorem TxtO.lt (h : TxtO ok w A n c bs) : ∀ a, A = some a → a.block < w.heap.size := by
  intro a e
  subst e
  exact (Own.lt h.2.1 a.block rfl).2
theorem TxtR.frame (h : TxtR ok w A n c bs) (hk : ∀ k, ok k → k < w.heap.size → w'.heap[k]? = w.heap[k]?) (hs : w.heap.size ≤ w'.heap.size) : TxtR ok w' A n c bs := by
  obtain ⟨h1, h2, h3, h4, h5, h6⟩ := h
  refine ⟨h1, ?_, h3, h4, h5, h6⟩
  rcases h2 with h2 | ⟨b, off, rfl, hb, hc⟩
  · exact .inl h2
  · rcases Nat.eq_zero_or_pos n with h0 | h0
    · left
      have : bs = [] := List.eq_nil_of_length_eq_zero (by omega)
      rw [this]; rfl
    · exact Rd.of_blocks (.inr ⟨b, off, rfl, hb, hc⟩) (fun k hk' ⟨o, e⟩ => by
        injection e with e; injection e with e
        subst e
        exact hk b (h5 h0 _ rfl) hk') hs
theorem Own.frameK {B : Nat} {e : TypeId} {s k : Nat} {v : Value} {vs : List Value} (h : w.ownsRow B e s v k vs) (hk : ∀ g, v.ownBlock = some g → w'.heap[g]? = w.heap[g]?) : w'.ownsRow B e s v k vs := by
  refine ⟨h.1, ?_⟩
  rcases h.2 with h2 | ⟨g, cap, cur, rfl, hb, hg, r⟩
  · exact .inl h2
  · exact .inr ⟨g, cap, cur, rfl, hb, (hk g rfl).trans hg, r⟩
theorem TxtO.frame (h : TxtO ok w A n c bs) (hk : ∀ k, ok k → k < w.heap.size → w'.heap[k]? = w.heap[k]?) : TxtO ok w' A n c bs := by
  have hl := h.lt
  obtain ⟨h1, h2, h3, h4⟩ := h
  refine ⟨h1, Own.frameK h2 (fun g e => ?_), h3, h4⟩
  cases A with
  | none => cases e
  | some a =>
    injection e with e
    subst e
    exact hk _ (h3 a rfl) (hl a rfl)
theorem TxtR.weak (h : TxtR ok w A n c bs) (hk : ∀ k, ok k → k < w.heap.size → ok' k) : TxtR ok' w A n c bs := by
  obtain ⟨h1, h2, h3, h4, h5, h6⟩ := h
  refine ⟨h1, h2, h3, h4, fun h0 a e => hk _ (h5 h0 a e) ?_, h6⟩
  rcases h2 with h2 | ⟨b, off, rfl, hb, hc⟩
  · have : bs = [] := by simpa using h2
    subst this
    simp at h1; omega
  · injection e with e; subst e; exact hb
theorem TxtO.weak (h : TxtO ok w A n c bs) (hk : ∀ k, ok k → k < w.heap.size → ok' k) : TxtO ok' w A n c bs :=
  ⟨h.1, h.2.1, fun a e => hk _ (h.2.2.1 a e) (h.lt a e), h.2.2.2⟩
end

/-! ### Events -/
def EvR (ok : Nat → Prop) (w : World) (d : EvV) (e : Ev) : Prop := d.k = e.k ∧ d.x = e.x ∧ d.y = e.y ∧ d.b = e.b ∧ TxtR ok w d.A d.n d.c e.t
def EvO (ok : Nat → Prop) (w : World) (d : EvV) (e : Ev) : Prop := d.k = e.k ∧ d.x = e.x ∧ d.y = e.y ∧ d.b = e.b ∧ TxtO ok w d.A d.n d.c e.t
def OwnV (w : World) (B : Nat) (v : Value) (ds : List EvV) : Prop := w.ownsRow B 36 5 v ds.length (cellsV ds)
/-- Events to be read at an address. -/
structure EvsR (ok : Nat → Prop) (w : World) (A : Option Addr) (ds : List EvV) (es : List Ev) : Prop where
  len : ds.length = es.length
  row : Rd w A (cellsV ds)
  ok_ : 0 < ds.length → ∀ a, A = some a → ok a.block
  each : ∀ i (h1 : i < ds.length) (h2 : i < es.length), EvR ok w ds[i] es[i]
/-- Events of one's own. -/
structure EvsO (ok : Nat → Prop) (w : World) (v : Value) (ds : List EvV) (es : List Ev) : Prop where
  len : ds.length = es.length
  row : OwnV w 0 v ds
  ok_ : ∀ k, v.ownBlock = some k → ok k
  each : ∀ i (h1 : i < ds.length) (h2 : i < es.length), EvO ok w ds[i] es[i]
section
variable {ok ok' : Nat → Prop} {w w' : World} {A : Option Addr} {v : Value} {d : EvV} {e : Ev} {ds : List EvV} {es : List Ev}
theorem EvO.r (h : EvO ok w d e) : EvR ok w d e := ⟨h.1, h.2.1, h.2.2.1, h.2.2.2.1, h.2.2.2.2.r⟩
theorem EvR.frame (h : EvR ok w d e) (hk : ∀ k, ok k → k < w.heap.size → w'.heap[k]? = w.heap[k]?) (hs : w.heap.size ≤ w'.heap.size) : EvR ok w' d e := ⟨h.1, h.2.1, h.2.2.1, h.2.2.2.1, h.2.2.2.2.frame hk hs⟩
theorem EvO.frame (h : EvO ok w d e) (hk : ∀ k, ok k → k < w.heap.size → w'.heap[k]? = w.heap[k]?) : EvO ok w' d e := ⟨h.1, h.2.1, h.2.2.1, h.2.2.2.1, h.2.2.2.2.frame hk⟩
theorem EvR.weak (h : EvR ok w d e) (hk : ∀ k, ok k → k < w.heap.size → ok' k) : EvR ok' w d e := ⟨h.1, h.2.1, h.2.2.1, h.2.2.2.1, h.2.2.2.2.weak hk⟩
theorem EvO.weak (h : EvO ok w d e) (hk : ∀ k, ok k → k < w.heap.size → ok' k) : EvO ok' w d e := ⟨h.1, h.2.1, h.2.2.1, h.2.2.2.1, h.2.2.2.2.weak hk⟩
theorem EvsR.frame (h : EvsR ok w A ds es) (hk : ∀ k, ok k → k < w.heap.size → w'.heap[k]? = w.heap[k]?) (hs : w.heap.size ≤ w'.heap.size) : EvsR ok w' A ds es := by
  refine ⟨h.len, ?_, h.ok_, fun i h1 h2 => (h.each i h1 h2).frame hk hs⟩
  rcases h.row with h2 | ⟨b, off, rfl, hb, hc⟩
  · exact .inl h2
  · rcases Nat.eq_zero_or_pos ds.length with h0 | h0
    · left
      have : ds = [] := List.eq_nil_of_length_eq_zero h0
      rw [this]; rfl
    · exact Rd.of_blocks (.inr ⟨b, off, rfl, hb, hc⟩) (fun k hk' ⟨o, e⟩ => by
        injection e with e; injection e with e
        subst e
        exact hk b (h.ok_ h0 _ rfl) hk') hs
theorem EvsR.weak (h : EvsR ok w A ds es) (hk : ∀ k, ok k → k < w.heap.size → ok' k) : EvsR ok' w A ds es := by
  refine ⟨h.len, h.row, fun h0 a e => hk _ (h.ok_ h0 a e) ?_, fun i h1 h2 => (h.each i h1 h2).weak hk⟩
  rcases h.row with h2 | ⟨b, off, rfl, hb, hc⟩
  · have := congrArg List.length h2
    rw [cellsV_length] at this
    simp at this; omega
  · injection e with e; subst e; exact hb
theorem EvsO.lt (h : EvsO ok w v ds es) : ∀ k, v.ownBlock = some k → k < w.heap.size := fun k e => (World.ownsRow.lt h.row k e).2
theorem EvsO.frame (h : EvsO ok w v ds es) (hk : ∀ k, ok k → k < w.heap.size → w'.heap[k]? = w.heap[k]?) : EvsO ok w' v ds es :=
  ⟨h.len, Own.frameK h.row (fun g e => hk g (h.ok_ g e) (h.lt g e)), h.ok_, fun i h1 h2 => (h.each i h1 h2).frame hk⟩
theorem EvsO.weak (h : EvsO ok w v ds es) (hk : ∀ k, ok k → k < w.heap.size → ok' k) : EvsO ok' w v ds es :=
  ⟨h.len, h.row, fun k e => hk k (h.ok_ k e) (h.lt k e), fun i h1 h2 => (h.each i h1 h2).weak hk⟩
theorem EvsR.below (h : EvsR ok w A ds es) (hb : Below w.heap.size w w') : EvsR ok w' A ds es := h.frame (fun k _ hk => hb.block k hk) hb.size
theorem EvsO.below (h : EvsO ok w v ds es) (hb : Below w.heap.size w w') : EvsO ok w' v ds es := h.frame (fun k _ hk => hb.block k hk)
theorem OwnV.form {B : Nat} (h : OwnV w B v ds) : ∃ A c, v = .slice A ds.length c ∧ ds.length ≤ c ∧ c ≤ maxLen ∧ Rd w A (cellsV ds) ∧ (∀ a, A = some a → B ≤ a.block ∧ a.block < w.heap.size ∧ a.off = 0 ∧ a.spot = none) ∧ (A = none → c = 0) := by
  obtain ⟨hl, h2⟩ := h
  rcases h2 with ⟨rfl, h0⟩ | ⟨g, cap, cur, rfl, hb, hg, hn, hm, hcs, ht⟩
  · obtain rfl : ds = [] := List.eq_nil_of_length_eq_zero h0
    exact ⟨none, 0, rfl, Nat.le_refl _, Nat.zero_le _, .inl rfl, fun a ha => by (cases ha), fun _ => rfl⟩
  · refine ⟨some ⟨g, 0, none⟩, cap, rfl, hn, hm, .inr ⟨g, 0, rfl, (Array.getElem?_eq_some_iff.1 hg).1, fun k hk => ?_⟩, fun a ha => ?_, fun ha => by (cases ha)⟩
    · rw [Nat.zero_add, cell_of_row w g k cur _ (0, 0) hg]
      have h1 : (cellsV ds)[k]? = some (cellsV ds)[k] := List.getElem?_eq_getElem hk
      rw [← h1]
      conv => rhs; rw [← ht]
      rw [List.getElem?_take, if_pos (by omega)]
      simp
    · injection ha with ha; subst ha; exact ⟨hb, (Array.getElem?_eq_some_iff.1 hg).1, rfl, rfl⟩
theorem EvsO.form (h : EvsO ok w v ds es) : ∃ A c, v = .slice A es.length c ∧ es.length ≤ c ∧ c ≤ maxLen ∧ EvsR ok w A ds es := by
  obtain ⟨A, c, e, h1, h2, h3, h4, _⟩ := OwnV.form h.row
  rw [h.len] at e h1
  refine ⟨A, c, e, h1, h2, ⟨h.len, h3, fun _ a ha => h.ok_ _ ?_, fun i g1 g2 => (h.each i g1 g2).r⟩⟩
  rw [e, ha]; rfl
/-- The five cells of an event. -/
theorem EvsR.five (h : EvsR ok w A ds es) (h0 : 0 < es.length) : ∃ b off, A = some ⟨b, off, none⟩ ∧ b < w.heap.size ∧ ok b ∧ ∀ i (h : i < ds.length),
    w.cell? ⟨b, off + i * 5, none⟩ = some (.int .i64 ds[i].k) ∧ w.cell? ⟨b, off + i * 5 + 1, none⟩ = some (.slice ds[i].A ds[i].n ds[i].c) ∧ w.cell? ⟨b, off + i * 5 + 2, none⟩ = some (.int .i64 ds[i].x) ∧
    w.cell? ⟨b, off + i * 5 + 3, none⟩ = some (.int .i64 ds[i].y) ∧ w.cell? ⟨b, off + i * 5 + 4, none⟩ = some (.int .i64 ds[i].b) := by
  have hl := h.len
  have hd : 0 < ds.length := by omega
  obtain ⟨b, off, rfl, hb, hc⟩ := h.row.addr (by rw [cellsV_length]; omega)
  refine ⟨b, off, rfl, hb, h.ok_ hd _ rfl, fun i hi => ?_⟩
  have get : ∀ j, j < 5 → w.cell? ⟨b, off + i * 5 + j, none⟩ = (ds[i].cells)[j]? := by
    intro j hj
    have hlt : i * 5 + j < (cellsV ds).length := by rw [cellsV_length]; omega
    rw [Nat.add_assoc, hc (i * 5 + j) hlt, ← List.getElem?_eq_getElem hlt, cellsV_get ds i hi j hj]
  exact ⟨get 0 (by decide), get 1 (by decide), get 2 (by decide), get 3 (by decide), get 4 (by decide)⟩
/-- One of them. -/
theorem EvsR.at_ (h : EvsR ok w A ds es) (k : Nat) (hk : k < es.length) : ∃ (e : Ev) (b off : Nat) (At : Option Addr) (m cm : Nat), e = es[k] ∧ A = some ⟨b, off, none⟩ ∧ b < w.heap.size ∧ ok b ∧ TxtR ok w At m cm e.t ∧
    w.cell? ⟨b, off + k * 5, none⟩ = some (.int .i64 e.k) ∧ w.cell? ⟨b, off + k * 5 + 1, none⟩ = some (.slice At m cm) ∧ w.cell? ⟨b, off + k * 5 + 2, none⟩ = some (.int .i64 e.x) ∧
    w.cell? ⟨b, off + k * 5 + 3, none⟩ = some (.int .i64 e.y) ∧ w.cell? ⟨b, off + k * 5 + 4, none⟩ = some (.int .i64 e.b) := by
  obtain ⟨b, off, hA, hb, ho, hc⟩ := h.five (by omega)
  have hkd : k < ds.length := by rw [h.len]; exact hk
  obtain ⟨c0, c1, c2, c3, c4⟩ := hc k hkd
  obtain ⟨e0, e2, e3, e4, ht⟩ := h.each k hkd hk
  rw [e0] at c0
  rw [e2] at c2
  rw [e3] at c3
  rw [e4] at c4
  exact ⟨_, b, off, _, _, _, rfl, hA, hb, ho, ht, c0, c1, c2, c3, c4⟩
end
end Go.Proofs.Ytgnciejbhaebeaa
