/- Parts one behind the other: Plain words and lemmas on memory: cells that read as a list; rows that the call itself made; append onto them; Events as plain data: which may be; Blocks of memory, whole: reads, stores, what stays; words in a row; Events in memory: rows of five cells each, with their texts; which blocks they lie in; what stays; Rows of events that the call itself makes: appended, made, stored into; Copy and Same of the first reference: bytes copied, bytes held against each other; What slices.Clone, keys.clone and the reference's Copy answer of events: the same events in memory of one's own; What keys.May and the reference's May answer: whether an event may be. Conditions: as told at each. -/
import Derived.Test.YtgnciejbhaebeaaProg
import Derived.WalkKit
import Derived.ProofKit
import Derived.OpenShut
import Derived.ShutString
import Derived.ChangeOld
import Derived.Below
import Derived.KernelRfl
import Derived.Lib.Hide
import Derived.Deep.QuietTactic
import Derived.BigQuiet
import Derived.WalkLawsBesides
import Derived.WalkSpells
import Derived.Laws.CopyOwn
import Derived.Laws.AppendOwnNone
import Derived.Maps.AppendAt
import Derived.Deep.AppendLies
import Derived.Deep.RegionWith
import Derived.Deep.RegionLaw
import Derived.Deep.DeepCutAuto
import Derived.Deep.CutRange
import Derived.Outline
import Derived.Handy
import Derived.Laws.OwnMore

/- Plain words and lemmas on memory: cells that read as a list; rows that the call itself made; append onto them. Conditions: none. -/
namespace Go.Proofs.Ytgnciejbhaebeaa
open Go Go.RowKit

/-- A byte as a value. -/
def bv (b : UInt8) : Value := .int .u8 (b.toNat : Int)

/-- The address reads as these cells. -/
def Rd (w : World) (A : Option Addr) (vs : List Value) : Prop :=
  vs = [] ∨ ∃ b off, A = some ⟨b, off, none⟩ ∧ b < w.heap.size ∧ ∀ k (h : k < vs.length), w.cell? ⟨b, off + k, none⟩ = some vs[k]

section
variable {w w' : World} {A : Option Addr} {vs : List Value}
theorem Rd.nil_ : Rd w A [] := .inl rfl
theorem Rd.of_blocks (h : Rd w A vs) (hk : ∀ b, b < w.heap.size → (∃ off, A = some ⟨b, off, none⟩) → w'.heap[b]? = w.heap[b]?) (hs : w.heap.size ≤ w'.heap.size) : Rd w' A vs := by
  rcases h with h | ⟨b, off, rfl, hb, h⟩
  · exact .inl h
  · exact .inr ⟨b, off, rfl, by omega, fun k hk' => (World.cell?_of_block (w := w) (a := ⟨b, off + k, none⟩) (hk b hb ⟨off, rfl⟩)).trans (h k hk')⟩
theorem Rd.below (h : Rd w A vs) (hb : Below w.heap.size w w') : Rd w' A vs := h.of_blocks (fun b h1 _ => hb.block b h1) hb.size
theorem Rd.drewN (h : Rd w A vs) (n : Nat) : Rd (w.drewN n) A vs := h
theorem Rd.alloc (h : Rd w A vs) (o : Obj) : Rd (w.alloc o) A vs := h.of_blocks (fun b h1 _ => Below.heap_alloc w o b h1) (by simp)
theorem Rd.grown (h : Rd w A vs) {row : Option Nat} (hg : w.grownBy w' row) (hne : ∀ b off, A = some ⟨b, off, none⟩ → row ≠ some b) : Rd w' A vs :=
  h.of_blocks (fun b h1 ⟨off, e⟩ => hg.block b h1 (fun e' => hne b off e e'.symm)) hg.size
theorem Rd.take (h : Rd w A vs) (n : Nat) : Rd w A (vs.take n) := by
  rcases h with rfl | ⟨b, off, rfl, hb, h⟩
  · exact .inl (by simp)
  · exact .inr ⟨b, off, rfl, hb, fun k hk => by
      have hk' : k < vs.length := by simp at hk; omega
      simpa using h k hk'⟩
/-- The cut 's[k:]' as the model writes its address: at the capacity's end it stays. -/
theorem Rd.cut (h : Rd w A vs) {k n c : Nat} (hn : vs.length = n) (hk : k ≤ n) (hc : n ≤ c) : Rd w (if c = k then A else A.map (fun x => x.add k)) (vs.drop k) := by
  rcases h with rfl | ⟨b, off, rfl, hb, h⟩
  · exact .inl (by simp)
  · by_cases e : c = k
    · left; apply List.eq_nil_of_length_eq_zero; rw [List.length_drop]; omega
    · rw [if_neg e]
      refine .inr ⟨b, off + k, ?_, hb, fun j hj => ?_⟩
      · unfold Addr.add
        by_cases h0 : k = 0 <;> simp [h0]
      · simp only [List.length_drop] at hj
        rw [Nat.add_assoc, h (k + j) (by omega)]
        simp
theorem Rd.addr (h : Rd w A vs) (h0 : 0 < vs.length) : ∃ b off, A = some ⟨b, off, none⟩ ∧ b < w.heap.size ∧ ∀ k (h : k < vs.length), w.cell? ⟨b, off + k, none⟩ = some vs[k] := by
  rcases h with rfl | h
  · simp at h0
  · exact h
theorem Rd.cellsAt (h : Rd w A vs) : ∀ ad, A = some ad → ∀ j u, vs[j]? = some u → w.cell? (ad.add j) = some u := by
  intro ad e j u hu
  have hj := (List.getElem?_eq_some_iff.1 hu).1
  obtain ⟨b, off, rfl, _, hc⟩ := h.addr (by omega)
  injection e with e
  subst e
  have h2 := hc j hj
  rw [List.getElem?_eq_getElem hj] at hu
  injection hu with hu
  rw [← hu, ← h2]
  unfold Addr.add
  by_cases h0 : j = 0
  · subst h0; rfl
  · simp [h0]
end

theorem grownBy_of_below {a w : World} (h : Below a.heap.size a w) (row : Option Nat) : a.grownBy w row := ⟨h.os, h.tape, h.output, h.size, fun i hi _ => h.block i hi⟩
theorem below_drewN {B : Nat} {a w : World} (h : Below B a w) (n : Nat) : Below B a (w.drewN n) := ⟨h.os, h.tape, h.output, h.size, h.block⟩

/-- A row of cells, made by the call itself from block B on. -/
def Own (w : World) (B : Nat) (e : TypeId) (v : Value) (vs : List Value) : Prop := w.ownsRow B e 1 v vs.length vs

section
variable {w w' : World} {B : Nat} {e : TypeId} {v : Value} {vs : List Value}
theorem Own.nil_ (w : World) (B : Nat) (e : TypeId) : Own w B e (.slice none 0 0) [] := World.ownsRow_nil _ _ _ _
theorem Own.form (h : Own w B e v vs) : ∃ A c, v = .slice A vs.length c ∧ vs.length ≤ c ∧ c ≤ maxLen ∧ Rd w A vs ∧ (∀ a, A = some a → B ≤ a.block ∧ a.block < w.heap.size ∧ a.off = 0 ∧ a.spot = none) ∧ (A = none → c = 0) := by
  have hh := h
  obtain ⟨hl, h2⟩ := h
  rcases h2 with ⟨rfl, h0⟩ | ⟨g, cap, cur, rfl, hb, hg, hn, hm, hcs, ht⟩
  · obtain rfl : vs = [] := List.eq_nil_of_length_eq_zero h0
    exact ⟨none, 0, rfl, Nat.le_refl _, Nat.zero_le _, .inl rfl, fun a ha => by (cases ha), fun _ => rfl⟩
  · refine ⟨some ⟨g, 0, none⟩, cap, rfl, hn, hm, .inr ⟨g, 0, rfl, (Array.getElem?_eq_some_iff.1 hg).1, fun k hk => ?_⟩, fun a ha => ?_, fun ha => by (cases ha)⟩
    · have := hh.cellAt k (by omega)
      rw [Nat.zero_add, this, List.getElem?_eq_getElem hk]
    · injection ha with ha; subst ha; exact ⟨hb, (Array.getElem?_eq_some_iff.1 hg).1, rfl, rfl⟩
theorem Own.below (h : Own w B e v vs) (hb : Below w.heap.size w w') : Own w' B e v vs := World.ownsRow.kept h (grownBy_of_below hb (some w.heap.size)) (by
  rcases h.2 with ⟨rfl, _⟩ | ⟨g, cap, cur, rfl, _, hg, _⟩
  · left; rfl
  · right
    have := (Array.getElem?_eq_some_iff.1 hg).1
    simp [Value.ownBlock]; omega)
theorem Own.drewN (h : Own w B e v vs) (n : Nat) : Own (w.drewN n) B e v vs := h
theorem Own.alloc (h : Own w B e v vs) (o : Obj) : Own (w.alloc o) B e v vs := World.ownsRow.alloc h o
theorem Own.low {B' : Nat} (h : Own w B e v vs) (hB : B' ≤ B) : Own w B' e v vs := by
  refine ⟨h.1, ?_⟩
  rcases h.2 with h2 | ⟨g, cap, cur, hv, hb, r⟩
  · exact .inl h2
  · exact .inr ⟨g, cap, cur, hv, by omega, r⟩
theorem Own.setBelow (h : Own w B e v vs) {p : Addr} (hp : p.block < B) (u : Value) : Own (w.setCell p u) B e v vs := ownsRow_setCell_below h hp u
theorem Own.lt (h : Own w B e v vs) : ∀ k, v.ownBlock = some k → B ≤ k ∧ k < w.heap.size := World.ownsRow.lt h
end

/-- append onto a row of the call's own, whatever the source: nil, empty or not. -/
theorem run_append_of_nil {P : Program} (w : World) (base : Nat) (t ty e : TypeId) (i : TypeInfo) (size : Nat) (ht : P.underlying t = some (.slice e)) (hi : P.info? e = some i)
    (v : Value) (n : Nat) (xs : List Value) (hown : w.ownsRow base e size v n xs) (c : Nat) : (Builtin.append_ #[t, t] ty #[v, .slice none 0 c]).run P w = .ok v w := by
  rcases hown.2 with ⟨rfl, rfl⟩ | ⟨g, cap, cur, rfl, _, _, hnc, _⟩
  · simp [Builtin.append_, run_underlying ht, sizeOf, typeInfo, hi, Builtin.lenOf, Builtin.firstCells]
  · simp [Builtin.append_, run_underlying ht, sizeOf, typeInfo, hi, Builtin.lenOf, Builtin.firstCells, hnc, storeCells]

theorem run_app {P : Program} (w : World) (base : Nat) (t ty e : TypeId) (i : TypeInfo) (z : Value) (bytes : Nat) (ht : P.underlying t = some (.slice e)) (hi : P.info? e = some i) (hz : i.zero = some z)
    (hsize : i.size = 1) (hby : i.bytes = bytes) (hzs : z.cells.size = 1)
    (v : Value) (xs : List Value) (hown : Own w base e v xs) (A : Option Addr) (m c : Nat) (news : List Value) (hm : news.length = m) (hr : Rd w A news) (h1 : ∀ u ∈ news, u.oneCell' = true)
    (hlen : xs.length + m ≤ maxLen) (hbytes : (xs.length + m) * bytes ≤ 140737488355328) (hbase : base ≤ w.heap.size) :
    ∃ v' w', (Builtin.append_ #[t, t] ty #[v, .slice A m c]).run P w = .ok v' w' ∧ Own w' base e v' (xs ++ news) ∧ w.grownBy w' v.ownBlock ∧
      (v'.ownBlock = v.ownBlock ∨ v'.ownBlock = some w.heap.size) := by
  subst hm
  rcases A with _ | ad
  · have hn : news = [] := by
      rcases hr with h | ⟨_, _, h, _⟩
      · exact h
      · cases h
    subst hn
    exact ⟨v, w, run_append_of_nil w base t ty e i 1 ht hi v xs.length xs hown c, by simpa using hown, World.grownBy.refl w _, .inl rfl⟩
  · obtain ⟨v', w', hrun, h2, h3, _, h5⟩ := run_append_own_at (P := P) w base t ty e i z 1 bytes ht hi hz hsize hby hzs (by decide) v xs.length xs hown ad news.length c news (by simp) (hr.cellsAt ad rfl) h1 hlen hbytes hbase
    exact ⟨v', w', hrun, by simpa [Own] using h2, h3, h5⟩

theorem wpList_app {P : Program} (w : World) {ops : Array Oper} {rest : List Oper} {o : Oper} {a : Act} {Q : Exit → Act → World → Prop} (hgd : o.guard = none) (s x : Operand) (t : TypeId)
    (ho : o.op = .call { callee := .builtin .append, args := #[s, x], argTypes := #[t, t] })
    (base : Nat) (e : TypeId) (i : TypeInfo) (z : Value) (bytes : Nat) (ht : P.underlying t = some (.slice e)) (hi : P.info? e = some i) (hz : i.zero = some z)
    (hsize : i.size = 1) (hby : i.bytes = bytes) (hzs : z.cells.size = 1)
    (v : Value) (xs : List Value) (hs : a.eval s = v) (hown : Own w base e v xs)
    (A : Option Addr) (m c : Nat) (news : List Value) (hx : a.eval x = .slice A m c) (hm : news.length = m) (hr : Rd w A news) (h1 : ∀ u ∈ news, u.oneCell' = true)
    (hlen : xs.length + m ≤ maxLen) (hbytes : (xs.length + m) * bytes ≤ 140737488355328) (hbase : base ≤ w.heap.size)
    (h : ∀ v' w', Own w' base e v' (xs ++ news) → w.grownBy w' v.ownBlock → (v'.ownBlock = v.ownBlock ∨ v'.ownBlock = some w.heap.size) → wpList P ops Q rest (a.put o.dst v') w') : wpList P ops Q (o :: rest) a w := by
  refine wpList_plain hgd fun K hK => ?_
  obtain ⟨v', w', hrun, h2, h3, h4⟩ := run_app (P := P) w base t o.type e i z bytes ht hi hz hsize hby hzs v xs hown A m c news hm hr h1 hlen hbytes hbase
  unfold Oper.wp execOp
  simp only [ho, resolve, invoke, builtin, Sem.run_bind, Sem.run_pure, Result.andThen_ok, List.map_toArray, List.map_cons, List.map_nil, hs, hx, hrun]
  exact hK _ _ (h v' w' h2 h3 h4)

/-! ### Bytes -/
theorem info_u8 : (Try.prog.info? 5).map (fun i => (i.zero, i.size, i.bytes)) = some (some (.int .u8 0), 1, 1) := by kernel_rfl

/-- Bytes in a row of the call's own. -/
def OwnB (w : World) (B : Nat) (v : Value) (bs : List UInt8) : Prop := Own w B 5 v (bs.map bv)

theorem bv_one (bs : List UInt8) : ∀ u ∈ bs.map bv, u.oneCell' = true := by
  intro u hu
  obtain ⟨_, _, rfl⟩ := List.mem_map.1 hu
  rfl
theorem bv_inj {x y : UInt8} (h : bv x = bv y) : x = y := by
  simp only [bv, Value.int.injEq, true_and] at h
  exact UInt8.toNat_inj.1 (by omega)
theorem OwnB.form {w : World} {B : Nat} {v : Value} {bs : List UInt8} (h : OwnB w B v bs) :
    ∃ A c, v = .slice A bs.length c ∧ bs.length ≤ c ∧ c ≤ maxLen ∧ Rd w A (bs.map bv) ∧ (∀ a, A = some a → B ≤ a.block ∧ a.block < w.heap.size ∧ a.off = 0 ∧ a.spot = none) := by
  obtain ⟨A, c, h1, h2, h3, h4, h5, _⟩ := Own.form h
  simp only [List.length_map] at h1 h2
  exact ⟨A, c, h1, h2, h3, h4, h5⟩

theorem Rd.addrB {w : World} {A : Option Addr} {bs : List UInt8} (h : Rd w A (bs.map bv)) (h0 : 0 < bs.length) :
    ∃ b off, A = some ⟨b, off, none⟩ ∧ b < w.heap.size ∧ ∀ k (h : k < bs.length), w.cell? ⟨b, off + k, none⟩ = some (bv bs[k]) := by
  obtain ⟨b, off, h1, h2, h3⟩ := h.addr (by rw [List.length_map]; exact h0)
  refine ⟨b, off, h1, h2, fun k hk => ?_⟩
  have := h3 k (by rw [List.length_map]; exact hk)
  rw [this, List.getElem_map]

/-- 'append(v, xs...)' on bytes. -/
theorem wpList_appB (w : World) {ops : Array Oper} {rest : List Oper} {o : Oper} {a : Act} {Q : Exit → Act → World → Prop} (hgd : o.guard = none) (s x : Operand)
    (ho : o.op = .call { callee := .builtin .append, args := #[s, x], argTypes := #[27, 27] })
    (B : Nat) (v : Value) (bs : List UInt8) (hs : a.eval s = v) (hown : OwnB w B v bs)
    (A : Option Addr) (m c : Nat) (ns : List UInt8) (hx : a.eval x = .slice A m c) (hm : ns.length = m) (hr : Rd w A (ns.map bv))
    (hlen : bs.length + m ≤ 140737488355328) (hB : B ≤ w.heap.size)
    (h : ∀ v' w', OwnB w' B v' (bs ++ ns) → w.grownBy w' v.ownBlock → (v'.ownBlock = v.ownBlock ∨ v'.ownBlock = some w.heap.size) → wpList Try.prog ops Q rest (a.put o.dst v') w') : wpList Try.prog ops Q (o :: rest) a w := by
  obtain ⟨i0, hi, hz0, hz1, hz2⟩ := info_parts info_u8
  refine wpList_app w hgd s x 27 ho B 5 i0 (.int .u8 0) 1 Try.underlying27 hi hz0 hz1 hz2 rfl v (bs.map bv) hs hown A m c (ns.map bv) hx (by simpa using hm) hr (bv_one _) (by simp only [List.length_map, maxLen]; omega) (by simp only [List.length_map]; omega) hB ?_
  intro v' w' h1 h2 h3
  exact h v' w' (by simpa [OwnB] using h1) h2 h3

/-- 'append(v, x)' of one byte, laid in a new block. -/
theorem wpList_appB1 (w : World) {ops : Array Oper} {rest : List Oper} {o : Oper} {a : Act} {Q : Exit → Act → World → Prop} (hgd : o.guard = none) (s x : Operand)
    (ho : o.op = .call { callee := .builtin .append, args := #[s, x], argTypes := #[27, 27] })
    (B : Nat) (v : Value) (bs : List UInt8) (hs : a.eval s = v) (hown : OwnB w B v bs) (X : Value) (hx : a.eval x = .slice (some ⟨w.heap.size, 0, none⟩) 1 1) (b : UInt8) (hX : X = bv b)
    (hlen : bs.length + 1 ≤ 140737488355328) (hB : B ≤ w.heap.size)
    (h : ∀ v' w', OwnB w' B v' (bs ++ [b]) → (w.alloc (.cells #[X] 5)).grownBy w' v.ownBlock → (v'.ownBlock = v.ownBlock ∨ v'.ownBlock = some (w.heap.size + 1)) → wpList Try.prog ops Q rest (a.put o.dst v') w') : wpList Try.prog ops Q (o :: rest) a (w.alloc (.cells #[X] 5)) := by
  subst hX
  refine wpList_appB _ hgd s x ho B v bs hs (Own.alloc hown _) _ 1 1 [b] hx rfl (.inr ⟨w.heap.size, 0, rfl, by simp, fun k hk => ?_⟩) hlen (by simp; omega) (fun v' w' h1 h2 h3 => h v' w' h1 h2 (by simpa using h3))
  have : k = 0 := by simp at hk; omega
  subst this
  exact cell_of_row _ _ 0 _ _ (0, 0) (heap_alloc_new w _)

/-! ### Rows whose head is known: reads, stores -/
section
variable {w : World} {B : Nat} {e : TypeId} {g n c : Nat} {vs : List Value}
theorem Own.len (h : Own w B e (.slice (some ⟨g, 0, none⟩) n c) vs) : n = vs.length ∧ vs.length ≤ c := by
  rcases h.2 with ⟨h, _⟩ | ⟨g', cap, cur, hv, _, _, hn, _⟩
  · cases h
  · injection hv with _ h2 h3
    exact ⟨h2, by omega⟩
theorem Own.to_n (h : Own w B e (.slice (some ⟨g, 0, none⟩) n c) vs) : w.ownsRow B e 1 (.slice (some ⟨g, 0, none⟩) n c) n vs := by
  have := h.len.1; subst this; exact h
theorem Own.cell (h : Own w B e (.slice (some ⟨g, 0, none⟩) n c) vs) (j : Nat) (hj : j < vs.length) : w.cell? ⟨g, j, none⟩ = some vs[j] := by
  rw [h.to_n.cellAt j (by have := h.len.1; omega), List.getElem?_eq_getElem hj]
theorem Own.free (h : Own w B e (.slice (some ⟨g, 0, none⟩) n c) vs) (j : Nat) : w.frozen? ⟨g, j, none⟩ = false := h.to_n.frozenAt j
theorem Own.set (h : Own w B e (.slice (some ⟨g, 0, none⟩) n c) vs) (j : Nat) (u : Value) : Own (w.setCell ⟨g, j, none⟩ u) B e (.slice (some ⟨g, 0, none⟩) n c) (vs.set j u) := by
  have h2 := (h.to_n.stored j u).1
  have hl := h.len.1
  unfold Own
  rw [List.length_set, ← hl]
  exact h2
end
section
variable {w : World} {B g n c : Nat} {bs : List UInt8}
theorem OwnB.len (h : OwnB w B (.slice (some ⟨g, 0, none⟩) n c) bs) : n = bs.length := by simpa using (Own.len h).1
theorem OwnB.cell (h : OwnB w B (.slice (some ⟨g, 0, none⟩) n c) bs) (j : Nat) (hj : j < bs.length) : w.cell? ⟨g, j, none⟩ = some (bv bs[j]) := by
  have := Own.cell h j (by simpa using hj)
  simpa using this
theorem OwnB.free (h : OwnB w B (.slice (some ⟨g, 0, none⟩) n c) bs) (j : Nat) : w.frozen? ⟨g, j, none⟩ = false := Own.free h j
theorem OwnB.set (h : OwnB w B (.slice (some ⟨g, 0, none⟩) n c) bs) (j : Nat) (b : UInt8) : OwnB (w.setCell ⟨g, j, none⟩ (bv b)) B (.slice (some ⟨g, 0, none⟩) n c) (bs.set j b) := by
  have := Own.set h j (bv b)
  rw [← List.map_set] at this
  exact this
end

/-- 'make([]byte, n)'. -/
theorem wpList_makeB (w : World) {ops : Array Oper} {rest : List Oper} {o : Oper} {a : Act} {Q : Exit → Act → World → Prop} (hgd : o.guard = none) (l c : Operand) (ho : o.op = Op.makeSlice 27 l c)
    (kl kc : IntKind) (L C : Int) (n : Nat) (hl : a.eval l = .int kl L) (hc : a.eval c = .int kc C) (hL : L = (n : Int)) (hC : C = (n : Int)) (hn : n ≤ 140737488355328)
    (h : ∀ w', OwnB w' w.heap.size (.slice (some ⟨w.heap.size, 0, none⟩) n n) (List.replicate n 0) → Below w.heap.size w w' → w.grownBy w' none → wpList Try.prog ops Q rest (a.put o.dst (.slice (some ⟨w.heap.size, 0, none⟩) n n)) w') :
    wpList Try.prog ops Q (o :: rest) a w := by
  obtain ⟨i0, hi, hz0, hz1, hz2⟩ := info_parts info_u8
  refine wpList_make_full w hgd l c 27 ho w.heap.size 5 i0 (.int .u8 0) 1 Try.underlying27 hi hz0 hz1 kl kc L C n hl hc hL hC (by rw [hz2]; omega) (by unfold maxLen; omega) (Nat.le_refl _) ?_
  intro w' h1 h2
  refine h w' ?_ ((Below.refl _ _).grown h2 (Nat.le_refl _) (fun k hk => by cases hk)) h2
  have e : (madeCells (Value.int .u8 0).cells (n * 1)).toList = (List.replicate n (0 : UInt8)).map bv := by
    rw [Nat.mul_one, List.map_replicate]; exact toList_madeCells_one _ _
  rw [e] at h1
  simpa [OwnB, Own] using h1

/-- 'copy(dst, src)' on bytes, dst a row of the call's own, from its head on. -/
theorem wpList_copyB (w : World) {ops : Array Oper} {rest : List Oper} {o : Oper} {a : Act} {Q : Exit → Act → World → Prop} (hgd : o.guard = none) (d s : Operand)
    (ho : o.op = .call { callee := .builtin .copy, args := #[d, s], argTypes := #[27, 27] })
    (B g n c : Nat) (bs : List UInt8) (hd : a.eval d = .slice (some ⟨g, 0, none⟩) n c) (hown : OwnB w B (.slice (some ⟨g, 0, none⟩) n c) bs)
    (A : Option Addr) (m k : Nat) (ns : List UInt8) (hs : a.eval s = .slice A m k) (hm : ns.length = m) (hr : Rd w A (ns.map bv))
    (h : ∀ w', OwnB w' B (.slice (some ⟨g, 0, none⟩) n c) (ns.take n ++ bs.drop m) → Below B w w' → w.grownBy w' (some g) → wpList Try.prog ops Q rest (a.put o.dst (goInt ((min m n : Nat) : Int))) w') : wpList Try.prog ops Q (o :: rest) a w := by
  subst hm
  have hlen := hown.len
  subst hlen
  have hfull := hown
  obtain ⟨_, ⟨hbad, _⟩ | ⟨g', cap, cur, hv, hgB, hg, hnc, hcm, hcs, htk⟩⟩ := hown
  · cases hbad
  injection hv with hv1 hv2 hv3
  subst hv3
  injection hv1 with hv1
  injection hv1 with hv1
  subst hv1
  have hmn : min ns.length bs.length = (ns.take bs.length).length := by rw [List.length_take, Nat.min_comm]
  by_cases h0 : (ns.take bs.length).length = 0
  · refine wpList_copy_nothing hgd d s _ _ ho 5 Try.underlying27 (by kernel_rfl) _ _ _ _ _ _ hd hs (by rw [← hmn] at h0; exact h0) ?_
    have e : ns.take bs.length ++ bs.drop ns.length = bs := by
      rw [List.eq_nil_of_length_eq_zero h0, List.nil_append]
      rw [List.length_take] at h0
      rcases Nat.min_eq_zero_iff.1 h0 with h1 | h1
      · rw [List.eq_nil_of_length_eq_zero h1]; simp
      · rw [h1]; rfl
    have := h w (by rw [e]; exact hfull) (Below.refl _ _) (World.grownBy.refl _ _)
    rw [hmn, h0] at this
    exact this
  · have hpos : 0 < (ns.map bv).length := by
      rw [List.length_take] at h0; rw [List.length_map]; omega
    obtain ⟨b, off, rfl, hlt, hc⟩ := hr.addr hpos
    have hcur : cur.size = c := by simpa using hcs
    have htk' : cur.toList.take bs.length = bs.map bv := by simpa using htk
    have hnc' : bs.length ≤ c := by simpa using hnc
    refine wpList_copy_own hgd d s _ _ ho 5 Try.underlying27 (by kernel_rfl) g 0 bs.length c ⟨b, off, none⟩ ns.length k hd hs cur 5 hg ((ns.take bs.length).map bv) (by rw [List.length_map, ← hmn]) ?_ ?_ ?_ ?_
    · intro j v hj
      refine hr.cellsAt _ rfl j v ?_
      rw [List.map_take] at hj
      rw [List.getElem?_take] at hj
      split at hj
      · exact hj
      · cases hj
    · rw [List.length_map, List.length_take]; omega
    · exact bv_one _
    · rw [List.length_map, ← hmn]
      refine h _ ⟨by simp, .inr ⟨g, c, _, by simp; omega, hgB, setRow_heap w g cur _ 5 _ hg, by simp; omega, hcm, ?_, ?_⟩⟩ ⟨rfl, rfl, rfl, by simp, fun q hq => setRow_other w g q _ (by omega)⟩ ⟨rfl, rfl, rfl, by simp, fun q _ hq => setRow_other w g q _ (fun e => hq (by rw [e]))⟩
      · simp; omega
      · simp only [List.take_zero, List.nil_append, Nat.zero_add, Nat.mul_one, List.toList_toArray, List.map_append, List.length_map, List.length_append]
        have e1 : cur.toList.drop (min ns.length bs.length) = ((bs.map bv).drop (min ns.length bs.length)) ++ cur.toList.drop bs.length := by
          rw [← htk', ← List.drop_append_of_le_length (by simp; omega), List.take_append_drop]
        rw [e1, ← List.append_assoc, List.take_append_of_le_length (by simp; omega)]
        rw [List.take_of_length_le (by simp; omega)]
        congr 1
        rw [← List.map_drop]
        congr 1
        rcases Nat.le_total ns.length bs.length with hq | hq
        · rw [Nat.min_eq_left hq]
        · rw [Nat.min_eq_right hq, List.drop_of_length_le (Nat.le_refl _), List.drop_of_length_le hq]

/-- 'append([]byte(nil), xs...)'. -/
theorem run_cloneB (w : World) (ty : TypeId) (A : Option Addr) (m c : Nat) (ns : List UInt8) (hm : ns.length = m) (hr : Rd w A (ns.map bv)) (hl : m ≤ 140737488355328) :
    ∃ A' c' w', (Builtin.append_ #[27, 27] ty #[.slice none 0 0, .slice A m c]).run Try.prog w = .ok (.slice A' m c') w' ∧ OwnB w' w.heap.size (.slice A' m c') ns ∧ Below w.heap.size w w' ∧ m ≤ c' ∧ c' ≤ maxLen ∧ Rd w' A' (ns.map bv) ∧ (∀ a, A' = some a → w.heap.size ≤ a.block ∧ a.block < w'.heap.size) ∧ w.grownBy w' none := by
  obtain ⟨i0, hi, hz0, hz1, hz2⟩ := info_parts info_u8
  obtain ⟨v', w', hrun, h2, h3, h4⟩ := run_app (P := Try.prog) w w.heap.size 27 ty 5 i0 (.int .u8 0) 1 Try.underlying27 hi hz0 hz1 hz2 rfl (.slice none 0 0) [] (Own.nil_ _ _ _) A m c (ns.map bv) (by simpa using hm) hr (bv_one _) (by simp [maxLen]; omega) (by simp; omega) (Nat.le_refl _)
  rw [List.nil_append] at h2
  obtain ⟨A', c', rfl, hc, hcm, hr', hB⟩ := OwnB.form h2
  subst hm
  exact ⟨A', c', w', hrun, h2, (Below.refl _ _).grown h3 (Nat.le_refl _) (fun k hk => by simp [Value.ownBlock] at hk), hc, hcm, hr', fun a ha => ⟨(hB a ha).1, (hB a ha).2.1⟩, h3⟩

theorem wpList_cloneB (w : World) {ops : Array Oper} {rest : List Oper} {o : Oper} {a : Act} {Q : Exit → Act → World → Prop} (hgd : o.guard = none) (x : Operand)
    (ho : o.op = .call { callee := .builtin .append, args := #[.const (.slice none 0 0), x], argTypes := #[27, 27] })
    (A : Option Addr) (m c : Nat) (ns : List UInt8) (hx : a.eval x = .slice A m c) (hm : ns.length = m) (hr : Rd w A (ns.map bv)) (hl : m ≤ 140737488355328)
    (h : ∀ A' c' w', OwnB w' w.heap.size (.slice A' m c') ns → Below w.heap.size w w' → m ≤ c' → c' ≤ maxLen → Rd w' A' (ns.map bv) → (∀ a, A' = some a → w.heap.size ≤ a.block ∧ a.block < w'.heap.size) → wpList Try.prog ops Q rest (a.put o.dst (.slice A' m c')) w') : wpList Try.prog ops Q (o :: rest) a w := by
  refine wpList_plain hgd fun K hK => ?_
  obtain ⟨A', c', w', hrun, h1, h2, h3, h4, h5, h6, _⟩ := run_cloneB w o.type A m c ns hm hr hl
  unfold Oper.wp execOp
  simp only [ho, resolve, invoke, builtin, Sem.run_bind, Sem.run_pure, Result.andThen_ok, List.map_toArray, List.map_cons, List.map_nil, hx, show a.eval (.const (.slice none 0 0)) = .slice none 0 0 from rfl, hrun]
  exact hK _ _ (h A' c' w' h1 h2 h3 h4 h5 h6)

/-- A literal row in a new block. -/
theorem Rd.lit (w : World) (vs : List Value) (t : TypeId) : Rd (w.alloc (.cells vs.toArray t)) (some ⟨w.heap.size, 0, none⟩) vs := by
  refine .inr ⟨w.heap.size, 0, rfl, by simp, fun k hk => ?_⟩
  rw [Nat.zero_add, cell_of_row _ _ k _ _ (0, 0) (heap_alloc_new w _)]
  simp

end Go.Proofs.Ytgnciejbhaebeaa

/- Events as plain data: which may be. Conditions: none. -/
namespace Go.Proofs.Ytgnciejbhaebeaa
open Go Go.RowKit

/-- An event. -/
structure Ev where
  k : Int
  t : List UInt8
  x : Int
  y : Int
  b : Int
deriving DecidableEq
def mayP (k x y b : Int) (n : Nat) : Prop :=
  (k = 1 ∧ x = 0 ∧ y = 0 ∧ b = 0 ∧ 1 ≤ n ∧ n ≤ 8) ∨ (k = 2 ∧ x = 0 ∧ y = 0 ∧ b = 0 ∧ n ≤ 64) ∨
  (k = 3 ∧ n = 0 ∧ 0 ≤ x ∧ x < 80 ∧ 0 ≤ y ∧ y < 24 ∧ 0 ≤ b ∧ b ≤ 255) ∨ (k = 4 ∧ n = 0 ∧ b = 0 ∧ 1 ≤ x ∧ x ≤ 80 ∧ 1 ≤ y ∧ y ≤ 24)
instance (k x y b : Int) (n : Nat) : Decidable (mayP k x y b n) := by unfold mayP; exact inferInstance
def mayB (k x y b : Int) (n : Nat) : Bool := decide (mayP k x y b n)
def Ev.may (e : Ev) : Bool := mayB e.k e.x e.y e.b e.t.length
/-- An event in memory: its five cells. -/
structure EvV where
  k : Int
  A : Option Addr
  n : Nat
  c : Nat
  x : Int
  y : Int
  b : Int
def EvV.cells (e : EvV) : List Value := [.int .i64 e.k, .slice e.A e.n e.c, .int .i64 e.x, .int .i64 e.y, .int .i64 e.b]
end Go.Proofs.Ytgnciejbhaebeaa

/- Blocks of memory, whole: reads, stores, what stays; words in a row. Conditions: none. -/
namespace Go.Proofs.Ytgnciejbhaebeaa
open Go Go.RowKit

theorem heap_cell {w : World} {g : Nat} {cs : Array Value} {t : TypeId} (h : w.heap[g]? = some (.cells cs t (0, 0))) (i : Nat) : w.cell? ⟨g, i, none⟩ = cs[i]? := cell_of_row w g i cs t (0, 0) h
theorem heap_free {w : World} {g : Nat} {cs : Array Value} {t : TypeId} (h : w.heap[g]? = some (.cells cs t (0, 0))) (i : Nat) : w.frozen? ⟨g, i, none⟩ = false := by simp [World.frozen?, h]
theorem heap_lt {w : World} {g : Nat} {o : Obj} (h : w.heap[g]? = some o) : g < w.heap.size := (Array.getElem?_eq_some_iff.1 h).1
theorem heap_set {w : World} {g : Nat} {cs : Array Value} {t : TypeId} (h : w.heap[g]? = some (.cells cs t (0, 0))) (i : Nat) (u : Value) : (w.setCell ⟨g, i, none⟩ u).heap[g]? = some (.cells (cs.setIfInBounds i u) t (0, 0)) := by
  simp [World.setCell, Array.getElem?_modify, h]
theorem heap_far {w : World} {g : Nat} {p : Addr} (u : Value) (hp : g ≠ p.block) : (w.setCell p u).heap[g]? = w.heap[g]? := Below.heap_setCell w p u g hp
theorem Rd.far {w : World} {A : Option Addr} {vs : List Value} (h : Rd w A vs) {p : Addr} (u : Value) (hp : ∀ a, A = some a → a.block ≠ p.block) : Rd (w.setCell p u) A vs :=
  h.of_blocks (fun b _ ⟨off, e⟩ => heap_far u (hp _ e)) (by simp [World.setCell])
/-- Only block r, and what is new, has turned. -/
theorem only_set {w : World} (r i : Nat) (u : Value) : w.grownBy (w.setCell ⟨r, i, none⟩ u) (some r) :=
  ⟨rfl, rfl, rfl, by simp [World.setCell], fun k _ hk => heap_far u (fun e => hk (by rw [e]))⟩
theorem only_setD {w : World} (q r i : Nat) (u : Value) : w.grownBy ((w.drewN q).setCell ⟨r, i, none⟩ u) (some r) :=
  ⟨rfl, rfl, rfl, by simp [World.setCell], fun k _ hk => heap_far u (fun e => hk (by rw [e]))⟩
theorem only_of_drewN {w w' : World} {q : Nat} {r : Option Nat} (h : (w.drewN q).grownBy w' r) : w.grownBy w' r := ⟨h.os, h.tape, h.output, h.size, h.block⟩
theorem only_drewN {w w' : World} {r : Option Nat} (h : w.grownBy w' r) (n : Nat) : w.grownBy (w'.drewN n) r := ⟨h.os, h.tape, h.output, h.size, h.block⟩
theorem only_trans {a b c : World} {r : Option Nat} (h : a.grownBy b r) (k : b.grownBy c r) : a.grownBy c r :=
  ⟨k.os.trans h.os, k.tape.trans h.tape, k.output.trans h.output, Nat.le_trans h.size k.size, fun i hi hr => (k.block i (Nat.lt_of_lt_of_le hi h.size) hr).trans (h.block i hi hr)⟩
end Go.Proofs.Ytgnciejbhaebeaa

/- Events in memory: rows of five cells each, with their texts; which blocks they lie in; what stays. Conditions: none. -/
namespace Go.Proofs.Ytgnciejbhaebeaa
open Go Go.RowKit

/-! ### What stays outside a set of blocks -/
structure Keeps (S : Nat → Prop) (w w' : World) : Prop where
  os : w'.os = w.os
  tape : w'.tape = w.tape
  output : w'.output = w.output
  size : w.heap.size ≤ w'.heap.size
  block : ∀ k, k < w.heap.size → ¬ S k → w'.heap[k]? = w.heap[k]?
theorem Keeps.refl (S : Nat → Prop) (w : World) : Keeps S w w := ⟨rfl, rfl, rfl, Nat.le_refl _, fun _ _ _ => rfl⟩
theorem Keeps.trans {S : Nat → Prop} {a b c : World} (h : Keeps S a b) (k : Keeps S b c) : Keeps S a c :=
  ⟨k.os.trans h.os, k.tape.trans h.tape, k.output.trans h.output, Nat.le_trans h.size k.size, fun i hi hs => (k.block i (Nat.lt_of_lt_of_le hi h.size) hs).trans (h.block i hi hs)⟩
theorem Keeps.of_below {B : Nat} {w w' : World} (h : Below B w w') (S : Nat → Prop) (hS : ∀ k, k < w.heap.size → ¬ S k → k < B) : Keeps S w w' :=
  ⟨h.os, h.tape, h.output, h.size, fun k hk hs => h.block k (hS k hk hs)⟩
theorem Keeps.below {B : Nat} {S : Nat → Prop} {w w' : World} (h : Keeps S w w') (hS : ∀ k, k < B → k < w.heap.size ∧ ¬ S k) : Below B w w' :=
  ⟨h.os, h.tape, h.output, h.size, fun k hk => h.block k (hS k hk).1 (hS k hk).2⟩
theorem Keeps.of_grown {r : Option Nat} {w w' : World} (h : w.grownBy w' r) (S : Nat → Prop) (hS : ∀ k, r = some k → S k) : Keeps S w w' :=
  ⟨h.os, h.tape, h.output, h.size, fun k hk hs => h.block k hk (fun e => hs (hS k e.symm))⟩
theorem Keeps.mono {S T : Nat → Prop} {w w' : World} (h : Keeps S w w') (hS : ∀ k, S k → T k) : Keeps T w w' :=
  ⟨h.os, h.tape, h.output, h.size, fun k hk hs => h.block k hk (fun e => hs (hS k e))⟩
theorem Keeps.set (S : Nat → Prop) (w : World) (p : Addr) (u : Value) (h : S p.block) : Keeps S w (w.setCell p u) :=
  ⟨rfl, rfl, rfl, by simp [World.setCell], fun k _ hs => heap_far u (fun e => hs (e ▸ h))⟩
theorem Keeps.drewN {S : Nat → Prop} {w w' : World} (h : Keeps S w w') (n : Nat) : Keeps S w (w'.drewN n) := ⟨h.os, h.tape, h.output, h.size, h.block⟩
theorem Keeps.alloc {S : Nat → Prop} {w w' : World} (h : Keeps S w w') (o : Obj) : Keeps S w (w'.alloc o) :=
  ⟨h.os, h.tape, h.output, Nat.le_trans h.size (by simp), fun k hk hs => (Below.heap_alloc w' o k (Nat.lt_of_lt_of_le hk h.size)).trans (h.block k hk hs)⟩

/-! ### The cells of a row -/
def cellsV (ds : List EvV) : List Value := ds.flatMap EvV.cells
theorem cellsV_cons (d : EvV) (ds : List EvV) : cellsV (d :: ds) = d.cells ++ cellsV ds := rfl
theorem cellsV_append (a b : List EvV) : cellsV (a ++ b) = cellsV a ++ cellsV b := by simp [cellsV]
theorem cellsV_length (ds : List EvV) : (cellsV ds).length = ds.length * 5 := by
  induction ds with
  | nil => rfl
  | cons d ds ih => rw [cellsV_cons, List.length_append, ih]; simp [EvV.cells]; omega
theorem cellsV_get : ∀ (ds : List EvV) (i : Nat) (h : i < ds.length) (j : Nat), j < 5 → (cellsV ds)[i * 5 + j]? = (ds[i].cells)[j]?
  | d :: ds, 0, _, j, hj => by
    rw [cellsV_cons, Nat.zero_mul, Nat.zero_add, List.getElem?_append_left (by simpa [EvV.cells] using hj)]
    rfl
  | d :: ds, i + 1, h, j, hj => by
    rw [cellsV_cons, List.getElem?_append_right (by simp [EvV.cells]; omega)]
    have e : (i + 1) * 5 + j - d.cells.length = i * 5 + j := by simp [EvV.cells]; omega
    rw [e, cellsV_get ds i (by simpa using h) j hj]
    rfl
theorem cellsV_one (ds : List EvV) : ∀ u ∈ cellsV ds, u.oneCell' = true := by
  intro u hu
  obtain ⟨d, _, h⟩ := List.mem_flatMap.1 hu
  simp only [EvV.cells, List.mem_cons, List.not_mem_nil, or_false] at h
  rcases h with rfl | rfl | rfl | rfl | rfl <;> rfl
def EvV.txt (d : EvV) (A : Option Addr) (n c : Nat) : EvV := ⟨d.k, A, n, c, d.x, d.y, d.b⟩
def EvV.x' (d : EvV) (x : Int) : EvV := ⟨d.k, d.A, d.n, d.c, x, d.y, d.b⟩
theorem cellsV_txt : ∀ (ds : List EvV) (i : Nat) (h : i < ds.length) (A : Option Addr) (n c : Nat), (cellsV ds).set (i * 5 + 1) (.slice A n c) = cellsV (ds.set i (ds[i].txt A n c))
  | d :: ds, 0, _, A, n, c => rfl
  | d :: ds, i + 1, h, A, n, c => by
    rw [cellsV_cons, List.set_append_right _ _ (by simp [EvV.cells]; omega)]
    have e : (i + 1) * 5 + 1 - d.cells.length = i * 5 + 1 := by simp [EvV.cells]; omega
    rw [e, cellsV_txt ds i (by simpa using h)]
    rfl
theorem cellsV_x : ∀ (ds : List EvV) (i : Nat) (h : i < ds.length) (x : Int), (cellsV ds).set (i * 5 + 2) (.int .i64 x) = cellsV (ds.set i (ds[i].x' x))
  | d :: ds, 0, _, x => rfl
  | d :: ds, i + 1, h, x => by
    rw [cellsV_cons, List.set_append_right _ _ (by simp [EvV.cells]; omega)]
    have e : (i + 1) * 5 + 2 - d.cells.length = i * 5 + 2 := by simp [EvV.cells]; omega
    rw [e, cellsV_x ds i (by simpa using h)]
    rfl
theorem cellsV_all : ∀ (ds : List EvV) (i : Nat) (_ : i < ds.length) (d' : EvV),
    (((((cellsV ds).set (i * 5) (.int .i64 d'.k)).set (i * 5 + 1) (.slice d'.A d'.n d'.c)).set (i * 5 + 2) (.int .i64 d'.x)).set (i * 5 + 3) (.int .i64 d'.y)).set (i * 5 + 4) (.int .i64 d'.b) = cellsV (ds.set i d')
  | d :: ds, 0, _, d' => rfl
  | d :: ds, i + 1, h, d' => by
    have ih := cellsV_all ds i (by simpa using h) d'
    have e : ∀ j, (i + 1) * 5 + j - d.cells.length = i * 5 + j := by intro j; simp [EvV.cells]; omega
    have e0 : (i + 1) * 5 - d.cells.length = i * 5 := e 0
    rw [cellsV_cons, List.set_append_right _ _ (by simp [EvV.cells]; omega), List.set_append_right _ _ (by simp [EvV.cells]; omega), List.set_append_right _ _ (by simp [EvV.cells]; omega), List.set_append_right _ _ (by simp [EvV.cells]; omega), List.set_append_right _ _ (by simp [EvV.cells]; omega), e0, e 1, e 2, e 3, e 4, ih]
    rfl

/-! ### Texts -/
/-- Bytes to be read, in blocks of a kind. -/
def TxtR (ok : Nat → Prop) (w : World) (A : Option Addr) (n c : Nat) (bs : List UInt8) : Prop :=
  bs.length = n ∧ Rd w A (bs.map bv) ∧ n ≤ c ∧ c ≤ maxLen ∧ (0 < n → ∀ a, A = some a → ok a.block) ∧ n ≤ 140737488355328
/-- Bytes of one's own. -/
def TxtO (ok : Nat → Prop) (w : World) (A : Option Addr) (n c : Nat) (bs : List UInt8) : Prop :=
  bs.length = n ∧ OwnB w 0 (.slice A n c) bs ∧ (∀ a, A = some a → ok a.block) ∧ n ≤ 140737488355328
section
variable {ok ok' : Nat → Prop} {w w' : World} {A : Option Addr} {n c : Nat} {bs : List UInt8}
theorem TxtO.r (h : TxtO ok w A n c bs) : TxtR ok w A n c bs := by
  obtain ⟨h1, h2, h3, h4⟩ := h
  obtain ⟨A', c', e, q1, q2, q3, _⟩ := OwnB.form h2
  injection e with e1 e2 e3
  subst e1 e3 e2
  exact ⟨rfl, q3, q1, q2, fun _ => h3, h4⟩
theorem TxtO.lt (h : TxtO ok w A n c bs) : ∀ a, A = some a → a.block < w.heap.size := by
  intro a e
  subst e
  exact (Own.lt h.2.1 a.block rfl).2
theorem TxtR.frame (h : TxtR ok w A n c bs) (hk : ∀ k, ok k → k < w.heap.size → w'.heap[k]? = w.heap[k]?) (hs : w.heap.size ≤ w'.heap.size) : TxtR ok w' A n c bs := by
  obtain ⟨h1, h2, h3, h4, h5, h6⟩ := h
  refine ⟨h1, ?_, h3, h4, h5, h6⟩
  rcases h2 with h2 | ⟨b, off, rfl, hb, hc⟩
  · exact .inl h2
  · rcases Nat.eq_zero_or_pos n with h0 | h0
    · left
      have : bs = [] := List.eq_nil_of_length_eq_zero (by omega)
      rw [this]; rfl
    · exact Rd.of_blocks (.inr ⟨b, off, rfl, hb, hc⟩) (fun k hk' ⟨o, e⟩ => by
        injection e with e; injection e with e
        subst e
        exact hk b (h5 h0 _ rfl) hk') hs
theorem Own.frameK {B : Nat} {e : TypeId} {s k : Nat} {v : Value} {vs : List Value} (h : w.ownsRow B e s v k vs) (hk : ∀ g, v.ownBlock = some g → w'.heap[g]? = w.heap[g]?) : w'.ownsRow B e s v k vs := by
  refine ⟨h.1, ?_⟩
  rcases h.2 with h2 | ⟨g, cap, cur, rfl, hb, hg, r⟩
  · exact .inl h2
  · exact .inr ⟨g, cap, cur, rfl, hb, (hk g rfl).trans hg, r⟩
theorem TxtO.frame (h : TxtO ok w A n c bs) (hk : ∀ k, ok k → k < w.heap.size → w'.heap[k]? = w.heap[k]?) : TxtO ok w' A n c bs := by
  have hl := h.lt
  obtain ⟨h1, h2, h3, h4⟩ := h
  refine ⟨h1, Own.frameK h2 (fun g e => ?_), h3, h4⟩
  cases A with
  | none => cases e
  | some a =>
    injection e with e
    subst e
    exact hk _ (h3 a rfl) (hl a rfl)
theorem TxtR.weak (h : TxtR ok w A n c bs) (hk : ∀ k, ok k → k < w.heap.size → ok' k) : TxtR ok' w A n c bs := by
  obtain ⟨h1, h2, h3, h4, h5, h6⟩ := h
  refine ⟨h1, h2, h3, h4, fun h0 a e => hk _ (h5 h0 a e) ?_, h6⟩
  rcases h2 with h2 | ⟨b, off, rfl, hb, hc⟩
  · have : bs = [] := by simpa using h2
    subst this
    simp at h1; omega
  · injection e with e; subst e; exact hb
theorem TxtO.weak (h : TxtO ok w A n c bs) (hk : ∀ k, ok k → k < w.heap.size → ok' k) : TxtO ok' w A n c bs :=
  ⟨h.1, h.2.1, fun a e => hk _ (h.2.2.1 a e) (h.lt a e), h.2.2.2⟩
end

/-! ### Events -/
def EvR (ok : Nat → Prop) (w : World) (d : EvV) (e : Ev) : Prop := d.k = e.k ∧ d.x = e.x ∧ d.y = e.y ∧ d.b = e.b ∧ TxtR ok w d.A d.n d.c e.t
def EvO (ok : Nat → Prop) (w : World) (d : EvV) (e : Ev) : Prop := d.k = e.k ∧ d.x = e.x ∧ d.y = e.y ∧ d.b = e.b ∧ TxtO ok w d.A d.n d.c e.t
def OwnV (w : World) (B : Nat) (v : Value) (ds : List EvV) : Prop := w.ownsRow B 36 5 v ds.length (cellsV ds)
/-- Events to be read at an address. -/
structure EvsR (ok : Nat → Prop) (w : World) (A : Option Addr) (ds : List EvV) (es : List Ev) : Prop where
  len : ds.length = es.length
  row : Rd w A (cellsV ds)
  ok_ : 0 < ds.length → ∀ a, A = some a → ok a.block
  each : ∀ i (h1 : i < ds.length) (h2 : i < es.length), EvR ok w ds[i] es[i]
/-- Events of one's own. -/
structure EvsO (ok : Nat → Prop) (w : World) (v : Value) (ds : List EvV) (es : List Ev) : Prop where
  len : ds.length = es.length
  row : OwnV w 0 v ds
  ok_ : ∀ k, v.ownBlock = some k → ok k
  each : ∀ i (h1 : i < ds.length) (h2 : i < es.length), EvO ok w ds[i] es[i]
section
variable {ok ok' : Nat → Prop} {w w' : World} {A : Option Addr} {v : Value} {d : EvV} {e : Ev} {ds : List EvV} {es : List Ev}
theorem EvO.r (h : EvO ok w d e) : EvR ok w d e := ⟨h.1, h.2.1, h.2.2.1, h.2.2.2.1, h.2.2.2.2.r⟩
theorem EvR.frame (h : EvR ok w d e) (hk : ∀ k, ok k → k < w.heap.size → w'.heap[k]? = w.heap[k]?) (hs : w.heap.size ≤ w'.heap.size) : EvR ok w' d e := ⟨h.1, h.2.1, h.2.2.1, h.2.2.2.1, h.2.2.2.2.frame hk hs⟩
theorem EvO.frame (h : EvO ok w d e) (hk : ∀ k, ok k → k < w.heap.size → w'.heap[k]? = w.heap[k]?) : EvO ok w' d e := ⟨h.1, h.2.1, h.2.2.1, h.2.2.2.1, h.2.2.2.2.frame hk⟩
theorem EvR.weak (h : EvR ok w d e) (hk : ∀ k, ok k → k < w.heap.size → ok' k) : EvR ok' w d e := ⟨h.1, h.2.1, h.2.2.1, h.2.2.2.1, h.2.2.2.2.weak hk⟩
theorem EvO.weak (h : EvO ok w d e) (hk : ∀ k, ok k → k < w.heap.size → ok' k) : EvO ok' w d e := ⟨h.1, h.2.1, h.2.2.1, h.2.2.2.1, h.2.2.2.2.weak hk⟩
theorem EvsR.frame (h : EvsR ok w A ds es) (hk : ∀ k, ok k → k < w.heap.size → w'.heap[k]? = w.heap[k]?) (hs : w.heap.size ≤ w'.heap.size) : EvsR ok w' A ds es := by
  refine ⟨h.len, ?_, h.ok_, fun i h1 h2 => (h.each i h1 h2).frame hk hs⟩
  rcases h.row with h2 | ⟨b, off, rfl, hb, hc⟩
  · exact .inl h2
  · rcases Nat.eq_zero_or_pos ds.length with h0 | h0
    · left
      have : ds = [] := List.eq_nil_of_length_eq_zero h0
      rw [this]; rfl
    · exact Rd.of_blocks (.inr ⟨b, off, rfl, hb, hc⟩) (fun k hk' ⟨o, e⟩ => by
        injection e with e; injection e with e
        subst e
        exact hk b (h.ok_ h0 _ rfl) hk') hs
theorem EvsR.weak (h : EvsR ok w A ds es) (hk : ∀ k, ok k → k < w.heap.size → ok' k) : EvsR ok' w A ds es := by
  refine ⟨h.len, h.row, fun h0 a e => hk _ (h.ok_ h0 a e) ?_, fun i h1 h2 => (h.each i h1 h2).weak hk⟩
  rcases h.row with h2 | ⟨b, off, rfl, hb, hc⟩
  · have := congrArg List.length h2
    rw [cellsV_length] at this
    simp at this; omega
  · injection e with e; subst e; exact hb
theorem EvsO.lt (h : EvsO ok w v ds es) : ∀ k, v.ownBlock = some k → k < w.heap.size := fun k e => (World.ownsRow.lt h.row k e).2
theorem EvsO.frame (h : EvsO ok w v ds es) (hk : ∀ k, ok k → k < w.heap.size → w'.heap[k]? = w.heap[k]?) : EvsO ok w' v ds es :=
  ⟨h.len, Own.frameK h.row (fun g e => hk g (h.ok_ g e) (h.lt g e)), h.ok_, fun i h1 h2 => (h.each i h1 h2).frame hk⟩
theorem EvsO.weak (h : EvsO ok w v ds es) (hk : ∀ k, ok k → k < w.heap.size → ok' k) : EvsO ok' w v ds es :=
  ⟨h.len, h.row, fun k e => hk k (h.ok_ k e) (h.lt k e), fun i h1 h2 => (h.each i h1 h2).weak hk⟩
theorem EvsR.below (h : EvsR ok w A ds es) (hb : Below w.heap.size w w') : EvsR ok w' A ds es := h.frame (fun k _ hk => hb.block k hk) hb.size
theorem EvsO.below (h : EvsO ok w v ds es) (hb : Below w.heap.size w w') : EvsO ok w' v ds es := h.frame (fun k _ hk => hb.block k hk)
theorem OwnV.form {B : Nat} (h : OwnV w B v ds) : ∃ A c, v = .slice A ds.length c ∧ ds.length ≤ c ∧ c ≤ maxLen ∧ Rd w A (cellsV ds) ∧ (∀ a, A = some a → B ≤ a.block ∧ a.block < w.heap.size ∧ a.off = 0 ∧ a.spot = none) ∧ (A = none → c = 0) := by
  obtain ⟨hl, h2⟩ := h
  rcases h2 with ⟨rfl, h0⟩ | ⟨g, cap, cur, rfl, hb, hg, hn, hm, hcs, ht⟩
  · obtain rfl : ds = [] := List.eq_nil_of_length_eq_zero h0
    exact ⟨none, 0, rfl, Nat.le_refl _, Nat.zero_le _, .inl rfl, fun a ha => by (cases ha), fun _ => rfl⟩
  · refine ⟨some ⟨g, 0, none⟩, cap, rfl, hn, hm, .inr ⟨g, 0, rfl, (Array.getElem?_eq_some_iff.1 hg).1, fun k hk => ?_⟩, fun a ha => ?_, fun ha => by (cases ha)⟩
    · rw [Nat.zero_add, cell_of_row w g k cur _ (0, 0) hg]
      have h1 : (cellsV ds)[k]? = some (cellsV ds)[k] := List.getElem?_eq_getElem hk
      rw [← h1]
      conv => rhs; rw [← ht]
      rw [List.getElem?_take, if_pos (by omega)]
      simp
    · injection ha with ha; subst ha; exact ⟨hb, (Array.getElem?_eq_some_iff.1 hg).1, rfl, rfl⟩
theorem EvsO.form (h : EvsO ok w v ds es) : ∃ A c, v = .slice A es.length c ∧ es.length ≤ c ∧ c ≤ maxLen ∧ EvsR ok w A ds es := by
  obtain ⟨A, c, e, h1, h2, h3, h4, _⟩ := OwnV.form h.row
  rw [h.len] at e h1
  refine ⟨A, c, e, h1, h2, ⟨h.len, h3, fun _ a ha => h.ok_ _ ?_, fun i g1 g2 => (h.each i g1 g2).r⟩⟩
  rw [e, ha]; rfl
/-- The five cells of an event. -/
theorem EvsR.five (h : EvsR ok w A ds es) (h0 : 0 < es.length) : ∃ b off, A = some ⟨b, off, none⟩ ∧ b < w.heap.size ∧ ok b ∧ ∀ i (h : i < ds.length),
    w.cell? ⟨b, off + i * 5, none⟩ = some (.int .i64 ds[i].k) ∧ w.cell? ⟨b, off + i * 5 + 1, none⟩ = some (.slice ds[i].A ds[i].n ds[i].c) ∧ w.cell? ⟨b, off + i * 5 + 2, none⟩ = some (.int .i64 ds[i].x) ∧
    w.cell? ⟨b, off + i * 5 + 3, none⟩ = some (.int .i64 ds[i].y) ∧ w.cell? ⟨b, off + i * 5 + 4, none⟩ = some (.int .i64 ds[i].b) := by
  have hl := h.len
  have hd : 0 < ds.length := by omega
  obtain ⟨b, off, rfl, hb, hc⟩ := h.row.addr (by rw [cellsV_length]; omega)
  refine ⟨b, off, rfl, hb, h.ok_ hd _ rfl, fun i hi => ?_⟩
  have get : ∀ j, j < 5 → w.cell? ⟨b, off + i * 5 + j, none⟩ = (ds[i].cells)[j]? := by
    intro j hj
    have hlt : i * 5 + j < (cellsV ds).length := by rw [cellsV_length]; omega
    rw [Nat.add_assoc, hc (i * 5 + j) hlt, ← List.getElem?_eq_getElem hlt, cellsV_get ds i hi j hj]
  exact ⟨get 0 (by decide), get 1 (by decide), get 2 (by decide), get 3 (by decide), get 4 (by decide)⟩
/-- One of them. -/
theorem EvsR.at_ (h : EvsR ok w A ds es) (k : Nat) (hk : k < es.length) : ∃ (e : Ev) (b off : Nat) (At : Option Addr) (m cm : Nat), e = es[k] ∧ A = some ⟨b, off, none⟩ ∧ b < w.heap.size ∧ ok b ∧ TxtR ok w At m cm e.t ∧
    w.cell? ⟨b, off + k * 5, none⟩ = some (.int .i64 e.k) ∧ w.cell? ⟨b, off + k * 5 + 1, none⟩ = some (.slice At m cm) ∧ w.cell? ⟨b, off + k * 5 + 2, none⟩ = some (.int .i64 e.x) ∧
    w.cell? ⟨b, off + k * 5 + 3, none⟩ = some (.int .i64 e.y) ∧ w.cell? ⟨b, off + k * 5 + 4, none⟩ = some (.int .i64 e.b) := by
  obtain ⟨b, off, hA, hb, ho, hc⟩ := h.five (by omega)
  have hkd : k < ds.length := by rw [h.len]; exact hk
  obtain ⟨c0, c1, c2, c3, c4⟩ := hc k hkd
  obtain ⟨e0, e2, e3, e4, ht⟩ := h.each k hkd hk
  rw [e0] at c0
  rw [e2] at c2
  rw [e3] at c3
  rw [e4] at c4
  exact ⟨_, b, off, _, _, _, rfl, hA, hb, ho, ht, c0, c1, c2, c3, c4⟩
end
end Go.Proofs.Ytgnciejbhaebeaa

/- Rows of events that the call itself makes: appended, made, stored into. Conditions: lengths that fit. -/
namespace Go.Proofs.Ytgnciejbhaebeaa
open Go Go.RowKit

theorem run_appN {P : Program} (w : World) (base : Nat) (t ty e : TypeId) (i : TypeInfo) (z : Value) (size bytes : Nat) (ht : P.underlying t = some (.slice e)) (hi : P.info? e = some i) (hz : i.zero = some z)
    (hsize : i.size = size) (hby : i.bytes = bytes) (hzs : z.cells.size = size) (hsz : 0 < size)
    (v : Value) (n : Nat) (xs : List Value) (hown : w.ownsRow base e size v n xs) (A : Option Addr) (m c : Nat) (news : List Value) (hm : news.length = m * size) (hr : Rd w A news) (h1 : ∀ u ∈ news, u.oneCell' = true)
    (hlen : n + m ≤ maxLen) (hbytes : (n + m) * bytes ≤ 140737488355328) (hbase : base ≤ w.heap.size) :
    ∃ v' w', (Builtin.append_ #[t, t] ty #[v, .slice A m c]).run P w = .ok v' w' ∧ w'.ownsRow base e size v' (n + m) (xs ++ news) ∧ w.grownBy w' v.ownBlock ∧
      (v'.ownBlock = v.ownBlock ∨ v'.ownBlock = some w.heap.size) := by
  rcases A with _ | ad
  · have hn : news = [] := by
      rcases hr with h | ⟨_, _, h, _⟩
      · exact h
      · cases h
    subst hn
    have hm0 : m = 0 := by
      rcases Nat.eq_zero_or_pos m with h | h
      · exact h
      · have := Nat.mul_pos h hsz
        simp at hm; omega
    subst hm0
    exact ⟨v, w, run_append_of_nil w base t ty e i size ht hi v n xs hown c, by simpa using hown, World.grownBy.refl w _, .inl rfl⟩
  · obtain ⟨v', w', hrun, h2, h3, _, h5⟩ := run_append_own_at (P := P) w base t ty e i z size bytes ht hi hz hsize hby hzs hsz v n xs hown ad m c news hm (hr.cellsAt ad rfl) h1 hlen hbytes hbase
    exact ⟨v', w', hrun, h2, h3, h5⟩

theorem info_ev : (Try.prog.info? 36).map (fun i => (i.zero, i.size, i.bytes)) = some (some (.agg #[.int .i64 0, .slice none 0 0, .int .i64 0, .int .i64 0, .int .i64 0]), 5, 56) := by kernel_rfl

/-- 'append(v, xs...)' on events. -/
theorem wpList_appV (w : World) {ops : Array Oper} {rest : List Oper} {o : Oper} {a : Act} {Q : Exit → Act → World → Prop} (hgd : o.guard = none) (s x : Operand)
    (ho : o.op = .call { callee := .builtin .append, args := #[s, x], argTypes := #[23, 23] })
    (B : Nat) (v : Value) (ds : List EvV) (hs : a.eval s = v) (hown : OwnV w B v ds)
    (A : Option Addr) (m c : Nat) (ns : List EvV) (hx : a.eval x = .slice A m c) (hm : ns.length = m) (hr : Rd w A (cellsV ns))
    (hlen : ds.length + m ≤ 2513169434916) (hB : B ≤ w.heap.size)
    (h : ∀ v' w', OwnV w' B v' (ds ++ ns) → w.grownBy w' v.ownBlock → (v'.ownBlock = v.ownBlock ∨ v'.ownBlock = some w.heap.size) → wpList Try.prog ops Q rest (a.put o.dst v') w') : wpList Try.prog ops Q (o :: rest) a w := by
  obtain ⟨i0, hi, hz0, hz1, hz2⟩ := info_parts info_ev
  refine wpList_plain hgd fun K hK => ?_
  obtain ⟨v', w', hrun, h2, h3, h4⟩ := run_appN (P := Try.prog) w B 23 o.type 36 i0 _ 5 56 Try.underlying23 hi hz0 hz1 hz2 rfl (by decide) v ds.length (cellsV ds) hown A m c (cellsV ns) (by rw [cellsV_length, hm]) hr (cellsV_one _) (by unfold maxLen; omega) (by omega) hB
  unfold Oper.wp execOp
  simp only [ho, resolve, invoke, builtin, Sem.run_bind, Sem.run_pure, Result.andThen_ok, List.map_toArray, List.map_cons, List.map_nil, hs, hx, hrun]
  refine hK _ _ (h v' w' ?_ h3 h4)
  unfold OwnV
  rw [cellsV_append, List.length_append, hm]
  exact h2
def EvV.zero : EvV := ⟨0, none, 0, 0, 0, 0, 0⟩
theorem cellsV_zeros : ∀ n, (madeCells #[Value.int .i64 0, .slice none 0 0, .int .i64 0, .int .i64 0, .int .i64 0] (n * 5)).toList = cellsV (List.replicate n EvV.zero) := by
  intro n
  apply List.ext_getElem?
  intro j
  rcases Nat.lt_or_ge j (n * 5) with hj | hj
  · have hi : j / 5 < (List.replicate n EvV.zero).length := by rw [List.length_replicate]; omega
    have h := cellsV_get (List.replicate n EvV.zero) (j / 5) hi (j % 5) (Nat.mod_lt _ (by decide))
    rw [show j / 5 * 5 + j % 5 = j by omega] at h
    rw [h]
    have e : (madeCells #[Value.int .i64 0, .slice none 0 0, .int .i64 0, .int .i64 0, .int .i64 0] (n * 5)).toList[j]? = some (#[Value.int .i64 0, .slice none 0 0, .int .i64 0, .int .i64 0, .int .i64 0][j % 5]!) := by
      simp only [madeCells, Array.getElem?_toList, Array.getElem?_map]
      rw [Array.getElem?_eq_getElem (by simpa using hj)]
      simp
    rw [e, List.getElem_replicate]
    have h5 : j % 5 < 5 := Nat.mod_lt _ (by decide)
    generalize j % 5 = q at h5
    match q, h5 with
    | 0, _ => rfl
    | 1, _ => rfl
    | 2, _ => rfl
    | 3, _ => rfl
    | 4, _ => rfl
  · rw [List.getElem?_eq_none (by simp [madeCells]; omega), List.getElem?_eq_none (by rw [cellsV_length, List.length_replicate]; omega)]
/-- 'make([]Event, n)'. -/
theorem wpList_makeV (w : World) {ops : Array Oper} {rest : List Oper} {o : Oper} {a : Act} {Q : Exit → Act → World → Prop} (hgd : o.guard = none) (l c : Operand) (ho : o.op = Op.makeSlice 23 l c)
    (kl kc : IntKind) (L C : Int) (n : Nat) (hl : a.eval l = .int kl L) (hc : a.eval c = .int kc C) (hL : L = (n : Int)) (hC : C = (n : Int)) (hn : n ≤ 2513169434916)
    (h : ∀ w', OwnV w' w.heap.size (.slice (some ⟨w.heap.size, 0, none⟩) n n) (List.replicate n EvV.zero) → Below w.heap.size w w' → w.grownBy w' none → wpList Try.prog ops Q rest (a.put o.dst (.slice (some ⟨w.heap.size, 0, none⟩) n n)) w') :
    wpList Try.prog ops Q (o :: rest) a w := by
  obtain ⟨i0, hi, hz0, hz1, hz2⟩ := info_parts info_ev
  refine wpList_make_full w hgd l c 23 ho w.heap.size 36 i0 _ 5 Try.underlying23 hi hz0 hz1 kl kc L C n hl hc hL hC (by rw [hz2]; omega) (by unfold maxLen; omega) (Nat.le_refl _) ?_
  intro w' h1 h2
  refine h w' ?_ ((Below.refl _ _).grown h2 (Nat.le_refl _) (fun k hk => by cases hk)) h2
  unfold OwnV
  rw [List.length_replicate, ← cellsV_zeros]
  exact h1

section
variable {w : World} {B g n c : Nat} {ds : List EvV}
theorem OwnV.len (h : OwnV w B (.slice (some ⟨g, 0, none⟩) n c) ds) : n = ds.length ∧ ds.length ≤ c ∧ c ≤ maxLen ∧ B ≤ g ∧ g < w.heap.size := by
  rcases h.2 with ⟨h, _⟩ | ⟨g', cap, cur, hv, hb, hg, hn, hm, _⟩
  · cases h
  · injection hv with h1 h2 h3
    injection h1 with h1
    injection h1 with h1
    subst h1
    exact ⟨h2, by omega, by omega, hb, (Array.getElem?_eq_some_iff.1 hg).1⟩
theorem OwnV.to_n (h : OwnV w B (.slice (some ⟨g, 0, none⟩) n c) ds) : w.ownsRow B 36 5 (.slice (some ⟨g, 0, none⟩) n c) n (cellsV ds) := by
  have := h.len.1; subst this; exact h
theorem OwnV.five (h : OwnV w B (.slice (some ⟨g, 0, none⟩) n c) ds) (i : Nat) (hi : i < ds.length) :
    w.cell? ⟨g, i * 5, none⟩ = some (.int .i64 ds[i].k) ∧ w.cell? ⟨g, i * 5 + 1, none⟩ = some (.slice ds[i].A ds[i].n ds[i].c) ∧ w.cell? ⟨g, i * 5 + 2, none⟩ = some (.int .i64 ds[i].x) ∧
    w.cell? ⟨g, i * 5 + 3, none⟩ = some (.int .i64 ds[i].y) ∧ w.cell? ⟨g, i * 5 + 4, none⟩ = some (.int .i64 ds[i].b) := by
  have hl := h.len.1
  have get : ∀ j, j < 5 → w.cell? ⟨g, i * 5 + j, none⟩ = (ds[i].cells)[j]? := by
    intro j hj
    rw [h.to_n.cellAt (i * 5 + j) (by omega), cellsV_get ds i hi j hj]
  exact ⟨get 0 (by decide), get 1 (by decide), get 2 (by decide), get 3 (by decide), get 4 (by decide)⟩
theorem OwnV.free (h : OwnV w B (.slice (some ⟨g, 0, none⟩) n c) ds) (j : Nat) : w.frozen? ⟨g, j, none⟩ = false := h.to_n.frozenAt j
theorem OwnV.setT (h : OwnV w B (.slice (some ⟨g, 0, none⟩) n c) ds) (i : Nat) (hi : i < ds.length) (A' : Option Addr) (n' c' : Nat) :
    OwnV (w.setCell ⟨g, i * 5 + 1, none⟩ (.slice A' n' c')) B (.slice (some ⟨g, 0, none⟩) n c) (ds.set i (ds[i].txt A' n' c')) := by
  have h2 := (h.to_n.stored (i * 5 + 1) (.slice A' n' c')).1
  have hl := h.len.1
  rw [cellsV_txt ds i hi] at h2
  unfold OwnV
  rw [List.length_set, ← hl]
  exact h2
theorem OwnV.setX (h : OwnV w B (.slice (some ⟨g, 0, none⟩) n c) ds) (i : Nat) (hi : i < ds.length) (x : Int) :
    OwnV (w.setCell ⟨g, i * 5 + 2, none⟩ (.int .i64 x)) B (.slice (some ⟨g, 0, none⟩) n c) (ds.set i (ds[i].x' x)) := by
  have h2 := (h.to_n.stored (i * 5 + 2) (.int .i64 x)).1
  have hl := h.len.1
  rw [cellsV_x ds i hi] at h2
  unfold OwnV
  rw [List.length_set, ← hl]
  exact h2
theorem OwnV.setAll (h : OwnV w B (.slice (some ⟨g, 0, none⟩) n c) ds) (i : Nat) (hi : i < ds.length) (d : EvV) :
    OwnV (((((w.setCell ⟨g, i * 5, none⟩ (.int .i64 d.k)).setCell ⟨g, i * 5 + 1, none⟩ (.slice d.A d.n d.c)).setCell ⟨g, i * 5 + 2, none⟩ (.int .i64 d.x)).setCell ⟨g, i * 5 + 3, none⟩ (.int .i64 d.y)).setCell ⟨g, i * 5 + 4, none⟩ (.int .i64 d.b)) B
      (.slice (some ⟨g, 0, none⟩) n c) (ds.set i d) := by
  have hl := h.len.1
  have h2 := (((((h.to_n.stored (i * 5) (.int .i64 d.k)).1.stored (i * 5 + 1) (.slice d.A d.n d.c)).1.stored (i * 5 + 2) (.int .i64 d.x)).1.stored (i * 5 + 3) (.int .i64 d.y)).1.stored (i * 5 + 4) (.int .i64 d.b)).1
  rw [cellsV_all ds i hi d] at h2
  unfold OwnV
  rw [List.length_set, ← hl]
  exact h2
theorem OwnV.low {B' : Nat} {v : Value} (h : OwnV w B v ds) (hB : B' ≤ B) : OwnV w B' v ds := ⟨h.1, h.2.imp id (fun ⟨g, cap, cur, hv, hb, r⟩ => ⟨g, cap, cur, hv, Nat.le_trans hB hb, r⟩)⟩
theorem OwnV.below {w' : World} {v : Value} (h : OwnV w B v ds) (hb : Below w.heap.size w w') : OwnV w' B v ds := Own.frameK h (fun g e => hb.block g (World.ownsRow.lt h g e).2)
theorem OwnV.drewN {v : Value} (h : OwnV w B v ds) (q : Nat) : OwnV (w.drewN q) B v ds := h
end
end Go.Proofs.Ytgnciejbhaebeaa

/- Copy and Same of the first reference: bytes copied, bytes held against each other. Conditions: lengths that fit. -/
namespace Go.Proofs.Ytgnciejbhaebeaa
open Go Go.RowKit

def sameB (xs ys : List UInt8) : Bool := decide (xs = ys)
/-! ### Copy -/
set_option maxRecDepth 100000 in
set_option maxHeartbeats 400000 in
theorem Copy_c (A : Option Addr) (n c : Nat) (bs : List UInt8) (w : World) (hn : bs.length = n) (hr : Rd w A (bs.map bv)) (hl : n ≤ 140737488355328) :
    Calls Try.prog 47 #[.slice A n c] w fun e w' => ∃ v, e = .returned v ∧ OwnB w' w.heap.size v bs ∧ Below w.heap.size w w' := by
  have HN := Lib.hid hn; clear hn
  go_enter Try.func47, Try.ntmps47
  go_wp2_with (first | (at_make; refine wpList_makeB _ rfl (.tmp 5) (.tmp 5) rfl _ _ _ _ n rfl rfl rfl rfl hl ?_))
  intro w1 h1 h2 h3
  go_wp2_with (with_reducible refine wpList_copyB _ rfl (.tmp 7) (.tmp 8) rfl w.heap.size w.heap.size n n _ rfl h1 A n c bs rfl HN.out (hr.below h2) ?_; intro w2 h4 h5 _; have H4 := Lib.hid h4; clear h4)
  go_wp2
  go_ret
  refine ⟨_, rfl, ?_, h2.trans h5⟩
  have e : List.take n bs ++ List.drop n (List.replicate n 0) = bs := by
    rw [List.take_of_length_le (by rw [HN.out]; exact Nat.le_refl _), List.drop_of_length_le (by simp), List.append_nil]
  have h4 := H4.out
  rw [e] at h4
  exact h4

/-! ### Same -/
theorem take_succ_eq {xs ys : List UInt8} {k : Nat} (h : xs.take k = ys.take k) (hx : k < xs.length) (hy : k < ys.length) (he : xs[k] = ys[k]) : xs.take (k + 1) = ys.take (k + 1) := by
  rw [List.take_succ_eq_append_getElem hx, List.take_succ_eq_append_getElem hy, h, he]
theorem bv_bne {x y : UInt8} : (((x.toNat : Int) != (y.toNat : Int)) = true) ↔ x ≠ y := by
  rw [bne_iff_ne]
  constructor
  · rintro h rfl; exact h rfl
  · intro h e; exact h (UInt8.toNat_inj.1 (by omega))
theorem bv_bne_f {x y : UInt8} : (((x.toNat : Int) != (y.toNat : Int)) = false) ↔ x = y := by
  constructor
  · intro h
    apply Classical.byContradiction
    intro hn
    rw [bv_bne.2 hn] at h
    cases h
  · rintro rfl; simp

set_option maxRecDepth 100000 in
set_option maxHeartbeats 400000 in
theorem Same_c (A1 A2 : Option Addr) (n1 n2 c1 c2 : Nat) (xs ys : List UInt8) (w : World) (l1 : xs.length = n1) (l2 : ys.length = n2) (h1 : Rd w A1 (xs.map bv)) (h2 : Rd w A2 (ys.map bv)) (m1 : n1 ≤ maxLen) :
    Calls Try.prog 21 #[.slice A1 n1 c1, .slice A2 n2 c2] w fun e w' => e = .returned (.bool (sameB xs ys)) ∧ ∃ q, w' = w.drewN q := by
  unfold maxLen at m1
  by_cases hne : n1 = n2
  · subst hne
    rcases Nat.eq_zero_or_pos n1 with h0 | h0
    · subst h0
      have e1 : sameB xs ys = true := by rw [List.eq_nil_of_length_eq_zero l1, List.eq_nil_of_length_eq_zero l2]; rfl
      rw [e1]
      go_enter Try.func21, Try.ntmps21
      go_wp2
      go_loopw [13] (fun i wr => i = .int .i64 (0 : Nat) ∧ wr = w) (fun i _ => 0)
      case atStart => exact ⟨rfl, rfl⟩
      case round =>
        obtain ⟨rfl, rfl⟩ := hrel
        go_wp2
        go_ret
        exact ⟨rfl, 0, rfl⟩
    · obtain ⟨b1, o1, rfl, _, g1⟩ := h1.addrB (by omega)
      obtain ⟨b2, o2, rfl, _, g2⟩ := h2.addrB (by omega)
      have H1 : Hid (∀ k (h : k < xs.length), w.cell? ⟨b1, o1 + k, none⟩ = some (bv xs[k])) := g1
      have H2 : Hid (∀ k (h : k < ys.length), w.cell? ⟨b2, o2 + k, none⟩ = some (bv ys[k])) := g2
      clear g1 g2 h1 h2
      have L1 := Lib.hid l1; clear l1
      have L2 := Lib.hid l2; clear l2
      go_enter Try.func21, Try.ntmps21
      go_wp2
      go_loopw [13] (fun i wr => ∃ k : Nat, k ≤ n1 ∧ i = .int .i64 k ∧ (∃ q, wr = w.drewN q) ∧ xs.take k = ys.take k) (fun i _ => n1 - (intOf i).toNat)
      case atStart => exact ⟨0, Nat.zero_le _, rfl, ⟨0, rfl⟩, rfl⟩
      case round =>
        obtain ⟨k, hk, rfl, ⟨q, rfl⟩, ht⟩ := hrel
        have HT := Lib.hid ht; clear ht
        by_cases hlt : k < n1
        · have hx : k < xs.length := by rw [L1.out]; exact hlt
          have hy : k < ys.length := by rw [L2.out]; exact hlt
          obtain ⟨x, ex⟩ : ∃ x, x = xs[k] := ⟨_, rfl⟩
          obtain ⟨y, ey⟩ : ∃ y, y = ys[k] := ⟨_, rfl⟩
          have c1 : w.cell? ⟨b1, o1 + k, none⟩ = some (.int .u8 (x.toNat : Int)) := by rw [ex]; exact H1.out k hx
          have c2 : w.cell? ⟨b2, o2 + k, none⟩ = some (.int .u8 (y.toNat : Int)) := by rw [ey]; exact H2.out k hy
          have EX := Lib.hid ex; clear ex
          have EY := Lib.hid ey; clear ey
          by_cases hxy : x = y
          · have hb := bv_bne_f.2 hxy
            have HXY := Lib.hid hxy; clear hxy
            go_wp2
            go_quiet (fail)
            go_wp2
            go_roundw
            case rel => exact ⟨k + 1, by omega, by go_num, ⟨_, rfl⟩, take_succ_eq HT.out (by rw [L1.out]; exact hlt) (by rw [L2.out]; exact hlt) (by rw [← EX.out, ← EY.out]; exact HXY.out)⟩
            case measure => simp [intOf]; omega
          · have hb := bv_bne.2 hxy
            have HXY := Lib.hid hxy; clear hxy
            have e1 : sameB xs ys = false := by
              unfold sameB
              refine decide_eq_false fun e => HXY.out ?_
              subst e
              rw [EX.out, EY.out]
            go_wp2
            go_quiet (fail)
            go_wp2
            go_ret
            exact ⟨by rw [e1]; rfl, _, World.drewN_drewN _ _ _⟩
        · obtain rfl : k = n1 := by omega
          have e1 : sameB xs ys = true := by
            unfold sameB
            refine decide_eq_true ?_
            have := HT.out
            rw [List.take_of_length_le (by rw [L1.out]; exact Nat.le_refl _), List.take_of_length_le (by rw [L2.out]; exact Nat.le_refl _)] at this
            exact this
          go_wp2
          go_ret
          exact ⟨by rw [e1]; rfl, _, rfl⟩
  · have hb : ((n1 : Int) != (n2 : Int)) = true := by rw [bne_iff_ne]; omega
    have e1 : sameB xs ys = false := by
      unfold sameB
      refine decide_eq_false fun e => hne ?_
      rw [← l1, ← l2, e]
    rw [e1]
    clear e1
    have L1 := Lib.hid l1; clear l1
    have L2 := Lib.hid l2; clear l2
    go_enter Try.func21, Try.ntmps21
    go_wp2
    go_ret
    exact ⟨rfl, 0, rfl⟩
theorem sameB_true {xs ys : List UInt8} (h : xs = ys) : sameB xs ys = true := decide_eq_true h
theorem Same_t (A1 A2 : Option Addr) (n1 n2 c1 c2 : Nat) (xs : List UInt8) (w : World) (l1 : xs.length = n1) (l2 : xs.length = n2) (h1 : Rd w A1 (xs.map bv)) (h2 : Rd w A2 (xs.map bv)) (m1 : n1 ≤ maxLen) :
    Calls Try.prog 21 #[.slice A1 n1 c1, .slice A2 n2 c2] w fun e w' => e = .returned (.bool true) ∧ ∃ q, w' = w.drewN q := by
  have h := Same_c A1 A2 n1 n2 c1 c2 xs xs w l1 l2 h1 h2 m1
  rw [sameB_true rfl] at h
  exact h
end Go.Proofs.Ytgnciejbhaebeaa

/- What slices.Clone, keys.clone and the reference's Copy answer of events: the same events in memory of one's own. Conditions: events that can be read; lengths that fit. -/
namespace Go.Proofs.Ytgnciejbhaebeaa
open Go Go.RowKit

set_option maxRecDepth 100000 in
set_option maxHeartbeats 1000000 in
/-- slices.Clone: the same cells in a row of its own. -/
theorem CloneV_c (ok : Nat → Prop) (A : Option Addr) (n c : Nat) (ds : List EvV) (es : List Ev) (w : World) (hn : es.length = n) (hr : EvsR ok w A ds es) (hl : n ≤ 2513169434916) :
    Calls Try.prog 64 #[.slice A n c] w fun r w' => ∃ v, r = .returned v ∧ OwnV w' w.heap.size v ds ∧ Below w.heap.size w w' := by
  have hdn : ds.length = n := hr.len.trans hn
  have HD := Lib.hid hdn; clear hdn
  have HR := Lib.hid hr.row; clear hr hn
  cases A with
  | none =>
    have h0 : ds = [] := by
      rcases HR.out with h | ⟨_, _, h, _⟩
      · have := congrArg List.length h
        rw [cellsV_length] at this
        simp only [List.length_nil] at this
        exact List.eq_nil_of_length_eq_zero (by omega)
      · cases h
    subst h0
    have he : ∀ w : World, (binOp .eql 23 (.slice none n c) (.slice none 0 0)).run Try.prog w = .ok (.bool true) w := fun _ => rfl
    go_enter Try.func64, Try.ntmps64
    go_wp2_with (fail)
    go_ret
    exact ⟨_, rfl, World.ownsRow_nil _ _ _ _, Below.refl _ _⟩
  | some a =>
    have o1 : OwnV (w.alloc (.cells #[] 36)) w.heap.size (.slice (some ⟨w.heap.size, 0, none⟩) 0 0) [] := World.ownsRow_made w #[] 0 (Nat.le_refl _) (Nat.zero_le _) rfl
    have k1 : Below w.heap.size w (w.alloc (.cells #[] 36)) := (Below.refl _ _).alloc (Nat.le_refl _) _
    have O1 := Lib.hid o1; clear o1
    have he : ∀ w : World, (binOp .eql 23 (.slice (some a) n c) (.slice none 0 0)).run Try.prog w = .ok (.bool false) w := fun _ => rfl
    go_enter Try.func64, Try.ntmps64
    go_wp2_with (first | (at_builtin; refine wpList_appV _ rfl (.tmp 5) (.tmp 6) rfl w.heap.size _ [] rfl O1.out (some a) n c ds rfl HD.out (HR.out.below k1) (by simpa using hl) k1.size ?_; intro v2 w2 h2 h3 _; have H2 := Lib.hid h2; clear h2; have k2 := k1.grown h3 k1.size (fun k e => (World.ownsRow.lt O1.out k e).1); clear h3))
    go_ret
    exact ⟨_, rfl, by have := H2.out; simpa using this, k2⟩

/-- k of them have texts of their own. -/
def Cl (w : World) (B g n c : Nat) (ds : List EvV) (es : List Ev) (k : Nat) : Prop :=
  ∃ ds' : List EvV, ds'.length = n ∧ OwnV w B (.slice (some ⟨g, 0, none⟩) n c) ds' ∧ (∀ i (h1 : i < ds'.length) (h2 : i < es.length), i < k → EvO (g < ·) w ds'[i] es[i]) ∧ ∀ i (h1 : i < ds'.length) (h2 : i < ds.length), k ≤ i → ds'[i] = ds[i]
theorem Cl.below {w w' : World} {B g n c k : Nat} {ds : List EvV} {es : List Ev} (h : Cl w B g n c ds es k) (hb : Below w.heap.size w w') : Cl w' B g n c ds es k := by
  obtain ⟨ds', h1, h2, h3, h4⟩ := h
  exact ⟨ds', h1, h2.below hb, fun i g1 g2 g3 => (h3 i g1 g2 g3).frame (fun q _ hq => hb.block q hq), h4⟩
theorem Cl.put {w : World} {B g n c k : Nat} {ds : List EvV} {es : List Ev} (h : Cl w B g n c ds es k) (hds : ds.length = n) (hes : es.length = n) (hk : k < n) (A' : Option Addr) (n' c' : Nat)
    (ht : ∀ (h1 : k < ds.length) (h2 : k < es.length), EvO (g < ·) w (ds[k].txt A' n' c') es[k]) : Cl (w.setCell ⟨g, k * 5 + 1, none⟩ (.slice A' n' c')) B g n c ds es (k + 1) := by
  obtain ⟨ds', h1, h2, h3, h4⟩ := h
  have far : ∀ {d : EvV} {e : Ev}, EvO (g < ·) w d e → EvO (g < ·) (w.setCell ⟨g, k * 5 + 1, none⟩ (.slice A' n' c')) d e := fun h => h.frame (fun q hq _ => heap_far _ (by show q ≠ g; omega))
  have e := h4 k (by omega) (by omega) (Nat.le_refl _)
  refine ⟨_, by rw [List.length_set]; exact h1, h2.setT k (by omega) A' n' c', fun i g1 g2 g3 => ?_, fun i g1 g2 g3 => ?_⟩
  · rw [List.getElem_set]
    split
    · rename_i hki
      subst hki
      rw [e]
      exact far (ht _ _)
    · exact far (h3 i _ _ (by omega))
  · rw [List.getElem_set, if_neg (by omega)]
    exact h4 i _ _ (by omega)
theorem Cl.cell {w : World} {B g n c k : Nat} {ds : List EvV} {es : List Ev} (h : Cl w B g n c ds es k) (j : Nat) (hj : j < n) :
    ∃ u0 u1 u2 u3 u4, w.cell? ⟨g, j * 5, none⟩ = some u0 ∧ w.cell? ⟨g, j * 5 + 1, none⟩ = some u1 ∧ w.cell? ⟨g, j * 5 + 2, none⟩ = some u2 ∧ w.cell? ⟨g, j * 5 + 3, none⟩ = some u3 ∧ w.cell? ⟨g, j * 5 + 4, none⟩ = some u4 := by
  obtain ⟨ds', h1, h2, _⟩ := h
  obtain ⟨a0, a1, a2, a3, a4⟩ := h2.five j (by omega)
  exact ⟨_, _, _, _, _, a0, a1, a2, a3, a4⟩
theorem Cl.free {w : World} {B g n c k : Nat} {ds : List EvV} {es : List Ev} (h : Cl w B g n c ds es k) (j : Nat) : w.frozen? ⟨g, j, none⟩ = false := by
  obtain ⟨ds', _, h2, _⟩ := h
  exact h2.free j
theorem Cl.out {w : World} {B g n c : Nat} {ds : List EvV} {es : List Ev} (h : Cl w B g n c ds es n) (hes : es.length = n) : ∃ ds', EvsO (B ≤ ·) w (.slice (some ⟨g, 0, none⟩) n c) ds' es := by
  obtain ⟨ds', h1, h2, h3, h4⟩ := h
  have hg := h2.len.2.2.2.1
  refine ⟨ds', by omega, h2.low (Nat.zero_le _), fun k e => ?_, fun i g1 g2 => (h3 i g1 g2 (by omega)).weak (fun q hq _ => by have : g < q := hq; show B ≤ q; omega)⟩
  injection e with e
  subst e
  exact hg

set_option maxRecDepth 100000 in
set_option maxHeartbeats 2000000 in
theorem clone_c (ok : Nat → Prop) (A : Option Addr) (n c : Nat) (ds : List EvV) (es : List Ev) (w : World) (hn : es.length = n) (hr : EvsR ok w A ds es) (hl : n ≤ 2513169434916) :
    Calls Try.prog 63 #[.slice A n c] w fun r w' => ∃ v ds', r = .returned v ∧ EvsO (w.heap.size ≤ ·) w' v ds' es ∧ Below w.heap.size w w' := by
  have hdn : ds.length = n := hr.len.trans hn
  have HD := Lib.hid hdn; clear hdn
  have HN := Lib.hid hn
  go_enter Try.func63, Try.ntmps63
  go_wp2_with (fail)
  refine (CloneV_c ok A n c ds es w hn hr hl).mono ?_
  rintro e w1 ⟨v, rfl, ho1, hb1⟩
  obtain ⟨A1, c1, rfl, p1, p2, p3, p4, p5⟩ := OwnV.form ho1
  rw [HD.out] at p1 ho1 ⊢
  have HO1 := Lib.hid ho1; clear ho1
  rcases Nat.eq_zero_or_pos n with h0 | h0
  · subst h0
    have he : es = [] := List.eq_nil_of_length_eq_zero HN.out
    have hde : ds = [] := List.eq_nil_of_length_eq_zero HD.out
    subst he hde
    clear p3 p4 p5 hn hr
    go_wp2_with (fail)
    go_loopw [9] (fun i wr => i = .int .i64 (0 : Nat) ∧ wr = w1) (fun _ _ => 0)
    case atStart => exact ⟨rfl, rfl⟩
    case round =>
      obtain ⟨rfl, rfl⟩ := hrel
      go_wp2_with (fail)
      go_ret
      have h1 := HO1.out
      exact ⟨_, [], rfl, ⟨rfl, OwnV.low h1 (Nat.zero_le _), fun k e => (World.ownsRow.lt h1 k e).1, fun i h1 => absurd h1 (by simp)⟩, hb1⟩
  · obtain ⟨b, off, rfl, _⟩ := p3.addr (by rw [cellsV_length, HD.out]; omega)
    obtain ⟨q1, q2, q3, q4⟩ := p4 _ rfl
    simp only at q3 q4
    subst q3
    have hcl : Cl w1 w.heap.size b n c1 ds es 0 := ⟨ds, HD.out, HO1.out, fun i _ _ h => absurd h (by omega), fun i _ _ _ => rfl⟩
    have HC := Lib.hid hcl; clear hcl HO1
    clear p3 p4 p5 hn
    have hl2 := q2
    go_wp2_with (fail)
    go_loopw [9] (fun i wr => ∃ k : Nat, k ≤ n ∧ i = .int .i64 k ∧ Hid (Cl wr w.heap.size b n c1 ds es k) ∧ Below w.heap.size w wr ∧ b < wr.heap.size) (fun i _ => n - (intOf i).toNat)
    case atStart => exact ⟨0, Nat.zero_le _, rfl, HC, hb1, q2⟩
    case round =>
      clear HC hb1
      obtain ⟨k, hk, rfl, HC, kb, hbw⟩ := hrel
      rcases Nat.lt_or_ge k n with hlt | hge
      · obtain ⟨e, b1, o1, At, m, cm, ee, rfl, hb1, -, tt, c0, ca, cb, cc, cd⟩ := hr.at_ k (by rw [HN.out]; exact hlt)
        obtain ⟨t1, t2, t3, t4, -, t5⟩ := tt
        have ca' := ca
        rw [← kb.cell (p := ⟨b1, _, none⟩) hb1] at ca'
        have T1 := Lib.hid t1; clear t1
        have EE := Lib.hid ee; clear ee
        clear c0 ca cb cc cd
        have hlt' : (k : Int) < (n : Int) := by omega
        go_wp2_with (first | (at_builtin; refine wpList_cloneB _ rfl (.tmp 18) rfl At m cm e.t rfl T1.out (t2.below kb) (by omega) ?_; intro A2 c2 w2 g1 g2 g3 g4 g5 g6; have G1 := Lib.hid g1; clear g1 g5; have HC2 := Lib.hid (HC.out.below g2); have k2 := kb.trans (g2.mono kb.size); obtain ⟨u0, u1, u2, u3, u4, -, f1, -⟩ := HC2.out.cell k hlt; have fr := HC2.out.free (k * 5 + 1); have gs := g2.size))
        have ho : EvO (b < ·) w2 (ds[k]'(by rw [HD.out]; exact hlt) |>.txt A2 m c2) (es[k]'(by rw [HN.out]; exact hlt)) := by
          have h5 := hr.each k (by rw [HD.out]; exact hlt) (by rw [HN.out]; exact hlt)
          rw [← EE.out] at h5 ⊢
          exact ⟨h5.1, h5.2.1, h5.2.2.1, h5.2.2.2.1, T1.out, Own.low G1.out (Nat.zero_le _), fun a ea => Nat.lt_of_lt_of_le hbw (g6 a ea).1, t5⟩
        have hput := HC2.out.put HD.out HN.out hlt A2 m c2 (fun _ _ => ho)
        have kset := k2.grown (only_set b (k * 5 + 1) (.slice A2 m c2)) k2.size (fun q e => by injection e with e; omega)
        have hput' := Lib.hid hput
        clear hput ho
        go_roundw
        case rel => exact ⟨k + 1, by omega, by go_num, hput', kset, by show b < _; simp [World.setCell]; omega⟩
        case measure => simp [intOf]; omega
      · obtain rfl : n = k := by omega
        go_wp2_with (fail)
        go_ret
        obtain ⟨ds', h1⟩ := HC.out.out HN.out
        exact ⟨_, ds', rfl, h1, kb⟩
end Go.Proofs.Ytgnciejbhaebeaa

/- What keys.May and the reference's May answer: whether an event may be. Conditions: none. -/
namespace Go.Proofs.Ytgnciejbhaebeaa
open Go Go.RowKit

set_option maxRecDepth 100000 in
set_option maxHeartbeats 4000000 in
theorem May_c (k x y b : Int) (A : Option Addr) (n c : Nat) (w : World) : Calls Try.prog 22 #[.agg #[.int .i64 k, .slice A n c, .int .i64 x, .int .i64 y, .int .i64 b]] w fun r w' => r = .returned (.bool (mayB k x y b n)) ∧ Below w.heap.size w w' := by
  have kb : Below w.heap.size w (w.alloc (.cells #[.int .i64 k, .slice A n c, .int .i64 x, .int .i64 y, .int .i64 b] 36)) := (Below.refl _ _).alloc (Nat.le_refl _) _
  by_cases k1 : k = 1
  · subst k1
    by_cases h0 : x = 0
    · subst h0
      by_cases h1 : y = 0
      · subst h1
        by_cases h2 : b = 0
        · subst h2
          by_cases h3 : (1 : Int) ≤ (n : Int)
          · skip
            by_cases h4 : ((n : Int) : Int) ≤ 8
            · skip
              have hm : mayB 1 0 0 0 n = true := decide_eq_true (by unfold mayP; omega)
              rw [hm]; clear hm
              have d0 : decide ((1 : Int) ≤ (n : Int)) = true := decide_eq_true (by omega)
              have d1 : decide (((n : Int) : Int) ≤ 8) = true := decide_eq_true (by omega)
              clear h3 h4
              go_enter Try.func22, Try.ntmps22
              go_wp2
              go_ret
              exact ⟨rfl, kb⟩
            · skip
              have hm : mayB 1 0 0 0 n = false := decide_eq_false (by unfold mayP; omega)
              rw [hm]; clear hm
              have d0 : decide ((1 : Int) ≤ (n : Int)) = true := decide_eq_true (by omega)
              have d1 : decide (((n : Int) : Int) ≤ 8) = false := decide_eq_false (by omega)
              clear h3 h4
              go_enter Try.func22, Try.ntmps22
              go_wp2
              go_ret
              exact ⟨rfl, kb⟩
          · skip
            have hm : mayB 1 0 0 0 n = false := decide_eq_false (by unfold mayP; omega)
            rw [hm]; clear hm
            have d0 : decide ((1 : Int) ≤ (n : Int)) = false := decide_eq_false (by omega)
            clear h3
            go_enter Try.func22, Try.ntmps22
            go_wp2
            go_ret
            exact ⟨rfl, kb⟩
        · skip
          have hm : mayB 1 0 0 b n = false := decide_eq_false (by unfold mayP; omega)
          rw [hm]; clear hm
          have d0 : (b == 0) = false := by rw [beq_eq_false_iff_ne]; omega
          clear h2
          go_enter Try.func22, Try.ntmps22
          go_wp2
          go_ret
          exact ⟨rfl, kb⟩
      · skip
        have hm : mayB 1 0 y b n = false := decide_eq_false (by unfold mayP; omega)
        rw [hm]; clear hm
        have d0 : (y == 0) = false := by rw [beq_eq_false_iff_ne]; omega
        clear h1
        go_enter Try.func22, Try.ntmps22
        go_wp2
        go_ret
        exact ⟨rfl, kb⟩
    · skip
      have hm : mayB 1 x y b n = false := decide_eq_false (by unfold mayP; omega)
      rw [hm]; clear hm
      have d0 : (x == 0) = false := by rw [beq_eq_false_iff_ne]; omega
      clear h0
      go_enter Try.func22, Try.ntmps22
      go_wp2
      go_ret
      exact ⟨rfl, kb⟩
  have e1 : (k == 1) = false := by rw [beq_eq_false_iff_ne]; exact k1
  by_cases k2 : k = 2
  · subst k2
    clear k1 e1
    by_cases h0 : x = 0
    · subst h0
      by_cases h1 : y = 0
      · subst h1
        by_cases h2 : b = 0
        · subst h2
          by_cases h3 : ((n : Int) : Int) ≤ 64
          · skip
            have hm : mayB 2 0 0 0 n = true := decide_eq_true (by unfold mayP; omega)
            rw [hm]; clear hm
            have d0 : decide (((n : Int) : Int) ≤ 64) = true := decide_eq_true (by omega)
            clear h3
            go_enter Try.func22, Try.ntmps22
            go_wp2
            go_ret
            exact ⟨rfl, kb⟩
          · skip
            have hm : mayB 2 0 0 0 n = false := decide_eq_false (by unfold mayP; omega)
            rw [hm]; clear hm
            have d0 : decide (((n : Int) : Int) ≤ 64) = false := decide_eq_false (by omega)
            clear h3
            go_enter Try.func22, Try.ntmps22
            go_wp2
            go_ret
            exact ⟨rfl, kb⟩
        · skip
          have hm : mayB 2 0 0 b n = false := decide_eq_false (by unfold mayP; omega)
          rw [hm]; clear hm
          have d0 : (b == 0) = false := by rw [beq_eq_false_iff_ne]; omega
          clear h2
          go_enter Try.func22, Try.ntmps22
          go_wp2
          go_ret
          exact ⟨rfl, kb⟩
      · skip
        have hm : mayB 2 0 y b n = false := decide_eq_false (by unfold mayP; omega)
        rw [hm]; clear hm
        have d0 : (y == 0) = false := by rw [beq_eq_false_iff_ne]; omega
        clear h1
        go_enter Try.func22, Try.ntmps22
        go_wp2
        go_ret
        exact ⟨rfl, kb⟩
    · skip
      have hm : mayB 2 x y b n = false := decide_eq_false (by unfold mayP; omega)
      rw [hm]; clear hm
      have d0 : (x == 0) = false := by rw [beq_eq_false_iff_ne]; omega
      clear h0
      go_enter Try.func22, Try.ntmps22
      go_wp2
      go_ret
      exact ⟨rfl, kb⟩
  have e2 : (k == 2) = false := by rw [beq_eq_false_iff_ne]; exact k2
  by_cases k3 : k = 3
  · subst k3
    clear k1 e1 k2 e2
    by_cases h0 : n = 0
    · subst h0
      by_cases h1 : (0 : Int) ≤ x
      · skip
        by_cases h2 : (x : Int) < 80
        · skip
          by_cases h3 : (0 : Int) ≤ y
          · skip
            by_cases h4 : (y : Int) < 24
            · skip
              by_cases h5 : (0 : Int) ≤ b
              · skip
                by_cases h6 : (b : Int) ≤ 255
                · skip
                  have hm : mayB 3 x y b 0 = true := decide_eq_true (by unfold mayP; omega)
                  rw [hm]; clear hm
                  have d0 : decide ((0 : Int) ≤ x) = true := decide_eq_true (by omega)
                  have d1 : decide ((x : Int) < 80) = true := decide_eq_true (by omega)
                  have d2 : decide ((0 : Int) ≤ y) = true := decide_eq_true (by omega)
                  have d3 : decide ((y : Int) < 24) = true := decide_eq_true (by omega)
                  have d4 : decide ((0 : Int) ≤ b) = true := decide_eq_true (by omega)
                  have d5 : decide ((b : Int) ≤ 255) = true := decide_eq_true (by omega)
                  clear h1 h2 h3 h4 h5 h6
                  go_enter Try.func22, Try.ntmps22
                  go_wp2
                  go_ret
                  exact ⟨rfl, kb⟩
                · skip
                  have hm : mayB 3 x y b 0 = false := decide_eq_false (by unfold mayP; omega)
                  rw [hm]; clear hm
                  have d0 : decide ((0 : Int) ≤ x) = true := decide_eq_true (by omega)
                  have d1 : decide ((x : Int) < 80) = true := decide_eq_true (by omega)
                  have d2 : decide ((0 : Int) ≤ y) = true := decide_eq_true (by omega)
                  have d3 : decide ((y : Int) < 24) = true := decide_eq_true (by omega)
                  have d4 : decide ((0 : Int) ≤ b) = true := decide_eq_true (by omega)
                  have d5 : decide ((b : Int) ≤ 255) = false := decide_eq_false (by omega)
                  clear h1 h2 h3 h4 h5 h6
                  go_enter Try.func22, Try.ntmps22
                  go_wp2
                  go_ret
                  exact ⟨rfl, kb⟩
              · skip
                have hm : mayB 3 x y b 0 = false := decide_eq_false (by unfold mayP; omega)
                rw [hm]; clear hm
                have d0 : decide ((0 : Int) ≤ x) = true := decide_eq_true (by omega)
                have d1 : decide ((x : Int) < 80) = true := decide_eq_true (by omega)
                have d2 : decide ((0 : Int) ≤ y) = true := decide_eq_true (by omega)
                have d3 : decide ((y : Int) < 24) = true := decide_eq_true (by omega)
                have d4 : decide ((0 : Int) ≤ b) = false := decide_eq_false (by omega)
                clear h1 h2 h3 h4 h5
                go_enter Try.func22, Try.ntmps22
                go_wp2
                go_ret
                exact ⟨rfl, kb⟩
            · skip
              have hm : mayB 3 x y b 0 = false := decide_eq_false (by unfold mayP; omega)
              rw [hm]; clear hm
              have d0 : decide ((0 : Int) ≤ x) = true := decide_eq_true (by omega)
              have d1 : decide ((x : Int) < 80) = true := decide_eq_true (by omega)
              have d2 : decide ((0 : Int) ≤ y) = true := decide_eq_true (by omega)
              have d3 : decide ((y : Int) < 24) = false := decide_eq_false (by omega)
              clear h1 h2 h3 h4
              go_enter Try.func22, Try.ntmps22
              go_wp2
              go_ret
              exact ⟨rfl, kb⟩
          · skip
            have hm : mayB 3 x y b 0 = false := decide_eq_false (by unfold mayP; omega)
            rw [hm]; clear hm
            have d0 : decide ((0 : Int) ≤ x) = true := decide_eq_true (by omega)
            have d1 : decide ((x : Int) < 80) = true := decide_eq_true (by omega)
            have d2 : decide ((0 : Int) ≤ y) = false := decide_eq_false (by omega)
            clear h1 h2 h3
            go_enter Try.func22, Try.ntmps22
            go_wp2
            go_ret
            exact ⟨rfl, kb⟩
        · skip
          have hm : mayB 3 x y b 0 = false := decide_eq_false (by unfold mayP; omega)
          rw [hm]; clear hm
          have d0 : decide ((0 : Int) ≤ x) = true := decide_eq_true (by omega)
          have d1 : decide ((x : Int) < 80) = false := decide_eq_false (by omega)
          clear h1 h2
          go_enter Try.func22, Try.ntmps22
          go_wp2
          go_ret
          exact ⟨rfl, kb⟩
      · skip
        have hm : mayB 3 x y b 0 = false := decide_eq_false (by unfold mayP; omega)
        rw [hm]; clear hm
        have d0 : decide ((0 : Int) ≤ x) = false := decide_eq_false (by omega)
        clear h1
        go_enter Try.func22, Try.ntmps22
        go_wp2
        go_ret
        exact ⟨rfl, kb⟩
    · skip
      have hm : mayB 3 x y b n = false := decide_eq_false (by unfold mayP; omega)
      rw [hm]; clear hm
      have d0 : ((n : Int) == 0) = false := by rw [beq_eq_false_iff_ne]; omega
      clear h0
      go_enter Try.func22, Try.ntmps22
      go_wp2
      go_ret
      exact ⟨rfl, kb⟩
  have e3 : (k == 3) = false := by rw [beq_eq_false_iff_ne]; exact k3
  by_cases k4 : k = 4
  · subst k4
    clear k1 e1 k2 e2 k3 e3
    by_cases h0 : n = 0
    · subst h0
      by_cases h1 : b = 0
      · subst h1
        by_cases h2 : (1 : Int) ≤ x
        · skip
          by_cases h3 : (x : Int) ≤ 80
          · skip
            by_cases h4 : (1 : Int) ≤ y
            · skip
              by_cases h5 : (y : Int) ≤ 24
              · skip
                have hm : mayB 4 x y 0 0 = true := decide_eq_true (by unfold mayP; omega)
                rw [hm]; clear hm
                have d0 : decide ((1 : Int) ≤ x) = true := decide_eq_true (by omega)
                have d1 : decide ((x : Int) ≤ 80) = true := decide_eq_true (by omega)
                have d2 : decide ((1 : Int) ≤ y) = true := decide_eq_true (by omega)
                have d3 : decide ((y : Int) ≤ 24) = true := decide_eq_true (by omega)
                clear h2 h3 h4 h5
                go_enter Try.func22, Try.ntmps22
                go_wp2
                go_ret
                exact ⟨rfl, kb⟩
              · skip
                have hm : mayB 4 x y 0 0 = false := decide_eq_false (by unfold mayP; omega)
                rw [hm]; clear hm
                have d0 : decide ((1 : Int) ≤ x) = true := decide_eq_true (by omega)
                have d1 : decide ((x : Int) ≤ 80) = true := decide_eq_true (by omega)
                have d2 : decide ((1 : Int) ≤ y) = true := decide_eq_true (by omega)
                have d3 : decide ((y : Int) ≤ 24) = false := decide_eq_false (by omega)
                clear h2 h3 h4 h5
                go_enter Try.func22, Try.ntmps22
                go_wp2
                go_ret
                exact ⟨rfl, kb⟩
            · skip
              have hm : mayB 4 x y 0 0 = false := decide_eq_false (by unfold mayP; omega)
              rw [hm]; clear hm
              have d0 : decide ((1 : Int) ≤ x) = true := decide_eq_true (by omega)
              have d1 : decide ((x : Int) ≤ 80) = true := decide_eq_true (by omega)
              have d2 : decide ((1 : Int) ≤ y) = false := decide_eq_false (by omega)
              clear h2 h3 h4
              go_enter Try.func22, Try.ntmps22
              go_wp2
              go_ret
              exact ⟨rfl, kb⟩
          · skip
            have hm : mayB 4 x y 0 0 = false := decide_eq_false (by unfold mayP; omega)
            rw [hm]; clear hm
            have d0 : decide ((1 : Int) ≤ x) = true := decide_eq_true (by omega)
            have d1 : decide ((x : Int) ≤ 80) = false := decide_eq_false (by omega)
            clear h2 h3
            go_enter Try.func22, Try.ntmps22
            go_wp2
            go_ret
            exact ⟨rfl, kb⟩
        · skip
          have hm : mayB 4 x y 0 0 = false := decide_eq_false (by unfold mayP; omega)
          rw [hm]; clear hm
          have d0 : decide ((1 : Int) ≤ x) = false := decide_eq_false (by omega)
          clear h2
          go_enter Try.func22, Try.ntmps22
          go_wp2
          go_ret
          exact ⟨rfl, kb⟩
      · skip
        have hm : mayB 4 x y b 0 = false := decide_eq_false (by unfold mayP; omega)
        rw [hm]; clear hm
        have d0 : (b == 0) = false := by rw [beq_eq_false_iff_ne]; omega
        clear h1
        go_enter Try.func22, Try.ntmps22
        go_wp2
        go_ret
        exact ⟨rfl, kb⟩
    · skip
      have hm : mayB 4 x y b n = false := decide_eq_false (by unfold mayP; omega)
      rw [hm]; clear hm
      have d0 : ((n : Int) == 0) = false := by rw [beq_eq_false_iff_ne]; omega
      clear h0
      go_enter Try.func22, Try.ntmps22
      go_wp2
      go_ret
      exact ⟨rfl, kb⟩
  have e4 : (k == 4) = false := by rw [beq_eq_false_iff_ne]; exact k4
  have hm : mayB k x y b n = false := decide_eq_false (by unfold mayP; omega)
  rw [hm]; clear hm
  clear k1 k2 k3 k4
  go_enter Try.func22, Try.ntmps22
  go_wp2
  go_ret
  exact ⟨rfl, kb⟩

set_option maxRecDepth 100000 in
set_option maxHeartbeats 4000000 in
theorem refMay_c (k x y b : Int) (A : Option Addr) (n c : Nat) (w : World) : Calls Try.prog 23 #[.agg #[.int .i64 k, .slice A n c, .int .i64 x, .int .i64 y, .int .i64 b]] w fun r w' => r = .returned (.bool (mayB k x y b n)) ∧ Below w.heap.size w w' := by
  have kb : Below w.heap.size w (w.alloc (.cells #[.int .i64 k, .slice A n c, .int .i64 x, .int .i64 y, .int .i64 b] 36)) := (Below.refl _ _).alloc (Nat.le_refl _) _
  by_cases k1 : k = 1
  · subst k1
    by_cases h0 : x = 0
    · subst h0
      by_cases h1 : y = 0
      · subst h1
        by_cases h2 : b = 0
        · subst h2
          by_cases h3 : n = 0
          · subst h3
            have hm : mayB 1 0 0 0 0 = false := decide_eq_false (by unfold mayP; omega)
            rw [hm]; clear hm
            go_enter Try.func23, Try.ntmps23
            go_wp2
            go_ret
            exact ⟨rfl, kb⟩
          · have hn0 : 0 < n := by omega
            by_cases h4 : ((n : Int) : Int) < 9
            · skip
              have hm : mayB 1 0 0 0 n = true := decide_eq_true (by unfold mayP; omega)
              rw [hm]; clear hm
              have d0 : decide (((n : Int) : Int) < 9) = true := decide_eq_true (by omega)
              clear h3 h4
              go_enter Try.func23, Try.ntmps23
              go_wp2
              go_ret
              exact ⟨rfl, kb⟩
            · skip
              have hm : mayB 1 0 0 0 n = false := decide_eq_false (by unfold mayP; omega)
              rw [hm]; clear hm
              have d0 : decide (((n : Int) : Int) < 9) = false := decide_eq_false (by omega)
              clear h3 h4
              go_enter Try.func23, Try.ntmps23
              go_wp2
              go_ret
              exact ⟨rfl, kb⟩
        · skip
          have hm : mayB 1 0 0 b n = false := decide_eq_false (by unfold mayP; omega)
          rw [hm]; clear hm
          have d0 : (b == 0) = false := by rw [beq_eq_false_iff_ne]; omega
          clear h2
          go_enter Try.func23, Try.ntmps23
          go_wp2
          go_ret
          exact ⟨rfl, kb⟩
      · skip
        have hm : mayB 1 0 y b n = false := decide_eq_false (by unfold mayP; omega)
        rw [hm]; clear hm
        have d0 : (y == 0) = false := by rw [beq_eq_false_iff_ne]; omega
        clear h1
        go_enter Try.func23, Try.ntmps23
        go_wp2
        go_ret
        exact ⟨rfl, kb⟩
    · skip
      have hm : mayB 1 x y b n = false := decide_eq_false (by unfold mayP; omega)
      rw [hm]; clear hm
      have d0 : (x == 0) = false := by rw [beq_eq_false_iff_ne]; omega
      clear h0
      go_enter Try.func23, Try.ntmps23
      go_wp2
      go_ret
      exact ⟨rfl, kb⟩
  have e1 : (k == 1) = false := by rw [beq_eq_false_iff_ne]; exact k1
  by_cases k2 : k = 2
  · subst k2
    clear k1 e1
    by_cases h0 : x = 0
    · subst h0
      by_cases h1 : y = 0
      · subst h1
        by_cases h2 : b = 0
        · subst h2
          by_cases h3 : ((n : Int) : Int) < 65
          · skip
            have hm : mayB 2 0 0 0 n = true := decide_eq_true (by unfold mayP; omega)
            rw [hm]; clear hm
            have d0 : decide (((n : Int) : Int) < 65) = true := decide_eq_true (by omega)
            clear h3
            go_enter Try.func23, Try.ntmps23
            go_wp2
            go_ret
            exact ⟨rfl, kb⟩
          · skip
            have hm : mayB 2 0 0 0 n = false := decide_eq_false (by unfold mayP; omega)
            rw [hm]; clear hm
            have d0 : decide (((n : Int) : Int) < 65) = false := decide_eq_false (by omega)
            clear h3
            go_enter Try.func23, Try.ntmps23
            go_wp2
            go_ret
            exact ⟨rfl, kb⟩
        · skip
          have hm : mayB 2 0 0 b n = false := decide_eq_false (by unfold mayP; omega)
          rw [hm]; clear hm
          have d0 : (b == 0) = false := by rw [beq_eq_false_iff_ne]; omega
          clear h2
          go_enter Try.func23, Try.ntmps23
          go_wp2
          go_ret
          exact ⟨rfl, kb⟩
      · skip
        have hm : mayB 2 0 y b n = false := decide_eq_false (by unfold mayP; omega)
        rw [hm]; clear hm
        have d0 : (y == 0) = false := by rw [beq_eq_false_iff_ne]; omega
        clear h1
        go_enter Try.func23, Try.ntmps23
        go_wp2
        go_ret
        exact ⟨rfl, kb⟩
    · skip
      have hm : mayB 2 x y b n = false := decide_eq_false (by unfold mayP; omega)
      rw [hm]; clear hm
      have d0 : (x == 0) = false := by rw [beq_eq_false_iff_ne]; omega
      clear h0
      go_enter Try.func23, Try.ntmps23
      go_wp2
      go_ret
      exact ⟨rfl, kb⟩
  have e2 : (k == 2) = false := by rw [beq_eq_false_iff_ne]; exact k2
  by_cases k3 : k = 3
  · subst k3
    clear k1 e1 k2 e2
    have pl : ∀ q : Prop, q → q := fun _ h => h
    clear pl
    by_cases px : x = 0
    · subst px
      by_cases py : y = 0
      · subst py
        by_cases h0 : n = 0
        · subst h0
          by_cases h5 : (0 : Int) ≤ b
          · skip
            by_cases h6 : (b : Int) < 256
            · skip
              have hm : mayB 3 0 0 b 0 = true := decide_eq_true (by unfold mayP; omega)
              rw [hm]; clear hm
              have d0 : decide ((0 : Int) ≤ b) = true := decide_eq_true (by omega)
              have d1 : decide ((b : Int) < 256) = true := decide_eq_true (by omega)
              clear h5 h6
              go_enter Try.func23, Try.ntmps23
              go_wp2
              go_ret
              exact ⟨rfl, kb⟩
            · skip
              have hm : mayB 3 0 0 b 0 = false := decide_eq_false (by unfold mayP; omega)
              rw [hm]; clear hm
              have d0 : decide ((0 : Int) ≤ b) = true := decide_eq_true (by omega)
              have d1 : decide ((b : Int) < 256) = false := decide_eq_false (by omega)
              clear h5 h6
              go_enter Try.func23, Try.ntmps23
              go_wp2
              go_ret
              exact ⟨rfl, kb⟩
          · skip
            have hm : mayB 3 0 0 b 0 = false := decide_eq_false (by unfold mayP; omega)
            rw [hm]; clear hm
            have d0 : decide ((0 : Int) ≤ b) = false := decide_eq_false (by omega)
            clear h5
            go_enter Try.func23, Try.ntmps23
            go_wp2
            go_ret
            exact ⟨rfl, kb⟩
        · skip
          have hm : mayB 3 0 0 b n = false := decide_eq_false (by unfold mayP; omega)
          rw [hm]; clear hm
          have d0 : ((n : Int) == 0) = false := by rw [beq_eq_false_iff_ne]; omega
          clear h0
          go_enter Try.func23, Try.ntmps23
          go_wp2
          go_ret
          exact ⟨rfl, kb⟩
      · have py' : (y == 0) = false := by rw [beq_eq_false_iff_ne]; exact py
        by_cases h0 : n = 0
        · subst h0
          by_cases h3 : (0 : Int) ≤ y
          · skip
            by_cases h4 : (y : Int) ≤ 23
            · skip
              by_cases h5 : (0 : Int) ≤ b
              · skip
                by_cases h6 : (b : Int) < 256
                · skip
                  have hm : mayB 3 0 y b 0 = true := decide_eq_true (by unfold mayP; omega)
                  rw [hm]; clear hm
                  have d0 : decide ((0 : Int) ≤ y) = true := decide_eq_true (by omega)
                  have d1 : decide ((y : Int) ≤ 23) = true := decide_eq_true (by omega)
                  have d2 : decide ((0 : Int) ≤ b) = true := decide_eq_true (by omega)
                  have d3 : decide ((b : Int) < 256) = true := decide_eq_true (by omega)
                  clear py h3 h4 h5 h6
                  go_enter Try.func23, Try.ntmps23
                  go_wp2
                  go_ret
                  exact ⟨rfl, kb⟩
                · skip
                  have hm : mayB 3 0 y b 0 = false := decide_eq_false (by unfold mayP; omega)
                  rw [hm]; clear hm
                  have d0 : decide ((0 : Int) ≤ y) = true := decide_eq_true (by omega)
                  have d1 : decide ((y : Int) ≤ 23) = true := decide_eq_true (by omega)
                  have d2 : decide ((0 : Int) ≤ b) = true := decide_eq_true (by omega)
                  have d3 : decide ((b : Int) < 256) = false := decide_eq_false (by omega)
                  clear py h3 h4 h5 h6
                  go_enter Try.func23, Try.ntmps23
                  go_wp2
                  go_ret
                  exact ⟨rfl, kb⟩
              · skip
                have hm : mayB 3 0 y b 0 = false := decide_eq_false (by unfold mayP; omega)
                rw [hm]; clear hm
                have d0 : decide ((0 : Int) ≤ y) = true := decide_eq_true (by omega)
                have d1 : decide ((y : Int) ≤ 23) = true := decide_eq_true (by omega)
                have d2 : decide ((0 : Int) ≤ b) = false := decide_eq_false (by omega)
                clear py h3 h4 h5
                go_enter Try.func23, Try.ntmps23
                go_wp2
                go_ret
                exact ⟨rfl, kb⟩
            · skip
              have hm : mayB 3 0 y b 0 = false := decide_eq_false (by unfold mayP; omega)
              rw [hm]; clear hm
              have d0 : decide ((0 : Int) ≤ y) = true := decide_eq_true (by omega)
              have d1 : decide ((y : Int) ≤ 23) = false := decide_eq_false (by omega)
              clear py h3 h4
              go_enter Try.func23, Try.ntmps23
              go_wp2
              go_ret
              exact ⟨rfl, kb⟩
          · skip
            have hm : mayB 3 0 y b 0 = false := decide_eq_false (by unfold mayP; omega)
            rw [hm]; clear hm
            have d0 : decide ((0 : Int) ≤ y) = false := decide_eq_false (by omega)
            clear py h3
            go_enter Try.func23, Try.ntmps23
            go_wp2
            go_ret
            exact ⟨rfl, kb⟩
        · skip
          have hm : mayB 3 0 y b n = false := decide_eq_false (by unfold mayP; omega)
          rw [hm]; clear hm
          have d0 : ((n : Int) == 0) = false := by rw [beq_eq_false_iff_ne]; omega
          clear py h0
          go_enter Try.func23, Try.ntmps23
          go_wp2
          go_ret
          exact ⟨rfl, kb⟩
    · have px' : (x == 0) = false := by rw [beq_eq_false_iff_ne]; exact px
      by_cases h0 : n = 0
      · subst h0
        by_cases h1 : (0 : Int) ≤ x
        · skip
          by_cases h2 : (x : Int) ≤ 79
          · skip
            by_cases h3 : (0 : Int) ≤ y
            · skip
              by_cases h4 : (y : Int) ≤ 23
              · skip
                by_cases h5 : (0 : Int) ≤ b
                · skip
                  by_cases h6 : (b : Int) < 256
                  · skip
                    have hm : mayB 3 x y b 0 = true := decide_eq_true (by unfold mayP; omega)
                    rw [hm]; clear hm
                    have d0 : decide ((0 : Int) ≤ x) = true := decide_eq_true (by omega)
                    have d1 : decide ((x : Int) ≤ 79) = true := decide_eq_true (by omega)
                    have d2 : decide ((0 : Int) ≤ y) = true := decide_eq_true (by omega)
                    have d3 : decide ((y : Int) ≤ 23) = true := decide_eq_true (by omega)
                    have d4 : decide ((0 : Int) ≤ b) = true := decide_eq_true (by omega)
                    have d5 : decide ((b : Int) < 256) = true := decide_eq_true (by omega)
                    clear px h1 h2 h3 h4 h5 h6
                    go_enter Try.func23, Try.ntmps23
                    go_wp2
                    go_ret
                    exact ⟨rfl, kb⟩
                  · skip
                    have hm : mayB 3 x y b 0 = false := decide_eq_false (by unfold mayP; omega)
                    rw [hm]; clear hm
                    have d0 : decide ((0 : Int) ≤ x) = true := decide_eq_true (by omega)
                    have d1 : decide ((x : Int) ≤ 79) = true := decide_eq_true (by omega)
                    have d2 : decide ((0 : Int) ≤ y) = true := decide_eq_true (by omega)
                    have d3 : decide ((y : Int) ≤ 23) = true := decide_eq_true (by omega)
                    have d4 : decide ((0 : Int) ≤ b) = true := decide_eq_true (by omega)
                    have d5 : decide ((b : Int) < 256) = false := decide_eq_false (by omega)
                    clear px h1 h2 h3 h4 h5 h6
                    go_enter Try.func23, Try.ntmps23
                    go_wp2
                    go_ret
                    exact ⟨rfl, kb⟩
                · skip
                  have hm : mayB 3 x y b 0 = false := decide_eq_false (by unfold mayP; omega)
                  rw [hm]; clear hm
                  have d0 : decide ((0 : Int) ≤ x) = true := decide_eq_true (by omega)
                  have d1 : decide ((x : Int) ≤ 79) = true := decide_eq_true (by omega)
                  have d2 : decide ((0 : Int) ≤ y) = true := decide_eq_true (by omega)
                  have d3 : decide ((y : Int) ≤ 23) = true := decide_eq_true (by omega)
                  have d4 : decide ((0 : Int) ≤ b) = false := decide_eq_false (by omega)
                  clear px h1 h2 h3 h4 h5
                  go_enter Try.func23, Try.ntmps23
                  go_wp2
                  go_ret
                  exact ⟨rfl, kb⟩
              · skip
                have hm : mayB 3 x y b 0 = false := decide_eq_false (by unfold mayP; omega)
                rw [hm]; clear hm
                have d0 : decide ((0 : Int) ≤ x) = true := decide_eq_true (by omega)
                have d1 : decide ((x : Int) ≤ 79) = true := decide_eq_true (by omega)
                have d2 : decide ((0 : Int) ≤ y) = true := decide_eq_true (by omega)
                have d3 : decide ((y : Int) ≤ 23) = false := decide_eq_false (by omega)
                clear px h1 h2 h3 h4
                go_enter Try.func23, Try.ntmps23
                go_wp2
                go_ret
                exact ⟨rfl, kb⟩
            · skip
              have hm : mayB 3 x y b 0 = false := decide_eq_false (by unfold mayP; omega)
              rw [hm]; clear hm
              have d0 : decide ((0 : Int) ≤ x) = true := decide_eq_true (by omega)
              have d1 : decide ((x : Int) ≤ 79) = true := decide_eq_true (by omega)
              have d2 : decide ((0 : Int) ≤ y) = false := decide_eq_false (by omega)
              clear px h1 h2 h3
              go_enter Try.func23, Try.ntmps23
              go_wp2
              go_ret
              exact ⟨rfl, kb⟩
          · skip
            have hm : mayB 3 x y b 0 = false := decide_eq_false (by unfold mayP; omega)
            rw [hm]; clear hm
            have d0 : decide ((0 : Int) ≤ x) = true := decide_eq_true (by omega)
            have d1 : decide ((x : Int) ≤ 79) = false := decide_eq_false (by omega)
            clear px h1 h2
            go_enter Try.func23, Try.ntmps23
            go_wp2
            go_ret
            exact ⟨rfl, kb⟩
        · skip
          have hm : mayB 3 x y b 0 = false := decide_eq_false (by unfold mayP; omega)
          rw [hm]; clear hm
          have d0 : decide ((0 : Int) ≤ x) = false := decide_eq_false (by omega)
          clear px h1
          go_enter Try.func23, Try.ntmps23
          go_wp2
          go_ret
          exact ⟨rfl, kb⟩
      · skip
        have hm : mayB 3 x y b n = false := decide_eq_false (by unfold mayP; omega)
        rw [hm]; clear hm
        have d0 : ((n : Int) == 0) = false := by rw [beq_eq_false_iff_ne]; omega
        clear px h0
        go_enter Try.func23, Try.ntmps23
        go_wp2
        go_ret
        exact ⟨rfl, kb⟩
  have e3 : (k == 3) = false := by rw [beq_eq_false_iff_ne]; exact k3
  by_cases k4 : k = 4
  · subst k4
    clear k1 e1 k2 e2 k3 e3
    have pl : ∀ q : Prop, q → q := fun _ h => h
    clear pl
    by_cases px : x = 0
    · subst px
      by_cases py : y = 0
      · subst py
        by_cases h0 : n = 0
        · subst h0
          by_cases h1 : b = 0
          · subst h1
            have hm : mayB 4 0 0 0 0 = false := decide_eq_false (by unfold mayP; omega)
            rw [hm]; clear hm
            go_enter Try.func23, Try.ntmps23
            go_wp2
            go_ret
            exact ⟨rfl, kb⟩
          · skip
            have hm : mayB 4 0 0 b 0 = false := decide_eq_false (by unfold mayP; omega)
            rw [hm]; clear hm
            have d0 : (b == 0) = false := by rw [beq_eq_false_iff_ne]; omega
            clear h1
            go_enter Try.func23, Try.ntmps23
            go_wp2
            go_ret
            exact ⟨rfl, kb⟩
        · skip
          have hm : mayB 4 0 0 b n = false := decide_eq_false (by unfold mayP; omega)
          rw [hm]; clear hm
          have d0 : ((n : Int) == 0) = false := by rw [beq_eq_false_iff_ne]; omega
          clear h0
          go_enter Try.func23, Try.ntmps23
          go_wp2
          go_ret
          exact ⟨rfl, kb⟩
      · have py' : (y == 0) = false := by rw [beq_eq_false_iff_ne]; exact py
        by_cases h0 : n = 0
        · subst h0
          by_cases h1 : b = 0
          · subst h1
            have hm : mayB 4 0 y 0 0 = false := decide_eq_false (by unfold mayP; omega)
            rw [hm]; clear hm
            clear py
            go_enter Try.func23, Try.ntmps23
            go_wp2
            go_ret
            exact ⟨rfl, kb⟩
          · skip
            have hm : mayB 4 0 y b 0 = false := decide_eq_false (by unfold mayP; omega)
            rw [hm]; clear hm
            have d0 : (b == 0) = false := by rw [beq_eq_false_iff_ne]; omega
            clear py h1
            go_enter Try.func23, Try.ntmps23
            go_wp2
            go_ret
            exact ⟨rfl, kb⟩
        · skip
          have hm : mayB 4 0 y b n = false := decide_eq_false (by unfold mayP; omega)
          rw [hm]; clear hm
          have d0 : ((n : Int) == 0) = false := by rw [beq_eq_false_iff_ne]; omega
          clear py h0
          go_enter Try.func23, Try.ntmps23
          go_wp2
          go_ret
          exact ⟨rfl, kb⟩
    · have px' : (x == 0) = false := by rw [beq_eq_false_iff_ne]; exact px
      by_cases h0 : n = 0
      · subst h0
        by_cases h1 : b = 0
        · subst h1
          by_cases h2 : (0 : Int) < x
          · skip
            by_cases h3 : (x : Int) ≤ 80
            · skip
              by_cases h4 : (0 : Int) < y
              · skip
                by_cases h5 : (y : Int) ≤ 24
                · skip
                  have hm : mayB 4 x y 0 0 = true := decide_eq_true (by unfold mayP; omega)
                  rw [hm]; clear hm
                  have d0 : decide ((0 : Int) < x) = true := decide_eq_true (by omega)
                  have d1 : decide ((x : Int) ≤ 80) = true := decide_eq_true (by omega)
                  have d2 : decide ((0 : Int) < y) = true := decide_eq_true (by omega)
                  have d3 : decide ((y : Int) ≤ 24) = true := decide_eq_true (by omega)
                  clear px h2 h3 h4 h5
                  go_enter Try.func23, Try.ntmps23
                  go_wp2
                  go_ret
                  exact ⟨rfl, kb⟩
                · skip
                  have hm : mayB 4 x y 0 0 = false := decide_eq_false (by unfold mayP; omega)
                  rw [hm]; clear hm
                  have d0 : decide ((0 : Int) < x) = true := decide_eq_true (by omega)
                  have d1 : decide ((x : Int) ≤ 80) = true := decide_eq_true (by omega)
                  have d2 : decide ((0 : Int) < y) = true := decide_eq_true (by omega)
                  have d3 : decide ((y : Int) ≤ 24) = false := decide_eq_false (by omega)
                  clear px h2 h3 h4 h5
                  go_enter Try.func23, Try.ntmps23
                  go_wp2
                  go_ret
                  exact ⟨rfl, kb⟩
              · skip
                have hm : mayB 4 x y 0 0 = false := decide_eq_false (by unfold mayP; omega)
                rw [hm]; clear hm
                have d0 : decide ((0 : Int) < x) = true := decide_eq_true (by omega)
                have d1 : decide ((x : Int) ≤ 80) = true := decide_eq_true (by omega)
                have d2 : decide ((0 : Int) < y) = false := decide_eq_false (by omega)
                clear px h2 h3 h4
                go_enter Try.func23, Try.ntmps23
                go_wp2
                go_ret
                exact ⟨rfl, kb⟩
            · skip
              have hm : mayB 4 x y 0 0 = false := decide_eq_false (by unfold mayP; omega)
              rw [hm]; clear hm
              have d0 : decide ((0 : Int) < x) = true := decide_eq_true (by omega)
              have d1 : decide ((x : Int) ≤ 80) = false := decide_eq_false (by omega)
              clear px h2 h3
              go_enter Try.func23, Try.ntmps23
              go_wp2
              go_ret
              exact ⟨rfl, kb⟩
          · skip
            have hm : mayB 4 x y 0 0 = false := decide_eq_false (by unfold mayP; omega)
            rw [hm]; clear hm
            have d0 : decide ((0 : Int) < x) = false := decide_eq_false (by omega)
            clear px h2
            go_enter Try.func23, Try.ntmps23
            go_wp2
            go_ret
            exact ⟨rfl, kb⟩
        · skip
          have hm : mayB 4 x y b 0 = false := decide_eq_false (by unfold mayP; omega)
          rw [hm]; clear hm
          have d0 : (b == 0) = false := by rw [beq_eq_false_iff_ne]; omega
          clear px h1
          go_enter Try.func23, Try.ntmps23
          go_wp2
          go_ret
          exact ⟨rfl, kb⟩
      · skip
        have hm : mayB 4 x y b n = false := decide_eq_false (by unfold mayP; omega)
        rw [hm]; clear hm
        have d0 : ((n : Int) == 0) = false := by rw [beq_eq_false_iff_ne]; omega
        clear px h0
        go_enter Try.func23, Try.ntmps23
        go_wp2
        go_ret
        exact ⟨rfl, kb⟩
  have e4 : (k == 4) = false := by rw [beq_eq_false_iff_ne]; exact k4
  by_cases px : x = 0
  · subst px
    by_cases py : y = 0
    · subst py
      have hm : mayB k 0 0 b n = false := decide_eq_false (by unfold mayP; omega)
      rw [hm]; clear hm
      clear k1 k2 k3 k4
      go_enter Try.func23, Try.ntmps23
      go_wp2
      go_ret
      exact ⟨rfl, kb⟩
    · have py' : (y == 0) = false := by rw [beq_eq_false_iff_ne]; exact py
      have hm : mayB k 0 y b n = false := decide_eq_false (by unfold mayP; omega)
      rw [hm]; clear hm
      clear k1 k2 k3 k4 py
      go_enter Try.func23, Try.ntmps23
      go_wp2
      go_ret
      exact ⟨rfl, kb⟩
  · have px' : (x == 0) = false := by rw [beq_eq_false_iff_ne]; exact px
    have hm : mayB k x y b n = false := decide_eq_false (by unfold mayP; omega)
    rw [hm]; clear hm
    clear k1 k2 k3 k4 px
    go_enter Try.func23, Try.ntmps23
    go_wp2
    go_ret
    exact ⟨rfl, kb⟩
end Go.Proofs.Ytgnciejbhaebeaa
