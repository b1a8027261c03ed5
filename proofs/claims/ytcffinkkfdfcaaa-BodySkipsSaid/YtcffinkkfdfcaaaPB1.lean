/- Parts one behind the other: Plain words and lemmas on memory: cells that read as a list; rows that the call itself made; append onto them; Events as plain data: which may be; Blocks of memory, whole: reads, stores, what stays; words in a row; Events in memory: rows of five cells each, with their texts; which blocks they lie in; what stays; Items: a list of items, each with bytes or a list of its own, as plain data; how it lies in memory; The reference's row of items, in plain words: entries depth first, each with its depth and the kind ahead; Rows of events that the call itself makes: appended, made, stored into; Rows of the reference's entries in memory: seven cells each. Conditions: as told at each. -/
import Derived.Test.YtcffinkkfdfcaaaProg
import Derived.WalkKit
import Derived.ProofKit
import Derived.OpenShut
import Derived.ShutString
import Derived.ChangeOld
import Derived.Below
import Derived.KernelRfl
import Derived.Lib.Hide
import Derived.Deep.QuietTactic
import Derived.BigQuiet
import Derived.WalkLawsBesides
import Derived.WalkSpells
import Derived.Laws.CopyOwn
import Derived.Laws.AppendOwnNone
import Derived.Maps.AppendAt
import Derived.Deep.AppendLies
import Derived.Deep.RegionWith
import Derived.Deep.RegionLaw
import Derived.Deep.DeepCutAuto
import Derived.Deep.CutRange
import Derived.Outline
import Derived.Handy
import Derived.Laws.OwnMore

set_option linter.unusedVariables false
set_option linter.unusedSimpArgs false
/- Plain words and lemmas on memory: cells that read as a list; rows that the call itself made; append onto them. Conditions: none. -/
namespace Go.Proofs.Ytcffinkkfdfcaaa
open Go Go.RowKit

/-- A byte as a value. -/
def bv (b : UInt8) : Value := .int .u8 (b.toNat : Int)

/-- The address reads as these cells. -/
def Rd (w : World) (A : Option Addr) (vs : List Value) : Prop :=
  vs = [] ∨ ∃ b off, A = some ⟨b, off, none⟩ ∧ b < w.heap.size ∧ ∀ k (h : k < vs.length), w.cell? ⟨b, off + k, none⟩ = some vs[k]

section
variable {w w' : World} {A : Option Addr} {vs : List Value}
theorem Rd.nil_ : Rd w A [] := .inl rfl
theorem Rd.of_blocks (h : Rd w A vs) (hk : ∀ b, b < w.heap.size → (∃ off, A = some ⟨b, off, none⟩) → w'.heap[b]? = w.heap[b]?) (hs : w.heap.size ≤ w'.heap.size) : Rd w' A vs := by
  rcases h with h | ⟨b, off, rfl, hb, h⟩
  · exact .inl h
  · exact .inr ⟨b, off, rfl, by omega, fun k hk' => (World.cell?_of_block (w := w) (a := ⟨b, off + k, none⟩) (hk b hb ⟨off, rfl⟩)).trans (h k hk')⟩
theorem Rd.below (h : Rd w A vs) (hb : Below w.heap.size w w') : Rd w' A vs := h.of_blocks (fun b h1 _ => hb.block b h1) hb.size
theorem Rd.drewN (h : Rd w A vs) (n : Nat) : Rd (w.drewN n) A vs := h
theorem Rd.alloc (h : Rd w A vs) (o : Obj) : Rd (w.alloc o) A vs := h.of_blocks (fun b h1 _ => Below.heap_alloc w o b h1) (by simp)
theorem Rd.grown (h : Rd w A vs) {row : Option Nat} (hg : w.grownBy w' row) (hne : ∀ b off, A = some ⟨b, off, none⟩ → row ≠ some b) : Rd w' A vs :=
  h.of_blocks (fun b h1 ⟨off, e⟩ => hg.block b h1 (fun e' => hne b off e e'.symm)) hg.size
theorem Rd.take (h : Rd w A vs) (n : Nat) : Rd w A (vs.take n) := by
  rcases h with rfl | ⟨b, off, rfl, hb, h⟩
  · exact .inl (by simp)
  · exact .inr ⟨b, off, rfl, hb, fun k hk => by
      have hk' : k < vs.length := by simp at hk; omega
      simpa using h k hk'⟩
/-- The cut 's[k:]' as the model writes its address: at the capacity's end it stays. -/
theorem Rd.cut (h : Rd w A vs) {k n c : Nat} (hn : vs.length = n) (hk : k ≤ n) (hc : n ≤ c) : Rd w (if c = k then A else A.map (fun x => x.add k)) (vs.drop k) := by
  rcases h with rfl | ⟨b, off, rfl, hb, h⟩
  · exact .inl (by simp)
  · by_cases e : c = k
    · left; apply List.eq_nil_of_length_eq_zero; rw [List.length_drop]; omega
    · rw [if_neg e]
      refine .inr ⟨b, off + k, ?_, hb, fun j hj => ?_⟩
      · unfold Addr.add
        by_cases h0 : k = 0 <;> simp [h0]
      · simp only [List.length_drop] at hj
        rw [Nat.add_assoc, h (k + j) (by omega)]
        simp
theorem Rd.addr (h : Rd w A vs) (h0 : 0 < vs.length) : ∃ b off, A = some ⟨b, off, none⟩ ∧ b < w.heap.size ∧ ∀ k (h : k < vs.length), w.cell? ⟨b, off + k, none⟩ = some vs[k] := by
  rcases h with rfl | h
  · simp at h0
  · exact h
theorem Rd.cellsAt (h : Rd w A vs) : ∀ ad, A = some ad → ∀ j u, vs[j]? = some u → w.cell? (ad.add j) = some u := by
  intro ad e j u hu
  have hj := (List.getElem?_eq_some_iff.1 hu).1
  obtain ⟨b, off, rfl, _, hc⟩ := h.addr (by omega)
  injection e with e
  subst e
  have h2 := hc j hj
  rw [List.getElem?_eq_getElem hj] at hu
  injection hu with hu
  rw [← hu, ← h2]
  unfold Addr.add
  by_cases h0 : j = 0
  · subst h0; rfl
  · simp [h0]
end

theorem grownBy_of_below {a w : World} (h : Below a.heap.size a w) (row : Option Nat) : a.grownBy w row := ⟨h.os, h.tape, h.output, h.size, fun i hi _ => h.block i hi⟩
theorem below_drewN {B : Nat} {a w : World} (h : Below B a w) (n : Nat) : Below B a (w.drewN n) := ⟨h.os, h.tape, h.output, h.size, h.block⟩

/-- A row of cells, made by the call itself from block B on. -/
def Own (w : World) (B : Nat) (e : TypeId) (v : Value) (vs : List Value) : Prop := w.ownsRow B e 1 v vs.length vs

section
variable {w w' : World} {B : Nat} {e : TypeId} {v : Value} {vs : List Value}
theorem Own.nil_ (w : World) (B : Nat) (e : TypeId) : Own w B e (.slice none 0 0) [] := World.ownsRow_nil _ _ _ _
theorem Own.form (h : Own w B e v vs) : ∃ A c, v = .slice A vs.length c ∧ vs.length ≤ c ∧ c ≤ maxLen ∧ Rd w A vs ∧ (∀ a, A = some a → B ≤ a.block ∧ a.block < w.heap.size ∧ a.off = 0 ∧ a.spot = none) ∧ (A = none → c = 0) := by
  have hh := h
  obtain ⟨hl, h2⟩ := h
  rcases h2 with ⟨rfl, h0⟩ | ⟨g, cap, cur, rfl, hb, hg, hn, hm, hcs, ht⟩
  · obtain rfl : vs = [] := List.eq_nil_of_length_eq_zero h0
    exact ⟨none, 0, rfl, Nat.le_refl _, Nat.zero_le _, .inl rfl, fun a ha => by (cases ha), fun _ => rfl⟩
  · refine ⟨some ⟨g, 0, none⟩, cap, rfl, hn, hm, .inr ⟨g, 0, rfl, (Array.getElem?_eq_some_iff.1 hg).1, fun k hk => ?_⟩, fun a ha => ?_, fun ha => by (cases ha)⟩
    · have := hh.cellAt k (by omega)
      rw [Nat.zero_add, this, List.getElem?_eq_getElem hk]
    · injection ha with ha; subst ha; exact ⟨hb, (Array.getElem?_eq_some_iff.1 hg).1, rfl, rfl⟩
theorem Own.below (h : Own w B e v vs) (hb : Below w.heap.size w w') : Own w' B e v vs := World.ownsRow.kept h (grownBy_of_below hb (some w.heap.size)) (by
  rcases h.2 with ⟨rfl, _⟩ | ⟨g, cap, cur, rfl, _, hg, _⟩
  · left; rfl
  · right
    have := (Array.getElem?_eq_some_iff.1 hg).1
    simp [Value.ownBlock]; omega)
theorem Own.drewN (h : Own w B e v vs) (n : Nat) : Own (w.drewN n) B e v vs := h
theorem Own.alloc (h : Own w B e v vs) (o : Obj) : Own (w.alloc o) B e v vs := World.ownsRow.alloc h o
theorem Own.low {B' : Nat} (h : Own w B e v vs) (hB : B' ≤ B) : Own w B' e v vs := by
  refine ⟨h.1, ?_⟩
  rcases h.2 with h2 | ⟨g, cap, cur, hv, hb, r⟩
  · exact .inl h2
  · exact .inr ⟨g, cap, cur, hv, by omega, r⟩
theorem Own.setBelow (h : Own w B e v vs) {p : Addr} (hp : p.block < B) (u : Value) : Own (w.setCell p u) B e v vs := ownsRow_setCell_below h hp u
theorem Own.lt (h : Own w B e v vs) : ∀ k, v.ownBlock = some k → B ≤ k ∧ k < w.heap.size := World.ownsRow.lt h
end

/-- append onto a row of the call's own, whatever the source: nil, empty or not. -/
theorem run_append_of_nil {P : Program} (w : World) (base : Nat) (t ty e : TypeId) (i : TypeInfo) (size : Nat) (ht : P.underlying t = some (.slice e)) (hi : P.info? e = some i)
    (v : Value) (n : Nat) (xs : List Value) (hown : w.ownsRow base e size v n xs) (c : Nat) : (Builtin.append_ #[t, t] ty #[v, .slice none 0 c]).run P w = .ok v w := by
  rcases hown.2 with ⟨rfl, rfl⟩ | ⟨g, cap, cur, rfl, _, _, hnc, _⟩
  · simp [Builtin.append_, run_underlying ht, sizeOf, typeInfo, hi, Builtin.lenOf, Builtin.firstCells]
  · simp [Builtin.append_, run_underlying ht, sizeOf, typeInfo, hi, Builtin.lenOf, Builtin.firstCells, hnc, storeCells]

theorem run_app {P : Program} (w : World) (base : Nat) (t ty e : TypeId) (i : TypeInfo) (z : Value) (bytes : Nat) (ht : P.underlying t = some (.slice e)) (hi : P.info? e = some i) (hz : i.zero = some z)
    (hsize : i.size = 1) (hby : i.bytes = bytes) (hzs : z.cells.size = 1)
    (v : Value) (xs : List Value) (hown : Own w base e v xs) (A : Option Addr) (m c : Nat) (news : List Value) (hm : news.length = m) (hr : Rd w A news) (h1 : ∀ u ∈ news, u.oneCell' = true)
    (hlen : xs.length + m ≤ maxLen) (hbytes : (xs.length + m) * bytes ≤ 140737488355328) (hbase : base ≤ w.heap.size) :
    ∃ v' w', (Builtin.append_ #[t, t] ty #[v, .slice A m c]).run P w = .ok v' w' ∧ Own w' base e v' (xs ++ news) ∧ w.grownBy w' v.ownBlock ∧
      (v'.ownBlock = v.ownBlock ∨ v'.ownBlock = some w.heap.size) := by
  subst hm
  rcases A with _ | ad
  · have hn : news = [] := by
      rcases hr with h | ⟨_, _, h, _⟩
      · exact h
      · cases h
    subst hn
    exact ⟨v, w, run_append_of_nil w base t ty e i 1 ht hi v xs.length xs hown c, by simpa using hown, World.grownBy.refl w _, .inl rfl⟩
  · obtain ⟨v', w', hrun, h2, h3, _, h5⟩ := run_append_own_at (P := P) w base t ty e i z 1 bytes ht hi hz hsize hby hzs (by decide) v xs.length xs hown ad news.length c news (by simp) (hr.cellsAt ad rfl) h1 hlen hbytes hbase
    exact ⟨v', w', hrun, by simpa [Own] using h2, h3, h5⟩

theorem wpList_app {P : Program} (w : World) {ops : Array Oper} {rest : List Oper} {o : Oper} {a : Act} {Q : Exit → Act → World → Prop} (hgd : o.guard = none) (s x : Operand) (t : TypeId)
    (ho : o.op = .call { callee := .builtin .append, args := #[s, x], argTypes := #[t, t] })
    (base : Nat) (e : TypeId) (i : TypeInfo) (z : Value) (bytes : Nat) (ht : P.underlying t = some (.slice e)) (hi : P.info? e = some i) (hz : i.zero = some z)
    (hsize : i.size = 1) (hby : i.bytes = bytes) (hzs : z.cells.size = 1)
    (v : Value) (xs : List Value) (hs : a.eval s = v) (hown : Own w base e v xs)
    (A : Option Addr) (m c : Nat) (news : List Value) (hx : a.eval x = .slice A m c) (hm : news.length = m) (hr : Rd w A news) (h1 : ∀ u ∈ news, u.oneCell' = true)
    (hlen : xs.length + m ≤ maxLen) (hbytes : (xs.length + m) * bytes ≤ 140737488355328) (hbase : base ≤ w.heap.size)
    (h : ∀ v' w', Own w' base e v' (xs ++ news) → w.grownBy w' v.ownBlock → (v'.ownBlock = v.ownBlock ∨ v'.ownBlock = some w.heap.size) → wpList P ops Q rest (a.put o.dst v') w') : wpList P ops Q (o :: rest) a w := by
  refine wpList_plain hgd fun K hK => ?_
  obtain ⟨v', w', hrun, h2, h3, h4⟩ := run_app (P := P) w base t o.type e i z bytes ht hi hz hsize hby hzs v xs hown A m c news hm hr h1 hlen hbytes hbase
  unfold Oper.wp execOp
  simp only [ho, resolve, invoke, builtin, Sem.run_bind, Sem.run_pure, Result.andThen_ok, List.map_toArray, List.map_cons, List.map_nil, hs, hx, hrun]
  exact hK _ _ (h v' w' h2 h3 h4)

/-! ### Bytes -/
theorem info_u8 : (Try.prog.info? 5).map (fun i => (i.zero, i.size, i.bytes)) = some (some (.int .u8 0), 1, 1) := by kernel_rfl

/-- Bytes in a row of the call's own. -/
def OwnB (w : World) (B : Nat) (v : Value) (bs : List UInt8) : Prop := Own w B 5 v (bs.map bv)

theorem bv_one (bs : List UInt8) : ∀ u ∈ bs.map bv, u.oneCell' = true := by
  intro u hu
  obtain ⟨_, _, rfl⟩ := List.mem_map.1 hu
  rfl
theorem bv_inj {x y : UInt8} (h : bv x = bv y) : x = y := by
  simp only [bv, Value.int.injEq, true_and] at h
  exact UInt8.toNat_inj.1 (by omega)
theorem OwnB.form {w : World} {B : Nat} {v : Value} {bs : List UInt8} (h : OwnB w B v bs) :
    ∃ A c, v = .slice A bs.length c ∧ bs.length ≤ c ∧ c ≤ maxLen ∧ Rd w A (bs.map bv) ∧ (∀ a, A = some a → B ≤ a.block ∧ a.block < w.heap.size ∧ a.off = 0 ∧ a.spot = none) := by
  obtain ⟨A, c, h1, h2, h3, h4, h5, _⟩ := Own.form h
  simp only [List.length_map] at h1 h2
  exact ⟨A, c, h1, h2, h3, h4, h5⟩

theorem Rd.addrB {w : World} {A : Option Addr} {bs : List UInt8} (h : Rd w A (bs.map bv)) (h0 : 0 < bs.length) :
    ∃ b off, A = some ⟨b, off, none⟩ ∧ b < w.heap.size ∧ ∀ k (h : k < bs.length), w.cell? ⟨b, off + k, none⟩ = some (bv bs[k]) := by
  obtain ⟨b, off, h1, h2, h3⟩ := h.addr (by rw [List.length_map]; exact h0)
  refine ⟨b, off, h1, h2, fun k hk => ?_⟩
  have := h3 k (by rw [List.length_map]; exact hk)
  rw [this, List.getElem_map]

/-- 'append(v, xs...)' on bytes. -/
theorem wpList_appB (w : World) {ops : Array Oper} {rest : List Oper} {o : Oper} {a : Act} {Q : Exit → Act → World → Prop} (hgd : o.guard = none) (s x : Operand)
    (ho : o.op = .call { callee := .builtin .append, args := #[s, x], argTypes := #[25, 25] })
    (B : Nat) (v : Value) (bs : List UInt8) (hs : a.eval s = v) (hown : OwnB w B v bs)
    (A : Option Addr) (m c : Nat) (ns : List UInt8) (hx : a.eval x = .slice A m c) (hm : ns.length = m) (hr : Rd w A (ns.map bv))
    (hlen : bs.length + m ≤ 140737488355328) (hB : B ≤ w.heap.size)
    (h : ∀ v' w', OwnB w' B v' (bs ++ ns) → w.grownBy w' v.ownBlock → (v'.ownBlock = v.ownBlock ∨ v'.ownBlock = some w.heap.size) → wpList Try.prog ops Q rest (a.put o.dst v') w') : wpList Try.prog ops Q (o :: rest) a w := by
  obtain ⟨i0, hi, hz0, hz1, hz2⟩ := info_parts info_u8
  refine wpList_app w hgd s x 25 ho B 5 i0 (.int .u8 0) 1 Try.underlying25 hi hz0 hz1 hz2 rfl v (bs.map bv) hs hown A m c (ns.map bv) hx (by simpa using hm) hr (bv_one _) (by simp only [List.length_map, maxLen]; omega) (by simp only [List.length_map]; omega) hB ?_
  intro v' w' h1 h2 h3
  exact h v' w' (by simpa [OwnB] using h1) h2 h3

/-- 'append(v, x)' of one byte, laid in a new block. -/
theorem wpList_appB1 (w : World) {ops : Array Oper} {rest : List Oper} {o : Oper} {a : Act} {Q : Exit → Act → World → Prop} (hgd : o.guard = none) (s x : Operand)
    (ho : o.op = .call { callee := .builtin .append, args := #[s, x], argTypes := #[25, 25] })
    (B : Nat) (v : Value) (bs : List UInt8) (hs : a.eval s = v) (hown : OwnB w B v bs) (X : Value) (hx : a.eval x = .slice (some ⟨w.heap.size, 0, none⟩) 1 1) (b : UInt8) (hX : X = bv b)
    (hlen : bs.length + 1 ≤ 140737488355328) (hB : B ≤ w.heap.size)
    (h : ∀ v' w', OwnB w' B v' (bs ++ [b]) → (w.alloc (.cells #[X] 5)).grownBy w' v.ownBlock → (v'.ownBlock = v.ownBlock ∨ v'.ownBlock = some (w.heap.size + 1)) → wpList Try.prog ops Q rest (a.put o.dst v') w') : wpList Try.prog ops Q (o :: rest) a (w.alloc (.cells #[X] 5)) := by
  subst hX
  refine wpList_appB _ hgd s x ho B v bs hs (Own.alloc hown _) _ 1 1 [b] hx rfl (.inr ⟨w.heap.size, 0, rfl, by simp, fun k hk => ?_⟩) hlen (by simp; omega) (fun v' w' h1 h2 h3 => h v' w' h1 h2 (by simpa using h3))
  have : k = 0 := by simp at hk; omega
  subst this
  exact cell_of_row _ _ 0 _ _ (0, 0) (heap_alloc_new w _)

/-! ### Rows whose head is known: reads, stores -/
section
variable {w : World} {B : Nat} {e : TypeId} {g n c : Nat} {vs : List Value}
theorem Own.len (h : Own w B e (.slice (some ⟨g, 0, none⟩) n c) vs) : n = vs.length ∧ vs.length ≤ c := by
  rcases h.2 with ⟨h, _⟩ | ⟨g', cap, cur, hv, _, _, hn, _⟩
  · cases h
  · injection hv with _ h2 h3
    exact ⟨h2, by omega⟩
theorem Own.to_n (h : Own w B e (.slice (some ⟨g, 0, none⟩) n c) vs) : w.ownsRow B e 1 (.slice (some ⟨g, 0, none⟩) n c) n vs := by
  have := h.len.1; subst this; exact h
theorem Own.cell (h : Own w B e (.slice (some ⟨g, 0, none⟩) n c) vs) (j : Nat) (hj : j < vs.length) : w.cell? ⟨g, j, none⟩ = some vs[j] := by
  rw [h.to_n.cellAt j (by have := h.len.1; omega), List.getElem?_eq_getElem hj]
theorem Own.free (h : Own w B e (.slice (some ⟨g, 0, none⟩) n c) vs) (j : Nat) : w.frozen? ⟨g, j, none⟩ = false := h.to_n.frozenAt j
theorem Own.set (h : Own w B e (.slice (some ⟨g, 0, none⟩) n c) vs) (j : Nat) (u : Value) : Own (w.setCell ⟨g, j, none⟩ u) B e (.slice (some ⟨g, 0, none⟩) n c) (vs.set j u) := by
  have h2 := (h.to_n.stored j u).1
  have hl := h.len.1
  unfold Own
  rw [List.length_set, ← hl]
  exact h2
end
section
variable {w : World} {B g n c : Nat} {bs : List UInt8}
theorem OwnB.len (h : OwnB w B (.slice (some ⟨g, 0, none⟩) n c) bs) : n = bs.length := by simpa using (Own.len h).1
theorem OwnB.cell (h : OwnB w B (.slice (some ⟨g, 0, none⟩) n c) bs) (j : Nat) (hj : j < bs.length) : w.cell? ⟨g, j, none⟩ = some (bv bs[j]) := by
  have := Own.cell h j (by simpa using hj)
  simpa using this
theorem OwnB.free (h : OwnB w B (.slice (some ⟨g, 0, none⟩) n c) bs) (j : Nat) : w.frozen? ⟨g, j, none⟩ = false := Own.free h j
theorem OwnB.set (h : OwnB w B (.slice (some ⟨g, 0, none⟩) n c) bs) (j : Nat) (b : UInt8) : OwnB (w.setCell ⟨g, j, none⟩ (bv b)) B (.slice (some ⟨g, 0, none⟩) n c) (bs.set j b) := by
  have := Own.set h j (bv b)
  rw [← List.map_set] at this
  exact this
end

/-- 'make([]byte, n)'. -/
theorem wpList_makeB (w : World) {ops : Array Oper} {rest : List Oper} {o : Oper} {a : Act} {Q : Exit → Act → World → Prop} (hgd : o.guard = none) (l c : Operand) (ho : o.op = Op.makeSlice 25 l c)
    (kl kc : IntKind) (L C : Int) (n : Nat) (hl : a.eval l = .int kl L) (hc : a.eval c = .int kc C) (hL : L = (n : Int)) (hC : C = (n : Int)) (hn : n ≤ 140737488355328)
    (h : ∀ w', OwnB w' w.heap.size (.slice (some ⟨w.heap.size, 0, none⟩) n n) (List.replicate n 0) → Below w.heap.size w w' → w.grownBy w' none → wpList Try.prog ops Q rest (a.put o.dst (.slice (some ⟨w.heap.size, 0, none⟩) n n)) w') :
    wpList Try.prog ops Q (o :: rest) a w := by
  obtain ⟨i0, hi, hz0, hz1, hz2⟩ := info_parts info_u8
  refine wpList_make_full w hgd l c 25 ho w.heap.size 5 i0 (.int .u8 0) 1 Try.underlying25 hi hz0 hz1 kl kc L C n hl hc hL hC (by rw [hz2]; omega) (by unfold maxLen; omega) (Nat.le_refl _) ?_
  intro w' h1 h2
  refine h w' ?_ ((Below.refl _ _).grown h2 (Nat.le_refl _) (fun k hk => by cases hk)) h2
  have e : (madeCells (Value.int .u8 0).cells (n * 1)).toList = (List.replicate n (0 : UInt8)).map bv := by
    rw [Nat.mul_one, List.map_replicate]; exact toList_madeCells_one _ _
  rw [e] at h1
  simpa [OwnB, Own] using h1

/-- 'copy(dst, src)' on bytes, dst a row of the call's own, from its head on. -/
theorem wpList_copyB (w : World) {ops : Array Oper} {rest : List Oper} {o : Oper} {a : Act} {Q : Exit → Act → World → Prop} (hgd : o.guard = none) (d s : Operand)
    (ho : o.op = .call { callee := .builtin .copy, args := #[d, s], argTypes := #[25, 25] })
    (B g n c : Nat) (bs : List UInt8) (hd : a.eval d = .slice (some ⟨g, 0, none⟩) n c) (hown : OwnB w B (.slice (some ⟨g, 0, none⟩) n c) bs)
    (A : Option Addr) (m k : Nat) (ns : List UInt8) (hs : a.eval s = .slice A m k) (hm : ns.length = m) (hr : Rd w A (ns.map bv))
    (h : ∀ w', OwnB w' B (.slice (some ⟨g, 0, none⟩) n c) (ns.take n ++ bs.drop m) → Below B w w' → w.grownBy w' (some g) → wpList Try.prog ops Q rest (a.put o.dst (goInt ((min m n : Nat) : Int))) w') : wpList Try.prog ops Q (o :: rest) a w := by
  subst hm
  have hlen := hown.len
  subst hlen
  have hfull := hown
  obtain ⟨_, ⟨hbad, _⟩ | ⟨g', cap, cur, hv, hgB, hg, hnc, hcm, hcs, htk⟩⟩ := hown
  · cases hbad
  injection hv with hv1 hv2 hv3
  subst hv3
  injection hv1 with hv1
  injection hv1 with hv1
  subst hv1
  have hmn : min ns.length bs.length = (ns.take bs.length).length := by rw [List.length_take, Nat.min_comm]
  by_cases h0 : (ns.take bs.length).length = 0
  · refine wpList_copy_nothing hgd d s _ _ ho 5 Try.underlying25 (by kernel_rfl) _ _ _ _ _ _ hd hs (by rw [← hmn] at h0; exact h0) ?_
    have e : ns.take bs.length ++ bs.drop ns.length = bs := by
      rw [List.eq_nil_of_length_eq_zero h0, List.nil_append]
      rw [List.length_take] at h0
      rcases Nat.min_eq_zero_iff.1 h0 with h1 | h1
      · rw [List.eq_nil_of_length_eq_zero h1]; simp
      · rw [h1]; rfl
    have := h w (by rw [e]; exact hfull) (Below.refl _ _) (World.grownBy.refl _ _)
    rw [hmn, h0] at this
    exact this
  · have hpos : 0 < (ns.map bv).length := by
      rw [List.length_take] at h0; rw [List.length_map]; omega
    obtain ⟨b, off, rfl, hlt, hc⟩ := hr.addr hpos
    have hcur : cur.size = c := by simpa using hcs
    have htk' : cur.toList.take bs.length = bs.map bv := by simpa using htk
    have hnc' : bs.length ≤ c := by simpa using hnc
    refine wpList_copy_own hgd d s _ _ ho 5 Try.underlying25 (by kernel_rfl) g 0 bs.length c ⟨b, off, none⟩ ns.length k hd hs cur 5 hg ((ns.take bs.length).map bv) (by rw [List.length_map, ← hmn]) ?_ ?_ ?_ ?_
    · intro j v hj
      refine hr.cellsAt _ rfl j v ?_
      rw [List.map_take] at hj
      rw [List.getElem?_take] at hj
      split at hj
      · exact hj
      · cases hj
    · rw [List.length_map, List.length_take]; omega
    · exact bv_one _
    · rw [List.length_map, ← hmn]
      refine h _ ⟨by simp, .inr ⟨g, c, _, by simp; omega, hgB, setRow_heap w g cur _ 5 _ hg, by simp; omega, hcm, ?_, ?_⟩⟩ ⟨rfl, rfl, rfl, by simp, fun q hq => setRow_other w g q _ (by omega)⟩ ⟨rfl, rfl, rfl, by simp, fun q _ hq => setRow_other w g q _ (fun e => hq (by rw [e]))⟩
      · simp; omega
      · simp only [List.take_zero, List.nil_append, Nat.zero_add, Nat.mul_one, List.map_append, List.length_map, List.length_append]
        have e1 : cur.toList.drop (min ns.length bs.length) = ((bs.map bv).drop (min ns.length bs.length)) ++ cur.toList.drop bs.length := by
          rw [← htk', ← List.drop_append_of_le_length (by simp; omega), List.take_append_drop]
        rw [e1, ← List.append_assoc, List.take_append_of_le_length (by simp; omega)]
        rw [List.take_of_length_le (by simp; omega)]
        congr 1
        rw [← List.map_drop]
        congr 1
        rcases Nat.le_total ns.length bs.length with hq | hq
        · rw [Nat.min_eq_left hq]
        · rw [Nat.min_eq_right hq, List.drop_of_length_le (Nat.le_refl _), List.drop_of_length_le hq]

/-- 'append([]byte(nil), xs...)'. -/
theorem run_cloneB (w : World) (ty : TypeId) (A : Option Addr) (m c : Nat) (ns : List UInt8) (hm : ns.length = m) (hr : Rd w A (ns.map bv)) (hl : m ≤ 140737488355328) :
    ∃ A' c' w', (Builtin.append_ #[25, 25] ty #[.slice none 0 0, .slice A m c]).run Try.prog w = .ok (.slice A' m c') w' ∧ OwnB w' w.heap.size (.slice A' m c') ns ∧ Below w.heap.size w w' ∧ m ≤ c' ∧ c' ≤ maxLen ∧ Rd w' A' (ns.map bv) ∧ (∀ a, A' = some a → w.heap.size ≤ a.block ∧ a.block < w'.heap.size) ∧ w.grownBy w' none := by
  obtain ⟨i0, hi, hz0, hz1, hz2⟩ := info_parts info_u8
  obtain ⟨v', w', hrun, h2, h3, h4⟩ := run_app (P := Try.prog) w w.heap.size 25 ty 5 i0 (.int .u8 0) 1 Try.underlying25 hi hz0 hz1 hz2 rfl (.slice none 0 0) [] (Own.nil_ _ _ _) A m c (ns.map bv) (by simpa using hm) hr (bv_one _) (by simp [maxLen]; omega) (by simp; omega) (Nat.le_refl _)
  rw [List.nil_append] at h2
  obtain ⟨A', c', rfl, hc, hcm, hr', hB⟩ := OwnB.form h2
  subst hm
  exact ⟨A', c', w', hrun, h2, (Below.refl _ _).grown h3 (Nat.le_refl _) (fun k hk => by simp [Value.ownBlock] at hk), hc, hcm, hr', fun a ha => ⟨(hB a ha).1, (hB a ha).2.1⟩, h3⟩

theorem wpList_cloneB (w : World) {ops : Array Oper} {rest : List Oper} {o : Oper} {a : Act} {Q : Exit → Act → World → Prop} (hgd : o.guard = none) (x : Operand)
    (ho : o.op = .call { callee := .builtin .append, args := #[.const (.slice none 0 0), x], argTypes := #[25, 25] })
    (A : Option Addr) (m c : Nat) (ns : List UInt8) (hx : a.eval x = .slice A m c) (hm : ns.length = m) (hr : Rd w A (ns.map bv)) (hl : m ≤ 140737488355328)
    (h : ∀ A' c' w', OwnB w' w.heap.size (.slice A' m c') ns → Below w.heap.size w w' → m ≤ c' → c' ≤ maxLen → Rd w' A' (ns.map bv) → (∀ a, A' = some a → w.heap.size ≤ a.block ∧ a.block < w'.heap.size) → wpList Try.prog ops Q rest (a.put o.dst (.slice A' m c')) w') : wpList Try.prog ops Q (o :: rest) a w := by
  refine wpList_plain hgd fun K hK => ?_
  obtain ⟨A', c', w', hrun, h1, h2, h3, h4, h5, h6, _⟩ := run_cloneB w o.type A m c ns hm hr hl
  unfold Oper.wp execOp
  simp only [ho, resolve, invoke, builtin, Sem.run_bind, Sem.run_pure, Result.andThen_ok, List.map_toArray, List.map_cons, List.map_nil, hx, show a.eval (.const (.slice none 0 0)) = .slice none 0 0 from rfl, hrun]
  exact hK _ _ (h A' c' w' h1 h2 h3 h4 h5 h6)

/-- A literal row in a new block. -/
theorem Rd.lit (w : World) (vs : List Value) (t : TypeId) : Rd (w.alloc (.cells vs.toArray t)) (some ⟨w.heap.size, 0, none⟩) vs := by
  refine .inr ⟨w.heap.size, 0, rfl, by simp, fun k hk => ?_⟩
  rw [Nat.zero_add, cell_of_row _ _ k _ _ (0, 0) (heap_alloc_new w _)]
  simp

end Go.Proofs.Ytcffinkkfdfcaaa

/- Events as plain data: which may be. Conditions: none. -/
namespace Go.Proofs.Ytcffinkkfdfcaaa
open Go Go.RowKit

/-- An event. -/
structure Ev where
  k : Int
  t : List UInt8
  x : Int
  y : Int
  b : Int
deriving DecidableEq
def mayP (k x y b : Int) (n : Nat) : Prop :=
  (k = 1 ∧ x = 0 ∧ y = 0 ∧ b = 0 ∧ 1 ≤ n ∧ n ≤ 8) ∨ (k = 2 ∧ x = 0 ∧ y = 0 ∧ b = 0 ∧ n ≤ 64) ∨
  (k = 3 ∧ n = 0 ∧ 0 ≤ x ∧ x < 80 ∧ 0 ≤ y ∧ y < 24 ∧ 0 ≤ b ∧ b ≤ 255) ∨ (k = 4 ∧ n = 0 ∧ b = 0 ∧ 1 ≤ x ∧ x ≤ 80 ∧ 1 ≤ y ∧ y ≤ 24)
instance (k x y b : Int) (n : Nat) : Decidable (mayP k x y b n) := by unfold mayP; exact inferInstance
def mayB (k x y b : Int) (n : Nat) : Bool := decide (mayP k x y b n)
def Ev.may (e : Ev) : Bool := mayB e.k e.x e.y e.b e.t.length
/-- An event in memory: its five cells. -/
structure EvV where
  k : Int
  A : Option Addr
  n : Nat
  c : Nat
  x : Int
  y : Int
  b : Int
def EvV.cells (e : EvV) : List Value := [.int .i64 e.k, .slice e.A e.n e.c, .int .i64 e.x, .int .i64 e.y, .int .i64 e.b]
end Go.Proofs.Ytcffinkkfdfcaaa

/- Blocks of memory, whole: reads, stores, what stays; words in a row. Conditions: none. -/
namespace Go.Proofs.Ytcffinkkfdfcaaa
open Go Go.RowKit

theorem heap_cell {w : World} {g : Nat} {cs : Array Value} {t : TypeId} (h : w.heap[g]? = some (.cells cs t (0, 0))) (i : Nat) : w.cell? ⟨g, i, none⟩ = cs[i]? := cell_of_row w g i cs t (0, 0) h
theorem heap_free {w : World} {g : Nat} {cs : Array Value} {t : TypeId} (h : w.heap[g]? = some (.cells cs t (0, 0))) (i : Nat) : w.frozen? ⟨g, i, none⟩ = false := by simp [World.frozen?, h]
theorem heap_lt {w : World} {g : Nat} {o : Obj} (h : w.heap[g]? = some o) : g < w.heap.size := (Array.getElem?_eq_some_iff.1 h).1
theorem heap_set {w : World} {g : Nat} {cs : Array Value} {t : TypeId} (h : w.heap[g]? = some (.cells cs t (0, 0))) (i : Nat) (u : Value) : (w.setCell ⟨g, i, none⟩ u).heap[g]? = some (.cells (cs.setIfInBounds i u) t (0, 0)) := by
  simp [World.setCell, Array.getElem?_modify, h]
theorem heap_far {w : World} {g : Nat} {p : Addr} (u : Value) (hp : g ≠ p.block) : (w.setCell p u).heap[g]? = w.heap[g]? := Below.heap_setCell w p u g hp
theorem Rd.far {w : World} {A : Option Addr} {vs : List Value} (h : Rd w A vs) {p : Addr} (u : Value) (hp : ∀ a, A = some a → a.block ≠ p.block) : Rd (w.setCell p u) A vs :=
  h.of_blocks (fun b _ ⟨off, e⟩ => heap_far u (hp _ e)) (by simp [World.setCell])
/-- Only block r, and what is new, has turned. -/
theorem only_set {w : World} (r i : Nat) (u : Value) : w.grownBy (w.setCell ⟨r, i, none⟩ u) (some r) :=
  ⟨rfl, rfl, rfl, by simp [World.setCell], fun k _ hk => heap_far u (fun e => hk (by rw [e]))⟩
theorem only_setD {w : World} (q r i : Nat) (u : Value) : w.grownBy ((w.drewN q).setCell ⟨r, i, none⟩ u) (some r) :=
  ⟨rfl, rfl, rfl, by simp [World.setCell], fun k _ hk => heap_far u (fun e => hk (by rw [e]))⟩
theorem only_of_drewN {w w' : World} {q : Nat} {r : Option Nat} (h : (w.drewN q).grownBy w' r) : w.grownBy w' r := ⟨h.os, h.tape, h.output, h.size, h.block⟩
theorem only_drewN {w w' : World} {r : Option Nat} (h : w.grownBy w' r) (n : Nat) : w.grownBy (w'.drewN n) r := ⟨h.os, h.tape, h.output, h.size, h.block⟩
theorem only_trans {a b c : World} {r : Option Nat} (h : a.grownBy b r) (k : b.grownBy c r) : a.grownBy c r :=
  ⟨k.os.trans h.os, k.tape.trans h.tape, k.output.trans h.output, Nat.le_trans h.size k.size, fun i hi hr => (k.block i (Nat.lt_of_lt_of_le hi h.size) hr).trans (h.block i hi hr)⟩
end Go.Proofs.Ytcffinkkfdfcaaa

/- Events in memory: rows of five cells each, with their texts; which blocks they lie in; what stays. Conditions: none. -/
namespace Go.Proofs.Ytcffinkkfdfcaaa
open Go Go.RowKit

/-! ### What stays outside a set of blocks -/
structure Keeps (S : Nat → Prop) (w w' : World) : Prop where
  os : w'.os = w.os
  tape : w'.tape = w.tape
  output : w'.output = w.output
  size : w.heap.size ≤ w'.heap.size
  block : ∀ k, k < w.heap.size → ¬ S k → w'.heap[k]? = w.heap[k]?
theorem Keeps.refl (S : Nat → Prop) (w : World) : Keeps S w w := ⟨rfl, rfl, rfl, Nat.le_refl _, fun _ _ _ => rfl⟩
theorem Keeps.trans {S : Nat → Prop} {a b c : World} (h : Keeps S a b) (k : Keeps S b c) : Keeps S a c :=
  ⟨k.os.trans h.os, k.tape.trans h.tape, k.output.trans h.output, Nat.le_trans h.size k.size, fun i hi hs => (k.block i (Nat.lt_of_lt_of_le hi h.size) hs).trans (h.block i hi hs)⟩
theorem Keeps.of_below {B : Nat} {w w' : World} (h : Below B w w') (S : Nat → Prop) (hS : ∀ k, k < w.heap.size → ¬ S k → k < B) : Keeps S w w' :=
  ⟨h.os, h.tape, h.output, h.size, fun k hk hs => h.block k (hS k hk hs)⟩
theorem Keeps.below {B : Nat} {S : Nat → Prop} {w w' : World} (h : Keeps S w w') (hS : ∀ k, k < B → k < w.heap.size ∧ ¬ S k) : Below B w w' :=
  ⟨h.os, h.tape, h.output, h.size, fun k hk => h.block k (hS k hk).1 (hS k hk).2⟩
theorem Keeps.of_grown {r : Option Nat} {w w' : World} (h : w.grownBy w' r) (S : Nat → Prop) (hS : ∀ k, r = some k → S k) : Keeps S w w' :=
  ⟨h.os, h.tape, h.output, h.size, fun k hk hs => h.block k hk (fun e => hs (hS k e.symm))⟩
theorem Keeps.mono {S T : Nat → Prop} {w w' : World} (h : Keeps S w w') (hS : ∀ k, S k → T k) : Keeps T w w' :=
  ⟨h.os, h.tape, h.output, h.size, fun k hk hs => h.block k hk (fun e => hs (hS k e))⟩
theorem Keeps.set (S : Nat → Prop) (w : World) (p : Addr) (u : Value) (h : S p.block) : Keeps S w (w.setCell p u) :=
  ⟨rfl, rfl, rfl, by simp [World.setCell], fun k _ hs => heap_far u (fun e => hs (e ▸ h))⟩
theorem Keeps.drewN {S : Nat → Prop} {w w' : World} (h : Keeps S w w') (n : Nat) : Keeps S w (w'.drewN n) := ⟨h.os, h.tape, h.output, h.size, h.block⟩
theorem Keeps.alloc {S : Nat → Prop} {w w' : World} (h : Keeps S w w') (o : Obj) : Keeps S w (w'.alloc o) :=
  ⟨h.os, h.tape, h.output, Nat.le_trans h.size (by simp), fun k hk hs => (Below.heap_alloc w' o k (Nat.lt_of_lt_of_le hk h.size)).trans (h.block k hk hs)⟩

/-! ### The cells of a row -/
def cellsV (ds : List EvV) : List Value := ds.flatMap EvV.cells
theorem cellsV_cons (d : EvV) (ds : List EvV) : cellsV (d :: ds) = d.cells ++ cellsV ds := rfl
theorem cellsV_append (a b : List EvV) : cellsV (a ++ b) = cellsV a ++ cellsV b := by simp [cellsV]
theorem cellsV_length (ds : List EvV) : (cellsV ds).length = ds.length * 5 := by
  induction ds with
  | nil => rfl
  | cons d ds ih => rw [cellsV_cons, List.length_append, ih]; simp [EvV.cells]; omega
theorem cellsV_get : ∀ (ds : List EvV) (i : Nat) (h : i < ds.length) (j : Nat), j < 5 → (cellsV ds)[i * 5 + j]? = (ds[i].cells)[j]?
  | d :: ds, 0, _, j, hj => by
    rw [cellsV_cons, Nat.zero_mul, Nat.zero_add, List.getElem?_append_left (by simpa [EvV.cells] using hj)]
    rfl
  | d :: ds, i + 1, h, j, hj => by
    rw [cellsV_cons, List.getElem?_append_right (by simp [EvV.cells]; omega)]
    have e : (i + 1) * 5 + j - d.cells.length = i * 5 + j := by simp [EvV.cells]; omega
    rw [e, cellsV_get ds i (by simpa using h) j hj]
    rfl
theorem cellsV_one (ds : List EvV) : ∀ u ∈ cellsV ds, u.oneCell' = true := by
  intro u hu
  obtain ⟨d, _, h⟩ := List.mem_flatMap.1 hu
  simp only [EvV.cells, List.mem_cons, List.not_mem_nil, or_false] at h
  rcases h with rfl | rfl | rfl | rfl | rfl <;> rfl
def EvV.txt (d : EvV) (A : Option Addr) (n c : Nat) : EvV := ⟨d.k, A, n, c, d.x, d.y, d.b⟩
def EvV.x' (d : EvV) (x : Int) : EvV := ⟨d.k, d.A, d.n, d.c, x, d.y, d.b⟩
theorem cellsV_txt : ∀ (ds : List EvV) (i : Nat) (h : i < ds.length) (A : Option Addr) (n c : Nat), (cellsV ds).set (i * 5 + 1) (.slice A n c) = cellsV (ds.set i (ds[i].txt A n c))
  | d :: ds, 0, _, A, n, c => rfl
  | d :: ds, i + 1, h, A, n, c => by
    rw [cellsV_cons, List.set_append_right _ _ (by simp [EvV.cells]; omega)]
    have e : (i + 1) * 5 + 1 - d.cells.length = i * 5 + 1 := by simp [EvV.cells]; omega
    rw [e, cellsV_txt ds i (by simpa using h)]
    rfl
theorem cellsV_x : ∀ (ds : List EvV) (i : Nat) (h : i < ds.length) (x : Int), (cellsV ds).set (i * 5 + 2) (.int .i64 x) = cellsV (ds.set i (ds[i].x' x))
  | d :: ds, 0, _, x => rfl
  | d :: ds, i + 1, h, x => by
    rw [cellsV_cons, List.set_append_right _ _ (by simp [EvV.cells]; omega)]
    have e : (i + 1) * 5 + 2 - d.cells.length = i * 5 + 2 := by simp [EvV.cells]; omega
    rw [e, cellsV_x ds i (by simpa using h)]
    rfl
theorem cellsV_all : ∀ (ds : List EvV) (i : Nat) (_ : i < ds.length) (d' : EvV),
    (((((cellsV ds).set (i * 5) (.int .i64 d'.k)).set (i * 5 + 1) (.slice d'.A d'.n d'.c)).set (i * 5 + 2) (.int .i64 d'.x)).set (i * 5 + 3) (.int .i64 d'.y)).set (i * 5 + 4) (.int .i64 d'.b) = cellsV (ds.set i d')
  | d :: ds, 0, _, d' => rfl
  | d :: ds, i + 1, h, d' => by
    have ih := cellsV_all ds i (by simpa using h) d'
    have e : ∀ j, (i + 1) * 5 + j - d.cells.length = i * 5 + j := by intro j; simp [EvV.cells]; omega
    have e0 : (i + 1) * 5 - d.cells.length = i * 5 := e 0
    rw [cellsV_cons, List.set_append_right _ _ (by simp [EvV.cells]; omega), List.set_append_right _ _ (by simp [EvV.cells]; omega), List.set_append_right _ _ (by simp [EvV.cells]; omega), List.set_append_right _ _ (by simp [EvV.cells]; omega), List.set_append_right _ _ (by simp [EvV.cells]; omega), e0, e 1, e 2, e 3, e 4, ih]
    rfl

/-! ### Texts -/
/-- Bytes to be read, in blocks of a kind. -/
def TxtR (ok : Nat → Prop) (w : World) (A : Option Addr) (n c : Nat) (bs : List UInt8) : Prop :=
  bs.length = n ∧ Rd w A (bs.map bv) ∧ n ≤ c ∧ c ≤ maxLen ∧ (0 < n → ∀ a, A = some a → ok a.block) ∧ n ≤ 140737488355328
/-- Bytes of one's own. -/
def TxtO (ok : Nat → Prop) (w : World) (A : Option Addr) (n c : Nat) (bs : List UInt8) : Prop :=
  bs.length = n ∧ OwnB w 0 (.slice A n c) bs ∧ (∀ a, A = some a → ok a.block) ∧ n ≤ 140737488355328
section
variable {ok ok' : Nat → Prop} {w w' : World} {A : Option Addr} {n c : Nat} {bs : List UInt8}
theorem TxtO.r (h : TxtO ok w A n c bs) : TxtR ok w A n c bs := by
  obtain ⟨h1, h2, h3, h4⟩ := h
  obtain ⟨A', c', e, q1, q2, q3, _⟩ := OwnB.form h2
  injection e with e1 e2 e3
  subst e1 e3 e2
  exact ⟨rfl, q3, q1, q2, fun _ => h3, h4⟩
theorem TxtO.lt (h : TxtO ok w A n c bs) : ∀ a, A = some a → a.block < w.heap.size := by
  intro a e
  subst e
  exact (Own.lt h.2.1 a.block rfl).2
theorem TxtR.frame (h : TxtR ok w A n c bs) (hk : ∀ k, ok k → k < w.heap.size → w'.heap[k]? = w.heap[k]?) (hs : w.heap.size ≤ w'.heap.size) : TxtR ok w' A n c bs := by
  obtain ⟨h1, h2, h3, h4, h5, h6⟩ := h
  refine ⟨h1, ?_, h3, h4, h5, h6⟩
  rcases h2 with h2 | ⟨b, off, rfl, hb, hc⟩
  · exact .inl h2
  · rcases Nat.eq_zero_or_pos n with h0 | h0
    · left
      have : bs = [] := List.eq_nil_of_length_eq_zero (by omega)
      rw [this]; rfl
    · exact Rd.of_blocks (.inr ⟨b, off, rfl, hb, hc⟩) (fun k hk' ⟨o, e⟩ => by
        injection e with e; injection e with e
        subst e
        exact hk b (h5 h0 _ rfl) hk') hs
theorem Own.frameK {B : Nat} {e : TypeId} {s k : Nat} {v : Value} {vs : List Value} (h : w.ownsRow B e s v k vs) (hk : ∀ g, v.ownBlock = some g → w'.heap[g]? = w.heap[g]?) : w'.ownsRow B e s v k vs := by
  refine ⟨h.1, ?_⟩
  rcases h.2 with h2 | ⟨g, cap, cur, rfl, hb, hg, r⟩
  · exact .inl h2
  · exact .inr ⟨g, cap, cur, rfl, hb, (hk g rfl).trans hg, r⟩
theorem TxtO.frame (h : TxtO ok w A n c bs) (hk : ∀ k, ok k → k < w.heap.size → w'.heap[k]? = w.heap[k]?) : TxtO ok w' A n c bs := by
  have hl := h.lt
  obtain ⟨h1, h2, h3, h4⟩ := h
  refine ⟨h1, Own.frameK h2 (fun g e => ?_), h3, h4⟩
  cases A with
  | none => cases e
  | some a =>
    injection e with e
    subst e
    exact hk _ (h3 a rfl) (hl a rfl)
theorem TxtR.weak (h : TxtR ok w A n c bs) (hk : ∀ k, ok k → k < w.heap.size → ok' k) : TxtR ok' w A n c bs := by
  obtain ⟨h1, h2, h3, h4, h5, h6⟩ := h
  refine ⟨h1, h2, h3, h4, fun h0 a e => hk _ (h5 h0 a e) ?_, h6⟩
  rcases h2 with h2 | ⟨b, off, rfl, hb, hc⟩
  · have : bs = [] := by simpa using h2
    subst this
    simp at h1; omega
  · injection e with e; subst e; exact hb
theorem TxtO.weak (h : TxtO ok w A n c bs) (hk : ∀ k, ok k → k < w.heap.size → ok' k) : TxtO ok' w A n c bs :=
  ⟨h.1, h.2.1, fun a e => hk _ (h.2.2.1 a e) (h.lt a e), h.2.2.2⟩
end

/-! ### Events -/
def EvR (ok : Nat → Prop) (w : World) (d : EvV) (e : Ev) : Prop := d.k = e.k ∧ d.x = e.x ∧ d.y = e.y ∧ d.b = e.b ∧ TxtR ok w d.A d.n d.c e.t
def EvO (ok : Nat → Prop) (w : World) (d : EvV) (e : Ev) : Prop := d.k = e.k ∧ d.x = e.x ∧ d.y = e.y ∧ d.b = e.b ∧ TxtO ok w d.A d.n d.c e.t
/-- Events to be read at an address. -/
structure EvsR (ok : Nat → Prop) (w : World) (A : Option Addr) (ds : List EvV) (es : List Ev) : Prop where
  len : ds.length = es.length
  row : Rd w A (cellsV ds)
  ok_ : 0 < ds.length → ∀ a, A = some a → ok a.block
  each : ∀ i (h1 : i < ds.length) (h2 : i < es.length), EvR ok w ds[i] es[i]
section
variable {ok ok' : Nat → Prop} {w w' : World} {A : Option Addr} {v : Value} {d : EvV} {e : Ev} {ds : List EvV} {es : List Ev}
theorem EvO.r (h : EvO ok w d e) : EvR ok w d e := ⟨h.1, h.2.1, h.2.2.1, h.2.2.2.1, h.2.2.2.2.r⟩
theorem EvR.frame (h : EvR ok w d e) (hk : ∀ k, ok k → k < w.heap.size → w'.heap[k]? = w.heap[k]?) (hs : w.heap.size ≤ w'.heap.size) : EvR ok w' d e := ⟨h.1, h.2.1, h.2.2.1, h.2.2.2.1, h.2.2.2.2.frame hk hs⟩
theorem EvO.frame (h : EvO ok w d e) (hk : ∀ k, ok k → k < w.heap.size → w'.heap[k]? = w.heap[k]?) : EvO ok w' d e := ⟨h.1, h.2.1, h.2.2.1, h.2.2.2.1, h.2.2.2.2.frame hk⟩
theorem EvR.weak (h : EvR ok w d e) (hk : ∀ k, ok k → k < w.heap.size → ok' k) : EvR ok' w d e := ⟨h.1, h.2.1, h.2.2.1, h.2.2.2.1, h.2.2.2.2.weak hk⟩
theorem EvO.weak (h : EvO ok w d e) (hk : ∀ k, ok k → k < w.heap.size → ok' k) : EvO ok' w d e := ⟨h.1, h.2.1, h.2.2.1, h.2.2.2.1, h.2.2.2.2.weak hk⟩
theorem EvsR.frame (h : EvsR ok w A ds es) (hk : ∀ k, ok k → k < w.heap.size → w'.heap[k]? = w.heap[k]?) (hs : w.heap.size ≤ w'.heap.size) : EvsR ok w' A ds es := by
  refine ⟨h.len, ?_, h.ok_, fun i h1 h2 => (h.each i h1 h2).frame hk hs⟩
  rcases h.row with h2 | ⟨b, off, rfl, hb, hc⟩
  · exact .inl h2
  · rcases Nat.eq_zero_or_pos ds.length with h0 | h0
    · left
      have : ds = [] := List.eq_nil_of_length_eq_zero h0
      rw [this]; rfl
    · exact Rd.of_blocks (.inr ⟨b, off, rfl, hb, hc⟩) (fun k hk' ⟨o, e⟩ => by
        injection e with e; injection e with e
        subst e
        exact hk b (h.ok_ h0 _ rfl) hk') hs
theorem EvsR.weak (h : EvsR ok w A ds es) (hk : ∀ k, ok k → k < w.heap.size → ok' k) : EvsR ok' w A ds es := by
  refine ⟨h.len, h.row, fun h0 a e => hk _ (h.ok_ h0 a e) ?_, fun i h1 h2 => (h.each i h1 h2).weak hk⟩
  rcases h.row with h2 | ⟨b, off, rfl, hb, hc⟩
  · have := congrArg List.length h2
    rw [cellsV_length] at this
    simp at this; omega
  · injection e with e; subst e; exact hb
theorem EvsR.below (h : EvsR ok w A ds es) (hb : Below w.heap.size w w') : EvsR ok w' A ds es := h.frame (fun k _ hk => hb.block k hk) hb.size
/-- The five cells of an event. -/
theorem EvsR.five (h : EvsR ok w A ds es) (h0 : 0 < es.length) : ∃ b off, A = some ⟨b, off, none⟩ ∧ b < w.heap.size ∧ ok b ∧ ∀ i (h : i < ds.length),
    w.cell? ⟨b, off + i * 5, none⟩ = some (.int .i64 ds[i].k) ∧ w.cell? ⟨b, off + i * 5 + 1, none⟩ = some (.slice ds[i].A ds[i].n ds[i].c) ∧ w.cell? ⟨b, off + i * 5 + 2, none⟩ = some (.int .i64 ds[i].x) ∧
    w.cell? ⟨b, off + i * 5 + 3, none⟩ = some (.int .i64 ds[i].y) ∧ w.cell? ⟨b, off + i * 5 + 4, none⟩ = some (.int .i64 ds[i].b) := by
  have hl := h.len
  have hd : 0 < ds.length := by omega
  obtain ⟨b, off, rfl, hb, hc⟩ := h.row.addr (by rw [cellsV_length]; omega)
  refine ⟨b, off, rfl, hb, h.ok_ hd _ rfl, fun i hi => ?_⟩
  have get : ∀ j, j < 5 → w.cell? ⟨b, off + i * 5 + j, none⟩ = (ds[i].cells)[j]? := by
    intro j hj
    have hlt : i * 5 + j < (cellsV ds).length := by rw [cellsV_length]; omega
    rw [Nat.add_assoc, hc (i * 5 + j) hlt, ← List.getElem?_eq_getElem hlt, cellsV_get ds i hi j hj]
  exact ⟨get 0 (by decide), get 1 (by decide), get 2 (by decide), get 3 (by decide), get 4 (by decide)⟩
/-- One of them. -/
theorem EvsR.at_ (h : EvsR ok w A ds es) (k : Nat) (hk : k < es.length) : ∃ (e : Ev) (b off : Nat) (At : Option Addr) (m cm : Nat), e = es[k] ∧ A = some ⟨b, off, none⟩ ∧ b < w.heap.size ∧ ok b ∧ TxtR ok w At m cm e.t ∧
    w.cell? ⟨b, off + k * 5, none⟩ = some (.int .i64 e.k) ∧ w.cell? ⟨b, off + k * 5 + 1, none⟩ = some (.slice At m cm) ∧ w.cell? ⟨b, off + k * 5 + 2, none⟩ = some (.int .i64 e.x) ∧
    w.cell? ⟨b, off + k * 5 + 3, none⟩ = some (.int .i64 e.y) ∧ w.cell? ⟨b, off + k * 5 + 4, none⟩ = some (.int .i64 e.b) := by
  obtain ⟨b, off, hA, hb, ho, hc⟩ := h.five (by omega)
  have hkd : k < ds.length := by rw [h.len]; exact hk
  obtain ⟨c0, c1, c2, c3, c4⟩ := hc k hkd
  obtain ⟨e0, e2, e3, e4, ht⟩ := h.each k hkd hk
  rw [e0] at c0
  rw [e2] at c2
  rw [e3] at c3
  rw [e4] at c4
  exact ⟨_, b, off, _, _, _, rfl, hA, hb, ho, ht, c0, c1, c2, c3, c4⟩
end
end Go.Proofs.Ytcffinkkfdfcaaa

/- Items: a list of items, each with bytes or a list of its own, as plain data; how it lies in memory. Conditions: none. -/
namespace Go.Proofs.Ytcffinkkfdfcaaa
open Go Go.RowKit

/-- A list of items: the first one (its kind, whether critical, whether a list, its bytes, its items), and the rest. -/
inductive Fo where
  | nil
  | cons (k : Int) (cr li : Bool) (bs : List UInt8) (sub rest : Fo)
def Fo.len : Fo → Nat
  | .nil => 0
  | .cons _ _ _ _ _ r => r.len + 1
def Fo.size : Fo → Nat
  | .nil => 0
  | .cons _ _ _ _ s r => s.size + r.size + 1
/-- Items to be read at an address, from the i-th one on. -/
def FoR (ok : Nat → Prop) (w : World) : Option Addr → Nat → Fo → Prop
  | _, _, .nil => True
  | A, i, .cons k cr li bs sub rest => (∃ b off At n c As d, A = some ⟨b, off, none⟩ ∧ b < w.heap.size ∧ ok b ∧
      (w.cell? ⟨b, off + i * 5, none⟩ = some (.int .i64 k) ∧ w.cell? ⟨b, off + i * 5 + 1, none⟩ = some (.bool cr) ∧ w.cell? ⟨b, off + i * 5 + 2, none⟩ = some (.bool li) ∧
       w.cell? ⟨b, off + i * 5 + 3, none⟩ = some (.slice At n c) ∧ w.cell? ⟨b, off + i * 5 + 4, none⟩ = some (.slice As sub.len d)) ∧
      TxtR ok w At n c bs ∧ FoR ok w As 0 sub ∧ sub.len ≤ d ∧ d ≤ maxLen ∧ sub.len ≤ 2199023255488) ∧ FoR ok w A (i + 1) rest
theorem FoR.frame {ok : Nat → Prop} {w w' : World} (hk : ∀ j, ok j → j < w.heap.size → w'.heap[j]? = w.heap[j]?) (hs : w.heap.size ≤ w'.heap.size) : ∀ (f : Fo) (A : Option Addr) (i : Nat), FoR ok w A i f → FoR ok w' A i f
  | .nil, _, _, _ => trivial
  | .cons k cr li bs sub rest, A, i, h => by
    obtain ⟨⟨b, off, At, n, c, As, d, e, hb, hok, ⟨c0, c1, c2, c3, c4⟩, ht, hsub, h1, h2, h3⟩, hr⟩ := h
    have hc : ∀ q u, w.cell? ⟨b, q, none⟩ = some u → w'.cell? ⟨b, q, none⟩ = some u := fun q u hu => (World.cell?_of_block (w := w) (a := ⟨b, q, none⟩) (hk b hok hb)).trans hu
    exact ⟨⟨b, off, At, n, c, As, d, e, Nat.lt_of_lt_of_le hb hs, hok, ⟨hc _ _ c0, hc _ _ c1, hc _ _ c2, hc _ _ c3, hc _ _ c4⟩, ht.frame hk hs, FoR.frame hk hs sub As 0 hsub, h1, h2, h3⟩, FoR.frame hk hs rest A (i + 1) hr⟩
theorem FoR.weak {ok ok' : Nat → Prop} {w : World} (hk : ∀ j, ok j → j < w.heap.size → ok' j) : ∀ (f : Fo) (A : Option Addr) (i : Nat), FoR ok w A i f → FoR ok' w A i f
  | .nil, _, _, _ => trivial
  | .cons k cr li bs sub rest, A, i, h => by
    obtain ⟨⟨b, off, At, n, c, As, d, e, hb, hok, hc, ht, hsub, h1, h2, h3⟩, hr⟩ := h
    exact ⟨⟨b, off, At, n, c, As, d, e, hb, hk b hok hb, hc, ht.weak hk, FoR.weak hk sub As 0 hsub, h1, h2, h3⟩, FoR.weak hk rest A (i + 1) hr⟩
theorem FoR.below {ok : Nat → Prop} {w w' : World} {f : Fo} {A : Option Addr} {i : Nat} (h : FoR ok w A i f) (hb : Below w.heap.size w w') : FoR ok w' A i f := FoR.frame (fun j _ hj => hb.block j hj) hb.size f A i h
theorem FoR.drewN {ok : Nat → Prop} {w : World} {f : Fo} {A : Option Addr} {i : Nat} (h : FoR ok w A i f) (n : Nat) : FoR ok (w.drewN n) A i f := h.below (below_drewN (Below.refl _ _) n)
end Go.Proofs.Ytcffinkkfdfcaaa

/- The reference's row of items, in plain words: entries depth first, each with its depth and the kind ahead. Conditions: none. -/
namespace Go.Proofs.Ytcffinkkfdfcaaa
open Go Go.RowKit

/-- An entry: the item's kind, whether critical, whether a list, how many bytes, how many items; its depth, the kind ahead. -/
structure En where
  k : Int
  cr : Bool
  li : Bool
  nb : Nat
  ns : Nat
  d : Int
  ah : Int
/-- The entries of a list, to depth 5. -/
def fullR : Fo → Int → Int → List En
  | .nil, _, _ => []
  | .cons k cr li bs sub rest, d, ah => ⟨k, cr, li, bs.length, sub.len, d, ah⟩ :: ((if d < 5 then fullR sub (d + 1) 0 else []) ++ fullR rest d k)
/-- The first ones, one more than 'most'. -/
def rowR (f : Fo) (d : Int) (most : Int) : List En := (fullR f d 0).take (most + 1).toNat

/-- One round: what is out, an item, its list's row. -/
theorem take_round {P S T : List En} {x : En} {m : Int} {O : List En} (hO : O = P.take (m + 1).toNat) (hL : (O.length : Int) ≤ m) :
    O ++ [x] ++ S.take (m - (O ++ [x]).length + 1).toNat = (P ++ (x :: S)).take (m + 1).toNat ∧ (P ++ (x :: (S ++ T))) = (P ++ (x :: S)) ++ T := by
  have hP : O = P := by
    rw [hO]
    refine List.take_of_length_le ?_
    have h2 := congrArg List.length hO
    rw [List.length_take] at h2
    omega
  subst hP
  refine ⟨?_, by simp⟩
  rw [List.length_append, List.length_singleton] 
  have e : (m + 1).toNat = O.length + ((m - ((O.length + 1 : Nat) : Int) + 1).toNat + 1) := by omega
  rw [e, List.take_length_add_append, List.take_succ_cons]
  simp
theorem take_one {P : List En} {x : En} {m : Int} {O : List En} (hO : O = P.take (m + 1).toNat) (hL : (O.length : Int) ≤ m) : O ++ [x] = (P ++ [x]).take (m + 1).toNat := by
  have h := (take_round (S := []) (T := []) (x := x) hO hL).1
  simpa using h
theorem take_done {P T : List En} {m : Int} {O : List En} (hO : O = P.take (m + 1).toNat) (hL : ¬ (O.length : Int) ≤ m) : O = (P ++ T).take (m + 1).toNat := by
  have h2 := congrArg List.length hO
  rw [List.length_take] at h2
  rw [List.take_append_of_le_length (by omega)]
  exact hO
end Go.Proofs.Ytcffinkkfdfcaaa

/- Rows of events that the call itself makes: appended, made, stored into. Conditions: lengths that fit. -/
namespace Go.Proofs.Ytcffinkkfdfcaaa
open Go Go.RowKit

theorem run_appN {P : Program} (w : World) (base : Nat) (t ty e : TypeId) (i : TypeInfo) (z : Value) (size bytes : Nat) (ht : P.underlying t = some (.slice e)) (hi : P.info? e = some i) (hz : i.zero = some z)
    (hsize : i.size = size) (hby : i.bytes = bytes) (hzs : z.cells.size = size) (hsz : 0 < size)
    (v : Value) (n : Nat) (xs : List Value) (hown : w.ownsRow base e size v n xs) (A : Option Addr) (m c : Nat) (news : List Value) (hm : news.length = m * size) (hr : Rd w A news) (h1 : ∀ u ∈ news, u.oneCell' = true)
    (hlen : n + m ≤ maxLen) (hbytes : (n + m) * bytes ≤ 140737488355328) (hbase : base ≤ w.heap.size) :
    ∃ v' w', (Builtin.append_ #[t, t] ty #[v, .slice A m c]).run P w = .ok v' w' ∧ w'.ownsRow base e size v' (n + m) (xs ++ news) ∧ w.grownBy w' v.ownBlock ∧
      (v'.ownBlock = v.ownBlock ∨ v'.ownBlock = some w.heap.size) := by
  rcases A with _ | ad
  · have hn : news = [] := by
      rcases hr with h | ⟨_, _, h, _⟩
      · exact h
      · cases h
    subst hn
    have hm0 : m = 0 := by
      rcases Nat.eq_zero_or_pos m with h | h
      · exact h
      · have := Nat.mul_pos h hsz
        simp at hm; omega
    subst hm0
    exact ⟨v, w, run_append_of_nil w base t ty e i size ht hi v n xs hown c, by simpa using hown, World.grownBy.refl w _, .inl rfl⟩
  · obtain ⟨v', w', hrun, h2, h3, _, h5⟩ := run_append_own_at (P := P) w base t ty e i z size bytes ht hi hz hsize hby hzs hsz v n xs hown ad m c news hm (hr.cellsAt ad rfl) h1 hlen hbytes hbase
    exact ⟨v', w', hrun, h2, h3, h5⟩

def EvV.zero : EvV := ⟨0, none, 0, 0, 0, 0, 0⟩
theorem cellsV_zeros : ∀ n, (madeCells #[Value.int .i64 0, .slice none 0 0, .int .i64 0, .int .i64 0, .int .i64 0] (n * 5)).toList = cellsV (List.replicate n EvV.zero) := by
  intro n
  apply List.ext_getElem?
  intro j
  rcases Nat.lt_or_ge j (n * 5) with hj | hj
  · have hi : j / 5 < (List.replicate n EvV.zero).length := by rw [List.length_replicate]; omega
    have h := cellsV_get (List.replicate n EvV.zero) (j / 5) hi (j % 5) (Nat.mod_lt _ (by decide))
    rw [show j / 5 * 5 + j % 5 = j by omega] at h
    rw [h]
    have e : (madeCells #[Value.int .i64 0, .slice none 0 0, .int .i64 0, .int .i64 0, .int .i64 0] (n * 5)).toList[j]? = some (#[Value.int .i64 0, .slice none 0 0, .int .i64 0, .int .i64 0, .int .i64 0][j % 5]!) := by
      simp only [madeCells, Array.getElem?_toList, Array.getElem?_map]
      rw [Array.getElem?_eq_getElem (by simpa using hj)]
      simp
    rw [e, List.getElem_replicate]
    have h5 : j % 5 < 5 := Nat.mod_lt _ (by decide)
    generalize j % 5 = q at h5
    match q, h5 with
    | 0, _ => rfl
    | 1, _ => rfl
    | 2, _ => rfl
    | 3, _ => rfl
    | 4, _ => rfl
  · rw [List.getElem?_eq_none (by simp [madeCells]; omega), List.getElem?_eq_none (by rw [cellsV_length, List.length_replicate]; omega)]
section
variable {w : World} {B g n c : Nat} {ds : List EvV}
end
end Go.Proofs.Ytcffinkkfdfcaaa

/- Rows of the reference's entries in memory: seven cells each. Conditions: none. -/
namespace Go.Proofs.Ytcffinkkfdfcaaa
open Go Go.RowKit

/-- An entry as it lies: its numbers, and where its bytes and items are. -/
structure EnV where
  k : Int
  cr : Bool
  li : Bool
  A : Option Addr
  nb : Nat
  cb : Nat
  As : Option Addr
  ns : Nat
  cs : Nat
  d : Int
  ah : Int
def EnV.en (x : EnV) : En := ⟨x.k, x.cr, x.li, x.nb, x.ns, x.d, x.ah⟩
def EnV.cells (x : EnV) : List Value := [.int .i64 x.k, .bool x.cr, .bool x.li, .slice x.A x.nb x.cb, .slice x.As x.ns x.cs, .int .i64 x.d, .int .i64 x.ah]
def cellsE (ds : List EnV) : List Value := ds.flatMap EnV.cells
theorem cellsE_cons (d : EnV) (ds : List EnV) : cellsE (d :: ds) = d.cells ++ cellsE ds := rfl
theorem cellsE_append (a b : List EnV) : cellsE (a ++ b) = cellsE a ++ cellsE b := by simp [cellsE]
theorem cellsE_length (ds : List EnV) : (cellsE ds).length = ds.length * 7 := by
  induction ds with
  | nil => rfl
  | cons d ds ih => rw [cellsE_cons, List.length_append, ih]; simp [EnV.cells]; omega
theorem cellsE_get : ∀ (ds : List EnV) (i : Nat) (h : i < ds.length) (j : Nat), j < 7 → (cellsE ds)[i * 7 + j]? = (ds[i].cells)[j]?
  | d :: ds, 0, _, j, hj => by
    rw [cellsE_cons, Nat.zero_mul, Nat.zero_add, List.getElem?_append_left (by simpa [EnV.cells] using hj)]
    rfl
  | d :: ds, i + 1, h, j, hj => by
    rw [cellsE_cons, List.getElem?_append_right (by simp [EnV.cells]; omega)]
    have e : (i + 1) * 7 + j - d.cells.length = i * 7 + j := by simp [EnV.cells]; omega
    rw [e, cellsE_get ds i (by simpa using h) j hj]
    rfl
theorem cellsE_one (ds : List EnV) : ∀ u ∈ cellsE ds, u.oneCell' = true := by
  intro u hu
  obtain ⟨d, _, h⟩ := List.mem_flatMap.1 hu
  simp only [EnV.cells, List.mem_cons, List.not_mem_nil, or_false] at h
  rcases h with rfl | rfl | rfl | rfl | rfl | rfl | rfl <;> rfl
def OwnE (w : World) (B : Nat) (v : Value) (ds : List EnV) : Prop := w.ownsRow B 113 7 v ds.length (cellsE ds)
theorem info_en : (Try.prog.info? 113).map (fun i => (i.zero, i.size, i.bytes)) = some (some (.agg #[.int .i64 0, .bool false, .bool false, .slice none 0 0, .slice none 0 0, .int .i64 0, .int .i64 0]), 7, 80) := by kernel_rfl

/-- 'append(v, xs...)' on entries. -/
theorem wpList_appE (w : World) {ops : Array Oper} {rest : List Oper} {o : Oper} {a : Act} {Q : Exit → Act → World → Prop} (hgd : o.guard = none) (s x : Operand)
    (ho : o.op = .call { callee := .builtin .append, args := #[s, x], argTypes := #[110, 110] })
    (B : Nat) (v : Value) (ds : List EnV) (hs : a.eval s = v) (hown : OwnE w B v ds)
    (A : Option Addr) (m c : Nat) (ns : List EnV) (hx : a.eval x = .slice A m c) (hm : ns.length = m) (hr : Rd w A (cellsE ns))
    (hlen : ds.length + m ≤ 1000000) (hB : B ≤ w.heap.size)
    (h : ∀ v' w', OwnE w' B v' (ds ++ ns) → w.grownBy w' v.ownBlock → (v'.ownBlock = v.ownBlock ∨ v'.ownBlock = some w.heap.size) → wpList Try.prog ops Q rest (a.put o.dst v') w') : wpList Try.prog ops Q (o :: rest) a w := by
  obtain ⟨i0, hi, hz0, hz1, hz2⟩ := info_parts info_en
  refine wpList_plain hgd fun K hK => ?_
  obtain ⟨v', w', hrun, h2, h3, h4⟩ := run_appN (P := Try.prog) w B 110 o.type 113 i0 _ 7 80 Try.underlying110 hi hz0 hz1 hz2 rfl (by decide) v ds.length (cellsE ds) hown A m c (cellsE ns) (by rw [cellsE_length, hm]) hr (cellsE_one _) (by unfold maxLen; omega) (by omega) hB
  unfold Oper.wp execOp
  simp only [ho, resolve, invoke, builtin, Sem.run_bind, Sem.run_pure, Result.andThen_ok, List.map_toArray, List.map_cons, List.map_nil, hs, hx, hrun]
  refine hK _ _ (h v' w' ?_ h3 h4)
  unfold OwnE
  rw [cellsE_append, List.length_append, hm]
  exact h2
theorem OwnE.form {w : World} {v : Value} {ds : List EnV} {B : Nat} (h : OwnE w B v ds) : ∃ A c, v = .slice A ds.length c ∧ ds.length ≤ c ∧ c ≤ maxLen ∧ Rd w A (cellsE ds) ∧ (∀ a, A = some a → B ≤ a.block ∧ a.block < w.heap.size ∧ a.off = 0 ∧ a.spot = none) ∧ (A = none → c = 0) := by
  obtain ⟨hl, h2⟩ := h
  rcases h2 with ⟨rfl, h0⟩ | ⟨g, cap, cur, rfl, hb, hg, hn, hm, hcs, ht⟩
  · obtain rfl : ds = [] := List.eq_nil_of_length_eq_zero h0
    exact ⟨none, 0, rfl, Nat.le_refl _, Nat.zero_le _, .inl rfl, fun a ha => by (cases ha), fun _ => rfl⟩
  · refine ⟨some ⟨g, 0, none⟩, cap, rfl, hn, hm, .inr ⟨g, 0, rfl, (Array.getElem?_eq_some_iff.1 hg).1, fun k hk => ?_⟩, fun a ha => ?_, fun ha => by (cases ha)⟩
    · rw [Nat.zero_add, cell_of_row w g k cur _ (0, 0) hg]
      have h1 : (cellsE ds)[k]? = some (cellsE ds)[k] := List.getElem?_eq_getElem hk
      rw [← h1]
      conv => rhs; rw [← ht]
      rw [List.getElem?_take, if_pos (by omega)]
      simp
    · injection ha with ha; subst ha; exact ⟨hb, (Array.getElem?_eq_some_iff.1 hg).1, rfl, rfl⟩
theorem OwnE.below {w w' : World} {B : Nat} {v : Value} {ds : List EnV} (h : OwnE w B v ds) (hb : Below w.heap.size w w') : OwnE w' B v ds := Own.frameK h (fun g e => hb.block g (World.ownsRow.lt h g e).2)
theorem OwnE.formL {w : World} {v : Value} {ds : List EnV} {B L : Nat} (h : OwnE w B v ds) (hL : ds.length = L) : ∃ A c, v = .slice A L c ∧ L ≤ c ∧ c ≤ maxLen ∧ Rd w A (cellsE ds) := by
  obtain ⟨A, c, h1, h2, h3, h4, -, -⟩ := h.form
  exact ⟨A, c, by rw [h1, hL], by rw [← hL]; exact h2, h3, h4⟩

/-- 'append(v, xs...)' on entries, the grown row laid open. -/
theorem wpList_appEL (w : World) {ops : Array Oper} {rest : List Oper} {o : Oper} {a : Act} {Q : Exit → Act → World → Prop} (hgd : o.guard = none) (s x : Operand)
    (ho : o.op = .call { callee := .builtin .append, args := #[s, x], argTypes := #[110, 110] })
    (W : World) (v : Value) (ds : List EnV) (L : Nat) (hs : a.eval s = v) (hown : OwnE w W.heap.size v ds) (hL : ds.length = L)
    (A : Option Addr) (m c : Nat) (ns : List EnV) (hx : a.eval x = .slice A m c) (hm : ns.length = m) (hr : Rd w A (cellsE ns))
    (hlen : L + m ≤ 1000000) (hB : Below W.heap.size W w)
    (h : ∀ A' c' w', OwnE w' W.heap.size (.slice A' (L + m) c') (ds ++ ns) → L + m ≤ c' → c' ≤ maxLen → Below W.heap.size W w' → wpList Try.prog ops Q rest (a.put o.dst (.slice A' (L + m) c')) w') : wpList Try.prog ops Q (o :: rest) a w := by
  refine wpList_appE w hgd s x ho W.heap.size v ds hs hown A m c ns hx hm hr (by omega) hB.size fun v' w' h1 h2 _ => ?_
  obtain ⟨A', c', rfl, h4, h5, -⟩ := h1.formL (L := L + m) (by rw [List.length_append, hL, hm])
  exact h A' c' w' h1 h4 h5 (hB.grown h2 hB.size (fun j hj => (World.ownsRow.lt hown j hj).1))
end Go.Proofs.Ytcffinkkfdfcaaa
