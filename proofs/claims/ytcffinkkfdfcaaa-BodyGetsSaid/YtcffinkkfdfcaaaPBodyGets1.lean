/- Parts one behind the other: Plain words and lemmas on memory: cells that read as a list; rows that the call itself made; append onto them; Events as plain data: which may be; Blocks of memory, whole: reads, stores, what stays; words in a row; Events in memory: rows of five cells each, with their texts; which blocks they lie in; what stays; Items: a list of items, each with bytes or a list of its own, as plain data; how it lies in memory; The reference's row of items, in plain words: entries depth first, each with its depth and the kind ahead; Rows of events that the call itself makes: appended, made, stored into; Rows of the reference's entries in memory: seven cells each; Plain law: how numbers are laid as bytes; no program in sight; What the layer wire's and its reference's Var answer: a number laid by as few bytes as can be; The bytes of a list of items, in plain words; Words of 32 bits as values that the walk does not look into, and what the program's operations do with them; What the small functions of sha and of its reference do with words; What sha.turn makes of eight words and a block of 64 bytes, in plain lists; Eight words built into an array; What sha.turn computes; The sum in plain lists: padding, blocks one behind the other, the bytes of the words; What sha.first and sha.Sum answer; What the reference's turned, root and block answer; What the reference's block answers; What the reference's Padded answers; A store of one cell, the world left open: what is known of the block goes on; What the reference's Sum answers: the same as sha.Sum. Conditions: as told at each. -/
import Derived.Test.YtcffinkkfdfcaaaProg
import Derived.WalkKit
import Derived.ProofKit
import Derived.OpenShut
import Derived.ShutString
import Derived.ChangeOld
import Derived.Below
import Derived.KernelRfl
import Derived.Lib.Hide
import Derived.Deep.QuietTactic
import Derived.BigQuiet
import Derived.WalkLawsBesides
import Derived.WalkSpells
import Derived.Laws.CopyOwn
import Derived.Laws.AppendOwnNone
import Derived.Maps.AppendAt
import Derived.Deep.AppendLies
import Derived.Deep.RegionWith
import Derived.Deep.RegionLaw
import Derived.Deep.DeepCutAuto
import Derived.Deep.CutRange
import Derived.Outline
import Derived.Handy
import Derived.Laws.OwnMore
import Derived.Laws.BitsAllLaws
import Derived.Great.BuildSlice
import Derived.StillTailTactics
import Derived.Deep.RegionHeld3
import Derived.Deep.MidRow

/- Plain words and lemmas on memory: cells that read as a list; rows that the call itself made; append onto them. Conditions: none. -/
namespace Go.Proofs.Ytcffinkkfdfcaaa
open Go Go.RowKit

/-- A byte as a value. -/
def bv (b : UInt8) : Value := .int .u8 (b.toNat : Int)

/-- The address reads as these cells. -/
def Rd (w : World) (A : Option Addr) (vs : List Value) : Prop :=
  vs = [] ∨ ∃ b off, A = some ⟨b, off, none⟩ ∧ b < w.heap.size ∧ ∀ k (h : k < vs.length), w.cell? ⟨b, off + k, none⟩ = some vs[k]

section
variable {w w' : World} {A : Option Addr} {vs : List Value}
theorem Rd.nil_ : Rd w A [] := .inl rfl
theorem Rd.of_blocks (h : Rd w A vs) (hk : ∀ b, b < w.heap.size → (∃ off, A = some ⟨b, off, none⟩) → w'.heap[b]? = w.heap[b]?) (hs : w.heap.size ≤ w'.heap.size) : Rd w' A vs := by
  rcases h with h | ⟨b, off, rfl, hb, h⟩
  · exact .inl h
  · exact .inr ⟨b, off, rfl, by omega, fun k hk' => (World.cell?_of_block (w := w) (a := ⟨b, off + k, none⟩) (hk b hb ⟨off, rfl⟩)).trans (h k hk')⟩
theorem Rd.below (h : Rd w A vs) (hb : Below w.heap.size w w') : Rd w' A vs := h.of_blocks (fun b h1 _ => hb.block b h1) hb.size
theorem Rd.drewN (h : Rd w A vs) (n : Nat) : Rd (w.drewN n) A vs := h
theorem Rd.alloc (h : Rd w A vs) (o : Obj) : Rd (w.alloc o) A vs := h.of_blocks (fun b h1 _ => Below.heap_alloc w o b h1) (by simp)
theorem Rd.grown (h : Rd w A vs) {row : Option Nat} (hg : w.grownBy w' row) (hne : ∀ b off, A = some ⟨b, off, none⟩ → row ≠ some b) : Rd w' A vs :=
  h.of_blocks (fun b h1 ⟨off, e⟩ => hg.block b h1 (fun e' => hne b off e e'.symm)) hg.size
theorem Rd.take (h : Rd w A vs) (n : Nat) : Rd w A (vs.take n) := by
  rcases h with rfl | ⟨b, off, rfl, hb, h⟩
  · exact .inl (by simp)
  · exact .inr ⟨b, off, rfl, hb, fun k hk => by
      have hk' : k < vs.length := by simp at hk; omega
      simpa using h k hk'⟩
/-- The cut 's[k:]' as the model writes its address: at the capacity's end it stays. -/
theorem Rd.cut (h : Rd w A vs) {k n c : Nat} (hn : vs.length = n) (hk : k ≤ n) (hc : n ≤ c) : Rd w (if c = k then A else A.map (fun x => x.add k)) (vs.drop k) := by
  rcases h with rfl | ⟨b, off, rfl, hb, h⟩
  · exact .inl (by simp)
  · by_cases e : c = k
    · left; apply List.eq_nil_of_length_eq_zero; rw [List.length_drop]; omega
    · rw [if_neg e]
      refine .inr ⟨b, off + k, ?_, hb, fun j hj => ?_⟩
      · unfold Addr.add
        by_cases h0 : k = 0 <;> simp [h0]
      · simp only [List.length_drop] at hj
        rw [Nat.add_assoc, h (k + j) (by omega)]
        simp
theorem Rd.addr (h : Rd w A vs) (h0 : 0 < vs.length) : ∃ b off, A = some ⟨b, off, none⟩ ∧ b < w.heap.size ∧ ∀ k (h : k < vs.length), w.cell? ⟨b, off + k, none⟩ = some vs[k] := by
  rcases h with rfl | h
  · simp at h0
  · exact h
theorem Rd.cellsAt (h : Rd w A vs) : ∀ ad, A = some ad → ∀ j u, vs[j]? = some u → w.cell? (ad.add j) = some u := by
  intro ad e j u hu
  have hj := (List.getElem?_eq_some_iff.1 hu).1
  obtain ⟨b, off, rfl, _, hc⟩ := h.addr (by omega)
  injection e with e
  subst e
  have h2 := hc j hj
  rw [List.getElem?_eq_getElem hj] at hu
  injection hu with hu
  rw [← hu, ← h2]
  unfold Addr.add
  by_cases h0 : j = 0
  · subst h0; rfl
  · simp [h0]
end

theorem grownBy_of_below {a w : World} (h : Below a.heap.size a w) (row : Option Nat) : a.grownBy w row := ⟨h.os, h.tape, h.output, h.size, fun i hi _ => h.block i hi⟩
theorem below_drewN {B : Nat} {a w : World} (h : Below B a w) (n : Nat) : Below B a (w.drewN n) := ⟨h.os, h.tape, h.output, h.size, h.block⟩

/-- A row of cells, made by the call itself from block B on. -/
def Own (w : World) (B : Nat) (e : TypeId) (v : Value) (vs : List Value) : Prop := w.ownsRow B e 1 v vs.length vs

section
variable {w w' : World} {B : Nat} {e : TypeId} {v : Value} {vs : List Value}
theorem Own.nil_ (w : World) (B : Nat) (e : TypeId) : Own w B e (.slice none 0 0) [] := World.ownsRow_nil _ _ _ _
theorem Own.form (h : Own w B e v vs) : ∃ A c, v = .slice A vs.length c ∧ vs.length ≤ c ∧ c ≤ maxLen ∧ Rd w A vs ∧ (∀ a, A = some a → B ≤ a.block ∧ a.block < w.heap.size ∧ a.off = 0 ∧ a.spot = none) ∧ (A = none → c = 0) := by
  have hh := h
  obtain ⟨hl, h2⟩ := h
  rcases h2 with ⟨rfl, h0⟩ | ⟨g, cap, cur, rfl, hb, hg, hn, hm, hcs, ht⟩
  · obtain rfl : vs = [] := List.eq_nil_of_length_eq_zero h0
    exact ⟨none, 0, rfl, Nat.le_refl _, Nat.zero_le _, .inl rfl, fun a ha => by (cases ha), fun _ => rfl⟩
  · refine ⟨some ⟨g, 0, none⟩, cap, rfl, hn, hm, .inr ⟨g, 0, rfl, (Array.getElem?_eq_some_iff.1 hg).1, fun k hk => ?_⟩, fun a ha => ?_, fun ha => by (cases ha)⟩
    · have := hh.cellAt k (by omega)
      rw [Nat.zero_add, this, List.getElem?_eq_getElem hk]
    · injection ha with ha; subst ha; exact ⟨hb, (Array.getElem?_eq_some_iff.1 hg).1, rfl, rfl⟩
theorem Own.below (h : Own w B e v vs) (hb : Below w.heap.size w w') : Own w' B e v vs := World.ownsRow.kept h (grownBy_of_below hb (some w.heap.size)) (by
  rcases h.2 with ⟨rfl, _⟩ | ⟨g, cap, cur, rfl, _, hg, _⟩
  · left; rfl
  · right
    have := (Array.getElem?_eq_some_iff.1 hg).1
    simp [Value.ownBlock]; omega)
theorem Own.drewN (h : Own w B e v vs) (n : Nat) : Own (w.drewN n) B e v vs := h
theorem Own.alloc (h : Own w B e v vs) (o : Obj) : Own (w.alloc o) B e v vs := World.ownsRow.alloc h o
theorem Own.low {B' : Nat} (h : Own w B e v vs) (hB : B' ≤ B) : Own w B' e v vs := by
  refine ⟨h.1, ?_⟩
  rcases h.2 with h2 | ⟨g, cap, cur, hv, hb, r⟩
  · exact .inl h2
  · exact .inr ⟨g, cap, cur, hv, by omega, r⟩
theorem Own.setBelow (h : Own w B e v vs) {p : Addr} (hp : p.block < B) (u : Value) : Own (w.setCell p u) B e v vs := ownsRow_setCell_below h hp u
theorem Own.lt (h : Own w B e v vs) : ∀ k, v.ownBlock = some k → B ≤ k ∧ k < w.heap.size := World.ownsRow.lt h
end

/-- append onto a row of the call's own, whatever the source: nil, empty or not. -/
theorem run_append_of_nil {P : Program} (w : World) (base : Nat) (t ty e : TypeId) (i : TypeInfo) (size : Nat) (ht : P.underlying t = some (.slice e)) (hi : P.info? e = some i)
    (v : Value) (n : Nat) (xs : List Value) (hown : w.ownsRow base e size v n xs) (c : Nat) : (Builtin.append_ #[t, t] ty #[v, .slice none 0 c]).run P w = .ok v w := by
  rcases hown.2 with ⟨rfl, rfl⟩ | ⟨g, cap, cur, rfl, _, _, hnc, _⟩
  · simp [Builtin.append_, run_underlying ht, sizeOf, typeInfo, hi, Builtin.lenOf, Builtin.firstCells]
  · simp [Builtin.append_, run_underlying ht, sizeOf, typeInfo, hi, Builtin.lenOf, Builtin.firstCells, hnc, storeCells]

theorem run_app {P : Program} (w : World) (base : Nat) (t ty e : TypeId) (i : TypeInfo) (z : Value) (bytes : Nat) (ht : P.underlying t = some (.slice e)) (hi : P.info? e = some i) (hz : i.zero = some z)
    (hsize : i.size = 1) (hby : i.bytes = bytes) (hzs : z.cells.size = 1)
    (v : Value) (xs : List Value) (hown : Own w base e v xs) (A : Option Addr) (m c : Nat) (news : List Value) (hm : news.length = m) (hr : Rd w A news) (h1 : ∀ u ∈ news, u.oneCell' = true)
    (hlen : xs.length + m ≤ maxLen) (hbytes : (xs.length + m) * bytes ≤ 140737488355328) (hbase : base ≤ w.heap.size) :
    ∃ v' w', (Builtin.append_ #[t, t] ty #[v, .slice A m c]).run P w = .ok v' w' ∧ Own w' base e v' (xs ++ news) ∧ w.grownBy w' v.ownBlock ∧
      (v'.ownBlock = v.ownBlock ∨ v'.ownBlock = some w.heap.size) := by
  subst hm
  rcases A with _ | ad
  · have hn : news = [] := by
      rcases hr with h | ⟨_, _, h, _⟩
      · exact h
      · cases h
    subst hn
    exact ⟨v, w, run_append_of_nil w base t ty e i 1 ht hi v xs.length xs hown c, by simpa using hown, World.grownBy.refl w _, .inl rfl⟩
  · obtain ⟨v', w', hrun, h2, h3, _, h5⟩ := run_append_own_at (P := P) w base t ty e i z 1 bytes ht hi hz hsize hby hzs (by decide) v xs.length xs hown ad news.length c news (by simp) (hr.cellsAt ad rfl) h1 hlen hbytes hbase
    exact ⟨v', w', hrun, by simpa [Own] using h2, h3, h5⟩

theorem wpList_app {P : Program} (w : World) {ops : Array Oper} {rest : List Oper} {o : Oper} {a : Act} {Q : Exit → Act → World → Prop} (hgd : o.guard = none) (s x : Operand) (t : TypeId)
    (ho : o.op = .call { callee := .builtin .append, args := #[s, x], argTypes := #[t, t] })
    (base : Nat) (e : TypeId) (i : TypeInfo) (z : Value) (bytes : Nat) (ht : P.underlying t = some (.slice e)) (hi : P.info? e = some i) (hz : i.zero = some z)
    (hsize : i.size = 1) (hby : i.bytes = bytes) (hzs : z.cells.size = 1)
    (v : Value) (xs : List Value) (hs : a.eval s = v) (hown : Own w base e v xs)
    (A : Option Addr) (m c : Nat) (news : List Value) (hx : a.eval x = .slice A m c) (hm : news.length = m) (hr : Rd w A news) (h1 : ∀ u ∈ news, u.oneCell' = true)
    (hlen : xs.length + m ≤ maxLen) (hbytes : (xs.length + m) * bytes ≤ 140737488355328) (hbase : base ≤ w.heap.size)
    (h : ∀ v' w', Own w' base e v' (xs ++ news) → w.grownBy w' v.ownBlock → (v'.ownBlock = v.ownBlock ∨ v'.ownBlock = some w.heap.size) → wpList P ops Q rest (a.put o.dst v') w') : wpList P ops Q (o :: rest) a w := by
  refine wpList_plain hgd fun K hK => ?_
  obtain ⟨v', w', hrun, h2, h3, h4⟩ := run_app (P := P) w base t o.type e i z bytes ht hi hz hsize hby hzs v xs hown A m c news hm hr h1 hlen hbytes hbase
  unfold Oper.wp execOp
  simp only [ho, resolve, invoke, builtin, Sem.run_bind, Sem.run_pure, Result.andThen_ok, List.map_toArray, List.map_cons, List.map_nil, hs, hx, hrun]
  exact hK _ _ (h v' w' h2 h3 h4)

/-! ### Bytes -/
theorem info_u8 : (Try.prog.info? 5).map (fun i => (i.zero, i.size, i.bytes)) = some (some (.int .u8 0), 1, 1) := by kernel_rfl

/-- Bytes in a row of the call's own. -/
def OwnB (w : World) (B : Nat) (v : Value) (bs : List UInt8) : Prop := Own w B 5 v (bs.map bv)

theorem bv_one (bs : List UInt8) : ∀ u ∈ bs.map bv, u.oneCell' = true := by
  intro u hu
  obtain ⟨_, _, rfl⟩ := List.mem_map.1 hu
  rfl
theorem bv_inj {x y : UInt8} (h : bv x = bv y) : x = y := by
  simp only [bv, Value.int.injEq, true_and] at h
  exact UInt8.toNat_inj.1 (by omega)
theorem OwnB.form {w : World} {B : Nat} {v : Value} {bs : List UInt8} (h : OwnB w B v bs) :
    ∃ A c, v = .slice A bs.length c ∧ bs.length ≤ c ∧ c ≤ maxLen ∧ Rd w A (bs.map bv) ∧ (∀ a, A = some a → B ≤ a.block ∧ a.block < w.heap.size ∧ a.off = 0 ∧ a.spot = none) := by
  obtain ⟨A, c, h1, h2, h3, h4, h5, _⟩ := Own.form h
  simp only [List.length_map] at h1 h2
  exact ⟨A, c, h1, h2, h3, h4, h5⟩

theorem Rd.addrB {w : World} {A : Option Addr} {bs : List UInt8} (h : Rd w A (bs.map bv)) (h0 : 0 < bs.length) :
    ∃ b off, A = some ⟨b, off, none⟩ ∧ b < w.heap.size ∧ ∀ k (h : k < bs.length), w.cell? ⟨b, off + k, none⟩ = some (bv bs[k]) := by
  obtain ⟨b, off, h1, h2, h3⟩ := h.addr (by rw [List.length_map]; exact h0)
  refine ⟨b, off, h1, h2, fun k hk => ?_⟩
  have := h3 k (by rw [List.length_map]; exact hk)
  rw [this, List.getElem_map]

/-- 'append(v, xs...)' on bytes. -/
theorem wpList_appB (w : World) {ops : Array Oper} {rest : List Oper} {o : Oper} {a : Act} {Q : Exit → Act → World → Prop} (hgd : o.guard = none) (s x : Operand)
    (ho : o.op = .call { callee := .builtin .append, args := #[s, x], argTypes := #[25, 25] })
    (B : Nat) (v : Value) (bs : List UInt8) (hs : a.eval s = v) (hown : OwnB w B v bs)
    (A : Option Addr) (m c : Nat) (ns : List UInt8) (hx : a.eval x = .slice A m c) (hm : ns.length = m) (hr : Rd w A (ns.map bv))
    (hlen : bs.length + m ≤ 140737488355328) (hB : B ≤ w.heap.size)
    (h : ∀ v' w', OwnB w' B v' (bs ++ ns) → w.grownBy w' v.ownBlock → (v'.ownBlock = v.ownBlock ∨ v'.ownBlock = some w.heap.size) → wpList Try.prog ops Q rest (a.put o.dst v') w') : wpList Try.prog ops Q (o :: rest) a w := by
  obtain ⟨i0, hi, hz0, hz1, hz2⟩ := info_parts info_u8
  refine wpList_app w hgd s x 25 ho B 5 i0 (.int .u8 0) 1 Try.underlying25 hi hz0 hz1 hz2 rfl v (bs.map bv) hs hown A m c (ns.map bv) hx (by simpa using hm) hr (bv_one _) (by simp only [List.length_map, maxLen]; omega) (by simp only [List.length_map]; omega) hB ?_
  intro v' w' h1 h2 h3
  exact h v' w' (by simpa [OwnB] using h1) h2 h3

/-- 'append(v, x)' of one byte, laid in a new block. -/
theorem wpList_appB1 (w : World) {ops : Array Oper} {rest : List Oper} {o : Oper} {a : Act} {Q : Exit → Act → World → Prop} (hgd : o.guard = none) (s x : Operand)
    (ho : o.op = .call { callee := .builtin .append, args := #[s, x], argTypes := #[25, 25] })
    (B : Nat) (v : Value) (bs : List UInt8) (hs : a.eval s = v) (hown : OwnB w B v bs) (X : Value) (hx : a.eval x = .slice (some ⟨w.heap.size, 0, none⟩) 1 1) (b : UInt8) (hX : X = bv b)
    (hlen : bs.length + 1 ≤ 140737488355328) (hB : B ≤ w.heap.size)
    (h : ∀ v' w', OwnB w' B v' (bs ++ [b]) → (w.alloc (.cells #[X] 5)).grownBy w' v.ownBlock → (v'.ownBlock = v.ownBlock ∨ v'.ownBlock = some (w.heap.size + 1)) → wpList Try.prog ops Q rest (a.put o.dst v') w') : wpList Try.prog ops Q (o :: rest) a (w.alloc (.cells #[X] 5)) := by
  subst hX
  refine wpList_appB _ hgd s x ho B v bs hs (Own.alloc hown _) _ 1 1 [b] hx rfl (.inr ⟨w.heap.size, 0, rfl, by simp, fun k hk => ?_⟩) hlen (by simp; omega) (fun v' w' h1 h2 h3 => h v' w' h1 h2 (by simpa using h3))
  have : k = 0 := by simp at hk; omega
  subst this
  exact cell_of_row _ _ 0 _ _ (0, 0) (heap_alloc_new w _)

/-! ### Rows whose head is known: reads, stores -/
section
variable {w : World} {B : Nat} {e : TypeId} {g n c : Nat} {vs : List Value}
theorem Own.len (h : Own w B e (.slice (some ⟨g, 0, none⟩) n c) vs) : n = vs.length ∧ vs.length ≤ c := by
  rcases h.2 with ⟨h, _⟩ | ⟨g', cap, cur, hv, _, _, hn, _⟩
  · cases h
  · injection hv with _ h2 h3
    exact ⟨h2, by omega⟩
theorem Own.to_n (h : Own w B e (.slice (some ⟨g, 0, none⟩) n c) vs) : w.ownsRow B e 1 (.slice (some ⟨g, 0, none⟩) n c) n vs := by
  have := h.len.1; subst this; exact h
theorem Own.cell (h : Own w B e (.slice (some ⟨g, 0, none⟩) n c) vs) (j : Nat) (hj : j < vs.length) : w.cell? ⟨g, j, none⟩ = some vs[j] := by
  rw [h.to_n.cellAt j (by have := h.len.1; omega), List.getElem?_eq_getElem hj]
theorem Own.free (h : Own w B e (.slice (some ⟨g, 0, none⟩) n c) vs) (j : Nat) : w.frozen? ⟨g, j, none⟩ = false := h.to_n.frozenAt j
theorem Own.set (h : Own w B e (.slice (some ⟨g, 0, none⟩) n c) vs) (j : Nat) (u : Value) : Own (w.setCell ⟨g, j, none⟩ u) B e (.slice (some ⟨g, 0, none⟩) n c) (vs.set j u) := by
  have h2 := (h.to_n.stored j u).1
  have hl := h.len.1
  unfold Own
  rw [List.length_set, ← hl]
  exact h2
end
section
variable {w : World} {B g n c : Nat} {bs : List UInt8}
theorem OwnB.len (h : OwnB w B (.slice (some ⟨g, 0, none⟩) n c) bs) : n = bs.length := by simpa using (Own.len h).1
theorem OwnB.cell (h : OwnB w B (.slice (some ⟨g, 0, none⟩) n c) bs) (j : Nat) (hj : j < bs.length) : w.cell? ⟨g, j, none⟩ = some (bv bs[j]) := by
  have := Own.cell h j (by simpa using hj)
  simpa using this
theorem OwnB.free (h : OwnB w B (.slice (some ⟨g, 0, none⟩) n c) bs) (j : Nat) : w.frozen? ⟨g, j, none⟩ = false := Own.free h j
theorem OwnB.set (h : OwnB w B (.slice (some ⟨g, 0, none⟩) n c) bs) (j : Nat) (b : UInt8) : OwnB (w.setCell ⟨g, j, none⟩ (bv b)) B (.slice (some ⟨g, 0, none⟩) n c) (bs.set j b) := by
  have := Own.set h j (bv b)
  rw [← List.map_set] at this
  exact this
end

/-- 'make([]byte, n)'. -/
theorem wpList_makeB (w : World) {ops : Array Oper} {rest : List Oper} {o : Oper} {a : Act} {Q : Exit → Act → World → Prop} (hgd : o.guard = none) (l c : Operand) (ho : o.op = Op.makeSlice 25 l c)
    (kl kc : IntKind) (L C : Int) (n : Nat) (hl : a.eval l = .int kl L) (hc : a.eval c = .int kc C) (hL : L = (n : Int)) (hC : C = (n : Int)) (hn : n ≤ 140737488355328)
    (h : ∀ w', OwnB w' w.heap.size (.slice (some ⟨w.heap.size, 0, none⟩) n n) (List.replicate n 0) → Below w.heap.size w w' → w.grownBy w' none → wpList Try.prog ops Q rest (a.put o.dst (.slice (some ⟨w.heap.size, 0, none⟩) n n)) w') :
    wpList Try.prog ops Q (o :: rest) a w := by
  obtain ⟨i0, hi, hz0, hz1, hz2⟩ := info_parts info_u8
  refine wpList_make_full w hgd l c 25 ho w.heap.size 5 i0 (.int .u8 0) 1 Try.underlying25 hi hz0 hz1 kl kc L C n hl hc hL hC (by rw [hz2]; omega) (by unfold maxLen; omega) (Nat.le_refl _) ?_
  intro w' h1 h2
  refine h w' ?_ ((Below.refl _ _).grown h2 (Nat.le_refl _) (fun k hk => by cases hk)) h2
  have e : (madeCells (Value.int .u8 0).cells (n * 1)).toList = (List.replicate n (0 : UInt8)).map bv := by
    rw [Nat.mul_one, List.map_replicate]; exact toList_madeCells_one _ _
  rw [e] at h1
  simpa [OwnB, Own] using h1

/-- 'copy(dst, src)' on bytes, dst a row of the call's own, from its head on. -/
theorem wpList_copyB (w : World) {ops : Array Oper} {rest : List Oper} {o : Oper} {a : Act} {Q : Exit → Act → World → Prop} (hgd : o.guard = none) (d s : Operand)
    (ho : o.op = .call { callee := .builtin .copy, args := #[d, s], argTypes := #[25, 25] })
    (B g n c : Nat) (bs : List UInt8) (hd : a.eval d = .slice (some ⟨g, 0, none⟩) n c) (hown : OwnB w B (.slice (some ⟨g, 0, none⟩) n c) bs)
    (A : Option Addr) (m k : Nat) (ns : List UInt8) (hs : a.eval s = .slice A m k) (hm : ns.length = m) (hr : Rd w A (ns.map bv))
    (h : ∀ w', OwnB w' B (.slice (some ⟨g, 0, none⟩) n c) (ns.take n ++ bs.drop m) → Below B w w' → w.grownBy w' (some g) → wpList Try.prog ops Q rest (a.put o.dst (goInt ((min m n : Nat) : Int))) w') : wpList Try.prog ops Q (o :: rest) a w := by
  subst hm
  have hlen := hown.len
  subst hlen
  have hfull := hown
  obtain ⟨_, ⟨hbad, _⟩ | ⟨g', cap, cur, hv, hgB, hg, hnc, hcm, hcs, htk⟩⟩ := hown
  · cases hbad
  injection hv with hv1 hv2 hv3
  subst hv3
  injection hv1 with hv1
  injection hv1 with hv1
  subst hv1
  have hmn : min ns.length bs.length = (ns.take bs.length).length := by rw [List.length_take, Nat.min_comm]
  by_cases h0 : (ns.take bs.length).length = 0
  · refine wpList_copy_nothing hgd d s _ _ ho 5 Try.underlying25 (by kernel_rfl) _ _ _ _ _ _ hd hs (by rw [← hmn] at h0; exact h0) ?_
    have e : ns.take bs.length ++ bs.drop ns.length = bs := by
      rw [List.eq_nil_of_length_eq_zero h0, List.nil_append]
      rw [List.length_take] at h0
      rcases Nat.min_eq_zero_iff.1 h0 with h1 | h1
      · rw [List.eq_nil_of_length_eq_zero h1]; simp
      · rw [h1]; rfl
    have := h w (by rw [e]; exact hfull) (Below.refl _ _) (World.grownBy.refl _ _)
    rw [hmn, h0] at this
    exact this
  · have hpos : 0 < (ns.map bv).length := by
      rw [List.length_take] at h0; rw [List.length_map]; omega
    obtain ⟨b, off, rfl, hlt, hc⟩ := hr.addr hpos
    have hcur : cur.size = c := by simpa using hcs
    have htk' : cur.toList.take bs.length = bs.map bv := by simpa using htk
    have hnc' : bs.length ≤ c := by simpa using hnc
    refine wpList_copy_own hgd d s _ _ ho 5 Try.underlying25 (by kernel_rfl) g 0 bs.length c ⟨b, off, none⟩ ns.length k hd hs cur 5 hg ((ns.take bs.length).map bv) (by rw [List.length_map, ← hmn]) ?_ ?_ ?_ ?_
    · intro j v hj
      refine hr.cellsAt _ rfl j v ?_
      rw [List.map_take] at hj
      rw [List.getElem?_take] at hj
      split at hj
      · exact hj
      · cases hj
    · rw [List.length_map, List.length_take]; omega
    · exact bv_one _
    · rw [List.length_map, ← hmn]
      refine h _ ⟨by simp, .inr ⟨g, c, _, by simp; omega, hgB, setRow_heap w g cur _ 5 _ hg, by simp; omega, hcm, ?_, ?_⟩⟩ ⟨rfl, rfl, rfl, by simp, fun q hq => setRow_other w g q _ (by omega)⟩ ⟨rfl, rfl, rfl, by simp, fun q _ hq => setRow_other w g q _ (fun e => hq (by rw [e]))⟩
      · simp; omega
      · simp only [List.take_zero, List.nil_append, Nat.zero_add, Nat.mul_one, List.map_append, List.length_map, List.length_append]
        have e1 : cur.toList.drop (min ns.length bs.length) = ((bs.map bv).drop (min ns.length bs.length)) ++ cur.toList.drop bs.length := by
          rw [← htk', ← List.drop_append_of_le_length (by simp; omega), List.take_append_drop]
        rw [e1, ← List.append_assoc, List.take_append_of_le_length (by simp; omega)]
        rw [List.take_of_length_le (by simp; omega)]
        congr 1
        rw [← List.map_drop]
        congr 1
        rcases Nat.le_total ns.length bs.length with hq | hq
        · rw [Nat.min_eq_left hq]
        · rw [Nat.min_eq_right hq, List.drop_of_length_le (Nat.le_refl _), List.drop_of_length_le hq]

/-- 'append([]byte(nil), xs...)'. -/
theorem run_cloneB (w : World) (ty : TypeId) (A : Option Addr) (m c : Nat) (ns : List UInt8) (hm : ns.length = m) (hr : Rd w A (ns.map bv)) (hl : m ≤ 140737488355328) :
    ∃ A' c' w', (Builtin.append_ #[25, 25] ty #[.slice none 0 0, .slice A m c]).run Try.prog w = .ok (.slice A' m c') w' ∧ OwnB w' w.heap.size (.slice A' m c') ns ∧ Below w.heap.size w w' ∧ m ≤ c' ∧ c' ≤ maxLen ∧ Rd w' A' (ns.map bv) ∧ (∀ a, A' = some a → w.heap.size ≤ a.block ∧ a.block < w'.heap.size) ∧ w.grownBy w' none := by
  obtain ⟨i0, hi, hz0, hz1, hz2⟩ := info_parts info_u8
  obtain ⟨v', w', hrun, h2, h3, h4⟩ := run_app (P := Try.prog) w w.heap.size 25 ty 5 i0 (.int .u8 0) 1 Try.underlying25 hi hz0 hz1 hz2 rfl (.slice none 0 0) [] (Own.nil_ _ _ _) A m c (ns.map bv) (by simpa using hm) hr (bv_one _) (by simp [maxLen]; omega) (by simp; omega) (Nat.le_refl _)
  rw [List.nil_append] at h2
  obtain ⟨A', c', rfl, hc, hcm, hr', hB⟩ := OwnB.form h2
  subst hm
  exact ⟨A', c', w', hrun, h2, (Below.refl _ _).grown h3 (Nat.le_refl _) (fun k hk => by simp [Value.ownBlock] at hk), hc, hcm, hr', fun a ha => ⟨(hB a ha).1, (hB a ha).2.1⟩, h3⟩

theorem wpList_cloneB (w : World) {ops : Array Oper} {rest : List Oper} {o : Oper} {a : Act} {Q : Exit → Act → World → Prop} (hgd : o.guard = none) (x : Operand)
    (ho : o.op = .call { callee := .builtin .append, args := #[.const (.slice none 0 0), x], argTypes := #[25, 25] })
    (A : Option Addr) (m c : Nat) (ns : List UInt8) (hx : a.eval x = .slice A m c) (hm : ns.length = m) (hr : Rd w A (ns.map bv)) (hl : m ≤ 140737488355328)
    (h : ∀ A' c' w', OwnB w' w.heap.size (.slice A' m c') ns → Below w.heap.size w w' → m ≤ c' → c' ≤ maxLen → Rd w' A' (ns.map bv) → (∀ a, A' = some a → w.heap.size ≤ a.block ∧ a.block < w'.heap.size) → wpList Try.prog ops Q rest (a.put o.dst (.slice A' m c')) w') : wpList Try.prog ops Q (o :: rest) a w := by
  refine wpList_plain hgd fun K hK => ?_
  obtain ⟨A', c', w', hrun, h1, h2, h3, h4, h5, h6, _⟩ := run_cloneB w o.type A m c ns hm hr hl
  unfold Oper.wp execOp
  simp only [ho, resolve, invoke, builtin, Sem.run_bind, Sem.run_pure, Result.andThen_ok, List.map_toArray, List.map_cons, List.map_nil, hx, show a.eval (.const (.slice none 0 0)) = .slice none 0 0 from rfl, hrun]
  exact hK _ _ (h A' c' w' h1 h2 h3 h4 h5 h6)

/-- A literal row in a new block. -/
theorem Rd.lit (w : World) (vs : List Value) (t : TypeId) : Rd (w.alloc (.cells vs.toArray t)) (some ⟨w.heap.size, 0, none⟩) vs := by
  refine .inr ⟨w.heap.size, 0, rfl, by simp, fun k hk => ?_⟩
  rw [Nat.zero_add, cell_of_row _ _ k _ _ (0, 0) (heap_alloc_new w _)]
  simp

end Go.Proofs.Ytcffinkkfdfcaaa

/- Events as plain data: which may be. Conditions: none. -/
namespace Go.Proofs.Ytcffinkkfdfcaaa
open Go Go.RowKit

/-- An event. -/
structure Ev where
  k : Int
  t : List UInt8
  x : Int
  y : Int
  b : Int
deriving DecidableEq
def mayP (k x y b : Int) (n : Nat) : Prop :=
  (k = 1 ∧ x = 0 ∧ y = 0 ∧ b = 0 ∧ 1 ≤ n ∧ n ≤ 8) ∨ (k = 2 ∧ x = 0 ∧ y = 0 ∧ b = 0 ∧ n ≤ 64) ∨
  (k = 3 ∧ n = 0 ∧ 0 ≤ x ∧ x < 80 ∧ 0 ≤ y ∧ y < 24 ∧ 0 ≤ b ∧ b ≤ 255) ∨ (k = 4 ∧ n = 0 ∧ b = 0 ∧ 1 ≤ x ∧ x ≤ 80 ∧ 1 ≤ y ∧ y ≤ 24)
instance (k x y b : Int) (n : Nat) : Decidable (mayP k x y b n) := by unfold mayP; exact inferInstance
def mayB (k x y b : Int) (n : Nat) : Bool := decide (mayP k x y b n)
def Ev.may (e : Ev) : Bool := mayB e.k e.x e.y e.b e.t.length
/-- An event in memory: its five cells. -/
structure EvV where
  k : Int
  A : Option Addr
  n : Nat
  c : Nat
  x : Int
  y : Int
  b : Int
def EvV.cells (e : EvV) : List Value := [.int .i64 e.k, .slice e.A e.n e.c, .int .i64 e.x, .int .i64 e.y, .int .i64 e.b]
end Go.Proofs.Ytcffinkkfdfcaaa

/- Blocks of memory, whole: reads, stores, what stays; words in a row. Conditions: none. -/
namespace Go.Proofs.Ytcffinkkfdfcaaa
open Go Go.RowKit

theorem heap_cell {w : World} {g : Nat} {cs : Array Value} {t : TypeId} (h : w.heap[g]? = some (.cells cs t (0, 0))) (i : Nat) : w.cell? ⟨g, i, none⟩ = cs[i]? := cell_of_row w g i cs t (0, 0) h
theorem heap_free {w : World} {g : Nat} {cs : Array Value} {t : TypeId} (h : w.heap[g]? = some (.cells cs t (0, 0))) (i : Nat) : w.frozen? ⟨g, i, none⟩ = false := by simp [World.frozen?, h]
theorem heap_lt {w : World} {g : Nat} {o : Obj} (h : w.heap[g]? = some o) : g < w.heap.size := (Array.getElem?_eq_some_iff.1 h).1
theorem heap_set {w : World} {g : Nat} {cs : Array Value} {t : TypeId} (h : w.heap[g]? = some (.cells cs t (0, 0))) (i : Nat) (u : Value) : (w.setCell ⟨g, i, none⟩ u).heap[g]? = some (.cells (cs.setIfInBounds i u) t (0, 0)) := by
  simp [World.setCell, Array.getElem?_modify, h]
theorem heap_far {w : World} {g : Nat} {p : Addr} (u : Value) (hp : g ≠ p.block) : (w.setCell p u).heap[g]? = w.heap[g]? := Below.heap_setCell w p u g hp
theorem Rd.far {w : World} {A : Option Addr} {vs : List Value} (h : Rd w A vs) {p : Addr} (u : Value) (hp : ∀ a, A = some a → a.block ≠ p.block) : Rd (w.setCell p u) A vs :=
  h.of_blocks (fun b _ ⟨off, e⟩ => heap_far u (hp _ e)) (by simp [World.setCell])
/-- Only block r, and what is new, has turned. -/
theorem only_set {w : World} (r i : Nat) (u : Value) : w.grownBy (w.setCell ⟨r, i, none⟩ u) (some r) :=
  ⟨rfl, rfl, rfl, by simp [World.setCell], fun k _ hk => heap_far u (fun e => hk (by rw [e]))⟩
theorem only_setD {w : World} (q r i : Nat) (u : Value) : w.grownBy ((w.drewN q).setCell ⟨r, i, none⟩ u) (some r) :=
  ⟨rfl, rfl, rfl, by simp [World.setCell], fun k _ hk => heap_far u (fun e => hk (by rw [e]))⟩
theorem only_of_drewN {w w' : World} {q : Nat} {r : Option Nat} (h : (w.drewN q).grownBy w' r) : w.grownBy w' r := ⟨h.os, h.tape, h.output, h.size, h.block⟩
theorem only_drewN {w w' : World} {r : Option Nat} (h : w.grownBy w' r) (n : Nat) : w.grownBy (w'.drewN n) r := ⟨h.os, h.tape, h.output, h.size, h.block⟩
theorem only_trans {a b c : World} {r : Option Nat} (h : a.grownBy b r) (k : b.grownBy c r) : a.grownBy c r :=
  ⟨k.os.trans h.os, k.tape.trans h.tape, k.output.trans h.output, Nat.le_trans h.size k.size, fun i hi hr => (k.block i (Nat.lt_of_lt_of_le hi h.size) hr).trans (h.block i hi hr)⟩
end Go.Proofs.Ytcffinkkfdfcaaa

/- Events in memory: rows of five cells each, with their texts; which blocks they lie in; what stays. Conditions: none. -/
namespace Go.Proofs.Ytcffinkkfdfcaaa
open Go Go.RowKit

/-! ### What stays outside a set of blocks -/
structure Keeps (S : Nat → Prop) (w w' : World) : Prop where
  os : w'.os = w.os
  tape : w'.tape = w.tape
  output : w'.output = w.output
  size : w.heap.size ≤ w'.heap.size
  block : ∀ k, k < w.heap.size → ¬ S k → w'.heap[k]? = w.heap[k]?
theorem Keeps.refl (S : Nat → Prop) (w : World) : Keeps S w w := ⟨rfl, rfl, rfl, Nat.le_refl _, fun _ _ _ => rfl⟩
theorem Keeps.trans {S : Nat → Prop} {a b c : World} (h : Keeps S a b) (k : Keeps S b c) : Keeps S a c :=
  ⟨k.os.trans h.os, k.tape.trans h.tape, k.output.trans h.output, Nat.le_trans h.size k.size, fun i hi hs => (k.block i (Nat.lt_of_lt_of_le hi h.size) hs).trans (h.block i hi hs)⟩
theorem Keeps.of_below {B : Nat} {w w' : World} (h : Below B w w') (S : Nat → Prop) (hS : ∀ k, k < w.heap.size → ¬ S k → k < B) : Keeps S w w' :=
  ⟨h.os, h.tape, h.output, h.size, fun k hk hs => h.block k (hS k hk hs)⟩
theorem Keeps.below {B : Nat} {S : Nat → Prop} {w w' : World} (h : Keeps S w w') (hS : ∀ k, k < B → k < w.heap.size ∧ ¬ S k) : Below B w w' :=
  ⟨h.os, h.tape, h.output, h.size, fun k hk => h.block k (hS k hk).1 (hS k hk).2⟩
theorem Keeps.of_grown {r : Option Nat} {w w' : World} (h : w.grownBy w' r) (S : Nat → Prop) (hS : ∀ k, r = some k → S k) : Keeps S w w' :=
  ⟨h.os, h.tape, h.output, h.size, fun k hk hs => h.block k hk (fun e => hs (hS k e.symm))⟩
theorem Keeps.mono {S T : Nat → Prop} {w w' : World} (h : Keeps S w w') (hS : ∀ k, S k → T k) : Keeps T w w' :=
  ⟨h.os, h.tape, h.output, h.size, fun k hk hs => h.block k hk (fun e => hs (hS k e))⟩
theorem Keeps.set (S : Nat → Prop) (w : World) (p : Addr) (u : Value) (h : S p.block) : Keeps S w (w.setCell p u) :=
  ⟨rfl, rfl, rfl, by simp [World.setCell], fun k _ hs => heap_far u (fun e => hs (e ▸ h))⟩
theorem Keeps.drewN {S : Nat → Prop} {w w' : World} (h : Keeps S w w') (n : Nat) : Keeps S w (w'.drewN n) := ⟨h.os, h.tape, h.output, h.size, h.block⟩
theorem Keeps.alloc {S : Nat → Prop} {w w' : World} (h : Keeps S w w') (o : Obj) : Keeps S w (w'.alloc o) :=
  ⟨h.os, h.tape, h.output, Nat.le_trans h.size (by simp), fun k hk hs => (Below.heap_alloc w' o k (Nat.lt_of_lt_of_le hk h.size)).trans (h.block k hk hs)⟩

/-! ### The cells of a row -/
def cellsV (ds : List EvV) : List Value := ds.flatMap EvV.cells
theorem cellsV_cons (d : EvV) (ds : List EvV) : cellsV (d :: ds) = d.cells ++ cellsV ds := rfl
theorem cellsV_append (a b : List EvV) : cellsV (a ++ b) = cellsV a ++ cellsV b := by simp [cellsV]
theorem cellsV_length (ds : List EvV) : (cellsV ds).length = ds.length * 5 := by
  induction ds with
  | nil => rfl
  | cons d ds ih => rw [cellsV_cons, List.length_append, ih]; simp [EvV.cells]; omega
theorem cellsV_get : ∀ (ds : List EvV) (i : Nat) (h : i < ds.length) (j : Nat), j < 5 → (cellsV ds)[i * 5 + j]? = (ds[i].cells)[j]?
  | d :: ds, 0, _, j, hj => by
    rw [cellsV_cons, Nat.zero_mul, Nat.zero_add, List.getElem?_append_left (by simpa [EvV.cells] using hj)]
    rfl
  | d :: ds, i + 1, h, j, hj => by
    rw [cellsV_cons, List.getElem?_append_right (by simp [EvV.cells]; omega)]
    have e : (i + 1) * 5 + j - d.cells.length = i * 5 + j := by simp [EvV.cells]; omega
    rw [e, cellsV_get ds i (by simpa using h) j hj]
    rfl
theorem cellsV_one (ds : List EvV) : ∀ u ∈ cellsV ds, u.oneCell' = true := by
  intro u hu
  obtain ⟨d, _, h⟩ := List.mem_flatMap.1 hu
  simp only [EvV.cells, List.mem_cons, List.not_mem_nil, or_false] at h
  rcases h with rfl | rfl | rfl | rfl | rfl <;> rfl
def EvV.txt (d : EvV) (A : Option Addr) (n c : Nat) : EvV := ⟨d.k, A, n, c, d.x, d.y, d.b⟩
def EvV.x' (d : EvV) (x : Int) : EvV := ⟨d.k, d.A, d.n, d.c, x, d.y, d.b⟩
theorem cellsV_txt : ∀ (ds : List EvV) (i : Nat) (h : i < ds.length) (A : Option Addr) (n c : Nat), (cellsV ds).set (i * 5 + 1) (.slice A n c) = cellsV (ds.set i (ds[i].txt A n c))
  | d :: ds, 0, _, A, n, c => rfl
  | d :: ds, i + 1, h, A, n, c => by
    rw [cellsV_cons, List.set_append_right _ _ (by simp [EvV.cells]; omega)]
    have e : (i + 1) * 5 + 1 - d.cells.length = i * 5 + 1 := by simp [EvV.cells]; omega
    rw [e, cellsV_txt ds i (by simpa using h)]
    rfl
theorem cellsV_x : ∀ (ds : List EvV) (i : Nat) (h : i < ds.length) (x : Int), (cellsV ds).set (i * 5 + 2) (.int .i64 x) = cellsV (ds.set i (ds[i].x' x))
  | d :: ds, 0, _, x => rfl
  | d :: ds, i + 1, h, x => by
    rw [cellsV_cons, List.set_append_right _ _ (by simp [EvV.cells]; omega)]
    have e : (i + 1) * 5 + 2 - d.cells.length = i * 5 + 2 := by simp [EvV.cells]; omega
    rw [e, cellsV_x ds i (by simpa using h)]
    rfl
theorem cellsV_all : ∀ (ds : List EvV) (i : Nat) (_ : i < ds.length) (d' : EvV),
    (((((cellsV ds).set (i * 5) (.int .i64 d'.k)).set (i * 5 + 1) (.slice d'.A d'.n d'.c)).set (i * 5 + 2) (.int .i64 d'.x)).set (i * 5 + 3) (.int .i64 d'.y)).set (i * 5 + 4) (.int .i64 d'.b) = cellsV (ds.set i d')
  | d :: ds, 0, _, d' => rfl
  | d :: ds, i + 1, h, d' => by
    have ih := cellsV_all ds i (by simpa using h) d'
    have e : ∀ j, (i + 1) * 5 + j - d.cells.length = i * 5 + j := by intro j; simp [EvV.cells]; omega
    have e0 : (i + 1) * 5 - d.cells.length = i * 5 := e 0
    rw [cellsV_cons, List.set_append_right _ _ (by simp [EvV.cells]; omega), List.set_append_right _ _ (by simp [EvV.cells]; omega), List.set_append_right _ _ (by simp [EvV.cells]; omega), List.set_append_right _ _ (by simp [EvV.cells]; omega), List.set_append_right _ _ (by simp [EvV.cells]; omega), e0, e 1, e 2, e 3, e 4, ih]
    rfl

/-! ### Texts -/
/-- Bytes to be read, in blocks of a kind. -/
def TxtR (ok : Nat → Prop) (w : World) (A : Option Addr) (n c : Nat) (bs : List UInt8) : Prop :=
  bs.length = n ∧ Rd w A (bs.map bv) ∧ n ≤ c ∧ c ≤ maxLen ∧ (0 < n → ∀ a, A = some a → ok a.block) ∧ n ≤ 140737488355328
/-- Bytes of one's own. -/
def TxtO (ok : Nat → Prop) (w : World) (A : Option Addr) (n c : Nat) (bs : List UInt8) : Prop :=
  bs.length = n ∧ OwnB w 0 (.slice A n c) bs ∧ (∀ a, A = some a → ok a.block) ∧ n ≤ 140737488355328
section
variable {ok ok' : Nat → Prop} {w w' : World} {A : Option Addr} {n c : Nat} {bs : List UInt8}
theorem TxtO.r (h : TxtO ok w A n c bs) : TxtR ok w A n c bs := by
  obtain ⟨h1, h2, h3, h4⟩ := h
  obtain ⟨A', c', e, q1, q2, q3, _⟩ := OwnB.form h2
  injection e with e1 e2 e3
  subst e1 e3 e2
  exact ⟨rfl, q3, q1, q2, fun _ => h3, h4⟩
theorem TxtO.lt (h : TxtO ok w A n c bs) : ∀ a, A = some a → a.block < w.heap.size := by
  intro a e
  subst e
  exact (Own.lt h.2.1 a.block rfl).2
theorem TxtR.frame (h : TxtR ok w A n c bs) (hk : ∀ k, ok k → k < w.heap.size → w'.heap[k]? = w.heap[k]?) (hs : w.heap.size ≤ w'.heap.size) : TxtR ok w' A n c bs := by
  obtain ⟨h1, h2, h3, h4, h5, h6⟩ := h
  refine ⟨h1, ?_, h3, h4, h5, h6⟩
  rcases h2 with h2 | ⟨b, off, rfl, hb, hc⟩
  · exact .inl h2
  · rcases Nat.eq_zero_or_pos n with h0 | h0
    · left
      have : bs = [] := List.eq_nil_of_length_eq_zero (by omega)
      rw [this]; rfl
    · exact Rd.of_blocks (.inr ⟨b, off, rfl, hb, hc⟩) (fun k hk' ⟨o, e⟩ => by
        injection e with e; injection e with e
        subst e
        exact hk b (h5 h0 _ rfl) hk') hs
theorem Own.frameK {B : Nat} {e : TypeId} {s k : Nat} {v : Value} {vs : List Value} (h : w.ownsRow B e s v k vs) (hk : ∀ g, v.ownBlock = some g → w'.heap[g]? = w.heap[g]?) : w'.ownsRow B e s v k vs := by
  refine ⟨h.1, ?_⟩
  rcases h.2 with h2 | ⟨g, cap, cur, rfl, hb, hg, r⟩
  · exact .inl h2
  · exact .inr ⟨g, cap, cur, rfl, hb, (hk g rfl).trans hg, r⟩
theorem TxtO.frame (h : TxtO ok w A n c bs) (hk : ∀ k, ok k → k < w.heap.size → w'.heap[k]? = w.heap[k]?) : TxtO ok w' A n c bs := by
  have hl := h.lt
  obtain ⟨h1, h2, h3, h4⟩ := h
  refine ⟨h1, Own.frameK h2 (fun g e => ?_), h3, h4⟩
  cases A with
  | none => cases e
  | some a =>
    injection e with e
    subst e
    exact hk _ (h3 a rfl) (hl a rfl)
theorem TxtR.weak (h : TxtR ok w A n c bs) (hk : ∀ k, ok k → k < w.heap.size → ok' k) : TxtR ok' w A n c bs := by
  obtain ⟨h1, h2, h3, h4, h5, h6⟩ := h
  refine ⟨h1, h2, h3, h4, fun h0 a e => hk _ (h5 h0 a e) ?_, h6⟩
  rcases h2 with h2 | ⟨b, off, rfl, hb, hc⟩
  · have : bs = [] := by simpa using h2
    subst this
    simp at h1; omega
  · injection e with e; subst e; exact hb
theorem TxtO.weak (h : TxtO ok w A n c bs) (hk : ∀ k, ok k → k < w.heap.size → ok' k) : TxtO ok' w A n c bs :=
  ⟨h.1, h.2.1, fun a e => hk _ (h.2.2.1 a e) (h.lt a e), h.2.2.2⟩
end

/-! ### Events -/
def EvR (ok : Nat → Prop) (w : World) (d : EvV) (e : Ev) : Prop := d.k = e.k ∧ d.x = e.x ∧ d.y = e.y ∧ d.b = e.b ∧ TxtR ok w d.A d.n d.c e.t
def EvO (ok : Nat → Prop) (w : World) (d : EvV) (e : Ev) : Prop := d.k = e.k ∧ d.x = e.x ∧ d.y = e.y ∧ d.b = e.b ∧ TxtO ok w d.A d.n d.c e.t
/-- Events to be read at an address. -/
structure EvsR (ok : Nat → Prop) (w : World) (A : Option Addr) (ds : List EvV) (es : List Ev) : Prop where
  len : ds.length = es.length
  row : Rd w A (cellsV ds)
  ok_ : 0 < ds.length → ∀ a, A = some a → ok a.block
  each : ∀ i (h1 : i < ds.length) (h2 : i < es.length), EvR ok w ds[i] es[i]
section
variable {ok ok' : Nat → Prop} {w w' : World} {A : Option Addr} {v : Value} {d : EvV} {e : Ev} {ds : List EvV} {es : List Ev}
theorem EvO.r (h : EvO ok w d e) : EvR ok w d e := ⟨h.1, h.2.1, h.2.2.1, h.2.2.2.1, h.2.2.2.2.r⟩
theorem EvR.frame (h : EvR ok w d e) (hk : ∀ k, ok k → k < w.heap.size → w'.heap[k]? = w.heap[k]?) (hs : w.heap.size ≤ w'.heap.size) : EvR ok w' d e := ⟨h.1, h.2.1, h.2.2.1, h.2.2.2.1, h.2.2.2.2.frame hk hs⟩
theorem EvO.frame (h : EvO ok w d e) (hk : ∀ k, ok k → k < w.heap.size → w'.heap[k]? = w.heap[k]?) : EvO ok w' d e := ⟨h.1, h.2.1, h.2.2.1, h.2.2.2.1, h.2.2.2.2.frame hk⟩
theorem EvR.weak (h : EvR ok w d e) (hk : ∀ k, ok k → k < w.heap.size → ok' k) : EvR ok' w d e := ⟨h.1, h.2.1, h.2.2.1, h.2.2.2.1, h.2.2.2.2.weak hk⟩
theorem EvO.weak (h : EvO ok w d e) (hk : ∀ k, ok k → k < w.heap.size → ok' k) : EvO ok' w d e := ⟨h.1, h.2.1, h.2.2.1, h.2.2.2.1, h.2.2.2.2.weak hk⟩
theorem EvsR.frame (h : EvsR ok w A ds es) (hk : ∀ k, ok k → k < w.heap.size → w'.heap[k]? = w.heap[k]?) (hs : w.heap.size ≤ w'.heap.size) : EvsR ok w' A ds es := by
  refine ⟨h.len, ?_, h.ok_, fun i h1 h2 => (h.each i h1 h2).frame hk hs⟩
  rcases h.row with h2 | ⟨b, off, rfl, hb, hc⟩
  · exact .inl h2
  · rcases Nat.eq_zero_or_pos ds.length with h0 | h0
    · left
      have : ds = [] := List.eq_nil_of_length_eq_zero h0
      rw [this]; rfl
    · exact Rd.of_blocks (.inr ⟨b, off, rfl, hb, hc⟩) (fun k hk' ⟨o, e⟩ => by
        injection e with e; injection e with e
        subst e
        exact hk b (h.ok_ h0 _ rfl) hk') hs
theorem EvsR.weak (h : EvsR ok w A ds es) (hk : ∀ k, ok k → k < w.heap.size → ok' k) : EvsR ok' w A ds es := by
  refine ⟨h.len, h.row, fun h0 a e => hk _ (h.ok_ h0 a e) ?_, fun i h1 h2 => (h.each i h1 h2).weak hk⟩
  rcases h.row with h2 | ⟨b, off, rfl, hb, hc⟩
  · have := congrArg List.length h2
    rw [cellsV_length] at this
    simp at this; omega
  · injection e with e; subst e; exact hb
theorem EvsR.below (h : EvsR ok w A ds es) (hb : Below w.heap.size w w') : EvsR ok w' A ds es := h.frame (fun k _ hk => hb.block k hk) hb.size
/-- The five cells of an event. -/
theorem EvsR.five (h : EvsR ok w A ds es) (h0 : 0 < es.length) : ∃ b off, A = some ⟨b, off, none⟩ ∧ b < w.heap.size ∧ ok b ∧ ∀ i (h : i < ds.length),
    w.cell? ⟨b, off + i * 5, none⟩ = some (.int .i64 ds[i].k) ∧ w.cell? ⟨b, off + i * 5 + 1, none⟩ = some (.slice ds[i].A ds[i].n ds[i].c) ∧ w.cell? ⟨b, off + i * 5 + 2, none⟩ = some (.int .i64 ds[i].x) ∧
    w.cell? ⟨b, off + i * 5 + 3, none⟩ = some (.int .i64 ds[i].y) ∧ w.cell? ⟨b, off + i * 5 + 4, none⟩ = some (.int .i64 ds[i].b) := by
  have hl := h.len
  have hd : 0 < ds.length := by omega
  obtain ⟨b, off, rfl, hb, hc⟩ := h.row.addr (by rw [cellsV_length]; omega)
  refine ⟨b, off, rfl, hb, h.ok_ hd _ rfl, fun i hi => ?_⟩
  have get : ∀ j, j < 5 → w.cell? ⟨b, off + i * 5 + j, none⟩ = (ds[i].cells)[j]? := by
    intro j hj
    have hlt : i * 5 + j < (cellsV ds).length := by rw [cellsV_length]; omega
    rw [Nat.add_assoc, hc (i * 5 + j) hlt, ← List.getElem?_eq_getElem hlt, cellsV_get ds i hi j hj]
  exact ⟨get 0 (by decide), get 1 (by decide), get 2 (by decide), get 3 (by decide), get 4 (by decide)⟩
/-- One of them. -/
theorem EvsR.at_ (h : EvsR ok w A ds es) (k : Nat) (hk : k < es.length) : ∃ (e : Ev) (b off : Nat) (At : Option Addr) (m cm : Nat), e = es[k] ∧ A = some ⟨b, off, none⟩ ∧ b < w.heap.size ∧ ok b ∧ TxtR ok w At m cm e.t ∧
    w.cell? ⟨b, off + k * 5, none⟩ = some (.int .i64 e.k) ∧ w.cell? ⟨b, off + k * 5 + 1, none⟩ = some (.slice At m cm) ∧ w.cell? ⟨b, off + k * 5 + 2, none⟩ = some (.int .i64 e.x) ∧
    w.cell? ⟨b, off + k * 5 + 3, none⟩ = some (.int .i64 e.y) ∧ w.cell? ⟨b, off + k * 5 + 4, none⟩ = some (.int .i64 e.b) := by
  obtain ⟨b, off, hA, hb, ho, hc⟩ := h.five (by omega)
  have hkd : k < ds.length := by rw [h.len]; exact hk
  obtain ⟨c0, c1, c2, c3, c4⟩ := hc k hkd
  obtain ⟨e0, e2, e3, e4, ht⟩ := h.each k hkd hk
  rw [e0] at c0
  rw [e2] at c2
  rw [e3] at c3
  rw [e4] at c4
  exact ⟨_, b, off, _, _, _, rfl, hA, hb, ho, ht, c0, c1, c2, c3, c4⟩
end
end Go.Proofs.Ytcffinkkfdfcaaa

/- Items: a list of items, each with bytes or a list of its own, as plain data; how it lies in memory. Conditions: none. -/
namespace Go.Proofs.Ytcffinkkfdfcaaa
open Go Go.RowKit

/-- A list of items: the first one (its kind, whether critical, whether a list, its bytes, its items), and the rest. -/
inductive Fo where
  | nil
  | cons (k : Int) (cr li : Bool) (bs : List UInt8) (sub rest : Fo)
def Fo.len : Fo → Nat
  | .nil => 0
  | .cons _ _ _ _ _ r => r.len + 1
def Fo.size : Fo → Nat
  | .nil => 0
  | .cons _ _ _ _ s r => s.size + r.size + 1
/-- Items to be read at an address, from the i-th one on. -/
def FoR (ok : Nat → Prop) (w : World) : Option Addr → Nat → Fo → Prop
  | _, _, .nil => True
  | A, i, .cons k cr li bs sub rest => (∃ b off At n c As d, A = some ⟨b, off, none⟩ ∧ b < w.heap.size ∧ ok b ∧
      (w.cell? ⟨b, off + i * 5, none⟩ = some (.int .i64 k) ∧ w.cell? ⟨b, off + i * 5 + 1, none⟩ = some (.bool cr) ∧ w.cell? ⟨b, off + i * 5 + 2, none⟩ = some (.bool li) ∧
       w.cell? ⟨b, off + i * 5 + 3, none⟩ = some (.slice At n c) ∧ w.cell? ⟨b, off + i * 5 + 4, none⟩ = some (.slice As sub.len d)) ∧
      TxtR ok w At n c bs ∧ FoR ok w As 0 sub ∧ sub.len ≤ d ∧ d ≤ maxLen ∧ sub.len ≤ 2199023255488) ∧ FoR ok w A (i + 1) rest
theorem FoR.frame {ok : Nat → Prop} {w w' : World} (hk : ∀ j, ok j → j < w.heap.size → w'.heap[j]? = w.heap[j]?) (hs : w.heap.size ≤ w'.heap.size) : ∀ (f : Fo) (A : Option Addr) (i : Nat), FoR ok w A i f → FoR ok w' A i f
  | .nil, _, _, _ => trivial
  | .cons k cr li bs sub rest, A, i, h => by
    obtain ⟨⟨b, off, At, n, c, As, d, e, hb, hok, ⟨c0, c1, c2, c3, c4⟩, ht, hsub, h1, h2, h3⟩, hr⟩ := h
    have hc : ∀ q u, w.cell? ⟨b, q, none⟩ = some u → w'.cell? ⟨b, q, none⟩ = some u := fun q u hu => (World.cell?_of_block (w := w) (a := ⟨b, q, none⟩) (hk b hok hb)).trans hu
    exact ⟨⟨b, off, At, n, c, As, d, e, Nat.lt_of_lt_of_le hb hs, hok, ⟨hc _ _ c0, hc _ _ c1, hc _ _ c2, hc _ _ c3, hc _ _ c4⟩, ht.frame hk hs, FoR.frame hk hs sub As 0 hsub, h1, h2, h3⟩, FoR.frame hk hs rest A (i + 1) hr⟩
theorem FoR.weak {ok ok' : Nat → Prop} {w : World} (hk : ∀ j, ok j → j < w.heap.size → ok' j) : ∀ (f : Fo) (A : Option Addr) (i : Nat), FoR ok w A i f → FoR ok' w A i f
  | .nil, _, _, _ => trivial
  | .cons k cr li bs sub rest, A, i, h => by
    obtain ⟨⟨b, off, At, n, c, As, d, e, hb, hok, hc, ht, hsub, h1, h2, h3⟩, hr⟩ := h
    exact ⟨⟨b, off, At, n, c, As, d, e, hb, hk b hok hb, hc, ht.weak hk, FoR.weak hk sub As 0 hsub, h1, h2, h3⟩, FoR.weak hk rest A (i + 1) hr⟩
theorem FoR.below {ok : Nat → Prop} {w w' : World} {f : Fo} {A : Option Addr} {i : Nat} (h : FoR ok w A i f) (hb : Below w.heap.size w w') : FoR ok w' A i f := FoR.frame (fun j _ hj => hb.block j hj) hb.size f A i h
theorem FoR.drewN {ok : Nat → Prop} {w : World} {f : Fo} {A : Option Addr} {i : Nat} (h : FoR ok w A i f) (n : Nat) : FoR ok (w.drewN n) A i f := h.below (below_drewN (Below.refl _ _) n)
end Go.Proofs.Ytcffinkkfdfcaaa

/- The reference's row of items, in plain words: entries depth first, each with its depth and the kind ahead. Conditions: none. -/
namespace Go.Proofs.Ytcffinkkfdfcaaa
open Go Go.RowKit

/-- An entry: the item's kind, whether critical, whether a list, how many bytes, how many items; its depth, the kind ahead. -/
structure En where
  k : Int
  cr : Bool
  li : Bool
  nb : Nat
  ns : Nat
  d : Int
  ah : Int
/-- The entries of a list, to depth 5. -/
def fullR : Fo → Int → Int → List En
  | .nil, _, _ => []
  | .cons k cr li bs sub rest, d, ah => ⟨k, cr, li, bs.length, sub.len, d, ah⟩ :: ((if d < 5 then fullR sub (d + 1) 0 else []) ++ fullR rest d k)
/-- The first ones, one more than 'most'. -/
def rowR (f : Fo) (d : Int) (most : Int) : List En := (fullR f d 0).take (most + 1).toNat

/-- One round: what is out, an item, its list's row. -/
theorem take_round {P S T : List En} {x : En} {m : Int} {O : List En} (hO : O = P.take (m + 1).toNat) (hL : (O.length : Int) ≤ m) :
    O ++ [x] ++ S.take (m - (O ++ [x]).length + 1).toNat = (P ++ (x :: S)).take (m + 1).toNat ∧ (P ++ (x :: (S ++ T))) = (P ++ (x :: S)) ++ T := by
  have hP : O = P := by
    rw [hO]
    refine List.take_of_length_le ?_
    have h2 := congrArg List.length hO
    rw [List.length_take] at h2
    omega
  subst hP
  refine ⟨?_, by simp⟩
  rw [List.length_append, List.length_singleton] 
  have e : (m + 1).toNat = O.length + ((m - ((O.length + 1 : Nat) : Int) + 1).toNat + 1) := by omega
  rw [e, List.take_length_add_append, List.take_succ_cons]
  simp
theorem take_one {P : List En} {x : En} {m : Int} {O : List En} (hO : O = P.take (m + 1).toNat) (hL : (O.length : Int) ≤ m) : O ++ [x] = (P ++ [x]).take (m + 1).toNat := by
  have h := (take_round (S := []) (T := []) (x := x) hO hL).1
  simpa using h
theorem take_done {P T : List En} {m : Int} {O : List En} (hO : O = P.take (m + 1).toNat) (hL : ¬ (O.length : Int) ≤ m) : O = (P ++ T).take (m + 1).toNat := by
  have h2 := congrArg List.length hO
  rw [List.length_take] at h2
  rw [List.take_append_of_le_length (by omega)]
  exact hO
end Go.Proofs.Ytcffinkkfdfcaaa

/- Rows of events that the call itself makes: appended, made, stored into. Conditions: lengths that fit. -/
namespace Go.Proofs.Ytcffinkkfdfcaaa
open Go Go.RowKit

theorem run_appN {P : Program} (w : World) (base : Nat) (t ty e : TypeId) (i : TypeInfo) (z : Value) (size bytes : Nat) (ht : P.underlying t = some (.slice e)) (hi : P.info? e = some i) (hz : i.zero = some z)
    (hsize : i.size = size) (hby : i.bytes = bytes) (hzs : z.cells.size = size) (hsz : 0 < size)
    (v : Value) (n : Nat) (xs : List Value) (hown : w.ownsRow base e size v n xs) (A : Option Addr) (m c : Nat) (news : List Value) (hm : news.length = m * size) (hr : Rd w A news) (h1 : ∀ u ∈ news, u.oneCell' = true)
    (hlen : n + m ≤ maxLen) (hbytes : (n + m) * bytes ≤ 140737488355328) (hbase : base ≤ w.heap.size) :
    ∃ v' w', (Builtin.append_ #[t, t] ty #[v, .slice A m c]).run P w = .ok v' w' ∧ w'.ownsRow base e size v' (n + m) (xs ++ news) ∧ w.grownBy w' v.ownBlock ∧
      (v'.ownBlock = v.ownBlock ∨ v'.ownBlock = some w.heap.size) := by
  rcases A with _ | ad
  · have hn : news = [] := by
      rcases hr with h | ⟨_, _, h, _⟩
      · exact h
      · cases h
    subst hn
    have hm0 : m = 0 := by
      rcases Nat.eq_zero_or_pos m with h | h
      · exact h
      · have := Nat.mul_pos h hsz
        simp at hm; omega
    subst hm0
    exact ⟨v, w, run_append_of_nil w base t ty e i size ht hi v n xs hown c, by simpa using hown, World.grownBy.refl w _, .inl rfl⟩
  · obtain ⟨v', w', hrun, h2, h3, _, h5⟩ := run_append_own_at (P := P) w base t ty e i z size bytes ht hi hz hsize hby hzs hsz v n xs hown ad m c news hm (hr.cellsAt ad rfl) h1 hlen hbytes hbase
    exact ⟨v', w', hrun, h2, h3, h5⟩

def EvV.zero : EvV := ⟨0, none, 0, 0, 0, 0, 0⟩
theorem cellsV_zeros : ∀ n, (madeCells #[Value.int .i64 0, .slice none 0 0, .int .i64 0, .int .i64 0, .int .i64 0] (n * 5)).toList = cellsV (List.replicate n EvV.zero) := by
  intro n
  apply List.ext_getElem?
  intro j
  rcases Nat.lt_or_ge j (n * 5) with hj | hj
  · have hi : j / 5 < (List.replicate n EvV.zero).length := by rw [List.length_replicate]; omega
    have h := cellsV_get (List.replicate n EvV.zero) (j / 5) hi (j % 5) (Nat.mod_lt _ (by decide))
    rw [show j / 5 * 5 + j % 5 = j by omega] at h
    rw [h]
    have e : (madeCells #[Value.int .i64 0, .slice none 0 0, .int .i64 0, .int .i64 0, .int .i64 0] (n * 5)).toList[j]? = some (#[Value.int .i64 0, .slice none 0 0, .int .i64 0, .int .i64 0, .int .i64 0][j % 5]!) := by
      simp only [madeCells, Array.getElem?_toList, Array.getElem?_map]
      rw [Array.getElem?_eq_getElem (by simpa using hj)]
      simp
    rw [e, List.getElem_replicate]
    have h5 : j % 5 < 5 := Nat.mod_lt _ (by decide)
    generalize j % 5 = q at h5
    match q, h5 with
    | 0, _ => rfl
    | 1, _ => rfl
    | 2, _ => rfl
    | 3, _ => rfl
    | 4, _ => rfl
  · rw [List.getElem?_eq_none (by simp [madeCells]; omega), List.getElem?_eq_none (by rw [cellsV_length, List.length_replicate]; omega)]
section
variable {w : World} {B g n c : Nat} {ds : List EvV}
end
end Go.Proofs.Ytcffinkkfdfcaaa

/- Rows of the reference's entries in memory: seven cells each. Conditions: none. -/
namespace Go.Proofs.Ytcffinkkfdfcaaa
open Go Go.RowKit

/-- An entry as it lies: its numbers, and where its bytes and items are. -/
structure EnV where
  k : Int
  cr : Bool
  li : Bool
  A : Option Addr
  nb : Nat
  cb : Nat
  As : Option Addr
  ns : Nat
  cs : Nat
  d : Int
  ah : Int
def EnV.en (x : EnV) : En := ⟨x.k, x.cr, x.li, x.nb, x.ns, x.d, x.ah⟩
def EnV.cells (x : EnV) : List Value := [.int .i64 x.k, .bool x.cr, .bool x.li, .slice x.A x.nb x.cb, .slice x.As x.ns x.cs, .int .i64 x.d, .int .i64 x.ah]
def cellsE (ds : List EnV) : List Value := ds.flatMap EnV.cells
theorem cellsE_cons (d : EnV) (ds : List EnV) : cellsE (d :: ds) = d.cells ++ cellsE ds := rfl
theorem cellsE_append (a b : List EnV) : cellsE (a ++ b) = cellsE a ++ cellsE b := by simp [cellsE]
theorem cellsE_length (ds : List EnV) : (cellsE ds).length = ds.length * 7 := by
  induction ds with
  | nil => rfl
  | cons d ds ih => rw [cellsE_cons, List.length_append, ih]; simp [EnV.cells]; omega
theorem cellsE_get : ∀ (ds : List EnV) (i : Nat) (h : i < ds.length) (j : Nat), j < 7 → (cellsE ds)[i * 7 + j]? = (ds[i].cells)[j]?
  | d :: ds, 0, _, j, hj => by
    rw [cellsE_cons, Nat.zero_mul, Nat.zero_add, List.getElem?_append_left (by simpa [EnV.cells] using hj)]
    rfl
  | d :: ds, i + 1, h, j, hj => by
    rw [cellsE_cons, List.getElem?_append_right (by simp [EnV.cells]; omega)]
    have e : (i + 1) * 7 + j - d.cells.length = i * 7 + j := by simp [EnV.cells]; omega
    rw [e, cellsE_get ds i (by simpa using h) j hj]
    rfl
theorem cellsE_one (ds : List EnV) : ∀ u ∈ cellsE ds, u.oneCell' = true := by
  intro u hu
  obtain ⟨d, _, h⟩ := List.mem_flatMap.1 hu
  simp only [EnV.cells, List.mem_cons, List.not_mem_nil, or_false] at h
  rcases h with rfl | rfl | rfl | rfl | rfl | rfl | rfl <;> rfl
def OwnE (w : World) (B : Nat) (v : Value) (ds : List EnV) : Prop := w.ownsRow B 113 7 v ds.length (cellsE ds)
theorem info_en : (Try.prog.info? 113).map (fun i => (i.zero, i.size, i.bytes)) = some (some (.agg #[.int .i64 0, .bool false, .bool false, .slice none 0 0, .slice none 0 0, .int .i64 0, .int .i64 0]), 7, 80) := by kernel_rfl

/-- 'append(v, xs...)' on entries. -/
theorem wpList_appE (w : World) {ops : Array Oper} {rest : List Oper} {o : Oper} {a : Act} {Q : Exit → Act → World → Prop} (hgd : o.guard = none) (s x : Operand)
    (ho : o.op = .call { callee := .builtin .append, args := #[s, x], argTypes := #[110, 110] })
    (B : Nat) (v : Value) (ds : List EnV) (hs : a.eval s = v) (hown : OwnE w B v ds)
    (A : Option Addr) (m c : Nat) (ns : List EnV) (hx : a.eval x = .slice A m c) (hm : ns.length = m) (hr : Rd w A (cellsE ns))
    (hlen : ds.length + m ≤ 1000000) (hB : B ≤ w.heap.size)
    (h : ∀ v' w', OwnE w' B v' (ds ++ ns) → w.grownBy w' v.ownBlock → (v'.ownBlock = v.ownBlock ∨ v'.ownBlock = some w.heap.size) → wpList Try.prog ops Q rest (a.put o.dst v') w') : wpList Try.prog ops Q (o :: rest) a w := by
  obtain ⟨i0, hi, hz0, hz1, hz2⟩ := info_parts info_en
  refine wpList_plain hgd fun K hK => ?_
  obtain ⟨v', w', hrun, h2, h3, h4⟩ := run_appN (P := Try.prog) w B 110 o.type 113 i0 _ 7 80 Try.underlying110 hi hz0 hz1 hz2 rfl (by decide) v ds.length (cellsE ds) hown A m c (cellsE ns) (by rw [cellsE_length, hm]) hr (cellsE_one _) (by unfold maxLen; omega) (by omega) hB
  unfold Oper.wp execOp
  simp only [ho, resolve, invoke, builtin, Sem.run_bind, Sem.run_pure, Result.andThen_ok, List.map_toArray, List.map_cons, List.map_nil, hs, hx, hrun]
  refine hK _ _ (h v' w' ?_ h3 h4)
  unfold OwnE
  rw [cellsE_append, List.length_append, hm]
  exact h2
theorem OwnE.form {w : World} {v : Value} {ds : List EnV} {B : Nat} (h : OwnE w B v ds) : ∃ A c, v = .slice A ds.length c ∧ ds.length ≤ c ∧ c ≤ maxLen ∧ Rd w A (cellsE ds) ∧ (∀ a, A = some a → B ≤ a.block ∧ a.block < w.heap.size ∧ a.off = 0 ∧ a.spot = none) ∧ (A = none → c = 0) := by
  obtain ⟨hl, h2⟩ := h
  rcases h2 with ⟨rfl, h0⟩ | ⟨g, cap, cur, rfl, hb, hg, hn, hm, hcs, ht⟩
  · obtain rfl : ds = [] := List.eq_nil_of_length_eq_zero h0
    exact ⟨none, 0, rfl, Nat.le_refl _, Nat.zero_le _, .inl rfl, fun a ha => by (cases ha), fun _ => rfl⟩
  · refine ⟨some ⟨g, 0, none⟩, cap, rfl, hn, hm, .inr ⟨g, 0, rfl, (Array.getElem?_eq_some_iff.1 hg).1, fun k hk => ?_⟩, fun a ha => ?_, fun ha => by (cases ha)⟩
    · rw [Nat.zero_add, cell_of_row w g k cur _ (0, 0) hg]
      have h1 : (cellsE ds)[k]? = some (cellsE ds)[k] := List.getElem?_eq_getElem hk
      rw [← h1]
      conv => rhs; rw [← ht]
      rw [List.getElem?_take, if_pos (by omega)]
      simp
    · injection ha with ha; subst ha; exact ⟨hb, (Array.getElem?_eq_some_iff.1 hg).1, rfl, rfl⟩
theorem OwnE.below {w w' : World} {B : Nat} {v : Value} {ds : List EnV} (h : OwnE w B v ds) (hb : Below w.heap.size w w') : OwnE w' B v ds := Own.frameK h (fun g e => hb.block g (World.ownsRow.lt h g e).2)
theorem OwnE.formL {w : World} {v : Value} {ds : List EnV} {B L : Nat} (h : OwnE w B v ds) (hL : ds.length = L) : ∃ A c, v = .slice A L c ∧ L ≤ c ∧ c ≤ maxLen ∧ Rd w A (cellsE ds) := by
  obtain ⟨A, c, h1, h2, h3, h4, -, -⟩ := h.form
  exact ⟨A, c, by rw [h1, hL], by rw [← hL]; exact h2, h3, h4⟩

/-- 'append(v, xs...)' on entries, the grown row laid open. -/
theorem wpList_appEL (w : World) {ops : Array Oper} {rest : List Oper} {o : Oper} {a : Act} {Q : Exit → Act → World → Prop} (hgd : o.guard = none) (s x : Operand)
    (ho : o.op = .call { callee := .builtin .append, args := #[s, x], argTypes := #[110, 110] })
    (W : World) (v : Value) (ds : List EnV) (L : Nat) (hs : a.eval s = v) (hown : OwnE w W.heap.size v ds) (hL : ds.length = L)
    (A : Option Addr) (m c : Nat) (ns : List EnV) (hx : a.eval x = .slice A m c) (hm : ns.length = m) (hr : Rd w A (cellsE ns))
    (hlen : L + m ≤ 1000000) (hB : Below W.heap.size W w)
    (h : ∀ A' c' w', OwnE w' W.heap.size (.slice A' (L + m) c') (ds ++ ns) → L + m ≤ c' → c' ≤ maxLen → Below W.heap.size W w' → wpList Try.prog ops Q rest (a.put o.dst (.slice A' (L + m) c')) w') : wpList Try.prog ops Q (o :: rest) a w := by
  refine wpList_appE w hgd s x ho W.heap.size v ds hs hown A m c ns hx hm hr (by omega) hB.size fun v' w' h1 h2 _ => ?_
  obtain ⟨A', c', rfl, h4, h5, -⟩ := h1.formL (L := L + m) (by rw [List.length_append, hL, hm])
  exact h A' c' w' h1 h4 h5 (hB.grown h2 hB.size (fun j hj => (World.ownsRow.lt hown j hj).1))
end Go.Proofs.Ytcffinkkfdfcaaa

/- Plain law: how numbers are laid as bytes; no program in sight. Conditions: none. -/
namespace Go.Proofs.Ytcffinkkfdfcaaa
open Go Go.RowKit

/-- The lowest byte; a digit of 128 that is not the last. -/
def lo (n : Nat) : UInt8 := UInt8.ofNat n
def dig (n : Nat) : UInt8 := UInt8.ofNat (n % 128 + 128)
theorem lo_nat (n : Nat) : (lo n).toNat = n % 256 := by simp [lo]
theorem dig_nat (n : Nat) : (dig n).toNat = n % 128 + 128 := by
  simp only [dig, UInt8.toNat_ofNat']; omega
/-- A number by digits of 128, the lowest first. -/
def varL (n : Nat) : List UInt8 := if n < 128 then [lo n] else dig n :: varL (n / 128)
termination_by n
decreasing_by omega

theorem varL_lo {n : Nat} (h : n < 128) : varL n = [lo n] := by rw [varL, if_pos h]
theorem varL_hi {n : Nat} (h : 128 ≤ n) : varL n = dig n :: varL (n / 128) := by rw [varL, if_neg (by omega)]

theorem varL_len (k : Nat) : ∀ n, n < 128 ^ (k + 1) → (varL n).length ≤ k + 1 := by
  induction k with
  | zero => intro n h; rw [varL_lo (by simpa using h)]; simp
  | succ k ih =>
    intro n h
    by_cases h0 : n < 128
    · rw [varL_lo h0]; simp
    · rw [varL_hi (by omega), List.length_cons]
      have := ih (n / 128) (by rw [Nat.div_lt_iff_lt_mul (by decide)]; rw [Nat.pow_succ] at h; exact h)
      omega

def U64 (n : Nat) : Prop := n < 2 ^ 64
theorem U64.out {n : Nat} (h : U64 n) : n < 18446744073709551616 := h
theorem U64.le {n m : Nat} (h : U64 n) (hm : m ≤ n) : U64 m := Nat.lt_of_le_of_lt hm h
theorem u64_div {x : Nat} (h : U64 x) (d : Nat) : IntKind.u64.wrap ((x : Int) / (d : Int)) = (x : Int) / (d : Int) := by
  have h1 := h.out
  have h2 : x / d ≤ x := Nat.div_le_self _ _
  rw [← Int.natCast_ediv]
  generalize x / d = q at *
  simp only [IntKind.wrap_u64]; omega
theorem varL_len10 {n : Nat} (h : U64 n) : (varL n).length ≤ 10 := varL_len 9 n (Nat.lt_trans h (by decide))

theorem or128 (n : Nat) : (UInt8.ofNat n ||| 128) = dig n := by
  unfold dig
  apply UInt8.toNat_inj.1
  have h : ∀ a : Fin 256, a.val ||| 128 = a.val % 128 + 128 := by decide +kernel
  have h2 := h ⟨n % 256, by omega⟩
  simp only [] at h2
  simp only [UInt8.toNat_or, UInt8.toNat_ofNat']
  show n % 256 ||| 128 = _
  rw [h2]
  omega

/-- The size lowest bytes, the highest of them first. -/
def numL (n size : Nat) : List UInt8 := (List.range size).map fun i => lo (n / 256 ^ (size - 1 - i))
theorem numL_length (n size : Nat) : (numL n size).length = size := by simp [numL]

/-! ### Numbers read -/
inductive VR where
  | bad (e : Nat)
  | ok (n k : Nat)

/-- What bytes say as a number, the i-th of them first. -/
def varGo : List UInt8 → Nat → VR
  | [], _ => .bad 2
  | d :: l, i => if (i = 9 ∧ 1 < d.toNat) ∨ (0 < i ∧ d.toNat = 0) then .bad 3
    else if d.toNat < 128 then .ok d.toNat 1
    else match varGo l (i + 1) with
      | .bad e => .bad e
      | .ok n k => .ok (d.toNat % 128 + 128 * n) (k + 1)

def VR.after (x i : Nat) : VR → VR
  | .bad e => .bad e
  | .ok n k => .ok (x + 128 ^ i * n) (i + k)

theorem VR.after_zero (v : VR) : v.after 0 0 = v := by cases v <;> simp [VR.after]
theorem varGo_end {l : List UInt8} {i : Nat} (h : l.length ≤ i) (x : Nat) : (varGo (l.drop i) i).after x i = .bad 2 := by
  rw [List.drop_of_length_le h]; rfl
theorem varGo_form {l : List UInt8} {i : Nat} (h : i < l.length) (x : Nat) (hb : (i = 9 ∧ 1 < (l[i]).toNat) ∨ (0 < i ∧ (l[i]).toNat = 0)) : (varGo (l.drop i) i).after x i = .bad 3 := by
  rw [List.drop_eq_getElem_cons h, varGo, if_pos hb]; rfl
theorem varGo_last {l : List UInt8} {i : Nat} (h : i < l.length) (x : Nat) (hb : ¬ ((i = 9 ∧ 1 < (l[i]).toNat) ∨ (0 < i ∧ (l[i]).toNat = 0))) (hd : (l[i]).toNat < 128) :
    (varGo (l.drop i) i).after x i = .ok (x + 128 ^ i * (l[i]).toNat) (i + 1) := by
  rw [List.drop_eq_getElem_cons h, varGo, if_neg hb, if_pos hd]; rfl
theorem varGo_more {l : List UInt8} {i : Nat} (h : i < l.length) (x : Nat) (hb : ¬ ((i = 9 ∧ 1 < (l[i]).toNat) ∨ (0 < i ∧ (l[i]).toNat = 0))) (hd : 128 ≤ (l[i]).toNat) :
    (varGo (l.drop i) i).after x i = (varGo (l.drop (i + 1)) (i + 1)).after (x + 128 ^ i * ((l[i]).toNat % 128)) (i + 1) := by
  rw [List.drop_eq_getElem_cons h, varGo, if_neg hb, if_neg (by omega)]
  cases varGo (l.drop (i + 1)) (i + 1) with
  | bad e => rfl
  | ok n k =>
    simp only [VR.after, VR.ok.injEq]
    constructor
    · rw [Nat.mul_add, Nat.pow_succ, Nat.mul_assoc]; omega
    · omega

/-- The next digit is put by or. -/
theorem or_digit {x i d : Nat} (hx : x < 128 ^ i) : x ||| (d <<< (7 * i)) = x + 128 ^ i * d := by
  have e : 128 ^ i = 2 ^ (7 * i) := by rw [Nat.pow_mul]
  rw [e] at hx ⊢
  rw [Nat.shiftLeft_eq, Nat.or_comm, Nat.mul_comm d, ← Nat.two_pow_add_eq_or_of_lt hx]
  omega
theorem digit_lt {x i d : Nat} (hx : x < 128 ^ i) (hd : d < 128) : x + 128 ^ i * d < 128 ^ (i + 1) := by
  rw [Nat.pow_succ]
  have : 128 ^ i * d ≤ 128 ^ i * 127 := Nat.mul_le_mul_left _ (by omega)
  omega
theorem digit_u64 {x i d : Nat} (hi : i ≤ 9) (hx : x < 128 ^ i) (hd : d < 128) (h9 : i = 9 → d ≤ 1) : U64 (x + 128 ^ i * d) := by
  rcases Nat.lt_or_ge i 9 with h | h
  · exact Nat.lt_of_lt_of_le (digit_lt hx hd) (Nat.le_trans (Nat.pow_le_pow_right (by decide) (show i + 1 ≤ 9 by omega)) (by decide))
  · obtain rfl : i = 9 := by omega
    have := h9 rfl
    have h2 : 128 ^ 9 * d ≤ 128 ^ 9 * 1 := Nat.mul_le_mul_left _ this
    show _ < 2 ^ 64
    have h3 : (128 : Nat) ^ 9 + 128 ^ 9 * 1 ≤ 2 ^ 64 := by decide
    omega

def badD (i d : Nat) : Prop := (i = 9 ∧ 1 < d) ∨ (0 < i ∧ d = 0)
theorem varGo_form' {l : List UInt8} {i d : Nat} (h : i < l.length) (hd : d = (l[i]).toNat) (x : Nat) (hb : badD i d) : (varGo (l.drop i) i).after x i = .bad 3 := by
  subst hd; exact varGo_form h x hb
theorem varGo_last' {l : List UInt8} {i d : Nat} (h : i < l.length) (hd : d = (l[i]).toNat) (x : Nat) (hb : ¬ badD i d) (h8 : d < 128) : (varGo (l.drop i) i).after x i = .ok (x + 128 ^ i * (d % 128)) (i + 1) := by
  subst hd; rw [varGo_last h x hb h8, Nat.mod_eq_of_lt h8]
theorem varGo_more' {l : List UInt8} {i d : Nat} (h : i < l.length) (hd : d = (l[i]).toNat) (x : Nat) (hb : ¬ badD i d) (h8 : 128 ≤ d) : (varGo (l.drop i) i).after x i = (varGo (l.drop (i + 1)) (i + 1)).after (x + 128 ^ i * (d % 128)) (i + 1) := by
  subst hd; exact varGo_more h x hb h8

theorem and127 (d : Nat) (h : d < 256) : bits BinOp.and .u8 (d : Int) 127 = ((d : Int) % 128) := by
  rw [show (127 : Int) = ((127 : Nat) : Int) from rfl, u8_and_nat d 127 h (by decide)]
  rw [show (127 : Nat) = 2 ^ 7 - 1 from rfl, Nat.and_two_pow_sub_one_eq_mod]
  rfl
theorem or_walk {x k d : Nat} (hx : x < 128 ^ k) (hk : k ≤ 9) (h9 : k = 9 → d % 128 ≤ 1) (hu : U64 x) :
    bits BinOp.or .u64 (x : Int) (IntKind.u64.wrap ((d : Int) % 128 * 2 ^ (7 * k))) = ((x + 128 ^ k * (d % 128) : Nat) : Int) := by
  have h1 := digit_u64 (x := 0) hk (Nat.pow_pos (by decide)) (show d % 128 < 128 by omega) h9
  rw [Nat.zero_add] at h1
  have e : ((d : Int) % 128 * 2 ^ (7 * k)) = ((128 ^ k * (d % 128) : Nat) : Int) := by
    rw [show (128 : Nat) ^ k = 2 ^ (7 * k) by rw [Nat.pow_mul]]
    rw [Int.natCast_mul, Int.mul_comm]
    congr 1
  rw [e, IntWalk.u64_in _ ⟨by omega, by have := h1.out; omega⟩, u64_or_nat _ _ hu.out h1.out]
  congr 1
  have h2 := or_digit (d := d % 128) hx
  rw [Nat.shiftLeft_eq, Nat.mul_comm] at h2
  rw [show (128 : Nat) ^ k = 2 ^ (7 * k) by rw [Nat.pow_mul]] at h2 ⊢
  exact h2

/-- Bytes as a number, the highest first. -/
def beN (l : List UInt8) : Nat := l.foldl (fun a d => a * 256 + d.toNat) 0
theorem beN_snoc (l : List UInt8) (d : UInt8) : beN (l ++ [d]) = beN l * 256 + d.toNat := by simp [beN]
theorem beN_lt (l : List UInt8) : beN l < 256 ^ l.length := by
  rw [← List.reverse_reverse l]
  induction l.reverse with
  | nil => decide
  | cons d l ih =>
    rw [List.reverse_cons, beN_snoc, List.length_append, List.length_singleton, Nat.pow_succ]
    have := UInt8.toNat_lt d
    omega
theorem beN_u64 {l : List UInt8} (h : l.length ≤ 8) : U64 (beN l) :=
  Nat.lt_of_lt_of_le (beN_lt l) (Nat.le_trans (Nat.pow_le_pow_right (by decide) h) (by decide))
theorem or_byte (x d : Nat) (hd : d < 256) : (x * 256) ||| d = x * 256 + d := by
  rw [show (256 : Nat) = 2 ^ 8 from rfl, Nat.mul_comm] at *
  rw [Nat.two_pow_add_eq_or_of_lt hd]
theorem or_walk8 {x d : Nat} (hx : U64 (x * 256)) (hd : d < 256) : bits BinOp.or .u64 ((x : Int) * 256) (d : Int) = ((x * 256 + d : Nat) : Int) := by
  have h1 := u64_or_nat (x * 256) d hx.out (by omega)
  rw [Int.natCast_mul] at h1
  rw [show ((256 : Nat) : Int) = 256 from rfl] at h1
  rw [h1, or_byte x d hd]

theorem varGo_bd : ∀ (l : List UInt8) (i n k : Nat), i ≤ 9 → varGo l i = .ok n k → n < 2 ^ (64 - 7 * i) ∧ k ≤ l.length ∧ 1 ≤ k
  | [], _, _, _, _, h => by cases h
  | d :: l, i, n, k, hi, h => by
    rw [varGo] at h
    by_cases hb : (i = 9 ∧ 1 < d.toNat) ∨ (0 < i ∧ d.toNat = 0)
    · rw [if_pos hb] at h; cases h
    · rw [if_neg hb] at h
      by_cases h8 : d.toNat < 128
      · rw [if_pos h8] at h
        injection h with h1 h2
        subst h1; subst h2
        refine ⟨?_, by simp, by omega⟩
        rcases Nat.lt_or_ge i 9 with h9 | h9
        · exact Nat.lt_of_lt_of_le h8 (Nat.le_trans (show 128 ≤ 2 ^ 7 by decide) (Nat.pow_le_pow_right (by decide) (by omega)))
        · obtain rfl : i = 9 := by omega
          have : ¬ 1 < d.toNat := fun h => hb (.inl ⟨rfl, h⟩)
          show d.toNat < 2
          omega
      · rw [if_neg h8] at h
        have hi8 : i < 9 := by
          rcases Nat.lt_or_ge i 9 with h9 | h9
          · exact h9
          · exact absurd (.inl ⟨by omega, by omega⟩) hb
        cases hv : varGo l (i + 1) with
        | bad e => rw [hv] at h; cases h
        | ok n' k' =>
          rw [hv] at h
          injection h with h1 h2
          obtain ⟨g1, g2, g3⟩ := varGo_bd l (i + 1) n' k' (by omega) hv
          subst h1; subst h2
          refine ⟨?_, by simp; omega, by omega⟩
          have e : 2 ^ (64 - 7 * i) = 128 * 2 ^ (64 - 7 * (i + 1)) := by
            rw [show (128 : Nat) = 2 ^ 7 from rfl, ← Nat.pow_add]; congr 1; omega
          rw [e]
          omega
theorem varGo_u64 {l : List UInt8} {n k : Nat} (h : varGo l 0 = .ok n k) : U64 n ∧ k ≤ l.length ∧ 1 ≤ k := varGo_bd l 0 n k (by decide) h
theorem varGo_err {l : List UInt8} {i e : Nat} (h : varGo l i = .bad e) : e = 2 ∨ e = 3 := by
  induction l generalizing i with
  | nil => injection h with h; exact .inl h.symm
  | cons d l ih =>
    rw [varGo] at h
    split at h
    · injection h with h; exact .inr h.symm
    · split at h
      · cases h
      · cases hv : varGo l (i + 1) with
        | bad e' => rw [hv] at h; injection h with h; subst h; exact ih hv
        | ok _ _ => rw [hv] at h; cases h

end Go.Proofs.Ytcffinkkfdfcaaa

/- What the layer wire's and its reference's Var answer: a number laid by as few bytes as can be. Conditions: a number of 64 bits. -/
namespace Go.Proofs.Ytcffinkkfdfcaaa
open Go Go.RowKit

theorem varStep_hi {n x : Nat} {bs : List UInt8} (h : varL n = bs ++ varL x) (hx : 128 ≤ x) : varL n = (bs ++ [dig x]) ++ varL (x / 128) := by
  rw [h, varL_hi hx, List.append_assoc]; rfl
theorem varStep_len {n x : Nat} {bs : List UInt8} (hn : U64 n) (h : varL n = bs ++ varL x) : bs.length ≤ 10 := by
  have h1 := varL_len10 hn
  rw [h, List.length_append] at h1
  omega

theorem bits_or128 (x : Nat) : Value.int .u8 (bits BinOp.or .u8 (((x : Nat) : Int) % 256) 128) = bv (dig x) := by
  have h := u8_or_nat (x % 256) 128 (by omega) (by omega)
  rw [show ((x % 256 : Nat) : Int) = (x : Int) % 256 by omega] at h
  have h2 := congrArg UInt8.toNat (or128 x)
  simp only [UInt8.toNat_or, UInt8.toNat_ofNat'] at h2
  rw [show (128 : UInt8).toNat = 128 from rfl] at h2
  unfold bv
  rw [show ((128 : Int)) = ((128 : Nat) : Int) from rfl, h, show (256 : Nat) = 2 ^ 8 from rfl, h2]

theorem int_lo {x : Int} {n : Nat} (h : x = ((n % 256 : Nat) : Int)) : Value.int .u8 x = bv (lo n) := by rw [h, bv, lo_nat]

set_option maxRecDepth 100000 in
set_option maxHeartbeats 400000 in
theorem Var_c (n : Nat) (w : World) (hn : U64 n) :
    Calls Try.prog 35 #[.int .u64 n] w fun e w' => ∃ v, e = .returned v ∧ OwnB w' w.heap.size v (varL n) ∧ Below w.heap.size w w' := by
  go_enter Try.func35, Try.ntmps35
  go_wp2
  go_loopw [0, 3] (fun m v wr => ∃ (x : Nat) (bs : List UInt8), m = .int .u64 x ∧ varL n = bs ++ varL x ∧ U64 x ∧ OwnB wr w.heap.size v bs ∧ Below w.heap.size w wr) (fun m v _ => (intOf m).toNat)
  case atStart => exact ⟨n, [], rfl, rfl, hn, Own.nil_ _ _ _, Below.refl _ _⟩
  case round =>
    obtain ⟨x, bs, rfl, hv, hx, hown, hb⟩ := hrel
    have hl := varStep_len hn hv
    have hz := hb.size
    have HV := Lib.hid hv; clear hv
    rcases Int.lt_or_le (x : Int) 128 with hlt | hle
    · go_wp2_with (first | (at_builtin; refine wpList_appB1 _ rfl (.tmp 14) (.tmp 17) rfl w.heap.size _ bs rfl hown _ rfl (lo x) ?_ (by omega) (by omega) ?_))
      · exact int_lo (by omega)
      · intro v' w' h1 h2 _
        go_wp2
        go_ret
        refine ⟨_, rfl, ?_, ?_⟩
        · rw [HV.out, varL_lo (by omega)]; exact h1
        · exact (hb.alloc (by omega) _).grown h2 (by simp; omega) (fun k hk => (hown.lt k hk).1)
    · go_wp2_with (first | (at_builtin; refine wpList_appB1 _ rfl (.tmp 6) (.tmp 10) rfl w.heap.size _ bs rfl hown _ rfl (dig x) ?_ (by omega) (by omega) ?_))
      · exact bits_or128 x
      · intro v' w' h1 h2 _
        go_wp2
        go_roundw
        case rel => exact ⟨x / 128, _, by go_num, varStep_hi HV.out (by omega), hx.le (by omega), h1, (hb.alloc (by omega) _).grown h2 (by simp; omega) (fun k hk => (hown.lt k hk).1)⟩
        case measure => simp [intOf]; omega

/-! ### The reference's Var: the same by division -/
set_option maxRecDepth 100000 in
set_option maxHeartbeats 400000 in
theorem refVar_c (n : Nat) (w : World) (hn : U64 n) :
    Calls Try.prog 39 #[.int .u64 n] w fun e w' => ∃ v, e = .returned v ∧ OwnB w' w.heap.size v (varL n) ∧ Below w.heap.size w w' := by
  go_enter Try.func39, Try.ntmps39
  go_wp2
  go_loopw [0, 3] (fun m v wr => ∃ (x : Nat) (bs : List UInt8), m = .int .u64 x ∧ varL n = bs ++ varL x ∧ U64 x ∧ OwnB wr w.heap.size v bs ∧ Below w.heap.size w wr) (fun m v _ => (intOf m).toNat)
  case atStart => exact ⟨n, [], rfl, rfl, hn, World.ownsRow_made w #[] 0 (Nat.le_refl _) (Nat.zero_le _) rfl, (Below.refl _ _).alloc (Nat.le_refl _) _⟩
  case round =>
    obtain ⟨x, bs, rfl, hv, hx, hown, hb⟩ := hrel
    have hl := varStep_len hn hv
    have hz := hb.size
    have HV := Lib.hid hv; clear hv
    have hw : IntKind.u64.wrap ((x : Int) / 128) = (x : Int) / 128 := u64_div hx 128
    rcases Int.lt_or_le (x : Int) 128 with hlt | hle
    · have hq : (((x : Int) / 128) == 0) = true := by rw [beq_iff_eq]; omega
      go_wp2_with (first | (at_builtin; refine wpList_appB1 _ rfl (.tmp 8) (.tmp 11) rfl w.heap.size _ bs rfl hown _ rfl (lo x) ?_ (by omega) (by omega) ?_))
      · exact int_lo (by omega)
      · intro v' w' h1 h2 _
        go_wp2
        go_ret
        refine ⟨_, rfl, ?_, ?_⟩
        · rw [HV.out, varL_lo (by omega)]; exact h1
        · exact (hb.alloc (by omega) _).grown h2 (by simp; omega) (fun k hk => (hown.lt k hk).1)
    · have hq : (((x : Int) / 128) == 0) = false := by rw [beq_eq_false_iff_ne]; omega
      go_wp2_with (first | (at_builtin; refine wpList_appB1 _ rfl (.tmp 13) (.tmp 18) rfl w.heap.size _ bs rfl hown _ rfl (dig x) ?_ (by omega) (by omega) ?_))
      · unfold bv; rw [dig_nat]; congr 1
      · intro v' w' h1 h2 _
        go_wp2
        go_roundw
        case rel => exact ⟨x / 128, _, by go_num, varStep_hi HV.out (by omega), hx.le (by omega), h1, (hb.alloc (by omega) _).grown h2 (by simp; omega) (fun k hk => (hown.lt k hk).1)⟩
        case measure => simp [intOf]; omega
end Go.Proofs.Ytcffinkkfdfcaaa

/- The bytes of a list of items, in plain words. Conditions: none. -/
namespace Go.Proofs.Ytcffinkkfdfcaaa
open Go Go.RowKit

/-- An item's number: its kind, whether critical, whether a list. -/
def numI (k : Int) (cr li : Bool) : Nat := (4 * k).toNat + (if cr then 2 else 0) + (if li then 1 else 0)
def layL : Fo → List UInt8
  | .nil => []
  | .cons k cr li bs sub rest => varL (numI k cr li) ++ varL (if li then layL sub else bs).length ++ (if li then layL sub else bs) ++ layL rest
/-- Kinds and bytes that may be, all told. -/
def Fo.good : Fo → Prop
  | .nil => True
  | .cons k _ _ bs sub rest => 1 ≤ k ∧ k ≤ 1000 ∧ bs.length ≤ 4096 ∧ sub.good ∧ rest.good
theorem numI_le {k : Int} (cr li : Bool) (h1 : 1 ≤ k) (h2 : k ≤ 1000) : numI k cr li ≤ 4003 := by
  unfold numI
  cases cr <;> cases li <;> simp <;> omega
theorem varL_10 {n : Nat} (h : n ≤ 1000000000) : (varL n).length ≤ 10 := varL_len10 (by unfold U64; omega)
theorem layL_le : ∀ (f : Fo), f.good → f.size ≤ 100000 → (layL f).length ≤ 4116 * f.size
  | .nil, _, _ => by simp [layL]
  | .cons k cr li bs sub rest, h, hs => by
    obtain ⟨h1, h2, h3, h4, h5⟩ := h
    simp only [Fo.size] at hs
    have i1 := layL_le sub h4 (by omega)
    have i2 := layL_le rest h5 (by omega)
    have n1 := varL_10 (n := numI k cr li) (by have := numI_le cr li h1 h2; omega)
    have hin : (if li then layL sub else bs).length ≤ 4116 * sub.size + 4096 := by
      cases li
      · simp only [Bool.false_eq_true, if_false]; omega
      · simp only [if_true]; omega
    have n2 := varL_10 (n := (if li then layL sub else bs).length) (by omega)
    rw [layL, List.length_append, List.length_append, List.length_append]
    simp only [Fo.size]
    cases li
    · simp only [Bool.false_eq_true, if_false] at *; omega
    · simp only [if_true] at *; omega
end Go.Proofs.Ytcffinkkfdfcaaa

/- Words of 32 bits as values that the walk does not look into, and what the program's operations do with them. Conditions: none. -/
namespace Go.Proofs.Ytcffinkkfdfcaaa
open Go Go.RowKit

/-- A word as a value; the walk does not look into it. -/
def wv (x : BitVec 32) : Value := .int .u32 (x.toNat : Int)

theorem wrap_bv (r : BitVec 32) : IntKind.u32.wrap ((r.toNat : Nat) : Int) = (r.toNat : Int) := by
  have := r.isLt
  simp only [IntKind.wrap_u32]; omega
theorem ofInt_bv (x : BitVec 32) : BitVec.ofInt 32 ((x.toNat : Nat) : Int) = x := by
  rw [BitVec.ofInt_natCast]; simp

theorem wv_add (t : TypeId) (x y : BitVec 32) : binOp .add t (wv x) (wv y) = pure (wv (x + y)) := by
  simp only [wv, binOp, Op.intArith, ne_eq, not_true_eq_false, if_false]
  congr 2
theorem wv_sub (t : TypeId) (x y : BitVec 32) : binOp .sub t (wv x) (wv y) = pure (wv (x - y)) := by
  have h1 := x.isLt
  have h2 := y.isLt
  simp only [wv, binOp, Op.intArith, ne_eq, not_true_eq_false, if_false]
  congr 2
  rw [IntKind.wrap_u32, BitVec.toNat_sub]; omega
theorem wv_mul (t : TypeId) (x y : BitVec 32) : binOp .mul t (wv x) (wv y) = pure (wv (x * y)) := by
  simp only [wv, binOp, Op.intArith, ne_eq, not_true_eq_false, if_false]
  congr 2
theorem wv_xor (t : TypeId) (x y : BitVec 32) : binOp .xor t (wv x) (wv y) = pure (wv (x ^^^ y)) := by
  simp only [wv, binOp, Op.intBits, ne_eq, not_true_eq_false, if_false]
  show pure (Value.int .u32 (IntKind.u32.wrap (((BitVec.ofInt 32 (x.toNat : Int) ^^^ BitVec.ofInt 32 (y.toNat : Int)).toNat : Nat) : Int))) = _
  rw [ofInt_bv, ofInt_bv, wrap_bv]
theorem wv_and (t : TypeId) (x y : BitVec 32) : binOp .and t (wv x) (wv y) = pure (wv (x &&& y)) := by
  simp only [wv, binOp, Op.intBits, ne_eq, not_true_eq_false, if_false]
  show pure (Value.int .u32 (IntKind.u32.wrap (((BitVec.ofInt 32 (x.toNat : Int) &&& BitVec.ofInt 32 (y.toNat : Int)).toNat : Nat) : Int))) = _
  rw [ofInt_bv, ofInt_bv, wrap_bv]
theorem wv_or (t : TypeId) (x y : BitVec 32) : binOp .or t (wv x) (wv y) = pure (wv (x ||| y)) := by
  simp only [wv, binOp, Op.intBits, ne_eq, not_true_eq_false, if_false]
  show pure (Value.int .u32 (IntKind.u32.wrap (((BitVec.ofInt 32 (x.toNat : Int) ||| BitVec.ofInt 32 (y.toNat : Int)).toNat : Nat) : Int))) = _
  rw [ofInt_bv, ofInt_bv, wrap_bv]
theorem wv_shr (t : TypeId) (x : BitVec 32) (k : IntKind) (n : Int) (h0 : 0 ≤ n) (h1 : n ≤ 32) : binOp .shr t (wv x) (.int k n) = pure (wv (x >>> n.toNat)) := by
  obtain ⟨m, rfl⟩ := Int.eq_ofNat_of_zero_le h0
  simp only [wv, binOp, Op.shift, Int.toNat_natCast]
  rw [if_neg (by omega)]
  congr 2
  rw [BitVec.toNat_ushiftRight, Nat.shiftRight_eq_div_pow, show min m IntKind.u32.bits = m from Nat.min_eq_left (by show m ≤ 32; omega)]
  rw [show ((2 : Int) ^ m) = ((2 ^ m : Nat) : Int) by rw [Int.natCast_pow]; rfl, Int.ofNat_fdiv]
theorem wv_shl (t : TypeId) (x : BitVec 32) (k : IntKind) (n : Int) (h0 : 0 ≤ n) (h1 : n ≤ 32) : binOp .shl t (wv x) (.int k n) = pure (wv (x <<< n.toNat)) := by
  obtain ⟨m, rfl⟩ := Int.eq_ofNat_of_zero_le h0
  simp only [wv, binOp, Op.shift, Int.toNat_natCast]
  rw [if_neg (by omega)]
  congr 2
  rw [BitVec.toNat_shiftLeft, Nat.shiftLeft_eq, show min m IntKind.u32.bits = m from Nat.min_eq_left (by show m ≤ 32; omega)]
  rw [show ((2 : Int) ^ m) = ((2 ^ m : Nat) : Int) by rw [Int.natCast_pow]; rfl, ← Int.natCast_mul, IntKind.wrap_u32]
  generalize x.toNat * 2 ^ m = q
  omega

theorem wv_not (x : BitVec 32) : Op.unary .xor (wv x) = pure (wv (~~~x)) := by
  simp only [wv, Op.unary, Op.intBits]
  show pure (Value.int .u32 (IntKind.u32.wrap (((BitVec.ofInt 32 4294967295 ^^^ BitVec.ofInt 32 (x.toNat : Int)).toNat : Nat) : Int))) = _
  rw [ofInt_bv, wrap_bv, show BitVec.ofInt 32 4294967295 = BitVec.allOnes 32 from rfl, BitVec.allOnes_xor]
theorem wv_store (P : Program) (w : World) (a : Addr) (m : Mode) (x : BitVec 32) : (store a (wv x) m).run P w = stored P w a (wv x) m := run_store P w a _ m rfl
theorem bv_store (P : Program) (w : World) (a : Addr) (m : Mode) (x : UInt8) : (store a (bv x) m).run P w = stored P w a (bv x) m := run_store P w a _ m rfl
theorem wv_cells (a : Addr) (i : Nat) (x : BitVec 32) (rest : List Value) : storeCells a (wv x :: rest) i = (do store (a.add i) (wv x); storeCells a rest (i + 1)) := rfl
theorem bv_cells (a : Addr) (i : Nat) (x : UInt8) (rest : List Value) : storeCells a (bv x :: rest) i = (do store (a.add i) (bv x); storeCells a rest (i + 1)) := rfl
theorem wv_cellsOf (x : BitVec 32) : (wv x).cells = #[wv x] := rfl
theorem bv_cellsOf (x : UInt8) : (bv x).cells = #[bv x] := rfl
theorem no_cells (a : Addr) (i : Nat) : storeCells a [] i = pure () := rfl
/-- A byte as a word, a word's lowest byte. -/
def bw (b : UInt8) : BitVec 32 := b.toBitVec.setWidth 32
def wb (x : BitVec 32) : UInt8 := ⟨x.setWidth 8⟩
theorem bv_conv (w : World) (b : UInt8) : (convert 5 24 (bv b)).run Try.prog w = .ok (wv (bw b)) w := by
  have h := b.toNat_lt
  have e := run_convert_int (P := Try.prog) w 5 24 .u8 (b.toNat : Int) (by rw [Try.underlying5]; rfl) (by kernel_rfl)
  rw [show Try.prog.intKind 24 = .u32 by kernel_rfl] at e
  unfold bv
  rw [e, IntWalk.u32_in _ ⟨by omega, by omega⟩]
  unfold wv bw
  rw [BitVec.toNat_setWidth, UInt8.toNat_toBitVec, Nat.mod_eq_of_lt (by omega)]
theorem wv_conv (w : World) (x : BitVec 32) : (convert 24 5 (wv x)).run Try.prog w = .ok (bv (wb x)) w := by
  have e := run_convert_int (P := Try.prog) w 24 5 .u32 (x.toNat : Int) (by rw [Try.underlying24]; rfl) (by kernel_rfl)
  rw [show Try.prog.intKind 5 = .u8 by kernel_rfl] at e
  unfold wv
  rw [e]
  unfold bv wb
  congr 2
end Go.Proofs.Ytcffinkkfdfcaaa

/- What the small functions of sha and of its reference do with words. Conditions: counts below 32. -/
namespace Go.Proofs.Ytcffinkkfdfcaaa
open Go Go.RowKit
attribute [local go_sem] wv_add wv_sub wv_mul wv_xor wv_and wv_or wv_shr wv_shl wv_not wv_store bv_store bv_conv wv_conv

/-- Turned right. -/
def ror (x : BitVec 32) (n : Nat) : BitVec 32 := x >>> n ||| x <<< (32 - n)

theorem and31 (n : Nat) (h0 : 0 < n) (h : n < 32) : bits BinOp.and .u64 (18446744073709551616 - (n : Int)) 31 = ((32 - n : Nat) : Int) := by
  have h1 := u64_and_nat (18446744073709551616 - n) 31 (by omega) (by omega)
  rw [show (31 : Nat) = 2 ^ 5 - 1 from rfl, Nat.and_two_pow_sub_one_eq_mod] at h1
  rw [show ((18446744073709551616 - n : Nat) : Int) = 18446744073709551616 - (n : Int) by omega] at h1
  rw [show (31 : Int) = ((2 ^ 5 - 1 : Nat) : Int) from rfl, h1]
  omega

end Go.Proofs.Ytcffinkkfdfcaaa

/- What sha.turn makes of eight words and a block of 64 bytes, in plain lists. Rows of words in a block of their own. Conditions: the table of 64 words stands. -/
namespace Go.Proofs.Ytcffinkkfdfcaaa
open Go Go.RowKit

def getW (l : List (BitVec 32)) (i : Nat) : BitVec 32 := l.getD i 0
def getB (l : List UInt8) (i : Nat) : UInt8 := l.getD i 0
def be4 (b : List UInt8) (t : Nat) : BitVec 32 := bw (getB b (4 * t)) <<< 24 ||| bw (getB b (4 * t + 1)) <<< 16 ||| bw (getB b (4 * t + 2)) <<< 8 ||| bw (getB b (4 * t + 3))
def sig0 (x : BitVec 32) : BitVec 32 := ror x 7 ^^^ ror x 18 ^^^ x >>> 3
def sig1 (y : BitVec 32) : BitVec 32 := ror y 17 ^^^ ror y 19 ^^^ y >>> 10
def nxt (l : List (BitVec 32)) (k : Nat) : BitVec 32 := getW l k + getW l (k + 9) + sig0 (getW l (k + 1)) + sig1 (getW l (k + 14))
def sch1 (b : List UInt8) : Nat → List (BitVec 32)
  | 0 => List.replicate 64 0
  | k + 1 => (sch1 b k).set k (be4 b k)
def sch2 (b : List UInt8) : Nat → List (BitVec 32)
  | 0 => sch1 b 16
  | k + 1 => (sch2 b k).set (k + 16) (nxt (sch2 b k) k)
def pW (k x : BitVec 32) (v : List (BitVec 32)) : BitVec 32 :=
  getW v 7 + (ror (getW v 4) 6 ^^^ ror (getW v 4) 11 ^^^ ror (getW v 4) 25) + (getW v 4 &&& getW v 5 ^^^ ~~~(getW v 4) &&& getW v 6) + k + x
def qW (v : List (BitVec 32)) : BitVec 32 :=
  (ror (getW v 0) 2 ^^^ ror (getW v 0) 13 ^^^ ror (getW v 0) 22) + (getW v 0 &&& getW v 1 ^^^ getW v 0 &&& getW v 2 ^^^ getW v 1 &&& getW v 2)
def rnd (k x : BitVec 32) (v : List (BitVec 32)) : List (BitVec 32) :=
  [pW k x v + qW v, getW v 0, getW v 1, getW v 2, getW v 3 + pW k x v, getW v 4, getW v 5, getW v 6]
def rounds (ks xs h : List (BitVec 32)) : Nat → List (BitVec 32)
  | 0 => h
  | t + 1 => rnd (getW ks t) (getW xs t) (rounds ks xs h t)
def addL (h v : List (BitVec 32)) : Nat → List (BitVec 32)
  | 0 => h
  | t + 1 => (addL h v t).set t (getW (addL h v t) t + getW v t)
def rootL : List (BitVec 32) := [
  0x428a2f98, 0x71374491, 0xb5c0fbcf, 0xe9b5dba5, 0x3956c25b, 0x59f111f1, 0x923f82a4, 0xab1c5ed5,
  0xd807aa98, 0x12835b01, 0x243185be, 0x550c7dc3, 0x72be5d74, 0x80deb1fe, 0x9bdc06a7, 0xc19bf174,
  0xe49b69c1, 0xefbe4786, 0x0fc19dc6, 0x240ca1cc, 0x2de92c6f, 0x4a7484aa, 0x5cb0a9dc, 0x76f988da,
  0x983e5152, 0xa831c66d, 0xb00327c8, 0xbf597fc7, 0xc6e00bf3, 0xd5a79147, 0x06ca6351, 0x14292967,
  0x27b70a85, 0x2e1b2138, 0x4d2c6dfc, 0x53380d13, 0x650a7354, 0x766a0abb, 0x81c2c92e, 0x92722c85,
  0xa2bfe8a1, 0xa81a664b, 0xc24b8b70, 0xc76c51a3, 0xd192e819, 0xd6990624, 0xf40e3585, 0x106aa070,
  0x19a4c116, 0x1e376c08, 0x2748774c, 0x34b0bcb5, 0x391c0cb3, 0x4ed8aa4a, 0x5b9cca4f, 0x682e6ff3,
  0x748f82ee, 0x78a5636f, 0x84c87814, 0x8cc70208, 0x90befffa, 0xa4506ceb, 0xbef9a3f7, 0xc67178f2]
def blk (h : List (BitVec 32)) (b : List UInt8) : List (BitVec 32) := addL h (rounds rootL (sch2 b 48) h 64) 8
def startL : List (BitVec 32) := [0x6a09e667, 0xbb67ae85, 0x3c6ef372, 0xa54ff53a, 0x510e527f, 0x9b05688c, 0x1f83d9ab, 0x5be0cd19]

theorem sch1_len (b : List UInt8) : ∀ k, (sch1 b k).length = 64
  | 0 => by simp [sch1]
  | k + 1 => by simp [sch1, sch1_len b k]
theorem sch2_len (b : List UInt8) : ∀ k, (sch2 b k).length = 64
  | 0 => sch1_len b 16
  | k + 1 => by simp [sch2, sch2_len b k]
theorem rounds_len (ks xs h : List (BitVec 32)) (hh : h.length = 8) : ∀ k, (rounds ks xs h k).length = 8
  | 0 => hh
  | k + 1 => by simp [rounds, rnd]
theorem addL_len (h v : List (BitVec 32)) (hh : h.length = 8) : ∀ k, (addL h v k).length = 8
  | 0 => hh
  | k + 1 => by simp [addL, addL_len h v hh k]
theorem blk_len (h : List (BitVec 32)) (b : List UInt8) (hh : h.length = 8) : (blk h b).length = 8 := addL_len _ _ hh 8

/-- Block g holds the words l and nothing else. -/
def Ws (w : World) (g : Nat) (t : TypeId) (l : List (BitVec 32)) : Prop := w.heap[g]? = some (.cells (l.map wv).toArray t (0, 0))
section
variable {w w' : World} {g : Nat} {t : TypeId} {l : List (BitVec 32)}
theorem Ws.cell (h : Ws w g t l) (i : Nat) (hi : i < l.length) : w.cell? ⟨g, i, none⟩ = some (wv (getW l i)) := by
  rw [heap_cell h]
  simp [getW, List.getD, hi]
theorem Ws.free (h : Ws w g t l) (i : Nat) : w.frozen? ⟨g, i, none⟩ = false := heap_free h i
theorem Ws.set (h : Ws w g t l) (i : Nat) (x : BitVec 32) : Ws (w.setCell ⟨g, i, none⟩ (wv x)) g t (l.set i x) := by
  unfold Ws
  rw [heap_set h, List.map_set]
  simp
theorem Ws.far (h : Ws w g t l) {p : Addr} (u : Value) (hp : g ≠ p.block) : Ws (w.setCell p u) g t l := (heap_far u hp).trans h
theorem Ws.lt (h : Ws w g t l) : g < w.heap.size := heap_lt h
theorem Ws.below (h : Ws w g t l) (hb : Below w.heap.size w w') : Ws w' g t l := (hb.block g h.lt).trans h
theorem Ws.drewN (h : Ws w g t l) (n : Nat) : Ws (w.drewN n) g t l := h
theorem Ws.alloc (h : Ws w g t l) (o : Obj) : Ws (w.alloc o) g t l := (Below.heap_alloc w o g h.lt).trans h
end

/-- The table of the 64 words. -/
def Tab (w : World) : Prop := 0 < w.heap.size ∧ ∀ i, i < 64 → w.cell? ⟨0, i, none⟩ = some (wv (getW rootL i))
theorem Tab.below {w w' : World} {B : Nat} (h : Tab w) (hb : Below B w w') (hB : 0 < B) : Tab w' :=
  ⟨Nat.lt_of_lt_of_le h.1 hb.size, fun i hi => (World.cell?_of_block (w := w) (a := ⟨0, i, none⟩) (hb.block 0 hB)).trans (h.2 i hi)⟩
theorem getB_rd {b : Nat} {off : Nat} {w : World} {l : List UInt8} (g : ∀ k (h : k < l.length), w.cell? ⟨b, off + k, none⟩ = some (bv l[k])) (k : Nat) (hk : k < l.length) : w.cell? ⟨b, off + k, none⟩ = some (bv (getB l k)) := by
  rw [g k hk]
  simp [getB, List.getD, hk]
end Go.Proofs.Ytcffinkkfdfcaaa

/- Eight words built into an array. Conditions: none. -/
namespace Go.Proofs.Ytcffinkkfdfcaaa
open Go Go.RowKit
theorem info_u32 : (Try.prog.info? 24).map (·.size) = some 1 := by kernel_rfl
end Go.Proofs.Ytcffinkkfdfcaaa

/- What sha.turn computes. Conditions: eight words, 64 bytes, the table stands. -/
namespace Go.Proofs.Ytcffinkkfdfcaaa
open Go Go.RowKit
attribute [local go_sem] wv_add wv_sub wv_mul wv_xor wv_and wv_or wv_shr wv_shl wv_not wv_store bv_store bv_conv wv_conv wv_cells bv_cells no_cells wv_cellsOf bv_cellsOf

end Go.Proofs.Ytcffinkkfdfcaaa

/- The sum in plain lists: padding, blocks one behind the other, the bytes of the words. Conditions: none. -/
namespace Go.Proofs.Ytcffinkkfdfcaaa
open Go Go.RowKit

def lo8 (n : Nat) : UInt8 := UInt8.ofNat n
theorem lo8_nat (n : Nat) : (lo8 n).toNat = n % 256 := by simp [lo8]
def padZ (n : Nat) : Nat := (119 - n % 64) % 64
theorem padZ_le (n : Nat) : padZ n ≤ 63 := by unfold padZ; omega
/-- The length's bytes, k of them. -/
def be8 (n k : Nat) : List UInt8 := (List.range k).map fun i => lo8 (n / 256 ^ (7 - i))
theorem be8_len (n k : Nat) : (be8 n k).length = k := by simp [be8]
theorem be8_succ (n k : Nat) : be8 n (k + 1) = be8 n k ++ [lo8 (n / 256 ^ (7 - k))] := by simp [be8, List.range_succ]
def padHead (b : List UInt8) (z : Nat) : List UInt8 := b ++ [128] ++ List.replicate z 0
def padL (b : List UInt8) : List UInt8 := padHead b (padZ b.length) ++ be8 (8 * b.length) 8
theorem padHead_len (b : List UInt8) (z : Nat) : (padHead b z).length = b.length + 1 + z := by simp [padHead]; omega
theorem padHead_succ (b : List UInt8) (z : Nat) : padHead b (z + 1) = padHead b z ++ [0] := by
  simp [padHead, List.replicate_succ']
theorem padL_len (b : List UInt8) : (padL b).length = b.length + 1 + padZ b.length + 8 := by simp [padL, padHead_len, be8_len]
theorem padL_mod (b : List UInt8) : (padL b).length % 64 = 0 := by rw [padL_len]; unfold padZ; omega
def blocksN (h : List (BitVec 32)) (l : List UInt8) : Nat → List (BitVec 32)
  | 0 => h
  | n + 1 => blocksN (blk h (l.take 64)) (l.drop 64) n
theorem blocksN_len (h : List (BitVec 32)) (l : List UInt8) (hh : h.length = 8) : ∀ n, (blocksN h l n).length = 8
  | 0 => hh
  | n + 1 => blocksN_len (blk h (l.take 64)) (l.drop 64) (blk_len _ _ hh) n
def outB (h : List (BitVec 32)) (i : Nat) : UInt8 := wb (getW h (i / 4) >>> (24 - 8 * (i % 4)))
def outP (h : List (BitVec 32)) : Nat → List UInt8
  | 0 => List.replicate 32 0
  | k + 1 => (outP h k).set k (outB h k)
theorem outP_len (h : List (BitVec 32)) : ∀ k, (outP h k).length = 32
  | 0 => by simp [outP]
  | k + 1 => by simp [outP, outP_len h k]
def hashL (l : List UInt8) : List (BitVec 32) := blocksN startL l (l.length / 64)
def sumL (b : List UInt8) : List UInt8 := outP (hashL (padL b)) 32
theorem sumL_len (b : List UInt8) : (sumL b).length = 32 := outP_len _ _
theorem startL_len : startL.length = 8 := rfl

/-- Block g holds the bytes l and nothing else. -/
def Bs (w : World) (g : Nat) (t : TypeId) (l : List UInt8) : Prop := w.heap[g]? = some (.cells (l.map bv).toArray t (0, 0))
section
variable {w w' : World} {g : Nat} {t : TypeId} {l : List UInt8}
theorem Bs.cell (h : Bs w g t l) (i : Nat) (hi : i < l.length) : w.cell? ⟨g, i, none⟩ = some (bv (getB l i)) := by
  rw [heap_cell h]
  simp [getB, List.getD, hi]
theorem Bs.free (h : Bs w g t l) (i : Nat) : w.frozen? ⟨g, i, none⟩ = false := heap_free h i
theorem Bs.set (h : Bs w g t l) (i : Nat) (x : UInt8) : Bs (w.setCell ⟨g, i, none⟩ (bv x)) g t (l.set i x) := by
  unfold Bs
  rw [heap_set h, List.map_set]
  simp
theorem Bs.far (h : Bs w g t l) {p : Addr} (u : Value) (hp : g ≠ p.block) : Bs (w.setCell p u) g t l := (heap_far u hp).trans h
theorem Bs.lt (h : Bs w g t l) : g < w.heap.size := heap_lt h
theorem Bs.below (h : Bs w g t l) (hb : Below w.heap.size w w') : Bs w' g t l := (hb.block g h.lt).trans h
theorem Bs.grown (h : Bs w g t l) {r : Option Nat} (hb : w.grownBy w' r) (hr : r ≠ some g) : Bs w' g t l := (hb.block g h.lt (fun e => hr e.symm)).trans h
theorem Bs.drewN (h : Bs w g t l) (n : Nat) : Bs (w.drewN n) g t l := h
theorem Bs.alloc (h : Bs w g t l) (o : Obj) : Bs (w.alloc o) g t l := (Below.heap_alloc w o g h.lt).trans h
end
theorem Ws.grown {w w' : World} {g : Nat} {t : TypeId} {l : List (BitVec 32)} (h : Ws w g t l) {r : Option Nat} (hb : w.grownBy w' r) (hr : r ≠ some g) : Ws w' g t l := (hb.block g h.lt (fun e => hr e.symm)).trans h

/-- The address reads as slices of bytes. -/
def RdS (w : World) (A : Option Addr) (bss : List (List UInt8)) : Prop :=
  bss = [] ∨ ∃ b off, A = some ⟨b, off, none⟩ ∧ b < w.heap.size ∧ ∀ k (h : k < bss.length), ∃ Ak ck, w.cell? ⟨b, off + k, none⟩ = some (.slice Ak bss[k].length ck) ∧ Rd w Ak (bss[k].map bv) ∧ bss[k].length ≤ ck ∧ ck ≤ maxLen
section
variable {w w' : World} {A : Option Addr} {bss : List (List UInt8)}
theorem RdS.nil_ : RdS w A [] := .inl rfl
theorem RdS.below (h : RdS w A bss) (hb : Below w.heap.size w w') : RdS w' A bss := by
  rcases h with h | ⟨b, off, hA, hlt, hc⟩
  · exact .inl h
  · refine .inr ⟨b, off, hA, Nat.lt_of_lt_of_le hlt hb.size, fun k hk => ?_⟩
    obtain ⟨Ak, ck, h1, h2, h3, h4⟩ := hc k hk
    exact ⟨Ak, ck, (hb.cell (p := ⟨b, _, none⟩) hlt).trans h1, h2.below hb, h3, h4⟩
theorem RdS.drewN (h : RdS w A bss) (n : Nat) : RdS (w.drewN n) A bss := h
theorem RdS.alloc (h : RdS w A bss) (o : Obj) : RdS (w.alloc o) A bss := h.below ((Below.refl _ _).alloc (Nat.le_refl _) o)
theorem RdS.addr (h : RdS w A bss) (h0 : 0 < bss.length) : ∃ b off, A = some ⟨b, off, none⟩ ∧ b < w.heap.size ∧ ∀ k (h : k < bss.length), ∃ Ak ck, w.cell? ⟨b, off + k, none⟩ = some (.slice Ak bss[k].length ck) ∧ Rd w Ak (bss[k].map bv) ∧ bss[k].length ≤ ck ∧ ck ≤ maxLen := by
  rcases h with rfl | h
  · simp at h0
  · exact h
end
theorem flatten_take_succ (bss : List (List UInt8)) (k : Nat) (h : k < bss.length) : (bss.take (k + 1)).flatten = (bss.take k).flatten ++ bss[k] := by
  rw [List.take_succ_eq_append_getElem h, List.flatten_append]; simp
theorem flatten_take_le (bss : List (List UInt8)) (k : Nat) : (bss.take k).flatten.length ≤ bss.flatten.length := by
  have h := congrArg (fun l => l.flatten.length) (List.take_append_drop k bss)
  simp only [List.flatten_append, List.length_append] at h
  omega

/-! ### Arrays of 32 bytes -/
theorem info_a32 : (Try.prog.info? 47).map (·.size) = some 32 := by kernel_rfl
theorem wpList_loadA (w : World) {ops : Array Oper} {rest : List Oper} {o : Oper} {a : Act} {Q : Exit → Act → World → Prop} (hgd : o.guard = none) (x : Operand) (ho : o.op = .load 47 x)
    (g : Nat) (l : List UInt8) (hx : a.eval x = .pointer (some ⟨g, 0, none⟩)) (t : TypeId) (hW : Bs w g t l) (h8 : l.length = 32)
    (h : wpList Try.prog ops Q rest (a.put o.dst (.agg (l.map bv).toArray)) w) : wpList Try.prog ops Q (o :: rest) a w :=
  wpList_load_row hgd 47 x ho g hx _ _ _ _ hW Try.underlying47 rfl (by rw [info_a32]; simp [h8]) h
theorem wpList_storeA (w : World) {ops : Array Oper} {rest : List Oper} {o : Oper} {a : Act} {Q : Exit → Act → World → Prop} (hgd : o.guard = none) (x y : Operand) (ho : o.op = .store 47 x y)
    (g : Nat) (C : Array Value) (hx : a.eval x = .pointer (some ⟨g, 0, none⟩)) (hy : a.eval y = .agg C) (t : TypeId) (l old : List UInt8) (hC : C = (l.map bv).toArray) (hW : Bs w g t old) (h8 : l.length = 32) (o8 : old.length = 32)
    (h : ∀ w', Bs w' g t l → w.grownBy w' (some g) → wpList Try.prog ops Q rest (a.put o.dst undef) w') : wpList Try.prog ops Q (o :: rest) a w := by
  subst hC
  refine wpList_store_row hgd 47 x y ho g _ hx hy t _ hW (by rw [info_a32]; simp [h8]) (by simp [h8, o8]) ?_ (h _ (setRow_heap w g _ _ _ _ hW) ⟨rfl, rfl, rfl, by simp, fun k _ hk => setRow_other w g k _ (fun e => hk (by rw [e]))⟩)
  simp only [Array.all_eq_true_iff_forall_mem]
  intro u hu
  simp only [List.mem_toArray, List.mem_map] at hu
  obtain ⟨_, _, rfl⟩ := hu
  rfl
theorem results_a32 {fn : Func} {p : Tmp} (h : fn.results = #[.cell p 47]) (tmps : Array Value) (w : World) (g : Nat) (t : TypeId) (l : List UInt8) (hp : tmps.getD p undef = .pointer (some ⟨g, 0, none⟩)) (hW : Bs w g t l) (h8 : l.length = 32) :
    (results fn tmps).run Try.prog w = .ok (.agg (l.map bv).toArray) w :=
  results_cell_row h tmps w g _ _ _ _ hp hW Try.underlying47 rfl (by rw [info_a32]; simp [h8])
end Go.Proofs.Ytcffinkkfdfcaaa

/- What sha.first and sha.Sum answer. Conditions: the table stands; the parts' lengths fit. -/
namespace Go.Proofs.Ytcffinkkfdfcaaa
open Go Go.RowKit
attribute [local go_sem] wv_add wv_sub wv_mul wv_xor wv_and wv_or wv_shr wv_shl wv_not wv_store bv_store bv_conv wv_conv wv_cells bv_cells no_cells wv_cellsOf bv_cellsOf

theorem zeros_8 : #[wv 0, wv 0, wv 0, wv 0, wv 0, wv 0, wv 0, wv 0] = ((List.replicate 8 (0 : BitVec 32)).map wv).toArray := rfl

theorem be8_val (n t : Nat) : Value.int .u8 ((n : Int) * 8 / 2 ^ (8 * t) % 256) = bv (lo8 (8 * n / 256 ^ t)) := by
  unfold bv
  rw [lo8_nat, show (256 : Nat) ^ t = 2 ^ (8 * t) by rw [Nat.pow_mul], Nat.mul_comm 8 n]
  congr 1
theorem zero8_len : (List.replicate 8 (0 : BitVec 32)).length = 8 := rfl
def sliceLen : Value → Nat
  | .slice _ n _ => n
  | _ => 0

end Go.Proofs.Ytcffinkkfdfcaaa

/- What the reference's turned, root and block answer. Conditions: eight words, 64 bytes. -/
namespace Go.Proofs.Ytcffinkkfdfcaaa
open Go Go.RowKit

theorem c24 : Value.int .u32 16777216 = wv (BitVec.twoPow 32 24) := by kernel_rfl
theorem c16 : Value.int .u32 65536 = wv (BitVec.twoPow 32 16) := by kernel_rfl
theorem c8 : Value.int .u32 256 = wv (BitVec.twoPow 32 8) := by kernel_rfl
theorem cFF : Value.int .u32 4294967295 = wv (BitVec.allOnes 32) := by kernel_rfl
theorem wv_mul24 (t : TypeId) (x : BitVec 32) : binOp .mul t (wv x) (.int .u32 16777216) = pure (wv (x <<< 24)) := by
  rw [c24, wv_mul, BitVec.mul_twoPow_eq_shiftLeft]
theorem wv_mul16 (t : TypeId) (x : BitVec 32) : binOp .mul t (wv x) (.int .u32 65536) = pure (wv (x <<< 16)) := by
  rw [c16, wv_mul, BitVec.mul_twoPow_eq_shiftLeft]
theorem wv_mul8 (t : TypeId) (x : BitVec 32) : binOp .mul t (wv x) (.int .u32 256) = pure (wv (x <<< 8)) := by
  rw [c8, wv_mul, BitVec.mul_twoPow_eq_shiftLeft]
theorem not_all (x : BitVec 32) : BitVec.allOnes 32 - x = ~~~x := by
  apply BitVec.eq_of_toNat_eq
  have := x.isLt
  rw [BitVec.toNat_sub, BitVec.toNat_not, BitVec.toNat_allOnes]
  omega
theorem wv_subc (t : TypeId) (x : BitVec 32) : binOp .sub t (.int .u32 4294967295) (wv x) = pure (wv (~~~x)) := by
  rw [cFF, wv_sub, not_all]
theorem wv_quo (t : TypeId) (x : BitVec 32) (k : Nat) (n : Int) (hn : n = ((2 ^ k : Nat) : Int)) : binOp .quo t (wv x) (.int .u32 n) = pure (wv (x >>> k)) := by
  subst hn
  have h2 : 0 < 2 ^ k := Nat.pow_pos (by decide)
  have hx := x.isLt
  simp only [wv, binOp, ne_eq, not_true_eq_false, if_false]
  unfold Op.intDiv
  rw [if_neg (by omega)]
  simp only
  congr 2
  rw [← Int.ofNat_tdiv, BitVec.toNat_ushiftRight, Nat.shiftRight_eq_div_pow]
  have h3 : x.toNat / 2 ^ k ≤ x.toNat := Nat.div_le_self _ _
  generalize x.toNat / 2 ^ k = q at h3
  simp only [IntKind.wrap_u32]
  omega
theorem wv_quo24 (t : TypeId) (x : BitVec 32) : binOp .quo t (wv x) (.int .u32 16777216) = pure (wv (x >>> 24)) := wv_quo t x 24 _ (by decide)
theorem wv_quo16 (t : TypeId) (x : BitVec 32) : binOp .quo t (wv x) (.int .u32 65536) = pure (wv (x >>> 16)) := wv_quo t x 16 _ (by decide)
theorem wv_quo8 (t : TypeId) (x : BitVec 32) : binOp .quo t (wv x) (.int .u32 256) = pure (wv (x >>> 8)) := wv_quo t x 8 _ (by decide)

theorem bw_bit (b : UInt8) (i : Nat) (h : 8 ≤ i) : (bw b).getLsbD i = false := by
  unfold bw
  rw [BitVec.getLsbD_setWidth, BitVec.getLsbD_of_ge _ _ h]; simp
theorem shl_or (x : BitVec 32) (b : UInt8) (k : Nat) (h : ∀ i, i < k + 8 → x.getLsbD i = false) : x + bw b <<< k = x ||| bw b <<< k := by
  refine BitVec.add_eq_or_of_and_eq_zero _ _ ?_
  apply BitVec.eq_of_getLsbD_eq
  intro i hi
  rw [BitVec.getLsbD_and, BitVec.getLsbD_shiftLeft]
  by_cases h1 : i < k + 8
  · rw [h i h1]; simp
  · rw [bw_bit b (i - k) (by omega)]; simp
theorem shl_bit (b : UInt8) (k i : Nat) (h : i < k) : (bw b <<< k).getLsbD i = false := by
  rw [BitVec.getLsbD_shiftLeft]; simp [h]
theorem be4_sum (b0 b1 b2 b3 : UInt8) : bw b0 <<< 24 + bw b1 <<< 16 + bw b2 <<< 8 + bw b3 = bw b0 <<< 24 ||| bw b1 <<< 16 ||| bw b2 <<< 8 ||| bw b3 := by
  rw [shl_or (bw b0 <<< 24) b1 16 (fun i h => shl_bit _ _ _ h)]
  rw [shl_or _ b2 8 (fun i h => by rw [BitVec.getLsbD_or, shl_bit _ _ _ (by omega), shl_bit _ _ _ (by omega)]; rfl)]
  have := shl_or (bw b0 <<< 24 ||| bw b1 <<< 16 ||| bw b2 <<< 8) b3 0 (fun i h => by rw [BitVec.getLsbD_or, BitVec.getLsbD_or, shl_bit _ _ _ (by omega), shl_bit _ _ _ (by omega), shl_bit _ _ _ (by omega)]; rfl)
  rw [BitVec.shiftLeft_zero] at this
  exact this

attribute [local go_sem] wv_add wv_xor wv_and wv_or wv_shr wv_shl wv_store bv_store bv_conv wv_conv wv_cells bv_cells no_cells wv_cellsOf bv_cellsOf wv_mul24 wv_mul16 wv_mul8 wv_subc

def rootV : List (Nat × Value) := rootL.zipIdx.map fun (x, i) => (i, .int .u32 (x.toNat : Int))
theorem rootL_len : rootL.length = 64 := rfl
theorem zero64_len : (List.replicate 64 (0 : BitVec 32)).length = 64 := rfl

end Go.Proofs.Ytcffinkkfdfcaaa

/- What the reference's block answers. Conditions: eight words, 64 bytes. -/
namespace Go.Proofs.Ytcffinkkfdfcaaa
open Go Go.RowKit
attribute [local go_sem] wv_add wv_xor wv_and wv_or wv_shr wv_shl wv_store bv_store bv_conv wv_conv wv_cells bv_cells no_cells wv_cellsOf bv_cellsOf wv_mul24 wv_mul16 wv_mul8 wv_subc

end Go.Proofs.Ytcffinkkfdfcaaa

/- What the reference's Padded answers. Conditions: the length fits. -/
namespace Go.Proofs.Ytcffinkkfdfcaaa
open Go Go.RowKit

theorem be8_val2 (n t : Nat) (h : t ≤ 7) (s : Nat) (hs : s = 56 - 8 * t) : Value.int .u8 ((n : Int) * 8 / 2 ^ s % 256) = bv (lo8 (8 * n / 256 ^ (7 - t))) := by
  unfold bv
  rw [lo8_nat, show (256 : Nat) ^ (7 - t) = 2 ^ s by rw [hs, show 56 - 8 * t = 8 * (7 - t) by omega, Nat.pow_mul], Nat.mul_comm 8 n]
  congr 1
def sliceLen2 : Value → Nat
  | .slice _ n _ => n
  | _ => 0

end Go.Proofs.Ytcffinkkfdfcaaa

/- A store of one cell, the world left open: what is known of the block goes on. Conditions: none. -/
namespace Go.Proofs.Ytcffinkkfdfcaaa
open Go Go.RowKit

theorem run_put1 {P : Program} (w : World) (b o : Nat) (ty : TypeId) (v : Value) (ht : w.there b o 1) (hi : (P.info? ty).map (·.size) = some 1) (h1 : v.oneCell' = true) :
    (storeVar ty ⟨b, o, none⟩ v).run P w = .ok () (w.setCells b o [v]) := by
  have := run_storeCells_cells (P := P) b o [v] 0 w (fun j hj => by simpa using (ht j (by simpa using hj)).1) (fun j hj => by simpa using (ht j (by simpa using hj)).2) (fun x hx => by simp at hx; subst hx; exact h1)
  have hc : v.cells = #[v] := by cases v <;> first | rfl | cases h1
  cases hq : P.info? ty with
  | none => simp [hq] at hi
  | some i =>
    have hs : i.size = 1 := by simpa [hq] using hi
    simp only [Nat.add_zero] at this
    simp [storeVar, sizeOf, typeInfo, hq, hc, hs, this]
theorem there_one {w : World} {g i : Nat} {cs : Array Value} {t : TypeId} (h : w.heap[g]? = some (.cells cs t (0, 0))) (hi : i < cs.size) : w.there g i 1 := by
  intro j hj
  obtain rfl : j = 0 := by omega
  rw [Nat.add_zero]
  exact ⟨by rw [heap_cell h, Array.getElem?_eq_getElem hi]; rfl, heap_free h i⟩
/-- A store of one cell into a block that is known whole. -/
theorem wpList_put1 {P : Program} (w : World) {ops : Array Oper} {rest : List Oper} {o : Oper} {a : Act} {Q : Exit → Act → World → Prop} (hgd : o.guard = none) (ty : TypeId) (x y : Operand) (ho : o.op = .store ty x y)
    (g i : Nat) (v : Value) (hx : a.eval x = .pointer (some ⟨g, i, none⟩)) (hy : a.eval y = v) (t : TypeId) (cs : Array Value) (hB : w.heap[g]? = some (.cells cs t (0, 0))) (hi : i < cs.size)
    (hs : (P.info? ty).map (·.size) = some 1) (h1 : v.oneCell' = true)
    (h : ∀ w', w'.heap[g]? = some (.cells (cs.setIfInBounds i v) t (0, 0)) → w.grownBy w' (some g) → wpList P ops Q rest (a.put o.dst undef) w') : wpList P ops Q (o :: rest) a w := by
  refine wpList_plain hgd fun K hK => ?_
  unfold Oper.wp execOp
  simp only [ho, hx, hy, Instr.storeAt, Instr.sureAddr, Sem.run_bind, Sem.run_pure, Result.andThen_ok, run_put1 w g i ty v (there_one hB hi) hs h1]
  refine hK _ _ (h _ ?_ ?_)
  · exact heap_set hB i v
  · exact only_set g i v
theorem info_b : (Try.prog.info? 5).map (·.size) = some 1 := by kernel_rfl
theorem wpList_putB (w : World) {ops : Array Oper} {rest : List Oper} {o : Oper} {a : Act} {Q : Exit → Act → World → Prop} (hgd : o.guard = none) (x y : Operand) (ho : o.op = .store 5 x y)
    (g i : Nat) (b : UInt8) (hx : a.eval x = .pointer (some ⟨g, i, none⟩)) (hy : a.eval y = bv b) (t : TypeId) (l : List UInt8) (hB : Bs w g t l) (hi : i < l.length)
    (h : ∀ w', Bs w' g t (l.set i b) → w.grownBy w' (some g) → wpList Try.prog ops Q rest (a.put o.dst undef) w') : wpList Try.prog ops Q (o :: rest) a w := by
  refine wpList_put1 w hgd 5 x y ho g i (bv b) hx hy t _ hB (by simpa using hi) info_b rfl fun w' h1 h2 => h w' ?_ h2
  unfold Bs
  rw [h1, List.map_set]
  simp
theorem far_cell {w w' : World} {r g i : Nat} {v : Value} (hg : w.grownBy w' (some r)) (hc : w.cell? ⟨g, i, none⟩ = some v) (hne : r ≠ g) : w'.cell? ⟨g, i, none⟩ = some v :=
  (World.cell?_of_block (w := w) (a := ⟨g, i, none⟩) (hg.block g (World.block_lt_of_cell? w ⟨g, i, none⟩ hc) (fun e => hne (by injection e with e; exact e.symm)))).trans hc
end Go.Proofs.Ytcffinkkfdfcaaa

/- What the reference's Sum answers: the same as sha.Sum. Conditions: the parts' lengths fit. -/
namespace Go.Proofs.Ytcffinkkfdfcaaa
open Go Go.RowKit
attribute [local go_sem] wv_store bv_store bv_conv wv_conv wv_cells bv_cells no_cells wv_cellsOf bv_cellsOf wv_quo24 wv_quo16 wv_quo8

theorem outP_four (h : List (BitVec 32)) (t : Nat) :
    (((((outP h (4 * t)).set (4 * t) (wb (getW h t >>> 24))).set (4 * t + 1) (wb (getW h t >>> 16))).set (4 * t + 2) (wb (getW h t >>> 8))).set (4 * t + 3) (wb (getW h t))) = outP h (4 * (t + 1)) := by
  rw [show 4 * (t + 1) = 4 * t + 1 + 1 + 1 + 1 by omega]
  simp only [outP, outB]
  rw [show 4 * t / 4 = t by omega, show (4 * t + 1) / 4 = t by omega, show (4 * t + 1 + 1) / 4 = t by omega, show (4 * t + 1 + 1 + 1) / 4 = t by omega]
  rw [show 24 - 8 * (4 * t % 4) = 24 by omega, show 24 - 8 * ((4 * t + 1) % 4) = 16 by omega, show 24 - 8 * ((4 * t + 1 + 1) % 4) = 8 by omega, show 24 - 8 * ((4 * t + 1 + 1 + 1) % 4) = 0 by omega]
  rw [BitVec.ushiftRight_zero]
theorem zeroBs32 (w : World) : Bs (w.alloc (.cells #[.int .u8 0, .int .u8 0, .int .u8 0, .int .u8 0, .int .u8 0, .int .u8 0, .int .u8 0, .int .u8 0, .int .u8 0, .int .u8 0, .int .u8 0, .int .u8 0, .int .u8 0, .int .u8 0, .int .u8 0, .int .u8 0, .int .u8 0, .int .u8 0, .int .u8 0, .int .u8 0, .int .u8 0, .int .u8 0, .int .u8 0, .int .u8 0, .int .u8 0, .int .u8 0, .int .u8 0, .int .u8 0, .int .u8 0, .int .u8 0, .int .u8 0, .int .u8 0] 47)) w.heap.size 47 (List.replicate 32 0) := heap_alloc_new w _
theorem ownsNew (w : World) (o : Obj) : OwnB ((w.alloc o).alloc (.cells #[] 5)) (w.heap.size + 1) (.slice (some ⟨w.heap.size + 1, 0, none⟩) 0 0) ([] : List UInt8) := by
  have h : OwnB ((w.alloc o).alloc (.cells #[] 5)) (w.heap.size + 1) (.slice (some ⟨(w.alloc o).heap.size, 0, none⟩) 0 0) ([] : List UInt8) := World.ownsRow_made (w.alloc o) #[] 0 (by simp) (Nat.zero_le _) rfl
  rw [World.size_alloc] at h
  exact h
end Go.Proofs.Ytcffinkkfdfcaaa
