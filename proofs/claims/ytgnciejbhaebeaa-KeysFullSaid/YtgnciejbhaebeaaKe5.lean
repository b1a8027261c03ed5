/- Rows of events that the call itself makes: appended, made, stored into. Conditions: lengths that fit. -/
import Derived.Test.YtgnciejbhaebeaaKe2
namespace Go.Proofs.Ytgnciejbhaebeaa
open Go Go.RowKit

theorem run_appN {P : Program} (w : World) (base : Nat) (t ty e : TypeId) (i : TypeInfo) (z : Value) (size bytes : Nat) (ht : P.underlying t = some (.slice e)) (hi : P.info? e = some i) (hz : i.zero = some z)
    (hsize : i.size = size) (hby : i.bytes = bytes) (hzs : z.cells.size = size) (hsz : 0 < size)
    (v : Value) (n : Nat) (xs : List Value) (hown : w.ownsRow base e size v n xs) (A : Option Addr) (m c : Nat) (news : List Value) (hm : news.length = m * size) (hr : Rd w A news) (h1 : ∀ u ∈ news, u.oneCell' = true)
    (hlen : n + m ≤ maxLen) (hbytes : (n + m) * bytes ≤ 140737488355328) (hbase : base ≤ w.heap.size) :
    ∃ v' w', (Builtin.append_ #[t, t] ty #[v, .slice A m c]).run P w = .ok v' w' ∧ w'.ownsRow base e size v' (n + m) (xs ++ news) ∧ w.grownBy w' v.ownBlock ∧
      (v'.ownBlock = v.ownBlock ∨ v'.ownBlock = some w.heap.size) := by
  rcases A with _ | ad
  · have hn : news = [] := by
      rcases hr with h | ⟨_, _, h, _⟩
      · exact h
      · cases h
    subst hn
    have hm0 : m = 0 := by
      rcases Nat.eq_zero_or_pos m with h | h
      · exact h
      · have := Nat.mul_pos h hsz
        simp at hm; omega
    subst hm0
    exact ⟨v, w, run_append_of_nil w base t ty e i size ht hi v n xs hown c, by simpa using hown, World.grownBy.refl w _, .inl rfl⟩
  · obtain ⟨v', w', hrun, h2, h3, _, h5⟩ := run_append_own_at (P := P) w base t ty e i z size bytes ht hi hz hsize hby hzs hsz v n xs hown ad m c news hm (hr.cellsAt ad rfl) h1 hlen hbytes hbase
    exact ⟨v', w', hrun, h2, h3, h5⟩

theorem info_ev : (Try.prog.info? 36).map (fun i => (i.zero, i.size, i.bytes)) = some (some (.agg #[.int .i64 0, .slice none 0 0, .int .i64 0, .int .i64 0, .int .i64 0]), 5, 56) := by kernel_rfl

/-- 'append(v, xs...)' on events. -/
theorem wpList_appV (w : World) {ops : Array Oper} {rest : List Oper} {o : Oper} {a : Act} {Q : Exit → Act → World → Prop} (hgd : o.guard = none) (s x : Operand)
    (ho : o.op = .call { callee := .builtin .append, args := #[s, x], argTypes := #[23, 23] })
    (B : Nat) (v : Value) (ds : List EvV) (hs : a.eval s = v) (hown : OwnV w B v ds)
    (A : Option Addr) (m c : Nat) (ns : List EvV) (hx : a.eval x = .slice A m c) (hm : ns.length = m) (hr : Rd w A (cellsV ns))
    (hlen : ds.length + m ≤ 2513169434916) (hB : B ≤ w.heap.size)
    (h : ∀ v' w', OwnV w' B v' (ds ++ ns) → w.grownBy w' v.ownBlock → (v'.ownBlock = v.ownBlock ∨ v'.ownBlock = some w.heap.size) → wpList Try.prog ops Q rest (a.put o.dst v') w') : wpList Try.prog ops Q (o :: rest) a w := by
  obtain ⟨i0, hi, hz0, hz1, hz2⟩ := info_parts info_ev
  refine wpList_plain hgd fun K hK => ?_
  obtain ⟨v', w', hrun, h2, h3, h4⟩ := run_appN (P := Try.prog) w B 23 o.type 36 i0 _ 5 56 Try.underlying23 hi hz0 hz1 hz2 rfl (by decide) v ds.length (cellsV ds) hown A m c (cellsV ns) (by rw [cellsV_length, hm]) hr (cellsV_one _) (by unfold maxLen; omega) (by omega) hB
  unfold Oper.wp execOp
  simp only [ho, resolve, invoke, builtin, Sem.run_bind, Sem.run_pure, Result.andThen_ok, List.map_toArray, List.map_cons, List.map_nil, hs, hx, hrun]
  refine hK _ _ (h v' w' ?_ h3 h4)
  unfold OwnV
  rw [cellsV_append, List.length_append, hm]
  exact h2
def EvV.zero : EvV := ⟨0, none, 0, 0, 0, 0, 0⟩
theorem cellsV_zeros : ∀ n, (madeCells #[Value.int .i64 0, .slice none 0 0, .int .i64 0, .int .i64 0, .int .i64 0] (n * 5)).toList = cellsV (List.replicate n EvV.zero) := by
  intro n
  apply List.ext_getElem?
  intro j
  rcases Nat.lt_or_ge j (n * 5) with hj | hj
  · have hi : j / 5 < (List.replicate n EvV.zero).length := by rw [List.length_replicate]; omega
    have h := cellsV_get (List.replicate n EvV.zero) (j / 5) hi (j % 5) (Nat.mod_lt _ (by decide))
    rw [show j / 5 * 5 + j % 5 = j by omega] at h
    rw [h]
    have e : (madeCells #[Value.int .i64 0, .slice none 0 0, .int .i64 0, .int .i64 0, .int .i64 0] (n * 5)).toList[j]? = some (#[Value.int .i64 0, .slice none 0 0, .int .i64 0, .int .i64 0, .int .i64 0][j % 5]!) := by
      simp only [madeCells, Array.getElem?_toList, Array.getElem?_map]
      rw [Array.getElem?_eq_getElem (by simpa using hj)]
      simp
    rw [e, List.getElem_replicate]
    have h5 : j % 5 < 5 := Nat.mod_lt _ (by decide)
    generalize j % 5 = q at h5
    match q, h5 with
    | 0, _ => rfl
    | 1, _ => rfl
    | 2, _ => rfl
    | 3, _ => rfl
    | 4, _ => rfl
  · rw [List.getElem?_eq_none (by simp [madeCells]; omega), List.getElem?_eq_none (by rw [cellsV_length, List.length_replicate]; omega)]
/-- 'make([]Event, n)'. -/
theorem wpList_makeV (w : World) {ops : Array Oper} {rest : List Oper} {o : Oper} {a : Act} {Q : Exit → Act → World → Prop} (hgd : o.guard = none) (l c : Operand) (ho : o.op = Op.makeSlice 23 l c)
    (kl kc : IntKind) (L C : Int) (n : Nat) (hl : a.eval l = .int kl L) (hc : a.eval c = .int kc C) (hL : L = (n : Int)) (hC : C = (n : Int)) (hn : n ≤ 2513169434916)
    (h : ∀ w', OwnV w' w.heap.size (.slice (some ⟨w.heap.size, 0, none⟩) n n) (List.replicate n EvV.zero) → Below w.heap.size w w' → w.grownBy w' none → wpList Try.prog ops Q rest (a.put o.dst (.slice (some ⟨w.heap.size, 0, none⟩) n n)) w') :
    wpList Try.prog ops Q (o :: rest) a w := by
  obtain ⟨i0, hi, hz0, hz1, hz2⟩ := info_parts info_ev
  refine wpList_make_full w hgd l c 23 ho w.heap.size 36 i0 _ 5 Try.underlying23 hi hz0 hz1 kl kc L C n hl hc hL hC (by rw [hz2]; omega) (by unfold maxLen; omega) (Nat.le_refl _) ?_
  intro w' h1 h2
  refine h w' ?_ ((Below.refl _ _).grown h2 (Nat.le_refl _) (fun k hk => by cases hk)) h2
  unfold OwnV
  rw [List.length_replicate, ← cellsV_zeros]
  exact h1

section
variable {w : World} {B g n c : Nat} {ds : List EvV}
theorem OwnV.len (h : OwnV w B (.slice (some ⟨g, 0, none⟩) n c) ds) : n = ds.length ∧ ds.length ≤ c ∧ c ≤ maxLen ∧ B ≤ g ∧ g < w.heap.size := by
  rcases h.2 with ⟨h, _⟩ | ⟨g', cap, cur, hv, hb, hg, hn, hm, _⟩
  · cases h
  · injection hv with h1 h2 h3
    injection h1 with h1
    injection h1 with h1
    subst h1
    exact ⟨h2, by omega, by omega, hb, (Array.getElem?_eq_some_iff.1 hg).1⟩
theorem OwnV.to_n (h : OwnV w B (.slice (some ⟨g, 0, none⟩) n c) ds) : w.ownsRow B 36 5 (.slice (some ⟨g, 0, none⟩) n c) n (cellsV ds) := by
  have := h.len.1; subst this; exact h
theorem OwnV.five (h : OwnV w B (.slice (some ⟨g, 0, none⟩) n c) ds) (i : Nat) (hi : i < ds.length) :
    w.cell? ⟨g, i * 5, none⟩ = some (.int .i64 ds[i].k) ∧ w.cell? ⟨g, i * 5 + 1, none⟩ = some (.slice ds[i].A ds[i].n ds[i].c) ∧ w.cell? ⟨g, i * 5 + 2, none⟩ = some (.int .i64 ds[i].x) ∧
    w.cell? ⟨g, i * 5 + 3, none⟩ = some (.int .i64 ds[i].y) ∧ w.cell? ⟨g, i * 5 + 4, none⟩ = some (.int .i64 ds[i].b) := by
  have hl := h.len.1
  have get : ∀ j, j < 5 → w.cell? ⟨g, i * 5 + j, none⟩ = (ds[i].cells)[j]? := by
    intro j hj
    rw [h.to_n.cellAt (i * 5 + j) (by omega), cellsV_get ds i hi j hj]
  exact ⟨get 0 (by decide), get 1 (by decide), get 2 (by decide), get 3 (by decide), get 4 (by decide)⟩
theorem OwnV.free (h : OwnV w B (.slice (some ⟨g, 0, none⟩) n c) ds) (j : Nat) : w.frozen? ⟨g, j, none⟩ = false := h.to_n.frozenAt j
theorem OwnV.setT (h : OwnV w B (.slice (some ⟨g, 0, none⟩) n c) ds) (i : Nat) (hi : i < ds.length) (A' : Option Addr) (n' c' : Nat) :
    OwnV (w.setCell ⟨g, i * 5 + 1, none⟩ (.slice A' n' c')) B (.slice (some ⟨g, 0, none⟩) n c) (ds.set i (ds[i].txt A' n' c')) := by
  have h2 := (h.to_n.stored (i * 5 + 1) (.slice A' n' c')).1
  have hl := h.len.1
  rw [cellsV_txt ds i hi] at h2
  unfold OwnV
  rw [List.length_set, ← hl]
  exact h2
theorem OwnV.setX (h : OwnV w B (.slice (some ⟨g, 0, none⟩) n c) ds) (i : Nat) (hi : i < ds.length) (x : Int) :
    OwnV (w.setCell ⟨g, i * 5 + 2, none⟩ (.int .i64 x)) B (.slice (some ⟨g, 0, none⟩) n c) (ds.set i (ds[i].x' x)) := by
  have h2 := (h.to_n.stored (i * 5 + 2) (.int .i64 x)).1
  have hl := h.len.1
  rw [cellsV_x ds i hi] at h2
  unfold OwnV
  rw [List.length_set, ← hl]
  exact h2
theorem OwnV.setAll (h : OwnV w B (.slice (some ⟨g, 0, none⟩) n c) ds) (i : Nat) (hi : i < ds.length) (d : EvV) :
    OwnV (((((w.setCell ⟨g, i * 5, none⟩ (.int .i64 d.k)).setCell ⟨g, i * 5 + 1, none⟩ (.slice d.A d.n d.c)).setCell ⟨g, i * 5 + 2, none⟩ (.int .i64 d.x)).setCell ⟨g, i * 5 + 3, none⟩ (.int .i64 d.y)).setCell ⟨g, i * 5 + 4, none⟩ (.int .i64 d.b)) B
      (.slice (some ⟨g, 0, none⟩) n c) (ds.set i d) := by
  have hl := h.len.1
  have h2 := (((((h.to_n.stored (i * 5) (.int .i64 d.k)).1.stored (i * 5 + 1) (.slice d.A d.n d.c)).1.stored (i * 5 + 2) (.int .i64 d.x)).1.stored (i * 5 + 3) (.int .i64 d.y)).1.stored (i * 5 + 4) (.int .i64 d.b)).1
  rw [cellsV_all ds i hi d] at h2
  unfold OwnV
  rw [List.length_set, ← hl]
  exact h2
theorem OwnV.low {B' : Nat} {v : Value} (h : OwnV w B v ds) (hB : B' ≤ B) : OwnV w B' v ds := ⟨h.1, h.2.imp id (fun ⟨g, cap, cur, hv, hb, r⟩ => ⟨g, cap, cur, hv, Nat.le_trans hB hb, r⟩)⟩
theorem OwnV.below {w' : World} {v : Value} (h : OwnV w B v ds) (hb : Below w.heap.size w w') : OwnV w' B v ds := Own.frameK h (fun g e => hb.block g (World.ownsRow.lt h g e).2)
theorem OwnV.drewN {v : Value} (h : OwnV w B v ds) (q : Nat) : OwnV (w.drewN q) B v ds := h
end
end Go.Proofs.Ytgnciejbhaebeaa
