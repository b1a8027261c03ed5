/- Parts one behind the other: A region that draws its order and whose last operation waits for all others: the others by relations, the last one at the end; A region that draws its order, told by the values that its operations yield and by what becomes of the world, whatever the order; A region that draws its order and ends in a tail that waits for all others: the others by relations, the tail one behind the other; What GetHello answers: the Hello that bytes say, or an error. Conditions: as told at each. -/
import Derived.Test.YtcffinkkfdfcaaaPB12
import Derived.Laws.Tables
import Derived.Laws.Rows
import Derived.Test.YtcffinkkfdfcaaaPB1
import Derived.Test.YtcffinkkfdfcaaaPB14
import Derived.Deep.RegionHeld3
import Derived.Deep.MidRow
import Derived.BigRegion
import Derived.Laws.CopyOwn

set_option linter.unusedVariables false
set_option linter.unusedSimpArgs false
/- A region that draws its order and whose last operation waits for all others: the others by relations, the last one at the end. Conditions: each slot is written once; no operation ahead of the last one panics. -/
namespace Go.Proofs.Ytcffinkkfdfcaaa
open Go Go.RowKit

/-- A value built of parts. -/
theorem gives_build {P : Program} {o : Oper} {f : Nat → Value} {w : World} {K : Value → World → Prop} (t : TypeId) (parts : Array (Nat × Operand)) (ho : o.op = .build t parts) (cells : Array Value)
    (hf : P.built t (parts.map fun (i, x) => (i, evF f x)).toList = some cells) (hK : K (.agg cells) w) : Gives P o f w K := by
  refine gives_val (v := .agg cells) ?_ hK
  unfold execOp
  simp only [ho]
  rw [Sem.run_bind, run_build w t _ cells hf]
  rfl

/-- A row of cells loaded whole. -/
theorem gives_load_row {P : Program} {o : Oper} {f : Nat → Value} {w : World} {K : Value → World → Prop} (ty : TypeId) (x : Operand) (ho : o.op = .load ty x)
    (g : Nat) (hx : evF f x = .pointer (some ⟨g, 0, none⟩)) (t : TypeId) (cs : Array Value) (fr : Nat × Nat) (d : TypeDesc) (hg : w.heap[g]? = some (.cells cs t fr))
    (hu : P.underlying ty = some d) (hd : (match d with | .struct _ | .array _ _ => true | _ => false) = true) (hi : (P.info? ty).map (·.size) = some cs.size) (hK : K (.agg cs) w) : Gives P o f w K := by
  refine gives_val (v := .agg cs) ?_ hK
  unfold execOp
  simp only [ho, hx, Instr.loadAt, Instr.sureAddr, Sem.run_bind, Sem.run_pure, Result.andThen_ok, run_loadVar_row w g t ty cs fr d hg hu hd hi]

/-- The operations that these wait for. -/
def ups (ops : Array Oper) : Nat → List Nat → List Nat
  | 0, S => S
  | k + 1, S => ups ops k (S ++ (List.range ops.size).filter (fun j => S.any (fun i => depOn ops i j) && !S.contains j))
def waitsAll (ops : Array Oper) (m : Nat) : Bool := (List.range m).all (fun j => (ups ops m [m]).contains j)
theorem ups_in (ops : Array Oper) (T : Nat → Prop) (hc : ∀ i j, T i → depOn ops i j = true → T j) : ∀ (k : Nat) (S : List Nat), (∀ j ∈ S, T j) → ∀ j ∈ ups ops k S, T j
  | 0, _, h, j, hj => h j hj
  | k + 1, S, h, j, hj => by
    refine ups_in ops T hc k _ (fun x hx => ?_) j hj
    rcases List.mem_append.1 hx with hx | hx
    · exact h x hx
    · have h1 := (List.mem_filter.1 hx).2
      simp only [Bool.and_eq_true, List.any_eq_true] at h1
      obtain ⟨⟨i, hi, hd⟩, _⟩ := h1
      exact hc i x (h i hi) hd

section
variable {P : Program} {ops : Array Oper} {G : World → World → Prop} {R : Nat → World → Value → Prop} {a0 : Act} {W0 : World}
theorem wp_region_rel_last (n m : Nat) {id : Nat} {Q : Exit → Act → World → Prop} {a : Act} {w : World} (hm : P.follows .mixedOrders = true) (hn : a.tmps.size = n) (hok : slotsOk ops n = true)
    (hsz : ops.size = m + 1) (hwa : waitsAll ops m = true) (ol : Oper) (hol : ops[m]? = some ol) (hgd : ol.guard = none)
    (G : World → World → Prop) (R : Nat → World → Value → Prop) (hr : ∀ w, G w w) (ht : ∀ {a b c}, G a b → G b c → G a c) (hmo : ∀ j {a b v}, R j a v → G a b → R j b v)
    (step : ∀ (i : Nat) (o : Oper), i < m → ops[i]? = some o → ∀ (f : Nat → Value) (w' : World), G w.drew w' → (∀ t, writes ops t = false → f t = a.tmps.getD t undef) →
      (∀ j d, depOn ops i j = true → dstOf ops j = some d → R j w' (f d)) → if Region.wanted o (yieldedF ops f) = true then Gives P o f w' (fun v w'' => G w' w'' ∧ R i w'' v) else R i w' undef)
    (fin : ∀ (f : Nat → Value) (w' : World), G w.drew w' → (∀ t, writes ops t = false → f t = a.tmps.getD t undef) → (∀ j d, j < m → dstOf ops j = some d → R j w' (f d)) → wpList P ops Q [ol] ⟨((List.range n).map f).toArray, a.defers⟩ w') :
    (Code.region id ops true).wp P Q a w := by
  refine wp_region_any hm ?_
  have fulls : ∀ (listed : Array Bool), (∀ i, i < ops.size → listed.getD i false = true) → listed.size = ops.size → Region.ready .any ops listed = [] := by
    intro listed hall hls
    apply List.eq_nil_iff_forall_not_mem.2
    intro i hi
    obtain ⟨h1, o, ho, _⟩ := mem_ready.1 hi
    have hlt : i < ops.size := (Array.getElem?_eq_some_iff.1 ho).1
    have h2 := hall i hlt
    have : i < listed.size := by rw [hls]; exact hlt
    simp [this] at h1 h2
    rw [h1] at h2; cases h2
  have full : ∀ (fuel : Nat) (listed : Array Bool) (b : Act) (v : World), (∀ i, i < ops.size → listed.getD i false = true) → listed.size = ops.size → Q .normal b v → wpAny P .any ops Q fuel listed b v := by
    intro fuel listed b v hall hls hq
    have h0 := fulls listed hall hls
    cases fuel with
    | zero => exact ⟨h0, hq⟩
    | succ k => exact ⟨fun _ => hq, fun i hi => by rw [h0] at hi; cases hi⟩
  have key : ∀ (fuel : Nat) (listed : Array Bool) (b : Act) (v : World), RInv ops G R a w.drew listed b v → (∀ i j, listed.getD i false = true → depOn ops i j = true → listed.getD j false = true) → listed.getD m false = false →
      ((List.range ops.size).countP (fun i => listed.getD i false == false)) ≤ fuel → wpAny P .any ops Q fuel listed b v := by
    have mready : ∀ (listed : Array Bool), listed.size = ops.size → listed.getD m false = false → Region.ready .any ops listed ≠ [] := by
      intro listed hls hml h0
      have all : ∀ i, i < ops.size → listed.getD i false = true := by
        intro i
        induction i using Nat.strongRecOn with
        | _ i ih =>
          intro hi
          cases hc : listed.getD i false with
          | true => rfl
          | false =>
            have hmem : i ∈ Region.ready .any ops listed := by
              refine mem_ready.2 ⟨?_, ops[i], by simp [hi], fun e he hb => ?_⟩
              · have : i < listed.size := by rw [hls]; exact hi
                simp [this] at hc ⊢
                exact hc
              · have hlt := slotsOk_back hok (i := i) (o := ops[i]) (by simp [hi]) e he hb
                exact ih e.on hlt (by omega)
            rw [h0] at hmem; cases hmem
      have := all m (by omega)
      rw [hml] at this; cases this
    intro fuel
    induction fuel with
    | zero =>
      intro listed b v h _ hml hc
      have := List.countP_eq_zero.1 (Nat.le_zero.1 hc) m (List.mem_range.2 (by omega))
      rw [hml] at this
      exact absurd rfl this
    | succ fuel ih =>
      intro listed b v h hcl hml hc
      refine ⟨fun h0 => absurd h0 (mready listed h.lsize hml), fun i hi => ?_⟩
      obtain ⟨h1, o, ho, hall⟩ := mem_ready.1 hi
      have hlt : i < ops.size := (Array.getElem?_eq_some_iff.1 ho).1
      have hls : i < listed.size := by rw [h.lsize]; exact hlt
      have h2 : listed.getD i false = false := by
        simp [hls] at h1 ⊢
        exact h1
      have hdep : ∀ j, depOn ops i j = true → listed.getD j false = true := by
        intro j hj
        unfold depOn at hj
        rw [ho] at hj
        obtain ⟨q, hq, hb⟩ := Array.any_eq_true.1 hj
        have he : o.after[q] ∈ o.after := Array.getElem_mem hq
        generalize o.after[q] = e at he hb
        simp only [Bool.and_eq_true, beq_iff_eq] at hb
        have := hall e he hb.1
        rw [hb.2] at this
        exact this
      have hcl' : ∀ p j, (listed.setIfInBounds i true).getD p false = true → depOn ops p j = true → (listed.setIfInBounds i true).getD j false = true := by
        intro p j hp hd
        have h3 : listed.getD j false = true := by
          by_cases e : i = p
          · subst e; exact hdep j hd
          · exact hcl p j (by rw [← hp]; simp [Array.getElem?_setIfInBounds_ne e]) hd
        by_cases e : i = j
        · subst e; simp [hls]
        · rw [← h3]; simp [Array.getElem?_setIfInBounds_ne e]
      have hcnt : (List.range ops.size).countP (fun k => (listed.setIfInBounds i true).getD k false == false) ≤ fuel := by
        have hsub : (List.range ops.size).countP (fun k => (listed.setIfInBounds i true).getD k false == false) < (List.range ops.size).countP (fun k => listed.getD k false == false) := by
          have gen : ∀ (l : List Nat), i ∈ l → l.countP (fun k => (listed.setIfInBounds i true).getD k false == false) < l.countP (fun k => listed.getD k false == false) := by
            have le : ∀ (l : List Nat), l.countP (fun k => (listed.setIfInBounds i true).getD k false == false) ≤ l.countP (fun k => listed.getD k false == false) := by
              intro l
              apply List.countP_mono_left
              intro k _ hk
              by_cases e : i = k
              · subst e; simp [hls] at hk
              · simpa [Array.getElem?_setIfInBounds_ne e] using hk
            intro l hl
            induction l with
            | nil => cases hl
            | cons k l ihl =>
              by_cases e : i = k
              · subst e
                have := le l
                have h2' : (listed.getD i false == false) = true := by rw [h2]; rfl
                rw [List.countP_cons_of_pos (p := fun k => listed.getD k false == false) (by exact h2'), List.countP_cons_of_neg (by simp [hls])]
                omega
              · have hl' : i ∈ l := by
                  rcases List.mem_cons.1 hl with h | h
                  · exact absurd h e
                  · exact h
                have := ihl hl'
                have e2 : (listed.setIfInBounds i true).getD k false = listed.getD k false := by simp [Array.getElem?_setIfInBounds_ne e]
                rw [List.countP_cons, List.countP_cons, e2]
                omega
          exact gen _ (List.mem_range.2 hlt)
        omega
      by_cases him : i = m
      · -- the last one
        subst him
        rw [hol] at ho
        injection ho with ho
        subst ho
        have others : ∀ j, j < i → listed.getD j false = true := by
          intro j hj
          have h4 := List.all_eq_true.1 hwa j (List.mem_range.2 hj)
          have h5 := ups_in ops (fun x => x = i ∨ listed.getD x false = true) (fun p q hp hd => by
            rcases hp with rfl | hp
            · exact .inr (hdep q hd)
            · exact .inr (hcl p q hp hd)) i [i] (fun x hx => .inl (by simpa using hx)) j (by simpa using h4)
          rcases h5 with h5 | h5
          · omega
          · exact h5
        have hallL : ∀ k, k < ops.size → (listed.setIfInBounds i true).getD k false = true := by
          intro k hk
          by_cases e : i = k
          · subst e; simp [hls]
          · rw [← others k (by omega)]; simp [Array.getElem?_setIfInBounds_ne e]
        have hb : b = ⟨((List.range n).map (fun t => b.tmps.getD t undef)).toArray, a.defers⟩ := by
          have hs : b.tmps.size = n := h.size.trans hn
          have e : b.tmps = ((List.range n).map (fun t => b.tmps.getD t undef)).toArray := by
            apply Array.ext
            · simp [hs]
            · intro i h1 h2
              simp [h1]
          rw [← h.defers, ← e]
        have hf := fin (fun t => b.tmps.getD t undef) v h.grow h.frame (fun j d hj hd => h.rel j d (others j hj) hd)
        rw [← hb] at hf
        unfold wpOp
        simp only [hol]
        unfold wpList at hf
        rw [if_pos (wanted_none hgd)] at hf ⊢
        exact hf.imp (Oper.wp_mono (fun b' v' hq => full fuel _ b' v' hallL (by simp [h.lsize]) hq)) (fun h => h)
      · have hml' : (listed.setIfInBounds i true).getD m false = false := by
          have e : (listed.setIfInBounds i true).getD m false = listed.getD m false := by simp [Array.getElem?_setIfInBounds_ne him]
          rw [e]; exact hml
        have hs := step i o (by omega) ho (fun t => b.tmps.getD t undef) v h.grow h.frame (fun j d hj hd => h.rel j d (hdep j hj) hd)
        unfold wpOp
        simp only [ho]
        rw [yielded_eqF hok b (h.size.trans hn)]
        split
        · rename_i hw
          rw [if_pos hw] at hs
          refine .inl (Gives.wp ?_)
          unfold Gives at hs ⊢
          generalize (execOp (evF fun t => b.tmps.getD t undef) o).run P v = r at hs
          cases r with
          | ok nx w' =>
            cases nx <;> simp only at hs ⊢
            case value u => exact ih _ _ _ (h.put ho hok hn ht hmo hs.1 hs.2 hlt) hcl' hml' hcnt
            case skip => exact ih _ _ _ (h.put ho hok hn ht hmo hs.1 hs.2 hlt) hcl' hml' hcnt
            case enter k args => exact Calls.mono hs fun e w'' ⟨u, he, hg, hR⟩ => ⟨u, he, ih _ _ _ (h.put ho hok hn ht hmo hg hR hlt) hcl' hml' hcnt⟩
          | halt x w' => exact hs.elim
        · rename_i hw
          rw [if_neg hw] at hs
          exact ih _ _ _ (h.put ho hok hn ht hmo (hr v) hs hlt) hcl' hml' hcnt
  have none0 : ∀ i, (Array.replicate ops.size false).getD i false = false := by
    intro i
    by_cases h : i < ops.size
    · simp [h]
    · simp [h]
  refine key ops.size _ a _ ⟨hr _, rfl, rfl, by simp, fun t _ => rfl, fun j d hl hd => ?_⟩ (fun i j hi _ => ?_) (none0 m) ?_
  · rw [none0] at hl; cases hl
  · rw [none0] at hi; cases hi
  · refine Nat.le_trans List.countP_le_length ?_
    simp
end

theorem AllFrom.outlt {Pr : Nat → Oper → Prop} (l l2 : List Oper) (h : AllFrom Pr 0 l) : ∀ i o, i < l.length → (l ++ l2)[i]? = some o → Pr i o := by
  intro i o hi ho
  rw [List.getElem?_append_left hi] at ho
  have := AllFrom.out l 0 h i o ho
  rwa [Nat.zero_add] at this
/-- THE LAW, the last operation apart: the frame told by the slots that are written. -/
theorem wp_region_rs {P : Program} (n m : Nat) (l : List Rl) (ws : List Nat) {id : Nat} {os : List Oper} {Q : Exit → Act → World → Prop} {a : Act} {w : World} (hm : P.follows .mixedOrders = true) (hn : a.tmps.size = n) (hok : slotsOk os.toArray n = true) (hws : allIn os.toArray ws = true)
    (o : Oper) (hos : os = os.take m ++ [o]) (hml : (os.take m).length = m) (hwa : waitsAll os.toArray m = true) (hgd : o.guard = none)
    (steps : AllFrom (Stp P os.toArray a w.drew l) 0 (os.take m))
    (fin : ∀ (f : Nat → Value) (w' : World), Gr w.drew w' → (∀ j d, j < m → dstOf os.toArray j = some d → relOf l j w' (f d)) → (∀ t, writes os.toArray t = false → f t = a.tmps.getD t undef) → wpList P os.toArray Q [o] ⟨putAll f ws a.tmps, a.defers⟩ w') :
    (Code.region id os.toArray true).wp P Q a w := by
  have hl : os.length = m + 1 := by rw [hos, List.length_append, hml]; rfl
  refine wp_region_rel_last n m hm hn hok (by simpa using hl) hwa o (by rw [List.getElem?_toArray, hos, List.getElem?_append_right (by omega), hml]; simp) hgd Gr (relOf l) Gr.refl Gr.trans (fun j _ _ _ h g => (l.getD j Rl.any).mono h g) (fun i o' hi ho => ?_) (fun f w' g hF hD => ?_)
  · refine AllFrom.outlt (os.take m) [o] steps i o' (by omega) ?_
    rw [← hos]
    simpa using ho
  · have e : ((List.range n).map f).toArray = putAll f ws a.tmps := by
      apply Array.ext
      · rw [putAll_size, hn]; simp
      · intro t h1 h2
        have ht : t < n := by simpa using h1
        have h3 := putAll_get f ws a.tmps t (by rw [hn]; exact ht) (by
          by_cases hw : writes os.toArray t = true
          · left
            obtain ⟨j, hj, hd⟩ := List.any_eq_true.1 hw
            have hd := beq_iff_eq.1 hd
            have := List.all_eq_true.1 hws j hj
            rw [hd] at this
            simpa using this
          · right
            exact (hF t (by simpa using hw)).symm)
        have h4 : (putAll f ws a.tmps)[t] = f t := by
          rw [← h3]; simp [h2]
        rw [h4]; simp
    rw [e]
    exact fin f w' g hD hF
end Go.Proofs.Ytcffinkkfdfcaaa

/- A region that draws its order, told by the values that its operations yield and by what becomes of the world, whatever the order. Conditions: each slot is written once; no operation panics. -/
namespace Go.Proofs.Ytcffinkkfdfcaaa
open Go Go.RowKit

/-- One operation's step. -/
def StpV (P : Program) (ops : Array Oper) (a : Act) (W : World) (G : World → World → Prop) (vals : List Value) (i : Nat) (o : Oper) : Prop :=
  ∀ (f : Nat → Value) (w : World), G W w → (∀ t, writes ops t = false → f t = a.tmps.getD t undef) →
      (∀ j d, depOn ops i j = true → dstOf ops j = some d → f d = vals.getD j undef) → if Region.wanted o (yieldedF ops f) = true then Gives P o f w (fun v w'' => G w w'' ∧ v = vals.getD i undef) else undef = vals.getD i undef
/-- THE LAW. -/
theorem wp_region_rv {P : Program} (n : Nat) (G : World → World → Prop) (vals : List Value) (ws : List Nat) {id : Nat} {os : List Oper} {Q : Exit → Act → World → Prop} {a : Act} {w : World} (hm : P.follows .mixedOrders = true) (hn : a.tmps.size = n) (hok : slotsOk os.toArray n = true) (hws : allIn os.toArray ws = true)
    (hr : ∀ w, G w w) (ht : ∀ {a b c}, G a b → G b c → G a c)
    (steps : AllFrom (StpV P os.toArray a w.drew G vals) 0 os)
    (fin : ∀ (f : Nat → Value) (w' : World), G w.drew w' → (∀ j d, dstOf os.toArray j = some d → f d = vals.getD j undef) → Q .normal ⟨putAll f ws a.tmps, a.defers⟩ w') :
    (Code.region id os.toArray true).wp P Q a w := by
  refine wp_region_rel n hm hn hok G (fun j _ v => v = vals.getD j undef) hr ht (fun j _ _ _ h _ => h) (fun i o ho => ?_) (fun f w' g hF hD => ?_)
  · have := AllFrom.out os 0 steps i o (by simpa using ho)
    rw [Nat.zero_add] at this
    exact this
  have e : ((List.range n).map f).toArray = putAll f ws a.tmps := by
    apply Array.ext
    · rw [putAll_size, hn]; simp
    · intro t h1 h2
      have ht : t < n := by simpa using h1
      have h3 := putAll_get f ws a.tmps t (by rw [hn]; exact ht) (by
        by_cases hw : writes os.toArray t = true
        · left
          obtain ⟨j, hj, hd⟩ := List.any_eq_true.1 hw
          have hd := beq_iff_eq.1 hd
          have := List.all_eq_true.1 hws j hj
          rw [hd] at this
          simpa using this
        · right
          exact (hF t (by simpa using hw)).symm)
      have h4 : (putAll f ws a.tmps)[t] = f t := by
        rw [← h3]; simp [h2]
      rw [h4]; simp
  rw [e]
  exact fin f w' g hD
/-- A whole row stored. -/
theorem gives_store_row {P : Program} {o : Oper} {f : Nat → Value} {w : World} {K : Value → World → Prop} (ty : TypeId) (x y : Operand) (ho : o.op = .store ty x y)
    (g : Nat) (cells : Array Value) (hx : evF f x = .pointer (some ⟨g, 0, none⟩)) (hy : evF f y = .agg cells)
    (t : TypeId) (old : Array Value) (hg : w.heap[g]? = some (.cells old t (0, 0))) (hi : (P.info? ty).map (·.size) = some cells.size)
    (hold : old.size = cells.size) (h1 : cells.all (·.oneCell') = true) (hK : K undef (w.setRow g cells)) : Gives P o f w K := by
  unfold Gives execOp
  simp only [ho, hx, hy, Instr.storeAt, Instr.sureAddr, Sem.run_bind, Sem.run_pure, Result.andThen_ok, run_storeVar_row w g t ty old cells hg hi hold h1]
  exact hK
/-- Only block g has turned, and it still holds these cells if it did. -/
def Zg (g : Nat) (o : Obj) (a b : World) : Prop := Keeps (fun j => j = g) a b ∧ (a.heap[g]? = some o → b.heap[g]? = some o)
theorem Zg.refl (g : Nat) (o : Obj) (w : World) : Zg g o w w := ⟨Keeps.refl _ _, id⟩
theorem Zg.trans {g : Nat} {o : Obj} {a b c : World} (h : Zg g o a b) (k : Zg g o b c) : Zg g o a c := ⟨h.1.trans k.1, fun e => k.2 (h.2 e)⟩
theorem Zg.row {g : Nat} {cs old : Array Value} {t : TypeId} {w : World} (h : w.heap[g]? = some (.cells old t (0, 0))) : Zg g (.cells cs t (0, 0)) w (w.setRow g cs) :=
  ⟨⟨rfl, rfl, rfl, by rw [show (w.setRow g cs).heap.size = w.heap.size from by simp [World.setRow]]; exact Nat.le_refl _, fun k _ hk => setRow_other w g k cs hk⟩, fun _ => setRow_heap w g old cs t _ h⟩
theorem Zg.cell {g : Nat} {o : Obj} {a b : World} (h : Zg g o a b) {p i : Nat} {v : Value} (hp : p ≠ g) (hl : p < a.heap.size) (hc : a.cell? ⟨p, i, none⟩ = some v) : b.cell? ⟨p, i, none⟩ = some v :=
  (World.cell?_of_block (w := a) (a := ⟨p, i, none⟩) (h.1.block p hl hp)).trans hc
end Go.Proofs.Ytcffinkkfdfcaaa

/- A region that draws its order and ends in a tail that waits for all others: the others by relations, the tail one behind the other. Conditions: each slot is written once; no operation ahead of the tail panics. -/
namespace Go.Proofs.Ytcffinkkfdfcaaa
open Go Go.RowKit

/-- Slots that operations ahead of number m write. -/
def writesTo (ops : Array Oper) (m t : Nat) : Bool := (List.range m).any (fun j => dstOf ops j == some t)
structure RInvT (ops : Array Oper) (m : Nat) (G : World → World → Prop) (R : Nat → World → Value → Prop) (a0 : Act) (W0 : World) (listed : Array Bool) (a : Act) (w : World) : Prop where
  grow : G W0 w
  defers : a.defers = a0.defers
  size : a.tmps.size = a0.tmps.size
  lsize : listed.size = ops.size
  frame : ∀ t, writesTo ops m t = false → a.tmps.getD t undef = a0.tmps.getD t undef
  rel : ∀ j d, listed.getD j false = true → dstOf ops j = some d → R j w (a.tmps.getD d undef)
theorem RInvT.put {ops : Array Oper} {m : Nat} {G : World → World → Prop} {R : Nat → World → Value → Prop} {a0 : Act} {W0 : World} {listed : Array Bool} {a : Act} {w w' : World} {i : Nat} {o : Oper} {v : Value} {n : Nat} (him : i < m) (ho : ops[i]? = some o) (hok : slotsOk ops n = true) (hn : a0.tmps.size = n) (h : RInvT ops m G R a0 W0 listed a w)
    (ht : ∀ {a b c}, G a b → G b c → G a c) (hm : ∀ j {a b v}, R j a v → G a b → R j b v) (hg : G w w') (hr : R i w' v) (hi : i < ops.size) : RInvT ops m G R a0 W0 (listed.setIfInBounds i true) (a.put o.dst v) w' := by
  have hdo : dstOf ops i = o.dst := by unfold dstOf; rw [ho]; rfl
  have get : ∀ t, (a.put o.dst v).tmps.getD t undef = if o.dst = some t ∧ t < n then v else a.tmps.getD t undef := by
    intro t
    unfold Act.put
    cases hd : o.dst with
    | none => simp
    | some d =>
      by_cases e : d = t
      · subst e
        have hlt : d < n := slotsOk_lt hok (hdo.trans hd)
        have hlt2 : d < a.tmps.size := by rw [h.size, hn]; exact hlt
        simp [hlt, hlt2]
      · simp [e, Array.getElem?_setIfInBounds_ne e]
  refine ⟨ht h.grow hg, ?_, ?_, by simp [h.lsize], fun t hw => ?_, fun j d hl hd => ?_⟩
  · rw [← h.defers]; unfold Act.put; cases o.dst <;> rfl
  · rw [← h.size]; unfold Act.put; cases o.dst <;> simp
  · rw [get, if_neg, h.frame t hw]
    rintro ⟨e, _⟩
    have : writesTo ops m t = true := List.any_eq_true.2 ⟨i, List.mem_range.2 him, by rw [hdo, e]; exact beq_self_eq_true _⟩
    rw [hw] at this; cases this
  · rw [get]
    by_cases hji : j = i
    · subst hji
      rw [if_pos ⟨hdo.symm.trans hd, slotsOk_lt hok hd⟩]
      exact hr
    · rw [if_neg]
      · refine hm j (h.rel j d ?_ hd) hg
        rw [← hl]
        simp [Array.getElem?_setIfInBounds_ne (Ne.symm hji)]
      · rintro ⟨e, _⟩
        exact hji (slotsOk_ne hok hd (hdo.trans e))
/-- One operation's step, ahead of the tail. -/
def StpT (P : Program) (ops : Array Oper) (m : Nat) (a : Act) (W : World) (l : List Rl) (i : Nat) (o : Oper) : Prop :=
  ∀ (f : Nat → Value) (w : World), Gr W w → (∀ t, writesTo ops m t = false → f t = a.tmps.getD t undef) →
      (∀ j d, depOn ops i j = true → dstOf ops j = some d → relOf l j w (f d)) → if Region.wanted o (yieldedF ops f) = true then Gives P o f w (fun v w'' => Gr w w'' ∧ relOf l i w'' v) else relOf l i w undef

/-- From m on each operation waits for the one ahead of it. -/
def chained (ops : Array Oper) (m : Nat) : Bool := (List.range ops.size).all (fun j => decide (j ≤ m) || depOn ops j (j - 1))
section
variable {P : Program} {ops : Array Oper} {Q : Exit → Act → World → Prop}
theorem not_ready_of {listed : Array Bool} {i : Nat} (hi : i ∈ Region.ready .any ops listed) : ∀ j, depOn ops i j = true → listed.getD j false = true := by
  obtain ⟨h1, o, ho, hall⟩ := mem_ready.1 hi
  intro j hj
  unfold depOn at hj
  rw [ho] at hj
  obtain ⟨q, hq, hb⟩ := Array.any_eq_true.1 hj
  have he : o.after[q] ∈ o.after := Array.getElem_mem hq
  generalize o.after[q] = e at he hb
  simp only [Bool.and_eq_true, beq_iff_eq] at hb
  have := hall e he hb.1
  rw [hb.2] at this
  exact this
theorem ready_open {listed : Array Bool} {i : Nat} (hls : listed.size = ops.size) (hi : i ∈ Region.ready .any ops listed) : listed.getD i false = false ∧ i < ops.size := by
  obtain ⟨h1, o, ho, _⟩ := mem_ready.1 hi
  have hlt : i < ops.size := (Array.getElem?_eq_some_iff.1 ho).1
  have : i < listed.size := by rw [hls]; exact hlt
  simp [this] at h1 ⊢
  exact ⟨h1, hlt⟩
theorem ready_mk {n : Nat} (hok : slotsOk ops n = true) {listed : Array Bool} (hls : listed.size = ops.size) {i : Nat} (hi : i < ops.size) (h0 : listed.getD i false = false) (hall : ∀ j, j < i → listed.getD j false = true) : i ∈ Region.ready .any ops listed := by
  refine mem_ready.2 ⟨?_, ops[i], by simp [hi], fun e he hb => ?_⟩
  · have : i < listed.size := by rw [hls]; exact hi
    simp [this] at h0 ⊢
    exact h0
  · have hlt := slotsOk_back hok (i := i) (o := ops[i]) (by simp [hi]) e he hb
    exact hall e.on hlt
theorem set_get (listed : Array Bool) (i j : Nat) (hls : i < listed.size) : (listed.setIfInBounds i true).getD j false = if i = j then true else listed.getD j false := by
  split
  · rename_i e; subst e; simp [hls]
  · rename_i e; simp [Array.getElem?_setIfInBounds_ne e]

theorem tailAny {n m : Nat} (hok : slotsOk ops n = true) (hch : chained ops m = true) : ∀ (r fuel : Nat) (listed : Array Bool) (b : Act) (v : World), listed.size = ops.size → r ≤ ops.size → m ≤ ops.size - r →
    (∀ i, i < ops.size → (listed.getD i false = true ↔ i < ops.size - r)) → r ≤ fuel → wpList P ops Q (ops.toList.drop (ops.size - r)) b v → wpAny P .any ops Q fuel listed b v := by
  intro r
  induction r with
  | zero =>
    intro fuel listed b v hls _ _ hl _ hq
    have h0 : Region.ready .any ops listed = [] := by
      apply List.eq_nil_iff_forall_not_mem.2
      intro i hi
      obtain ⟨h1, h2⟩ := ready_open hls hi
      have := (hl i h2).2 (by omega)
      rw [h1] at this; cases this
    have hq' : Q .normal b v := by
      rw [Nat.sub_zero, List.drop_of_length_le (by simp)] at hq
      exact hq
    cases fuel with
    | zero => exact ⟨h0, hq'⟩
    | succ k => exact ⟨fun _ => hq', fun i hi => by rw [h0] at hi; cases hi⟩
  | succ r ih =>
    intro fuel listed b v hls hr hm hl hf hq
    obtain ⟨j, ej⟩ : ∃ j, j = ops.size - (r + 1) := ⟨_, rfl⟩
    have hj : j < ops.size := by omega
    have hj0 : listed.getD j false = false := by
      cases h : listed.getD j false
      · rfl
      · have := (hl j hj).1 h; omega
    have hjr : j ∈ Region.ready .any ops listed := ready_mk hok hls hj hj0 (fun i hi => (hl i (by omega)).2 (by omega))
    cases fuel with
    | zero => omega
    | succ k =>
      refine ⟨fun h0 => (by rw [h0] at hjr; cases hjr), fun i hi => ?_⟩
      obtain ⟨h1, h2⟩ := ready_open hls hi
      have hij : i = j := by
        have hge : j ≤ i := by
          rcases Nat.lt_or_ge i j with h | h
          · have := (hl i h2).2 (by omega)
            rw [h1] at this; cases this
          · exact h
        rcases Nat.eq_or_lt_of_le hge with h | h
        · exact h.symm
        · have h3 := List.all_eq_true.1 hch i (List.mem_range.2 h2)
          simp only [Bool.or_eq_true, decide_eq_true_eq] at h3
          rcases h3 with h3 | h3
          · omega
          · have h4 := not_ready_of hi (i - 1) h3
            have := (hl (i - 1) (by omega)).1 h4
            omega
      subst hij
      have hd : ops.toList.drop i = ops[i] :: ops.toList.drop (i + 1) := by
        rw [List.drop_eq_getElem_cons (by simpa using hj)]
        simp
      rw [← ej, hd] at hq
      have hw : wpOp P ops Q i (wpList P ops Q (ops.toList.drop (i + 1))) b v := by
        unfold wpOp
        rw [Array.getElem?_eq_getElem hj]
        exact hq
      refine wpOp_mono (fun b' v' hq' => ih k _ b' v' (by simpa using hls) (by omega) (by omega) (fun q hqs => ?_) (by omega) ?_) hw
      · rw [set_get _ _ _ (by rw [hls]; exact hj)]
        split
        · simp; omega
        · rw [hl q hqs]; omega
      · rw [show ops.size - r = i + 1 by omega]; exact hq'

variable {G : World → World → Prop} {R : Nat → World → Value → Prop} {a0 : Act} {W0 : World}
theorem wp_region_rel_tail (n m : Nat) {id : Nat} {a : Act} {w : World} (hm : P.follows .mixedOrders = true) (hn : a.tmps.size = n) (hok : slotsOk ops n = true)
    (hsz : m < ops.size) (hwa : waitsAll ops m = true) (hch : chained ops m = true)
    (G : World → World → Prop) (R : Nat → World → Value → Prop) (hr : ∀ w, G w w) (ht : ∀ {a b c}, G a b → G b c → G a c) (hmo : ∀ j {a b v}, R j a v → G a b → R j b v)
    (step : ∀ (i : Nat) (o : Oper), i < m → ops[i]? = some o → ∀ (f : Nat → Value) (w' : World), G w.drew w' → (∀ t, writesTo ops m t = false → f t = a.tmps.getD t undef) →
      (∀ j d, depOn ops i j = true → dstOf ops j = some d → R j w' (f d)) → if Region.wanted o (yieldedF ops f) = true then Gives P o f w' (fun v w'' => G w' w'' ∧ R i w'' v) else R i w' undef)
    (fin : ∀ (f : Nat → Value) (w' : World), G w.drew w' → (∀ t, writesTo ops m t = false → f t = a.tmps.getD t undef) → (∀ j d, j < m → dstOf ops j = some d → R j w' (f d)) → wpList P ops Q (ops.toList.drop m) ⟨((List.range n).map f).toArray, a.defers⟩ w') :
    (Code.region id ops true).wp P Q a w := by
  refine wp_region_any hm ?_
  have key : ∀ (fuel : Nat) (listed : Array Bool) (b : Act) (v : World), RInvT ops m G R a w.drew listed b v → (∀ i j, listed.getD i false = true → depOn ops i j = true → listed.getD j false = true) → (∀ i, m ≤ i → i < ops.size → listed.getD i false = false) →
      ((List.range ops.size).countP (fun i => listed.getD i false == false)) ≤ fuel → wpAny P .any ops Q fuel listed b v := by
    intro fuel
    induction fuel with
    | zero =>
      intro listed b v h _ hml hc
      have := List.countP_eq_zero.1 (Nat.le_zero.1 hc) m (List.mem_range.2 hsz)
      rw [hml m (Nat.le_refl _) hsz] at this
      exact absurd rfl this
    | succ fuel ih =>
      intro listed b v h hcl hml hc
      by_cases hall : ∀ i, i < m → listed.getD i false = true
      · have hcount : ops.size - m ≤ fuel + 1 := by
          refine Nat.le_trans ?_ hc
          have e : (List.range ops.size) = List.range m ++ (List.range (ops.size - m)).map (m + ·) := by
            rw [← List.range_add]; congr 1; omega
          rw [e, List.countP_append]
          have : ((List.range (ops.size - m)).map (m + ·)).countP (fun i => listed.getD i false == false) = ops.size - m := by
            rw [List.countP_eq_length.2]
            · simp
            · intro i hi
              obtain ⟨q, hq, rfl⟩ := List.mem_map.1 hi
              have := List.mem_range.1 hq
              rw [hml (m + q) (by omega) (by omega)]
              rfl
          omega
        have hb : b = ⟨((List.range n).map (fun t => b.tmps.getD t undef)).toArray, a.defers⟩ := by
          have hs : b.tmps.size = n := h.size.trans hn
          have e : b.tmps = ((List.range n).map (fun t => b.tmps.getD t undef)).toArray := by
            apply Array.ext
            · simp [hs]
            · intro i h1 h2
              simp [h1]
          rw [← h.defers, ← e]
        have hf := fin (fun t => b.tmps.getD t undef) v h.grow h.frame (fun j d hj hd => h.rel j d (hall j hj) hd)
        rw [← hb] at hf
        have e1 : ops.size - (ops.size - m) = m := by omega
        refine tailAny hok hch (ops.size - m) (fuel + 1) listed b v h.lsize (by omega) (by omega) (fun i hi => ?_) hcount (by rw [e1]; exact hf)
        rw [e1]
        constructor
        · intro h1
          rcases Nat.lt_or_ge i m with h2 | h2
          · exact h2
          · rw [hml i h2 hi] at h1; cases h1
        · exact hall i
      · have lessm : ∀ i, i ∈ Region.ready .any ops listed → i < m := by
          intro i hi
          obtain ⟨h1, h2⟩ := ready_open h.lsize hi
          rcases Nat.lt_trichotomy i m with h3 | h3 | h3
          · exact h3
          · exfalso
            subst h3
            apply hall
            intro j hj
            have h4 := List.all_eq_true.1 hwa j (List.mem_range.2 hj)
            have h5 := ups_in ops (fun x => x = i ∨ listed.getD x false = true) (fun p q hp hd => by
              rcases hp with rfl | hp
              · exact .inr (not_ready_of hi q hd)
              · exact .inr (hcl p q hp hd)) i [i] (fun x hx => .inl (by simpa using hx)) j (by simpa using h4)
            rcases h5 with h5 | h5
            · omega
            · exact h5
          · have h4 := List.all_eq_true.1 hch i (List.mem_range.2 h2)
            simp only [Bool.or_eq_true, decide_eq_true_eq] at h4
            rcases h4 with h4 | h4
            · omega
            · have h5 := not_ready_of hi (i - 1) h4
              rw [hml (i - 1) (by omega) (by omega)] at h5; cases h5
        refine ⟨fun h0 => ?_, fun i hi => ?_⟩
        · exfalso
          apply hall
          intro i
          induction i using Nat.strongRecOn with
          | _ i ih2 =>
            intro hi
            cases hc2 : listed.getD i false with
            | true => rfl
            | false =>
              have := ready_mk hok h.lsize (by omega : i < ops.size) hc2 (fun j hj => ih2 j hj (by omega))
              rw [h0] at this; cases this
        · have him := lessm i hi
          obtain ⟨h2, hlt⟩ := ready_open h.lsize hi
          obtain ⟨h1, o, ho, _⟩ := mem_ready.1 hi
          have hls : i < listed.size := by rw [h.lsize]; exact hlt
          have hdep := not_ready_of hi
          have hcl' : ∀ p j, (listed.setIfInBounds i true).getD p false = true → depOn ops p j = true → (listed.setIfInBounds i true).getD j false = true := by
            intro p j hp hd
            rw [set_get _ _ _ hls] at hp ⊢
            split
            · rfl
            · split at hp
              · rename_i e; subst e; exact hdep j hd
              · exact hcl p j hp hd
          have hml' : ∀ q, m ≤ q → q < ops.size → (listed.setIfInBounds i true).getD q false = false := by
            intro q h3 h4
            rw [set_get _ _ _ hls, if_neg (by omega)]
            exact hml q h3 h4
          have hcnt : (List.range ops.size).countP (fun k => (listed.setIfInBounds i true).getD k false == false) ≤ fuel := by
            have gen : ∀ (l : List Nat), i ∈ l → l.countP (fun k => (listed.setIfInBounds i true).getD k false == false) < l.countP (fun k => listed.getD k false == false) := by
              have le : ∀ (l : List Nat), l.countP (fun k => (listed.setIfInBounds i true).getD k false == false) ≤ l.countP (fun k => listed.getD k false == false) := by
                intro l
                apply List.countP_mono_left
                intro k _ hk
                rw [set_get _ _ _ hls] at hk
                split at hk
                · cases hk
                · exact hk
              intro l hl
              induction l with
              | nil => cases hl
              | cons k l ihl =>
                by_cases e : i = k
                · subst e
                  have := le l
                  have h2' : (listed.getD i false == false) = true := by rw [h2]; rfl
                  rw [List.countP_cons_of_pos (p := fun k => listed.getD k false == false) (by exact h2'), List.countP_cons_of_neg (by simp [hls])]
                  omega
                · have hl' : i ∈ l := by
                    rcases List.mem_cons.1 hl with h | h
                    · exact absurd h e
                    · exact h
                  have := ihl hl'
                  have e2 : (listed.setIfInBounds i true).getD k false = listed.getD k false := by rw [set_get _ _ _ hls, if_neg e]
                  rw [List.countP_cons, List.countP_cons, e2]
                  omega
            have := gen _ (List.mem_range.2 hlt)
            omega
          have hs := step i o him ho (fun t => b.tmps.getD t undef) v h.grow h.frame (fun j d hj hd => h.rel j d (hdep j hj) hd)
          unfold wpOp
          simp only [ho]
          rw [yielded_eqF hok b (h.size.trans hn)]
          split
          · rename_i hw
            rw [if_pos hw] at hs
            refine .inl (Gives.wp ?_)
            unfold Gives at hs ⊢
            generalize (execOp (evF fun t => b.tmps.getD t undef) o).run P v = r at hs
            cases r with
            | ok nx w' =>
              cases nx <;> simp only at hs ⊢
              case value u => exact ih _ _ _ (h.put him ho hok hn ht hmo hs.1 hs.2 hlt) hcl' hml' hcnt
              case skip => exact ih _ _ _ (h.put him ho hok hn ht hmo hs.1 hs.2 hlt) hcl' hml' hcnt
              case enter k args => exact Calls.mono hs fun e w'' ⟨u, he, hg, hR⟩ => ⟨u, he, ih _ _ _ (h.put him ho hok hn ht hmo hg hR hlt) hcl' hml' hcnt⟩
            | halt x w' => exact hs.elim
          · rename_i hw
            rw [if_neg hw] at hs
            exact ih _ _ _ (h.put him ho hok hn ht hmo (hr v) hs hlt) hcl' hml' hcnt
  have none0 : ∀ i, (Array.replicate ops.size false).getD i false = false := by
    intro i
    by_cases h : i < ops.size
    · simp [h]
    · simp [h]
  refine key ops.size _ a _ ⟨hr _, rfl, rfl, by simp, fun t _ => rfl, fun j d hl hd => ?_⟩ (fun i j hi _ => ?_) (fun i _ _ => none0 i) ?_
  · rw [none0] at hl; cases hl
  · rw [none0] at hi; cases hi
  · refine Nat.le_trans List.countP_le_length ?_
    simp
end

theorem AllFrom.outT {Pr : Nat → Oper → Prop} (l : List Oper) (m : Nat) (h : AllFrom Pr 0 (l.take m)) : ∀ i o, i < m → l[i]? = some o → Pr i o := by
  intro i o hi ho
  have h2 : (l.take m)[i]? = some o := by rw [List.getElem?_take, if_pos hi]; exact ho
  have := AllFrom.out _ 0 h i o h2
  rwa [Nat.zero_add] at this
/-- THE LAW, the tail apart: the frame told by the slots that are written. -/
theorem wp_region_rt {P : Program} (n m : Nat) (l : List Rl) (ws : List Nat) {id : Nat} {os : List Oper} {Q : Exit → Act → World → Prop} {a : Act} {w : World} (hm : P.follows .mixedOrders = true) (hn : a.tmps.size = n) (hok : slotsOk os.toArray n = true) (hws : allIn os.toArray ws = true)
    (hsz : m < os.toArray.size) (hwa : waitsAll os.toArray m = true) (hch : chained os.toArray m = true)
    (steps : AllFrom (StpT P os.toArray m a w.drew l) 0 (os.take m))
    (fin : ∀ (f : Nat → Value) (w' : World), Gr w.drew w' → (∀ j d, j < m → dstOf os.toArray j = some d → relOf l j w' (f d)) → wpList P os.toArray Q (os.drop m) ⟨putAll f ws a.tmps, a.defers⟩ w') :
    (Code.region id os.toArray true).wp P Q a w := by
  refine wp_region_rel_tail n m hm hn hok hsz hwa hch Gr (relOf l) Gr.refl Gr.trans (fun j _ _ _ h g => (l.getD j Rl.any).mono h g) (fun i o' hi ho => ?_) (fun f w' g hF hD => ?_)
  · exact AllFrom.outT os m steps i o' hi (by simpa using ho)
  · have e : ((List.range n).map f).toArray = putAll f ws a.tmps := by
      apply Array.ext
      · rw [putAll_size, hn]; simp
      · intro t h1 h2
        have ht : t < n := by simpa using h1
        have h3 := putAll_get f ws a.tmps t (by rw [hn]; exact ht) (by
          by_cases hw : writesTo os.toArray m t = true
          · left
            obtain ⟨j, hj, hd⟩ := List.any_eq_true.1 hw
            have hd := beq_iff_eq.1 hd
            have := List.all_eq_true.1 hws j (List.mem_range.2 (by have := List.mem_range.1 hj; omega))
            rw [hd] at this
            simpa using this
          · right
            exact (hF t (by simpa using hw)).symm)
        have h4 : (putAll f ws a.tmps)[t] = f t := by
          rw [← h3]; simp [h2]
        rw [h4]; simp
    rw [e]
    simpa using fin f w' g hD
/-- A slice of n bytes at a row's head. -/
def Rl.rdb (n : Nat) (bs : List UInt8) : Rl := ⟨fun w v => ∃ g, v = .slice (some ⟨g, 0, none⟩) n n ∧ Rd w (some ⟨g, 0, none⟩) (bs.map bv), fun ⟨g, h, r⟩ hb => ⟨g, h, r.below hb⟩⟩
theorem rdb_lit (w : World) (bs : List UInt8) (n : Nat) (t : TypeId) : (Rl.rdb n bs).R (w.alloc (.cells (bs.map bv).toArray t)) (.slice (some ⟨w.heap.size, 0, none⟩) n n) := ⟨_, rfl, Rd.lit w _ t⟩
end Go.Proofs.Ytcffinkkfdfcaaa

/- What GetHello answers: the Hello that bytes say, or an error. Conditions: bytes that can be read. -/
namespace Go.Proofs.Ytcffinkkfdfcaaa
open Go Go.RowKit

/-- A Hello's eighteen cells. -/
def helC (mx ft : Nat) (l : List UInt8) : List Value := .int .i64 (mx : Int) :: .int .u32 (ft : Int) :: l.map bv
def helV (mx ft : Nat) (l : List UInt8) : Value := .agg (helC mx ft l).toArray
structure Hel where
  mx : Nat
  ft : Nat
  nc : List UInt8
def Hel.val (h : Hel) : Value := helV h.mx h.ft h.nc
theorem keepsP_b {B p : Nat} {w a b : World} (h : Below B w a) (hk : Keeps (fun j => j = p) a b) (hp : B ≤ p) (hz : B ≤ w.heap.size) : Below B w b :=
  h.trans (hk.below (fun k hk => ⟨Nat.lt_of_lt_of_le hk (Nat.le_trans hz h.size), by omega⟩))
def offB (mx : Nat) : Bool := decide (1 ≤ mx ∧ mx ≤ 3)
/-- What bytes say as a Hello: the error; the Hello. -/
def helS1 (bs : List UInt8) : FS := opS bs 3
def helS2 (bs : List UInt8) : FS := byS (helS1 bs) 1
def helS3 (bs : List UInt8) : FS := byS (helS2 bs) 4
def helS4 (bs : List UInt8) : FS := byS (helS3 bs) 16
def helS5 (bs : List UInt8) : FS := badS (helS4 bs) (!offB (oneN (helS1 bs)))
def helE (bs : List UInt8) : Nat := (helS5 bs).err
def helR (bs : List UInt8) : Hel := if helE bs = 0 then ⟨oneN (helS1 bs), fourN (helS2 bs), byB (helS3 bs) 16⟩ else ⟨0, 0, zerB 16⟩
theorem opS_at (bs : List UInt8) (k : Nat) : (opS bs k).at_ = 0 := by unfold opS knS; split <;> rfl
theorem helS1_at (bs : List UInt8) : (helS1 bs).at_ ≤ 100 := by rw [helS1, opS_at]; decide
theorem helS2_at (bs : List UInt8) : (helS2 bs).at_ ≤ 100 := by rw [helS2, byS_at, helS1, opS_at]; decide
theorem helS3_at (bs : List UInt8) : (helS3 bs).at_ ≤ 100 := by rw [helS3, byS_at, helS2, byS_at, helS1, opS_at]; decide
theorem copy_src {w : World} {A : Option Addr} {vs : List Value} (h : Rd w A vs) (hp : 0 < vs.length) : ∃ ad, A = some ad ∧ ∀ j v, vs[j]? = some v → w.cell? (ad.add j) = some v := by
  obtain ⟨b, off, e, _, _⟩ := h.addr hp
  exact ⟨_, e, h.cellsAt _ e⟩
theorem offerMay_c (mx ft : Nat) (w : World) :
    Calls Try.prog 42 #[.agg #[.int .i64 (mx : Int), .int .u32 (ft : Int)]] w fun r w' => r = .returned (.bool (offB mx)) ∧ Below w.heap.size w w' := by
  have kb : Below w.heap.size w (w.alloc (.cells #[.int .i64 (mx : Int), .int .u32 (ft : Int)] 41)) := (Below.refl _ _).alloc (Nat.le_refl _) _
  by_cases h1 : 1 ≤ mx
  · by_cases h3 : mx ≤ 3
    · have e : offB mx = true := decide_eq_true ⟨h1, h3⟩
      rw [e]; clear e
      have d1 : decide ((1 : Int) ≤ (mx : Int)) = true := decide_eq_true (by omega)
      have d3 : decide ((mx : Int) ≤ 3) = true := decide_eq_true (by omega)
      go_enter Try.func42, Try.ntmps42
      go_wp2
      go_ret
      exact ⟨rfl, kb⟩
    · have e : offB mx = false := decide_eq_false (by omega)
      rw [e]; clear e
      have d1 : decide ((1 : Int) ≤ (mx : Int)) = true := decide_eq_true (by omega)
      have d3 : decide ((mx : Int) ≤ 3) = false := decide_eq_false (by omega)
      go_enter Try.func42, Try.ntmps42
      go_wp2
      go_ret
      exact ⟨rfl, kb⟩
  · have e : offB mx = false := decide_eq_false (by omega)
    rw [e]; clear e
    have d1 : decide ((1 : Int) ≤ (mx : Int)) = false := decide_eq_false (by omega)
    go_enter Try.func42, Try.ntmps42
    go_wp2
    go_ret
    exact ⟨rfl, kb⟩
theorem hel_zero : (#[.int .i64 0, .int .u32 0, .int .u8 0, .int .u8 0, .int .u8 0, .int .u8 0, .int .u8 0, .int .u8 0, .int .u8 0, .int .u8 0, .int .u8 0, .int .u8 0, .int .u8 0, .int .u8 0, .int .u8 0, .int .u8 0, .int .u8 0, .int .u8 0] : Array Value) = (helC 0 0 (zerB 16)).toArray := rfl
theorem hel_start (mx ft : Nat) : (#[.int .i64 (mx : Int), .int .u32 (ft : Int), .int .u8 0, .int .u8 0, .int .u8 0, .int .u8 0, .int .u8 0, .int .u8 0, .int .u8 0, .int .u8 0, .int .u8 0, .int .u8 0, .int .u8 0, .int .u8 0, .int .u8 0, .int .u8 0, .int .u8 0, .int .u8 0] : Array Value) = (helC mx ft (zerB 16)).toArray := rfl
theorem hel_splice (mx ft : Nat) (l m : List UInt8) (hl : l.length = 16) (hm : m.length = 16) : splice (helC mx ft m) 2 (l.map bv) = helC mx ft l := by
  unfold splice helC
  simp [hl, hm]
theorem info_hel : (Try.prog.info? 44).map (·.size) = some 18 := by kernel_rfl
theorem hello_results (tmps : Array Value) (g : Nat) (t : TypeId) (cs : Array Value) (fr : Nat × Nat) (y : Int) (h2 : tmps.getD 2 undef = .pointer (some ⟨g, 0, none⟩)) (h3 : tmps.getD 3 undef = .int .i64 y) (w : World) (hg : w.heap[g]? = some (.cells cs t fr)) (hi : (Try.prog.info? 44).map (·.size) = some cs.size) :
    (results Try.f21 tmps).run Try.prog w = .ok (.tuple #[.agg cs, .int .i64 y]) w := by
  have h2' : tmps[2]?.getD undef = .pointer (some ⟨g, 0, none⟩) := by simpa using h2
  have h3' : tmps[3]?.getD undef = .int .i64 y := by simpa using h3
  simp [results, Try.results21, h2', h3', asAddr, run_loadVar_row w g t 44 cs fr _ hg Try.underlying44 rfl hi]
theorem hel_one (mx ft : Nat) (l : List UInt8) : (helC mx ft l).toArray.all (·.oneCell') = true := by
  unfold helC
  simp [Value.oneCell', bv]
set_option maxRecDepth 100000 in
set_option maxHeartbeats 4000000 in
theorem GetHello_c (bs : List UInt8) (A : Option Addr) (n c : Nat) (w : World) (hn : bs.length = n) (hr : Rd w A (bs.map bv)) (hl : n ≤ 140737488355328) :
    Calls Try.prog 21 #[.slice A n c] w fun r w' => r = .returned (.tuple #[(helR bs).val, .int .i64 (helE bs : Int)]) ∧ Below w.heap.size w w' := by
  have HN := Lib.hid hn
  obtain ⟨w1, ew1⟩ : ∃ w1, w1 = w.alloc (.cells #[.int .i64 0, .int .u32 0, .int .u8 0, .int .u8 0, .int .u8 0, .int .u8 0, .int .u8 0, .int .u8 0, .int .u8 0, .int .u8 0, .int .u8 0, .int .u8 0, .int .u8 0, .int .u8 0, .int .u8 0, .int .u8 0, .int .u8 0, .int .u8 0] 44) := ⟨_, rfl⟩
  obtain ⟨gr, egr⟩ : ∃ gr, gr = w.heap.size := ⟨_, rfl⟩
  have b1 : Below w.heap.size w w1 := by rw [ew1]; exact (Below.refl _ _).alloc (Nat.le_refl _) _
  have HG1 : Hid (w1.heap[gr]? = some (.cells (helC 0 0 (zerB 16)).toArray 44 (0, 0))) := Lib.hid (by rw [ew1, egr, ← hel_zero]; exact heap_alloc_new _ _)
  have HR1 := Lib.hid (hr.below b1)
  have HB1 := Lib.hid b1
  have EW1 := Lib.hid ew1
  have EGR := Lib.hid egr
  obtain ⟨E, eE⟩ : ∃ E, helE bs = E := ⟨_, rfl⟩
  obtain ⟨R, eR⟩ : ∃ R, helR bs = R := ⟨_, rfl⟩
  rw [eE, eR]
  have HE := Lib.hid eE
  have HRR := Lib.hid eR
  clear ew1 egr b1 hn hr eE eR
  go_enter Try.func21, Try.ntmps21
  go_upto_region 1 with (fail)
  rw [← EW1.out, ← EGR.out]
  go_wp2_with (fail)
  refine (open_c bs A n c 3 w1 HN.out HR1.out hl (by decide)).mono ?_
  rintro _ w2 ⟨p, A', n', c', rfl, hp, hf, hb⟩
  have HF2 : Hid (Flds w2 p A' n' c' (helS1 bs)) := Lib.hid hf
  have HG2 := Lib.hid ((hb.block gr (heap_lt HG1.out)).trans HG1.out)
  have HB2 := Lib.hid (HB1.out.trans (hb.mono HB1.out.size))
  have HP : Hid (w.heap.size < p ∧ gr ≠ p) := Lib.hid (by have := heap_lt HG1.out; have := EGR.out; omega)
  clear hp hf hb
  go_wp2_with (fail)
  refine (one_c p A' n' c' (helS1 bs) w2 HF2.out (helS1_at bs)).mono ?_
  rintro _ w3 ⟨rfl, hf, hk⟩
  have HF3 : Hid (Flds w3 p A' n' c' (helS2 bs)) := Lib.hid hf
  have HG3 := Lib.hid ((hk.block gr (heap_lt HG2.out) HP.out.2).trans HG2.out)
  have HB3 := Lib.hid (keepsP_b HB2.out hk (Nat.le_of_lt HP.out.1) (Nat.le_refl _))
  clear hf hk HF2 HG2 HB2
  go_wp2_with (fail)
  refine (four_c p A' n' c' (helS2 bs) w3 HF3.out (helS2_at bs)).mono ?_
  rintro _ w4 ⟨rfl, hf, hk⟩
  have HF4 : Hid (Flds w4 p A' n' c' (helS3 bs)) := Lib.hid hf
  have HG4 := Lib.hid ((hk.block gr (heap_lt HG3.out) HP.out.2).trans HG3.out)
  have HB4 := Lib.hid (keepsP_b HB3.out hk (Nat.le_of_lt HP.out.1) (Nat.le_refl _))
  clear hf hk HF3 HG3 HB3
  obtain ⟨M, hM⟩ : ∃ M, oneN (helS1 bs) = M := ⟨_, rfl⟩
  obtain ⟨F, hF⟩ : ∃ F, fourN (helS2 bs) = F := ⟨_, rfl⟩
  rw [hM, hF]
  have HM := Lib.hid hM
  have HFF := Lib.hid hF
  clear hM hF
  obtain ⟨w5, ew5⟩ : ∃ w5, w5 = w4.alloc (.cells #[.int .i64 (M : Int), .int .u32 (F : Int), .int .u8 0, .int .u8 0, .int .u8 0, .int .u8 0, .int .u8 0, .int .u8 0, .int .u8 0, .int .u8 0, .int .u8 0, .int .u8 0, .int .u8 0, .int .u8 0, .int .u8 0, .int .u8 0, .int .u8 0, .int .u8 0] 44) := ⟨_, rfl⟩
  obtain ⟨g5, eg5⟩ : ∃ g5, g5 = w4.heap.size := ⟨_, rfl⟩
  have b5 : Below w4.heap.size w4 w5 := by rw [ew5]; exact (Below.refl _ _).alloc (Nat.le_refl _) _
  have HH5 : Hid (w5.heap[g5]? = some (.cells (helC M F (zerB 16)).toArray 44 (0, 0))) := Lib.hid (by rw [ew5, eg5, ← hel_start]; exact heap_alloc_new _ _)
  have HF5 := Lib.hid (HF4.out.below b5)
  have HG5 := Lib.hid ((b5.block gr (heap_lt HG4.out)).trans HG4.out)
  have HB5 := Lib.hid (HB4.out.trans (b5.mono HB4.out.size))
  have HQ : Hid (gr < g5 ∧ p < g5 ∧ w.heap.size ≤ g5) := Lib.hid (by have := heap_lt HG4.out; have := HF4.out.lt; have := HB4.out.size; omega)
  have EW5 := Lib.hid ew5
  have EG5 := Lib.hid eg5
  have K45 : Hid (Keeps (fun j => j = p) w4 w5) := Lib.hid (Keeps.of_below b5 _ (fun k hk _ => hk))
  obtain ⟨NC, hNC⟩ : ∃ NC, byB (helS3 bs) 16 = NC := ⟨_, rfl⟩
  have HNL : Hid (NC.length = 16) := Lib.hid (by rw [← hNC]; exact byB_len _ _)
  have HNM : Hid ((NC.map bv).length = Nat.min 16 16) := Lib.hid (by rw [List.length_map, HNL.out]; rfl)
  have HFT : Hid (2 + (NC.map bv).length ≤ (helC M F (zerB 16)).length) := Lib.hid (by rw [HNM.out]; simp [helC, zerB])
  have HSP : Hid (splice (helC M F (zerB 16)) 2 (NC.map bv) = helC M F NC) := Lib.hid (hel_splice _ _ _ _ HNL.out (by simp [zerB]))
  have HNC := Lib.hid hNC
  clear ew5 eg5 b5 HG4 HB4 hNC
  go_upto_region 3 with (fail)
  rw [← EW5.out, ← EG5.out]
  go_region_held3 (fun _ => True) (trivial) (first
    | (go_at_call 50; refine (bytes_c p A' n' c' (helS3 bs) 16 (by decide) w5.drew (HF5.out.drewN 1) (helS3_at bs)).mono ?_; rintro _ w6 ⟨Ab, cb, rfl, ht, hf, hk⟩; have hk6 := ((Keeps.refl (fun j => j = p) w5).drewN 1).trans hk; have K46 := Lib.hid (K45.out.trans hk6); have HP6 := Lib.hid hf.blk; have HG6 := Lib.hid ((hk6.block gr (heap_lt HG5.out) HP.out.2).trans HG5.out); have HB6 := Lib.hid (keepsP_b HB5.out hk6 (Nat.le_of_lt HP.out.1) (Nat.le_refl _)); have HH6 := Lib.hid ((hk6.block g5 (heap_lt HH5.out) (by have := HQ.out; omega)).trans HH5.out); have RB6 : Hid (Rd w6 Ab (NC.map bv)) := Lib.hid (by rw [← HNC.out]; exact ht.r.2.1); clear ht hf hk hk6)
    | (refine step_copy_splice rfl (.tmp 15) (.tmp 17) 25 25 rfl 5 Try.underlying25 (by kernel_rfl) _ _ 16 16 16 cb rfl rfl g5 2 (helC M F (zerB 16)) 44 HH6.out (NC.map bv) HNM.out (fun hp => ⟨rfl, copy_src RB6.out hp⟩) HFT.out (bv_one _) g5 w6 (Below.refl _ _) (Nat.le_refl _) ?_; rw [HSP.out]; intro w7 hg7 hb7; have HB67 := Lib.hid hb7; clear hb7))
  have hg7' := hg7.out
  have a0 : w7.cell? ⟨g5, 0, none⟩ = some (.int .i64 (M : Int)) := (heap_cell hg7' 0).trans rfl
  have a1 : w7.cell? ⟨g5, 1, none⟩ = some (.int .u32 (F : Int)) := (heap_cell hg7' 1).trans rfl
  have HH7 := Lib.hid hg7'
  have k67 : Keeps (fun j => w4.heap.size ≤ j) w6 w7 := Keeps.of_below HB67.out _ (fun k _ hk => by rw [EG5.out]; omega)
  have HF7 : Hid (Flds w7 p A' n' c' (helS4 bs)) := Lib.hid (HF4.out.next (K46.out.over k67) (by show (byS (helS3 bs) 16).l = _; rw [byS_l]) (by show (byS (helS3 bs) 16).at_ ≤ 1000; rw [byS_at]; have := helS3_at bs; omega) ((HB67.out.block p (by have := HQ.out; omega)).trans HP6.out))
  have HG7 := Lib.hid ((HB67.out.block gr (by have := HQ.out; omega)).trans HG6.out)
  have HB7 := Lib.hid (HB6.out.trans (HB67.out.mono HQ.out.2.2))
  clear hg7 hg7' HB67 k67 K46 K45 HF4 HP6 HG6 HB6 HH6 RB6 HF5 HG5 HB5 HH5 HNM HFT HSP HNL
  go_wp2_with (fail)
  refine (offerMay_c M F w7).mono ?_
  rintro _ w8 ⟨rfl, hb8⟩
  have HF8 := Lib.hid (HF7.out.below hb8)
  have HG8 := Lib.hid ((hb8.block gr (heap_lt HG7.out)).trans HG7.out)
  have HH8 := Lib.hid ((hb8.block g5 (heap_lt HH7.out)).trans HH7.out)
  have HB8 := Lib.hid (HB7.out.trans (hb8.mono HB7.out.size))
  obtain ⟨O, hO⟩ : ∃ O, offB M = O := ⟨_, rfl⟩
  rw [hO]
  have HO := Lib.hid hO
  clear hb8 hO a0 a1 HF7 HG7 HH7 HB7
  go_wp2_with (fail)
  refine (bad_c p A' n' c' (helS4 bs) (!O) w8 HF8.out).mono ?_
  rintro _ w9 ⟨rfl, hf9, hk9, -⟩
  have hb9 : (badS (helS4 bs) (!O)).err = E := by rw [← HE.out]; unfold helE helS5; rw [HM.out, HO.out]
  obtain ⟨⟨c0, c1, c2⟩, -⟩ := three_of hf9.blk
  rw [hb9] at c2
  have HG9 := Lib.hid ((hk9.block gr (heap_lt HG8.out) HP.out.2).trans HG8.out)
  have HH9 := Lib.hid ((hk9.block g5 (heap_lt HH8.out) (by have := HQ.out; omega)).trans HH8.out)
  have HB9 := Lib.hid (keepsP_b HB8.out hk9 (Nat.le_of_lt HP.out.1) (Nat.le_refl _))
  have hpw : p < w9.drew.heap.size := hf9.lt
  clear hf9 hk9 hb9 HF8 HG8 HH8 HB8
  have HSZ : Hid (some 18 = some (helC M F NC).toArray.size) := Lib.hid (by rw [← HNC.out]; simp [helC, byB_len])
  have HSZ2 : Hid ((helC 0 0 (zerB 16)).toArray.size = (helC M F NC).toArray.size) := Lib.hid (by rw [← HNC.out]; simp [helC, byB_len, zerB])
  by_cases h0 : E = 0
  · have d0 : ((E : Int) != 0) = false := by rw [h0]; rfl
    have eR : R = ⟨M, F, NC⟩ := by rw [← HRR.out]; unfold helR; rw [if_pos (HE.out.trans h0), HM.out, HFF.out, HNC.out]
    have ER := Lib.hid eR
    have E0 := Lib.hid h0
    clear eR h0 hpw
    go_wp2_with (first
      | (refine wpList_load_row rfl 44 (.tmp 5) rfl g5 rfl 44 _ (0, 0) _ HH9.out Try.underlying44 rfl (info_hel.trans HSZ.out) ?_)
      | (refine wpList_store_row rfl 44 (.tmp 2) (.tmp 35) rfl gr (helC M F NC).toArray rfl rfl 44 _ HG9.out (info_hel.trans HSZ.out) HSZ2.out (hel_one _ _ _) ?_))
    have HBF := Lib.hid (below_setRow (g := gr) HB9.out (Nat.le_of_eq EGR.out.symm) (helC M F NC).toArray)
    refine bodyPost_ret (v := .tuple #[.agg (helC M F NC).toArray, .int .i64 0]) (hello_results _ gr 44 _ (0, 0) 0 rfl rfl _ (setRow_heap w9 gr _ _ _ _ HG9.out) (info_hel.trans HSZ.out)) rfl ?_
    rw [ER.out, E0.out]
    exact ⟨rfl, HBF.out⟩
  · have d0 : ((E : Int) != 0) = true := by rw [bne_iff_ne]; omega
    have eR : R = ⟨0, 0, zerB 16⟩ := by rw [← HRR.out]; unfold helR; rw [if_neg (by rw [HE.out]; exact h0)]
    have ER := Lib.hid eR
    clear eR h0
    go_upto_region 6 with (fail)
    have HNE : Hid (p ≠ gr) := Lib.hid (Ne.symm HP.out.2)
    refine wp_region_rv 36 (Zg gr (.cells ((helC 0 0 (zerB 16)).toArray) 44 (0, 0))) [helV 0 0 (zerB 16), .pointer (some ⟨p, 0, none⟩), .pointer (some ⟨p, 0, none⟩), .pointer (some ⟨p, 2, none⟩), .int .i64 (E : Int), undef, .int .i64 (E : Int)] [30, 31, 32, 33, 34, 3] (by kernel_rfl) rfl (by kernel_rfl) (by kernel_rfl) (Zg.refl _ _) Zg.trans ?_ ?_
    · repeat (first | exact AllFrom.nil_ | (refine AllFrom.cons_ (by rfl) ?_ ?_; rotate_left))
      · intro f w' g hF hD
        rw [if_pos (wanted_none rfl)]
        clear hF hD
        exact gives_build 44 #[] rfl ((helC 0 0 (zerB 16)).toArray) (by kernel_rfl) ⟨Zg.refl _ _ _, rfl⟩
      · intro f w' g hF hD
        have h4 : f 4 = .pointer (some ⟨p, 0, none⟩) := hF 4 (by kernel_rfl)
        rw [if_pos (wanted_none rfl)]
        clear hF hD
        exact gives_val (by simp only [execOp, evF, h4]; first | rfl | go_simp) ⟨Zg.refl _ _ _, rfl⟩
      · intro f w' g hF hD
        have h31 : f 31 = .pointer (some ⟨p, 0, none⟩) := hD 1 31 (by kernel_rfl) rfl
        rw [if_pos (wanted_none rfl)]
        clear hF hD
        exact gives_val (by simp only [execOp, evF, h31]; first | rfl | go_simp) ⟨Zg.refl _ _ _, rfl⟩
      · intro f w' g hF hD
        have h32 : f 32 = .pointer (some ⟨p, 0, none⟩) := hD 2 32 (by kernel_rfl) rfl
        rw [if_pos (wanted_none rfl)]
        clear hF hD
        exact gives_val (by simp only [execOp, evF, h32]; first | rfl | go_simp) ⟨Zg.refl _ _ _, rfl⟩
      · intro f w' g hF hD
        have h33 : f 33 = .pointer (some ⟨p, 2, none⟩) := hD 3 33 (by kernel_rfl) rfl
        rw [if_pos (wanted_none rfl)]
        clear hF hD
        have cl := g.cell (p := p) (i := 2) HNE.out hpw c2
        exact gives_val (by simp only [execOp, evF, h33]; go_simp) ⟨Zg.refl _ _ _, rfl⟩
      · intro f w' g hF hD
        have h2 : f 2 = .pointer (some ⟨gr, 0, none⟩) := hF 2 (by kernel_rfl)
        have h30 : f 30 = helV 0 0 (zerB 16) := hD 0 30 (by kernel_rfl) rfl
        rw [if_pos (wanted_none rfl)]
        clear hF hD
        exact gives_store_row 44 (.tmp 2) (.tmp 30) rfl gr ((helC 0 0 (zerB 16)).toArray) (by simp only [evF, h2]) (by simp only [evF, h30]; rfl) 44 ((helC 0 0 (zerB 16)).toArray) (g.2 HG9.out) (info_hel.trans rfl) rfl (hel_one _ _ _) ⟨Zg.row (g.2 HG9.out), rfl⟩
      · intro f w' g hF hD
        have h34 : f 34 = .int .i64 (E : Int) := hD 4 34 (by kernel_rfl) rfl
        rw [if_pos (wanted_none rfl)]
        clear hF hD
        exact gives_val (by simp only [execOp, evF, h34]; first | rfl | go_simp) ⟨Zg.refl _ _ _, rfl⟩
    intro f' w10 g hD
    have h30 : f' 30 = helV 0 0 (zerB 16) := hD 0 30 rfl
    have h31 : f' 31 = .pointer (some ⟨p, 0, none⟩) := hD 1 31 rfl
    have h32 : f' 32 = .pointer (some ⟨p, 0, none⟩) := hD 2 32 rfl
    have h33 : f' 33 = .pointer (some ⟨p, 2, none⟩) := hD 3 33 rfl
    have h34 : f' 34 = .int .i64 (E : Int) := hD 4 34 rfl
    have h3 : f' 3 = .int .i64 (E : Int) := hD 6 3 rfl
    simp only [putAll, List.setIfInBounds_toArray, List.set_cons_zero, List.set_cons_succ, h30, h31, h32, h33, h34, h3]
    have HG10 := Lib.hid (g.2 HG9.out)
    have HB10 := Lib.hid ((below_drewN HB9.out 1).trans (g.1.below (fun k hk => ⟨Nat.lt_of_lt_of_le hk HB9.out.size, by have := EGR.out; omega⟩)))
    clear hD g c0 c1 c2 hpw h30 h31 h32 h33 h34 h3
    go_wp2_with (fail)
    refine bodyPost_ret (v := .tuple #[.agg (helC 0 0 (zerB 16)).toArray, .int .i64 (E : Int)]) (hello_results _ gr 44 _ (0, 0) (E : Int) rfl rfl _ HG10.out (info_hel.trans rfl)) rfl ?_
    rw [ER.out]
    exact ⟨rfl, HB10.out⟩
end Go.Proofs.Ytcffinkkfdfcaaa
