/- Parts one behind the other: A region that draws its order, by a relation for each operation: what each yields is told by a relation that stays true as the world grows; then whatever the order, all relations hold at the end; The walk of the law TlvUnknown: it returns true. Conditions: as told at each. -/
import Derived.Test.YtgnciejbhaebeaaPTlvUnknown1
import Derived.Test.YtgnciejbhaebeaaPTlvUnknown7
import Derived.Deep.RegionHeld3

/- A region that draws its order, by a relation for each operation: what each yields is told by a relation that stays true as the world grows; then whatever the order, all relations hold at the end. No order is gone through. Conditions: each slot is written once; no operation panics. -/
namespace Go.Proofs.Ytgnciejbhaebeaa
open Go Go.RowKit

/-- What an operand is, the slots told by f. -/
def evF (f : Nat → Value) : Operand → Value
  | .tmp t => f t
  | .const v => v
  | .global g => .pointer (some ⟨g, 0, none⟩)
  | .func k => .func (.func k) #[] #[]
theorem evF_eval (a : Act) : a.eval = evF (fun t => a.tmps.getD t undef) := by
  funext x
  cases x <;> rfl
/-- What an operation yields, and the world behind it; it does not panic. -/
def Gives (P : Program) (o : Oper) (f : Nat → Value) (w : World) (K : Value → World → Prop) : Prop :=
  match (execOp (evF f) o).run P w with
  | .ok (.value v) w' => K v w'
  | .ok .skip w' => K undef w'
  | .ok (.enter k args) w' => Calls P k args w' fun e w'' => ∃ v, e = .returned v ∧ K v w''
  | _ => False
theorem Gives.wp {P : Program} {o : Oper} {a : Act} {w : World} {K : Act → World → Prop} {Q : Exit → Act → World → Prop}
    (h : Gives P o (fun t => a.tmps.getD t undef) w (fun v w' => K (a.put o.dst v) w')) : Oper.wp P o a w K Q := by
  unfold Gives at h
  rw [← evF_eval] at h
  unfold Oper.wp
  generalize (execOp a.eval o).run P w = r at h
  cases r with
  | ok n w' =>
    cases n <;> simp only [Oper.upon] at h ⊢
    case value v => exact h
    case skip => exact h
    case enter k args => exact Calls.mono h fun e w'' ⟨v, he, hk⟩ => by subst he; exact hk
    all_goals exact h.elim
  | halt x w' => exact h.elim

def dstOf (ops : Array Oper) (i : Nat) : Option Tmp := (ops[i]?).bind (·.dst)
/-- Which value a guard's operation has yielded. -/
def yieldedF (ops : Array Oper) (f : Nat → Value) (j : Nat) : Option Bool :=
  match dstOf ops j with
  | some d => (match f d with | .bool b => some b | _ => none)
  | none => none
/-- Each slot is written once, and is there. -/
def slotsOk (ops : Array Oper) (n : Nat) : Bool :=
  (List.range ops.size).all fun i => (match dstOf ops i with
    | some d => decide (d < n) && (List.range ops.size).all (fun j => i == j || dstOf ops j != some d)
    | none => true) && (match ops[i]? with | some o => o.after.all (fun e => !Region.binds .any e || decide (e.on < i)) | none => true)
def depOn (ops : Array Oper) (i j : Nat) : Bool := match ops[i]? with | some o => o.after.any (fun e => Region.binds .any e && e.on == j) | none => false
def writes (ops : Array Oper) (t : Nat) : Bool := (List.range ops.size).any (fun j => dstOf ops j == some t)

section
variable {P : Program} {ops : Array Oper} {G : World → World → Prop} {R : Nat → World → Value → Prop} {a0 : Act} {W0 : World}

structure RInv (ops : Array Oper) (G : World → World → Prop) (R : Nat → World → Value → Prop) (a0 : Act) (W0 : World) (listed : Array Bool) (a : Act) (w : World) : Prop where
  grow : G W0 w
  defers : a.defers = a0.defers
  size : a.tmps.size = a0.tmps.size
  lsize : listed.size = ops.size
  frame : ∀ t, writes ops t = false → a.tmps.getD t undef = a0.tmps.getD t undef
  rel : ∀ j d, listed.getD j false = true → dstOf ops j = some d → R j w (a.tmps.getD d undef)

theorem dstOf_lt {i : Nat} {d : Tmp} (h : dstOf ops i = some d) : i < ops.size := by
  unfold dstOf at h
  rcases Nat.lt_or_ge i ops.size with hi | hi
  · exact hi
  · rw [Array.getElem?_eq_none hi] at h; cases h
theorem slotsOk_lt {n : Nat} (h : slotsOk ops n = true) {i : Nat} {d : Tmp} (hd : dstOf ops i = some d) : d < n := by
  have h1 := List.all_eq_true.1 h i (List.mem_range.2 (dstOf_lt hd))
  rw [hd] at h1
  simp only [Bool.and_eq_true, decide_eq_true_eq] at h1
  exact h1.1.1
theorem slotsOk_ne {n : Nat} (h : slotsOk ops n = true) {i j : Nat} {d : Tmp} (hd : dstOf ops i = some d) (hj : dstOf ops j = some d) : i = j := by
  have h1 := List.all_eq_true.1 h i (List.mem_range.2 (dstOf_lt hd))
  rw [hd] at h1
  simp only [Bool.and_eq_true, decide_eq_true_eq] at h1
  have h2 := List.all_eq_true.1 h1.1.2 j (List.mem_range.2 (dstOf_lt hj))
  simp only [Bool.or_eq_true, beq_iff_eq, bne_iff_ne] at h2
  rcases h2 with h2 | h2
  · exact h2
  · exact absurd hj h2
theorem slotsOk_back {n : Nat} (h : slotsOk ops n = true) {i : Nat} {o : Oper} (ho : ops[i]? = some o) (e : Edge) (he : e ∈ o.after) (hb : Region.binds .any e = true) : e.on < i := by
  have hi : i < ops.size := (Array.getElem?_eq_some_iff.1 ho).1
  have h1 := List.all_eq_true.1 h i (List.mem_range.2 hi)
  rw [ho] at h1
  simp only [Bool.and_eq_true] at h1
  have h2 := Array.all_eq_true_iff_forall_mem.1 h1.2 e he
  simpa [hb] using h2
theorem writes_of {j : Nat} {d : Tmp} (h : dstOf ops j = some d) : writes ops d = true :=
  List.any_eq_true.2 ⟨j, List.mem_range.2 (dstOf_lt h), by rw [h]; exact beq_self_eq_true _⟩
theorem yielded_eqF {n : Nat} (h : slotsOk ops n = true) (a : Act) (hs : a.tmps.size = n) : yielded ops a.tmps = yieldedF ops (fun t => a.tmps.getD t undef) := by
  funext j
  unfold yielded yieldedF
  show (match (dstOf ops j).bind (a.tmps[·]?) with | some (.bool b) => some b | _ => none) = _
  cases hd : dstOf ops j with
  | none => rfl
  | some d =>
    have hlt := slotsOk_lt h hd
    have e : a.tmps[d]? = some (a.tmps.getD d undef) := by
      rw [← hs] at hlt
      simp [hlt]
    simp only [Option.bind_some, e]
    generalize a.tmps.getD d undef = u
    cases u <;> rfl

theorem RInv.put {listed : Array Bool} {a : Act} {w w' : World} {i : Nat} {o : Oper} {v : Value} {n : Nat} (ho : ops[i]? = some o) (hok : slotsOk ops n = true) (hn : a0.tmps.size = n) (h : RInv ops G R a0 W0 listed a w)
    (ht : ∀ {a b c}, G a b → G b c → G a c) (hm : ∀ j {a b v}, R j a v → G a b → R j b v) (hg : G w w') (hr : R i w' v) (hi : i < ops.size) : RInv ops G R a0 W0 (listed.setIfInBounds i true) (a.put o.dst v) w' := by
  have hdo : dstOf ops i = o.dst := by unfold dstOf; rw [ho]; rfl
  have get : ∀ t, (a.put o.dst v).tmps.getD t undef = if o.dst = some t ∧ t < n then v else a.tmps.getD t undef := by
    intro t
    unfold Act.put
    cases hd : o.dst with
    | none => simp
    | some d =>
      by_cases e : d = t
      · subst e
        have hlt : d < n := slotsOk_lt hok (hdo.trans hd)
        have hlt2 : d < a.tmps.size := by rw [h.size, hn]; exact hlt
        simp [hlt, hlt2]
      · simp [e, Array.getElem?_setIfInBounds_ne e]
  refine ⟨ht h.grow hg, ?_, ?_, by simp [h.lsize], fun t hw => ?_, fun j d hl hd => ?_⟩
  · rw [← h.defers]; unfold Act.put; cases o.dst <;> rfl
  · rw [← h.size]; unfold Act.put; cases o.dst <;> simp
  · rw [get, if_neg, h.frame t hw]
    rintro ⟨e, _⟩
    have := writes_of (hdo.trans e)
    rw [hw] at this; cases this
  · rw [get]
    by_cases hji : j = i
    · subst hji
      rw [if_pos ⟨hdo.symm.trans hd, slotsOk_lt hok hd⟩]
      exact hr
    · rw [if_neg]
      · refine hm j (h.rel j d ?_ hd) hg
        rw [← hl]
        simp [Array.getElem?_setIfInBounds_ne (Ne.symm hji)]
      · rintro ⟨e, _⟩
        exact hji (slotsOk_ne hok hd (hdo.trans e))

/-- THE LAW. -/
theorem wp_region_rel (n : Nat) {id : Nat} {Q : Exit → Act → World → Prop} {a : Act} {w : World} (hm : P.follows .mixedOrders = true) (hn : a.tmps.size = n) (hok : slotsOk ops n = true)
    (G : World → World → Prop) (R : Nat → World → Value → Prop) (hr : ∀ w, G w w) (ht : ∀ {a b c}, G a b → G b c → G a c) (hmo : ∀ j {a b v}, R j a v → G a b → R j b v)
    (step : ∀ (i : Nat) (o : Oper), ops[i]? = some o → ∀ (f : Nat → Value) (w' : World), G w.drew w' → (∀ t, writes ops t = false → f t = a.tmps.getD t undef) →
      (∀ j d, depOn ops i j = true → dstOf ops j = some d → R j w' (f d)) → if Region.wanted o (yieldedF ops f) = true then Gives P o f w' (fun v w'' => G w' w'' ∧ R i w'' v) else R i w' undef)
    (fin : ∀ (f : Nat → Value) (w' : World), G w.drew w' → (∀ t, writes ops t = false → f t = a.tmps.getD t undef) → (∀ j d, dstOf ops j = some d → R j w' (f d)) → Q .normal ⟨((List.range n).map f).toArray, a.defers⟩ w') :
    (Code.region id ops true).wp P Q a w := by
  refine wp_region_any hm ?_
  have key : ∀ (fuel : Nat) (listed : Array Bool) (b : Act) (v : World), RInv ops G R a w.drew listed b v → ((List.range ops.size).countP (fun i => listed.getD i false == false)) ≤ fuel → wpAny P .any ops Q fuel listed b v := by
    intro fuel
    have done : ∀ (listed : Array Bool) (b : Act) (v : World), RInv ops G R a w.drew listed b v → Region.ready .any ops listed = [] → Q .normal b v := by
      intro listed b v h h0
      have all : ∀ i, i < ops.size → listed.getD i false = true := by
        intro i
        induction i using Nat.strongRecOn with
        | _ i ih =>
          intro hi
          cases hc : listed.getD i false with
          | true => rfl
          | false =>
            have hmem : i ∈ Region.ready .any ops listed := by
              refine mem_ready.2 ⟨?_, ops[i], by simp [hi], fun e he hb => ?_⟩
              · have : i < listed.size := by rw [h.lsize]; exact hi
                simp [this] at hc ⊢
                exact hc
              · have hlt := slotsOk_back hok (i := i) (o := ops[i]) (by simp [hi]) e he hb
                exact ih e.on hlt (by omega)
            rw [h0] at hmem; cases hmem
      have hb : b = ⟨((List.range n).map (fun t => b.tmps.getD t undef)).toArray, a.defers⟩ := by
        have hs : b.tmps.size = n := h.size.trans hn
        have e : b.tmps = ((List.range n).map (fun t => b.tmps.getD t undef)).toArray := by
          apply Array.ext
          · simp [hs]
          · intro i h1 h2
            simp [h1]
        rw [← h.defers, ← e]
      rw [hb]
      exact fin (fun t => b.tmps.getD t undef) v h.grow h.frame (fun j d hd => h.rel j d (all j (dstOf_lt hd)) hd)
    induction fuel with
    | zero =>
      intro listed b v h hc
      have h0 : Region.ready .any ops listed = [] := by
        apply List.eq_nil_iff_forall_not_mem.2
        intro i hi
        obtain ⟨h1, o, ho, _⟩ := mem_ready.1 hi
        have hlt : i < ops.size := (Array.getElem?_eq_some_iff.1 ho).1
        have h2 : listed.getD i false = false := by
          have : i < listed.size := by rw [h.lsize]; exact hlt
          simp [this] at h1 ⊢
          exact h1
        have := List.countP_eq_zero.1 (Nat.le_zero.1 hc) i (List.mem_range.2 hlt)
        rw [h2] at this
        exact this rfl
      exact ⟨h0, done listed b v h h0⟩
    | succ fuel ih =>
      intro listed b v h hc
      refine ⟨fun h0 => done listed b v h h0, fun i hi => ?_⟩
      obtain ⟨h1, o, ho, hall⟩ := mem_ready.1 hi
      have hlt : i < ops.size := (Array.getElem?_eq_some_iff.1 ho).1
      have hls : i < listed.size := by rw [h.lsize]; exact hlt
      have h2 : listed.getD i false = false := by
        simp [hls] at h1 ⊢
        exact h1
      have hcnt : (List.range ops.size).countP (fun k => (listed.setIfInBounds i true).getD k false == false) ≤ fuel := by
        have hsub : (List.range ops.size).countP (fun k => (listed.setIfInBounds i true).getD k false == false) < (List.range ops.size).countP (fun k => listed.getD k false == false) := by
          have gen : ∀ (l : List Nat), i ∈ l → l.countP (fun k => (listed.setIfInBounds i true).getD k false == false) < l.countP (fun k => listed.getD k false == false) := by
            have le : ∀ (l : List Nat), l.countP (fun k => (listed.setIfInBounds i true).getD k false == false) ≤ l.countP (fun k => listed.getD k false == false) := by
              intro l
              apply List.countP_mono_left
              intro k _ hk
              by_cases e : i = k
              · subst e; simp [hls] at hk
              · simpa [Array.getElem?_setIfInBounds_ne e] using hk
            intro l hl
            induction l with
            | nil => cases hl
            | cons k l ihl =>
              by_cases e : i = k
              · subst e
                have := le l
                have h2' : (listed.getD i false == false) = true := by rw [h2]; rfl
                rw [List.countP_cons_of_pos (p := fun k => listed.getD k false == false) (by exact h2'), List.countP_cons_of_neg (by simp [hls])]
                omega
              · have hl' : i ∈ l := by
                  rcases List.mem_cons.1 hl with h | h
                  · exact absurd h e
                  · exact h
                have := ihl hl'
                have e2 : (listed.setIfInBounds i true).getD k false = listed.getD k false := by simp [Array.getElem?_setIfInBounds_ne e]
                rw [List.countP_cons, List.countP_cons, e2]
                omega
          exact gen _ (List.mem_range.2 hlt)
        omega
      have hs := step i o ho (fun t => b.tmps.getD t undef) v h.grow h.frame (fun j d hj hd => by
        unfold depOn at hj
        rw [ho] at hj
        obtain ⟨q, hq, hb⟩ := Array.any_eq_true.1 hj
        have he : o.after[q] ∈ o.after := Array.getElem_mem hq
        generalize o.after[q] = e at he hb
        simp only [Bool.and_eq_true, beq_iff_eq] at hb
        have := hall e he hb.1
        rw [hb.2] at this
        exact h.rel j d this hd)
      unfold wpOp
      simp only [ho]
      rw [yielded_eqF hok b (h.size.trans hn)]
      split
      · rename_i hw
        rw [if_pos hw] at hs
        refine .inl (Gives.wp ?_)
        unfold Gives at hs ⊢
        generalize (execOp (evF fun t => b.tmps.getD t undef) o).run P v = r at hs
        cases r with
        | ok nx w' =>
          cases nx <;> simp only at hs ⊢
          case value u => exact ih _ _ _ (h.put ho hok hn ht hmo hs.1 hs.2 hlt) hcnt
          case skip => exact ih _ _ _ (h.put ho hok hn ht hmo hs.1 hs.2 hlt) hcnt
          case enter k args => exact Calls.mono hs fun e w'' ⟨u, he, hg, hR⟩ => ⟨u, he, ih _ _ _ (h.put ho hok hn ht hmo hg hR hlt) hcnt⟩
        | halt x w' => exact hs.elim
      · rename_i hw
        rw [if_neg hw] at hs
        exact ih _ _ _ (h.put ho hok hn ht hmo (hr v) hs hlt) hcnt
  refine key ops.size _ a _ ⟨hr _, rfl, rfl, by simp, fun t _ => rfl, fun j d hl hd => ?_⟩ ?_
  · have := dstOf_lt hd
    simp [this] at hl
  · refine Nat.le_trans List.countP_le_length ?_
    simp
end

/-! ### The relations as a list; the steps one by one -/
/-- A relation that stays true as the world grows. -/
structure Rl where
  R : World → Value → Prop
  mono : ∀ {a b : World} {v : Value}, R a v → Below a.heap.size a b → R b v
def Rl.eq (u : Value) : Rl := ⟨fun _ v => v = u, fun h _ => h⟩
def Rl.any : Rl := ⟨fun _ _ => True, fun h _ => h⟩
def relOf (l : List Rl) (i : Nat) : World → Value → Prop := (l.getD i Rl.any).R
def Gr (a b : World) : Prop := Below a.heap.size a b
theorem Gr.refl (a : World) : Gr a a := Below.refl _ _
theorem Gr.trans {a b c : World} (h : Gr a b) (k : Gr b c) : Gr a c := Below.trans h (Below.mono k h.size)
/-- Of each operation of the list, from number k on. -/
def AllFrom (Pr : Nat → Oper → Prop) : Nat → List Oper → Prop
  | _, [] => True
  | k, o :: l => Pr k o ∧ AllFrom Pr (k + 1) l
theorem AllFrom.nil_ {Pr : Nat → Oper → Prop} {k : Nat} : AllFrom Pr k [] := trivial
theorem AllFrom.cons_ {Pr : Nat → Oper → Prop} {k k' : Nat} {o : Oper} {l : List Oper} (hk : k' = k + 1) (h : Pr k o) (t : AllFrom Pr k' l) : AllFrom Pr k (o :: l) := by
  subst hk; exact ⟨h, t⟩
theorem AllFrom.out {Pr : Nat → Oper → Prop} : ∀ (l : List Oper) (k : Nat), AllFrom Pr k l → ∀ i o, l[i]? = some o → Pr (k + i) o
  | [], _, _, i, o, h => by simp at h
  | x :: l, k, h, 0, o, ho => by
    simp at ho; subst ho; exact h.1
  | x :: l, k, h, i + 1, o, ho => by
    have := AllFrom.out l (k + 1) h.2 i o (by simpa using ho)
    rwa [Nat.add_assoc, Nat.add_comm 1 i] at this
/-- One operation's step. -/
def Stp (P : Program) (ops : Array Oper) (a : Act) (W : World) (l : List Rl) (i : Nat) (o : Oper) : Prop :=
  ∀ (f : Nat → Value) (w : World), Gr W w → (∀ t, writes ops t = false → f t = a.tmps.getD t undef) →
      (∀ j d, depOn ops i j = true → dstOf ops j = some d → relOf l j w (f d)) → if Region.wanted o (yieldedF ops f) = true then Gives P o f w (fun v w'' => Gr w w'' ∧ relOf l i w'' v) else relOf l i w undef
theorem wp_region_rl {P : Program} (n : Nat) (l : List Rl) {id : Nat} {os : List Oper} {Q : Exit → Act → World → Prop} {a : Act} {w : World} (hm : P.follows .mixedOrders = true) (hn : a.tmps.size = n) (hok : slotsOk os.toArray n = true)
    (steps : AllFrom (Stp P os.toArray a w.drew l) 0 os)
    (fin : ∀ (f : Nat → Value) (w' : World), Gr w.drew w' → (∀ t, writes os.toArray t = false → f t = a.tmps.getD t undef) → (∀ j d, dstOf os.toArray j = some d → relOf l j w' (f d)) → Q .normal ⟨((List.range n).map f).toArray, a.defers⟩ w') :
    (Code.region id os.toArray true).wp P Q a w := by
  refine wp_region_rel n hm hn hok Gr (relOf l) Gr.refl Gr.trans (fun j _ _ _ h g => (l.getD j Rl.any).mono h g) (fun i o ho => ?_) fin
  have := AllFrom.out os 0 steps i o (by simpa using ho)
  rw [Nat.zero_add] at this
  exact this
theorem wanted_none {o : Oper} {y : Nat → Option Bool} (h : o.guard = none) : Region.wanted o y = true := by unfold Region.wanted; rw [h]
theorem wanted_some {ops : Array Oper} {o : Oper} {f : Nat → Value} {j : Nat} {b : Bool} {d : Tmp} (h : o.guard = some (j, b)) (hd : dstOf ops j = some d) (hf : f d = .bool b) : Region.wanted o (yieldedF ops f) = true := by
  unfold Region.wanted yieldedF; rw [h]; simp only [hd, hf, beq_self_eq_true]
theorem gives_val {P : Program} {o : Oper} {f : Nat → Value} {w w' : World} {v : Value} {K : Value → World → Prop} (h : (execOp (evF f) o).run P w = .ok (.value v) w') (hK : K v w') : Gives P o f w K := by
  unfold Gives; rw [h]; exact hK
theorem gives_call {P : Program} {o : Oper} {f : Nat → Value} {w w' : World} {k : FuncId} {args : Array Value} {K : Value → World → Prop} (h : (execOp (evF f) o).run P w = .ok (.enter k args) w') (hK : Calls P k args w' fun e w'' => ∃ v, e = .returned v ∧ K v w'') : Gives P o f w K := by
  unfold Gives; rw [h]; exact hK
/-- A call of a Go function with a body. -/
theorem gives_func {P : Program} {o : Oper} {f : Nat → Value} {w : World} {k : FuncId} {xs : Array Operand} {ats : Array TypeId} {fn : Func} {c : Code} {K : Value → World → Prop} (ho : o.op = .call { callee := .value (.func k), args := xs, argTypes := ats })
    (hf : P.funcs[k]? = some fn) (hname : (fn.name == "runtime.NumGoroutine") = false) (hb : fn.body = some c) {args : Array Value} (ha : xs.map (evF f) = args)
    (hK : Calls P k args w fun e w'' => ∃ v, e = .returned v ∧ K v w'') : Gives P o f w K := by
  subst ha
  refine gives_call (k := k) ?_ hK
  have h1 : fn.name ≠ "runtime.NumGoroutine" := by simpa using hname
  have e : execOp (evF f) o = callFunc k (#[] ++ xs.map (evF f) ++ #[]) := by
    unfold execOp; rw [ho]; rfl
  rw [e]
  simp [callFunc, hf, h1, hb]
/-- The slots of ws are written among these. -/
def putAll (f : Nat → Value) : List Nat → Array Value → Array Value
  | [], T => T
  | t :: l, T => putAll f l (T.setIfInBounds t (f t))
theorem putAll_size (f : Nat → Value) : ∀ (l : List Nat) (T : Array Value), (putAll f l T).size = T.size
  | [], _ => rfl
  | t :: l, T => by rw [putAll, putAll_size f l]; simp
theorem putAll_get (f : Nat → Value) : ∀ (l : List Nat) (T : Array Value) (t : Nat), t < T.size → (t ∈ l ∨ T.getD t undef = f t) → (putAll f l T).getD t undef = f t
  | [], _, _, _, h => by
    rcases h with h | h
    · cases h
    · exact h
  | x :: l, T, t, ht, h => by
    rw [putAll]
    refine putAll_get f l _ t (by simpa using ht) ?_
    by_cases e : x = t
    · subst e
      exact .inr (by simp [ht])
    · rcases h with h | h
      · rcases List.mem_cons.1 h with h | h
        · exact absurd h.symm e
        · exact .inl h
      · exact .inr (by rw [← h]; simp [Array.getElem?_setIfInBounds_ne e])
def allIn (ops : Array Oper) (ws : List Nat) : Bool := (List.range ops.size).all fun j => match dstOf ops j with | some d => ws.contains d | none => true
/-- THE LAW, the frame behind it told by the slots that are written. -/
theorem wp_region_rw {P : Program} (n : Nat) (l : List Rl) (ws : List Nat) {id : Nat} {os : List Oper} {Q : Exit → Act → World → Prop} {a : Act} {w : World} (hm : P.follows .mixedOrders = true) (hn : a.tmps.size = n) (hok : slotsOk os.toArray n = true) (hws : allIn os.toArray ws = true)
    (steps : AllFrom (Stp P os.toArray a w.drew l) 0 os)
    (fin : ∀ (f : Nat → Value) (w' : World), Gr w.drew w' → (∀ j d, dstOf os.toArray j = some d → relOf l j w' (f d)) → Q .normal ⟨putAll f ws a.tmps, a.defers⟩ w') :
    (Code.region id os.toArray true).wp P Q a w := by
  refine wp_region_rl n l hm hn hok steps (fun f w' g hF hD => ?_)
  have e : ((List.range n).map f).toArray = putAll f ws a.tmps := by
    apply Array.ext
    · rw [putAll_size, hn]; simp
    · intro t h1 h2
      have ht : t < n := by simpa using h1
      have h3 := putAll_get f ws a.tmps t (by rw [hn]; exact ht) (by
        by_cases hw : writes os.toArray t = true
        · left
          obtain ⟨j, hj, hd⟩ := List.any_eq_true.1 hw
          have hd := beq_iff_eq.1 hd
          have := List.all_eq_true.1 hws j hj
          rw [hd] at this
          simpa using this
        · right
          exact (hF t (by simpa using hw)).symm)
      have h4 : (putAll f ws a.tmps)[t] = f t := by
        rw [← h3]; simp [h2]
      rw [h4]; simp
  rw [e]
  exact fin f w' g hD
end Go.Proofs.Ytgnciejbhaebeaa

/- The walk of the law TlvUnknown: it returns true. Conditions: the row's own. -/
namespace Go.Proofs.Ytgnciejbhaebeaa
open Go Go.RowKit

/-- 'append(v, xs...)' on items, within a region. -/
theorem step_appI {ops : Array Oper} {o : Oper} {a : Act} {w : World} {K : Act → World → Prop} {Q : Exit → Act → World → Prop} {E : Prop} (hgd : o.guard = none) (s x : Operand)
    (ho : o.op = .call { callee := .builtin .append, args := #[s, x], argTypes := #[79, 79] })
    (B : Nat) (v : Value) (ds : List ItV) (hs : a.eval s = v) (hown : OwnI w B v ds)
    (A : Option Addr) (m c : Nat) (ns : List ItV) (hx : a.eval x = .slice A m c) (hm : ns.length = m) (hr : Rd w A (cellsI ns))
    (hlen : ds.length + m ≤ 2199023255488) (hB : B ≤ w.heap.size)
    (h : ∀ v' w', Hid (OwnI w' B v' (ds ++ ns)) → Hid (Below B w w') → Hid (w.grownBy w' v.ownBlock) → K (a.put o.dst v') w') :
    if Region.wanted o (yielded ops a.tmps) = true then Oper.wp Try.prog o a w K Q else E := by
  rw [if_pos (wanted_none hgd)]
  obtain ⟨i0, hi, hz0, hz1, hz2⟩ := info_parts info_it
  obtain ⟨v', w', hrun, h2, h3, h4⟩ := run_appN (P := Try.prog) w B 79 o.type 95 i0 _ 5 64 Try.underlying79 hi hz0 hz1 hz2 rfl (by decide) v ds.length (cellsI ds) hown A m c (cellsI ns) (by rw [cellsI_length, hm]) hr (cellsI_one _) (by unfold maxLen; omega) (by omega) hB
  unfold Oper.wp execOp
  simp only [ho, resolve, invoke, builtin, Sem.run_bind, Sem.run_pure, Result.andThen_ok, List.map_toArray, List.map_cons, List.map_nil, hs, hx, hrun]
  refine h v' w' (Lib.hid ?_) (Lib.hid ((Below.refl B w).grown h3 hB (fun k e => (OwnI.lt hown k e).1))) (Lib.hid h3)
  unfold OwnI
  rw [cellsI_append, List.length_append, hm]
  exact h2
theorem cellsI_take : ∀ (ds : List ItV) (p : Nat), cellsI (ds.take p) = (cellsI ds).take (p * 5)
  | [], p => by simp [cellsI]
  | d :: ds, 0 => by simp [cellsI]
  | d :: ds, p + 1 => by
    rw [List.take_succ_cons, cellsI_cons, cellsI_cons, cellsI_take ds p, show (p + 1) * 5 = d.cells.length + p * 5 by show _ = 5 + p * 5; omega, List.take_length_add_append]
theorem cellsI_drop : ∀ (ds : List ItV) (p : Nat), cellsI (ds.drop p) = (cellsI ds).drop (p * 5)
  | [], p => by simp [cellsI]
  | d :: ds, 0 => by simp
  | d :: ds, p + 1 => by
    rw [List.drop_succ_cons, cellsI_cons, cellsI_drop ds p, show (p + 1) * 5 = d.cells.length + p * 5 by show _ = 5 + p * 5; omega, List.drop_length_add_append]
/-- A list parted at a place. -/
theorem Fo.part : ∀ (f : Fo) (p : Nat), p ≤ f.len → ∃ f1 f2 : Fo, f = f1.app f2 ∧ f1.len = p
  | f, 0, _ => ⟨.nil, f, rfl, rfl⟩
  | .nil, p + 1, h => by simp [Fo.len] at h
  | .cons k cr li bs sub rest, p + 1, h => by
    obtain ⟨f1, f2, e, h1⟩ := Fo.part rest p (by simp only [Fo.len] at h; omega)
    exact ⟨.cons k cr li bs sub f1, f2, by rw [Fo.app, e], by simp only [Fo.len, h1]⟩
/-- A list that can be read, as a row of cells. -/
theorem FoR.row {ok : Nat → Prop} {w : World} {b off : Nat} : ∀ (f : Fo) (i : Nat), FoR ok w (some ⟨b, off, none⟩) i f → ∃ ds : List ItV, ItsR ok w ds f ∧ ∀ k (h : k < (cellsI ds).length), w.cell? ⟨b, off + i * 5 + k, none⟩ = some (cellsI ds)[k]
  | .nil, _, _ => ⟨[], rfl, fun k h => by simp [cellsI] at h⟩
  | .cons k cr li bs sub rest, i, h => by
    obtain ⟨⟨b', off', At, n, c, As, d, eA, hb, hok, ⟨c0, c1, c2, c3, c4⟩, ht, hs, l1, l2, l3⟩, hr⟩ := h
    injection eA with eA
    injection eA with e1 e2
    subst e1 e2
    obtain ⟨ds, hd, hc⟩ := FoR.row rest (i + 1) hr
    refine ⟨⟨k, cr, li, At, n, c, As, sub.len, d⟩ :: ds, ⟨_, ds, rfl, rfl, rfl, rfl, ht, ⟨rfl, hs, l1, l2, l3⟩, hd⟩, fun q hq => ?_⟩
    rcases Nat.lt_or_ge q 5 with h5 | h5
    · match q, h5 with
      | 0, _ => exact c0
      | 1, _ => exact c1
      | 2, _ => exact c2
      | 3, _ => exact c3
      | 4, _ => exact c4
    · obtain ⟨q', rfl⟩ : ∃ q', q = q' + 5 := ⟨q - 5, by omega⟩
      have hq' : q' < (cellsI ds).length := by
        rw [cellsI_cons, List.length_append] at hq
        have : (ItV.cells ⟨k, cr, li, At, n, c, As, sub.len, d⟩).length = 5 := rfl
        omega
      have := hc q' hq'
      rw [show off + i * 5 + (q' + 5) = off + (i + 1) * 5 + q' by omega, this]
      congr 1
theorem FoR.rd {ok : Nat → Prop} {w : World} {A : Option Addr} {f : Fo} (h : FoR ok w A 0 f) : ∃ ds : List ItV, ItsR ok w ds f ∧ Rd w A (cellsI ds) := by
  cases f with
  | nil => exact ⟨[], rfl, .inl rfl⟩
  | cons k cr li bs sub rest =>
    have h0 := h
    obtain ⟨⟨b, off, _, _, _, _, _, rfl, hb, _⟩, _⟩ := h0
    obtain ⟨ds, h1, h2⟩ := FoR.row _ 0 h
    exact ⟨ds, h1, .inr ⟨b, off, rfl, hb, fun k hk => by have := h2 k hk; rwa [Nat.zero_mul, Nat.add_zero] at this⟩⟩
theorem ItsR.part {ok : Nat → Prop} {w : World} (f2 : Fo) : ∀ (f1 : Fo) (ds : List ItV), ItsR ok w ds (f1.app f2) → ItsR ok w (ds.take f1.len) f1 ∧ ItsR ok w (ds.drop f1.len) f2
  | .nil, ds, h => ⟨rfl, h⟩
  | .cons k cr li bs sub rest, ds, h => by
    obtain ⟨d, ds', rfl, h1, h2, h3, h4, h5, h8⟩ := h
    obtain ⟨q1, q2⟩ := ItsR.part f2 rest ds' h8
    exact ⟨⟨d, _, rfl, h1, h2, h3, h4, h5, q1⟩, q2⟩
theorem unknown_law {ks : List Int} {f f1 f2 sub : Fo} {kx : Int} {cr li : Bool} {bx : List UInt8} (ef : f = f1.app f2) (hni : kx ∉ ks) :
    (cr = true → pickT ks (f1.app ((Fo.cons kx cr li bx sub .nil).app f2)) = (7, .nil)) ∧ (cr = false → pickT ks (f1.app ((Fo.cons kx cr li bx sub .nil).app f2)) = pickT ks f) := by
  have e1 : critF ks (f1.app ((Fo.cons kx cr li bx sub .nil).app f2)) = (critF ks f1 || (cr || critF ks f2)) := by
    rw [critF_app, critF_app]
    simp only [critF, decide_eq_false hni, Bool.not_false, Bool.true_and, Bool.or_false]
  have e2 : pickF ks (f1.app ((Fo.cons kx cr li bx sub .nil).app f2)) = pickF ks f := by
    rw [pickF_app, pickF_app, ef, pickF_app]
    simp only [pickF, if_neg hni, Fo.app]
  refine ⟨fun h => ?_, fun h => ?_⟩
  · rw [pickT, e1, h, Bool.true_or, Bool.or_true, if_pos rfl]
  · rw [pickT, pickT, e1, e2, h, Bool.false_or, ef, critF_app]
theorem unknown_its {w : World} {f1 f2 sub : Fo} {dl : List ItV} {p : Nat} {dx : ItV} {kx : Int} {cr li : Bool} {bx : List UInt8} {Ax As : Option Addr} {nx cx ns cs : Nat} (hf1 : f1.len = p) (hd1 : ItsR (· < w.heap.size) w (dl.take f1.len) f1) (hd2 : ItsR (· < w.heap.size) w (dl.drop f1.len) f2)
    (edx : dx = ⟨kx, cr, li, Ax, nx, cx, As, ns, cs⟩) (t1 : TxtR (· < w.heap.size) w Ax nx cx bx) (t2 : FoR (· < w.heap.size) w As 0 sub) (t3 : sub.len = ns) (t4 : ns ≤ cs) (t5 : cs ≤ maxLen) (t6 : ns ≤ 2199023255488) :
    ItsR (· < w.heap.size) w (dl.take p ++ ([dx] ++ dl.drop p)) (f1.app ((Fo.cons kx cr li bx sub .nil).app f2)) := by
  rw [hf1] at hd1 hd2
  refine ItsR.snoc (ItsR.snoc hd2 _ _ ?_) _ _ hd1
  rw [edx]
  exact ⟨_, [], rfl, rfl, rfl, rfl, t1, ⟨t3.symm, t2, by rw [t3]; exact t4, t5, by rw [t3]; exact t6⟩, rfl⟩
set_option maxRecDepth 100000 in
set_option maxHeartbeats 8000000 in
theorem TlvUnknown_walk (w : World) (A : Option Addr) (n c : Nat) (f : Fo) (hr : FoR (· < w.heap.size) w A 0 f ∧ f.len = n ∧ n ≤ c ∧ c ≤ maxLen ∧ n ≤ 2199023255488)
    (kx : Int) (cr li : Bool) (Ax : Option Addr) (nx cx : Nat) (bx : List UInt8) (As : Option Addr) (ns cs : Nat) (sub : Fo) (hx : TxtR (· < w.heap.size) w Ax nx cx bx ∧ FoR (· < w.heap.size) w As 0 sub ∧ sub.len = ns ∧ ns ≤ cs ∧ cs ≤ maxLen ∧ ns ≤ 2199023255488)
    (at_ : Int) (_ : (Lit.int .i64 at_).wf = true)
    (Ak : Option Addr) (nk ck : Nat) (ks : List Int) (hk : ks.length = nk ∧ RdI w Ak ks ∧ nk ≤ ck ∧ ck ≤ maxLen ∧ nk * 8 ≤ 140737488351232 ∧ ∀ z ∈ ks, (Lit.int .i64 z).wf = true) :
    Calls Try.prog 12 #[.slice A n c, .agg #[.int .i64 kx, .bool cr, .bool li, .slice Ax nx cx, .slice As ns cs], .int .i64 at_, .slice Ak nk ck] w fun r w' => r = .returned (.bool true) ∧ Below w.heap.size w w' := by
  obtain ⟨h1, hn, hc, hm, hl⟩ := hr
  obtain ⟨k1, k2, k3, k4, k5, -⟩ := hk
  obtain ⟨t1, t2, t3, t4, t5, t6⟩ := hx
  have H1 := Lib.hid h1
  have HN := Lib.hid hn
  have HC := Lib.hid hc
  have HM := Lib.hid hm
  have HK1 := Lib.hid k1
  have hkb : nk ≤ 140737488355328 := by omega
  have rdi : ∀ w', Below w.heap.size w w' → RdI w' Ak ks := fun w' hb => by
    rcases k2 with h | ⟨b, off, h1, h2, h3⟩
    · exact .inl h
    · exact .inr ⟨b, off, h1, Nat.lt_of_lt_of_le h2 hb.size, fun k hk => (hb.cell (p := ⟨b, off + k, none⟩) h2).trans (h3 k hk)⟩
  have RDI := Lib.hid rdi
  have T1 := Lib.hid t1
  have T2 := Lib.hid t2
  have T3 := Lib.hid t3
  have T4 := Lib.hid t4
  have T5 := Lib.hid t5
  obtain ⟨w1, ew1⟩ : ∃ w1, w1 = w.alloc (.cells #[.int .i64 kx, .bool cr, .bool li, .slice Ax nx cx, .slice As ns cs] 95) := ⟨_, rfl⟩
  obtain ⟨gx, egx⟩ : ∃ gx, gx = w.heap.size := ⟨_, rfl⟩
  have b1 : Below w.heap.size w w1 := by rw [ew1]; exact (Below.refl _ _).alloc (Nat.le_refl _) _
  have hb1 : w1.heap[gx]? = some (.cells (ItV.cells ⟨kx, cr, li, Ax, nx, cx, As, ns, cs⟩).toArray 95 (0, 0)) := by rw [ew1, egx]; exact heap_alloc_new _ _
  have B1 := Lib.hid b1
  have X1 := Lib.hid hb1
  have EW1 := Lib.hid ew1
  have EGX := Lib.hid egx
  clear h1 hn hc hm k1 k2 k3 k4 k5 rdi t1 t2 t3 t4 t5 ew1 egx b1 hb1
  go_enter Try.func12, Try.ntmps12
  go_upto_region 1 with (fail)
  rw [← EW1.out, ← EGX.out]
  go_wp2_with (fail)
  refine (Small_c f _ A n c w1 HN.out (H1.out.below B1.out) hl).mono ?_
  rintro _ w2 ⟨b, rfl, hb, hk2⟩
  have B2 := Lib.hid (B1.out.trans (hk2.mono B1.out.size))
  have X2 := Lib.hid ((hk2.block gx (heap_lt X1.out)).trans X1.out)
  have HB := Lib.hid hb
  clear hk2 hb
  have fin : ∀ w', Below w.heap.size w w' → Calls Try.prog 41 #[] w' fun r w'' => r = .returned (.bool true) ∧ Below w.heap.size w w'' := fun w' hb => (fixedT_c w').mono (fun r w'' ⟨h1, h2⟩ => ⟨h1, hb.trans (h2.mono hb.size)⟩)
  have FIN := Lib.hid fin
  clear fin
  cases b with
  | false =>
    go_wp2_with (fail)
    refine (FIN.out w2 B2.out).mono ?_
    rintro _ w3 ⟨rfl, hk3⟩
    have K3 := Lib.hid hk3
    clear hk3
    go_wp2_with (fail)
    go_ret
    exact ⟨rfl, K3.out⟩
  | true =>
    obtain ⟨⟨x0, x1, x2, x3, x4⟩, -⟩ := five_of X2.out
    dsimp only at x0 x1 x2 x3 x4
    obtain ⟨w3, ew3⟩ : ∃ w3, w3 = w2.alloc (.cells #[.int .i64 kx, .bool cr, .bool li, .slice Ax nx cx, .slice As ns cs] 95) := ⟨_, rfl⟩
    have b3 : Below w2.heap.size w2 w3 := by rw [ew3]; exact (Below.refl _ _).alloc (Nat.le_refl _) _
    have B3 := Lib.hid (B2.out.trans (b3.mono B2.out.size))
    have X3 := Lib.hid ((b3.block gx (heap_lt X2.out)).trans X2.out)
    have its : ItsR (fun _ => True) w2 [⟨kx, cr, li, Ax, nx, cx, As, ns, cs⟩] (.cons kx cr li bx sub .nil) :=
      ItsR.one ((T1.out.frame (fun j _ hj => B2.out.block j hj) B2.out.size).weak (fun _ _ _ => trivial)) T3.out.symm ((T2.out.below B2.out).weak (fun _ _ _ => trivial)) T4.out T5.out (by rw [T3.out]; exact t6)
    have rx : FoR (fun _ => True) w3 (some ⟨w2.heap.size, 0, none⟩) 0 (.cons kx cr li bx sub .nil) := by rw [ew3]; exact lit_fo (d := ⟨kx, cr, li, Ax, nx, cx, As, ns, cs⟩) its trivial rfl
    have RX := Lib.hid rx
    have EW3 := Lib.hid ew3
    clear ew3 b3 its rx
    go_wp2_with (fail)
    rw [← EW3.out]
    refine (Small_c (.cons kx cr li bx sub .nil) _ _ 1 1 w3 rfl RX.out (by omega)).mono ?_
    rintro _ w4 ⟨b, rfl, hb, hk4⟩
    have B4 := Lib.hid (B3.out.trans (hk4.mono B3.out.size))
    have X4 := Lib.hid ((hk4.block gx (heap_lt X3.out)).trans X3.out)
    have HBX := Lib.hid hb
    clear hk4 hb x0 x1 x2 x3 x4
    cases b with
    | false =>
      go_wp2_with (fail)
      refine (FIN.out w4 B4.out).mono ?_
      rintro _ w5 ⟨rfl, hk3⟩
      have K3 := Lib.hid hk3
      clear hk3
      go_wp2_with (fail)
      go_ret
      exact ⟨rfl, K3.out⟩
    | true =>
      by_cases hbig : 1000 < nk
      · have hbig' : (1000 : Int) < (nk : Int) := by omega
        clear hbig
        go_wp2_with (fail)
        refine (FIN.out w4 B4.out).mono ?_
        rintro _ w5 ⟨rfl, hk3⟩
        have K3 := Lib.hid hk3
        clear hk3
        go_wp2_with (fail)
        go_ret
        exact ⟨rfl, K3.out⟩
      · have hbig' : (nk : Int) ≤ 1000 := by omega
        clear hbig
        obtain ⟨sz, -⟩ := HB.out (by trivial)
        obtain ⟨szx, -⟩ := HBX.out (by trivial)
        have hn4 : n ≤ 400 := by have := Fo.len_le f; have := HN.out; omega
        have hxs : sub.size ≤ 400 := by simp only [Fo.size] at szx; omega
        have HSZ := Lib.hid sz
        have HXS := Lib.hid hxs
        clear sz szx hxs
        go_wp2_with (fail)
        go_loopw [32] (fun i wr => ∃ q : Nat, i = .int .i64 q ∧ q ≤ nk ∧ Hid (∀ j (h : j < ks.length), j < q → ks[j] ≠ kx) ∧ ∃ y, wr = w4.drewN y) (fun i _ => nk - (intOf i).toNat)
        case atStart => exact ⟨0, rfl, Nat.zero_le _, Lib.hid (fun j h h0 => absurd h0 (Nat.not_lt_zero _)), 0, rfl⟩
        case round =>
          obtain ⟨q, rfl, hq, HP, y, rfl⟩ := hrel
          rcases Nat.lt_or_ge q nk with hlt | hge
          · have hlt' : (q : Int) < (nk : Int) := by omega
            have hqk : q < ks.length := by rw [HK1.out]; exact hlt
            obtain ⟨⟨x0, -, -, -, -⟩, -⟩ := five_of X4.out
            dsimp only at x0
            obtain ⟨bk, offk, rfl, hbk, hck⟩ := (RDI.out w4 B4.out).addr (by omega)
            have c0 := hck q hqk
            obtain ⟨z, ez⟩ : ∃ z, z = ks[q] := ⟨_, rfl⟩
            rw [← ez] at c0
            have EZ := Lib.hid ez
            clear hck ez
            by_cases he : z = kx
            · have e0 : (z == kx) = true := by rw [he]; exact beq_self_eq_true _
              have hb4 : Below w.heap.size w (w4.drewN y) := below_drewN B4.out y
              clear he
              go_wp2_with (fail)
              go_quiet (fail)
              go_wp2_with (fail)
              refine (FIN.out _ (below_drewN B4.out _)).mono ?_
              rintro _ w5 ⟨rfl, hk3⟩
              have K3 := Lib.hid hk3
              clear hk3
              go_wp2_with (fail)
              go_ret
              exact ⟨rfl, K3.out⟩
            · have e0 : (z == kx) = false := by rw [beq_eq_false_iff_ne]; exact he
              have HE := Lib.hid he
              clear he
              go_wp2_with (fail)
              go_quiet (fail)
              go_wp2_with (fail)
              go_roundw
              case rel =>
                refine ⟨q + 1, by go_num, by omega, Lib.hid (fun j h hj => ?_), _, rfl⟩
                by_cases e : j = q
                · subst e; rw [← EZ.out]; exact HE.out
                · exact HP.out j h (by omega)
              case measure => simp [intOf]; omega
          · have hge' : (nk : Int) ≤ (q : Int) := by omega
            have hnin : kx ∉ ks := fun h => by
              obtain ⟨j, hj, e⟩ := List.getElem_of_mem h
              exact HP.out j hj (by have := HK1.out; omega) e
            have HNI := Lib.hid hnin
            clear hnin
            go_upto_region 10 with (fail)
            obtain ⟨p, hp, ep⟩ : ∃ p : Nat, p ≤ n ∧ (if 0 < (if (n : Int) < at_ then (n : Int) else at_) then (if (n : Int) < at_ then (n : Int) else at_) else 0) = (p : Int) := by
              by_cases h1 : (n : Int) < at_
              · simp only [if_pos h1]
                by_cases h2 : (0 : Int) < (n : Int)
                · rw [if_pos h2]; exact ⟨n, Nat.le_refl _, rfl⟩
                · rw [if_neg h2]; exact ⟨0, Nat.zero_le _, rfl⟩
              · simp only [if_neg h1]
                by_cases h2 : 0 < at_
                · rw [if_pos h2]; exact ⟨at_.toNat, by omega, by omega⟩
                · rw [if_neg h2]; exact ⟨0, Nat.zero_le _, rfl⟩
            rw [ep]
            clear ep
            generalize (if (n : Int) < at_ then (n : Int) else at_) = Mn
            obtain ⟨f1, f2, ef, hf1⟩ := Fo.part f p (by rw [HN.out]; exact hp)
            obtain ⟨dl, hdl, hrd⟩ := FoR.rd H1.out
            rw [ef] at hdl
            obtain ⟨hd1, hd2⟩ := ItsR.part f2 f1 dl hdl
            have EF := Lib.hid ef
            have HF1 := Lib.hid hf1
            have HDL := Lib.hid hdl
            have HD1 := Lib.hid hd1
            have HD2 := Lib.hid hd2
            have B4y : Hid (Below w.heap.size w (w4.drewN y)) := Lib.hid (below_drewN B4.out y)
            have X4y : Hid ((w4.drewN y).heap[gx]? = some (.cells (ItV.cells ⟨kx, cr, li, Ax, nx, cx, As, ns, cs⟩).toArray 95 (0, 0))) := X4
            obtain ⟨w5, ew5⟩ : ∃ w5, w5 = w4.drewN y := ⟨_, rfl⟩
            rw [← ew5] at B4y X4y ⊢
            have RD5 := Lib.hid (hrd.of_blocks (fun b hb _ => B4y.out.block b hb) B4y.out.size)
            obtain ⟨⟨x0, x1, x2, x3, x4⟩, -⟩ := five_of X4y.out
            dsimp only at x0 x1 x2 x3 x4
            have hpn : (p : Int) ≤ (n : Int) := by omega
            have hcn : (n : Int) ≤ (c : Int) := by have := HC.out; omega
            have hpc : (p : Int) ≤ (c : Int) := by omega
            clear ef hf1 hdl hrd hd1 hd2 ew5 hp
            obtain ⟨dx, edx⟩ : ∃ dx : ItV, dx = ⟨kx, cr, li, Ax, nx, cx, As, ns, cs⟩ := ⟨_, rfl⟩
            have EDX := Lib.hid edx
            have lx : ∀ (W : World), Rd (W.alloc (.cells #[.int .i64 kx, .bool cr, .bool li, .slice Ax nx cx, .slice As ns cs] 95)) (some ⟨W.heap.size, 0, none⟩) (cellsI [dx]) := fun W => by rw [edx]; exact Rd.lit W (cellsI [⟨kx, cr, li, Ax, nx, cx, As, ns, cs⟩]) 95
            have hdn : dl.length = n := by rw [ItsR.len _ dl HDL.out, ← EF.out, HN.out]
            have htk : (dl.take p).length = p := by rw [List.length_take, hdn]; omega
            have hdr : (dl.drop p).length = n - p := by rw [List.length_drop, hdn]
            have cutk := cellsI_take dl p
            have cutd := cellsI_drop dl p
            have rt5 : Rd w5 A (cellsI (dl.take p)) := by rw [cutk]; exact RD5.out.take _
            have rd5 : Rd w5 (if c = p then A else Option.map (fun x => x.add (p * 5)) A) (cellsI (dl.drop p)) := by
              rw [cutd]
              by_cases e : c = p
              · rw [if_pos e]
                left
                apply List.eq_nil_of_length_eq_zero
                rw [List.length_drop, cellsI_length, hdn]; omega
              · rw [if_neg e]
                rcases RD5.out with h | ⟨b, off, hA, hb, hc⟩
                · left; rw [h]; simp
                · refine .inr ⟨b, off + p * 5, ?_, hb, fun j hj => ?_⟩
                  · rw [hA]
                    unfold Addr.add
                    by_cases h0 : p * 5 = 0 <;> simp [h0]
                  · simp only [List.length_drop] at hj
                    rw [Nat.add_assoc, hc (p * 5 + j) (by omega)]
                    simp
            have RT5 := Lib.hid rt5
            have RDD5 := Lib.hid rd5
            have HTK := Lib.hid htk
            have HDR := Lib.hid hdr
            have hdnl : dl.length ≤ 400 := by omega
            have htkl : (dl.take p).length ≤ 400 := by omega
            -- the three worlds ahead of the first append
            obtain ⟨B5, eB5⟩ : ∃ B5, B5 = w5.heap.size := ⟨_, rfl⟩
            have sE : (w5.alloc (.cells #[] 95)).heap.size = w5.heap.size + 1 := by simp
            have sX : (w5.alloc (.cells #[.int .i64 kx, .bool cr, .bool li, .slice Ax nx cx, .slice As ns cs] 95)).heap.size = w5.heap.size + 1 := by simp
            have bE : Below w5.heap.size w5 (w5.alloc (.cells #[] 95)).drew := ((Below.refl _ _).alloc (Nat.le_refl _) _).drew
            have bEX : Below w5.heap.size w5 ((w5.alloc (.cells #[] 95)).alloc (.cells #[.int .i64 kx, .bool cr, .bool li, .slice Ax nx cx, .slice As ns cs] 95)).drew := (((Below.refl _ _).alloc (Nat.le_refl _) _).alloc (by simp) _).drew
            have bXE : Below w5.heap.size w5 ((w5.alloc (.cells #[.int .i64 kx, .bool cr, .bool li, .slice Ax nx cx, .slice As ns cs] 95)).alloc (.cells #[] 95)).drew := (((Below.refl _ _).alloc (Nat.le_refl _) _).alloc (by simp) _).drew
            have oE : OwnI (w5.alloc (.cells #[] 95)) w5.heap.size (.slice (some ⟨w5.heap.size, 0, none⟩) 0 0) [] := World.ownsRow_made w5 #[] 0 (Nat.le_refl _) (Nat.zero_le _) rfl
            have oEX : OwnI ((w5.alloc (.cells #[] 95)).alloc (.cells #[.int .i64 kx, .bool cr, .bool li, .slice Ax nx cx, .slice As ns cs] 95)) w5.heap.size (.slice (some ⟨w5.heap.size, 0, none⟩) 0 0) [] := oE.below ((Below.refl _ _).alloc (Nat.le_refl _) _)
            have oXE : OwnI ((w5.alloc (.cells #[.int .i64 kx, .bool cr, .bool li, .slice Ax nx cx, .slice As ns cs] 95)).alloc (.cells #[] 95)) w5.heap.size (.slice (some ⟨w5.heap.size + 1, 0, none⟩) 0 0) [] := by
              have := World.ownsRow_made (w5.alloc (.cells #[.int .i64 kx, .bool cr, .bool li, .slice Ax nx cx, .slice As ns cs] 95)) (base := w5.heap.size) (size := 5) #[] (e := 95) 0 (by simp) (Nat.zero_le _) rfl
              rw [sX] at this
              exact this
            have lEX : Rd ((w5.alloc (.cells #[] 95)).alloc (.cells #[.int .i64 kx, .bool cr, .bool li, .slice Ax nx cx, .slice As ns cs] 95)) (some ⟨w5.heap.size + 1, 0, none⟩) (cellsI [dx]) := by rw [← sE]; exact lx _
            have lXE : Rd ((w5.alloc (.cells #[.int .i64 kx, .bool cr, .bool li, .slice Ax nx cx, .slice As ns cs] 95)).alloc (.cells #[] 95)) (some ⟨w5.heap.size, 0, none⟩) (cellsI [dx]) := (lx w5).below ((Below.refl _ _).alloc (Nat.le_refl _) _)
            have sv : ∀ w', Below w5.heap.size w5 w' → w'.cell? ⟨gx, 0, none⟩ = some (.int .i64 kx) ∧ w'.cell? ⟨gx, 1, none⟩ = some (.bool cr) ∧ w'.cell? ⟨gx, 2, none⟩ = some (.bool li) ∧ w'.cell? ⟨gx, 3, none⟩ = some (.slice Ax nx cx) ∧ w'.cell? ⟨gx, 4, none⟩ = some (.slice As ns cs) := fun w' hb => (five_of ((hb.block gx (heap_lt X4y.out)).trans X4y.out)).1
            have BE := Lib.hid bE
            have BEX := Lib.hid bEX
            have BXE := Lib.hid bXE
            have OE := Lib.hid oE
            have OEX := Lib.hid oEX
            have OXE := Lib.hid oXE
            have LEX := Lib.hid lEX
            have LXE := Lib.hid lXE
            have SV := Lib.hid sv
            have LX := Lib.hid lx
            clear edx lx hdn htk hdr cutk cutd rt5 rd5 eB5 sE sX bE bEX bXE oE oEX oXE lEX lXE sv
            obtain ⟨G, eG⟩ : ∃ G : Fo, G = f1.app ((Fo.cons kx cr li bx sub .nil).app f2) := ⟨_, rfl⟩
            have hI := unknown_its HF1.out HD1.out HD2.out EDX.out T1.out T2.out T3.out T4.out T5.out t6
            rw [← eG] at hI
            obtain ⟨ng, eng⟩ : ∃ ng, G.len = ng := ⟨_, rfl⟩
            have hGs : G.size ≤ 100000 := by
              have h1 := HSZ.out
              have h2 := HXS.out
              rw [EF.out, Fo.size_app] at h1
              rw [eG, Fo.size_app, Fo.size_app]
              simp only [Fo.size]
              omega
            have hGT := unknown_law (li := li) (bx := bx) (sub := sub) (cr := cr) EF.out HNI.out
            rw [← eG] at hGT
            have HG := Lib.hid hGT
            have HGS := Lib.hid hGs
            have ENG := Lib.hid eng
            have HI := Lib.hid hI
            clear eG hI eng hGs hGT
            go_cut [10] (fun s10 wx => ∃ (A8 : Option Addr) (c8 : Nat), s10 = .slice A8 ng c8 ∧ Hid (FoR (fun _ => True) wx A8 0 G) ∧ Hid (Below w.heap.size w wx) ∧ Hid (wx.heap[gx]? = some (.cells (ItV.cells ⟨kx, cr, li, Ax, nx, cx, As, ns, cs⟩).toArray 95 (0, 0))))
            case first =>
              go_region_held3 (fun w' => w'.cell? ⟨gx, 0, none⟩ = some (.int .i64 kx) ∧ w'.cell? ⟨gx, 1, none⟩ = some (.bool cr) ∧ w'.cell? ⟨gx, 2, none⟩ = some (.bool li) ∧ w'.cell? ⟨gx, 3, none⟩ = some (.slice Ax nx cx) ∧ w'.cell? ⟨gx, 4, none⟩ = some (.slice As ns cs)) (first | exact ⟨x0, x1, x2, x3, x4⟩ | (with_reducible assumption) | (simp [*, World.cell?_alloc_some, World.cell?_setCell_far]; done)) (first
                | ((with_reducible refine step_appI (w := (w5.alloc (.cells #[] 95)).drew) rfl (.tmp 49) (.tmp 52) rfl w5.heap.size (.slice (some ⟨w5.heap.size, 0, none⟩) 0 0) [] rfl (OE.out.below (Below.refl _ _).drew) A p c (dl.take p) rfl HTK.out (RT5.out.below BE.out) (by simp only [List.length_nil]; omega) BE.out.size ?_); intro v6 w6 ho6 hb6 hg6; have HO6 := Lib.hid (show OwnI w6 w5.heap.size v6 (dl.take p) from ho6.out); have B6 := Lib.hid (BE.out.trans hb6.out); have s6 := SV.out _ B6.out; clear ho6 hb6 hg6)
                | ((with_reducible refine step_appI (w := ((w5.alloc (.cells #[] 95)).alloc (.cells #[.int .i64 kx, .bool cr, .bool li, .slice Ax nx cx, .slice As ns cs] 95)).drew) rfl (.tmp 49) (.tmp 52) rfl w5.heap.size (.slice (some ⟨w5.heap.size, 0, none⟩) 0 0) [] rfl (OEX.out.below (Below.refl _ _).drew) A p c (dl.take p) rfl HTK.out (RT5.out.below BEX.out) (by simp only [List.length_nil]; omega) BEX.out.size ?_); intro v6 w6 ho6 hb6 hg6; have HO6 := Lib.hid (show OwnI w6 w5.heap.size v6 (dl.take p) from ho6.out); have B6 := Lib.hid (BEX.out.trans hb6.out); have L6 := Lib.hid ((LEX.out.below (Below.refl _ _).drew).grown hg6.out (fun b off e e2 => by injection e with e; injection e with e; injection e2 with e2; have e3 : w5.heap.size = b := e2; omega)); have s6 := SV.out _ B6.out; clear ho6 hb6 hg6)
                | ((with_reducible refine step_appI (w := ((w5.alloc (.cells #[.int .i64 kx, .bool cr, .bool li, .slice Ax nx cx, .slice As ns cs] 95)).alloc (.cells #[] 95)).drew) rfl (.tmp 49) (.tmp 52) rfl w5.heap.size (.slice (some ⟨w5.heap.size + 1, 0, none⟩) 0 0) [] rfl (OXE.out.below (Below.refl _ _).drew) A p c (dl.take p) rfl HTK.out (RT5.out.below BXE.out) (by simp only [List.length_nil]; omega) BXE.out.size ?_); intro v6 w6 ho6 hb6 hg6; have HO6 := Lib.hid (show OwnI w6 w5.heap.size v6 (dl.take p) from ho6.out); have B6 := Lib.hid (BXE.out.trans hb6.out); have L6 := Lib.hid ((LXE.out.below (Below.refl _ _).drew).grown hg6.out (fun b off e e2 => by injection e with e; injection e with e; injection e2 with e2; have e3 : w5.heap.size + 1 = b := e2; omega)); have s6 := SV.out _ B6.out; clear ho6 hb6 hg6)
                | ((with_reducible refine step_appI rfl (.tmp 53) (.tmp 55) rfl w5.heap.size v6 (dl.take p) rfl ?_ (some ⟨w6.heap.size, 0, none⟩) 1 1 [dx] rfl rfl ?_ (by omega) ?_ ?_); (first | exact HO6.out.below ((Below.refl _ _).alloc (Nat.le_refl _) _) | exact (HO6.out.below ((Below.refl _ _).alloc (Nat.le_refl _) _)).below (Below.refl _ _).drew | exact (HO6.out.below (Below.refl _ _).drew).below ((Below.refl _ _).alloc (Nat.le_refl _) _)); (first | exact LX.out w6 | exact (LX.out w6).below (Below.refl _ _).drew | exact LX.out w6.drew); (have := B6.out.size; simp; omega); intro v7 w7 ho7 hb7 hg7; have HO7 := Lib.hid ho7.out; have B7 : Hid (Below w5.heap.size w5 w7) := Lib.hid ((show Below w5.heap.size w5 _ from by first | exact (B6.out.alloc B6.out.size (.cells #[.int .i64 kx, .bool cr, .bool li, .slice Ax nx cx, .slice As ns cs] 95)) | exact (B6.out.alloc B6.out.size (.cells #[.int .i64 kx, .bool cr, .bool li, .slice Ax nx cx, .slice As ns cs] 95)).drew | exact (B6.out.drew.alloc B6.out.size (.cells #[.int .i64 kx, .bool cr, .bool li, .slice Ax nx cx, .slice As ns cs] 95))).trans hb7.out); have s7 := SV.out _ B7.out; clear ho7 hb7 hg7)
                | ((with_reducible refine step_appI rfl (.tmp 53) (.tmp 55) rfl w5.heap.size v6 (dl.take p) rfl ?_ (some ⟨_, 0, none⟩) 1 1 [dx] rfl rfl ?_ (by omega) ?_ ?_); (first | exact HO6.out | exact HO6.out.below (Below.refl _ _).drew); (first | exact L6.out | exact L6.out.below (Below.refl _ _).drew); (exact B6.out.size); intro v7 w7 ho7 hb7 hg7; have HO7 := Lib.hid ho7.out; have B7 : Hid (Below w5.heap.size w5 w7) := Lib.hid ((show Below w5.heap.size w5 _ from by first | exact B6.out | exact B6.out.drew).trans hb7.out); have s7 := SV.out _ B7.out; clear ho7 hb7 hg7)
                | ((with_reducible refine step_appI rfl (.tmp 56) (.tmp 59) rfl w5.heap.size v7 (dl.take p ++ [dx]) rfl ?_ _ (n - p) (c - p) (dl.drop p) rfl HDR.out ?_ (by rw [List.length_append, List.length_singleton]; omega) ?_ ?_); (first | exact HO7.out | exact HO7.out.below (Below.refl _ _).drew); (first | exact RDD5.out.below B7.out | exact RDD5.out.below B7.out.drew); (exact B7.out.size); intro v8 w8 ho8 hb8 hg8; have HO8 := Lib.hid ho8.out; have B8 : Hid (Below w5.heap.size w5 w8) := Lib.hid ((show Below w5.heap.size w5 _ from by first | exact B7.out | exact B7.out.drew).trans hb8.out); have s8 := SV.out _ B8.out; clear ho8 hb8 hg8))
              all_goals
                have K8 := B4y.out.trans (B8.out.mono B4y.out.size)
                have hM8 : FoM (fun _ => True) w8 v8 G := ⟨_, HO8.out.low (Nat.zero_le _), fun _ _ => trivial, by
                  rw [List.append_assoc]
                  exact (ItsR.frame (fun j (hj : j < w.heap.size) _ => K8.block j hj) K8.size G _ HI.out).weak (fun _ _ _ => trivial)⟩
                obtain ⟨A8, c8, ev8, -, -, r8⟩ := hM8.form ENG.out
                subst ev8
                have R8 := Lib.hid r8
                have HK8 := Lib.hid K8
                have X8 := Lib.hid ((B8.out.block gx (heap_lt X4y.out)).trans X4y.out)
                clear hM8 r8 K8
                generalize (if c = p then A else Option.map (fun x => x.add (p * 5)) A) = Ad
                go_wp2_with (fail)
                go_meet
                exact ⟨A8, c8, rfl, R8, HK8, X8⟩
            case rest =>
              clear OE OEX OXE LEX LXE BE BEX BXE RT5 RDD5 RD5 x0 x1 x2 x3 x4 hpn hcn hpc HI LX SV X4y B4y HDL HD1 HD2 EDX HTK HDR
              obtain ⟨w8, ew8⟩ : ∃ w8, w8 = wc := ⟨_, rfl⟩
              rw [← ew8] at hcut ⊢
              obtain ⟨A8, c8, rfl, R8, K8, X8⟩ := hcut
              clear ew8
              obtain ⟨T, hT⟩ : ∃ T, T = pickT ks f := ⟨_, rfl⟩
              obtain ⟨e, he⟩ : ∃ e, e = T.1 := ⟨_, rfl⟩
              obtain ⟨L, hL⟩ : ∃ L, L = T.2 := ⟨_, rfl⟩
              obtain ⟨m, hm⟩ : ∃ m, L.len = m := ⟨_, rfl⟩
              have hm4 : m ≤ 400 := by
                rw [← hm, hL, hT, pickT]
                split
                · simp [Fo.len]
                · have := pickF_len ks f; have := HN.out; show (pickF ks f).len ≤ 400; omega
              have HT := Lib.hid hT
              have HE := Lib.hid he
              have HL := Lib.hid hL
              have HM2 := Lib.hid hm
              clear hT he hL hm
              go_wp2_with (fail)
              refine (Pick_c f _ A n c Ak nk ck ks w8 HN.out (H1.out.below K8.out) (by have := HSZ.out; omega) HK1.out (RDI.out _ K8.out) hkb).mono ?_
              rintro _ w9 ⟨v9, rfl, ho9, hk9⟩
              rw [← HT.out] at ho9 ⊢
              rw [← HE.out]
              rw [← HL.out] at ho9
              obtain ⟨A9, c9, rfl, -, -, r9⟩ := ho9.form HM2.out
              have K9 := Lib.hid (K8.out.trans (hk9.mono K8.out.size))
              have X9 := Lib.hid ((hk9.block gx (heap_lt X8.out)).trans X8.out)
              have R9 := Lib.hid r9
              have R89 := Lib.hid (R8.out.below hk9)
              clear ho9 hk9 r9
              go_wp2_with (fail)
              refine (Pick_c G _ A8 ng c8 Ak nk ck ks w9 ENG.out R89.out HGS.out HK1.out (RDI.out _ K9.out) hkb).mono ?_
              rintro _ w10 ⟨v10, rfl, ho10, hk10⟩
              have K10 := Lib.hid (K9.out.trans (hk10.mono K9.out.size))
              have X10 := Lib.hid ((hk10.block gx (heap_lt X9.out)).trans X9.out)
              have R910 := Lib.hid (R9.out.below hk10)
              obtain ⟨⟨-, y1, -, -, -⟩, -⟩ := five_of X10.out
              dsimp only at y1
              cases cr with
              | true =>
                rw [HG.out.1 rfl] at ho10 ⊢
                obtain ⟨A10, c10, rfl, -, -, -⟩ := ho10.form (n := 0) rfl
                clear ho10 hk10
                go_wp2_with (fail)
                refine (FIN.out _ K10.out).mono ?_
                rintro _ w11 ⟨rfl, hk11⟩
                have K11 := Lib.hid hk11
                clear hk11
                go_wp2_with (fail)
                go_ret
                exact ⟨rfl, K11.out⟩
              | false =>
                rw [HG.out.2 rfl, ← HT.out] at ho10 ⊢
                rw [← HE.out]
                rw [← HL.out] at ho10
                obtain ⟨A10, c10, rfl, -, -, r10⟩ := ho10.form HM2.out
                have R10 := Lib.hid r10
                have cc : ((e : Int) == (e : Int)) = true := by simp
                clear ho10 hk10 r10
                go_wp2_with (fail)
                refine (fixedT_c w10).mono ?_
                rintro _ w11 ⟨rfl, hk11⟩
                have K11 := Lib.hid (K10.out.trans (hk11.mono K10.out.size))
                have R911 := Lib.hid (R910.out.below hk11)
                have R11 := Lib.hid (R10.out.below hk11)
                clear hk11
                go_wp2_with (fail)
                refine (Same02_t L.size L (Nat.le_refl _) _ _ A9 A10 m c9 c10 w11 HM2.out R911.out R11.out (by omega)).mono ?_
                rintro _ w12 ⟨rfl, q12, rfl⟩
                go_wp2_with (fail)
                go_ret
                exact ⟨rfl, below_drewN K11.out q12⟩
end Go.Proofs.Ytgnciejbhaebeaa
