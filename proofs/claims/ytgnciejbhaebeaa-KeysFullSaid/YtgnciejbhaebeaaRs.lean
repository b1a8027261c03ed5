/- A region that draws its order and whose last operation waits for all others: the others by relations, the last one at the end. Conditions: each slot is written once; no operation ahead of the last one panics. -/
import Derived.Test.YtgnciejbhaebeaaRg
import Derived.Laws.Tables
import Derived.Laws.Rows
namespace Go.Proofs.Ytgnciejbhaebeaa
open Go Go.RowKit

/-- A value built of parts. -/
theorem gives_build {P : Program} {o : Oper} {f : Nat → Value} {w : World} {K : Value → World → Prop} (t : TypeId) (parts : Array (Nat × Operand)) (ho : o.op = .build t parts) (cells : Array Value)
    (hf : P.built t (parts.map fun (i, x) => (i, evF f x)).toList = some cells) (hK : K (.agg cells) w) : Gives P o f w K := by
  refine gives_val (v := .agg cells) ?_ hK
  unfold execOp
  simp only [ho]
  rw [Sem.run_bind, run_build w t _ cells hf]
  rfl

/-- A row of cells loaded whole. -/
theorem gives_load_row {P : Program} {o : Oper} {f : Nat → Value} {w : World} {K : Value → World → Prop} (ty : TypeId) (x : Operand) (ho : o.op = .load ty x)
    (g : Nat) (hx : evF f x = .pointer (some ⟨g, 0, none⟩)) (t : TypeId) (cs : Array Value) (fr : Nat × Nat) (d : TypeDesc) (hg : w.heap[g]? = some (.cells cs t fr))
    (hu : P.underlying ty = some d) (hd : (match d with | .struct _ | .array _ _ => true | _ => false) = true) (hi : (P.info? ty).map (·.size) = some cs.size) (hK : K (.agg cs) w) : Gives P o f w K := by
  refine gives_val (v := .agg cs) ?_ hK
  unfold execOp
  simp only [ho, hx, Instr.loadAt, Instr.sureAddr, Sem.run_bind, Sem.run_pure, Result.andThen_ok, run_loadVar_row w g t ty cs fr d hg hu hd hi]

/-- The operations that these wait for. -/
def ups (ops : Array Oper) : Nat → List Nat → List Nat
  | 0, S => S
  | k + 1, S => ups ops k (S ++ (List.range ops.size).filter (fun j => S.any (fun i => depOn ops i j) && !S.contains j))
def waitsAll (ops : Array Oper) (m : Nat) : Bool := (List.range m).all (fun j => (ups ops m [m]).contains j)
theorem ups_in (ops : Array Oper) (T : Nat → Prop) (hc : ∀ i j, T i → depOn ops i j = true → T j) : ∀ (k : Nat) (S : List Nat), (∀ j ∈ S, T j) → ∀ j ∈ ups ops k S, T j
  | 0, _, h, j, hj => h j hj
  | k + 1, S, h, j, hj => by
    refine ups_in ops T hc k _ (fun x hx => ?_) j hj
    rcases List.mem_append.1 hx with hx | hx
    · exact h x hx
    · have h1 := (List.mem_filter.1 hx).2
      simp only [Bool.and_eq_true, List.any_eq_true] at h1
      obtain ⟨⟨i, hi, hd⟩, _⟩ := h1
      exact hc i x (h i hi) hd

section
variable {P : Program} {ops : Array Oper} {G : World → World → Prop} {R : Nat → World → Value → Prop} {a0 : Act} {W0 : World}
theorem wp_region_rel_last (n m : Nat) {id : Nat} {Q : Exit → Act → World → Prop} {a : Act} {w : World} (hm : P.follows .mixedOrders = true) (hn : a.tmps.size = n) (hok : slotsOk ops n = true)
    (hsz : ops.size = m + 1) (hwa : waitsAll ops m = true) (ol : Oper) (hol : ops[m]? = some ol) (hgd : ol.guard = none)
    (G : World → World → Prop) (R : Nat → World → Value → Prop) (hr : ∀ w, G w w) (ht : ∀ {a b c}, G a b → G b c → G a c) (hmo : ∀ j {a b v}, R j a v → G a b → R j b v)
    (step : ∀ (i : Nat) (o : Oper), i < m → ops[i]? = some o → ∀ (f : Nat → Value) (w' : World), G w.drew w' → (∀ t, writes ops t = false → f t = a.tmps.getD t undef) →
      (∀ j d, depOn ops i j = true → dstOf ops j = some d → R j w' (f d)) → if Region.wanted o (yieldedF ops f) = true then Gives P o f w' (fun v w'' => G w' w'' ∧ R i w'' v) else R i w' undef)
    (fin : ∀ (f : Nat → Value) (w' : World), G w.drew w' → (∀ t, writes ops t = false → f t = a.tmps.getD t undef) → (∀ j d, j < m → dstOf ops j = some d → R j w' (f d)) → wpList P ops Q [ol] ⟨((List.range n).map f).toArray, a.defers⟩ w') :
    (Code.region id ops true).wp P Q a w := by
  refine wp_region_any hm ?_
  have fulls : ∀ (listed : Array Bool), (∀ i, i < ops.size → listed.getD i false = true) → listed.size = ops.size → Region.ready .any ops listed = [] := by
    intro listed hall hls
    apply List.eq_nil_iff_forall_not_mem.2
    intro i hi
    obtain ⟨h1, o, ho, _⟩ := mem_ready.1 hi
    have hlt : i < ops.size := (Array.getElem?_eq_some_iff.1 ho).1
    have h2 := hall i hlt
    have : i < listed.size := by rw [hls]; exact hlt
    simp [this] at h1 h2
    rw [h1] at h2; cases h2
  have full : ∀ (fuel : Nat) (listed : Array Bool) (b : Act) (v : World), (∀ i, i < ops.size → listed.getD i false = true) → listed.size = ops.size → Q .normal b v → wpAny P .any ops Q fuel listed b v := by
    intro fuel listed b v hall hls hq
    have h0 := fulls listed hall hls
    cases fuel with
    | zero => exact ⟨h0, hq⟩
    | succ k => exact ⟨fun _ => hq, fun i hi => by rw [h0] at hi; cases hi⟩
  have key : ∀ (fuel : Nat) (listed : Array Bool) (b : Act) (v : World), RInv ops G R a w.drew listed b v → (∀ i j, listed.getD i false = true → depOn ops i j = true → listed.getD j false = true) → listed.getD m false = false →
      ((List.range ops.size).countP (fun i => listed.getD i false == false)) ≤ fuel → wpAny P .any ops Q fuel listed b v := by
    have mready : ∀ (listed : Array Bool), listed.size = ops.size → listed.getD m false = false → Region.ready .any ops listed ≠ [] := by
      intro listed hls hml h0
      have all : ∀ i, i < ops.size → listed.getD i false = true := by
        intro i
        induction i using Nat.strongRecOn with
        | _ i ih =>
          intro hi
          cases hc : listed.getD i false with
          | true => rfl
          | false =>
            have hmem : i ∈ Region.ready .any ops listed := by
              refine mem_ready.2 ⟨?_, ops[i], by simp [hi], fun e he hb => ?_⟩
              · have : i < listed.size := by rw [hls]; exact hi
                simp [this] at hc ⊢
                exact hc
              · have hlt := slotsOk_back hok (i := i) (o := ops[i]) (by simp [hi]) e he hb
                exact ih e.on hlt (by omega)
            rw [h0] at hmem; cases hmem
      have := all m (by omega)
      rw [hml] at this; cases this
    intro fuel
    induction fuel with
    | zero =>
      intro listed b v h _ hml hc
      have := List.countP_eq_zero.1 (Nat.le_zero.1 hc) m (List.mem_range.2 (by omega))
      rw [hml] at this
      exact absurd rfl this
    | succ fuel ih =>
      intro listed b v h hcl hml hc
      refine ⟨fun h0 => absurd h0 (mready listed h.lsize hml), fun i hi => ?_⟩
      obtain ⟨h1, o, ho, hall⟩ := mem_ready.1 hi
      have hlt : i < ops.size := (Array.getElem?_eq_some_iff.1 ho).1
      have hls : i < listed.size := by rw [h.lsize]; exact hlt
      have h2 : listed.getD i false = false := by
        simp [hls] at h1 ⊢
        exact h1
      have hdep : ∀ j, depOn ops i j = true → listed.getD j false = true := by
        intro j hj
        unfold depOn at hj
        rw [ho] at hj
        obtain ⟨q, hq, hb⟩ := Array.any_eq_true.1 hj
        have he : o.after[q] ∈ o.after := Array.getElem_mem hq
        generalize o.after[q] = e at he hb
        simp only [Bool.and_eq_true, beq_iff_eq] at hb
        have := hall e he hb.1
        rw [hb.2] at this
        exact this
      have hcl' : ∀ p j, (listed.setIfInBounds i true).getD p false = true → depOn ops p j = true → (listed.setIfInBounds i true).getD j false = true := by
        intro p j hp hd
        have h3 : listed.getD j false = true := by
          by_cases e : i = p
          · subst e; exact hdep j hd
          · exact hcl p j (by rw [← hp]; simp [Array.getElem?_setIfInBounds_ne e]) hd
        by_cases e : i = j
        · subst e; simp [hls]
        · rw [← h3]; simp [Array.getElem?_setIfInBounds_ne e]
      have hcnt : (List.range ops.size).countP (fun k => (listed.setIfInBounds i true).getD k false == false) ≤ fuel := by
        have hsub : (List.range ops.size).countP (fun k => (listed.setIfInBounds i true).getD k false == false) < (List.range ops.size).countP (fun k => listed.getD k false == false) := by
          have gen : ∀ (l : List Nat), i ∈ l → l.countP (fun k => (listed.setIfInBounds i true).getD k false == false) < l.countP (fun k => listed.getD k false == false) := by
            have le : ∀ (l : List Nat), l.countP (fun k => (listed.setIfInBounds i true).getD k false == false) ≤ l.countP (fun k => listed.getD k false == false) := by
              intro l
              apply List.countP_mono_left
              intro k _ hk
              by_cases e : i = k
              · subst e; simp [hls] at hk
              · simpa [Array.getElem?_setIfInBounds_ne e] using hk
            intro l hl
            induction l with
            | nil => cases hl
            | cons k l ihl =>
              by_cases e : i = k
              · subst e
                have := le l
                have h2' : (listed.getD i false == false) = true := by rw [h2]; rfl
                rw [List.countP_cons_of_pos (p := fun k => listed.getD k false == false) (by exact h2'), List.countP_cons_of_neg (by simp [hls])]
                omega
              · have hl' : i ∈ l := by
                  rcases List.mem_cons.1 hl with h | h
                  · exact absurd h e
                  · exact h
                have := ihl hl'
                have e2 : (listed.setIfInBounds i true).getD k false = listed.getD k false := by simp [Array.getElem?_setIfInBounds_ne e]
                rw [List.countP_cons, List.countP_cons, e2]
                omega
          exact gen _ (List.mem_range.2 hlt)
        omega
      by_cases him : i = m
      · -- the last one
        subst him
        rw [hol] at ho
        injection ho with ho
        subst ho
        have others : ∀ j, j < i → listed.getD j false = true := by
          intro j hj
          have h4 := List.all_eq_true.1 hwa j (List.mem_range.2 hj)
          have h5 := ups_in ops (fun x => x = i ∨ listed.getD x false = true) (fun p q hp hd => by
            rcases hp with rfl | hp
            · exact .inr (hdep q hd)
            · exact .inr (hcl p q hp hd)) i [i] (fun x hx => .inl (by simpa using hx)) j (by simpa using h4)
          rcases h5 with h5 | h5
          · omega
          · exact h5
        have hallL : ∀ k, k < ops.size → (listed.setIfInBounds i true).getD k false = true := by
          intro k hk
          by_cases e : i = k
          · subst e; simp [hls]
          · rw [← others k (by omega)]; simp [Array.getElem?_setIfInBounds_ne e]
        have hb : b = ⟨((List.range n).map (fun t => b.tmps.getD t undef)).toArray, a.defers⟩ := by
          have hs : b.tmps.size = n := h.size.trans hn
          have e : b.tmps = ((List.range n).map (fun t => b.tmps.getD t undef)).toArray := by
            apply Array.ext
            · simp [hs]
            · intro i h1 h2
              simp [h1]
          rw [← h.defers, ← e]
        have hf := fin (fun t => b.tmps.getD t undef) v h.grow h.frame (fun j d hj hd => h.rel j d (others j hj) hd)
        rw [← hb] at hf
        unfold wpOp
        simp only [hol]
        unfold wpList at hf
        rw [if_pos (wanted_none hgd)] at hf ⊢
        exact hf.imp (Oper.wp_mono (fun b' v' hq => full fuel _ b' v' hallL (by simp [h.lsize]) hq)) (fun h => h)
      · have hml' : (listed.setIfInBounds i true).getD m false = false := by
          have e : (listed.setIfInBounds i true).getD m false = listed.getD m false := by simp [Array.getElem?_setIfInBounds_ne him]
          rw [e]; exact hml
        have hs := step i o (by omega) ho (fun t => b.tmps.getD t undef) v h.grow h.frame (fun j d hj hd => h.rel j d (hdep j hj) hd)
        unfold wpOp
        simp only [ho]
        rw [yielded_eqF hok b (h.size.trans hn)]
        split
        · rename_i hw
          rw [if_pos hw] at hs
          refine .inl (Gives.wp ?_)
          unfold Gives at hs ⊢
          generalize (execOp (evF fun t => b.tmps.getD t undef) o).run P v = r at hs
          cases r with
          | ok nx w' =>
            cases nx <;> simp only at hs ⊢
            case value u => exact ih _ _ _ (h.put ho hok hn ht hmo hs.1 hs.2 hlt) hcl' hml' hcnt
            case skip => exact ih _ _ _ (h.put ho hok hn ht hmo hs.1 hs.2 hlt) hcl' hml' hcnt
            case enter k args => exact Calls.mono hs fun e w'' ⟨u, he, hg, hR⟩ => ⟨u, he, ih _ _ _ (h.put ho hok hn ht hmo hg hR hlt) hcl' hml' hcnt⟩
          | halt x w' => exact hs.elim
        · rename_i hw
          rw [if_neg hw] at hs
          exact ih _ _ _ (h.put ho hok hn ht hmo (hr v) hs hlt) hcl' hml' hcnt
  have none0 : ∀ i, (Array.replicate ops.size false).getD i false = false := by
    intro i
    by_cases h : i < ops.size
    · simp [h]
    · simp [h]
  refine key ops.size _ a _ ⟨hr _, rfl, rfl, by simp, fun t _ => rfl, fun j d hl hd => ?_⟩ (fun i j hi _ => ?_) (none0 m) ?_
  · rw [none0] at hl; cases hl
  · rw [none0] at hi; cases hi
  · refine Nat.le_trans List.countP_le_length ?_
    simp
end

theorem AllFrom.outlt {Pr : Nat → Oper → Prop} (l l2 : List Oper) (h : AllFrom Pr 0 l) : ∀ i o, i < l.length → (l ++ l2)[i]? = some o → Pr i o := by
  intro i o hi ho
  rw [List.getElem?_append_left hi] at ho
  have := AllFrom.out l 0 h i o ho
  rwa [Nat.zero_add] at this
/-- THE LAW, the last operation apart: the frame told by the slots that are written. -/
theorem wp_region_rs {P : Program} (n m : Nat) (l : List Rl) (ws : List Nat) {id : Nat} {os : List Oper} {Q : Exit → Act → World → Prop} {a : Act} {w : World} (hm : P.follows .mixedOrders = true) (hn : a.tmps.size = n) (hok : slotsOk os.toArray n = true) (hws : allIn os.toArray ws = true)
    (o : Oper) (hos : os = os.take m ++ [o]) (hml : (os.take m).length = m) (hwa : waitsAll os.toArray m = true) (hgd : o.guard = none)
    (steps : AllFrom (Stp P os.toArray a w.drew l) 0 (os.take m))
    (fin : ∀ (f : Nat → Value) (w' : World), Gr w.drew w' → (∀ j d, j < m → dstOf os.toArray j = some d → relOf l j w' (f d)) → (∀ t, writes os.toArray t = false → f t = a.tmps.getD t undef) → wpList P os.toArray Q [o] ⟨putAll f ws a.tmps, a.defers⟩ w') :
    (Code.region id os.toArray true).wp P Q a w := by
  have hl : os.length = m + 1 := by rw [hos, List.length_append, hml]; rfl
  refine wp_region_rel_last n m hm hn hok (by simpa using hl) hwa o (by rw [List.getElem?_toArray, hos, List.getElem?_append_right (by omega), hml]; simp) hgd Gr (relOf l) Gr.refl Gr.trans (fun j _ _ _ h g => (l.getD j Rl.any).mono h g) (fun i o' hi ho => ?_) (fun f w' g hF hD => ?_)
  · refine AllFrom.outlt (os.take m) [o] steps i o' (by omega) ?_
    rw [← hos]
    simpa using ho
  · have e : ((List.range n).map f).toArray = putAll f ws a.tmps := by
      apply Array.ext
      · rw [putAll_size, hn]; simp
      · intro t h1 h2
        have ht : t < n := by simpa using h1
        have h3 := putAll_get f ws a.tmps t (by rw [hn]; exact ht) (by
          by_cases hw : writes os.toArray t = true
          · left
            obtain ⟨j, hj, hd⟩ := List.any_eq_true.1 hw
            have hd := beq_iff_eq.1 hd
            have := List.all_eq_true.1 hws j hj
            rw [hd] at this
            simpa using this
          · right
            exact (hF t (by simpa using hw)).symm)
        have h4 : (putAll f ws a.tmps)[t] = f t := by
          rw [← h3]; simp [h2]
        rw [h4]; simp
    rw [e]
    exact fin f w' g hD hF
end Go.Proofs.Ytgnciejbhaebeaa
