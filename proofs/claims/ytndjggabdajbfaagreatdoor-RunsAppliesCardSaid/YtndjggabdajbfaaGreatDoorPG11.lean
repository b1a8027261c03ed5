/- Parts one behind the other: A region that draws its order and ends in a tail that waits for all others: the others by relations, the tail one behind the other; What the reference's Runes answers of a text of runes: a row of runes that all take places just if the text's do; A screen as plain data and in memory: nine cells, its cells and its links elsewhere; when it may be. Conditions: as told at each. -/
import Derived.Test.YtndjggabdajbfaaGreatDoorPG10
import Derived.BigRegion

set_option linter.unusedVariables false
set_option linter.unusedSimpArgs false
/- A region that draws its order and ends in a tail that waits for all others: the others by relations, the tail one behind the other. Conditions: each slot is written once; no operation ahead of the tail panics. -/
namespace Go.Proofs.YtndjggabdajbfaaGreatDoor
open Go Go.RowKit

/-- Slots that operations ahead of number m write. -/
def writesTo (ops : Array Oper) (m t : Nat) : Bool := (List.range m).any (fun j => dstOf ops j == some t)
structure RInvT (ops : Array Oper) (m : Nat) (G : World → World → Prop) (R : Nat → World → Value → Prop) (a0 : Act) (W0 : World) (listed : Array Bool) (a : Act) (w : World) : Prop where
  grow : G W0 w
  defers : a.defers = a0.defers
  size : a.tmps.size = a0.tmps.size
  lsize : listed.size = ops.size
  frame : ∀ t, writesTo ops m t = false → a.tmps.getD t undef = a0.tmps.getD t undef
  rel : ∀ j d, listed.getD j false = true → dstOf ops j = some d → R j w (a.tmps.getD d undef)
theorem RInvT.put {ops : Array Oper} {m : Nat} {G : World → World → Prop} {R : Nat → World → Value → Prop} {a0 : Act} {W0 : World} {listed : Array Bool} {a : Act} {w w' : World} {i : Nat} {o : Oper} {v : Value} {n : Nat} (him : i < m) (ho : ops[i]? = some o) (hok : slotsOk ops n = true) (hn : a0.tmps.size = n) (h : RInvT ops m G R a0 W0 listed a w)
    (ht : ∀ {a b c}, G a b → G b c → G a c) (hm : ∀ j {a b v}, R j a v → G a b → R j b v) (hg : G w w') (hr : R i w' v) (hi : i < ops.size) : RInvT ops m G R a0 W0 (listed.setIfInBounds i true) (a.put o.dst v) w' := by
  have hdo : dstOf ops i = o.dst := by unfold dstOf; rw [ho]; rfl
  have get : ∀ t, (a.put o.dst v).tmps.getD t undef = if o.dst = some t ∧ t < n then v else a.tmps.getD t undef := by
    intro t
    unfold Act.put
    cases hd : o.dst with
    | none => simp
    | some d =>
      by_cases e : d = t
      · subst e
        have hlt : d < n := slotsOk_lt hok (hdo.trans hd)
        have hlt2 : d < a.tmps.size := by rw [h.size, hn]; exact hlt
        simp [hlt, hlt2]
      · simp [e, Array.getElem?_setIfInBounds_ne e]
  refine ⟨ht h.grow hg, ?_, ?_, by simp [h.lsize], fun t hw => ?_, fun j d hl hd => ?_⟩
  · rw [← h.defers]; unfold Act.put; cases o.dst <;> rfl
  · rw [← h.size]; unfold Act.put; cases o.dst <;> simp
  · rw [get, if_neg, h.frame t hw]
    rintro ⟨e, _⟩
    have : writesTo ops m t = true := List.any_eq_true.2 ⟨i, List.mem_range.2 him, by rw [hdo, e]; exact beq_self_eq_true _⟩
    rw [hw] at this; cases this
  · rw [get]
    by_cases hji : j = i
    · subst hji
      rw [if_pos ⟨hdo.symm.trans hd, slotsOk_lt hok hd⟩]
      exact hr
    · rw [if_neg]
      · refine hm j (h.rel j d ?_ hd) hg
        rw [← hl]
        simp [Array.getElem?_setIfInBounds_ne (Ne.symm hji)]
      · rintro ⟨e, _⟩
        exact hji (slotsOk_ne hok hd (hdo.trans e))
/-- One operation's step, ahead of the tail. -/
def StpT (P : Program) (ops : Array Oper) (m : Nat) (a : Act) (W : World) (l : List Rl) (i : Nat) (o : Oper) : Prop :=
  ∀ (f : Nat → Value) (w : World), Gr W w → (∀ t, writesTo ops m t = false → f t = a.tmps.getD t undef) →
      (∀ j d, depOn ops i j = true → dstOf ops j = some d → relOf l j w (f d)) → if Region.wanted o (yieldedF ops f) = true then Gives P o f w (fun v w'' => Gr w w'' ∧ relOf l i w'' v) else relOf l i w undef

/-- From m on each operation waits for the one ahead of it. -/
def chained (ops : Array Oper) (m : Nat) : Bool := (List.range ops.size).all (fun j => decide (j ≤ m) || depOn ops j (j - 1))
section
variable {P : Program} {ops : Array Oper} {Q : Exit → Act → World → Prop}
theorem not_ready_of {listed : Array Bool} {i : Nat} (hi : i ∈ Region.ready .any ops listed) : ∀ j, depOn ops i j = true → listed.getD j false = true := by
  obtain ⟨h1, o, ho, hall⟩ := mem_ready.1 hi
  intro j hj
  unfold depOn at hj
  rw [ho] at hj
  obtain ⟨q, hq, hb⟩ := Array.any_eq_true.1 hj
  have he : o.after[q] ∈ o.after := Array.getElem_mem hq
  generalize o.after[q] = e at he hb
  simp only [Bool.and_eq_true, beq_iff_eq] at hb
  have := hall e he hb.1
  rw [hb.2] at this
  exact this
theorem ready_open {listed : Array Bool} {i : Nat} (hls : listed.size = ops.size) (hi : i ∈ Region.ready .any ops listed) : listed.getD i false = false ∧ i < ops.size := by
  obtain ⟨h1, o, ho, _⟩ := mem_ready.1 hi
  have hlt : i < ops.size := (Array.getElem?_eq_some_iff.1 ho).1
  have : i < listed.size := by rw [hls]; exact hlt
  simp [this] at h1 ⊢
  exact ⟨h1, hlt⟩
theorem ready_mk {n : Nat} (hok : slotsOk ops n = true) {listed : Array Bool} (hls : listed.size = ops.size) {i : Nat} (hi : i < ops.size) (h0 : listed.getD i false = false) (hall : ∀ j, j < i → listed.getD j false = true) : i ∈ Region.ready .any ops listed := by
  refine mem_ready.2 ⟨?_, ops[i], by simp [hi], fun e he hb => ?_⟩
  · have : i < listed.size := by rw [hls]; exact hi
    simp [this] at h0 ⊢
    exact h0
  · have hlt := slotsOk_back hok (i := i) (o := ops[i]) (by simp [hi]) e he hb
    exact hall e.on hlt
theorem set_get (listed : Array Bool) (i j : Nat) (hls : i < listed.size) : (listed.setIfInBounds i true).getD j false = if i = j then true else listed.getD j false := by
  split
  · rename_i e; subst e; simp [hls]
  · rename_i e; simp [Array.getElem?_setIfInBounds_ne e]

theorem tailAny {n m : Nat} (hok : slotsOk ops n = true) (hch : chained ops m = true) : ∀ (r fuel : Nat) (listed : Array Bool) (b : Act) (v : World), listed.size = ops.size → r ≤ ops.size → m ≤ ops.size - r →
    (∀ i, i < ops.size → (listed.getD i false = true ↔ i < ops.size - r)) → r ≤ fuel → wpList P ops Q (ops.toList.drop (ops.size - r)) b v → wpAny P .any ops Q fuel listed b v := by
  intro r
  induction r with
  | zero =>
    intro fuel listed b v hls _ _ hl _ hq
    have h0 : Region.ready .any ops listed = [] := by
      apply List.eq_nil_iff_forall_not_mem.2
      intro i hi
      obtain ⟨h1, h2⟩ := ready_open hls hi
      have := (hl i h2).2 (by omega)
      rw [h1] at this; cases this
    have hq' : Q .normal b v := by
      rw [Nat.sub_zero, List.drop_of_length_le (by simp)] at hq
      exact hq
    cases fuel with
    | zero => exact ⟨h0, hq'⟩
    | succ k => exact ⟨fun _ => hq', fun i hi => by rw [h0] at hi; cases hi⟩
  | succ r ih =>
    intro fuel listed b v hls hr hm hl hf hq
    obtain ⟨j, ej⟩ : ∃ j, j = ops.size - (r + 1) := ⟨_, rfl⟩
    have hj : j < ops.size := by omega
    have hj0 : listed.getD j false = false := by
      cases h : listed.getD j false
      · rfl
      · have := (hl j hj).1 h; omega
    have hjr : j ∈ Region.ready .any ops listed := ready_mk hok hls hj hj0 (fun i hi => (hl i (by omega)).2 (by omega))
    cases fuel with
    | zero => omega
    | succ k =>
      refine ⟨fun h0 => (by rw [h0] at hjr; cases hjr), fun i hi => ?_⟩
      obtain ⟨h1, h2⟩ := ready_open hls hi
      have hij : i = j := by
        have hge : j ≤ i := by
          rcases Nat.lt_or_ge i j with h | h
          · have := (hl i h2).2 (by omega)
            rw [h1] at this; cases this
          · exact h
        rcases Nat.eq_or_lt_of_le hge with h | h
        · exact h.symm
        · have h3 := List.all_eq_true.1 hch i (List.mem_range.2 h2)
          simp only [Bool.or_eq_true, decide_eq_true_eq] at h3
          rcases h3 with h3 | h3
          · omega
          · have h4 := not_ready_of hi (i - 1) h3
            have := (hl (i - 1) (by omega)).1 h4
            omega
      subst hij
      have hd : ops.toList.drop i = ops[i] :: ops.toList.drop (i + 1) := by
        rw [List.drop_eq_getElem_cons (by simpa using hj)]
        simp
      rw [← ej, hd] at hq
      have hw : wpOp P ops Q i (wpList P ops Q (ops.toList.drop (i + 1))) b v := by
        unfold wpOp
        rw [Array.getElem?_eq_getElem hj]
        exact hq
      refine wpOp_mono (fun b' v' hq' => ih k _ b' v' (by simpa using hls) (by omega) (by omega) (fun q hqs => ?_) (by omega) ?_) hw
      · rw [set_get _ _ _ (by rw [hls]; exact hj)]
        split
        · simp; omega
        · rw [hl q hqs]; omega
      · rw [show ops.size - r = i + 1 by omega]; exact hq'

variable {G : World → World → Prop} {R : Nat → World → Value → Prop} {a0 : Act} {W0 : World}
theorem wp_region_rel_tail (n m : Nat) {id : Nat} {a : Act} {w : World} (hm : P.follows .mixedOrders = true) (hn : a.tmps.size = n) (hok : slotsOk ops n = true)
    (hsz : m < ops.size) (hwa : waitsAll ops m = true) (hch : chained ops m = true)
    (G : World → World → Prop) (R : Nat → World → Value → Prop) (hr : ∀ w, G w w) (ht : ∀ {a b c}, G a b → G b c → G a c) (hmo : ∀ j {a b v}, R j a v → G a b → R j b v)
    (step : ∀ (i : Nat) (o : Oper), i < m → ops[i]? = some o → ∀ (f : Nat → Value) (w' : World), G w.drew w' → (∀ t, writesTo ops m t = false → f t = a.tmps.getD t undef) →
      (∀ j d, depOn ops i j = true → dstOf ops j = some d → R j w' (f d)) → if Region.wanted o (yieldedF ops f) = true then Gives P o f w' (fun v w'' => G w' w'' ∧ R i w'' v) else R i w' undef)
    (fin : ∀ (f : Nat → Value) (w' : World), G w.drew w' → (∀ t, writesTo ops m t = false → f t = a.tmps.getD t undef) → (∀ j d, j < m → dstOf ops j = some d → R j w' (f d)) → wpList P ops Q (ops.toList.drop m) ⟨((List.range n).map f).toArray, a.defers⟩ w') :
    (Code.region id ops true).wp P Q a w := by
  refine wp_region_any hm ?_
  have key : ∀ (fuel : Nat) (listed : Array Bool) (b : Act) (v : World), RInvT ops m G R a w.drew listed b v → (∀ i j, listed.getD i false = true → depOn ops i j = true → listed.getD j false = true) → (∀ i, m ≤ i → i < ops.size → listed.getD i false = false) →
      ((List.range ops.size).countP (fun i => listed.getD i false == false)) ≤ fuel → wpAny P .any ops Q fuel listed b v := by
    intro fuel
    induction fuel with
    | zero =>
      intro listed b v h _ hml hc
      have := List.countP_eq_zero.1 (Nat.le_zero.1 hc) m (List.mem_range.2 hsz)
      rw [hml m (Nat.le_refl _) hsz] at this
      exact absurd rfl this
    | succ fuel ih =>
      intro listed b v h hcl hml hc
      by_cases hall : ∀ i, i < m → listed.getD i false = true
      · have hcount : ops.size - m ≤ fuel + 1 := by
          refine Nat.le_trans ?_ hc
          have e : (List.range ops.size) = List.range m ++ (List.range (ops.size - m)).map (m + ·) := by
            rw [← List.range_add]; congr 1; omega
          rw [e, List.countP_append]
          have : ((List.range (ops.size - m)).map (m + ·)).countP (fun i => listed.getD i false == false) = ops.size - m := by
            rw [List.countP_eq_length.2]
            · simp
            · intro i hi
              obtain ⟨q, hq, rfl⟩ := List.mem_map.1 hi
              have := List.mem_range.1 hq
              rw [hml (m + q) (by omega) (by omega)]
              rfl
          omega
        have hb : b = ⟨((List.range n).map (fun t => b.tmps.getD t undef)).toArray, a.defers⟩ := by
          have hs : b.tmps.size = n := h.size.trans hn
          have e : b.tmps = ((List.range n).map (fun t => b.tmps.getD t undef)).toArray := by
            apply Array.ext
            · simp [hs]
            · intro i h1 h2
              simp [h1]
          rw [← h.defers, ← e]
        have hf := fin (fun t => b.tmps.getD t undef) v h.grow h.frame (fun j d hj hd => h.rel j d (hall j hj) hd)
        rw [← hb] at hf
        have e1 : ops.size - (ops.size - m) = m := by omega
        refine tailAny hok hch (ops.size - m) (fuel + 1) listed b v h.lsize (by omega) (by omega) (fun i hi => ?_) hcount (by rw [e1]; exact hf)
        rw [e1]
        constructor
        · intro h1
          rcases Nat.lt_or_ge i m with h2 | h2
          · exact h2
          · rw [hml i h2 hi] at h1; cases h1
        · exact hall i
      · have lessm : ∀ i, i ∈ Region.ready .any ops listed → i < m := by
          intro i hi
          obtain ⟨h1, h2⟩ := ready_open h.lsize hi
          rcases Nat.lt_trichotomy i m with h3 | h3 | h3
          · exact h3
          · exfalso
            subst h3
            apply hall
            intro j hj
            have h4 := List.all_eq_true.1 hwa j (List.mem_range.2 hj)
            have h5 := ups_in ops (fun x => x = i ∨ listed.getD x false = true) (fun p q hp hd => by
              rcases hp with rfl | hp
              · exact .inr (not_ready_of hi q hd)
              · exact .inr (hcl p q hp hd)) i [i] (fun x hx => .inl (by simpa using hx)) j (by simpa using h4)
            rcases h5 with h5 | h5
            · omega
            · exact h5
          · have h4 := List.all_eq_true.1 hch i (List.mem_range.2 h2)
            simp only [Bool.or_eq_true, decide_eq_true_eq] at h4
            rcases h4 with h4 | h4
            · omega
            · have h5 := not_ready_of hi (i - 1) h4
              rw [hml (i - 1) (by omega) (by omega)] at h5; cases h5
        refine ⟨fun h0 => ?_, fun i hi => ?_⟩
        · exfalso
          apply hall
          intro i
          induction i using Nat.strongRecOn with
          | _ i ih2 =>
            intro hi
            cases hc2 : listed.getD i false with
            | true => rfl
            | false =>
              have := ready_mk hok h.lsize (by omega : i < ops.size) hc2 (fun j hj => ih2 j hj (by omega))
              rw [h0] at this; cases this
        · have him := lessm i hi
          obtain ⟨h2, hlt⟩ := ready_open h.lsize hi
          obtain ⟨h1, o, ho, _⟩ := mem_ready.1 hi
          have hls : i < listed.size := by rw [h.lsize]; exact hlt
          have hdep := not_ready_of hi
          have hcl' : ∀ p j, (listed.setIfInBounds i true).getD p false = true → depOn ops p j = true → (listed.setIfInBounds i true).getD j false = true := by
            intro p j hp hd
            rw [set_get _ _ _ hls] at hp ⊢
            split
            · rfl
            · split at hp
              · rename_i e; subst e; exact hdep j hd
              · exact hcl p j hp hd
          have hml' : ∀ q, m ≤ q → q < ops.size → (listed.setIfInBounds i true).getD q false = false := by
            intro q h3 h4
            rw [set_get _ _ _ hls, if_neg (by omega)]
            exact hml q h3 h4
          have hcnt : (List.range ops.size).countP (fun k => (listed.setIfInBounds i true).getD k false == false) ≤ fuel := by
            have gen : ∀ (l : List Nat), i ∈ l → l.countP (fun k => (listed.setIfInBounds i true).getD k false == false) < l.countP (fun k => listed.getD k false == false) := by
              have le : ∀ (l : List Nat), l.countP (fun k => (listed.setIfInBounds i true).getD k false == false) ≤ l.countP (fun k => listed.getD k false == false) := by
                intro l
                apply List.countP_mono_left
                intro k _ hk
                rw [set_get _ _ _ hls] at hk
                split at hk
                · cases hk
                · exact hk
              intro l hl
              induction l with
              | nil => cases hl
              | cons k l ihl =>
                by_cases e : i = k
                · subst e
                  have := le l
                  have h2' : (listed.getD i false == false) = true := by rw [h2]; rfl
                  rw [List.countP_cons_of_pos (p := fun k => listed.getD k false == false) (by exact h2'), List.countP_cons_of_neg (by simp [hls])]
                  omega
                · have hl' : i ∈ l := by
                    rcases List.mem_cons.1 hl with h | h
                    · exact absurd h e
                    · exact h
                  have := ihl hl'
                  have e2 : (listed.setIfInBounds i true).getD k false = listed.getD k false := by rw [set_get _ _ _ hls, if_neg e]
                  rw [List.countP_cons, List.countP_cons, e2]
                  omega
            have := gen _ (List.mem_range.2 hlt)
            omega
          have hs := step i o him ho (fun t => b.tmps.getD t undef) v h.grow h.frame (fun j d hj hd => h.rel j d (hdep j hj) hd)
          unfold wpOp
          simp only [ho]
          rw [yielded_eqF hok b (h.size.trans hn)]
          split
          · rename_i hw
            rw [if_pos hw] at hs
            refine .inl (Gives.wp ?_)
            unfold Gives at hs ⊢
            generalize (execOp (evF fun t => b.tmps.getD t undef) o).run P v = r at hs
            cases r with
            | ok nx w' =>
              cases nx <;> simp only at hs ⊢
              case value u => exact ih _ _ _ (h.put him ho hok hn ht hmo hs.1 hs.2 hlt) hcl' hml' hcnt
              case skip => exact ih _ _ _ (h.put him ho hok hn ht hmo hs.1 hs.2 hlt) hcl' hml' hcnt
              case enter k args => exact Calls.mono hs fun e w'' ⟨u, he, hg, hR⟩ => ⟨u, he, ih _ _ _ (h.put him ho hok hn ht hmo hg hR hlt) hcl' hml' hcnt⟩
            | halt x w' => exact hs.elim
          · rename_i hw
            rw [if_neg hw] at hs
            exact ih _ _ _ (h.put him ho hok hn ht hmo (hr v) hs hlt) hcl' hml' hcnt
  have none0 : ∀ i, (Array.replicate ops.size false).getD i false = false := by
    intro i
    by_cases h : i < ops.size
    · simp [h]
    · simp [h]
  refine key ops.size _ a _ ⟨hr _, rfl, rfl, by simp, fun t _ => rfl, fun j d hl hd => ?_⟩ (fun i j hi _ => ?_) (fun i _ _ => none0 i) ?_
  · rw [none0] at hl; cases hl
  · rw [none0] at hi; cases hi
  · refine Nat.le_trans List.countP_le_length ?_
    simp
end

theorem AllFrom.outT {Pr : Nat → Oper → Prop} (l : List Oper) (m : Nat) (h : AllFrom Pr 0 (l.take m)) : ∀ i o, i < m → l[i]? = some o → Pr i o := by
  intro i o hi ho
  have h2 : (l.take m)[i]? = some o := by rw [List.getElem?_take, if_pos hi]; exact ho
  have := AllFrom.out _ 0 h i o h2
  rwa [Nat.zero_add] at this
/-- THE LAW, the tail apart: the frame told by the slots that are written. -/
theorem wp_region_rt {P : Program} (n m : Nat) (l : List Rl) (ws : List Nat) {id : Nat} {os : List Oper} {Q : Exit → Act → World → Prop} {a : Act} {w : World} (hm : P.follows .mixedOrders = true) (hn : a.tmps.size = n) (hok : slotsOk os.toArray n = true) (hws : allIn os.toArray ws = true)
    (hsz : m < os.toArray.size) (hwa : waitsAll os.toArray m = true) (hch : chained os.toArray m = true)
    (steps : AllFrom (StpT P os.toArray m a w.drew l) 0 (os.take m))
    (fin : ∀ (f : Nat → Value) (w' : World), Gr w.drew w' → (∀ j d, j < m → dstOf os.toArray j = some d → relOf l j w' (f d)) → wpList P os.toArray Q (os.drop m) ⟨putAll f ws a.tmps, a.defers⟩ w') :
    (Code.region id os.toArray true).wp P Q a w := by
  refine wp_region_rel_tail n m hm hn hok hsz hwa hch Gr (relOf l) Gr.refl Gr.trans (fun j _ _ _ h g => (l.getD j Rl.any).mono h g) (fun i o' hi ho => ?_) (fun f w' g hF hD => ?_)
  · exact AllFrom.outT os m steps i o' hi (by simpa using ho)
  · have e : ((List.range n).map f).toArray = putAll f ws a.tmps := by
      apply Array.ext
      · rw [putAll_size, hn]; simp
      · intro t h1 h2
        have ht : t < n := by simpa using h1
        have h3 := putAll_get f ws a.tmps t (by rw [hn]; exact ht) (by
          by_cases hw : writesTo os.toArray m t = true
          · left
            obtain ⟨j, hj, hd⟩ := List.any_eq_true.1 hw
            have hd := beq_iff_eq.1 hd
            have := List.all_eq_true.1 hws j (List.mem_range.2 (by have := List.mem_range.1 hj; omega))
            rw [hd] at this
            simpa using this
          · right
            exact (hF t (by simpa using hw)).symm)
        have h4 : (putAll f ws a.tmps)[t] = f t := by
          rw [← h3]; simp [h2]
        rw [h4]; simp
    rw [e]
    simpa using fin f w' g hD
end Go.Proofs.YtndjggabdajbfaaGreatDoor



/- What the reference's Runes answers of a text of runes: a row of runes that all take places just if the text's do. Conditions: bytes that can be read. -/
namespace Go.Proofs.YtndjggabdajbfaaGreatDoor
open Go Go.RowKit Go.Lib

set_option maxRecDepth 100000 in
theorem refEnd_c (A : Option Addr) (c : Nat) (w : World) :
    Calls Tryz.prog 88 #[.agg #[.slice A 0 c]] w fun e w' => e = .returned (.slice none 0 0) ∧ Below w.heap.size w w' := by
  have k0 : Below w.heap.size w (w.alloc (.cells #[.slice A 0 c] 141)) := (Below.refl _ _).alloc (Nat.le_refl _) _
  go_enter Tryz.func88, Tryz.ntmps88
  go_wp2
  go_ret
  exact ⟨rfl, k0⟩
def wdAll (rs : List Int) : Bool := rs.all fun r => decide (widI r ≠ 0)
theorem Own.frameK' {w w' : World} {B : Nat} {e : TypeId} {v : Value} {vs : List Value} (h : Own w B e v vs) (hk : ∀ g, v.ownBlock = some g → w'.heap[g]? = w.heap[g]?) : Own w' B e v vs := by
  refine ⟨h.1, ?_⟩
  rcases h.2 with h2 | ⟨g, cap, cur, rfl, hb, hg, r⟩
  · exact .inl h2
  · exact .inr ⟨g, cap, cur, rfl, hb, (hk g rfl).trans hg, r⟩
structure RunS (bs : List UInt8) (B g4 k pos p : Nat) (A : Option Addr) (c : Nat) (v : Value) (rs : List Int) (w : World) : Prop where
  hk : k = pos + p
  own : OwnR w B v rs
  far : v.ownBlock ≠ some g4
  cell : w.heap[g4]? = some (.cells #[.slice A p c] 141 (0, 0))
  rd : Rd w A (((bs.drop pos).take p).map bv)
  afar : ∀ a, A = some a → a.block ≠ g4
  mid : p = 0 ∨ p < (decodeL (bs.drop pos)).2
  utf : utfV (bs.drop pos) = true
  wd : wdV bs = (wdAll rs && wdV (bs.drop pos))
  few : rs.length ≤ k
/-- What Feed answers when a rune is whole: a row of one rune in a block behind g, and an empty decoder. -/
def RlF (g : Nat) (r : Int) : Rl := ⟨fun w v => ∃ A c, v = .tuple #[.slice A 1 c, .agg #[.slice none 0 0]] ∧ Rd w A [.int .i32 r] ∧ (∀ a, A = some a → g ≤ a.block), fun ⟨A, c, e, h, f⟩ g => ⟨A, c, e, h.below g, f⟩⟩
def RlS (g : Nat) (r : Int) : Rl := ⟨fun w v => ∃ A c, v = .slice A 1 c ∧ Rd w A [.int .i32 r] ∧ (∀ a, A = some a → g ≤ a.block), fun ⟨A, c, e, h, f⟩ g => ⟨A, c, e, h.below g, f⟩⟩
def RlH (g : Nat) (l : List UInt8) (p : Nat) : Rl := ⟨fun w v => ∃ A c, v = .tuple #[.slice none 0 0, .agg #[.slice A (p + 1) c]] ∧ Rd w A ((l.take (p + 1)).map bv) ∧ p + 1 ≤ c ∧ c ≤ maxLen ∧ (∀ a, A = some a → g ≤ a.block), fun ⟨A, c, e, h, f⟩ g => ⟨A, c, e, h.below g, f⟩⟩
def RlD (g : Nat) (l : List UInt8) (p : Nat) : Rl := ⟨fun w v => ∃ A c, v = .agg #[.slice A (p + 1) c] ∧ Rd w A ((l.take (p + 1)).map bv) ∧ p + 1 ≤ c ∧ c ≤ maxLen ∧ (∀ a, A = some a → g ≤ a.block), fun ⟨A, c, e, h, f⟩ g => ⟨A, c, e, h.below g, f⟩⟩
set_option maxRecDepth 100000 in
set_option maxHeartbeats 16000000 in
theorem refRunes_c (A : Option Addr) (n c : Nat) (bs : List UInt8) (w : World) (hn : bs.length = n) (hr : Rd w A (bs.map bv)) (hu : utfV bs = true) (hl : n ≤ 1000000) :
    Calls Tryz.prog 66 #[.slice A n c] w fun e w' => ∃ (v : Value) (rs : List Int), e = .returned v ∧ OwnR w' w.heap.size v rs ∧ wdV bs = wdAll rs ∧ rs.length ≤ n ∧ Below w.heap.size w w' := by
  have HN := Lib.hid hn
  have HRD := Lib.hid hr
  have HU := Lib.hid hu
  obtain ⟨g4, eg4⟩ : ∃ g, g = w.heap.size + 1 := ⟨_, rfl⟩
  have EG4 := Lib.hid eg4
  clear hn hr hu
  go_enter Tryz.func66, Tryz.ntmps66
  go_wp2_with (fail)
  rw [← eg4]; clear eg4
  go_loopw [3, 11] (fun v i wr => ∃ (k pos p : Nat) (A' : Option Addr) (c' : Nat) (rs : List Int), k ≤ n ∧ i = .int .i64 k ∧ Hid (RunS bs w.heap.size g4 k pos p A' c' v rs wr) ∧ Hid (Below w.heap.size w wr)) (fun _ i _ => n - (intOf i).toNat)
  case atStart =>
    refine ⟨0, 0, 0, none, 0, [], Nat.zero_le _, rfl, Lib.hid ⟨rfl, ?_, ?_, ?_, .inl (by simp), (fun a h => by cases h), .inl rfl, by simpa using HU.out, by simp [wdAll], Nat.le_refl _⟩, Lib.hid (((Below.refl _ _).alloc (Nat.le_refl _) _).alloc (by simp) _)⟩
    · have := World.ownsRow_made w (e := 21) (base := w.heap.size) (size := 1) #[] 0 (Nat.le_refl _) (Nat.zero_le _) rfl
      exact Own.alloc this _
    · rw [EG4.out]; simp [Value.ownBlock]
    · rw [EG4.out]
      have := heap_alloc_new (w.alloc (.cells #[] 21)) (.cells #[.slice none 0 0] 141)
      simpa using this
  case round =>
    obtain ⟨k, pos, p, A', c', rs, hk, rfl, HS, HB⟩ := hrel
    rcases Nat.lt_or_ge k n with hlt | hge
    · have hlt' : (k : Int) < (n : Int) := by omega
      have hs := HS.out
      have hkp := hs.hk
      obtain ⟨l, el⟩ : ∃ l, l = bs.drop pos := ⟨_, rfl⟩
      have hll : l.length = n - pos := by rw [el, List.length_drop, HN.out]
      have hne : l ≠ [] := by intro e; rw [e] at hll; simp at hll; omega
      have hut := hs.utf
      rw [← el, utfV_step l hne] at hut; simp only [Bool.and_eq_true, Bool.not_eq_true'] at hut
      have hw1 := decodeL_width l
      have hpw : p < (decodeL l).2 := by
        have := hs.mid
        rw [← el] at this
        omega
      obtain ⟨b, off, rfl, hbk, hc⟩ := HRD.out.addrB (by rw [HN.out]; omega)
      have hck := hc k (by rw [HN.out]; exact hlt)
      obtain ⟨x, ex⟩ : ∃ x, x = bs[k]'(by rw [HN.out]; exact hlt) := ⟨_, rfl⟩; rw [← ex] at hck
      have hxl : ∀ h : p < l.length, x = l[p] := by
        intro h; rw [ex]; simp only [el, List.getElem_drop]
        congr 1
      obtain ⟨W1, eW1⟩ : ∃ W1, W1 = wr.alloc (.cells #[] 21) := ⟨_, rfl⟩
      have hb1 : Below wr.heap.size wr W1 := by rw [eW1]; exact (Below.refl _ _).alloc (Nat.le_refl _) _
      have hcell1 := (hb1.block g4 (heap_lt hs.cell)).trans hs.cell
      have HC1 := Lib.hid hcell1
      have HB1 := Lib.hid (HB.out.trans (hb1.mono HB.out.size))
      have HRS1 : Hid (RunS bs w.heap.size g4 k pos p A' c' u3 rs W1) := Lib.hid ⟨hs.hk, Own.below hs.own hb1, hs.far, hcell1, hs.rd.below hb1, hs.afar, hs.mid, hs.utf, hs.wd, hs.few⟩
      have c0 : W1.cell? ⟨b, off + k, none⟩ = some (.int .u8 ((x.toNat : Nat) : Int)) := (HB1.out.cell (p := ⟨b, _, none⟩) hbk).trans hck
      have c4 : W1.drew.cell? ⟨g4, 0, none⟩ = some (.slice A' p c') := (by show W1.cell? _ = _; rw [heap_cell hcell1] <;> rfl)
      have EW1 := Lib.hid eW1
      have HKP := Lib.hid hkp
      have HPW := Lib.hid hpw
      have HRD1 : Hid (Rd W1 A' ((l.take p).map bv)) := Lib.hid (by rw [el]; exact hs.rd.below hb1)
      have EL := Lib.hid el
      have HUT := Lib.hid hut
      have HNE := Lib.hid hne
      have HXL := Lib.hid hxl
      have C0 : Hid (W1.drew.cell? ⟨b, off + k, none⟩ = some (.int .u8 ((x.toNat : Nat) : Int))) := Lib.hid c0
      have C4 := Lib.hid c4
      have SG : Hid (g4 < W1.drew.heap.size ∧ b < W1.drew.heap.size) := Lib.hid ⟨heap_lt HC1.out, Nat.lt_of_lt_of_le hbk HB1.out.size⟩
      have HG4 : Hid (w.heap.size ≤ g4) := Lib.hid (by rw [EG4.out]; omega)
      clear hs hc hck ex el hxl hll hut hkp hpw hb1 hcell1 eW1 hw1 c0 c4 hne
      go_upto_region 7 with (fail)
      rw [← EW1.out]
      by_cases hw : p + 1 = (decodeL l).2
      · have HW := Lib.hid hw
        clear hw; refine wp_region_rt 32 10 [Rl.eq (.agg #[.slice A' p c']), Rl.eq (.slice (some ⟨b, off, none⟩) n c), Rl.eq (.int .i64 (k : Int)), Rl.eq (.pointer (some ⟨b, off + k, none⟩)), Rl.eq (.int .u8 ((x.toNat : Nat) : Int)), RlF W1.heap.size ((decodeL l).1 : Int), RlF W1.heap.size ((decodeL l).1 : Int), RlS W1.heap.size ((decodeL l).1 : Int), Rl.eq (.agg #[.slice none 0 0]), RlS W1.heap.size ((decodeL l).1 : Int)] [16, 17, 18, 19, 20, 21, 15, 22, 23, 6] (by kernel_rfl) rfl (by kernel_rfl) (by kernel_rfl) (by decide) (by kernel_rfl) (by kernel_rfl) ?_ ?_
        · simp only [List.take_succ_cons, List.take_zero]
          repeat (first | exact AllFrom.nil_ | (refine AllFrom.cons_ (by rfl) ?_ ?_; rotate_left))
          · intro f w' g hF hD; have h4 : f 4 = .pointer (some ⟨g4, 0, none⟩) := hF 4 (by kernel_rfl); rw [if_pos (wanted_none rfl)]; clear hF hD
            have cl : w'.cell? ⟨g4, 0, none⟩ = some (.slice A' p c') := (g.cell (p := ⟨g4, 0, none⟩) SG.out.1).trans C4.out
            exact gives_val (by simp only [execOp, evF, h4]; go_simp) ⟨Gr.refl _, rfl⟩
          · intro f w' g hF hD; have h0 : f 0 = .slice (some ⟨b, off, none⟩) n c := hF 0 (by kernel_rfl); rw [if_pos (wanted_none rfl)]; clear hF hD; exact gives_val (by simp only [execOp, evF, h0]; first | rfl | go_simp) ⟨Gr.refl _, rfl⟩
          · intro f w' g hF hD; have h5 : f 5 = .int .i64 (k : Int) := hF 5 (by kernel_rfl); rw [if_pos (wanted_none rfl)]; clear hF hD; exact gives_val (by simp only [execOp, evF, h5]; first | rfl | go_simp) ⟨Gr.refl _, rfl⟩
          · intro f w' g hF hD; have h17 : f 17 = (.slice (some ⟨b, off, none⟩) n c) := hD 1 17 (by kernel_rfl) rfl; have h18 : f 18 = (.int .i64 (k : Int)) := hD 2 18 (by kernel_rfl) rfl; rw [if_pos (wanted_none rfl)]; clear hF hD; exact gives_val (by simp only [execOp, evF, h17, h18]; first | rfl | go_simp) ⟨Gr.refl _, rfl⟩
          · intro f w' g hF hD; have h19 : f 19 = (.pointer (some ⟨b, off + k, none⟩)) := hD 3 19 (by kernel_rfl) rfl; rw [if_pos (wanted_none rfl)]; clear hF hD
            have cl : w'.cell? ⟨b, off + k, none⟩ = some (.int .u8 ((x.toNat : Nat) : Int)) := (g.cell (p := ⟨b, off + k, none⟩) SG.out.2).trans C0.out
            exact gives_val (by simp only [execOp, evF, h19]; go_simp) ⟨Gr.refl _, rfl⟩
          · intro f w' g hF hD; have h16 : f 16 = (.agg #[.slice A' p c']) := hD 0 16 (by kernel_rfl) rfl; have h20 : f 20 = (.int .u8 ((x.toNat : Nat) : Int)) := hD 4 20 (by kernel_rfl) rfl; rw [if_pos (wanted_none rfl)]; clear hF hD
            have kg : Below W1.heap.size W1 w' := (below_drewN (Below.refl _ _) 1).trans g
            refine gives_func rfl Tryz.func87 (by kernel_rfl) rfl (by simp only [List.map_toArray, List.map_cons, List.map_nil, evF, h16, h20]) ((refFeed_c l p A' c' x w' HNE.out HUT.out.1 HPW.out (HRD1.out.below kg) HXL.out).mono ?_)
            rintro e w'' ⟨hb, hf⟩
            rw [if_pos HW.out] at hf; obtain ⟨A9, c9, rfl, hr9, ha9⟩ := hf; exact ⟨_, rfl, hb, A9, c9, rfl, hr9, fun a e => by have h1 := ha9 a e; have h2 := kg.size; omega⟩
          · intro f w' g hF hD; have q21 := hD 5 21 (by kernel_rfl) rfl; rw [if_pos (wanted_none rfl)]; clear hF hD; exact gives_val (by simp only [execOp, evF]; first | rfl | go_simp) ⟨Gr.refl _, q21⟩
          · intro f w' g hF hD; have q15 := hD 6 15 (by kernel_rfl) rfl; rw [if_pos (wanted_none rfl)]; clear hF hD; obtain ⟨A9, c9, h15, hr9, ha9⟩ := q15; exact gives_val (by simp only [execOp, evF, h15]; first | rfl | go_simp) ⟨Gr.refl _, A9, c9, rfl, hr9, ha9⟩
          · intro f w' g hF hD; have q15 := hD 6 15 (by kernel_rfl) rfl; rw [if_pos (wanted_none rfl)]; clear hF hD; obtain ⟨A9, c9, h15, hr9, ha9⟩ := q15; exact gives_val (by simp only [execOp, evF, h15]; first | rfl | go_simp) ⟨Gr.refl _, rfl⟩
          · intro f w' g hF hD; have q22 := hD 7 22 (by kernel_rfl) rfl; rw [if_pos (wanted_none rfl)]; clear hF hD; exact gives_val (by simp only [execOp, evF]; first | rfl | go_simp) ⟨Gr.refl _, q22⟩
        · intro f w3 gg hD; obtain ⟨A9, c9, h6, hr9, ha9⟩ : ∃ A c, f 6 = .slice A 1 c ∧ Rd w3 A [.int .i32 ((decodeL l).1 : Int)] ∧ (∀ a, A = some a → W1.heap.size ≤ a.block) := hD 9 6 (by decide) rfl; have h23 : f 23 = .agg #[.slice none 0 0] := hD 8 23 (by decide) rfl
          have hs := HRS1.out
          have hb3 : Below W1.heap.size W1 w3 := (below_drewN (Below.refl W1.heap.size W1) 1).trans gg
          have h43 := (hb3.block g4 (heap_lt HC1.out)).trans HC1.out
          have f43 := heap_free h43 0
          have x43 : w3.cell? ⟨g4, 0, none⟩ = some (.slice A' p c') := (by rw [heap_cell h43] <;> rfl)
          obtain ⟨W4, eW4⟩ : ∃ W4, W4 = w3.setCell ⟨g4, 0, none⟩ (.slice none 0 0) := ⟨_, rfl⟩
          have hb4 : Below w.heap.size w W4 := by rw [eW4]; exact below_set (HB1.out.trans (hb3.mono HB1.out.size)) g4 _ _ HG4.out
          have hc4 : W4.heap[g4]? = some (.cells #[.slice none 0 0] 141 (0, 0)) := by rw [eW4]; exact heap_set h43 0 _
          have ho3 : OwnR w3 w.heap.size u3 rs := Own.below hs.own hb3
          have ho4 : OwnR W4 w.heap.size u3 rs := by
            refine Own.frameK' ho3 (fun q hq => ?_); rw [eW4]; exact heap_far _ (fun e => hs.far (by rw [hq]; exact congrArg some e))
          have hr4 : Rd W4 A9 [.int .i32 ((decodeL l).1 : Int)] := by
            rw [eW4]; exact Rd.far hr9 _ (fun a e => by have h1 := ha9 a e; have h2 : g4 < W1.heap.size := SG.out.1; show a.block ≠ g4; omega)
          have HB4 := Lib.hid hb4
          have HC4 := Lib.hid hc4
          have HO4 := Lib.hid ho4
          have HR4 := Lib.hid hr4
          have EW4 := Lib.hid eW4
          simp only [List.drop_succ_cons, List.drop_zero, putAll, List.setIfInBounds_toArray, List.set_cons_zero, List.set_cons_succ, h6, h23]; clear hD gg hs hb3 hb4 hc4 ho3 ho4 hr4 hr9 ha9 h6 h23 h43 eW4
          go_upto_region 8 with (fail)
          rw [← EW4.out]; clear EW4
          go_wp2_with (at_builtin; go_must (refine wpList_appR _ rfl (.tmp 24) (.tmp 25) rfl w.heap.size u3 rs rfl HO4.out A9 1 c9 [((decodeL l).1 : Int)] rfl rfl HR4.out (by have := HRS1.out.few; omega) (Nat.le_trans HG4.out (Nat.le_of_lt (heap_lt HC4.out))) ?_); intro v7 w7 q7 hg7 hv7; have HV7 : Hid (v7.ownBlock = u3.ownBlock ∨ v7.ownBlock = some W4.heap.size) := Lib.hid hv7; have HG7 : Hid (W4.grownBy w7 u3.ownBlock) := Lib.hid hg7; have HQ7 := Lib.hid q7; clear q7 hg7 hv7)
          go_roundw
          case rel =>
            have hs := HRS1.out
            have e1 : l.drop (decodeL l).2 = bs.drop (pos + (decodeL l).2) := by rw [EL.out, List.drop_drop]
            have hut := HUT.out.2
            rw [e1] at hut
            have hwd := hs.wd
            rw [← EL.out, wdV_step l HNE.out, e1] at hwd; refine ⟨k + 1, pos + (decodeL l).2, 0, none, 0, rs ++ [((decodeL l).1 : Int)], by omega, by go_num, Lib.hid ⟨?_, HQ7.out, ?_, ?_, .inl (by simp), (fun a h => by cases h), .inl rfl, hut, ?_, ?_⟩, Lib.hid ?_⟩
            · have h1 := HKP.out; have h2 := HW.out; omega
            · rcases HV7.out with h | h
              · rw [h]; exact hs.far
              · rw [h]; intro e; injection e with e; have := heap_lt HC4.out; omega
            · exact (HG7.out.block g4 (heap_lt HC4.out) (fun e => hs.far e.symm)).trans HC4.out
            · rw [hwd, wdAll, wdAll, List.all_append]; simp [Bool.and_assoc]
            · have := hs.few; simp only [List.length_append, List.length_cons, List.length_nil]; omega
            · exact HB4.out.grown HG7.out HB4.out.size (fun q e => (Own.lt HO4.out q e).1)
          case measure => simp [intOf]; omega
      · have HW := Lib.hid hw
        clear hw; refine wp_region_rt 32 10 [Rl.eq (.agg #[.slice A' p c']), Rl.eq (.slice (some ⟨b, off, none⟩) n c), Rl.eq (.int .i64 (k : Int)), Rl.eq (.pointer (some ⟨b, off + k, none⟩)), Rl.eq (.int .u8 ((x.toNat : Nat) : Int)), RlH W1.heap.size l p, RlH W1.heap.size l p, Rl.eq (.slice none 0 0), RlD W1.heap.size l p, Rl.eq (.slice none 0 0)] [16, 17, 18, 19, 20, 21, 15, 22, 23, 6] (by kernel_rfl) rfl (by kernel_rfl) (by kernel_rfl) (by decide) (by kernel_rfl) (by kernel_rfl) ?_ ?_
        · simp only [List.take_succ_cons, List.take_zero]
          repeat (first | exact AllFrom.nil_ | (refine AllFrom.cons_ (by rfl) ?_ ?_; rotate_left))
          · intro f w' g hF hD; have h4 : f 4 = .pointer (some ⟨g4, 0, none⟩) := hF 4 (by kernel_rfl); rw [if_pos (wanted_none rfl)]; clear hF hD
            have cl : w'.cell? ⟨g4, 0, none⟩ = some (.slice A' p c') := (g.cell (p := ⟨g4, 0, none⟩) SG.out.1).trans C4.out
            exact gives_val (by simp only [execOp, evF, h4]; go_simp) ⟨Gr.refl _, rfl⟩
          · intro f w' g hF hD; have h0 : f 0 = .slice (some ⟨b, off, none⟩) n c := hF 0 (by kernel_rfl); rw [if_pos (wanted_none rfl)]; clear hF hD; exact gives_val (by simp only [execOp, evF, h0]; first | rfl | go_simp) ⟨Gr.refl _, rfl⟩
          · intro f w' g hF hD; have h5 : f 5 = .int .i64 (k : Int) := hF 5 (by kernel_rfl); rw [if_pos (wanted_none rfl)]; clear hF hD; exact gives_val (by simp only [execOp, evF, h5]; first | rfl | go_simp) ⟨Gr.refl _, rfl⟩
          · intro f w' g hF hD; have h17 : f 17 = (.slice (some ⟨b, off, none⟩) n c) := hD 1 17 (by kernel_rfl) rfl; have h18 : f 18 = (.int .i64 (k : Int)) := hD 2 18 (by kernel_rfl) rfl; rw [if_pos (wanted_none rfl)]; clear hF hD; exact gives_val (by simp only [execOp, evF, h17, h18]; first | rfl | go_simp) ⟨Gr.refl _, rfl⟩
          · intro f w' g hF hD; have h19 : f 19 = (.pointer (some ⟨b, off + k, none⟩)) := hD 3 19 (by kernel_rfl) rfl; rw [if_pos (wanted_none rfl)]; clear hF hD
            have cl : w'.cell? ⟨b, off + k, none⟩ = some (.int .u8 ((x.toNat : Nat) : Int)) := (g.cell (p := ⟨b, off + k, none⟩) SG.out.2).trans C0.out
            exact gives_val (by simp only [execOp, evF, h19]; go_simp) ⟨Gr.refl _, rfl⟩
          · intro f w' g hF hD; have h16 : f 16 = (.agg #[.slice A' p c']) := hD 0 16 (by kernel_rfl) rfl; have h20 : f 20 = (.int .u8 ((x.toNat : Nat) : Int)) := hD 4 20 (by kernel_rfl) rfl; rw [if_pos (wanted_none rfl)]; clear hF hD
            have kg : Below W1.heap.size W1 w' := (below_drewN (Below.refl _ _) 1).trans g
            refine gives_func rfl Tryz.func87 (by kernel_rfl) rfl (by simp only [List.map_toArray, List.map_cons, List.map_nil, evF, h16, h20]) ((refFeed_c l p A' c' x w' HNE.out HUT.out.1 HPW.out (HRD1.out.below kg) HXL.out).mono ?_)
            rintro e w'' ⟨hb, hf⟩
            rw [if_neg HW.out] at hf; obtain ⟨A9, c9, rfl, hr9, hc9, hm9, ha9⟩ := hf; exact ⟨_, rfl, hb, A9, c9, rfl, hr9, hc9, hm9, fun a e => by have h1 := ha9 a e; have h2 := kg.size; omega⟩
          · intro f w' g hF hD; have q21 := hD 5 21 (by kernel_rfl) rfl; rw [if_pos (wanted_none rfl)]; clear hF hD; exact gives_val (by simp only [execOp, evF]; first | rfl | go_simp) ⟨Gr.refl _, q21⟩
          · intro f w' g hF hD; have q15 := hD 6 15 (by kernel_rfl) rfl; rw [if_pos (wanted_none rfl)]; clear hF hD; obtain ⟨A9, c9, h15, hr9, hc9, hm9, ha9⟩ := q15; exact gives_val (by simp only [execOp, evF, h15]; first | rfl | go_simp) ⟨Gr.refl _, rfl⟩
          · intro f w' g hF hD; have q15 := hD 6 15 (by kernel_rfl) rfl; rw [if_pos (wanted_none rfl)]; clear hF hD; obtain ⟨A9, c9, h15, hr9, hc9, hm9, ha9⟩ := q15; exact gives_val (by simp only [execOp, evF, h15]; first | rfl | go_simp) ⟨Gr.refl _, A9, c9, rfl, hr9, hc9, hm9, ha9⟩
          · intro f w' g hF hD; have h22 : f 22 = (.slice none 0 0) := hD 7 22 (by kernel_rfl) rfl; rw [if_pos (wanted_none rfl)]; clear hF hD; exact gives_val (by simp only [execOp, evF, h22]; first | rfl | go_simp) ⟨Gr.refl _, rfl⟩
        · intro f w3 gg hD; obtain ⟨A9, c9, h23, hr9, hc9, hm9, ha9⟩ : ∃ A c, f 23 = .agg #[.slice A (p + 1) c] ∧ Rd w3 A ((l.take (p + 1)).map bv) ∧ p + 1 ≤ c ∧ c ≤ maxLen ∧ (∀ a, A = some a → W1.heap.size ≤ a.block) := hD 8 23 (by decide) rfl; have h6 : f 6 = .slice none 0 0 := hD 9 6 (by decide) rfl
          have hs := HRS1.out
          have hb3 : Below W1.heap.size W1 w3 := (below_drewN (Below.refl W1.heap.size W1) 1).trans gg
          have h43 := (hb3.block g4 (heap_lt HC1.out)).trans HC1.out
          have f43 := heap_free h43 0
          have x43 : w3.cell? ⟨g4, 0, none⟩ = some (.slice A' p c') := (by rw [heap_cell h43] <;> rfl)
          obtain ⟨W4, eW4⟩ : ∃ W4, W4 = w3.setCell ⟨g4, 0, none⟩ (.slice A9 (p + 1) c9) := ⟨_, rfl⟩
          have hb4 : Below w.heap.size w W4 := by rw [eW4]; exact below_set (HB1.out.trans (hb3.mono HB1.out.size)) g4 _ _ HG4.out
          have hc4 : W4.heap[g4]? = some (.cells #[.slice A9 (p + 1) c9] 141 (0, 0)) := by rw [eW4]; exact heap_set h43 0 _
          have ho3 : OwnR w3 w.heap.size u3 rs := Own.below hs.own hb3
          have ho4 : OwnR W4 w.heap.size u3 rs := by
            refine Own.frameK' ho3 (fun q hq => ?_); rw [eW4]; exact heap_far _ (fun e => hs.far (by rw [hq]; exact congrArg some e))
          have hf9 : ∀ a, A9 = some a → a.block ≠ g4 := fun a e => by have h1 := ha9 a e; have h2 : g4 < W1.heap.size := SG.out.1; omega
          have hq9 : ∀ b' off', A9 = some ⟨b', off', none⟩ → u3.ownBlock ≠ some b' := fun b' off' e e2 => by have h1 := ha9 _ e; have h2 := (Own.lt hs.own _ e2).2; exact absurd h2 (by simpa using h1)
          have hr4 : Rd W4 A9 ((l.take (p + 1)).map bv) := by
            rw [eW4]; exact Rd.far hr9 _ hf9
          have HB4 := Lib.hid hb4
          have HC4 := Lib.hid hc4
          have HO4 := Lib.hid ho4
          have HR4 := Lib.hid hr4
          have HF9 := Lib.hid hf9
          have HQ9 := Lib.hid hq9
          have EW4 := Lib.hid eW4
          simp only [List.drop_succ_cons, List.drop_zero, putAll, List.setIfInBounds_toArray, List.set_cons_zero, List.set_cons_succ, h6, h23]; clear hD gg hs hb3 hb4 hc4 ho3 ho4 hr4 hr9 ha9 h6 h23 h43 eW4 hf9 hq9
          go_upto_region 8 with (fail)
          rw [← EW4.out]; clear EW4
          go_wp2_with (at_builtin; go_must (refine wpList_appR _ rfl (.tmp 24) (.tmp 25) rfl w.heap.size u3 rs rfl HO4.out none 0 0 [] rfl rfl (.inl rfl) (by have := HRS1.out.few; omega) (Nat.le_trans HG4.out (Nat.le_of_lt (heap_lt HC4.out))) ?_); intro v7 w7 q7 hg7 hv7; have HV7 : Hid (v7.ownBlock = u3.ownBlock ∨ v7.ownBlock = some W4.heap.size) := Lib.hid hv7; have HG7 : Hid (W4.grownBy w7 u3.ownBlock) := Lib.hid hg7; have HQ7 := Lib.hid q7; clear q7 hg7 hv7)
          go_roundw
          case rel =>
            have hs := HRS1.out
            refine ⟨k + 1, pos, p + 1, A9, c9, rs, by omega, by go_num, Lib.hid ⟨?_, by simpa using HQ7.out, ?_, ?_, ?_, HF9.out, .inr ?_, hs.utf, hs.wd, ?_⟩, Lib.hid ?_⟩
            · have h1 := HKP.out; omega
            · rcases HV7.out with h | h
              · rw [h]; exact hs.far
              · rw [h]; intro e; injection e with e; have := heap_lt HC4.out; omega
            · exact (HG7.out.block g4 (heap_lt HC4.out) (fun e => hs.far e.symm)).trans HC4.out
            · rw [← EL.out]; exact Rd.grown HR4.out HG7.out HQ9.out
            · rw [← EL.out]; have h1 := HPW.out; have h2 := HW.out; omega
            · have := hs.few; omega
            · exact HB4.out.grown HG7.out HB4.out.size (fun q e => (Own.lt HO4.out q e).1)
          case measure => simp [intOf]; omega
    · have hkn : k = n := by omega
      have hlt' : ¬ ((k : Int) < (n : Int)) := by omega
      have hs := HS.out
      have hp0 : p = 0 := by
        rcases hs.mid with h | h
        · exact h
        · have h1 := hs.hk
          have h2 : (bs.drop pos).length = n - pos := by rw [List.length_drop, HN.out]
          by_cases hne : bs.drop pos = []
          · rw [hne] at h2
            have h3 : ([] : List UInt8).length = 0 := rfl
            omega
          have h3 := decodeL_le (bs.drop pos) hne
          omega
      have hend : wdV bs = wdAll rs := by
        have h1 := hs.hk
        have h2 := hs.wd
        rw [List.drop_of_length_le (by rw [HN.out]; omega), wdV_nil, Bool.and_true] at h2; exact h2
      have c4 : wr.cell? ⟨g4, 0, none⟩ = some (.slice A' p c') := (by rw [heap_cell hs.cell] <;> rfl)
      have HEND := Lib.hid hend
      have HP0 := Lib.hid hp0
      have HKN := Lib.hid hkn
      have HG4 : Hid (w.heap.size ≤ g4) := Lib.hid (by rw [EG4.out]; omega)
      clear hs hp0 hend hkn; rw [HP0.out] at c4
      go_upto_region 10 with (fail)
      go_wp2_with (first
        | (go_at_call 88; (refine (refEnd_c A' c' wr).mono ?_); rintro _ w3 ⟨rfl, hb3⟩; have HB3 := Lib.hid hb3; clear hb3)
        | (at_builtin; go_must (refine wpList_appR _ rfl (.tmp 28) (.tmp 30) rfl w.heap.size u3 rs rfl (Own.below HS.out.own HB3.out) none 0 0 [] rfl rfl (.inl rfl) (by have := HS.out.few; omega) (Nat.le_trans HB.out.size HB3.out.size) ?_); intro v7 w7 q7 hg7 hv7; have HG7 : Hid (w3.grownBy w7 u3.ownBlock) := Lib.hid hg7; have HQ7 := Lib.hid q7; clear q7 hg7 hv7))
      go_ret
      exact ⟨v7, rs, rfl, by simpa using HQ7.out, HEND.out, by have := HS.out.few; omega, (HB.out.trans (HB3.out.mono HB.out.size)).grown HG7.out (Nat.le_trans HB.out.size HB3.out.size) (fun q e => (Own.lt (Own.below HS.out.own HB3.out) q e).1)⟩
end Go.Proofs.YtndjggabdajbfaaGreatDoor



/- A screen as plain data and in memory: nine cells, its cells and its links elsewhere; when it may be. Conditions: none. -/
namespace Go.Proofs.YtndjggabdajbfaaGreatDoor
open Go Go.RowKit Go.Lib

structure ScD where
  cols : Int
  rows : Int
  cells : List CeD
  x : Int
  y : Int
  hid : Bool
  mouse : Int
  title : ByteArray
  links : List ByteArray
/-- The nine cells. -/
def scC (s : ScD) (A : Option Addr) (n c : Nat) (L : Option Addr) (m cm : Nat) : Array Value :=
  #[.int .i64 s.cols, .int .i64 s.rows, .slice A n c, .int .i64 s.x, .int .i64 s.y, .bool s.hid, .int .u8 s.mouse, .string s.title, .slice L m cm]
/-- May it be? -/
def rightS (s : ScD) : Bool := gridP s.cols s.rows s.cells && (lnkP s.cells s.links && (!decide (s.x < 0) && (!decide (s.cols ≤ s.x) && (!decide (s.y < 0) && (!decide (s.rows ≤ s.y) && (!decide (2 < s.mouse) && (!decide (64 < (s.title.size : Int)) && (utfV (strB s.title) && wdV (strB s.title)))))))))
/-- Its parts can be read, and are no greater than is gone through. -/
structure ScR (w : World) (s : ScD) (A : Option Addr) (n c : Nat) (L : Option Addr) (m cm : Nat) : Prop where
  hn : s.cells.length = n
  rd : RdC w A s.cells
  nc : n ≤ c
  nl : n ≤ 60000
  hm : s.links.length = m
  rt : RdT w L s.links
  mc : m ≤ cm
  ml : m ≤ 60000
  us : ∀ u ∈ s.links, u.size ≤ 140737488355328
  ok : okLn s.cells
  tl : s.title.size ≤ 1000000
theorem ScR.below {w w' : World} {s : ScD} {A : Option Addr} {n c : Nat} {L : Option Addr} {m cm : Nat} (h : ScR w s A n c L m cm) (hb : Below w.heap.size w w') : ScR w' s A n c L m cm :=
  ⟨h.hn, Rd.below h.rd hb, h.nc, h.nl, h.hm, Rd.below h.rt hb, h.mc, h.ml, h.us, h.ok, h.tl⟩
/-- A screen in a block. -/
def ScB (w : World) (g : Nat) (s : ScD) (A : Option Addr) (n c : Nat) (L : Option Addr) (m cm : Nat) : Prop := w.heap[g]? = some (.cells (scC s A n c L m cm) 25 (0, 0))
theorem ScB.nine {w : World} {g : Nat} {s : ScD} {A : Option Addr} {n c : Nat} {L : Option Addr} {m cm : Nat} (h : ScB w g s A n c L m cm) :
    w.cell? ⟨g, 0, none⟩ = some (.int .i64 s.cols) ∧ w.cell? ⟨g, 1, none⟩ = some (.int .i64 s.rows) ∧ w.cell? ⟨g, 2, none⟩ = some (.slice A n c) ∧ w.cell? ⟨g, 3, none⟩ = some (.int .i64 s.x) ∧ w.cell? ⟨g, 4, none⟩ = some (.int .i64 s.y) ∧
    w.cell? ⟨g, 5, none⟩ = some (.bool s.hid) ∧ w.cell? ⟨g, 6, none⟩ = some (.int .u8 s.mouse) ∧ w.cell? ⟨g, 7, none⟩ = some (.string s.title) ∧ w.cell? ⟨g, 8, none⟩ = some (.slice L m cm) :=
  ⟨heap_cell h 0, heap_cell h 1, heap_cell h 2, heap_cell h 3, heap_cell h 4, heap_cell h 5, heap_cell h 6, heap_cell h 7, heap_cell h 8⟩
theorem ScB.below {w w' : World} {g : Nat} {s : ScD} {A : Option Addr} {n c : Nat} {L : Option Addr} {m cm : Nat} (h : ScB w g s A n c L m cm) (hb : Below w.heap.size w w') : ScB w' g s A n c L m cm := (hb.block g (heap_lt h)).trans h
theorem rightS_cases (s : ScD) :
    (gridP s.cols s.rows s.cells = false ∧ rightS s = false) ∨
    (gridP s.cols s.rows s.cells = true ∧ lnkP s.cells s.links = false ∧ rightS s = false) ∨
    (gridP s.cols s.rows s.cells = true ∧ lnkP s.cells s.links = true ∧
      ((!decide (s.x < 0) && (!decide (s.cols ≤ s.x) && (!decide (s.y < 0) && (!decide (s.rows ≤ s.y) && (!decide (2 < s.mouse) && !decide (64 < (s.title.size : Int))))))) = false ∧ rightS s = false)) ∨
    (gridP s.cols s.rows s.cells = true ∧ lnkP s.cells s.links = true ∧ decide (s.x < 0) = false ∧ decide (s.cols ≤ s.x) = false ∧ decide (s.y < 0) = false ∧ decide (s.rows ≤ s.y) = false ∧ decide (2 < s.mouse) = false ∧ decide (64 < (s.title.size : Int)) = false ∧ rightS s = (utfV (strB s.title) && wdV (strB s.title))) := by
  unfold rightS
  generalize gridP s.cols s.rows s.cells = b1
  generalize lnkP s.cells s.links = b2
  generalize decide (s.x < 0) = b3
  generalize decide (s.cols ≤ s.x) = b4
  generalize decide (s.y < 0) = b5
  generalize decide (s.rows ≤ s.y) = b6
  generalize decide (2 < s.mouse) = b7
  generalize decide (64 < (s.title.size : Int)) = b8
  generalize (utfV (strB s.title) && wdV (strB s.title)) = b9
  cases b1 <;> cases b2 <;> cases b3 <;> cases b4 <;> cases b5 <;> cases b6 <;> cases b7 <;> cases b8 <;> simp
set_option maxRecDepth 100000 in
/-- '[]byte(s)', as a run. -/
theorem conv_run (w : World) (s : ByteArray) (hl : s.size ≤ 140737488355328) : ∃ A c w', (convert 9 26 (.string s)).run Tryz.prog w = .ok (.slice A s.size c) w' ∧ Rd w' A ((strB s).map bv) ∧ s.size ≤ c ∧ c ≤ maxLen ∧ Below w.heap.size w w' := by
  have hrun := Lib.run_convert_string_bytes (P := Tryz.prog) w 9 26 5 s Tryz.underlying9 Tryz.underlying26 Tryz.underlying5
  refine ⟨_, _, _, hrun, .inr ⟨w.heap.size, 0, rfl, by rw [Lib.bytesWorld_size]; omega, fun k hk => ?_⟩, grownCap_ge w _ _ _, grownCap_le_maxLen w _ _ _ (by unfold maxLen; omega), rfl, ?_, ?_, by rw [Lib.bytesWorld_size]; omega, fun k hk => Lib.bytesWorld_at_old w _ s k hk⟩
  · rw [List.length_map, strB_len] at hk
    rw [Nat.zero_add, Lib.bytesWorld_cell w _ s k hk, List.getElem_map]
    congr 1
    unfold bv strB List.getD
    rw [List.getElem?_eq_getElem (by rw [Array.length_toList]; exact hk)]
    rfl
  · simp [Lib.bytesWorld, World.freeze, World.alloc, World.drew, -World.alloc_eq, -World.drew_eq]
  · simp [Lib.bytesWorld, World.freeze, World.alloc, World.drew, -World.alloc_eq, -World.drew_eq]
end Go.Proofs.YtndjggabdajbfaaGreatDoor


