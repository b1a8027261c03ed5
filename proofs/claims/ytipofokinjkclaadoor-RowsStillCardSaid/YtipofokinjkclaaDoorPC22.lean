/- Parts one behind the other: An append of a text in such a chain; one byte laid. Conditions: as told at each. -/
import Derived.Test.YtipofokinjkclaaDoorPC21
import Derived.Test.YtipofokinjkclaaDoorPC9
import Derived.Test.YtipofokinjkclaaDoorPC12
import Derived.Lib.AppendStr

set_option linter.unusedVariables false
set_option linter.unusedSimpArgs false
/- An append of a text in such a chain; one byte laid. Conditions: as there. -/
namespace Go.Proofs.YtipofokinjkclaaDoor
open Go Go.RowKit

section
variable {F : List UInt8} {B L : Nat}
/-- One append of a text. -/
theorem OutV.appStr {P : Program} {w : World} {v : Value} {k m : Nat} {ty : TypeId} {i0 : TypeInfo} (ht : P.underlying 29 = some (.slice 5)) (hi : P.info? 5 = some i0) (hz : i0.zero = some (.int .u8 0)) (hz1 : i0.size = 1) (hz2 : i0.bytes = 1) (hu : P.underlying 9 = some .string)
    (h : OutV F B L k w v) (st : ByteArray) (hm0 : st.size = m) (ns : List UInt8) (hns : ns = strB st) (hF : (F.drop k).take m = ns) (hsm : k + m ≤ 100000000) (h0 : 0 < L) (hB : B ≤ w.heap.size) :
    ∃ v' w', (Builtin.append_ #[29, 9] ty #[v, .string st]).run P w = .ok v' w' ∧ OutV F B L (k + m) w' v' ∧ Hc F B L w w' := by
  have hm : ns.length = m := by rw [hns, strB_len]; exact hm0
  have hsc : Lib.strCells st = ns.map bv := by rw [hns]; rfl
  have hown := h.own
  obtain ⟨g, cur, cc, rfl, hBg, hg, hs, hL, hk, hmx, hFl, hc⟩ := h
  have hkm : k + m ≤ F.length := by
    have := congrArg List.length hF
    rw [List.length_take, List.length_drop, hm] at this
    omega
  have hFi : ∀ j, j < m → F[k + j]? = ns[j]? := fun j hj => by rw [← hF, List.getElem?_take, if_pos hj, List.getElem?_drop]
  by_cases hroom : k + m ≤ cc
  · have hrun := Lib.run_append_room_string (P := P) w 29 9 ty 5 i0 ht hu hi hz1 g k cc cur hg st (by omega) (by omega)
    rw [hsc, hm0] at hrun
    obtain ⟨D, eD⟩ : ∃ D, D = (cur.toList.take k ++ ns.map bv ++ cur.toList.drop (k + m)).toArray := ⟨_, rfl⟩
    rw [← eD] at hrun
    have hDs : D.size = cur.size := by rw [eD]; simp [hm]; omega
    have hD1 : ∀ i, i < k → D[i]? = cur[i]? := fun i hi => by
      rw [eD, List.getElem?_toArray, List.append_assoc, List.getElem?_append_left (by simp; omega), List.getElem?_take, if_pos hi]; simp
    have hD2 : ∀ j, j < m → D[k + j]? = (ns.map bv)[j]? := fun j hj => by
      rw [eD, List.getElem?_toArray, List.append_assoc, List.getElem?_append_right (by simp; omega), List.getElem?_append_left (by simp; omega)]
      congr 1; simp; omega
    have hD3 : ∀ i, k + m ≤ i → D[i]? = cur[i]? := fun i hi => by
      rw [eD, List.getElem?_toArray, List.getElem?_append_right (by simp [hm]; omega), List.getElem?_drop]
      have : k + m + (i - (cur.toList.take k ++ ns.map bv).length) = i := by simp [hm]; omega
      rw [this]; simp
    have hnew : ∀ (i : Nat) (x : UInt8), i < k + m → k ≤ i → F[i]? = some x → D[i]? = some (bv x) := fun i x h1 h2 hx => by
      have e := hFi (i - k) (by omega)
      rw [show k + (i - k) = i by omega, hx] at e
      have := hD2 (i - k) (by omega)
      rw [show k + (i - k) = i by omega, List.getElem?_map, ← e] at this
      exact this
    refine ⟨_, _, hrun, ⟨g, D, cc, rfl, hBg, setRow_heap w g cur _ _ _ hg, hDs.trans hs, by omega, hroom, hmx, hkm, fun i x hi' hx => ?_⟩, ⟨⟨rfl, rfl, rfl, by simp, fun q hq => setRow_other w g q _ (by omega)⟩, fun j hj => ?_⟩⟩
    · rcases Nat.lt_or_ge i k with h1 | h1
      · rw [hD1 i h1]; exact hc i x h1 hx
      · exact hnew i x hi' h1 hx
    · by_cases e : j = g
      · subst e
        refine .inr ⟨cur, D, hg, setRow_heap w j cur _ _ _ hg, hDs, by omega, fun i x hx hcx => ?_⟩
        rcases Nat.lt_or_ge i k with h1 | h1
        · rw [hD1 i h1]; exact hcx
        · rcases Nat.lt_or_ge i (k + m) with h2 | h2
          · exact hnew i x h2 h1 hx
          · rw [hD3 i h2]; exact hcx
      · exact .inl (setRow_other w g j _ e)
  · have hx : (F.take k ++ ns) = F.take (k + m) := by rw [List.take_add, hF]
    have htl : (F.take k).length = k := by rw [List.length_take]; omega
    have holds : ∀ j u, ((F.take k).map bv)[j]? = some u → w.cell? ((⟨g, 0, none⟩ : Addr).add j) = some u := by
      have := hown.cells (g := g) rfl
      exact this
    obtain ⟨v', w', r1, r2, r3, _⟩ := Lib.run_append_own_string (P := P) w B 29 9 ty 5 i0 ht hu hi hz hz1 hz2 _ _ ((F.take k).map bv) hown st (by rw [List.length_map, htl]; unfold maxLen; omega) (by rw [List.length_map, htl]; omega) hB
    rw [hsc] at r2
    have r4 := Lib.run_append_grow_string (P := P) w 29 9 ty 5 i0 (.int .u8 0) ht hu hi hz ⟨g, 0, none⟩ k cc ((F.take k).map bv) (by rw [List.length_map, htl, hz1, Nat.mul_one]) holds st (by omega) (by omega) (growslice_fits (by omega) (by rw [hz2]; omega))
    have e := r4.symm.trans r1
    injection e with e1 e2
    have hbw : Below w.heap.size w w' := by rw [← e2]; exact (show Below w.heap.size w w.drew from below_drewN (Below.refl _ _) 1).alloc (Nat.le_refl _) _
    refine ⟨v', w', r1, ?_, Hc.of hB hbw⟩
    have r2' : OwnB w' B v' (F.take (k + m)) := by
      rw [← hx]
      rw [List.length_map, htl, hm0] at r2
      unfold OwnB Own
      rw [List.length_map, List.length_append, htl, hm, List.map_append]
      exact r2
    have hl2 : (F.take (k + m)).length = k + m := by rw [List.length_take]; omega
    have := OutV.of (F := F) (L := L) r2' ⟨F.drop (k + m), (List.take_append_drop _ _).symm⟩ (by omega)
    rw [hl2] at this
    exact this (by omega)
end
theorem gives_appStr {F : List UInt8} {B L : Nat} {o : Oper} {f : Nat → Value} {w : World} (x y : Operand) (ho : o.op = .call { callee := .builtin .append, args := #[x, y], argTypes := #[29, 9] })
    (k m : Nat) (st : ByteArray) (hm : st.size = m) (hx : OutV F B L k w (evF f x)) (hy : evF f y = .string st) (hF : (F.drop k).take m = strB st) (hsm : k + m ≤ 100000000) (h0 : 0 < L) (hB : B ≤ w.heap.size) :
    Gives Tryd.prog o f w (fun v w'' => Hc F B L w w'' ∧ OutV F B L (k + m) w'' v) := by
  obtain ⟨i0, hi, hz0, hz1, hz2⟩ := info_parts info_u8
  obtain ⟨v', w', hrun, h1, h2⟩ := OutV.appStr (P := Tryd.prog) (ty := o.type) Tryd.underlying29 hi hz0 hz1 hz2 Tryd.underlying9 hx st hm (strB st) rfl hF hsm h0 hB
  refine gives_val (v := v') (w' := w') ?_ ⟨h2, h1⟩
  unfold execOp
  simp only [ho, resolve, invoke, builtin, Sem.run_bind, Sem.run_pure, Result.andThen_ok, List.map_toArray, List.map_cons, List.map_nil, hy, hrun]
/-- One byte, laid in a block. -/
theorem gives_lit1 {F : List UInt8} {B L : Nat} {o : Oper} {f : Nat → Value} {w : World} (x : Operand) (ho : o.op = .buildSlice 29 1 #[(0, x)]) (X : Value) (b : UInt8) (hx : evF f x = X) (hX : X = bv b) (hL : 1 < L) (hB : B ≤ w.heap.size) :
    Gives Tryd.prog o f w (fun v w'' => Hc F B L w w'' ∧ SmallB L [b] w'' v) := by
  subst hX
  refine gives_val (v := .slice (some ⟨w.heap.size, 0, none⟩) 1 1) (w' := w.alloc (.cells #[bv b] 5)) ?_ ⟨Hc.of hB ((Below.refl _ _).alloc (Nat.le_refl _) _), w.heap.size, _, 1, rfl, heap_alloc_new w _, by simpa using hL, fun i y hy => ?_⟩
  · unfold execOp
    simp only [ho, List.map_toArray, List.map_cons, List.map_nil, hx]
    unfold bv
    go_simp
  · cases i with
    | zero => simp at hy; subst hy; rfl
    | succ i => simp at hy
def StpHT {F : List UInt8} {B L : Nat} (P : Program) (ops : Array Oper) (m : Nat) (a : Act) (W : World) (l : List (Rh F B L)) (i : Nat) (o : Oper) : Prop :=
  ∀ (f : Nat → Value) (w : World), Hc F B L W w → (∀ t, writesTo ops m t = false → f t = a.tmps.getD t undef) →
      (∀ j d, depOn ops i j = true → dstOf ops j = some d → rhOf l j w (f d)) → if Region.wanted o (yieldedF ops f) = true then Gives P o f w (fun v w'' => Hc F B L w w'' ∧ rhOf l i w'' v) else rhOf l i w undef
/-- The law, the last operations one behind the other. -/
theorem wp_region_rht {F : List UInt8} {B L : Nat} {P : Program} (n m : Nat) (l : List (Rh F B L)) (ws : List Nat) {id : Nat} {os : List Oper} {Q : Exit → Act → World → Prop} {a : Act} {w : World} (hm : P.follows .mixedOrders = true) (hn : a.tmps.size = n) (hok : slotsOk os.toArray n = true) (hws : allIn os.toArray ws = true)
    (hsz : m < os.toArray.size) (hwa : waitsAll os.toArray m = true) (hch : chained os.toArray m = true)
    (steps : AllFrom (StpHT P os.toArray m a w.drew l) 0 (os.take m))
    (fin : ∀ (f : Nat → Value) (w' : World), Hc F B L w.drew w' → (∀ j d, j < m → dstOf os.toArray j = some d → rhOf l j w' (f d)) → wpList P os.toArray Q (os.drop m) ⟨putAll f ws a.tmps, a.defers⟩ w') :
    (Code.region id os.toArray true).wp P Q a w := by
  refine wp_region_rel_tail n m hm hn hok hsz hwa hch (Hc F B L) (rhOf l) (Hc.refl F B L) Hc.trans (fun j _ _ _ h g => (l.getD j Rh.any).mono h g) (fun i o' hi ho => ?_) (fun f w' g hF hD => ?_)
  · exact AllFrom.outT os m steps i o' hi (by simpa using ho)
  · have e : ((List.range n).map f).toArray = putAll f ws a.tmps := by
      apply Array.ext
      · rw [putAll_size, hn]; simp
      · intro t h1 h2
        have ht : t < n := by simpa using h1
        have h3 := putAll_get f ws a.tmps t (by rw [hn]; exact ht) (by
          by_cases hw : writesTo os.toArray m t = true
          · left
            obtain ⟨j, hj, hd⟩ := List.any_eq_true.1 hw
            have hd := beq_iff_eq.1 hd
            have := List.all_eq_true.1 hws j (List.mem_range.2 (by have := List.mem_range.1 hj; omega))
            rw [hd] at this
            simpa using this
          · right
            exact (hF t (by simpa using hw)).symm)
        have h4 : (putAll f ws a.tmps)[t] = f t := by
          rw [← h3]; simp [h2]
        rw [h4]; simp
    rw [e]
    simpa using fin f w' g hD
end Go.Proofs.YtipofokinjkclaaDoor
