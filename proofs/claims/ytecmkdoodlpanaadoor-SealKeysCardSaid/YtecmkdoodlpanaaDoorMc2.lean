/- What the inner function of mac.coder and mac.Code answer. Conditions: the table stands; lengths that fit. -/
import Derived.Test.YtecmkdoodlpanaaDoorMc1
import Derived.Test.YtecmkdoodlpanaaDoorOp2
namespace Go.Proofs.YtecmkdoodlpanaaDoor
open Go Go.RowKit
attribute [local go_sem] wv_store bv_store bv_cells no_cells bv_cellsOf

theorem SlL.append {w : World} {a b : List Value} {x y : List (List UInt8)} (h : SlL w a x) (k : SlL w b y) : SlL w (a ++ b) (x ++ y) := by
  refine ⟨by rw [List.length_append, List.length_append, h.1, k.1], fun j g1 g2 => ?_⟩
  rcases Nat.lt_or_ge j a.length with hj | hj
  · obtain ⟨A, c, q1, q2, q3, q4⟩ := h.2 j hj (by have := h.1; omega)
    rw [List.getElem_append_left hj, List.getElem_append_left (by have := h.1; omega)]
    exact ⟨A, c, q1, q2, q3, q4⟩
  · have hx : x.length ≤ j := by have := h.1; omega
    rw [List.getElem_append_right hj, List.getElem_append_right hx]
    have e : j - a.length = j - x.length := by have := h.1; omega
    obtain ⟨A, c, q⟩ := k.2 (j - x.length) (by rw [List.length_append] at g1; have := h.1; omega) (by rw [List.length_append] at g2; omega)
    refine ⟨A, c, ?_⟩
    simp only [e]
    exact q
theorem RdS.sll {w : World} {A : Option Addr} {bss : List (List UInt8)} (h : RdS w A bss) : ∃ vs, Rd w A vs ∧ SlL w vs bss ∧ ∀ u ∈ vs, u.oneCell' = true := by
  rcases h with rfl | ⟨b, off, rfl, hlt, hc⟩
  · exact ⟨[], .inl rfl, SlL.nil_ w, by simp⟩
  · obtain ⟨vs, h1, h2⟩ := list_of_all (Q := fun k u => ∃ h : k < bss.length, w.cell? ⟨b, off + k, none⟩ = some u ∧ ∃ Ak ck, u = .slice Ak bss[k].length ck ∧ Rd w Ak (bss[k].map bv) ∧ bss[k].length ≤ ck ∧ ck ≤ maxLen) bss.length (fun k hk => by
      obtain ⟨Ak, ck, g1, g2⟩ := hc k hk
      exact ⟨_, hk, g1, Ak, ck, rfl, g2⟩)
    refine ⟨vs, .inr ⟨b, off, rfl, hlt, fun k hk => ?_⟩, ⟨h1, fun j g1 g2 => ?_⟩, fun u hu => ?_⟩
    · obtain ⟨_, g, _⟩ := h2 k hk
      exact g
    · obtain ⟨_, _, Ak, ck, q⟩ := h2 j g1
      exact ⟨Ak, ck, q⟩
    · obtain ⟨i, hi, rfl⟩ := List.mem_iff_getElem.1 hu
      obtain ⟨_, _, Ak, ck, q, _⟩ := h2 i hi
      rw [q]; rfl

/-- 'append([][]byte{x}, parts...)', the one laid in a new block. -/
theorem wpList_appSs (w : World) {ops : Array Oper} {rest : List Oper} {o : Oper} {a : Act} {Q : Exit → Act → World → Prop} (hgd : o.guard = none) (s x : Operand)
    (ho : o.op = .call { callee := .builtin .append, args := #[s, x], argTypes := #[61, 61] })
    (Ax : Option Addr) (nx cx : Nat) (bx : List UInt8) (hbx : bx.length = nx) (hrx : Rd w Ax (bx.map bv)) (h1x : nx ≤ cx) (h2x : cx ≤ maxLen)
    (hs : a.eval s = .slice (some ⟨w.heap.size, 0, none⟩) 1 1) (A : Option Addr) (n c : Nat) (bss : List (List UInt8)) (hn : bss.length = n) (hr : RdS w A bss) (hx : a.eval x = .slice A n c) (hl : n ≤ 140737488351232 / 24)
    (h : ∀ A' c' w', RdS w' A' (bx :: bss) → Below w.heap.size w w' → wpList Tryd.prog ops Q rest (a.put o.dst (.slice A' (n + 1) c')) w') : wpList Tryd.prog ops Q (o :: rest) a (w.alloc (.cells #[.slice Ax nx cx] 22)) := by
  subst hn
  obtain ⟨vs, g1, g2, g3⟩ := hr.sll
  obtain ⟨i0, hi, hz0, hz1, hz2⟩ := info_parts info_sl
  have hown : Own (w.alloc (.cells #[.slice Ax nx cx] 22)) w.heap.size 22 (.slice (some ⟨w.heap.size, 0, none⟩) 1 1) [.slice Ax nx cx] := ⟨by simp, .inr ⟨w.heap.size, 1, _, by simp, Nat.le_refl _, heap_alloc_new w _, by simp, by decide, by simp, by simp⟩⟩
  refine wpList_app _ hgd s x 61 ho w.heap.size 22 i0 (.slice none 0 0) 24 Tryd.underlying61 hi hz0 hz1 hz2 rfl _ _ hs hown A bss.length c vs hx g2.1 (g1.alloc _) g3 (by simp; unfold maxLen; omega) (by simp; omega) (by simp) (fun v' w' k1 k2 _ => ?_)
  have hb : Below w.heap.size w w' := ((Below.refl _ _).alloc (Nat.le_refl _) _).grown k2 (by simp) (fun k e => by simp [Value.ownBlock] at e; omega)
  have hsl : SlL w ([.slice Ax nx cx] ++ vs) ([bx] ++ bss) := SlL.append ((SlL.nil_ w).snoc Ax nx cx bx hbx hrx h1x h2x) g2
  obtain ⟨A', c', rfl, hrs⟩ := SlL.rds hsl hb k1
  rw [show ([bx] ++ bss).length = bss.length + 1 by simp]
  exact h A' c' w' hrs hb

/-- A sum stored in an array that is there. -/
theorem wpList_storeSum (w : World) {ops : Array Oper} {rest : List Oper} {o : Oper} {a : Act} {Q : Exit → Act → World → Prop} (hgd : o.guard = none) (x y : Operand) (ho : o.op = .store 46 x y)
    (g : Nat) (b : List UInt8) (t : TypeId) (old : List UInt8) (hx : a.eval x = .pointer (some ⟨g, 0, none⟩)) (hy : a.eval y = sumV b) (hW : Bs w g t old) (o8 : old.length = 32)
    (h : ∀ w', Bs w' g t (sumL b) → w.grownBy w' (some g) → wpList Tryd.prog ops Q rest (a.put o.dst undef) w') : wpList Tryd.prog ops Q (o :: rest) a w :=
  wpList_storeA w hgd x y ho g _ hx (hy.trans (sumV_agg b)) t (sumL b) old rfl hW (sumL_len b) o8 h
theorem results_sum {fn : Func} {p : Tmp} (h : fn.results = #[.cell p 46]) (tmps : Array Value) (w : World) (g : Nat) (t : TypeId) (b : List UInt8) (hp : tmps.getD p undef = .pointer (some ⟨g, 0, none⟩)) (hW : Bs w g t (sumL b)) :
    (results fn tmps).run Tryd.prog w = .ok (sumV b) w := by
  rw [sumV_agg]
  exact results_a32 h tmps w g t (sumL b) hp hW (sumL_len b)

set_option maxRecDepth 100000 in
set_option maxHeartbeats 2000000 in
theorem inner_c (A : Option Addr) (n c : Nat) (bss : List (List UInt8)) (key : List UInt8) (p q g h B : Nat) (w : World) (hn : bss.length = n) (hr : RdS w A bss) (hl : n ≤ 5864062014634) (hf : bss.flatten.length ≤ 900000000)
    (h2 : Two w B p q g h (xorL 54 (padK (keyL key))) (xorL 92 (padK (keyL key)))) (hT : Tab w) :
    Calls Tryd.prog 39 #[.slice A n c, .pointer (some ⟨p, 0, none⟩), .pointer (some ⟨q, 0, none⟩)] w fun e w' => e = .returned (sumV (codeB key bss.flatten)) ∧ Below w.heap.size w w' := by
  have HN := Lib.hid hn; clear hn
  have HT := Lib.hid hT; clear hT
  have H2 := Lib.hid h2; clear h2
  have hk1 : (xorL 54 (padK (keyL key))).length = 64 := by rw [xorL_len, padK_len (keyL_len key)]
  have hk2 : (xorL 92 (padK (keyL key))).length = 64 := by rw [xorL_len, padK_len (keyL_len key)]
  have HK1 := Lib.hid hk1; clear hk1
  have HK2 := Lib.hid hk2; clear hk2
  have c4 := H2.out.cp
  have c5 := H2.out.cq
  have hp := heap_lt H2.out.hp
  have hq := heap_lt H2.out.hq
  have hinn : (innerB key bss.flatten).length ≤ 1000000000 := by rw [innerB_len]; omega
  have HINN := Lib.hid hinn; clear hinn
  have hco : (codeB key bss.flatten).length ≤ 1000000000 := by rw [codeB_len]; omega
  have HCO := Lib.hid hco; clear hco
  have z32 : (List.replicate 32 (0 : UInt8)).length = 32 := rfl
  go_enter Tryd.func39, Tryd.ntmps39
  have k1 : Below w.heap.size w (w.alloc (.cells #[.int .u8 0, .int .u8 0, .int .u8 0, .int .u8 0, .int .u8 0, .int .u8 0, .int .u8 0, .int .u8 0, .int .u8 0, .int .u8 0, .int .u8 0, .int .u8 0, .int .u8 0, .int .u8 0, .int .u8 0, .int .u8 0, .int .u8 0, .int .u8 0, .int .u8 0, .int .u8 0, .int .u8 0, .int .u8 0, .int .u8 0, .int .u8 0, .int .u8 0, .int .u8 0, .int .u8 0, .int .u8 0, .int .u8 0, .int .u8 0, .int .u8 0, .int .u8 0] 46)) := (Below.refl _ _).alloc (Nat.le_refl _) _
  have h3 := H2.out.below k1
  have H3 := Lib.hid h3; clear h3
  have hr1 := hr.below k1
  have hz := zeroA32 w
  have HZ := Lib.hid hz; clear hz
  go_wp2_with (first
    | (at_builtin; refine wpList_appSs (w.alloc (.cells #[.int .u8 0, .int .u8 0, .int .u8 0, .int .u8 0, .int .u8 0, .int .u8 0, .int .u8 0, .int .u8 0, .int .u8 0, .int .u8 0, .int .u8 0, .int .u8 0, .int .u8 0, .int .u8 0, .int .u8 0, .int .u8 0, .int .u8 0, .int .u8 0, .int .u8 0, .int .u8 0, .int .u8 0, .int .u8 0, .int .u8 0, .int .u8 0, .int .u8 0, .int .u8 0, .int .u8 0, .int .u8 0, .int .u8 0, .int .u8 0, .int .u8 0, .int .u8 0] 46)) rfl (.tmp 7) (.tmp 8) rfl (some ⟨g, 0, none⟩) 64 64 (xorL 54 (padK (keyL key))) HK1.out (Bs.rd H3.out.hg) (Nat.le_refl _) (by decide) (by rw [World.size_alloc]; rfl) A n c bss HN.out hr1 rfl (by omega) ?_; intro A9 c9 wa ha1 ha2; have HA1 := Lib.hid ha1; clear ha1))
  have k2 := k1.trans (ha2.mono k1.size)
  refine (Sum_v A9 (n + 1) c9 (xorL 54 (padK (keyL key)) :: bss) (innerB key bss.flatten) wa (by rw [List.length_cons, HN.out]) HA1.out (by omega) rfl HINN.out (Tab.below HT.out k2 HT.out.1)).mono ?_
  rintro e wb ⟨rfl, hb1⟩
  have k3 := k2.trans (hb1.mono k2.size)
  have h4 := (H3.out.below ha2).below hb1
  have H4 := Lib.hid h4; clear h4
  have hz2 := (HZ.out.below ha2).below hb1
  have HZ2 := Lib.hid hz2; clear hz2
  clear ha2 hb1 HA1 hr1 HZ H3 k1 k2
  go_wp2_with (first | ((with_reducible refine wpList_putSum wb rfl (.tmp 5) (.tmp 10) rfl (innerB key bss.flatten) rfl rfl ?_); intro wc hB hb4; have HB := Lib.hid hB; clear hB; have k4 := k3.trans (hb4.mono k3.size); have h5 := H4.out.below hb4; have H5 := Lib.hid h5; clear h5; have hz3 := HZ2.out.below hb4; have HZ3 := Lib.hid hz3; clear hz3; have s4 := k4.size; clear hb4))
  have c6 := H5.out.cq
  refine wp_region_still_tail 2 (by kernel_rfl) (by kernel_rfl) ?_
  simp only [List.take_succ_cons, List.take_zero, List.drop_succ_cons, List.drop_zero]
  change wpStill _ _ (wc.drewN 1) _ _ _
  repeat still_step
  refine wpStill_nil ?_
  change wpList _ _ _ _ _ (wc.drewN 1)
  go_wp2_with (fail)
  have a1 : Rd (wc.drewN 1) (some ⟨h, 0, none⟩) ((xorL 92 (padK (keyL key))).map bv) := (Bs.rd H5.out.hh).drewN 1
  have a2 : Rd (wc.drewN 1) (some ⟨wb.heap.size, 0, none⟩) ((sumL (innerB key bss.flatten)).map bv) := (Bs.rd HB.out).drewN 1
  have a3 : ∀ x ∈ [((some (⟨h, 0, none⟩ : Addr), 64, 64) : Option Addr × Nat × Nat), (some ⟨wb.heap.size, 0, none⟩, 32, 32)].zip [xorL 92 (padK (keyL key)), sumL (innerB key bss.flatten)], x.2.length = x.1.2.1 ∧ Rd (wc.drewN 1) x.1.1 (x.2.map bv) ∧ x.1.2.1 ≤ x.1.2.2 ∧ x.1.2.2 ≤ maxLen := by
    simp only [List.zip_cons_cons, List.zip_nil_right, List.forall_mem_cons]
    refine ⟨⟨HK2.out, a1, Nat.le_refl _, ?_⟩, ⟨sumL_len _, a2, Nat.le_refl _, ?_⟩, fun x hx => by cases hx⟩
    · decide
    · decide
  have r1 := RdS_lit (wc.drewN 1) _ _ 22 (by simp only [List.length_cons, List.length_nil]) a3
  clear a1 a2 a3
  simp only [List.map_cons, List.map_nil] at r1
  have k5 := (below_drewN k4 1).alloc s4 (.cells #[.slice (some ⟨h, 0, none⟩) 64 64, .slice (some ⟨wb.heap.size, 0, none⟩) 32 32] 22)
  refine (Sum_v _ 2 2 [xorL 92 (padK (keyL key)), sumL (innerB key bss.flatten)] (codeB key bss.flatten) _ rfl r1 (by omega) (by simp [codeB]) HCO.out (Tab.below HT.out k5 HT.out.1)).mono ?_
  rintro e wd ⟨rfl, hb5⟩
  have k6 := k5.trans (hb5.mono k5.size)
  have hz4 := ((HZ3.out.drewN 1).alloc (.cells #[.slice (some ⟨h, 0, none⟩) 64 64, .slice (some ⟨wb.heap.size, 0, none⟩) 32 32] 22)).below hb5
  clear r1 k5 hb5 c4 c5 c6
  go_wp2_with (first | ((with_reducible refine wpList_storeSum _ rfl (.tmp 4) (.tmp 14) rfl w.heap.size (codeB key bss.flatten) _ _ rfl rfl hz4 z32 ?_); intro we hw5 hg5))
  have hbw := k6.grown hg5 k6.size (fun k e => by injection e with e; omega)
  exact bodyPost_ret (v := sumV (codeB key bss.flatten)) (results_sum rfl _ _ w.heap.size _ _ rfl hw5) rfl ⟨rfl, hbw⟩

set_option maxRecDepth 100000 in
set_option maxHeartbeats 2000000 in
theorem Code_c (Ak : Option Addr) (nk ck : Nat) (key : List UInt8) (A : Option Addr) (n c : Nat) (bss : List (List UInt8)) (b : List UInt8) (w : World) (hnk : key.length = nk) (hrk : Rd w Ak (key.map bv)) (hck : nk ≤ ck) (hmk : ck ≤ maxLen) (hlk : nk ≤ 1000000000)
    (hn : bss.length = n) (hr : RdS w A bss) (hl : n ≤ 5864062014634) (hb : bss.flatten = b) (hf : b.length ≤ 900000000) (hT : Tab w) :
    Calls Tryd.prog 25 #[.slice Ak nk ck, .slice A n c] w fun e w' => e = .returned (sumV (codeB key b)) ∧ Below w.heap.size w w' := by
  have HN := Lib.hid hn; clear hn
  have HNK := Lib.hid hnk; clear hnk
  have HT := Lib.hid hT; clear hT
  have HBB := Lib.hid hb; clear hb
  have z32 : (List.replicate 32 (0 : UInt8)).length = 32 := rfl
  go_enter Tryd.func25, Tryd.ntmps25
  have k1 : Below w.heap.size w (w.alloc (.cells #[.int .u8 0, .int .u8 0, .int .u8 0, .int .u8 0, .int .u8 0, .int .u8 0, .int .u8 0, .int .u8 0, .int .u8 0, .int .u8 0, .int .u8 0, .int .u8 0, .int .u8 0, .int .u8 0, .int .u8 0, .int .u8 0, .int .u8 0, .int .u8 0, .int .u8 0, .int .u8 0, .int .u8 0, .int .u8 0, .int .u8 0, .int .u8 0, .int .u8 0, .int .u8 0, .int .u8 0, .int .u8 0, .int .u8 0, .int .u8 0, .int .u8 0, .int .u8 0] 46)) := (Below.refl _ _).alloc (Nat.le_refl _) _
  have hz := zeroA32 w
  have HZ := Lib.hid hz; clear hz
  go_wp2_with (fail)
  refine (coder_c Ak nk ck key _ HNK.out (hrk.below k1) hck hmk hlk (Tab.below HT.out k1 HT.out.1)).mono ?_
  rintro e wa ⟨p, q, g, h, rfl, h2, hb1⟩
  have H2 := Lib.hid h2; clear h2
  have k2 := k1.trans (hb1.mono k1.size)
  have HZ2 := Lib.hid (HZ.out.below hb1)
  clear hb1 HZ k1
  go_wp2_with (fail)
  refine (inner_c A n c bss key p q g h _ wa HN.out (hr.below k2) hl (by rw [HBB.out]; exact hf) H2.out (Tab.below HT.out k2 HT.out.1)).mono ?_
  rintro e wb ⟨rfl, hb2⟩
  rw [HBB.out]
  have k3 := k2.trans (hb2.mono k2.size)
  have hz3 := HZ2.out.below hb2
  clear hb2 HZ2
  go_wp2_with (first | ((with_reducible refine wpList_storeSum _ rfl (.tmp 4) (.tmp 8) rfl w.heap.size (codeB key b) _ _ rfl rfl hz3 z32 ?_); intro we hw5 hg5))
  have hbw := k3.grown hg5 k3.size (fun k e => by injection e with e; omega)
  exact bodyPost_ret (v := sumV (codeB key b)) (results_sum rfl _ _ w.heap.size _ _ rfl hw5) rfl ⟨rfl, hbw⟩
end Go.Proofs.YtecmkdoodlpanaaDoor
