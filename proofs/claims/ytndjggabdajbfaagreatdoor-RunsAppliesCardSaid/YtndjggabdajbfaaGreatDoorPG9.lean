/- Parts one behind the other: What utf.Valid answers: whether bytes are those of runes; What the reference's Encode answers: a rune's bytes; What the reference's whole answers: the rune whose bytes these are. Conditions: as told at each. -/
import Derived.Test.YtndjggabdajbfaaGreatDoorPG8
import Derived.Laws.BytesArg
import Derived.Lib.OthersKept

set_option linter.unusedVariables false
set_option linter.unusedSimpArgs false
/- What utf.Valid answers: whether bytes are those of runes. Conditions: bytes that can be read. -/
namespace Go.Proofs.YtndjggabdajbfaaGreatDoor
open Go Go.RowKit Go.Lib

set_option maxRecDepth 100000 in
/-- 'string(b)'. -/
theorem wpList_convS (w : World) {ops : Array Oper} {rest : List Oper} {o : Oper} {a : Act} {Q : Exit → Act → World → Prop} (hgd : o.guard = none) (x : Operand) (ho : o.op = Op.convert 26 9 x)
    (A : Option Addr) (n c : Nat) (bs : List UInt8) (hx : a.eval x = .slice A n c) (hn : bs.length = n) (hr : Rd w A (bs.map bv))
    (h : wpList Tryz.prog ops Q rest (a.put o.dst (.string ⟨bs.toArray⟩)) w) : wpList Tryz.prog ops Q (o :: rest) a w := by
  refine wpList_plain hgd fun K hK => ?_
  have hrun : (convert 26 9 (.slice A n c)).run Tryz.prog w = .ok (.string ⟨bs.toArray⟩) w := by
    rcases hr with hr | ⟨b, off, rfl, hb, hc⟩
    · have : bs = [] := by simpa using hr
      subst this
      cases A with
      | none => exact run_convert_bytes_nil w _ _ Tryz.underlying26 Tryz.underlying5 n c _ Tryz.underlying9
      | some ad =>
        simp at hn
        subst hn
        obtain ⟨b, off, spot⟩ := ad
        have := run_bytesToString (P := Tryz.prog) w ⟨b, off, spot⟩ 0 c [] (by rfl)
        rw [run_convert_bytes_string w _ _ _ _ 0 c Tryz.underlying26 Tryz.underlying5 Tryz.underlying9, this]
        rfl
    · have := run_convert_bytes_arg (P := Tryz.prog) w 26 5 Tryz.underlying26 Tryz.underlying5 b off n c (bs.map fun x => (x.toNat : Int)) (by rw [List.length_map]; exact hn) (fun i hi => by
        have hi' : i < bs.length := by omega
        rw [hc i (by rw [List.length_map]; exact hi')]
        simp [bv, List.getD, hi']) 9 Tryz.underlying9
      rw [this]
      congr 2
      unfold strOfNums
      congr 1
      rw [List.map_map]
      congr 1
      exact (List.map_congr_left (fun x _ => by simp)).trans (List.map_id bs)
  unfold Oper.wp execOp
  simp only [ho, hx, Sem.run_bind, Sem.run_pure, Result.andThen_ok, hrun]
  exact hK _ _ h
theorem enc_size (z : Int) (h : mayR z = true) : (Utf8.encode z).size = (encodeRune z).length := by
  have hm := h
  simp only [mayR, inR, Bool.or_eq_true, Bool.and_eq_true, decide_eq_true_eq] at hm
  have hv : Utf8.valid z = true := by
    unfold Utf8.valid
    simp only [Bool.or_eq_true, Bool.and_eq_true, decide_eq_true_eq]
    omega
  unfold Utf8.encode
  simp only [hv, if_true]
  rcases encodeRune_of z h with ⟨h1, e⟩ | ⟨h1, h2, e⟩ | ⟨h1, h2, e⟩ | ⟨h1, e⟩
  · rw [e, if_pos (by omega)]; rfl
  · rw [e, if_neg (by omega), if_pos (by omega)]; rfl
  · rw [e, if_neg (by omega), if_neg (by omega), if_pos (by omega)]; rfl
  · rw [e, if_neg (by omega), if_neg (by omega), if_neg (by omega)]; rfl
/-- A good rune's bytes are as many as it takes. -/
theorem good_size {l : List UInt8} (hne : l ≠ []) (hb : badD l = false) : (Utf8.encode ((decodeL l).1 : Int)).size = (decodeL l).2 := by
  have e := encode_decode l hne (by simpa [badD] using hb)
  rw [enc_size _ (mayR_decode l), e, List.length_take]
  have := decodeL_le l hne
  omega
theorem fffd_bytes : encodeRune 65533 = [239, 191, 189] := by decide
theorem good_fffd {l : List UInt8} (hne : l ≠ []) (hb : badD l = false) (h : (decodeL l).1 = 65533) : l.take 3 = [239, 191, 189] := by
  have e := encode_decode l hne (by simpa [badD] using hb)
  rw [h] at e
  have e2 : encodeRune ((65533 : Nat) : Int) = [239, 191, 189] := fffd_bytes
  rw [e2] at e
  have hl := congrArg List.length e
  rw [List.length_take] at hl
  have := decodeL_le l hne
  have h3 : (decodeL l).2 = 3 := by simp at hl; omega
  rw [h3] at e
  exact e.symm
theorem bad_fffd {l : List UInt8} (hb : badD l = true) : l.take 3 ≠ [239, 191, 189] := by
  intro e
  have h1 : l = encodeRune 65533 ++ l.drop 3 := by rw [fffd_bytes, ← e, List.take_append_drop]
  have h2 := decode_enc 65533 (by decide) (l.drop 3)
  rw [← h1] at h2
  unfold badD at hb
  rw [h2] at hb
  revert hb
  decide
theorem get3 {bs l : List UInt8} {pos : Nat} {x y z : UInt8} {rest : List UInt8} (el : l = bs.drop pos) (h : l = x :: y :: z :: rest) :
    (∀ h0 : pos < bs.length, bs[pos] = x) ∧ (∀ h1 : pos + 1 < bs.length, bs[pos + 1] = y) ∧ (∀ h2 : pos + 2 < bs.length, bs[pos + 2] = z) := by
  have hd : bs.drop pos = x :: y :: z :: rest := by rw [← el, h]
  have g : ∀ j (hj : pos + j < bs.length), (bs.drop pos)[j]? = some bs[pos + j] := fun j hj => by rw [List.getElem?_drop, List.getElem?_eq_getElem hj]
  refine ⟨fun h0 => ?_, fun h1 => ?_, fun h2 => ?_⟩
  · have := g 0 h0; rw [hd] at this; injection this with this; exact this.symm
  · have := g 1 h1; rw [hd] at this; injection this with this; exact this.symm
  · have := g 2 h2; rw [hd] at this; injection this with this; exact this.symm
theorem drop_cons3 {l : List UInt8} (h : 3 ≤ l.length) : ∃ x y z r, l = x :: y :: z :: r := by
  match l, h with
  | x :: y :: z :: r, _ => exact ⟨x, y, z, r, rfl⟩
set_option maxRecDepth 100000 in
set_option maxHeartbeats 16000000 in
theorem utfValid_c (A : Option Addr) (n c : Nat) (bs : List UInt8) (w : World) (hn : bs.length = n) (hr : Rd w A (bs.map bv)) (hl : n ≤ 1000000) :
    Calls Tryz.prog 54 #[.slice A n c] w fun e w' => e = .returned (.bool (utfV bs)) ∧ Below w.heap.size w w' := by
  obtain ⟨R, eR⟩ : ∃ R, utfV bs = R := ⟨_, rfl⟩
  rw [eR]
  have ER := Lib.hid eR
  have HN := Lib.hid hn
  have HRD := Lib.hid hr
  obtain ⟨s, es⟩ : ∃ s : ByteArray, s = ⟨bs.toArray⟩ := ⟨_, rfl⟩
  have HSD : Hid (s.data.toList = bs) := Lib.hid (by rw [es])
  have HSS : Hid (s.size = n) := Lib.hid (by rw [es, ← hn]; rfl)
  have ES := Lib.hid es
  clear eR hn hr es
  go_enter Tryz.func54, Tryz.ntmps54
  go_wp2_with (refine wpList_convS _ rfl (.tmp 6) rfl A n c bs rfl HN.out HRD.out ?_; rw [← ES.out])
  obtain ⟨g, eg⟩ : ∃ g, g = w.heap.size := ⟨_, rfl⟩
  have EG := Lib.hid eg
  rw [← eg]
  clear eg
  go_loopw [3] (fun nv wr => ∃ pos : Nat, pos ≤ n ∧ nv = .int .i64 pos ∧ Hid (R = utfV (bs.drop pos)) ∧ Hid (wr.heap[g]? = some (.stringIter s pos)) ∧ Hid (Below w.heap.size w wr)) (fun _ wr => n - wr.iterPos g)
  case atStart =>
    refine ⟨0, Nat.zero_le _, rfl, Lib.hid ER.out.symm, Lib.hid ?_, Lib.hid ?_⟩
    · rw [EG.out]
      have := World.iter_heap w s 0
      simpa using this
    · exact (Below.refl _ _).alloc (Nat.le_refl _) _
  case round =>
    obtain ⟨pos, hp, rfl, HG, HIT, HB⟩ := hrel
    rcases Nat.lt_or_ge pos n with hlt | hge
    · have hps : pos < s.size := by rw [HSS.out]; exact hlt
      obtain ⟨l, el⟩ : ∃ l, l = bs.drop pos := ⟨_, rfl⟩
      have hll : l.length = n - pos := by rw [el, List.length_drop, HN.out]
      have hne : l ≠ [] := by intro e; rw [e] at hll; simp at hll; omega
      obtain ⟨r, wd, hdec⟩ : ∃ r wd, decodeL l = (r, wd) := ⟨_, _, rfl⟩
      have hdc : Utf8.decode s pos = (r, wd) := by rw [← hdec, el, ← HSD.out, decodeL_drop]
      have hw1 : 1 ≤ wd := by have := decodeL_width l; rw [hdec] at this; exact this
      have hw2 : wd ≤ n - pos := by have := decodeL_le l hne; rw [hdec, hll] at this; exact this
      have hr1 : (r : Int) ≤ 1114111 := by have := mayR_decode l; rw [hdec] at this; simp only [mayR, inR, Bool.or_eq_true, Bool.and_eq_true, decide_eq_true_eq] at this; omega
      obtain ⟨W1, eW1⟩ : ∃ W1, W1 = wr.iterAt g s (pos + wd) := ⟨_, rfl⟩
      have hnx : ∀ ty, (Instr.next (.pointer (some ⟨g, 0, none⟩)) true ty).run Tryz.prog wr = .ok (.tuple #[.bool true, .int .i64 pos, .int .i32 (r : Int)]) W1 := fun ty => by
        have := Lib.run_next_any_at (P := Tryz.prog) wr g s pos ty HIT.out hps
        rw [hdc] at this
        rw [eW1]; exact this
      have HIT1 : Hid (W1.heap[g]? = some (.stringIter s (pos + wd))) := Lib.hid (by rw [eW1]; exact Lib.iterAt_heap wr g s pos (pos + wd) HIT.out)
      have HB1 : Hid (Below w.heap.size w W1) := Lib.hid (by rw [eW1]; exact Lib.below_iterAt HB.out (Nat.le_of_eq EG.out.symm) s (pos + wd))
      have hst : Hid (R = (!badD l && utfV (bs.drop (pos + wd)))) := Lib.hid (by
        rw [HG.out, ← el, utfV_step l hne, hdec, el, List.drop_drop])
      have hmeas : Hid (wr.iterPos g = pos) := Lib.hid (by simp [World.iterPos, HIT.out])
      have hmeas1 : Hid (W1.iterPos g = pos + wd) := Lib.hid (by simp [World.iterPos, HIT1.out])
      have HDEC := Lib.hid hdec
      have HLL := Lib.hid hll
      have EL := Lib.hid el
      have HNE := Lib.hid hne
      clear hdc hps hdec hll hne el eW1
      cases hbd : badD l
      · have hz : (Utf8.encode (r : Int)).size = wd := by have := good_size HNE.out hbd; rw [HDEC.out] at this; exact this
        have HG2 : Hid (R = utfV (bs.drop (pos + wd))) := Lib.hid (by rw [hst.out, hbd]; rfl)
        by_cases hr0 : (r : Int) = 65533
        · have h3 := good_fffd HNE.out hbd (by rw [HDEC.out]; omega)
          have hl3 : 3 ≤ n - pos := by
            have := congrArg List.length h3
            rw [List.length_take, HLL.out] at this
            simp at this; omega
          obtain ⟨x, y, z, rest, hxyz⟩ := drop_cons3 (l := l) (by rw [HLL.out]; exact hl3)
          rw [hxyz] at h3
          simp only [List.take_succ_cons, List.take_zero, List.cons.injEq, and_true] at h3
          obtain ⟨rfl, rfl, rfl⟩ := h3
          obtain ⟨b, off, rfl, hb, hc⟩ := (HRD.out.below HB1.out).addrB (by rw [HN.out]; omega)
          have hx := get3 (bs := bs) (pos := pos) (l := l) EL.out hxyz
          have c0 := hc pos (by rw [HN.out]; omega)
          have c1 := hc (pos + 1) (by rw [HN.out]; omega)
          have c2 := hc (pos + 2) (by rw [HN.out]; omega)
          rw [hx.1] at c0
          rw [hx.2.1] at c1
          rw [hx.2.2] at c2
          have e1 : ((r : Int) == 65533) = true := beq_iff_eq.2 hr0
          have d3 : decide ((n : Int) - (pos : Int) < 3) = false := decide_eq_false (by omega)
          have b0 : bv 239 = .int .u8 239 := rfl
          have b1 : bv 191 = .int .u8 191 := rfl
          have b2 : bv 189 = .int .u8 189 := rfl
          rw [b0] at c0
          rw [b1] at c1
          rw [b2] at c2
          have hlt' : (pos : Int) < (n : Int) := by omega
          have hl1 : (pos : Int) + 1 < (n : Int) := by omega
          have hl2 : (pos : Int) + 2 < (n : Int) := by omega
          clear hc hx hxyz hbd hst hr0 b0 b1 b2
          go_wp2_with (fail)
          go_roundw
          case rel => exact ⟨pos + wd, by omega, by go_num, HG2, HIT1, HB1⟩
          case measure => rw [hmeas.out, hmeas1.out]; omega
        · have e1 : ((r : Int) == 65533) = false := by rw [beq_eq_false_iff_ne]; exact hr0
          clear hst hbd hr0
          go_wp2_with (fail)
          go_roundw
          case rel => exact ⟨pos + wd, by omega, by go_num, HG2, HIT1, HB1⟩
          case measure => rw [hmeas.out, hmeas1.out]; omega
      · have hRf : Hid (R = false) := Lib.hid (by rw [hst.out, hbd]; rfl)
        have hr0 : r = 65533 := by have := hbd; rw [badD, HDEC.out] at this; exact (of_decide_eq_true this).1
        have h3 := bad_fffd hbd
        have hz : (Utf8.encode (r : Int)).size = 3 := by rw [hr0]; rfl
        have e1 : ((r : Int) == 65533) = true := by rw [hr0]; rfl
        clear hst hbd hr0
        rcases Nat.lt_or_ge (n - pos) 3 with q3 | q3
        · have d3 : decide ((n : Int) - (pos : Int) < 3) = true := decide_eq_true (by omega)
          clear h3
          go_wp2_with (fail)
          go_ret
          exact ⟨by rw [hRf.out] <;> rfl, HB1.out⟩
        · have d3 : decide ((n : Int) - (pos : Int) < 3) = false := decide_eq_false (by omega)
          obtain ⟨x, y, z, rest, hxyz⟩ := drop_cons3 (l := l) (by rw [HLL.out]; exact q3)
          obtain ⟨b, off, rfl, hb, hc⟩ := (HRD.out.below HB1.out).addrB (by rw [HN.out]; omega)
          have hx := get3 (bs := bs) (pos := pos) (l := l) EL.out hxyz
          have c0 := hc pos (by rw [HN.out]; omega)
          have c1 := hc (pos + 1) (by rw [HN.out]; omega)
          have c2 := hc (pos + 2) (by rw [HN.out]; omega)
          rw [hx.1] at c0
          rw [hx.2.1] at c1
          rw [hx.2.2] at c2
          unfold bv at c0 c1 c2
          have hlt' : (pos : Int) < (n : Int) := by omega
          have hl1 : (pos : Int) + 1 < (n : Int) := by omega
          have hl2 : (pos : Int) + 2 < (n : Int) := by omega
          rw [hxyz] at h3
          have h4 : ¬ (x.toNat = 239 ∧ y.toNat = 191 ∧ z.toNat = 189) := by
            rintro ⟨q1, q2, q3⟩
            apply h3
            have e1 : x = 239 := UInt8.toNat_inj.1 q1
            have e2 : y = 191 := UInt8.toNat_inj.1 q2
            have e3 : z = 189 := UInt8.toNat_inj.1 q3
            rw [e1, e2, e3]; rfl
          clear hc hx hxyz h3
          by_cases hx1 : x.toNat = 239
          · have n1 : (((x.toNat : Nat) : Int) != 239) = false := by rw [hx1]; rfl
            by_cases hy1 : y.toNat = 191
            · have n2 : (((y.toNat : Nat) : Int) != 191) = false := by rw [hy1]; rfl
              have n3 : (((z.toNat : Nat) : Int) != 189) = true := by rw [bne_iff_ne]; omega
              clear h4 hx1 hy1
              go_wp2_with (fail)
              go_ret
              exact ⟨by rw [hRf.out] <;> rfl, HB1.out⟩
            · have n2 : (((y.toNat : Nat) : Int) != 191) = true := by rw [bne_iff_ne]; omega
              clear h4 hx1 hy1
              go_wp2_with (fail)
              go_ret
              exact ⟨by rw [hRf.out] <;> rfl, HB1.out⟩
          · have n1 : (((x.toNat : Nat) : Int) != 239) = true := by rw [bne_iff_ne]; omega
            clear h4 hx1
            go_wp2_with (fail)
            go_ret
            exact ⟨by rw [hRf.out] <;> rfl, HB1.out⟩
    · obtain rfl : n = pos := by omega
      have hnx : ∀ ty, (Instr.next (.pointer (some ⟨g, 0, none⟩)) true ty).run Tryz.prog wr = .ok (.tuple #[.bool false]) wr := fun ty => Lib.run_next_end_at (P := Tryz.prog) wr g s n ty HIT.out (by rw [HSS.out]; omega)
      have hRt : Hid (R = true) := Lib.hid (by rw [HG.out, List.drop_of_length_le (by rw [HN.out]; omega)]; rfl)
      go_wp2_with (fail)
      go_ret
      exact ⟨by rw [hRt.out] <;> rfl, HB.out⟩
end Go.Proofs.YtndjggabdajbfaaGreatDoor



/- What the reference's Encode answers: a rune's bytes. Conditions: none. -/
namespace Go.Proofs.YtndjggabdajbfaaGreatDoor
open Go Go.RowKit Go.Lib

theorem OwnB_lit (w : World) (bs : List UInt8) (vs : Array Value) (hv : vs = (bs.map bv).toArray) (n : Nat) (hn : n = bs.length) (hm : bs.length ≤ 1000) : OwnB (w.alloc (.cells vs 5)) w.heap.size (.slice (some ⟨w.heap.size, 0, none⟩) n n) bs := by
  subst hv hn
  refine ⟨by rw [List.length_map, Nat.mul_one], .inr ⟨w.heap.size, bs.length, _, by rw [List.length_map], Nat.le_refl _, heap_alloc_new w _, by rw [List.length_map]; exact Nat.le_refl _, by unfold maxLen; omega, by rw [List.size_toArray, List.length_map, Nat.mul_one], by rw [List.length_map, Nat.mul_one]; exact List.take_of_length_le (by simp)⟩⟩
theorem bv_of (x : Int) (h0 : 0 ≤ x) (h1 : x < 256) : bv x.toNat.toUInt8 = .int .u8 x := by
  rw [bv, toNat_ofInt x h0 h1]
set_option maxRecDepth 100000 in
set_option maxHeartbeats 4000000 in
theorem refEncode1_c (k : Nat) (w : World) (hk : mayR k = true) (hb : k < 128) :
    Calls Tryz.prog 96 #[.int .i32 (k : Int)] w fun e w' => ∃ v, e = .returned v ∧ OwnB w' w.heap.size v (encodeRune k) ∧ Below w.heap.size w w' := by
  have hm := hk
  simp only [mayR, inR, Bool.or_eq_true, Bool.and_eq_true, decide_eq_true_eq] at hm
  have HK := Lib.hid hk
  have d0 : decide ((k : Int) < 128) = true := decide_eq_true (by omega)
  have hu : k ≤ 1114111 := by omega
  have HE : Hid (encodeRune k = [((k : Int)).toNat.toUInt8]) := Lib.hid (by
    have h := encodeRune_of k hk
    rcases h with ⟨q1, e⟩ | ⟨q1, q2, e⟩ | ⟨q1, q2, e⟩ | ⟨q1, e⟩ <;> first | exact e | omega)
  have HV : Hid ((#[.int .u8 ((k : Int))] : Array Value) = ((encodeRune k).map bv).toArray) := Lib.hid (by
    rw [HE.out]
    simp only [List.map_cons, List.map_nil]
    rw [bv_of ((k : Int)) (by omega) (by omega)])
  have kb : Below w.heap.size w (w.alloc (.cells #[.int .u8 ((k : Int))] 5)) := (Below.refl _ _).alloc (Nat.le_refl _) _
  clear hk hm
  go_enter Tryz.func96, Tryz.ntmps96
  go_wp2_with (go_at_call 89; refine (refMayR_c _ _).mono ?_; rintro _ wq ⟨rfl, hq⟩; rw [HK.out, hq]; clear hq wq)
  go_ret
  exact ⟨_, rfl, OwnB_lit w _ _ HV.out _ (by rw [HE.out]; rfl) (by rw [HE.out]; simp), kb⟩
set_option maxRecDepth 100000 in
set_option maxHeartbeats 4000000 in
theorem refEncode2_c (k : Nat) (w : World) (hk : mayR k = true) (hb : 128 ≤ k ∧ k < 2048) :
    Calls Tryz.prog 96 #[.int .i32 (k : Int)] w fun e w' => ∃ v, e = .returned v ∧ OwnB w' w.heap.size v (encodeRune k) ∧ Below w.heap.size w w' := by
  have hm := hk
  simp only [mayR, inR, Bool.or_eq_true, Bool.and_eq_true, decide_eq_true_eq] at hm
  have HK := Lib.hid hk
  have d0 : decide ((k : Int) < 128) = false := decide_eq_false (by omega)
  have d1 : decide ((k : Int) < 2048) = true := decide_eq_true (by omega)
  have hu : k ≤ 1114111 := by omega
  have HE : Hid (encodeRune k = [(192 + (k : Int) / 64).toNat.toUInt8, (128 + (k : Int) % 64).toNat.toUInt8]) := Lib.hid (by
    have h := encodeRune_of k hk
    rcases h with ⟨q1, e⟩ | ⟨q1, q2, e⟩ | ⟨q1, q2, e⟩ | ⟨q1, e⟩ <;> first | exact e | omega)
  have HV : Hid ((#[.int .u8 (192 + (k : Int) / 64), .int .u8 (128 + (k : Int) % 64)] : Array Value) = ((encodeRune k).map bv).toArray) := Lib.hid (by
    rw [HE.out]
    simp only [List.map_cons, List.map_nil]
    rw [bv_of (192 + (k : Int) / 64) (by omega) (by omega), bv_of (128 + (k : Int) % 64) (by omega) (by omega)])
  have kb : Below w.heap.size w (w.alloc (.cells #[.int .u8 (192 + (k : Int) / 64), .int .u8 (128 + (k : Int) % 64)] 5)) := (Below.refl _ _).alloc (Nat.le_refl _) _
  clear hk hm
  go_enter Tryz.func96, Tryz.ntmps96
  go_wp2_with (go_at_call 89; refine (refMayR_c _ _).mono ?_; rintro _ wq ⟨rfl, hq⟩; rw [HK.out, hq]; clear hq wq)
  go_ret
  exact ⟨_, rfl, OwnB_lit w _ _ HV.out _ (by rw [HE.out]; rfl) (by rw [HE.out]; simp), kb⟩
set_option maxRecDepth 100000 in
set_option maxHeartbeats 4000000 in
theorem refEncode3_c (k : Nat) (w : World) (hk : mayR k = true) (hb : 2048 ≤ k ∧ k < 65536) :
    Calls Tryz.prog 96 #[.int .i32 (k : Int)] w fun e w' => ∃ v, e = .returned v ∧ OwnB w' w.heap.size v (encodeRune k) ∧ Below w.heap.size w w' := by
  have hm := hk
  simp only [mayR, inR, Bool.or_eq_true, Bool.and_eq_true, decide_eq_true_eq] at hm
  have HK := Lib.hid hk
  have d0 : decide ((k : Int) < 128) = false := decide_eq_false (by omega)
  have d1 : decide ((k : Int) < 2048) = false := decide_eq_false (by omega)
  have d2 : decide ((k : Int) < 65536) = true := decide_eq_true (by omega)
  have hu : k ≤ 1114111 := by omega
  have HE : Hid (encodeRune k = [(224 + (k : Int) / 4096).toNat.toUInt8, (128 + (k : Int) / 64 % 64).toNat.toUInt8, (128 + (k : Int) % 64).toNat.toUInt8]) := Lib.hid (by
    have h := encodeRune_of k hk
    rcases h with ⟨q1, e⟩ | ⟨q1, q2, e⟩ | ⟨q1, q2, e⟩ | ⟨q1, e⟩ <;> first | exact e | omega)
  have HV : Hid ((#[.int .u8 (224 + (k : Int) / 4096), .int .u8 (128 + (k : Int) / 64 % 64), .int .u8 (128 + (k : Int) % 64)] : Array Value) = ((encodeRune k).map bv).toArray) := Lib.hid (by
    rw [HE.out]
    simp only [List.map_cons, List.map_nil]
    rw [bv_of (224 + (k : Int) / 4096) (by omega) (by omega), bv_of (128 + (k : Int) / 64 % 64) (by omega) (by omega), bv_of (128 + (k : Int) % 64) (by omega) (by omega)])
  have kb : Below w.heap.size w (w.alloc (.cells #[.int .u8 (224 + (k : Int) / 4096), .int .u8 (128 + (k : Int) / 64 % 64), .int .u8 (128 + (k : Int) % 64)] 5)) := (Below.refl _ _).alloc (Nat.le_refl _) _
  clear hk hm
  go_enter Tryz.func96, Tryz.ntmps96
  go_wp2_with (go_at_call 89; refine (refMayR_c _ _).mono ?_; rintro _ wq ⟨rfl, hq⟩; rw [HK.out, hq]; clear hq wq)
  go_ret
  exact ⟨_, rfl, OwnB_lit w _ _ HV.out _ (by rw [HE.out]; rfl) (by rw [HE.out]; simp), kb⟩
set_option maxRecDepth 100000 in
set_option maxHeartbeats 4000000 in
theorem refEncode4_c (k : Nat) (w : World) (hk : mayR k = true) (hb : 65536 ≤ k) :
    Calls Tryz.prog 96 #[.int .i32 (k : Int)] w fun e w' => ∃ v, e = .returned v ∧ OwnB w' w.heap.size v (encodeRune k) ∧ Below w.heap.size w w' := by
  have hm := hk
  simp only [mayR, inR, Bool.or_eq_true, Bool.and_eq_true, decide_eq_true_eq] at hm
  have HK := Lib.hid hk
  have d0 : decide ((k : Int) < 128) = false := decide_eq_false (by omega)
  have d1 : decide ((k : Int) < 2048) = false := decide_eq_false (by omega)
  have d2 : decide ((k : Int) < 65536) = false := decide_eq_false (by omega)
  have hu : k ≤ 1114111 := by omega
  have HE : Hid (encodeRune k = [(240 + (k : Int) / 262144).toNat.toUInt8, (128 + (k : Int) / 4096 % 64).toNat.toUInt8, (128 + (k : Int) / 64 % 64).toNat.toUInt8, (128 + (k : Int) % 64).toNat.toUInt8]) := Lib.hid (by
    have h := encodeRune_of k hk
    rcases h with ⟨q1, e⟩ | ⟨q1, q2, e⟩ | ⟨q1, q2, e⟩ | ⟨q1, e⟩ <;> first | exact e | omega)
  have HV : Hid ((#[.int .u8 (240 + (k : Int) / 262144), .int .u8 (128 + (k : Int) / 4096 % 64), .int .u8 (128 + (k : Int) / 64 % 64), .int .u8 (128 + (k : Int) % 64)] : Array Value) = ((encodeRune k).map bv).toArray) := Lib.hid (by
    rw [HE.out]
    simp only [List.map_cons, List.map_nil]
    rw [bv_of (240 + (k : Int) / 262144) (by omega) (by omega), bv_of (128 + (k : Int) / 4096 % 64) (by omega) (by omega), bv_of (128 + (k : Int) / 64 % 64) (by omega) (by omega), bv_of (128 + (k : Int) % 64) (by omega) (by omega)])
  have kb : Below w.heap.size w (w.alloc (.cells #[.int .u8 (240 + (k : Int) / 262144), .int .u8 (128 + (k : Int) / 4096 % 64), .int .u8 (128 + (k : Int) / 64 % 64), .int .u8 (128 + (k : Int) % 64)] 5)) := (Below.refl _ _).alloc (Nat.le_refl _) _
  clear hk hm
  go_enter Tryz.func96, Tryz.ntmps96
  go_wp2_with (go_at_call 89; refine (refMayR_c _ _).mono ?_; rintro _ wq ⟨rfl, hq⟩; rw [HK.out, hq]; clear hq wq)
  go_ret
  exact ⟨_, rfl, OwnB_lit w _ _ HV.out _ (by rw [HE.out]; rfl) (by rw [HE.out]; simp), kb⟩
set_option maxRecDepth 100000 in
set_option maxHeartbeats 4000000 in
theorem refEncode0_c (r : Int) (w : World) (hk : mayR r = false) :
    Calls Tryz.prog 96 #[.int .i32 r] w fun e w' => ∃ v, e = .returned v ∧ OwnB w' w.heap.size v (encodeRune 65533) ∧ Below w.heap.size w w' := by
  have HK := Lib.hid hk
  have kb : Below w.heap.size w (w.alloc (.cells #[.int .u8 239, .int .u8 191, .int .u8 189] 5)) := (Below.refl _ _).alloc (Nat.le_refl _) _
  clear hk
  go_enter Tryz.func96, Tryz.ntmps96
  go_wp2_with (go_at_call 89; refine (refMayR_c _ _).mono ?_; rintro _ wq ⟨rfl, hq⟩; rw [HK.out, hq]; clear hq wq)
  go_ret
  exact ⟨_, rfl, OwnB_lit w _ _ (by rw [fffd_bytes]; rfl) _ (by rw [fffd_bytes]; rfl) (by rw [fffd_bytes]; decide), kb⟩
theorem refEncode_c (r : Int) (w : World) :
    Calls Tryz.prog 96 #[.int .i32 r] w fun e w' => ∃ v, e = .returned v ∧ OwnB w' w.heap.size v (encodeRune (if mayR r then r else 65533)) ∧ Below w.heap.size w w' := by
  cases h : mayR r
  · simp only [Bool.false_eq_true, if_false]
    exact refEncode0_c r w h
  · simp only [if_true]
    have hm := h
    simp only [mayR, inR, Bool.or_eq_true, Bool.and_eq_true, decide_eq_true_eq] at hm
    obtain ⟨k, rfl⟩ : ∃ k : Nat, r = (k : Int) := ⟨r.toNat, by omega⟩
    rcases Nat.lt_or_ge k 128 with h1 | h1
    · exact refEncode1_c k w h h1
    rcases Nat.lt_or_ge k 2048 with h2 | h2
    · exact refEncode2_c k w h ⟨h1, h2⟩
    rcases Nat.lt_or_ge k 65536 with h3 | h3
    · exact refEncode3_c k w h ⟨h2, h3⟩
    · exact refEncode4_c k w h h3
end Go.Proofs.YtndjggabdajbfaaGreatDoor



/- What the reference's whole answers: the rune whose bytes these are. Conditions: bytes that can be read. -/
namespace Go.Proofs.YtndjggabdajbfaaGreatDoor
open Go Go.RowKit Go.Lib

def whR (bs : List UInt8) : Int := (wholeO bs).getD 0
theorem whole_yes {bs : List UInt8} (h1 : mayR (numW bs) = true) (h2 : encodeRune (numW bs) = bs) : wholeO bs = some (numW bs) := by
  rw [wholeO, h1, decide_eq_true h2]; rfl
theorem whole_no1 {bs : List UInt8} (h1 : mayR (numW bs) = false) : wholeO bs = none := by
  rw [wholeO, h1]; rfl
theorem whole_no2 {bs : List UInt8} (h2 : encodeRune (numW bs) ≠ bs) : wholeO bs = none := by
  rw [wholeO, decide_eq_false h2, Bool.and_false]; rfl
/-- The first k of two lists are the same. -/
theorem take_next {a b : List UInt8} {k : Nat} (ha : k < a.length) (hb : k < b.length) (h : a.take k = b.take k) (e : a[k] = b[k]) : a.take (k + 1) = b.take (k + 1) := by
  rw [List.take_succ_eq_append_getElem ha, List.take_succ_eq_append_getElem hb, h, e]
theorem not_same {a b : List UInt8} {k : Nat} (ha : k < a.length) (hb : k < b.length) (e : a[k] ≠ b[k]) : a ≠ b := by
  rintro rfl; exact e rfl
def WhPost (bs : List UInt8) (w : World) (e : Ending) (w' : World) : Prop := e = .returned (.tuple #[.int .i32 (whR bs), .bool (wholeO bs).isSome]) ∧ Below w.heap.size w w'
theorem whPost_no {bs : List UInt8} {w w' : World} (h : wholeO bs = none) (hb : Below w.heap.size w w') : WhPost bs w (.returned (.tuple #[.int .i32 0, .bool false])) w' := by
  refine ⟨?_, hb⟩
  rw [whR, h]; rfl
theorem whPost_yes {bs : List UInt8} {w w' : World} {N : Int} (h : wholeO bs = some N) (hb : Below w.heap.size w w') : WhPost bs w (.returned (.tuple #[.int .i32 N, .bool true])) w' := by
  refine ⟨?_, hb⟩
  rw [whR, h]; rfl
set_option maxRecDepth 100000 in
set_option maxHeartbeats 16000000 in
theorem whole1_c (a0 : UInt8) (A : Option Addr) (c : Nat) (bs : List UInt8) (w : World) (hbs : bs = [a0]) (hr : Rd w A (bs.map bv)) :
    Calls Tryz.prog 86 #[.slice A 1 c] w (WhPost bs w) := by
  have hlen : bs.length = 1 := by rw [hbs]; rfl
  obtain ⟨b, off, rfl, hb, hc⟩ := hr.addrB (by omega)
  have c0 : w.cell? ⟨b, off, none⟩ = some (.int .u8 ((a0.toNat : Nat) : Int)) := by have := hc 0 (by omega); rw [Nat.add_zero] at this; rw [this]; simp only [hbs, bv]; rfl
  have u0 := a0.toNat_lt
  have HR := Lib.hid hr
  have HLEN := Lib.hid hlen
  obtain ⟨N, eN⟩ : ∃ N, ((a0.toNat : Nat) : Int) = N := ⟨_, rfl⟩
  have ENW : Hid (numW bs = N) := Lib.hid (by rw [hbs, ← eN]; rfl)
  have hN : -100000000 ≤ N ∧ N ≤ 100000000 := by omega
  obtain ⟨hN1, hN2⟩ := hN
  have EN := Lib.hid eN
  clear hbs hr hc hlen eN
  go_enter Tryz.func86, Tryz.ntmps86
  go_upto_region 12 with (fail)
  rw [EN.out]
  clear c0 u0
  rcases Int.lt_or_le N 0 with q0 | q0
  · have hno : wholeO bs = none := whole_no1 (by rw [ENW.out]; cases h : mayR N; rfl; simp only [mayR, inR, Bool.or_eq_true, Bool.and_eq_true, decide_eq_true_eq] at h; omega)
    have HNO := Lib.hid hno
    have d1 : decide (N < 0) = true := decide_eq_true q0
    clear hno q0
    go_wp2_with (fail)
    go_ret2
    exact whPost_no HNO.out (Below.refl w.heap.size w)
  have d1 : decide (N < 0) = false := decide_eq_false (by omega)
  rcases Int.lt_or_le 1114111 N with q1 | q1
  · have hno : wholeO bs = none := whole_no1 (by rw [ENW.out]; cases h : mayR N; rfl; simp only [mayR, inR, Bool.or_eq_true, Bool.and_eq_true, decide_eq_true_eq] at h; omega)
    have HNO := Lib.hid hno
    have d2 : decide (1114111 < N) = true := decide_eq_true q1
    clear hno q0 q1
    go_wp2_with (fail)
    go_ret2
    exact whPost_no HNO.out (Below.refl w.heap.size w)
  have d2 : decide (1114111 < N) = false := decide_eq_false (by omega)
  obtain ⟨MM, eM⟩ : ∃ MM, mayR N = MM := ⟨_, rfl⟩
  have EMM := Lib.hid eM
  obtain ⟨E, eE⟩ : ∃ E, encodeRune (if MM then N else 65533) = E := ⟨_, rfl⟩
  have hen : ∀ w, Calls Tryz.prog 96 #[.int .i32 N] w fun e w' => ∃ v, e = .returned v ∧ OwnB w' w.heap.size v E ∧ Below w.heap.size w w' := fun w => by have := refEncode_c N w; rw [eM, eE] at this; exact this
  have HEN := Lib.hid hen
  have EE := Lib.hid eE
  clear hen eE eM
  cases MM
  · have hno : wholeO bs = none := whole_no1 (by rw [ENW.out]; exact EMM.out)
    have HNO := Lib.hid hno
    clear hno
    go_wp2_with (first | (go_at_call 96; (with_reducible refine (HEN.out _).mono ?_); rintro _ w1 ⟨v1, rfl, ho1, hb1⟩; obtain ⟨A1, k1, rfl, p1, p2, p3, -⟩ := ho1.form; have H1 := Lib.hid p3; have HB1 : Hid (Below w.heap.size w w1) := Lib.hid ((Below.refl w.heap.size w).trans hb1); clear ho1 hb1 p1 p2 p3) | (go_at_call 89; refine (refMayR_c _ _).mono ?_; rintro _ wq ⟨rfl, hq⟩; rw [EMM.out, hq]; clear hq wq))
    go_ret2
    exact whPost_no HNO.out HB1.out
  have EE2 : Hid (encodeRune (numW bs) = E) := Lib.hid (by rw [ENW.out]; exact EE.out)
  obtain ⟨q, eq⟩ : ∃ q, E.length = q := ⟨_, rfl⟩
  have EQ := Lib.hid eq
  by_cases hq : q = 1
  rotate_left
  · have hno : wholeO bs = none := whole_no2 (by rw [EE2.out]; intro h; apply hq; rw [← eq, h, HLEN.out])
    have HNO := Lib.hid hno
    have d3 : ((q : Int) != 1) = true := by rw [bne_iff_ne]; omega
    have d4 : (q != 1) = true := by rw [bne_iff_ne]; omega
    clear hno hq
    go_wp2_with (first | (go_at_call 96; (with_reducible refine (HEN.out _).mono ?_); rintro _ w1 ⟨v1, rfl, ho1, hb1⟩; obtain ⟨A1, k1, rfl, p1, p2, p3, -⟩ := ho1.form; have H1 := Lib.hid p3; rw [EQ.out]; have HB1 : Hid (Below w.heap.size w w1) := Lib.hid ((Below.refl w.heap.size w).trans hb1); clear ho1 hb1 p1 p2 p3) | (go_at_call 89; refine (refMayR_c _ _).mono ?_; rintro _ wq ⟨rfl, hq⟩; rw [EMM.out, hq]; clear hq wq))
    go_ret2
    exact whPost_no HNO.out HB1.out
  subst hq
  clear eq
  go_wp2_with (first | (go_at_call 96; (with_reducible refine (HEN.out _).mono ?_); rintro _ w1 ⟨v1, rfl, ho1, hb1⟩; obtain ⟨A1, k1, rfl, p1, p2, p3, -⟩ := ho1.form; have H1 := Lib.hid p3; rw [EQ.out]; have HB1 : Hid (Below w.heap.size w w1) := Lib.hid ((Below.refl w.heap.size w).trans hb1); clear ho1 hb1 p1 p2 p3) | (go_at_call 89; refine (refMayR_c _ _).mono ?_; rintro _ wq ⟨rfl, hq⟩; rw [EMM.out, hq]; clear hq wq))
  obtain ⟨W1, hW1⟩ : ∃ W1, W1 = w1 := ⟨_, rfl⟩
  subst hW1
  go_loopw [100] (fun i wr => ∃ k : Nat, k ≤ 1 ∧ i = .int .i64 k ∧ Hid (E.take k = bs.take k) ∧ Hid (Below W1.heap.size W1 wr)) (fun i _ => 1 - (intOf i).toNat)
  case atStart => exact ⟨0, Nat.zero_le _, rfl, Lib.hid rfl, Lib.hid (Below.refl _ _)⟩
  case round =>
    obtain ⟨k, hk, rfl, HG, HBW⟩ := hrel
    rcases Nat.lt_or_ge k 1 with hlt | hge
    · have hlt' : (k : Int) < 1 := by omega
      have hkE : k < E.length := by rw [EQ.out]; exact hlt
      have hkB : k < bs.length := by rw [HLEN.out]; exact hlt
      obtain ⟨g1, o1, rfl, hg1, hc1⟩ := H1.out.addrB (by omega)
      have e1 := (HBW.out.cell (p := ⟨g1, _, none⟩) hg1).trans (hc1 k hkE)
      obtain ⟨g2, o2, eA2, hg2, hc2⟩ := HR.out.addrB (by omega)
      injection eA2 with eA2
      injection eA2 with eA2 eA3
      subst eA2 eA3
      have e2 := ((HB1.out.trans (HBW.out.mono HB1.out.size)).cell (p := ⟨b, _, none⟩) hg2).trans (hc2 k hkB)
      obtain ⟨x, ex⟩ : ∃ x, E[k] = x := ⟨_, rfl⟩
      obtain ⟨y, ey⟩ : ∃ y, bs[k] = y := ⟨_, rfl⟩
      rw [ex] at e1
      rw [ey] at e2
      unfold bv at e1 e2
      have EX := Lib.hid ex
      have EY := Lib.hid ey
      clear ex ey hc1 hc2
      by_cases hxy : x = y
      · have HG2 : Hid (E.take (k + 1) = bs.take (k + 1)) := Lib.hid (take_next hkE hkB HG.out (by rw [EX.out, EY.out, hxy]))
        have n1 : (((x.toNat : Nat) : Int) != ((y.toNat : Nat) : Int)) = false := by rw [hxy, bne, beq_self_eq_true]; rfl
        have n2 : (x.toNat != y.toNat) = false := by rw [hxy, bne, beq_self_eq_true]; rfl
        clear hxy
        go_wp2_with (fail)
        go_quiet (fail)
        go_wp2_with (fail)
        go_roundw
        case rel => exact ⟨k + 1, by omega, by go_num, HG2, Lib.hid (below_drewN HBW.out _)⟩
        case measure => simp [intOf]; omega
      · have hno : wholeO bs = none := whole_no2 (by rw [EE2.out]; exact not_same hkE hkB (by rw [EX.out, EY.out]; exact hxy))
        have hxn : x.toNat ≠ y.toNat := fun h => hxy (UInt8.toNat_inj.1 h)
        have n1 : (((x.toNat : Nat) : Int) != ((y.toNat : Nat) : Int)) = true := by rw [bne_iff_ne]; omega
        have n2 : (x.toNat != y.toNat) = true := by rw [bne_iff_ne]; exact hxn
        have HNO := Lib.hid hno
        clear hno hxy hxn
        go_wp2_with (fail)
        go_quiet (fail)
        go_wp2_with (fail)
        go_ret2
        exact whPost_no HNO.out (below_drewN (HB1.out.trans (HBW.out.mono HB1.out.size)) _)
    · have hk4 : k = 1 := by omega
      have hyes : wholeO bs = some N := by
        have h := HG.out
        rw [List.take_of_length_le (by rw [EQ.out]; omega), List.take_of_length_le (by rw [HLEN.out]; omega)] at h
        have := whole_yes (bs := bs) (by rw [ENW.out]; exact EMM.out) (by rw [EE2.out]; exact h)
        rw [ENW.out] at this; exact this
      have HY := Lib.hid hyes
      have hge' : ¬ ((k : Int) < 1) := by omega
      clear hyes
      go_wp2_with (fail)
      go_ret2
      exact whPost_yes HY.out (HB1.out.trans (HBW.out.mono HB1.out.size))
set_option maxRecDepth 100000 in
set_option maxHeartbeats 16000000 in
theorem whole2_c (a0 a1 : UInt8) (A : Option Addr) (c : Nat) (bs : List UInt8) (w : World) (hbs : bs = [a0, a1]) (hr : Rd w A (bs.map bv)) :
    Calls Tryz.prog 86 #[.slice A 2 c] w (WhPost bs w) := by
  have hlen : bs.length = 2 := by rw [hbs]; rfl
  obtain ⟨b, off, rfl, hb, hc⟩ := hr.addrB (by omega)
  have c0 : w.cell? ⟨b, off, none⟩ = some (.int .u8 ((a0.toNat : Nat) : Int)) := by have := hc 0 (by omega); rw [Nat.add_zero] at this; rw [this]; simp only [hbs, bv]; rfl
  have c1 : w.cell? ⟨b, off + 1, none⟩ = some (.int .u8 ((a1.toNat : Nat) : Int)) := by have := hc 1 (by omega); rw [this]; simp only [hbs, bv]; rfl
  have u0 := a0.toNat_lt
  have u1 := a1.toNat_lt
  have HR := Lib.hid hr
  have HLEN := Lib.hid hlen
  obtain ⟨N, eN⟩ : ∃ N, (((a0.toNat : Nat) : Int) - 192) * 64 + ((a1.toNat : Nat) : Int) - 128 = N := ⟨_, rfl⟩
  have ENW : Hid (numW bs = N) := Lib.hid (by rw [hbs, ← eN]; rfl)
  have hN : -100000000 ≤ N ∧ N ≤ 100000000 := by omega
  obtain ⟨hN1, hN2⟩ := hN
  have EN := Lib.hid eN
  clear hbs hr hc hlen eN
  go_enter Tryz.func86, Tryz.ntmps86
  go_wp2_with (fail)
  go_quiet (fail)
  go_upto_region 12 with (fail)
  rw [EN.out]
  clear c0 c1 u0 u1
  rcases Int.lt_or_le N 0 with q0 | q0
  · have hno : wholeO bs = none := whole_no1 (by rw [ENW.out]; cases h : mayR N; rfl; simp only [mayR, inR, Bool.or_eq_true, Bool.and_eq_true, decide_eq_true_eq] at h; omega)
    have HNO := Lib.hid hno
    have d1 : decide (N < 0) = true := decide_eq_true q0
    clear hno q0
    go_wp2_with (fail)
    go_ret2
    exact whPost_no HNO.out (below_drewN (Below.refl w.heap.size w) _)
  have d1 : decide (N < 0) = false := decide_eq_false (by omega)
  rcases Int.lt_or_le 1114111 N with q1 | q1
  · have hno : wholeO bs = none := whole_no1 (by rw [ENW.out]; cases h : mayR N; rfl; simp only [mayR, inR, Bool.or_eq_true, Bool.and_eq_true, decide_eq_true_eq] at h; omega)
    have HNO := Lib.hid hno
    have d2 : decide (1114111 < N) = true := decide_eq_true q1
    clear hno q0 q1
    go_wp2_with (fail)
    go_ret2
    exact whPost_no HNO.out (below_drewN (Below.refl w.heap.size w) _)
  have d2 : decide (1114111 < N) = false := decide_eq_false (by omega)
  obtain ⟨MM, eM⟩ : ∃ MM, mayR N = MM := ⟨_, rfl⟩
  have EMM := Lib.hid eM
  obtain ⟨E, eE⟩ : ∃ E, encodeRune (if MM then N else 65533) = E := ⟨_, rfl⟩
  have hen : ∀ w, Calls Tryz.prog 96 #[.int .i32 N] w fun e w' => ∃ v, e = .returned v ∧ OwnB w' w.heap.size v E ∧ Below w.heap.size w w' := fun w => by have := refEncode_c N w; rw [eM, eE] at this; exact this
  have HEN := Lib.hid hen
  have EE := Lib.hid eE
  clear hen eE eM
  cases MM
  · have hno : wholeO bs = none := whole_no1 (by rw [ENW.out]; exact EMM.out)
    have HNO := Lib.hid hno
    clear hno
    go_wp2_with (first | (go_at_call 96; (with_reducible refine (HEN.out _).mono ?_); rintro _ w1 ⟨v1, rfl, ho1, hb1⟩; obtain ⟨A1, k1, rfl, p1, p2, p3, -⟩ := ho1.form; have H1 := Lib.hid p3; have HB1 : Hid (Below w.heap.size w w1) := Lib.hid ((below_drewN (Below.refl w.heap.size w) _).trans hb1); clear ho1 hb1 p1 p2 p3) | (go_at_call 89; refine (refMayR_c _ _).mono ?_; rintro _ wq ⟨rfl, hq⟩; rw [EMM.out, hq]; clear hq wq))
    go_ret2
    exact whPost_no HNO.out HB1.out
  have EE2 : Hid (encodeRune (numW bs) = E) := Lib.hid (by rw [ENW.out]; exact EE.out)
  obtain ⟨q, eq⟩ : ∃ q, E.length = q := ⟨_, rfl⟩
  have EQ := Lib.hid eq
  by_cases hq : q = 2
  rotate_left
  · have hno : wholeO bs = none := whole_no2 (by rw [EE2.out]; intro h; apply hq; rw [← eq, h, HLEN.out])
    have HNO := Lib.hid hno
    have d3 : ((q : Int) != 2) = true := by rw [bne_iff_ne]; omega
    have d4 : (q != 2) = true := by rw [bne_iff_ne]; omega
    clear hno hq
    go_wp2_with (first | (go_at_call 96; (with_reducible refine (HEN.out _).mono ?_); rintro _ w1 ⟨v1, rfl, ho1, hb1⟩; obtain ⟨A1, k1, rfl, p1, p2, p3, -⟩ := ho1.form; have H1 := Lib.hid p3; rw [EQ.out]; have HB1 : Hid (Below w.heap.size w w1) := Lib.hid ((below_drewN (Below.refl w.heap.size w) _).trans hb1); clear ho1 hb1 p1 p2 p3) | (go_at_call 89; refine (refMayR_c _ _).mono ?_; rintro _ wq ⟨rfl, hq⟩; rw [EMM.out, hq]; clear hq wq))
    go_ret2
    exact whPost_no HNO.out HB1.out
  subst hq
  clear eq
  go_wp2_with (first | (go_at_call 96; (with_reducible refine (HEN.out _).mono ?_); rintro _ w1 ⟨v1, rfl, ho1, hb1⟩; obtain ⟨A1, k1, rfl, p1, p2, p3, -⟩ := ho1.form; have H1 := Lib.hid p3; rw [EQ.out]; have HB1 : Hid (Below w.heap.size w w1) := Lib.hid ((below_drewN (Below.refl w.heap.size w) _).trans hb1); clear ho1 hb1 p1 p2 p3) | (go_at_call 89; refine (refMayR_c _ _).mono ?_; rintro _ wq ⟨rfl, hq⟩; rw [EMM.out, hq]; clear hq wq))
  obtain ⟨W1, hW1⟩ : ∃ W1, W1 = w1 := ⟨_, rfl⟩
  subst hW1
  go_loopw [100] (fun i wr => ∃ k : Nat, k ≤ 2 ∧ i = .int .i64 k ∧ Hid (E.take k = bs.take k) ∧ Hid (Below W1.heap.size W1 wr)) (fun i _ => 2 - (intOf i).toNat)
  case atStart => exact ⟨0, Nat.zero_le _, rfl, Lib.hid rfl, Lib.hid (Below.refl _ _)⟩
  case round =>
    obtain ⟨k, hk, rfl, HG, HBW⟩ := hrel
    rcases Nat.lt_or_ge k 2 with hlt | hge
    · have hlt' : (k : Int) < 2 := by omega
      have hkE : k < E.length := by rw [EQ.out]; exact hlt
      have hkB : k < bs.length := by rw [HLEN.out]; exact hlt
      obtain ⟨g1, o1, rfl, hg1, hc1⟩ := H1.out.addrB (by omega)
      have e1 := (HBW.out.cell (p := ⟨g1, _, none⟩) hg1).trans (hc1 k hkE)
      obtain ⟨g2, o2, eA2, hg2, hc2⟩ := HR.out.addrB (by omega)
      injection eA2 with eA2
      injection eA2 with eA2 eA3
      subst eA2 eA3
      have e2 := ((HB1.out.trans (HBW.out.mono HB1.out.size)).cell (p := ⟨b, _, none⟩) hg2).trans (hc2 k hkB)
      obtain ⟨x, ex⟩ : ∃ x, E[k] = x := ⟨_, rfl⟩
      obtain ⟨y, ey⟩ : ∃ y, bs[k] = y := ⟨_, rfl⟩
      rw [ex] at e1
      rw [ey] at e2
      unfold bv at e1 e2
      have EX := Lib.hid ex
      have EY := Lib.hid ey
      clear ex ey hc1 hc2
      by_cases hxy : x = y
      · have HG2 : Hid (E.take (k + 1) = bs.take (k + 1)) := Lib.hid (take_next hkE hkB HG.out (by rw [EX.out, EY.out, hxy]))
        have n1 : (((x.toNat : Nat) : Int) != ((y.toNat : Nat) : Int)) = false := by rw [hxy, bne, beq_self_eq_true]; rfl
        have n2 : (x.toNat != y.toNat) = false := by rw [hxy, bne, beq_self_eq_true]; rfl
        clear hxy
        go_wp2_with (fail)
        go_quiet (fail)
        go_wp2_with (fail)
        go_roundw
        case rel => exact ⟨k + 1, by omega, by go_num, HG2, Lib.hid (below_drewN HBW.out _)⟩
        case measure => simp [intOf]; omega
      · have hno : wholeO bs = none := whole_no2 (by rw [EE2.out]; exact not_same hkE hkB (by rw [EX.out, EY.out]; exact hxy))
        have hxn : x.toNat ≠ y.toNat := fun h => hxy (UInt8.toNat_inj.1 h)
        have n1 : (((x.toNat : Nat) : Int) != ((y.toNat : Nat) : Int)) = true := by rw [bne_iff_ne]; omega
        have n2 : (x.toNat != y.toNat) = true := by rw [bne_iff_ne]; exact hxn
        have HNO := Lib.hid hno
        clear hno hxy hxn
        go_wp2_with (fail)
        go_quiet (fail)
        go_wp2_with (fail)
        go_ret2
        exact whPost_no HNO.out (below_drewN (HB1.out.trans (HBW.out.mono HB1.out.size)) _)
    · have hk4 : k = 2 := by omega
      have hyes : wholeO bs = some N := by
        have h := HG.out
        rw [List.take_of_length_le (by rw [EQ.out]; omega), List.take_of_length_le (by rw [HLEN.out]; omega)] at h
        have := whole_yes (bs := bs) (by rw [ENW.out]; exact EMM.out) (by rw [EE2.out]; exact h)
        rw [ENW.out] at this; exact this
      have HY := Lib.hid hyes
      have hge' : ¬ ((k : Int) < 2) := by omega
      clear hyes
      go_wp2_with (fail)
      go_ret2
      exact whPost_yes HY.out (HB1.out.trans (HBW.out.mono HB1.out.size))
set_option maxRecDepth 100000 in
set_option maxHeartbeats 16000000 in
theorem whole3_c (a0 a1 a2 : UInt8) (A : Option Addr) (c : Nat) (bs : List UInt8) (w : World) (hbs : bs = [a0, a1, a2]) (hr : Rd w A (bs.map bv)) :
    Calls Tryz.prog 86 #[.slice A 3 c] w (WhPost bs w) := by
  have hlen : bs.length = 3 := by rw [hbs]; rfl
  obtain ⟨b, off, rfl, hb, hc⟩ := hr.addrB (by omega)
  have c0 : w.cell? ⟨b, off, none⟩ = some (.int .u8 ((a0.toNat : Nat) : Int)) := by have := hc 0 (by omega); rw [Nat.add_zero] at this; rw [this]; simp only [hbs, bv]; rfl
  have c1 : w.cell? ⟨b, off + 1, none⟩ = some (.int .u8 ((a1.toNat : Nat) : Int)) := by have := hc 1 (by omega); rw [this]; simp only [hbs, bv]; rfl
  have c2 : w.cell? ⟨b, off + 2, none⟩ = some (.int .u8 ((a2.toNat : Nat) : Int)) := by have := hc 2 (by omega); rw [this]; simp only [hbs, bv]; rfl
  have u0 := a0.toNat_lt
  have u1 := a1.toNat_lt
  have u2 := a2.toNat_lt
  have HR := Lib.hid hr
  have HLEN := Lib.hid hlen
  obtain ⟨N, eN⟩ : ∃ N, (((a0.toNat : Nat) : Int) - 224) * 4096 + (((a1.toNat : Nat) : Int) - 128) * 64 + ((a2.toNat : Nat) : Int) - 128 = N := ⟨_, rfl⟩
  have ENW : Hid (numW bs = N) := Lib.hid (by rw [hbs, ← eN]; rfl)
  have hN : -100000000 ≤ N ∧ N ≤ 100000000 := by omega
  obtain ⟨hN1, hN2⟩ := hN
  have EN := Lib.hid eN
  clear hbs hr hc hlen eN
  go_enter Tryz.func86, Tryz.ntmps86
  go_wp2_with (fail)
  go_quiet (fail)
  go_upto_region 12 with (fail)
  rw [EN.out]
  clear c0 c1 c2 u0 u1 u2
  rcases Int.lt_or_le N 0 with q0 | q0
  · have hno : wholeO bs = none := whole_no1 (by rw [ENW.out]; cases h : mayR N; rfl; simp only [mayR, inR, Bool.or_eq_true, Bool.and_eq_true, decide_eq_true_eq] at h; omega)
    have HNO := Lib.hid hno
    have d1 : decide (N < 0) = true := decide_eq_true q0
    clear hno q0
    go_wp2_with (fail)
    go_ret2
    exact whPost_no HNO.out (below_drewN (Below.refl w.heap.size w) _)
  have d1 : decide (N < 0) = false := decide_eq_false (by omega)
  rcases Int.lt_or_le 1114111 N with q1 | q1
  · have hno : wholeO bs = none := whole_no1 (by rw [ENW.out]; cases h : mayR N; rfl; simp only [mayR, inR, Bool.or_eq_true, Bool.and_eq_true, decide_eq_true_eq] at h; omega)
    have HNO := Lib.hid hno
    have d2 : decide (1114111 < N) = true := decide_eq_true q1
    clear hno q0 q1
    go_wp2_with (fail)
    go_ret2
    exact whPost_no HNO.out (below_drewN (Below.refl w.heap.size w) _)
  have d2 : decide (1114111 < N) = false := decide_eq_false (by omega)
  obtain ⟨MM, eM⟩ : ∃ MM, mayR N = MM := ⟨_, rfl⟩
  have EMM := Lib.hid eM
  obtain ⟨E, eE⟩ : ∃ E, encodeRune (if MM then N else 65533) = E := ⟨_, rfl⟩
  have hen : ∀ w, Calls Tryz.prog 96 #[.int .i32 N] w fun e w' => ∃ v, e = .returned v ∧ OwnB w' w.heap.size v E ∧ Below w.heap.size w w' := fun w => by have := refEncode_c N w; rw [eM, eE] at this; exact this
  have HEN := Lib.hid hen
  have EE := Lib.hid eE
  clear hen eE eM
  cases MM
  · have hno : wholeO bs = none := whole_no1 (by rw [ENW.out]; exact EMM.out)
    have HNO := Lib.hid hno
    clear hno
    go_wp2_with (first | (go_at_call 96; (with_reducible refine (HEN.out _).mono ?_); rintro _ w1 ⟨v1, rfl, ho1, hb1⟩; obtain ⟨A1, k1, rfl, p1, p2, p3, -⟩ := ho1.form; have H1 := Lib.hid p3; have HB1 : Hid (Below w.heap.size w w1) := Lib.hid ((below_drewN (Below.refl w.heap.size w) _).trans hb1); clear ho1 hb1 p1 p2 p3) | (go_at_call 89; refine (refMayR_c _ _).mono ?_; rintro _ wq ⟨rfl, hq⟩; rw [EMM.out, hq]; clear hq wq))
    go_ret2
    exact whPost_no HNO.out HB1.out
  have EE2 : Hid (encodeRune (numW bs) = E) := Lib.hid (by rw [ENW.out]; exact EE.out)
  obtain ⟨q, eq⟩ : ∃ q, E.length = q := ⟨_, rfl⟩
  have EQ := Lib.hid eq
  by_cases hq : q = 3
  rotate_left
  · have hno : wholeO bs = none := whole_no2 (by rw [EE2.out]; intro h; apply hq; rw [← eq, h, HLEN.out])
    have HNO := Lib.hid hno
    have d3 : ((q : Int) != 3) = true := by rw [bne_iff_ne]; omega
    have d4 : (q != 3) = true := by rw [bne_iff_ne]; omega
    clear hno hq
    go_wp2_with (first | (go_at_call 96; (with_reducible refine (HEN.out _).mono ?_); rintro _ w1 ⟨v1, rfl, ho1, hb1⟩; obtain ⟨A1, k1, rfl, p1, p2, p3, -⟩ := ho1.form; have H1 := Lib.hid p3; rw [EQ.out]; have HB1 : Hid (Below w.heap.size w w1) := Lib.hid ((below_drewN (Below.refl w.heap.size w) _).trans hb1); clear ho1 hb1 p1 p2 p3) | (go_at_call 89; refine (refMayR_c _ _).mono ?_; rintro _ wq ⟨rfl, hq⟩; rw [EMM.out, hq]; clear hq wq))
    go_ret2
    exact whPost_no HNO.out HB1.out
  subst hq
  clear eq
  go_wp2_with (first | (go_at_call 96; (with_reducible refine (HEN.out _).mono ?_); rintro _ w1 ⟨v1, rfl, ho1, hb1⟩; obtain ⟨A1, k1, rfl, p1, p2, p3, -⟩ := ho1.form; have H1 := Lib.hid p3; rw [EQ.out]; have HB1 : Hid (Below w.heap.size w w1) := Lib.hid ((below_drewN (Below.refl w.heap.size w) _).trans hb1); clear ho1 hb1 p1 p2 p3) | (go_at_call 89; refine (refMayR_c _ _).mono ?_; rintro _ wq ⟨rfl, hq⟩; rw [EMM.out, hq]; clear hq wq))
  obtain ⟨W1, hW1⟩ : ∃ W1, W1 = w1 := ⟨_, rfl⟩
  subst hW1
  go_loopw [100] (fun i wr => ∃ k : Nat, k ≤ 3 ∧ i = .int .i64 k ∧ Hid (E.take k = bs.take k) ∧ Hid (Below W1.heap.size W1 wr)) (fun i _ => 3 - (intOf i).toNat)
  case atStart => exact ⟨0, Nat.zero_le _, rfl, Lib.hid rfl, Lib.hid (Below.refl _ _)⟩
  case round =>
    obtain ⟨k, hk, rfl, HG, HBW⟩ := hrel
    rcases Nat.lt_or_ge k 3 with hlt | hge
    · have hlt' : (k : Int) < 3 := by omega
      have hkE : k < E.length := by rw [EQ.out]; exact hlt
      have hkB : k < bs.length := by rw [HLEN.out]; exact hlt
      obtain ⟨g1, o1, rfl, hg1, hc1⟩ := H1.out.addrB (by omega)
      have e1 := (HBW.out.cell (p := ⟨g1, _, none⟩) hg1).trans (hc1 k hkE)
      obtain ⟨g2, o2, eA2, hg2, hc2⟩ := HR.out.addrB (by omega)
      injection eA2 with eA2
      injection eA2 with eA2 eA3
      subst eA2 eA3
      have e2 := ((HB1.out.trans (HBW.out.mono HB1.out.size)).cell (p := ⟨b, _, none⟩) hg2).trans (hc2 k hkB)
      obtain ⟨x, ex⟩ : ∃ x, E[k] = x := ⟨_, rfl⟩
      obtain ⟨y, ey⟩ : ∃ y, bs[k] = y := ⟨_, rfl⟩
      rw [ex] at e1
      rw [ey] at e2
      unfold bv at e1 e2
      have EX := Lib.hid ex
      have EY := Lib.hid ey
      clear ex ey hc1 hc2
      by_cases hxy : x = y
      · have HG2 : Hid (E.take (k + 1) = bs.take (k + 1)) := Lib.hid (take_next hkE hkB HG.out (by rw [EX.out, EY.out, hxy]))
        have n1 : (((x.toNat : Nat) : Int) != ((y.toNat : Nat) : Int)) = false := by rw [hxy, bne, beq_self_eq_true]; rfl
        have n2 : (x.toNat != y.toNat) = false := by rw [hxy, bne, beq_self_eq_true]; rfl
        clear hxy
        go_wp2_with (fail)
        go_quiet (fail)
        go_wp2_with (fail)
        go_roundw
        case rel => exact ⟨k + 1, by omega, by go_num, HG2, Lib.hid (below_drewN HBW.out _)⟩
        case measure => simp [intOf]; omega
      · have hno : wholeO bs = none := whole_no2 (by rw [EE2.out]; exact not_same hkE hkB (by rw [EX.out, EY.out]; exact hxy))
        have hxn : x.toNat ≠ y.toNat := fun h => hxy (UInt8.toNat_inj.1 h)
        have n1 : (((x.toNat : Nat) : Int) != ((y.toNat : Nat) : Int)) = true := by rw [bne_iff_ne]; omega
        have n2 : (x.toNat != y.toNat) = true := by rw [bne_iff_ne]; exact hxn
        have HNO := Lib.hid hno
        clear hno hxy hxn
        go_wp2_with (fail)
        go_quiet (fail)
        go_wp2_with (fail)
        go_ret2
        exact whPost_no HNO.out (below_drewN (HB1.out.trans (HBW.out.mono HB1.out.size)) _)
    · have hk4 : k = 3 := by omega
      have hyes : wholeO bs = some N := by
        have h := HG.out
        rw [List.take_of_length_le (by rw [EQ.out]; omega), List.take_of_length_le (by rw [HLEN.out]; omega)] at h
        have := whole_yes (bs := bs) (by rw [ENW.out]; exact EMM.out) (by rw [EE2.out]; exact h)
        rw [ENW.out] at this; exact this
      have HY := Lib.hid hyes
      have hge' : ¬ ((k : Int) < 3) := by omega
      clear hyes
      go_wp2_with (fail)
      go_ret2
      exact whPost_yes HY.out (HB1.out.trans (HBW.out.mono HB1.out.size))
set_option maxRecDepth 100000 in
set_option maxHeartbeats 16000000 in
theorem whole4_c (a0 a1 a2 a3 : UInt8) (A : Option Addr) (c : Nat) (bs : List UInt8) (w : World) (hbs : bs = [a0, a1, a2, a3]) (hr : Rd w A (bs.map bv)) :
    Calls Tryz.prog 86 #[.slice A 4 c] w (WhPost bs w) := by
  have hlen : bs.length = 4 := by rw [hbs]; rfl
  obtain ⟨b, off, rfl, hb, hc⟩ := hr.addrB (by omega)
  have c0 : w.cell? ⟨b, off, none⟩ = some (.int .u8 ((a0.toNat : Nat) : Int)) := by have := hc 0 (by omega); rw [Nat.add_zero] at this; rw [this]; simp only [hbs, bv]; rfl
  have c1 : w.cell? ⟨b, off + 1, none⟩ = some (.int .u8 ((a1.toNat : Nat) : Int)) := by have := hc 1 (by omega); rw [this]; simp only [hbs, bv]; rfl
  have c2 : w.cell? ⟨b, off + 2, none⟩ = some (.int .u8 ((a2.toNat : Nat) : Int)) := by have := hc 2 (by omega); rw [this]; simp only [hbs, bv]; rfl
  have c3 : w.cell? ⟨b, off + 3, none⟩ = some (.int .u8 ((a3.toNat : Nat) : Int)) := by have := hc 3 (by omega); rw [this]; simp only [hbs, bv]; rfl
  have u0 := a0.toNat_lt
  have u1 := a1.toNat_lt
  have u2 := a2.toNat_lt
  have u3 := a3.toNat_lt
  have HR := Lib.hid hr
  have HLEN := Lib.hid hlen
  obtain ⟨N, eN⟩ : ∃ N, (((a0.toNat : Nat) : Int) - 240) * 262144 + (((a1.toNat : Nat) : Int) - 128) * 4096 + (((a2.toNat : Nat) : Int) - 128) * 64 + ((a3.toNat : Nat) : Int) - 128 = N := ⟨_, rfl⟩
  have ENW : Hid (numW bs = N) := Lib.hid (by rw [hbs, ← eN]; rfl)
  have hN : -100000000 ≤ N ∧ N ≤ 100000000 := by omega
  obtain ⟨hN1, hN2⟩ := hN
  have EN := Lib.hid eN
  clear hbs hr hc hlen eN
  go_enter Tryz.func86, Tryz.ntmps86
  go_wp2_with (fail)
  go_quiet (fail)
  go_upto_region 12 with (fail)
  rw [EN.out]
  clear c0 c1 c2 c3 u0 u1 u2 u3
  rcases Int.lt_or_le N 0 with q0 | q0
  · have hno : wholeO bs = none := whole_no1 (by rw [ENW.out]; cases h : mayR N; rfl; simp only [mayR, inR, Bool.or_eq_true, Bool.and_eq_true, decide_eq_true_eq] at h; omega)
    have HNO := Lib.hid hno
    have d1 : decide (N < 0) = true := decide_eq_true q0
    clear hno q0
    go_wp2_with (fail)
    go_ret2
    exact whPost_no HNO.out (below_drewN (Below.refl w.heap.size w) _)
  have d1 : decide (N < 0) = false := decide_eq_false (by omega)
  rcases Int.lt_or_le 1114111 N with q1 | q1
  · have hno : wholeO bs = none := whole_no1 (by rw [ENW.out]; cases h : mayR N; rfl; simp only [mayR, inR, Bool.or_eq_true, Bool.and_eq_true, decide_eq_true_eq] at h; omega)
    have HNO := Lib.hid hno
    have d2 : decide (1114111 < N) = true := decide_eq_true q1
    clear hno q0 q1
    go_wp2_with (fail)
    go_ret2
    exact whPost_no HNO.out (below_drewN (Below.refl w.heap.size w) _)
  have d2 : decide (1114111 < N) = false := decide_eq_false (by omega)
  obtain ⟨MM, eM⟩ : ∃ MM, mayR N = MM := ⟨_, rfl⟩
  have EMM := Lib.hid eM
  obtain ⟨E, eE⟩ : ∃ E, encodeRune (if MM then N else 65533) = E := ⟨_, rfl⟩
  have hen : ∀ w, Calls Tryz.prog 96 #[.int .i32 N] w fun e w' => ∃ v, e = .returned v ∧ OwnB w' w.heap.size v E ∧ Below w.heap.size w w' := fun w => by have := refEncode_c N w; rw [eM, eE] at this; exact this
  have HEN := Lib.hid hen
  have EE := Lib.hid eE
  clear hen eE eM
  cases MM
  · have hno : wholeO bs = none := whole_no1 (by rw [ENW.out]; exact EMM.out)
    have HNO := Lib.hid hno
    clear hno
    go_wp2_with (first | (go_at_call 96; (with_reducible refine (HEN.out _).mono ?_); rintro _ w1 ⟨v1, rfl, ho1, hb1⟩; obtain ⟨A1, k1, rfl, p1, p2, p3, -⟩ := ho1.form; have H1 := Lib.hid p3; have HB1 : Hid (Below w.heap.size w w1) := Lib.hid ((below_drewN (Below.refl w.heap.size w) _).trans hb1); clear ho1 hb1 p1 p2 p3) | (go_at_call 89; refine (refMayR_c _ _).mono ?_; rintro _ wq ⟨rfl, hq⟩; rw [EMM.out, hq]; clear hq wq))
    go_ret2
    exact whPost_no HNO.out HB1.out
  have EE2 : Hid (encodeRune (numW bs) = E) := Lib.hid (by rw [ENW.out]; exact EE.out)
  obtain ⟨q, eq⟩ : ∃ q, E.length = q := ⟨_, rfl⟩
  have EQ := Lib.hid eq
  by_cases hq : q = 4
  rotate_left
  · have hno : wholeO bs = none := whole_no2 (by rw [EE2.out]; intro h; apply hq; rw [← eq, h, HLEN.out])
    have HNO := Lib.hid hno
    have d3 : ((q : Int) != 4) = true := by rw [bne_iff_ne]; omega
    have d4 : (q != 4) = true := by rw [bne_iff_ne]; omega
    clear hno hq
    go_wp2_with (first | (go_at_call 96; (with_reducible refine (HEN.out _).mono ?_); rintro _ w1 ⟨v1, rfl, ho1, hb1⟩; obtain ⟨A1, k1, rfl, p1, p2, p3, -⟩ := ho1.form; have H1 := Lib.hid p3; rw [EQ.out]; have HB1 : Hid (Below w.heap.size w w1) := Lib.hid ((below_drewN (Below.refl w.heap.size w) _).trans hb1); clear ho1 hb1 p1 p2 p3) | (go_at_call 89; refine (refMayR_c _ _).mono ?_; rintro _ wq ⟨rfl, hq⟩; rw [EMM.out, hq]; clear hq wq))
    go_ret2
    exact whPost_no HNO.out HB1.out
  subst hq
  clear eq
  go_wp2_with (first | (go_at_call 96; (with_reducible refine (HEN.out _).mono ?_); rintro _ w1 ⟨v1, rfl, ho1, hb1⟩; obtain ⟨A1, k1, rfl, p1, p2, p3, -⟩ := ho1.form; have H1 := Lib.hid p3; rw [EQ.out]; have HB1 : Hid (Below w.heap.size w w1) := Lib.hid ((below_drewN (Below.refl w.heap.size w) _).trans hb1); clear ho1 hb1 p1 p2 p3) | (go_at_call 89; refine (refMayR_c _ _).mono ?_; rintro _ wq ⟨rfl, hq⟩; rw [EMM.out, hq]; clear hq wq))
  obtain ⟨W1, hW1⟩ : ∃ W1, W1 = w1 := ⟨_, rfl⟩
  subst hW1
  go_loopw [100] (fun i wr => ∃ k : Nat, k ≤ 4 ∧ i = .int .i64 k ∧ Hid (E.take k = bs.take k) ∧ Hid (Below W1.heap.size W1 wr)) (fun i _ => 4 - (intOf i).toNat)
  case atStart => exact ⟨0, Nat.zero_le _, rfl, Lib.hid rfl, Lib.hid (Below.refl _ _)⟩
  case round =>
    obtain ⟨k, hk, rfl, HG, HBW⟩ := hrel
    rcases Nat.lt_or_ge k 4 with hlt | hge
    · have hlt' : (k : Int) < 4 := by omega
      have hkE : k < E.length := by rw [EQ.out]; exact hlt
      have hkB : k < bs.length := by rw [HLEN.out]; exact hlt
      obtain ⟨g1, o1, rfl, hg1, hc1⟩ := H1.out.addrB (by omega)
      have e1 := (HBW.out.cell (p := ⟨g1, _, none⟩) hg1).trans (hc1 k hkE)
      obtain ⟨g2, o2, eA2, hg2, hc2⟩ := HR.out.addrB (by omega)
      injection eA2 with eA2
      injection eA2 with eA2 eA3
      subst eA2 eA3
      have e2 := ((HB1.out.trans (HBW.out.mono HB1.out.size)).cell (p := ⟨b, _, none⟩) hg2).trans (hc2 k hkB)
      obtain ⟨x, ex⟩ : ∃ x, E[k] = x := ⟨_, rfl⟩
      obtain ⟨y, ey⟩ : ∃ y, bs[k] = y := ⟨_, rfl⟩
      rw [ex] at e1
      rw [ey] at e2
      unfold bv at e1 e2
      have EX := Lib.hid ex
      have EY := Lib.hid ey
      clear ex ey hc1 hc2
      by_cases hxy : x = y
      · have HG2 : Hid (E.take (k + 1) = bs.take (k + 1)) := Lib.hid (take_next hkE hkB HG.out (by rw [EX.out, EY.out, hxy]))
        have n1 : (((x.toNat : Nat) : Int) != ((y.toNat : Nat) : Int)) = false := by rw [hxy, bne, beq_self_eq_true]; rfl
        have n2 : (x.toNat != y.toNat) = false := by rw [hxy, bne, beq_self_eq_true]; rfl
        clear hxy
        go_wp2_with (fail)
        go_quiet (fail)
        go_wp2_with (fail)
        go_roundw
        case rel => exact ⟨k + 1, by omega, by go_num, HG2, Lib.hid (below_drewN HBW.out _)⟩
        case measure => simp [intOf]; omega
      · have hno : wholeO bs = none := whole_no2 (by rw [EE2.out]; exact not_same hkE hkB (by rw [EX.out, EY.out]; exact hxy))
        have hxn : x.toNat ≠ y.toNat := fun h => hxy (UInt8.toNat_inj.1 h)
        have n1 : (((x.toNat : Nat) : Int) != ((y.toNat : Nat) : Int)) = true := by rw [bne_iff_ne]; omega
        have n2 : (x.toNat != y.toNat) = true := by rw [bne_iff_ne]; exact hxn
        have HNO := Lib.hid hno
        clear hno hxy hxn
        go_wp2_with (fail)
        go_quiet (fail)
        go_wp2_with (fail)
        go_ret2
        exact whPost_no HNO.out (below_drewN (HB1.out.trans (HBW.out.mono HB1.out.size)) _)
    · have hk4 : k = 4 := by omega
      have hyes : wholeO bs = some N := by
        have h := HG.out
        rw [List.take_of_length_le (by rw [EQ.out]; omega), List.take_of_length_le (by rw [HLEN.out]; omega)] at h
        have := whole_yes (bs := bs) (by rw [ENW.out]; exact EMM.out) (by rw [EE2.out]; exact h)
        rw [ENW.out] at this; exact this
      have HY := Lib.hid hyes
      have hge' : ¬ ((k : Int) < 4) := by omega
      clear hyes
      go_wp2_with (fail)
      go_ret2
      exact whPost_yes HY.out (HB1.out.trans (HBW.out.mono HB1.out.size))
end Go.Proofs.YtndjggabdajbfaaGreatDoor


