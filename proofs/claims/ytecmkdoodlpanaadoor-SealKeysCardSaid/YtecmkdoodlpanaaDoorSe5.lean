/- Plain law: what is sealed is opened as it was; what is opened is what is sealed of it; another tag is refused. Conditions: lengths, numbers of their kinds. -/
import Derived.Test.YtecmkdoodlpanaaDoorSe0
namespace Go.Proofs.YtecmkdoodlpanaaDoor
open Go Go.RowKit

theorem lo_of (b : UInt8) : lo b.toNat = b := UInt8.toNat_inj.1 (by rw [lo_nat]; exact Nat.mod_eq_of_lt (UInt8.toNat_lt b))
theorem lo_to {k : Nat} (h : k < 256) : (lo k).toNat = k := by rw [lo_nat]; exact Nat.mod_eq_of_lt h
theorem lo_mod (n : Nat) : lo n = lo (n % 256) := UInt8.toNat_inj.1 (by rw [lo_nat, lo_nat, Nat.mod_mod])
theorem numL_add (n c size : Nat) : numL (n + c * 256 ^ size) size = numL n size := by
  unfold numL
  apply List.map_congr_left
  intro i hi
  have hi := List.mem_range.1 hi
  obtain ⟨j, hj⟩ : ∃ j, size - 1 - i = j := ⟨_, rfl⟩
  rw [hj]
  have e : 256 ^ size = 256 ^ (size - j - 1) * 256 * 256 ^ j := by
    rw [← Nat.pow_succ, ← Nat.pow_add]; congr 1; omega
  rw [e, ← Nat.mul_assoc, Nat.add_mul_div_right _ _ (Nat.pow_pos (by decide)), ← Nat.mul_assoc, lo_mod, Nat.add_mul_mod_self_right, ← lo_mod]
theorem numL_beN : ∀ (l : List UInt8), numL (beN l) l.length = l
  | [] => rfl
  | d :: l => by
    have hb := beN_lt l
    rw [List.length_cons, numL_succ, beN_cons]
    congr 1
    · rw [Nat.mul_comm, Nat.mul_add_div (Nat.pow_pos (by decide)), Nat.div_eq_of_lt hb, Nat.add_zero, lo_of]
    · rw [Nat.add_comm, numL_add, numL_beN l]

theorem head_hd (h : Hd) (r : List UInt8) (hk : h.k < 256) (he : h.e < 4294967296) (hq : U64 h.q) : hdOf (headL h ++ r) = h := by
  obtain ⟨k, d, e, q⟩ := h
  simp only at hk he
  have e0 : headL ⟨k, d, e, q⟩ ++ r = lo k :: (if d then 1 else 0) :: (numL e 4 ++ (numL q 8 ++ r)) := by
    simp [headL]
  have e1 : ((headL ⟨k, d, e, q⟩ ++ r).drop 2).take 4 = numL e 4 := by
    rw [e0]
    show (numL e 4 ++ (numL q 8 ++ r)).take 4 = _
    exact List.take_left' (numL_length _ _)
  have e2 : ((headL ⟨k, d, e, q⟩ ++ r).drop 6).take 8 = numL q 8 := by
    rw [e0]
    show ((numL e 4 ++ (numL q 8 ++ r)).drop 4).take 8 = _
    rw [List.drop_left' (numL_length _ _)]
    exact List.take_left' (numL_length _ _)
  unfold hdOf
  rw [e1, e2, beN_num, beN_num, Nat.mod_eq_of_lt (show e < 256 ^ 4 from he), Nat.mod_eq_of_lt (show q < 256 ^ 8 from hq)]
  have g0 : getB (headL ⟨k, d, e, q⟩ ++ r) 0 = lo k := by rw [e0]; rfl
  have g1 : getB (headL ⟨k, d, e, q⟩ ++ r) 1 = if d then 1 else 0 := by rw [e0]; rfl
  rw [g0, g1, lo_to hk]
  cases d <;> rfl
theorem head_way (h : Hd) (r : List UInt8) : ¬ 1 < (getB (headL h ++ r) 1).toNat := by
  have g1 : getB (headL h ++ r) 1 = if h.d then 1 else 0 := rfl
  rw [g1]
  split <;> decide
theorem peek_laid (h : Hd) (r : List UInt8) (ho : h.ok) (hm : mayB h = true) (h1 : 16 ≤ r.length) (h2 : r.length ≤ 528) : peekR (headL h ++ r) = (h, 0) := by
  obtain ⟨a, b, c⟩ := ho
  unfold peekR
  rw [List.length_append, headL_len, if_neg (by omega), if_neg (by omega), head_hd h r a b c, if_neg]
  rintro (h | h)
  · exact head_way _ _ h
  · rw [hm] at h; cases h
/-- What is opened of a head, a body and sixteen bytes. -/
theorem open_laid (key : List UInt8) (h : Hd) (body t : List UInt8) (ho : h.ok) (hm : mayB h = true) (hb : body.length ≤ 512) (ht : t.length = 16) :
    openR key (headL h ++ body ++ t) = if tagL key (headL h ++ body) = t then (h, body, 0) else (hd0, [], 8) := by
  have hp : peekR (headL h ++ body ++ t) = (h, 0) := by
    rw [List.append_assoc]
    exact peek_laid h _ ho hm (by rw [List.length_append]; omega) (by rw [List.length_append]; omega)
  have hl : (headL h ++ body ++ t).length = 14 + body.length + 16 := by rw [List.length_append, List.length_append, headL_len, ht]
  unfold openR
  rw [hp, hl]
  simp only [ne_eq, not_true_eq_false, if_false]
  have e1 : 14 + body.length + 16 - 16 = (headL h ++ body).length := by rw [List.length_append, headL_len]; omega
  have e2 : 14 + body.length + 16 - 30 = body.length := by omega
  rw [e1, e2, List.take_left, List.drop_left, List.append_assoc (headL h), List.drop_left' (headL_len h), List.take_left]
theorem open_seal (key : List UInt8) (h : Hd) (body : List UInt8) (ho : h.ok) (hm : mayB h = true) (hb : body.length ≤ 512) : openR key (sealR key h body).1 = (h, body, 0) := by
  have e : (sealR key h body).1 = headL h ++ body ++ tagL key (headL h ++ body) := by
    unfold sealR; rw [if_pos hm, if_pos hb]
  rw [e, open_laid key h body _ ho hm hb (tagL_len _ _), if_pos rfl]

theorem getB_cons2 {b : List UInt8} (h : 2 ≤ b.length) : b = getB b 0 :: getB b 1 :: b.drop 2 := by
  match b, h with
  | x :: y :: l, _ => rfl
theorem head_of (b : List UInt8) (h : 14 ≤ b.length) (hw : ¬ 1 < (getB b 1).toNat) : headL (hdOf b) = b.take 14 := by
  have e0 := getB_cons2 (b := b) (by omega)
  have l4 : ((b.drop 2).take 4).length = 4 := by rw [List.length_take, List.length_drop]; omega
  have l8 : ((b.drop 6).take 8).length = 8 := by rw [List.length_take, List.length_drop]; omega
  have n4 := numL_beN ((b.drop 2).take 4)
  have n8 := numL_beN ((b.drop 6).take 8)
  rw [l4] at n4
  rw [l8] at n8
  have hb1 : (if (getB b 1 == 1) = true then (1 : UInt8) else 0) = getB b 1 := by
    by_cases e : getB b 1 = 1
    · rw [e]; rfl
    · rw [if_neg (by simpa using e)]
      apply UInt8.toNat_inj.1
      have h1 : (getB b 1).toNat ≠ 1 := fun h => e (UInt8.toNat_inj.1 h)
      show 0 = _
      omega
  have e1 : b.take 14 = getB b 0 :: getB b 1 :: ((b.drop 2).take 4 ++ (b.drop 6).take 8) := by
    conv => lhs; rw [e0]
    show getB b 0 :: getB b 1 :: (b.drop 2).take 12 = _
    congr 2
    rw [show 12 = 4 + 8 from rfl, List.take_add, List.drop_drop]
  unfold headL hdOf
  simp only
  rw [lo_of, n4, n8, hb1, e1]
  rfl
theorem open_only (key b : List UInt8) {h : Hd} {body : List UInt8} (e : openR key b = (h, body, 0)) : sealR key h body = (b, 0) ∧ h.ok ∧ body.length ≤ 512 := by
  unfold openR at e
  split at e
  · rename_i h1
    exact absurd (congrArg (fun x : Hd × List UInt8 × Nat => x.2.2) e) h1
  · rename_i hp
    split at e
    · rename_i ht
      have hp0 : (peekR b).2 = 0 := by simpa using hp
      have hpk : 30 ≤ b.length ∧ b.length ≤ 542 ∧ ¬ 1 < (getB b 1).toNat ∧ mayB (hdOf b) = true ∧ (peekR b).1 = hdOf b := by
        unfold peekR at hp0 ⊢
        split at hp0
        · cases hp0
        · split at hp0
          · cases hp0
          · split at hp0
            · cases hp0
            · rename_i a1 a2 a3
              rw [if_neg a1, if_neg a2, if_neg a3]
              refine ⟨by omega, by omega, fun h => a3 (.inl h), ?_, rfl⟩
              cases hm : mayB (hdOf b) with
              | true => rfl
              | false => exact absurd (.inr hm) a3
      obtain ⟨l1, l2, l3, l4, l5⟩ := hpk
      have e1 : (peekR b).1 = h := congrArg (fun x : Hd × List UInt8 × Nat => x.1) e
      have e2 : (b.drop 14).take (b.length - 30) = body := congrArg (fun x : Hd × List UInt8 × Nat => x.2.1) e
      rw [l5] at e1
      clear e
      subst e1 e2
      have hbl : ((b.drop 14).take (b.length - 30)).length = b.length - 30 := by rw [List.length_take, List.length_drop]; omega
      have hd : headL (hdOf b) ++ (b.drop 14).take (b.length - 30) = b.take (b.length - 16) := by
        rw [head_of b (by omega) l3, ← List.take_add, show 14 + (b.length - 30) = b.length - 16 by omega]
      refine ⟨?_, hdOf_ok b, by rw [hbl]; omega⟩
      unfold sealR
      rw [if_pos l4, if_pos (by rw [hbl]; omega), hd, ht, List.take_append_drop]
    · have e3 : (8 : Nat) = 0 := congrArg (fun x : Hd × List UInt8 × Nat => x.2.2) e
      exact absurd e3 (by decide)
theorem seal_err (key : List UInt8) (h : Hd) (body : List UInt8) : (sealR key h body).2 ≠ 0 → (sealR key h body).1 = [] ∧ (mayB h = false ∨ 512 < body.length) := by
  unfold sealR
  split
  · split
    · intro h; exact absurd rfl h
    · rename_i h2; intro _; exact ⟨rfl, .inr (by omega)⟩
  · rename_i h1; intro _; exact ⟨rfl, .inl (by simpa using h1)⟩
theorem seal_ok (key : List UInt8) (h : Hd) (body : List UInt8) : (sealR key h body).2 = 0 → (sealR key h body).1 = headL h ++ body ++ tagL key (headL h ++ body) ∧ mayB h = true ∧ body.length ≤ 512 := by
  unfold sealR
  split
  · rename_i h1
    split
    · rename_i h2; intro _; exact ⟨rfl, h1, h2⟩
    · intro h; cases h
  · intro h; cases h
end Go.Proofs.YtecmkdoodlpanaaDoor
