/- How a law's argument is opened: a slice of slices of bytes; a slice of ints. Conditions: none. -/
import Derived.Test.YtacindehajholaaDoorOpen
import Derived.Test.YtacindehajholaaDoorSp
import Derived.Deep.Matrix
namespace Go.Proofs.YtacindehajholaaDoor
open Go Go.RowKit Go.ChangeShapes Go.WideShapes

theorem weightsAll_mem {H : Type} {P : Program} {e : TypeId} : ∀ {l : List (DataW H)} {d : DataW H}, d ∈ l → ∀ n ∈ d.weights P e, n ∈ DataW.weightsAll P e l
  | d' :: r, d, hd, n, hn => by
    simp only [DataW.weightsAll, List.mem_append]
    rcases List.mem_cons.1 hd with rfl | h
    · exact Or.inl hn
    · exact Or.inr (weightsAll_mem h n hn)
theorem sized_inner {H : Type} {P : Program} {ts : List TypeId} {ds : List (DataW H)} (h : (DataW.weightsEach P ts ds).all (· ≤ reachBytes) = true) {j : Nat} {t e q : TypeId} {elems spare e' sp' : List (DataW H)}
    (ht : ts[j]? = some t) (hd : ds[j]? = some (.slice elems spare)) (hu : P.underlying t = some (.slice e)) (hu2 : P.underlying e = some (.slice q)) (hx : DataW.slice e' sp' ∈ elems) : (e'.length + sp'.length) * P.bytesOf q ≤ reachBytes := by
  refine of_decide_eq_true (List.all_eq_true.1 h _ (DataW.weights_mem_each ht hd _ ?_))
  simp only [DataW.weights, hu, List.mem_cons, List.mem_append]
  exact Or.inr (Or.inl (weightsAll_mem hx _ (by simp [DataW.weights, hu2])))

theorem opn_bytess {H : Type} {enc : TypeId × Value → H} {P : Program} {W : World} {base t e q j : Nat} {v : Value} {d : DataW H} {p : List MemPlace} {ts : List TypeId} {ds : List (DataW H)} (ht : P.underlying t = some (.slice e)) (he : P.underlying e = some (.slice q)) (hq : P.underlying q = some (.int .u8))
    (ce : P.cellsOf e = 1) (be : P.bytesOf e = 24) (cq : P.cellsOf q = 1) (bq : P.bytesOf q = 1)
    (hv : Value.okWide P W .any base t v) (hj : DataW.Trod enc P W 0 (fun _ => true) true t v d p) (hsz : (DataW.weightsEach P ts ds).all (· ≤ reachBytes) = true) (k1 : ts[j]? = some t) (k2 : ds[j]? = some d) :
    ∃ (A : Option Addr) (n c : Nat) (bss : List (List UInt8)), v = .slice A n c ∧ (bss.length = n ∧ RdS W A bss ∧ n ≤ c ∧ c ≤ maxLen ∧ n * 24 ≤ 140737488351232 ∧ ∀ b ∈ bss, b.length ≤ 140737488351232) := by
  obtain ⟨a0, len, cap, rfl⟩ := okWide_slice ht hv
  obtain ⟨fuel, hf⟩ := hj
  rcases Deep.open_int_rows ht he hq ce cq hf with ⟨hcs, _⟩ | ⟨a, l, c, A, L, C, Z, hcs, _, hl, hm, hx, hcell⟩
  · simp [Value.cells] at hcs
    obtain ⟨rfl, rfl, rfl⟩ := hcs
    exact ⟨none, 0, 0, [], rfl, rfl, .inl rfl, Nat.le_refl _, Nat.zero_le _, by decide, by simp⟩
  · simp [Value.cells] at hcs
    obtain ⟨rfl, rfl, rfl⟩ := hcs
    simp only [Prod.mk.injEq] at hx
    obtain ⟨rfl, _⟩ := hx
    have hb := sized_slice hsz k1 k2 ht
    rw [be] at hb
    simp only [List.length_map, List.length_range, reachBytes] at hb
    have each : ∀ i, i < len → ∃ b : List UInt8, b.length = L i ∧ Rd W (A i) (b.map bv) ∧ b.length ≤ 140737488351232 := by
      intro i hi
      obtain ⟨g1, g2, g3, g4, g5, g6, g7⟩ := hcell i (by omega)
      cases hA : A i with
      | none =>
        have h0 := g6 hA
        exact ⟨[], by simp; omega, .inl rfl, by simp⟩
      | some a' =>
        obtain ⟨_, h2⟩ := g7 a' hA
        obtain ⟨bs, h3, h4⟩ := rd_of_ints (W := W) (a := a') (zs := Z i) (len := L i) (by omega) (fun k hk => h2 k (by omega)) g5
        refine ⟨bs, h3, h4, ?_⟩
        have hmem : DataW.slice (lits (H := H) .u8 ((Z i).take (L i))) (lits .u8 ((Z i).drop (L i))) ∈ (List.range len).map (fun r => Deep.intRow (H := H) .u8 (A r) (L r) (Z r)) := by
          refine List.mem_map.2 ⟨i, List.mem_range.2 hi, ?_⟩
          simp [Deep.intRow, hA]
        have h5 := sized_inner hsz k1 k2 ht he hmem
        rw [bq] at h5
        simp only [lits, List.length_map, List.length_take, List.length_drop, reachBytes] at h5
        omega
    obtain ⟨bss, z1, z2⟩ := list_of_all len each
    refine ⟨some a, len, _, bss, rfl, z1, ?_, hl, hm, by omega, fun b hb' => ?_⟩
    · rcases Nat.eq_zero_or_pos len with h0 | h0
      · left; exact List.eq_nil_of_length_eq_zero (by omega)
      · obtain ⟨b, off, spot⟩ := a
        have hz0 := (hcell 0 (by omega)).1
        have hsp : spot = none := by simpa [Addr.add] using World.cell?_spot hz0
        subst hsp
        refine .inr ⟨b, off, rfl, World.block_lt_of_cell? W ⟨b, off, none⟩ (by simpa [Addr.add] using hz0), fun k hk => ?_⟩
        obtain ⟨g1, g2, g3, _⟩ := hcell k (by omega)
        obtain ⟨z3, z4, _⟩ := z2 k hk
        rw [Addr.add_lit] at g1
        exact ⟨A k, C k, by rw [z3]; exact g1, z4, by rw [z3]; exact g2, g3⟩
    · obtain ⟨i, hi, rfl⟩ := List.mem_iff_getElem.1 hb'
      exact (z2 i hi).2.2
end Go.Proofs.YtacindehajholaaDoor
