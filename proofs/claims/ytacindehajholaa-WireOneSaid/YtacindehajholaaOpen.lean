/- How a law's arguments are opened: integers, bools, strings, slices of bytes. Conditions: none. -/
import Derived.Test.YtacindehajholaaBase
import Derived.SizedLaws
namespace Go.Proofs.Ytacindehajholaa
open Go Go.RowKit Go.ChangeShapes Go.WideShapes

theorem opn_int {H : Type} {enc : TypeId × Value → H} {P : Program} {W : World} {base t : Nat} {k : IntKind} {v : Value} {d : DataW H} {p : List MemPlace} (ht : P.underlying t = some (.int k))
    (hv : Value.okWide P W .any base t v) (hj : DataW.Trod enc P W 0 (fun _ => true) true t v d p) : ∃ a, v = .int k a ∧ (Lit.int k a).wf = true := by
  obtain ⟨a, h1, _, _, h2⟩ := open_int ht hv hj
  exact ⟨a, h1, h2⟩
theorem opn_bool {H : Type} {enc : TypeId × Value → H} {P : Program} {W : World} {base t : Nat} {v : Value} {d : DataW H} {p : List MemPlace} (ht : P.underlying t = some .bool)
    (hv : Value.okWide P W .any base t v) (hj : DataW.Trod enc P W 0 (fun _ => true) true t v d p) : ∃ a, v = .bool a := by
  obtain ⟨a, h1, _, _⟩ := open_bool ht hv hj
  exact ⟨a, h1⟩
theorem opn_string {H : Type} {enc : TypeId × Value → H} {P : Program} {W : World} {base t j : Nat} {v : Value} {d : DataW H} {p : List MemPlace} {ts : List TypeId} {ds : List (DataW H)} (ht : P.underlying t = some .string)
    (hv : Value.okWide P W .any base t v) (hj : DataW.Trod enc P W 0 (fun _ => true) true t v d p) (hsz : (DataW.weightsEach P ts ds).all (· ≤ reachBytes) = true) (h1 : ts[j]? = some t) (h2 : ds[j]? = some d) :
    ∃ s : ByteArray, v = .string s ∧ s.size ≤ 140737488351232 := by
  obtain ⟨s, g1, g2, _, _⟩ := Go.ChangeMaps.open_string ht hv hj
  subst g2
  have := sized_string hsz h1 h2
  exact ⟨s, g1, by simpa [reachBytes] using this⟩

/-- The values of a slice of bytes. -/
theorem rd_of_ints {W : World} {a : Addr} {zs : List Int} {len : Nat} (hl : len ≤ zs.length) (hcell : ∀ i, i < zs.length → W.cell? (a.add i) = some (.int .u8 (zs.getD i 0))) (hwz : ∀ n ∈ zs, (Lit.int .u8 n).wf = true) :
    ∃ bs : List UInt8, bs.length = len ∧ Rd W (some a) (bs.map bv) := by
  refine ⟨(zs.take len).map (fun z => UInt8.ofNat z.toNat), by simp; omega, ?_⟩
  rcases Nat.eq_zero_or_pos len with h0 | h0
  · subst h0; exact .inl (by simp)
  · obtain ⟨b, off, spot⟩ := a
    have h1 := hcell 0 (by omega)
    have hs : spot = none := by simpa [Addr.add] using World.cell?_spot h1
    subst hs
    refine .inr ⟨b, off, rfl, ?_, fun k hk => ?_⟩
    · exact World.block_lt_of_cell? W ⟨b, off, none⟩ (by simpa [Addr.add] using h1)
    · have hk' : k < zs.length := by simp at hk; omega
      have h2 := hcell k hk'
      rw [Addr.add_lit] at h2
      rw [h2]
      have hb := bounds_u8 (hwz zs[k] (List.getElem_mem hk'))
      simp only [List.getElem_map, List.getElem_take, bv, List.getD_eq_getElem?_getD, List.getElem?_eq_getElem hk', Option.getD_some, UInt8.toNat_ofNat']
      congr 2
      omega

theorem opn_bytes {H : Type} {enc : TypeId × Value → H} {P : Program} {W : World} {base t e j : Nat} {v : Value} {d : DataW H} {p : List MemPlace} {ts : List TypeId} {ds : List (DataW H)} (ht : P.underlying t = some (.slice e)) (he : P.underlying e = some (.int .u8)) (hc : P.cellsOf e = 1) (hb : P.bytesOf e = 1)
    (hv : Value.okWide P W .any base t v) (hj : DataW.Trod enc P W 0 (fun _ => true) true t v d p) (hsz : (DataW.weightsEach P ts ds).all (· ≤ reachBytes) = true) (h1 : ts[j]? = some t) (h2 : ds[j]? = some d) :
    ∃ (A : Option Addr) (n c : Nat) (bs : List UInt8), v = .slice A n c ∧ bs.length = n ∧ Rd W A (bs.map bv) ∧ n ≤ c ∧ c ≤ maxLen ∧ n ≤ 140737488351232 := by
  obtain ⟨a0, len, cap, rfl⟩ := okWide_slice ht hv
  obtain ⟨fuel, hf⟩ := hj
  rcases open_ints ht he hc hf with ⟨hcs, _⟩ | ⟨x, l, c, zs, hcs, _, hl, hm, hz, hx, hcell, hwz⟩
  · simp [Value.cells] at hcs
    obtain ⟨rfl, rfl, rfl⟩ := hcs
    exact ⟨none, 0, 0, [], rfl, rfl, .inl rfl, Nat.le_refl _, Nat.zero_le _, by decide⟩
  · simp [Value.cells] at hcs
    obtain ⟨rfl, rfl, rfl⟩ := hcs
    simp only [Prod.mk.injEq] at hx
    obtain ⟨rfl, _⟩ := hx
    simp only [if_true] at hz
    have hs := sized_slice hsz h1 h2 ht
    rw [hb] at hs
    simp only [lits, List.length_map, List.length_take, List.length_drop, reachBytes] at hs
    obtain ⟨bs, g1, g2⟩ := rd_of_ints (len := len) (by omega) hcell hwz
    exact ⟨some x, len, cap, bs, rfl, g1, g2, hl, hm, by omega⟩
end Go.Proofs.Ytacindehajholaa
