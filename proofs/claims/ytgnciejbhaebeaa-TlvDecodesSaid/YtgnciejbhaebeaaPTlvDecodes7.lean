/- Parts one behind the other: The chapter's examples of items; What the reference's Turn does to events of one's own: it writes into their blocks alone; What the reference's Turn does to items: it writes into their blocks alone, and what it needs stays as it is; What the reference's Turn does to items: it writes into their blocks alone, and what it needs stays as it is; The walk of the law TlvDecodes: it returns true. Conditions: as told at each. -/
import Derived.Test.YtgnciejbhaebeaaPTlvDecodes3
import Derived.Test.YtgnciejbhaebeaaPTlvDecodes5
import Derived.Test.YtgnciejbhaebeaaPTlvDecodes6
import Derived.Test.YtgnciejbhaebeaaPTlvDecodes1
import Derived.StillTailTactics
import Derived.Test.YtgnciejbhaebeaaPTlvDecodes2

/- The chapter's examples of items. Conditions: none. -/
namespace Go.Proofs.Ytgnciejbhaebeaa
open Go Go.RowKit

def fxF : Fo := .cons 1 false false [7] .nil (.cons 2 true true [] .nil .nil)
theorem fx_lay : layL fxF = [4, 1, 7, 11, 0] := by
  simp only [fxF, layL, numI, List.length_nil, List.length_singleton, List.append_nil, if_true, Bool.false_eq_true, if_false]
  rw [varL_lo (by decide), varL_lo (by decide), varL_lo (by decide), varL_lo (by decide)]
  rfl
theorem fx_check : checkF fxF = 0 := by
  rw [checkF, fx_lay]
  have : scanF (fullR fxF 1 0) 0 = 0 := by decide
  rw [this]
  rfl
theorem fx_enc : encF fxF = [4, 1, 7, 11, 0] := by rw [encF, fx_check, if_pos rfl, fx_lay]
theorem fx_dec : (decT [4, 0, 4, 0]).1 = 3 := by kernel_rfl
theorem fx_pick : pickT [1] fxF = (7, .nil) := by
  have : critF [1] fxF = true := by decide
  rw [pickT, this]; rfl
set_option maxRecDepth 100000 in
set_option maxHeartbeats 4000000 in
theorem fixedT_c (w : World) : Calls Try.prog 41 #[] w fun r w' => r = .returned (.bool true) ∧ Below w.heap.size w w' := by
  obtain ⟨w1, ew1⟩ : ∃ w1, w1 = w.alloc (.cells #[.int .u8 7] 5) := ⟨_, rfl⟩
  obtain ⟨g, eg⟩ : ∃ g, g = w.heap.size := ⟨_, rfl⟩
  obtain ⟨w2, ew2⟩ : ∃ w2, w2 = w1.alloc (.cells #[.int .i64 1, .bool false, .bool false, .slice (some ⟨g, 0, none⟩) 1 1, .slice none 0 0, .int .i64 2, .bool true, .bool true, .slice none 0 0, .slice none 0 0] 95) := ⟨_, rfl⟩
  have hs1 : w1.heap.size = g + 1 := by rw [ew1, eg]; simp
  have b1 : Below w.heap.size w w1 := by rw [ew1]; exact (Below.refl _ _).alloc (Nat.le_refl _) _
  have b2 : Below w.heap.size w w2 := by rw [ew2]; exact b1.alloc b1.size _
  have h1 : w2.heap[g]? = some (.cells #[.int .u8 7] 5 (0, 0)) := by rw [ew2, Below.heap_alloc _ _ _ (by omega), ew1, eg]; exact heap_alloc_new _ _
  have h2 : w2.heap[g + 1]? = some (.cells #[.int .i64 1, .bool false, .bool false, .slice (some ⟨g, 0, none⟩) 1 1, .slice none 0 0, .int .i64 2, .bool true, .bool true, .slice none 0 0, .slice none 0 0] 95 (0, 0)) := by rw [ew2, ← hs1]; exact heap_alloc_new _ _
  have hf : FoR (fun _ => True) w2 (some ⟨g + 1, 0, none⟩) 0 fxF := by
    refine FoR.of_row (heap_lt h2) trivial fxF [⟨1, false, false, some ⟨g, 0, none⟩, 1, 1, none, 0, 0⟩, ⟨2, true, true, none, 0, 0, none, 0, 0⟩] 0 (fun k hk => ?_) ?_
    · simp only [Nat.zero_mul, Nat.zero_add]
      rw [heap_cell h2]
      have hk10 : k < 10 := hk
      match k, hk10 with
      | 0, _ => rfl
      | 1, _ => rfl
      | 2, _ => rfl
      | 3, _ => rfl
      | 4, _ => rfl
      | 5, _ => rfl
      | 6, _ => rfl
      | 7, _ => rfl
      | 8, _ => rfl
      | 9, _ => rfl
    · refine ⟨_, _, rfl, rfl, rfl, rfl, ⟨rfl, ?_, Nat.le_refl _, by show 1 ≤ maxLen; unfold maxLen; omega, fun _ _ _ => trivial, by show 1 ≤ 140737488355328; omega⟩, ⟨rfl, trivial, Nat.le_refl _, Nat.zero_le _, Nat.zero_le _⟩, ?_⟩
      · refine .inr ⟨g, 0, rfl, heap_lt h1, fun k hk => ?_⟩
        have hk1 : k < 1 := hk
        rw [heap_cell h1]
        match k, hk1 with
        | 0, _ => rfl
      · exact ⟨_, [], rfl, rfl, rfl, rfl, (TxtO.nil_ _ _).r, ⟨rfl, trivial, Nat.le_refl _, Nat.zero_le _, Nat.zero_le _⟩, rfl⟩
  have HF := Lib.hid hf
  have B2 := Lib.hid b2
  have EW1 := Lib.hid ew1
  have EG := Lib.hid eg
  have EW2 := Lib.hid ew2
  clear ew1 eg ew2 hs1 b1 b2 h1 h2 hf
  go_enter Try.func41, Try.ntmps41
  go_wp2_with (fail)
  rw [← EW1.out, ← EG.out, ← EW2.out]
  refine (EncodeT_c fxF (fun _ => True) (some ⟨g + 1, 0, none⟩) 2 2 w2 rfl HF.out (by omega)).mono ?_
  rintro _ w3 ⟨v3, rfl, ho3, hb3⟩
  rw [fx_check]
  rw [fx_enc] at ho3
  obtain ⟨A3, c3, rfl, -, -, r3, -⟩ := OwnB.form ho3
  have B3 := Lib.hid (B2.out.trans (hb3.mono B2.out.size))
  have R3 := Lib.hid r3
  have HF3 := Lib.hid (HF.out.below hb3)
  clear ho3 hb3 r3
  have rd4 : Rd (w3.alloc (.cells #[.int .u8 4, .int .u8 0, .int .u8 4, .int .u8 0] 5)) (some ⟨w3.heap.size, 0, none⟩) (([4, 0, 4, 0] : List UInt8).map bv) := Rd.lit w3 (([4, 0, 4, 0] : List UInt8).map bv) 5
  have b34 : Below w3.heap.size w3 (w3.alloc (.cells #[.int .u8 4, .int .u8 0, .int .u8 4, .int .u8 0] 5)) := (Below.refl _ _).alloc (Nat.le_refl _) _
  have RD4 := Lib.hid rd4
  have B34 := Lib.hid b34
  clear rd4 b34
  go_wp2_with (fail)
  refine (DecodeT_c [4, 0, 4, 0] _ 4 4 _ rfl RD4.out (by omega)).mono ?_
  rintro _ w5 ⟨v5, rfl, -, hb5⟩
  rw [fx_dec]
  have b35 : Below w3.heap.size w3 w5 := B34.out.trans (hb5.mono B34.out.size)
  have B5 := Lib.hid (B3.out.trans (b35.mono B3.out.size))
  have HF5 := Lib.hid (HF3.out.below b35)
  have R5 := Lib.hid (R3.out.below b35)
  clear hb5 b35
  obtain ⟨w6, ew6⟩ : ∃ w6, w6 = w5.alloc (.cells #[.int .i64 1] 3) := ⟨_, rfl⟩
  have b56 : Below w5.heap.size w5 w6 := by rw [ew6]; exact (Below.refl _ _).alloc (Nat.le_refl _) _
  have rk : RdI w6 (some ⟨w5.heap.size, 0, none⟩) [1] := by
    refine .inr ⟨w5.heap.size, 0, rfl, by rw [ew6]; simp, fun k hk => ?_⟩
    have hk1 : k < 1 := hk
    rw [ew6, heap_cell (heap_alloc_new _ _)]
    match k, hk1 with
    | 0, _ => rfl
  have HF6 := Lib.hid (HF5.out.below b56)
  have R6 := Lib.hid (R5.out.below b56)
  have B6 := Lib.hid (B5.out.trans (b56.mono B5.out.size))
  have RK := Lib.hid rk
  have EW6 := Lib.hid ew6
  clear ew6 b56 rk
  go_wp2_with (fail)
  rw [← EW6.out]
  refine (Pick_c fxF (fun _ => True) (some ⟨g + 1, 0, none⟩) 2 2 (some ⟨w5.heap.size, 0, none⟩) 1 1 [1] w6 rfl HF6.out (by decide) rfl RK.out (by omega)).mono ?_
  rintro _ w7 ⟨v7, rfl, -, hb7⟩
  rw [fx_pick]
  have B7 := Lib.hid (B6.out.trans (hb7.mono B6.out.size))
  have R7 := Lib.hid (R6.out.below hb7)
  clear hb7
  have b78 : Below w7.heap.size w7 (w7.alloc (.cells #[.int .u8 4, .int .u8 1, .int .u8 7, .int .u8 11, .int .u8 0] 5)) := (Below.refl _ _).alloc (Nat.le_refl _) _
  have rd8 : Rd (w7.alloc (.cells #[.int .u8 4, .int .u8 1, .int .u8 7, .int .u8 11, .int .u8 0] 5)) (some ⟨w7.heap.size, 0, none⟩) (([4, 1, 7, 11, 0] : List UInt8).map bv) := Rd.lit w7 (([4, 1, 7, 11, 0] : List UInt8).map bv) 5
  have R8 := Lib.hid (R7.out.below b78)
  have RD8 := Lib.hid rd8
  have B8 := Lib.hid (B7.out.trans (b78.mono B7.out.size))
  clear b78 rd8
  go_wp2_with (fail)
  refine (Same_t A3 (some ⟨w7.heap.size, 0, none⟩) 5 5 c3 5 [4, 1, 7, 11, 0] _ rfl rfl R8.out RD8.out (by unfold maxLen; omega)).mono ?_
  rintro _ w9 ⟨rfl, q, rfl⟩
  go_wp2_with (fail)
  go_ret
  exact ⟨rfl, below_drewN B8.out q⟩
end Go.Proofs.Ytgnciejbhaebeaa

/- What the reference's Turn does to events of one's own: it writes into their blocks alone. Conditions: events of one's own. -/
namespace Go.Proofs.Ytgnciejbhaebeaa
open Go Go.RowKit

theorem u8_bv (z : Int) : ∃ b : UInt8, Value.int .u8 (z % 256) = bv b := by
  refine ⟨UInt8.ofNat (z % 256).toNat, ?_⟩
  unfold bv
  rw [UInt8.toNat_ofNat']
  congr 1
  omega
theorem Own.types {w : World} {B B' s s' n n' c c' g : Nat} {e e' : TypeId} {vs vs' : List Value} (h : w.ownsRow B e s (.slice (some ⟨g, 0, none⟩) n c) n vs) (h' : w.ownsRow B' e' s' (.slice (some ⟨g, 0, none⟩) n' c') n' vs') : e = e' := by
  rcases h.2 with ⟨h, _⟩ | ⟨g1, _, _, hv, _, hg, _⟩
  · cases h
  · rcases h'.2 with ⟨h, _⟩ | ⟨g2, _, _, hv', _, hg', _⟩
    · cases h
    · injection hv with hv _ _
      injection hv with hv
      injection hv with hv
      injection hv' with hv' _ _
      injection hv' with hv'
      injection hv' with hv'
      subst hv hv'
      rw [hg] at hg'
      injection hg' with hg'
      injection hg'
/-- A byte written into some block of bytes: texts stay texts. -/
theorem TxtO.poke {ok : Nat → Prop} {w : World} {A : Option Addr} {n c h k : Nat} {bs : List UInt8} (ht : TxtO ok w A n c bs) (b : UInt8) : ∃ bs', TxtO ok (w.setCell ⟨h, k, none⟩ (bv b)) A n c bs' := by
  obtain ⟨h1, h2, h3, h4⟩ := ht
  by_cases e : ∃ g, A = some ⟨g, 0, none⟩ ∧ g = h
  · obtain ⟨g, rfl, rfl⟩ := e
    exact ⟨bs.set k b, by simpa using h1, h2.set k b, h3, h4⟩
  · refine ⟨bs, h1, Own.frameK h2 (fun g eg => heap_far _ ?_), h3, h4⟩
    rintro rfl
    rcases h2.2 with ⟨hv, _⟩ | ⟨g', _, _, hv, _⟩
    · rw [hv] at eg; cases eg
    · injection hv with hv _ _
      subst hv
      injection eg with eg
      exact e ⟨g', rfl, eg⟩
theorem EvsO.poke {ok : Nat → Prop} {w : World} {v : Value} {ds : List EvV} {es : List Ev} (h : EvsO ok w v ds es) (i : Nat) (hi : i < ds.length) (g : Nat) (hg : ds[i].A = some ⟨g, 0, none⟩) (k : Nat) (b : UInt8) :
    ∃ es', EvsO ok (w.setCell ⟨g, k, none⟩ (bv b)) v ds es' := by
  have hl := h.len
  have hne : ∀ q, v.ownBlock = some q → q ≠ g := by
    rintro q eq rfl
    have ht := (h.each i hi (by omega)).2.2.2.2
    rw [hg] at ht
    have hrow := h.row
    rcases hrow.2 with ⟨hv, _⟩ | ⟨g', cap, cur, hv, _⟩
    · rw [hv] at eq; cases eq
    · rw [hv] at eq
      injection eq with eq
      simp only at eq
      subst eq
      have h2 := ht.2.1
      unfold OwnB Own at h2
      unfold OwnV at hrow
      rw [hv] at hrow
      have e1 := ht.1
      rw [List.length_map, e1] at h2
      have := Own.types hrow h2
      revert this
      decide
  have each : ∀ j, ∃ e', ∀ (h1 : j < ds.length), EvO ok (w.setCell ⟨g, k, none⟩ (bv b)) ds[j] e' := by
    intro j
    by_cases hj : j < ds.length
    · have ho := h.each j hj (by omega)
      obtain ⟨bs', hb⟩ := ho.2.2.2.2.poke (h := g) (k := k) b
      exact ⟨⟨(es[j]'(by omega)).k, bs', (es[j]'(by omega)).x, (es[j]'(by omega)).y, (es[j]'(by omega)).b⟩, fun _ => ⟨ho.1, ho.2.1, ho.2.2.1, ho.2.2.2.1, hb⟩⟩
    · exact ⟨⟨0, [], 0, 0, 0⟩, fun h => absurd h hj⟩
  let f : Nat → Ev := fun j => Classical.choose (each j)
  refine ⟨(List.range ds.length).map f, by simp, Own.frameK h.row (fun q eq => heap_far _ (hne q eq)), h.ok_, fun j h1 h2 => ?_⟩
  simp only [List.getElem_map, List.getElem_range]
  exact Classical.choose_spec (each j) h1
theorem EvsO.setX {ok : Nat → Prop} {w : World} {g n c : Nat} {ds : List EvV} {es : List Ev} (h : EvsO ok w (.slice (some ⟨g, 0, none⟩) n c) ds es) (i : Nat) (hi : i < ds.length) (x : Int) :
    ∃ ds' es', EvsO ok (w.setCell ⟨g, i * 5 + 2, none⟩ (.int .i64 x)) (.slice (some ⟨g, 0, none⟩) n c) ds' es' ∧ ds'.length = ds.length := by
  have hl := h.len
  have hne : ∀ j (hj : j < ds.length) a, ds[j].A = some a → a.block ≠ g := by
    rintro j hj a ea eg
    have ht := (h.each j hj (by omega)).2.2.2.2
    have h2 := ht.2.1
    unfold OwnB Own at h2
    rw [List.length_map, ht.1, ea] at h2
    rcases h2.2 with ⟨hv, _⟩ | ⟨g', _, _, hv, _⟩
    · cases hv
    · injection hv with hv _ _
      injection hv with hv
      subst hv
      simp only at eg
      subst eg
      have := Own.types h.row.to_n h2
      revert this
      decide
  refine ⟨_, es.set i ⟨(es[i]'(by omega)).k, (es[i]'(by omega)).t, x, (es[i]'(by omega)).y, (es[i]'(by omega)).b⟩, ⟨by simp [hl], h.row.setX i hi x, h.ok_, fun j h1 h2 => ?_⟩, by simp⟩
  have h1' : j < ds.length := by simpa using h1
  have ho := h.each j h1' (by omega)
  have far : TxtO ok (w.setCell ⟨g, i * 5 + 2, none⟩ (.int .i64 x)) ds[j].A ds[j].n ds[j].c (es[j]'(by omega)).t := by
    obtain ⟨q1, q2, q3, q4⟩ := ho.2.2.2.2
    refine ⟨q1, Own.frameK q2 (fun q eq => heap_far _ ?_), q3, q4⟩
    cases hA : ds[j].A with
    | none => rw [hA] at eq; cases eq
    | some a =>
      rw [hA] at eq
      injection eq with eq
      subst eq
      exact hne j h1' a hA
  rw [List.getElem_set, List.getElem_set]
  split
  · rename_i hij
    subst hij
    exact ⟨ho.1, rfl, ho.2.2.1, ho.2.2.2.1, far⟩
  · exact ⟨ho.1, ho.2.1, ho.2.2.1, ho.2.2.2.1, far⟩

set_option maxRecDepth 100000 in
set_option maxHeartbeats 2000000 in
theorem Turn24_c (ok : Nat → Prop) (A : Option Addr) (n c : Nat) (ds : List EvV) (es : List Ev) (w : World) (hn : es.length = n) (hr : EvsO ok w (.slice A n c) ds es) :
    Calls Try.prog 30 #[.slice A n c] w fun r w' => r = .returned (.tuple #[]) ∧ Keeps ok w w' := by
  have hdn : ds.length = n := hr.len.trans hn
  clear hn
  rcases Nat.eq_zero_or_pos n with h0 | h0
  · subst h0
    go_enter Try.func30, Try.ntmps30
    go_wp2
    go_loopw [6] (fun i wr => i = .int .i64 (0 : Nat) ∧ wr = w) (fun _ _ => 0)
    case atStart => exact ⟨rfl, rfl⟩
    case round =>
      obtain ⟨rfl, rfl⟩ := hrel
      go_wp2
      go_end0
      exact ⟨rfl, Keeps.refl _ _⟩
  · obtain ⟨g, rfl⟩ : ∃ g, A = some ⟨g, 0, none⟩ := by
      rcases hr.row.2 with ⟨h, h1⟩ | ⟨g, _, _, hv, _⟩
      · omega
      · injection hv with hv _ _
        exact ⟨g, hv⟩
    have HR := Lib.hid hr; clear hr
    have hnc : n ≤ c ∧ c ≤ maxLen := by have := HR.out.row.len; omega
    obtain ⟨hnc, hcm⟩ := hnc
    unfold maxLen at hcm
    go_enter Try.func30, Try.ntmps30
    go_wp2
    go_loopw [6] (fun i wr => ∃ (k : Nat) (ds' : List EvV) (es' : List Ev), k ≤ n ∧ i = .int .i64 k ∧ Hid (ds'.length = n) ∧ Hid (EvsO ok wr (.slice (some ⟨g, 0, none⟩) n c) ds' es') ∧ Hid (Keeps ok w wr)) (fun i _ => n - (intOf i).toNat)
    case atStart => exact ⟨0, ds, es, Nat.zero_le _, rfl, Lib.hid hdn, HR, Lib.hid (Keeps.refl _ _)⟩
    case round =>
      clear HR hdn
      obtain ⟨k, ds', es', hk, rfl, HD, HR, HK⟩ := hrel
      rcases Nat.lt_or_ge k n with hlt | hge
      · have hkd : k < ds'.length := by rw [HD.out]; exact hlt
        obtain ⟨m, em⟩ : ∃ m, m = ds'[k].n := ⟨_, rfl⟩
        obtain ⟨cm, ecm⟩ : ∃ cm, cm = ds'[k].c := ⟨_, rfl⟩
        obtain ⟨At, eAt⟩ : ∃ At, At = ds'[k].A := ⟨_, rfl⟩
        have EM := Lib.hid em; clear em
        have EC := Lib.hid ecm; clear ecm
        have EA := Lib.hid eAt; clear eAt
        have hm5 : m ≤ 140737488355328 ∧ m ≤ cm ∧ cm ≤ maxLen := by
          have ht := (HR.out.each k hkd (by rw [← HR.out.len]; exact hkd)).2.2.2.2.r
          rw [EM.out, EC.out]
          exact ⟨ht.2.2.2.2.2, ht.2.2.1, ht.2.2.2.1⟩
        obtain ⟨m1, m2, m3⟩ := hm5
        unfold maxLen at m3
        have c1 := (HR.out.row.five k hkd).2.1
        rw [← EM.out, ← EC.out, ← EA.out] at c1
        have hlt' : (k : Int) < (n : Int) := by omega
        go_wp2_with (fail)
        go_loopw [15] (fun j wi => ∃ (q : Nat) (es2 : List Ev), q ≤ m ∧ j = .int .i64 q ∧ Hid (EvsO ok wi (.slice (some ⟨g, 0, none⟩) n c) ds' es2) ∧ Hid (Keeps ok w wi)) (fun j _ => m - (intOf j).toNat)
        case atStart => exact ⟨0, es', Nat.zero_le _, rfl, HR, HK⟩
        case round =>
          clear HR HK c1
          obtain ⟨q, es2, hq, rfl, HR, HK⟩ := hrel
          have c1 := (HR.out.row.five k hkd).2.1
          have c2 := (HR.out.row.five k hkd).2.2.1
          have fr := HR.out.row.free (k * 5 + 2)
          rw [← EM.out, ← EC.out, ← EA.out] at c1
          rcases Nat.lt_or_ge q m with hqm | hqm
          · have he2 : k < es2.length := by rw [← HR.out.len]; exact hkd
            have ht := (HR.out.each k hkd he2).2.2.2.2
            rw [← EM.out, ← EC.out, ← EA.out] at ht
            obtain ⟨h, rfl⟩ : ∃ h, At = some ⟨h, 0, none⟩ := by
              rcases ht.2.1.2 with ⟨hh, h1⟩ | ⟨h, _, _, hv, _⟩
              · rw [List.length_map, ht.1] at h1; omega
              · injection hv with hv _ _
                exact ⟨h, hv⟩
            have b0 := ht.2.1.cell q (by rw [ht.1]; exact hqm)
            have bf := ht.2.1.free q
            obtain ⟨x, ex⟩ : ∃ x, x = (es2[k].t[q]'(by rw [ht.1]; exact hqm)).toNat := ⟨_, rfl⟩
            unfold bv at b0
            rw [← ex] at b0
            have hok := ht.2.2.1 _ rfl
            clear ex
            have HT := Lib.hid ht; clear ht c2 fr
            have hqm' : (q : Int) < (m : Int) := by omega
            go_wp2_with (fail)
            obtain ⟨b', eb⟩ := u8_bv ((x : Int) + 1)
            rw [eb]
            obtain ⟨es3, h3⟩ := HR.out.poke k hkd h EA.out.symm q b'
            have H3 := Lib.hid h3; clear h3
            have K3 := Lib.hid (HK.out.trans (Keeps.set ok wr ⟨h, q, none⟩ (bv b') hok))
            go_roundw
            case rel => exact ⟨q + 1, es3, by omega, by go_num, H3, K3⟩
            case measure => simp [intOf]; omega
          · obtain rfl : m = q := by omega
            go_wp2_with (fail)
            obtain ⟨ds3, es3, h3, l3⟩ := HR.out.setX k hkd (bits BinOp.xor IntKind.i64 ds'[k].x 1)
            have H3 := Lib.hid h3; clear h3
            have L3 : Hid (ds3.length = n) := Lib.hid (l3.trans HD.out)
            have K3 := Lib.hid (HK.out.trans (Keeps.set ok wr ⟨g, k * 5 + 2, none⟩ (.int .i64 (bits BinOp.xor IntKind.i64 ds'[k].x 1)) (HR.out.ok_ g rfl)))
            go_roundw
            case rel => exact ⟨k + 1, ds3, es3, by omega, by go_num, L3, H3, K3⟩
            case measure => simp [intOf]; omega
      · obtain rfl : n = k := by omega
        go_wp2_with (fail)
        go_end0
        exact ⟨rfl, HK.out⟩
end Go.Proofs.Ytgnciejbhaebeaa

/- What the reference's Turn does to items: it writes into their blocks alone, and what it needs stays as it is. Conditions: items of one's own. -/
namespace Go.Proofs.Ytgnciejbhaebeaa
open Go Go.RowKit

/-- A byte may become another byte, a bool another bool; all else stays. -/
def softV : Value → Value → Prop
  | .int .u8 x, v' => v' = .int .u8 x ∨ ∃ b, v' = bv b
  | .bool _, v' => ∃ b, v' = .bool b
  | v, v' => v' = v
theorem softV.refl (v : Value) : softV v v := by
  unfold softV
  split
  · exact .inl rfl
  · exact ⟨_, rfl⟩
  · rfl
theorem softV.trans {a b c : Value} (h : softV a b) (k : softV b c) : softV a c := by
  unfold softV at h ⊢
  split at h
  · rcases h with rfl | ⟨x, rfl⟩
    · unfold softV at k; exact k
    · unfold softV bv at k
      rcases k with rfl | ⟨y, rfl⟩
      · exact .inr ⟨x, rfl⟩
      · exact .inr ⟨y, rfl⟩
  · obtain ⟨x, rfl⟩ := h
    unfold softV at k
    exact k
  · rename_i h1 h2
    subst h
    unfold softV at k
    split at k
    · exact absurd rfl (h1 _)
    · exact absurd rfl (h2 _)
    · exact k
structure Soft (w w' : World) : Prop where
  fr : ∀ p, w'.frozen? p = w.frozen? p
  ce : ∀ p v, w.cell? p = some v → ∃ v', w'.cell? p = some v' ∧ softV v v'
theorem Soft.refl (w : World) : Soft w w := ⟨fun _ => rfl, fun p v h => ⟨v, h, softV.refl v⟩⟩
theorem Soft.trans {a b c : World} (h : Soft a b) (k : Soft b c) : Soft a c := by
  refine ⟨fun p => (k.fr p).trans (h.fr p), fun p v hv => ?_⟩
  obtain ⟨v1, h1, s1⟩ := h.ce p v hv
  obtain ⟨v2, h2, s2⟩ := k.ce p v1 h1
  exact ⟨v2, h2, s1.trans s2⟩
theorem Soft.drew (w : World) : Soft w w.drew := ⟨fun _ => rfl, fun p v h => ⟨v, h, softV.refl v⟩⟩
theorem Soft.set {w : World} {p : Addr} {v u : Value} (h : w.cell? p = some v) (hs : softV v u) : Soft w (w.setCell p u) := by
  refine ⟨fun q => World.frozen?_setCell _ _ _ _, fun q x hx => ?_⟩
  by_cases e : p = q
  · subst e
    rw [h] at hx
    injection hx with hx
    subst hx
    exact ⟨u, World.cell?_setCell_same _ _ _ h, hs⟩
  · exact ⟨x, (World.cell?_setCell_other _ _ _ _ e).trans hx, softV.refl x⟩
/-- Bytes that may be turned. -/
def BtT (ok : Nat → Prop) (w : World) (A : Option Addr) (n : Nat) : Prop := n = 0 ∨ ∃ g o, A = some ⟨g, o, none⟩ ∧ ok g ∧ ∀ j, j < n → w.frozen? ⟨g, o + j, none⟩ = false ∧ ∃ x, w.cell? ⟨g, o + j, none⟩ = some (bv x)
theorem BtT.soft {ok : Nat → Prop} {w w' : World} {A : Option Addr} {n : Nat} (h : BtT ok w A n) (hs : Soft w w') : BtT ok w' A n := by
  rcases h with h | ⟨g, o, h1, h2, h3⟩
  · exact .inl h
  · refine .inr ⟨g, o, h1, h2, fun j hj => ?_⟩
    obtain ⟨k1, x, k2⟩ := h3 j hj
    refine ⟨(hs.fr _).trans k1, ?_⟩
    obtain ⟨v', e, s⟩ := hs.ce _ _ k2
    unfold softV bv at s
    rcases s with rfl | ⟨y, rfl⟩
    · exact ⟨x, e⟩
    · exact ⟨y, e⟩
/-- Items that may be turned. -/
def FoT (ok : Nat → Prop) (w : World) : Option Addr → Nat → Fo → Prop
  | _, _, .nil => True
  | A, i, .cons _ _ _ bs sub rest => (∃ b off At c As d cr, A = some ⟨b, off, none⟩ ∧ ok b ∧ w.frozen? ⟨b, off + i * 5 + 1, none⟩ = false ∧
      (w.cell? ⟨b, off + i * 5 + 1, none⟩ = some (.bool cr) ∧ w.cell? ⟨b, off + i * 5 + 3, none⟩ = some (.slice At bs.length c) ∧ w.cell? ⟨b, off + i * 5 + 4, none⟩ = some (.slice As sub.len d)) ∧
      BtT ok w At bs.length ∧ bs.length ≤ c ∧ c ≤ maxLen ∧ FoT ok w As 0 sub ∧ sub.len ≤ d ∧ d ≤ maxLen ∧ sub.len ≤ 2199023255488) ∧ FoT ok w A (i + 1) rest
theorem FoT.soft {ok : Nat → Prop} {w w' : World} (hs : Soft w w') : ∀ (f : Fo) (A : Option Addr) (i : Nat), FoT ok w A i f → FoT ok w' A i f
  | .nil, _, _, _ => trivial
  | .cons k cr0 li bs sub rest, A, i, h => by
    obtain ⟨⟨b, off, At, c, As, d, cr, e, hok, hf, ⟨c1, c3, c4⟩, ht, hc, hm, hsub, h2⟩, hr⟩ := h
    obtain ⟨v1, e1, s1⟩ := hs.ce _ _ c1
    obtain ⟨v3, e3, s3⟩ := hs.ce _ _ c3
    obtain ⟨v4, e4, s4⟩ := hs.ce _ _ c4
    obtain ⟨cr', rfl⟩ : ∃ b, v1 = .bool b := s1
    obtain rfl : v3 = .slice At bs.length c := s3
    obtain rfl : v4 = .slice As sub.len d := s4
    exact ⟨⟨b, off, At, c, As, d, cr', e, hok, (hs.fr _).trans hf, ⟨e1, e3, e4⟩, ht.soft hs, hc, hm, FoT.soft hs sub As 0 hsub, h2⟩, FoT.soft hs rest A (i + 1) hr⟩
theorem TxtO.turn {ok : Nat → Prop} {w : World} {A : Option Addr} {n c : Nat} {bs : List UInt8} (h : TxtO ok w A n c bs) : BtT ok w A n := by
  obtain ⟨h1, h2, h3, h4⟩ := h
  rcases h2.2 with ⟨hv, h0⟩ | ⟨g, cap, cur, hv, -⟩
  · left; rw [List.length_map] at h0; omega
  · injection hv with e1 e2 e3
    subst e1
    refine .inr ⟨g, 0, rfl, h3 _ rfl, fun j hj => ?_⟩
    rw [Nat.zero_add]
    exact ⟨h2.free j, _, h2.cell j (by rw [h1]; exact hj)⟩
theorem FoT.of_row {ok : Nat → Prop} {w : World} {b : Nat} (hok : ok b) (hz : ∀ j, w.frozen? ⟨b, j, none⟩ = false) : ∀ (f : Fo) (ds : List ItV) (i : Nat),
    (∀ k (h : k < (cellsI ds).length), w.cell? ⟨b, i * 5 + k, none⟩ = some (cellsI ds)[k]) → ItsO ok w ds f → FoT ok w (some ⟨b, 0, none⟩) i f
  | .nil, _, _, _, _ => trivial
  | .cons k cr li bs sub rest, ds, i, hc, h => by
    obtain ⟨d, ds', rfl, h1, h2, h3, h4, ⟨es, h5, h6, h7, h9⟩, hr⟩ := h
    have hl : (cellsI (d :: ds')).length = (ds'.length + 1) * 5 := by rw [cellsI_length]; rfl
    have g : ∀ j v, d.cells[j]? = some v → w.cell? ⟨b, i * 5 + j, none⟩ = some v := fun j v hv => by
      have hj : j < d.cells.length := (List.getElem?_eq_some_iff.1 hv).1
      have hj5 : j < 5 := hj
      rw [hc j (by omega)]
      have : (cellsI (d :: ds'))[j]? = some v := by rw [cellsI_cons, List.getElem?_append_left hj]; exact hv
      rw [List.getElem?_eq_getElem (by omega)] at this
      exact this
    have hn := h4.1
    have hel := ItsO.len sub es h7
    obtain ⟨A', c', e, q1, q2, q3, q4, -⟩ := h5.form
    injection e with e1 e2 e3
    have hsub : FoT ok w d.As 0 sub := by
      rcases h5.2 with ⟨hv, h0⟩ | ⟨g', cap, cur, hv, -⟩
      · obtain rfl : sub = .nil := by
          cases sub with
          | nil => rfl
          | cons => simp only [Fo.len] at hel; omega
        trivial
      · injection hv with k1 k2 k3
        have hrow := h5
        rw [k1] at hrow
        rw [k1]
        refine FoT.of_row (h6 g' (by rw [k1]; rfl)) (fun j => OwnI.free hrow j) sub es 0 (fun q hq => ?_) h7
        rw [Nat.zero_mul, Nat.zero_add, hrow.to_n.cellAt q (by have := hrow.len.1; rw [cellsI_length] at hq; omega), List.getElem?_eq_getElem hq]
    refine ⟨⟨b, 0, d.A, d.c, d.As, d.cs, d.cr, rfl, hok, hz _, ⟨by rw [Nat.zero_add]; exact g 1 _ rfl, by rw [Nat.zero_add, hn]; exact g 3 _ rfl, by rw [Nat.zero_add, ← hel, ← e2]; exact g 4 _ rfl⟩, by rw [hn]; exact h4.turn, by rw [hn]; exact h4.r.2.2.1, h4.r.2.2.2.1, hsub, by rw [← hel, e3]; exact q1, by rw [e3]; exact q2, h9⟩, ?_⟩
    refine FoT.of_row hok hz rest ds' (i + 1) (fun q hq => ?_) hr
    have hq2 : q + 5 < (cellsI (d :: ds')).length := by rw [cellsI_cons, List.length_append]; have : d.cells.length = 5 := rfl; omega
    have := hc (q + 5) hq2
    rw [show (i + 1) * 5 + q = i * 5 + (q + 5) by omega, this]
    congr 1
theorem FoO.turn {ok : Nat → Prop} {w : World} {A : Option Addr} {n c : Nat} {f : Fo} (h : FoO ok w (.slice A n c) f) : FoT ok w A 0 f := by
  obtain ⟨es, h5, h6, h7⟩ := h
  have hel := ItsO.len f es h7
  rcases h5.2 with ⟨hv, h0⟩ | ⟨g', cap, cur, hv, -⟩
  · obtain rfl : f = .nil := by
      cases f with
      | nil => rfl
      | cons => simp only [Fo.len] at hel; omega
    trivial
  · injection hv with k1 k2 k3
    subst k1
    refine FoT.of_row (h6 g' rfl) (fun j => OwnI.free h5 j) f es 0 (fun q hq => ?_) h7
    rw [Nat.zero_mul, Nat.zero_add, h5.to_n.cellAt q (by have := h5.len.1; rw [cellsI_length] at hq; omega), List.getElem?_eq_getElem hq]
end Go.Proofs.Ytgnciejbhaebeaa

/- What the reference's Turn does to items: it writes into their blocks alone, and what it needs stays as it is. Conditions: items of one's own. -/
namespace Go.Proofs.Ytgnciejbhaebeaa
open Go Go.RowKit

theorem FoT.one {ok : Nat → Prop} {w : World} {A : Option Addr} {i : Nat} {k : Int} {cr0 li : Bool} {bs : List UInt8} {sub rest : Fo} (h : FoT ok w A i (.cons k cr0 li bs sub rest)) : (∃ b off At c As d cr, A = some ⟨b, off, none⟩ ∧ ok b ∧ w.frozen? ⟨b, off + i * 5 + 1, none⟩ = false ∧
      (w.cell? ⟨b, off + i * 5 + 1, none⟩ = some (.bool cr) ∧ w.cell? ⟨b, off + i * 5 + 3, none⟩ = some (.slice At bs.length c) ∧ w.cell? ⟨b, off + i * 5 + 4, none⟩ = some (.slice As sub.len d)) ∧
      BtT ok w At bs.length ∧ bs.length ≤ c ∧ c ≤ maxLen ∧ FoT ok w As 0 sub ∧ sub.len ≤ d ∧ d ≤ maxLen ∧ sub.len ≤ 2199023255488) ∧ FoT ok w A (i + 1) rest := h
set_option maxRecDepth 100000 in
set_option maxHeartbeats 4000000 in
theorem Turn02_c : ∀ (M : Nat) (f : Fo), f.size = M → ∀ (ok : Nat → Prop) (A : Option Addr) (n c : Nat) (w : World), f.len = n → FoT ok w A 0 f → n ≤ 2199023255488 →
    Calls Try.prog 50 #[.slice A n c] w fun r w' => r = .returned (.tuple #[]) ∧ Keeps ok w w' ∧ Soft w w' := by
  intro M
  induction M using Nat.strongRecOn with
  | _ M ih =>
    intro f hM ok A n c w hn h1 hl
    have IH := Lib.hid ih; clear ih
    have HN := Lib.hid hn; clear hn
    have H1 := Lib.hid h1; clear h1
    have HM := Lib.hid hM; clear hM
    go_enter Try.func50, Try.ntmps50
    go_wp2_with (fail)
    go_loopw [6] (fun i wr => ∃ (k : Nat) (r : Fo), i = .int .i64 k ∧ Hid (k + r.len = n) ∧ Hid (FoT ok wr A k r) ∧ Hid (r.size ≤ f.size) ∧ Hid (Keeps ok w wr) ∧ Hid (Soft w wr)) (fun i _ => n - (intOf i).toNat)
    case atStart => exact ⟨0, f, rfl, Lib.hid (by rw [HN.out]; omega), H1, Lib.hid (Nat.le_refl _), Lib.hid (Keeps.refl _ _), Lib.hid (Soft.refl _)⟩
    case round =>
      clear H1
      obtain ⟨wo, rfl⟩ : ∃ wo, wo = wr := ⟨_, rfl⟩
      obtain ⟨k, r, rfl, HK, R1, HS, HKp, HSo⟩ := hrel
      cases r with
      | nil =>
        have hk : k = n := HK.out
        have hk' : (n : Int) ≤ (k : Int) := by omega
        clear hk
        go_wp2_with (fail)
        go_end0
        exact ⟨rfl, HKp.out, HSo.out⟩
      | cons z cr0 li bs sub rest =>
        obtain ⟨⟨b1, o1, At, cm, As, e1, cr, rfl, hok, hf, ⟨c1, c3, c4⟩, ht, t2, t3, s1, l1, l2, l3⟩, r1⟩ := R1.out.one
        have hkn : k < n := by have := HK.out; simp only [Fo.len] at this; omega
        have hlt' : (k : Int) < (n : Int) := by omega
        have FR := Lib.hid R1.out
        have HSb : Hid (rest.size ≤ f.size) := Lib.hid (by have := HS.out; simp only [Fo.size] at this; omega)
        have HSs : Hid (sub.size < M) := Lib.hid (by have := HS.out; have := HM.out; simp only [Fo.size] at *; omega)
        have HKb : Hid (k + 1 + rest.len = n) := Lib.hid (by have := HK.out; simp only [Fo.len] at this; omega)
        obtain ⟨m, em⟩ : ∃ m, m = bs.length := ⟨_, rfl⟩
        obtain ⟨sl, esl⟩ : ∃ sl, sl = sub.len := ⟨_, rfl⟩
        rw [← em] at c3 ht t2
        rw [← esl] at c4 l1 l3
        have EM := Lib.hid em
        have ESL := Lib.hid esl
        have HT := Lib.hid ht
        unfold maxLen at t3
        clear em esl ht s1 r1 R1 c1 hf
        go_wp2_with (fail)
        go_loopw [15] (fun j wi => ∃ (q : Nat), q ≤ m ∧ j = .int .i64 q ∧ Hid (Soft wo wi) ∧ Hid (Keeps ok wo wi)) (fun j _ => m - (intOf j).toNat)
        case atStart => exact ⟨0, Nat.zero_le _, rfl, Lib.hid (Soft.refl _), Lib.hid (Keeps.refl _ _)⟩
        case round =>
          obtain ⟨q, hq, rfl, HSi, HKi⟩ := hrel
          have hcb : wr.cell? ⟨b1, o1 + k * 5 + 3, none⟩ = some (.slice At m cm) := by
            obtain ⟨v', e, s⟩ := HSi.out.ce _ _ c3
            obtain rfl : v' = .slice At m cm := s
            exact e
          rcases Nat.lt_or_ge q m with hqm | hqm
          · obtain ⟨g, o, rfl, hog, hh⟩ : ∃ g o, At = some ⟨g, o, none⟩ ∧ ok g ∧ ∀ j, j < m → wr.frozen? ⟨g, o + j, none⟩ = false ∧ ∃ x, wr.cell? ⟨g, o + j, none⟩ = some (bv x) := by
              rcases HT.out.soft HSi.out with h | h
              · omega
              · exact h
            obtain ⟨bf, x, b0⟩ := hh q hqm
            have B0 := Lib.hid b0
            unfold bv at b0
            obtain ⟨xn, ex⟩ : ∃ xn, xn = x.toNat := ⟨_, rfl⟩
            rw [← ex] at b0
            have HOG := Lib.hid hog
            have hqm' : (q : Int) < (m : Int) := by omega
            clear c3 ex hh
            go_wp2_with (fail)
            go_still_tail 16, (by kernel_rfl)
            change wpList _ _ _ _ _ wr.drew
            obtain ⟨b', eb⟩ := u8_bv ((xn : Int) + 1)
            have hso : Soft wo (wr.drew.setCell ⟨g, o + q, none⟩ (bv b')) := (HSi.out.trans (Soft.drew wr)).trans (Soft.set (v := bv x) B0.out (by unfold softV bv; exact .inr ⟨b', rfl⟩))
            have hke : Keeps ok wo (wr.drew.setCell ⟨g, o + q, none⟩ (bv b')) := (HKi.out.drewN 1).trans (Keeps.set ok _ ⟨g, o + q, none⟩ (bv b') HOG.out)
            rw [← eb] at hso hke
            have HSO := Lib.hid hso
            have HKE := Lib.hid hke
            clear eb hso hke
            go_wp2_with (fail)
            go_roundw
            case rel => exact ⟨q + 1, by omega, by go_num, HSO, HKE⟩
            case measure => simp [intOf]; omega
          · obtain rfl : m = q := by omega
            have hc4 : wr.cell? ⟨b1, o1 + k * 5 + 4, none⟩ = some (.slice As sl e1) := by
              obtain ⟨v', e, s⟩ := HSi.out.ce _ _ c4
              obtain rfl : v' = .slice As sl e1 := s
              exact e
            obtain ⟨⟨b1', o1', At', cm', As', e1', cr', eA, -, -, ⟨-, -, d4⟩, -, -, -, s1, -, -, -⟩, r1⟩ := (FR.out.soft HSi.out).one
            injection eA with eA
            injection eA with eb eo
            subst eb eo
            rw [hc4] at d4
            injection d4 with d4
            injection d4 with d4 d5 d6
            subst d4 d6
            have S1 := Lib.hid s1
            have R1 := Lib.hid r1
            clear c3 c4 s1 r1 d5
            go_wp2_with (fail)
            refine (IH.out sub.size HSs.out sub rfl ok As sl e1 wr ESL.out.symm S1.out l3).mono ?_
            rintro _ w3 ⟨rfl, hk3, hs3⟩
            obtain ⟨⟨b1', o1', At', cm', As', e1', cr', eA, -, f1, ⟨d1, -, -⟩, -, -, -, -, -, -, -⟩, -⟩ := ((FR.out.soft HSi.out).soft hs3).one
            injection eA with eA
            injection eA with eb eo
            subst eb eo
            have r3 : FoT ok w3 (some ⟨b1, o1, none⟩) (k + 1) rest := R1.out.soft hs3
            have hso : Soft w (w3.setCell ⟨b1, o1 + k * 5 + 1, none⟩ (.bool (!cr'))) := ((HSo.out.trans HSi.out).trans hs3).trans (Soft.set d1 ⟨_, rfl⟩)
            have hke : Keeps ok w (w3.setCell ⟨b1, o1 + k * 5 + 1, none⟩ (.bool (!cr'))) := ((HKp.out.trans HKi.out).trans hk3).trans (Keeps.set ok _ ⟨b1, o1 + k * 5 + 1, none⟩ _ hok)
            have r4 := r3.soft (Soft.set (u := .bool (!cr')) d1 ⟨_, rfl⟩)
            have HSO := Lib.hid hso
            have HKE := Lib.hid hke
            have R4 := Lib.hid r4
            clear hso hke r3 r4 hk3 hs3 hc4
            go_wp2_with (fail)
            go_roundw
            case rel => exact ⟨k + 1, rest, by go_num, HKb, R4, HSb, HKE, HSO⟩
            case measure => simp [intOf]; omega
end Go.Proofs.Ytgnciejbhaebeaa

/- The walk of the law TlvDecodes: it returns true. Conditions: the row's own. -/
namespace Go.Proofs.Ytgnciejbhaebeaa
open Go Go.RowKit

set_option maxRecDepth 100000 in
set_option maxHeartbeats 4000000 in
theorem TlvDecodes_walk (w : World) (A : Option Addr) (n c : Nat) (bs : List UInt8) (hn : bs.length = n) (hr : Rd w A (bs.map bv)) (hc : n ≤ c) (hm : c ≤ maxLen) (hl : n ≤ 140737488351232) :
    Calls Try.prog 9 #[.slice A n c] w fun r w' => r = .returned (.bool true) ∧ Below w.heap.size w w' := by
  have HR := Lib.hid hr
  have HN := Lib.hid hn
  have HC := Lib.hid hc
  have HM := Lib.hid hm
  clear hr hn hc hm
  by_cases hb : 65536 < n
  · have hb' : (65536 : Int) < (n : Int) := by omega
    clear hb
    go_enter Try.func9, Try.ntmps9
    go_wp2_with (fail)
    refine (fixedT_c w).mono ?_
    rintro _ w2 ⟨rfl, hk2⟩
    have K2 := Lib.hid hk2
    clear hk2
    go_wp2_with (fail)
    go_ret
    exact ⟨rfl, K2.out⟩
  · have hb' : (n : Int) ≤ 65536 := by omega
    clear hb
    obtain ⟨D, hD⟩ : ∃ D, D = decT bs := ⟨_, rfl⟩
    obtain ⟨e, hE⟩ : ∃ e, e = D.1 := ⟨_, rfl⟩
    obtain ⟨L, hL⟩ : ∃ L, L = D.2 := ⟨_, rfl⟩
    have hsz : L.size ≤ 64 := by rw [hL, hD]; exact decT_size bs
    obtain ⟨k, hk⟩ : ∃ k, L.len = k := ⟨_, rfl⟩
    have hk64 : k ≤ 64 := by have := Fo.len_le L; omega
    have HD := Lib.hid hD
    have HE := Lib.hid hE
    have HL := Lib.hid hL
    have HK := Lib.hid hk
    have HSZ := Lib.hid hsz
    clear hD hE hL hk hsz
    go_enter Try.func9, Try.ntmps9
    go_wp2_with (fail)
    refine (Copy_c A n c bs w HN.out HR.out (by omega)).mono ?_
    rintro _ w2 ⟨v2, rfl, ho2, hk2⟩
    obtain ⟨A2, c2, rfl, -, -, r2, -⟩ := OwnB.form ho2
    rw [HN.out]
    have K2 := Lib.hid hk2
    have R2 := Lib.hid r2
    clear ho2 hk2 r2
    go_wp2_with (fail)
    refine (DecodeT_c bs A2 n c2 w2 HN.out R2.out (by omega)).mono ?_
    rintro _ w3 ⟨v3, rfl, ho3, hk3⟩
    rw [← HD.out] at ho3 ⊢
    rw [← HE.out]
    rw [← HL.out] at ho3
    have ho3' : FoO (fun j => w2.heap.size ≤ j ∧ j < w3.heap.size) w3 v3 L := ho3.weak (fun j hj hl => ⟨hj, hl⟩)
    obtain ⟨A3, c3, rfl, -, -, r3⟩ := ho3'.form HK.out
    have K3 := Lib.hid (K2.out.trans (hk3.mono K2.out.size))
    have R23 := Lib.hid (R2.out.below hk3)
    have HO3 := Lib.hid ho3'
    have Z23 := Lib.hid hk3.size
    clear ho3 ho3' hk3 r3
    go_wp2_with (fail)
    refine (refDecodeT_c bs A n c w3 HN.out (HR.out.below K3.out) HC.out HM.out (by omega)).mono ?_
    rintro _ w4 ⟨v4, rfl, ho4, hk4⟩
    rw [← HD.out] at ho4 ⊢
    rw [← HE.out]
    rw [← HL.out] at ho4
    obtain ⟨A4, c4, rfl, -, -, r4⟩ := ho4.form HK.out
    have K4 := Lib.hid (K3.out.trans (hk4.mono K3.out.size))
    have R4 := Lib.hid (R23.out.below hk4)
    have HO34 := Lib.hid (HO3.out.below hk4)
    have HO4 := Lib.hid ho4
    clear ho4 hk4 r4
    go_wp2_with (fail)
    refine (fixedT_c w4).mono ?_
    rintro _ w5 ⟨rfl, hk5⟩
    have K5 := Lib.hid (K4.out.trans (hk5.mono K4.out.size))
    have R5 := Lib.hid (R4.out.below hk5)
    have HO35 := Lib.hid (HO34.out.below hk5)
    have HO5 := Lib.hid (HO4.out.below hk5)
    have cc : ((e : Int) != (e : Int)) = false := by simp
    clear hk5
    go_wp2_with (fail)
    refine (Same02_t L.size L (Nat.le_refl _) _ _ A3 A4 k c3 c4 w5 HK.out (by obtain ⟨A', c', e, -, -, r⟩ := HO35.out.form HK.out; injection e with e1 e2 e3; rw [e1]; exact r) (by obtain ⟨A', c', e, -, -, r⟩ := HO5.out.form HK.out; injection e with e1 e2 e3; rw [e1]; exact r) (by omega)).mono ?_
    rintro _ w6 ⟨rfl, q6, rfl⟩
    go_wp2_with (fail)
    refine (Same_t A2 A n n c2 c bs (w5.drewN q6) HN.out HN.out (R5.out.drewN q6) ((HR.out.below K5.out).drewN q6) (by unfold maxLen; omega)).mono ?_
    rintro _ w7 ⟨rfl, q7, rfl⟩
    rw [World.drewN_drewN]
    have ft : FoT (fun j => w2.heap.size ≤ j ∧ j < w3.heap.size) (w5.drewN (q6 + q7)) A3 0 L := (HO35.out.below (below_drewN (Below.refl _ _) (q6 + q7))).turn
    have FT := Lib.hid ft
    clear ft
    go_wp2_with (fail)
    refine (Turn02_c L.size L rfl _ A3 k c3 (w5.drewN (q6 + q7)) HK.out FT.out (by omega)).mono ?_
    rintro _ w8 ⟨rfl, hk8, -⟩
    have ks8 : Keeps (fun j => w2.heap.size ≤ j ∧ j < w3.heap.size) w5 w8 := ((Keeps.refl _ w5).drewN (q6 + q7)).trans hk8
    have K8 : Hid (Below w.heap.size w w8) := Lib.hid (K5.out.trans (ks8.below (fun j hj => ⟨Nat.lt_of_lt_of_le hj K5.out.size, fun e => by have := K2.out.size; omega⟩)))
    have R8 : Hid (Rd w8 A2 (bs.map bv)) := Lib.hid (by
      have hz := K5.out.size
      rcases R2.out with h | ⟨b, off, rfl, hb, hcc⟩
      · exact .inl h
      · rcases R5.out with h | ⟨b', off', e, hb', hcc'⟩
        · exact .inl h
        · injection e with e; injection e with e1 e2
          subst e1 e2
          refine .inr ⟨b, off, rfl, Nat.lt_of_lt_of_le hb' ks8.size, fun q hq => ?_⟩
          exact (World.cell?_of_block (w := w5) (a := ⟨b, off + q, none⟩) (ks8.block b hb' (fun e => by omega))).trans (hcc' q hq))
    have HO8 : Hid (FoO (w3.heap.size ≤ ·) w8 (.slice A4 k c4) L) := Lib.hid (HO5.out.frame (fun j hj hl => ks8.block j hl (fun e => by have : w3.heap.size ≤ j := hj; omega)))
    clear hk8 ks8 R5 HO35 HO5
    go_wp2_with (fail)
    refine (DecodeT_c bs A2 n c2 w8 HN.out R8.out (by omega)).mono ?_
    rintro _ w9 ⟨v9, rfl, ho9, hk9⟩
    rw [← HD.out] at ho9 ⊢
    rw [← HL.out] at ho9
    obtain ⟨A9, c9, rfl, -, -, r9⟩ := ho9.form HK.out
    have K9 := Lib.hid (K8.out.trans (hk9.mono K8.out.size))
    have R9 := Lib.hid (R8.out.below hk9)
    have HO9 := Lib.hid (HO8.out.below hk9)
    have RM := Lib.hid r9
    obtain ⟨e9, he9⟩ : ∃ e9, e9 = D.1 := ⟨_, rfl⟩
    rw [← he9]
    clear ho9 hk9 r9 he9
    go_wp2_with (fail)
    refine (Same_t A2 A n n c2 c bs w9 HN.out HN.out R9.out (HR.out.below K9.out) (by unfold maxLen; omega)).mono ?_
    rintro _ wx ⟨rfl, qx, rfl⟩
    go_wp2_with (fail)
    refine (Same02_t L.size L (Nat.le_refl _) _ _ A9 A4 k c9 c4 (w9.drewN qx) HK.out (RM.out.drewN qx) (by obtain ⟨A', c', e, -, -, r⟩ := HO9.out.form HK.out; injection e with e1 e2 e3; rw [e1]; exact r.drewN qx) (by omega)).mono ?_
    rintro _ wy ⟨rfl, qy, rfl⟩
    go_wp2_with (fail)
    go_ret
    exact ⟨rfl, below_drewN K9.out _⟩
end Go.Proofs.Ytgnciejbhaebeaa
