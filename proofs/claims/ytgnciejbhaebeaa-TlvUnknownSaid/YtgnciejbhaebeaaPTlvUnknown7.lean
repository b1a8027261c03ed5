/- Parts one behind the other: The chapter's examples of items; What the reference's Turn does to events of one's own: it writes into their blocks alone; What the reference's Turn does to items: it writes into their blocks alone, and what it needs stays as it is; What the reference's Turn does to items: it writes into their blocks alone, and what it needs stays as it is; What the reference's Copy answers of items: the same items in memory of one's own; What tlv.Get and the reference's Get answer: the first item of a kind; How a law's argument is opened: an event by value; a slice of events; How a law's argument is opened: a list of items; The walk of the law TlvPicks: it returns true; How a law's argument is opened: an item by value. Conditions: as told at each. -/
import Derived.Test.YtgnciejbhaebeaaPTlvUnknown3
import Derived.Test.YtgnciejbhaebeaaPTlvUnknown5
import Derived.Test.YtgnciejbhaebeaaPTlvUnknown6
import Derived.Test.YtgnciejbhaebeaaPTlvUnknown1
import Derived.StillTailTactics
import Derived.Test.YtgnciejbhaebeaaPTlvUnknown2
import Derived.Deep.Fields

/- The chapter's examples of items. Conditions: none. -/
namespace Go.Proofs.Ytgnciejbhaebeaa
open Go Go.RowKit

def fxF : Fo := .cons 1 false false [7] .nil (.cons 2 true true [] .nil .nil)
theorem fx_lay : layL fxF = [4, 1, 7, 11, 0] := by
  simp only [fxF, layL, numI, List.length_nil, List.length_singleton, List.append_nil, if_true, Bool.false_eq_true, if_false]
  rw [varL_lo (by decide), varL_lo (by decide), varL_lo (by decide), varL_lo (by decide)]
  rfl
theorem fx_check : checkF fxF = 0 := by
  rw [checkF, fx_lay]
  have : scanF (fullR fxF 1 0) 0 = 0 := by decide
  rw [this]
  rfl
theorem fx_enc : encF fxF = [4, 1, 7, 11, 0] := by rw [encF, fx_check, if_pos rfl, fx_lay]
theorem fx_dec : (decT [4, 0, 4, 0]).1 = 3 := by kernel_rfl
theorem fx_pick : pickT [1] fxF = (7, .nil) := by
  have : critF [1] fxF = true := by decide
  rw [pickT, this]; rfl
set_option maxRecDepth 100000 in
set_option maxHeartbeats 4000000 in
theorem fixedT_c (w : World) : Calls Try.prog 41 #[] w fun r w' => r = .returned (.bool true) ∧ Below w.heap.size w w' := by
  obtain ⟨w1, ew1⟩ : ∃ w1, w1 = w.alloc (.cells #[.int .u8 7] 5) := ⟨_, rfl⟩
  obtain ⟨g, eg⟩ : ∃ g, g = w.heap.size := ⟨_, rfl⟩
  obtain ⟨w2, ew2⟩ : ∃ w2, w2 = w1.alloc (.cells #[.int .i64 1, .bool false, .bool false, .slice (some ⟨g, 0, none⟩) 1 1, .slice none 0 0, .int .i64 2, .bool true, .bool true, .slice none 0 0, .slice none 0 0] 95) := ⟨_, rfl⟩
  have hs1 : w1.heap.size = g + 1 := by rw [ew1, eg]; simp
  have b1 : Below w.heap.size w w1 := by rw [ew1]; exact (Below.refl _ _).alloc (Nat.le_refl _) _
  have b2 : Below w.heap.size w w2 := by rw [ew2]; exact b1.alloc b1.size _
  have h1 : w2.heap[g]? = some (.cells #[.int .u8 7] 5 (0, 0)) := by rw [ew2, Below.heap_alloc _ _ _ (by omega), ew1, eg]; exact heap_alloc_new _ _
  have h2 : w2.heap[g + 1]? = some (.cells #[.int .i64 1, .bool false, .bool false, .slice (some ⟨g, 0, none⟩) 1 1, .slice none 0 0, .int .i64 2, .bool true, .bool true, .slice none 0 0, .slice none 0 0] 95 (0, 0)) := by rw [ew2, ← hs1]; exact heap_alloc_new _ _
  have hf : FoR (fun _ => True) w2 (some ⟨g + 1, 0, none⟩) 0 fxF := by
    refine FoR.of_row (heap_lt h2) trivial fxF [⟨1, false, false, some ⟨g, 0, none⟩, 1, 1, none, 0, 0⟩, ⟨2, true, true, none, 0, 0, none, 0, 0⟩] 0 (fun k hk => ?_) ?_
    · simp only [Nat.zero_mul, Nat.zero_add]
      rw [heap_cell h2]
      have hk10 : k < 10 := hk
      match k, hk10 with
      | 0, _ => rfl
      | 1, _ => rfl
      | 2, _ => rfl
      | 3, _ => rfl
      | 4, _ => rfl
      | 5, _ => rfl
      | 6, _ => rfl
      | 7, _ => rfl
      | 8, _ => rfl
      | 9, _ => rfl
    · refine ⟨_, _, rfl, rfl, rfl, rfl, ⟨rfl, ?_, Nat.le_refl _, by show 1 ≤ maxLen; unfold maxLen; omega, fun _ _ _ => trivial, by show 1 ≤ 140737488355328; omega⟩, ⟨rfl, trivial, Nat.le_refl _, Nat.zero_le _, Nat.zero_le _⟩, ?_⟩
      · refine .inr ⟨g, 0, rfl, heap_lt h1, fun k hk => ?_⟩
        have hk1 : k < 1 := hk
        rw [heap_cell h1]
        match k, hk1 with
        | 0, _ => rfl
      · exact ⟨_, [], rfl, rfl, rfl, rfl, (TxtO.nil_ _ _).r, ⟨rfl, trivial, Nat.le_refl _, Nat.zero_le _, Nat.zero_le _⟩, rfl⟩
  have HF := Lib.hid hf
  have B2 := Lib.hid b2
  have EW1 := Lib.hid ew1
  have EG := Lib.hid eg
  have EW2 := Lib.hid ew2
  clear ew1 eg ew2 hs1 b1 b2 h1 h2 hf
  go_enter Try.func41, Try.ntmps41
  go_wp2_with (fail)
  rw [← EW1.out, ← EG.out, ← EW2.out]
  refine (EncodeT_c fxF (fun _ => True) (some ⟨g + 1, 0, none⟩) 2 2 w2 rfl HF.out (by omega)).mono ?_
  rintro _ w3 ⟨v3, rfl, ho3, hb3⟩
  rw [fx_check]
  rw [fx_enc] at ho3
  obtain ⟨A3, c3, rfl, -, -, r3, -⟩ := OwnB.form ho3
  have B3 := Lib.hid (B2.out.trans (hb3.mono B2.out.size))
  have R3 := Lib.hid r3
  have HF3 := Lib.hid (HF.out.below hb3)
  clear ho3 hb3 r3
  have rd4 : Rd (w3.alloc (.cells #[.int .u8 4, .int .u8 0, .int .u8 4, .int .u8 0] 5)) (some ⟨w3.heap.size, 0, none⟩) (([4, 0, 4, 0] : List UInt8).map bv) := Rd.lit w3 (([4, 0, 4, 0] : List UInt8).map bv) 5
  have b34 : Below w3.heap.size w3 (w3.alloc (.cells #[.int .u8 4, .int .u8 0, .int .u8 4, .int .u8 0] 5)) := (Below.refl _ _).alloc (Nat.le_refl _) _
  have RD4 := Lib.hid rd4
  have B34 := Lib.hid b34
  clear rd4 b34
  go_wp2_with (fail)
  refine (DecodeT_c [4, 0, 4, 0] _ 4 4 _ rfl RD4.out (by omega)).mono ?_
  rintro _ w5 ⟨v5, rfl, -, hb5⟩
  rw [fx_dec]
  have b35 : Below w3.heap.size w3 w5 := B34.out.trans (hb5.mono B34.out.size)
  have B5 := Lib.hid (B3.out.trans (b35.mono B3.out.size))
  have HF5 := Lib.hid (HF3.out.below b35)
  have R5 := Lib.hid (R3.out.below b35)
  clear hb5 b35
  obtain ⟨w6, ew6⟩ : ∃ w6, w6 = w5.alloc (.cells #[.int .i64 1] 3) := ⟨_, rfl⟩
  have b56 : Below w5.heap.size w5 w6 := by rw [ew6]; exact (Below.refl _ _).alloc (Nat.le_refl _) _
  have rk : RdI w6 (some ⟨w5.heap.size, 0, none⟩) [1] := by
    refine .inr ⟨w5.heap.size, 0, rfl, by rw [ew6]; simp, fun k hk => ?_⟩
    have hk1 : k < 1 := hk
    rw [ew6, heap_cell (heap_alloc_new _ _)]
    match k, hk1 with
    | 0, _ => rfl
  have HF6 := Lib.hid (HF5.out.below b56)
  have R6 := Lib.hid (R5.out.below b56)
  have B6 := Lib.hid (B5.out.trans (b56.mono B5.out.size))
  have RK := Lib.hid rk
  have EW6 := Lib.hid ew6
  clear ew6 b56 rk
  go_wp2_with (fail)
  rw [← EW6.out]
  refine (Pick_c fxF (fun _ => True) (some ⟨g + 1, 0, none⟩) 2 2 (some ⟨w5.heap.size, 0, none⟩) 1 1 [1] w6 rfl HF6.out (by decide) rfl RK.out (by omega)).mono ?_
  rintro _ w7 ⟨v7, rfl, -, hb7⟩
  rw [fx_pick]
  have B7 := Lib.hid (B6.out.trans (hb7.mono B6.out.size))
  have R7 := Lib.hid (R6.out.below hb7)
  clear hb7
  have b78 : Below w7.heap.size w7 (w7.alloc (.cells #[.int .u8 4, .int .u8 1, .int .u8 7, .int .u8 11, .int .u8 0] 5)) := (Below.refl _ _).alloc (Nat.le_refl _) _
  have rd8 : Rd (w7.alloc (.cells #[.int .u8 4, .int .u8 1, .int .u8 7, .int .u8 11, .int .u8 0] 5)) (some ⟨w7.heap.size, 0, none⟩) (([4, 1, 7, 11, 0] : List UInt8).map bv) := Rd.lit w7 (([4, 1, 7, 11, 0] : List UInt8).map bv) 5
  have R8 := Lib.hid (R7.out.below b78)
  have RD8 := Lib.hid rd8
  have B8 := Lib.hid (B7.out.trans (b78.mono B7.out.size))
  clear b78 rd8
  go_wp2_with (fail)
  refine (Same_t A3 (some ⟨w7.heap.size, 0, none⟩) 5 5 c3 5 [4, 1, 7, 11, 0] _ rfl rfl R8.out RD8.out (by unfold maxLen; omega)).mono ?_
  rintro _ w9 ⟨rfl, q, rfl⟩
  go_wp2_with (fail)
  go_ret
  exact ⟨rfl, below_drewN B8.out q⟩
end Go.Proofs.Ytgnciejbhaebeaa

/- What the reference's Turn does to events of one's own: it writes into their blocks alone. Conditions: events of one's own. -/
namespace Go.Proofs.Ytgnciejbhaebeaa
open Go Go.RowKit

theorem u8_bv (z : Int) : ∃ b : UInt8, Value.int .u8 (z % 256) = bv b := by
  refine ⟨UInt8.ofNat (z % 256).toNat, ?_⟩
  unfold bv
  rw [UInt8.toNat_ofNat']
  congr 1
  omega
theorem Own.types {w : World} {B B' s s' n n' c c' g : Nat} {e e' : TypeId} {vs vs' : List Value} (h : w.ownsRow B e s (.slice (some ⟨g, 0, none⟩) n c) n vs) (h' : w.ownsRow B' e' s' (.slice (some ⟨g, 0, none⟩) n' c') n' vs') : e = e' := by
  rcases h.2 with ⟨h, _⟩ | ⟨g1, _, _, hv, _, hg, _⟩
  · cases h
  · rcases h'.2 with ⟨h, _⟩ | ⟨g2, _, _, hv', _, hg', _⟩
    · cases h
    · injection hv with hv _ _
      injection hv with hv
      injection hv with hv
      injection hv' with hv' _ _
      injection hv' with hv'
      injection hv' with hv'
      subst hv hv'
      rw [hg] at hg'
      injection hg' with hg'
      injection hg'
/-- A byte written into some block of bytes: texts stay texts. -/
theorem TxtO.poke {ok : Nat → Prop} {w : World} {A : Option Addr} {n c h k : Nat} {bs : List UInt8} (ht : TxtO ok w A n c bs) (b : UInt8) : ∃ bs', TxtO ok (w.setCell ⟨h, k, none⟩ (bv b)) A n c bs' := by
  obtain ⟨h1, h2, h3, h4⟩ := ht
  by_cases e : ∃ g, A = some ⟨g, 0, none⟩ ∧ g = h
  · obtain ⟨g, rfl, rfl⟩ := e
    exact ⟨bs.set k b, by simpa using h1, h2.set k b, h3, h4⟩
  · refine ⟨bs, h1, Own.frameK h2 (fun g eg => heap_far _ ?_), h3, h4⟩
    rintro rfl
    rcases h2.2 with ⟨hv, _⟩ | ⟨g', _, _, hv, _⟩
    · rw [hv] at eg; cases eg
    · injection hv with hv _ _
      subst hv
      injection eg with eg
      exact e ⟨g', rfl, eg⟩
theorem EvsO.poke {ok : Nat → Prop} {w : World} {v : Value} {ds : List EvV} {es : List Ev} (h : EvsO ok w v ds es) (i : Nat) (hi : i < ds.length) (g : Nat) (hg : ds[i].A = some ⟨g, 0, none⟩) (k : Nat) (b : UInt8) :
    ∃ es', EvsO ok (w.setCell ⟨g, k, none⟩ (bv b)) v ds es' := by
  have hl := h.len
  have hne : ∀ q, v.ownBlock = some q → q ≠ g := by
    rintro q eq rfl
    have ht := (h.each i hi (by omega)).2.2.2.2
    rw [hg] at ht
    have hrow := h.row
    rcases hrow.2 with ⟨hv, _⟩ | ⟨g', cap, cur, hv, _⟩
    · rw [hv] at eq; cases eq
    · rw [hv] at eq
      injection eq with eq
      simp only at eq
      subst eq
      have h2 := ht.2.1
      unfold OwnB Own at h2
      unfold OwnV at hrow
      rw [hv] at hrow
      have e1 := ht.1
      rw [List.length_map, e1] at h2
      have := Own.types hrow h2
      revert this
      decide
  have each : ∀ j, ∃ e', ∀ (h1 : j < ds.length), EvO ok (w.setCell ⟨g, k, none⟩ (bv b)) ds[j] e' := by
    intro j
    by_cases hj : j < ds.length
    · have ho := h.each j hj (by omega)
      obtain ⟨bs', hb⟩ := ho.2.2.2.2.poke (h := g) (k := k) b
      exact ⟨⟨(es[j]'(by omega)).k, bs', (es[j]'(by omega)).x, (es[j]'(by omega)).y, (es[j]'(by omega)).b⟩, fun _ => ⟨ho.1, ho.2.1, ho.2.2.1, ho.2.2.2.1, hb⟩⟩
    · exact ⟨⟨0, [], 0, 0, 0⟩, fun h => absurd h hj⟩
  let f : Nat → Ev := fun j => Classical.choose (each j)
  refine ⟨(List.range ds.length).map f, by simp, Own.frameK h.row (fun q eq => heap_far _ (hne q eq)), h.ok_, fun j h1 h2 => ?_⟩
  simp only [List.getElem_map, List.getElem_range]
  exact Classical.choose_spec (each j) h1
theorem EvsO.setX {ok : Nat → Prop} {w : World} {g n c : Nat} {ds : List EvV} {es : List Ev} (h : EvsO ok w (.slice (some ⟨g, 0, none⟩) n c) ds es) (i : Nat) (hi : i < ds.length) (x : Int) :
    ∃ ds' es', EvsO ok (w.setCell ⟨g, i * 5 + 2, none⟩ (.int .i64 x)) (.slice (some ⟨g, 0, none⟩) n c) ds' es' ∧ ds'.length = ds.length := by
  have hl := h.len
  have hne : ∀ j (hj : j < ds.length) a, ds[j].A = some a → a.block ≠ g := by
    rintro j hj a ea eg
    have ht := (h.each j hj (by omega)).2.2.2.2
    have h2 := ht.2.1
    unfold OwnB Own at h2
    rw [List.length_map, ht.1, ea] at h2
    rcases h2.2 with ⟨hv, _⟩ | ⟨g', _, _, hv, _⟩
    · cases hv
    · injection hv with hv _ _
      injection hv with hv
      subst hv
      simp only at eg
      subst eg
      have := Own.types h.row.to_n h2
      revert this
      decide
  refine ⟨_, es.set i ⟨(es[i]'(by omega)).k, (es[i]'(by omega)).t, x, (es[i]'(by omega)).y, (es[i]'(by omega)).b⟩, ⟨by simp [hl], h.row.setX i hi x, h.ok_, fun j h1 h2 => ?_⟩, by simp⟩
  have h1' : j < ds.length := by simpa using h1
  have ho := h.each j h1' (by omega)
  have far : TxtO ok (w.setCell ⟨g, i * 5 + 2, none⟩ (.int .i64 x)) ds[j].A ds[j].n ds[j].c (es[j]'(by omega)).t := by
    obtain ⟨q1, q2, q3, q4⟩ := ho.2.2.2.2
    refine ⟨q1, Own.frameK q2 (fun q eq => heap_far _ ?_), q3, q4⟩
    cases hA : ds[j].A with
    | none => rw [hA] at eq; cases eq
    | some a =>
      rw [hA] at eq
      injection eq with eq
      subst eq
      exact hne j h1' a hA
  rw [List.getElem_set, List.getElem_set]
  split
  · rename_i hij
    subst hij
    exact ⟨ho.1, rfl, ho.2.2.1, ho.2.2.2.1, far⟩
  · exact ⟨ho.1, ho.2.1, ho.2.2.1, ho.2.2.2.1, far⟩

set_option maxRecDepth 100000 in
set_option maxHeartbeats 2000000 in
theorem Turn24_c (ok : Nat → Prop) (A : Option Addr) (n c : Nat) (ds : List EvV) (es : List Ev) (w : World) (hn : es.length = n) (hr : EvsO ok w (.slice A n c) ds es) :
    Calls Try.prog 30 #[.slice A n c] w fun r w' => r = .returned (.tuple #[]) ∧ Keeps ok w w' := by
  have hdn : ds.length = n := hr.len.trans hn
  clear hn
  rcases Nat.eq_zero_or_pos n with h0 | h0
  · subst h0
    go_enter Try.func30, Try.ntmps30
    go_wp2
    go_loopw [6] (fun i wr => i = .int .i64 (0 : Nat) ∧ wr = w) (fun _ _ => 0)
    case atStart => exact ⟨rfl, rfl⟩
    case round =>
      obtain ⟨rfl, rfl⟩ := hrel
      go_wp2
      go_end0
      exact ⟨rfl, Keeps.refl _ _⟩
  · obtain ⟨g, rfl⟩ : ∃ g, A = some ⟨g, 0, none⟩ := by
      rcases hr.row.2 with ⟨h, h1⟩ | ⟨g, _, _, hv, _⟩
      · omega
      · injection hv with hv _ _
        exact ⟨g, hv⟩
    have HR := Lib.hid hr; clear hr
    have hnc : n ≤ c ∧ c ≤ maxLen := by have := HR.out.row.len; omega
    obtain ⟨hnc, hcm⟩ := hnc
    unfold maxLen at hcm
    go_enter Try.func30, Try.ntmps30
    go_wp2
    go_loopw [6] (fun i wr => ∃ (k : Nat) (ds' : List EvV) (es' : List Ev), k ≤ n ∧ i = .int .i64 k ∧ Hid (ds'.length = n) ∧ Hid (EvsO ok wr (.slice (some ⟨g, 0, none⟩) n c) ds' es') ∧ Hid (Keeps ok w wr)) (fun i _ => n - (intOf i).toNat)
    case atStart => exact ⟨0, ds, es, Nat.zero_le _, rfl, Lib.hid hdn, HR, Lib.hid (Keeps.refl _ _)⟩
    case round =>
      clear HR hdn
      obtain ⟨k, ds', es', hk, rfl, HD, HR, HK⟩ := hrel
      rcases Nat.lt_or_ge k n with hlt | hge
      · have hkd : k < ds'.length := by rw [HD.out]; exact hlt
        obtain ⟨m, em⟩ : ∃ m, m = ds'[k].n := ⟨_, rfl⟩
        obtain ⟨cm, ecm⟩ : ∃ cm, cm = ds'[k].c := ⟨_, rfl⟩
        obtain ⟨At, eAt⟩ : ∃ At, At = ds'[k].A := ⟨_, rfl⟩
        have EM := Lib.hid em; clear em
        have EC := Lib.hid ecm; clear ecm
        have EA := Lib.hid eAt; clear eAt
        have hm5 : m ≤ 140737488355328 ∧ m ≤ cm ∧ cm ≤ maxLen := by
          have ht := (HR.out.each k hkd (by rw [← HR.out.len]; exact hkd)).2.2.2.2.r
          rw [EM.out, EC.out]
          exact ⟨ht.2.2.2.2.2, ht.2.2.1, ht.2.2.2.1⟩
        obtain ⟨m1, m2, m3⟩ := hm5
        unfold maxLen at m3
        have c1 := (HR.out.row.five k hkd).2.1
        rw [← EM.out, ← EC.out, ← EA.out] at c1
        have hlt' : (k : Int) < (n : Int) := by omega
        go_wp2_with (fail)
        go_loopw [15] (fun j wi => ∃ (q : Nat) (es2 : List Ev), q ≤ m ∧ j = .int .i64 q ∧ Hid (EvsO ok wi (.slice (some ⟨g, 0, none⟩) n c) ds' es2) ∧ Hid (Keeps ok w wi)) (fun j _ => m - (intOf j).toNat)
        case atStart => exact ⟨0, es', Nat.zero_le _, rfl, HR, HK⟩
        case round =>
          clear HR HK c1
          obtain ⟨q, es2, hq, rfl, HR, HK⟩ := hrel
          have c1 := (HR.out.row.five k hkd).2.1
          have c2 := (HR.out.row.five k hkd).2.2.1
          have fr := HR.out.row.free (k * 5 + 2)
          rw [← EM.out, ← EC.out, ← EA.out] at c1
          rcases Nat.lt_or_ge q m with hqm | hqm
          · have he2 : k < es2.length := by rw [← HR.out.len]; exact hkd
            have ht := (HR.out.each k hkd he2).2.2.2.2
            rw [← EM.out, ← EC.out, ← EA.out] at ht
            obtain ⟨h, rfl⟩ : ∃ h, At = some ⟨h, 0, none⟩ := by
              rcases ht.2.1.2 with ⟨hh, h1⟩ | ⟨h, _, _, hv, _⟩
              · rw [List.length_map, ht.1] at h1; omega
              · injection hv with hv _ _
                exact ⟨h, hv⟩
            have b0 := ht.2.1.cell q (by rw [ht.1]; exact hqm)
            have bf := ht.2.1.free q
            obtain ⟨x, ex⟩ : ∃ x, x = (es2[k].t[q]'(by rw [ht.1]; exact hqm)).toNat := ⟨_, rfl⟩
            unfold bv at b0
            rw [← ex] at b0
            have hok := ht.2.2.1 _ rfl
            clear ex
            have HT := Lib.hid ht; clear ht c2 fr
            have hqm' : (q : Int) < (m : Int) := by omega
            go_wp2_with (fail)
            obtain ⟨b', eb⟩ := u8_bv ((x : Int) + 1)
            rw [eb]
            obtain ⟨es3, h3⟩ := HR.out.poke k hkd h EA.out.symm q b'
            have H3 := Lib.hid h3; clear h3
            have K3 := Lib.hid (HK.out.trans (Keeps.set ok wr ⟨h, q, none⟩ (bv b') hok))
            go_roundw
            case rel => exact ⟨q + 1, es3, by omega, by go_num, H3, K3⟩
            case measure => simp [intOf]; omega
          · obtain rfl : m = q := by omega
            go_wp2_with (fail)
            obtain ⟨ds3, es3, h3, l3⟩ := HR.out.setX k hkd (bits BinOp.xor IntKind.i64 ds'[k].x 1)
            have H3 := Lib.hid h3; clear h3
            have L3 : Hid (ds3.length = n) := Lib.hid (l3.trans HD.out)
            have K3 := Lib.hid (HK.out.trans (Keeps.set ok wr ⟨g, k * 5 + 2, none⟩ (.int .i64 (bits BinOp.xor IntKind.i64 ds'[k].x 1)) (HR.out.ok_ g rfl)))
            go_roundw
            case rel => exact ⟨k + 1, ds3, es3, by omega, by go_num, L3, H3, K3⟩
            case measure => simp [intOf]; omega
      · obtain rfl : n = k := by omega
        go_wp2_with (fail)
        go_end0
        exact ⟨rfl, HK.out⟩
end Go.Proofs.Ytgnciejbhaebeaa

/- What the reference's Turn does to items: it writes into their blocks alone, and what it needs stays as it is. Conditions: items of one's own. -/
namespace Go.Proofs.Ytgnciejbhaebeaa
open Go Go.RowKit

/-- A byte may become another byte, a bool another bool; all else stays. -/
def softV : Value → Value → Prop
  | .int .u8 x, v' => v' = .int .u8 x ∨ ∃ b, v' = bv b
  | .bool _, v' => ∃ b, v' = .bool b
  | v, v' => v' = v
theorem softV.refl (v : Value) : softV v v := by
  unfold softV
  split
  · exact .inl rfl
  · exact ⟨_, rfl⟩
  · rfl
theorem softV.trans {a b c : Value} (h : softV a b) (k : softV b c) : softV a c := by
  unfold softV at h ⊢
  split at h
  · rcases h with rfl | ⟨x, rfl⟩
    · unfold softV at k; exact k
    · unfold softV bv at k
      rcases k with rfl | ⟨y, rfl⟩
      · exact .inr ⟨x, rfl⟩
      · exact .inr ⟨y, rfl⟩
  · obtain ⟨x, rfl⟩ := h
    unfold softV at k
    exact k
  · rename_i h1 h2
    subst h
    unfold softV at k
    split at k
    · exact absurd rfl (h1 _)
    · exact absurd rfl (h2 _)
    · exact k
structure Soft (w w' : World) : Prop where
  fr : ∀ p, w'.frozen? p = w.frozen? p
  ce : ∀ p v, w.cell? p = some v → ∃ v', w'.cell? p = some v' ∧ softV v v'
theorem Soft.refl (w : World) : Soft w w := ⟨fun _ => rfl, fun p v h => ⟨v, h, softV.refl v⟩⟩
theorem Soft.trans {a b c : World} (h : Soft a b) (k : Soft b c) : Soft a c := by
  refine ⟨fun p => (k.fr p).trans (h.fr p), fun p v hv => ?_⟩
  obtain ⟨v1, h1, s1⟩ := h.ce p v hv
  obtain ⟨v2, h2, s2⟩ := k.ce p v1 h1
  exact ⟨v2, h2, s1.trans s2⟩
theorem Soft.drew (w : World) : Soft w w.drew := ⟨fun _ => rfl, fun p v h => ⟨v, h, softV.refl v⟩⟩
theorem Soft.set {w : World} {p : Addr} {v u : Value} (h : w.cell? p = some v) (hs : softV v u) : Soft w (w.setCell p u) := by
  refine ⟨fun q => World.frozen?_setCell _ _ _ _, fun q x hx => ?_⟩
  by_cases e : p = q
  · subst e
    rw [h] at hx
    injection hx with hx
    subst hx
    exact ⟨u, World.cell?_setCell_same _ _ _ h, hs⟩
  · exact ⟨x, (World.cell?_setCell_other _ _ _ _ e).trans hx, softV.refl x⟩
/-- Bytes that may be turned. -/
def BtT (ok : Nat → Prop) (w : World) (A : Option Addr) (n : Nat) : Prop := n = 0 ∨ ∃ g o, A = some ⟨g, o, none⟩ ∧ ok g ∧ ∀ j, j < n → w.frozen? ⟨g, o + j, none⟩ = false ∧ ∃ x, w.cell? ⟨g, o + j, none⟩ = some (bv x)
theorem BtT.soft {ok : Nat → Prop} {w w' : World} {A : Option Addr} {n : Nat} (h : BtT ok w A n) (hs : Soft w w') : BtT ok w' A n := by
  rcases h with h | ⟨g, o, h1, h2, h3⟩
  · exact .inl h
  · refine .inr ⟨g, o, h1, h2, fun j hj => ?_⟩
    obtain ⟨k1, x, k2⟩ := h3 j hj
    refine ⟨(hs.fr _).trans k1, ?_⟩
    obtain ⟨v', e, s⟩ := hs.ce _ _ k2
    unfold softV bv at s
    rcases s with rfl | ⟨y, rfl⟩
    · exact ⟨x, e⟩
    · exact ⟨y, e⟩
/-- Items that may be turned. -/
def FoT (ok : Nat → Prop) (w : World) : Option Addr → Nat → Fo → Prop
  | _, _, .nil => True
  | A, i, .cons _ _ _ bs sub rest => (∃ b off At c As d cr, A = some ⟨b, off, none⟩ ∧ ok b ∧ w.frozen? ⟨b, off + i * 5 + 1, none⟩ = false ∧
      (w.cell? ⟨b, off + i * 5 + 1, none⟩ = some (.bool cr) ∧ w.cell? ⟨b, off + i * 5 + 3, none⟩ = some (.slice At bs.length c) ∧ w.cell? ⟨b, off + i * 5 + 4, none⟩ = some (.slice As sub.len d)) ∧
      BtT ok w At bs.length ∧ bs.length ≤ c ∧ c ≤ maxLen ∧ FoT ok w As 0 sub ∧ sub.len ≤ d ∧ d ≤ maxLen ∧ sub.len ≤ 2199023255488) ∧ FoT ok w A (i + 1) rest
theorem FoT.soft {ok : Nat → Prop} {w w' : World} (hs : Soft w w') : ∀ (f : Fo) (A : Option Addr) (i : Nat), FoT ok w A i f → FoT ok w' A i f
  | .nil, _, _, _ => trivial
  | .cons k cr0 li bs sub rest, A, i, h => by
    obtain ⟨⟨b, off, At, c, As, d, cr, e, hok, hf, ⟨c1, c3, c4⟩, ht, hc, hm, hsub, h2⟩, hr⟩ := h
    obtain ⟨v1, e1, s1⟩ := hs.ce _ _ c1
    obtain ⟨v3, e3, s3⟩ := hs.ce _ _ c3
    obtain ⟨v4, e4, s4⟩ := hs.ce _ _ c4
    obtain ⟨cr', rfl⟩ : ∃ b, v1 = .bool b := s1
    obtain rfl : v3 = .slice At bs.length c := s3
    obtain rfl : v4 = .slice As sub.len d := s4
    exact ⟨⟨b, off, At, c, As, d, cr', e, hok, (hs.fr _).trans hf, ⟨e1, e3, e4⟩, ht.soft hs, hc, hm, FoT.soft hs sub As 0 hsub, h2⟩, FoT.soft hs rest A (i + 1) hr⟩
theorem TxtO.turn {ok : Nat → Prop} {w : World} {A : Option Addr} {n c : Nat} {bs : List UInt8} (h : TxtO ok w A n c bs) : BtT ok w A n := by
  obtain ⟨h1, h2, h3, h4⟩ := h
  rcases h2.2 with ⟨hv, h0⟩ | ⟨g, cap, cur, hv, -⟩
  · left; rw [List.length_map] at h0; omega
  · injection hv with e1 e2 e3
    subst e1
    refine .inr ⟨g, 0, rfl, h3 _ rfl, fun j hj => ?_⟩
    rw [Nat.zero_add]
    exact ⟨h2.free j, _, h2.cell j (by rw [h1]; exact hj)⟩
theorem FoT.of_row {ok : Nat → Prop} {w : World} {b : Nat} (hok : ok b) (hz : ∀ j, w.frozen? ⟨b, j, none⟩ = false) : ∀ (f : Fo) (ds : List ItV) (i : Nat),
    (∀ k (h : k < (cellsI ds).length), w.cell? ⟨b, i * 5 + k, none⟩ = some (cellsI ds)[k]) → ItsO ok w ds f → FoT ok w (some ⟨b, 0, none⟩) i f
  | .nil, _, _, _, _ => trivial
  | .cons k cr li bs sub rest, ds, i, hc, h => by
    obtain ⟨d, ds', rfl, h1, h2, h3, h4, ⟨es, h5, h6, h7, h9⟩, hr⟩ := h
    have hl : (cellsI (d :: ds')).length = (ds'.length + 1) * 5 := by rw [cellsI_length]; rfl
    have g : ∀ j v, d.cells[j]? = some v → w.cell? ⟨b, i * 5 + j, none⟩ = some v := fun j v hv => by
      have hj : j < d.cells.length := (List.getElem?_eq_some_iff.1 hv).1
      have hj5 : j < 5 := hj
      rw [hc j (by omega)]
      have : (cellsI (d :: ds'))[j]? = some v := by rw [cellsI_cons, List.getElem?_append_left hj]; exact hv
      rw [List.getElem?_eq_getElem (by omega)] at this
      exact this
    have hn := h4.1
    have hel := ItsO.len sub es h7
    obtain ⟨A', c', e, q1, q2, q3, q4, -⟩ := h5.form
    injection e with e1 e2 e3
    have hsub : FoT ok w d.As 0 sub := by
      rcases h5.2 with ⟨hv, h0⟩ | ⟨g', cap, cur, hv, -⟩
      · obtain rfl : sub = .nil := by
          cases sub with
          | nil => rfl
          | cons => simp only [Fo.len] at hel; omega
        trivial
      · injection hv with k1 k2 k3
        have hrow := h5
        rw [k1] at hrow
        rw [k1]
        refine FoT.of_row (h6 g' (by rw [k1]; rfl)) (fun j => OwnI.free hrow j) sub es 0 (fun q hq => ?_) h7
        rw [Nat.zero_mul, Nat.zero_add, hrow.to_n.cellAt q (by have := hrow.len.1; rw [cellsI_length] at hq; omega), List.getElem?_eq_getElem hq]
    refine ⟨⟨b, 0, d.A, d.c, d.As, d.cs, d.cr, rfl, hok, hz _, ⟨by rw [Nat.zero_add]; exact g 1 _ rfl, by rw [Nat.zero_add, hn]; exact g 3 _ rfl, by rw [Nat.zero_add, ← hel, ← e2]; exact g 4 _ rfl⟩, by rw [hn]; exact h4.turn, by rw [hn]; exact h4.r.2.2.1, h4.r.2.2.2.1, hsub, by rw [← hel, e3]; exact q1, by rw [e3]; exact q2, h9⟩, ?_⟩
    refine FoT.of_row hok hz rest ds' (i + 1) (fun q hq => ?_) hr
    have hq2 : q + 5 < (cellsI (d :: ds')).length := by rw [cellsI_cons, List.length_append]; have : d.cells.length = 5 := rfl; omega
    have := hc (q + 5) hq2
    rw [show (i + 1) * 5 + q = i * 5 + (q + 5) by omega, this]
    congr 1
theorem FoO.turn {ok : Nat → Prop} {w : World} {A : Option Addr} {n c : Nat} {f : Fo} (h : FoO ok w (.slice A n c) f) : FoT ok w A 0 f := by
  obtain ⟨es, h5, h6, h7⟩ := h
  have hel := ItsO.len f es h7
  rcases h5.2 with ⟨hv, h0⟩ | ⟨g', cap, cur, hv, -⟩
  · obtain rfl : f = .nil := by
      cases f with
      | nil => rfl
      | cons => simp only [Fo.len] at hel; omega
    trivial
  · injection hv with k1 k2 k3
    subst k1
    refine FoT.of_row (h6 g' rfl) (fun j => OwnI.free h5 j) f es 0 (fun q hq => ?_) h7
    rw [Nat.zero_mul, Nat.zero_add, h5.to_n.cellAt q (by have := h5.len.1; rw [cellsI_length] at hq; omega), List.getElem?_eq_getElem hq]
end Go.Proofs.Ytgnciejbhaebeaa

/- What the reference's Turn does to items: it writes into their blocks alone, and what it needs stays as it is. Conditions: items of one's own. -/
namespace Go.Proofs.Ytgnciejbhaebeaa
open Go Go.RowKit

theorem FoT.one {ok : Nat → Prop} {w : World} {A : Option Addr} {i : Nat} {k : Int} {cr0 li : Bool} {bs : List UInt8} {sub rest : Fo} (h : FoT ok w A i (.cons k cr0 li bs sub rest)) : (∃ b off At c As d cr, A = some ⟨b, off, none⟩ ∧ ok b ∧ w.frozen? ⟨b, off + i * 5 + 1, none⟩ = false ∧
      (w.cell? ⟨b, off + i * 5 + 1, none⟩ = some (.bool cr) ∧ w.cell? ⟨b, off + i * 5 + 3, none⟩ = some (.slice At bs.length c) ∧ w.cell? ⟨b, off + i * 5 + 4, none⟩ = some (.slice As sub.len d)) ∧
      BtT ok w At bs.length ∧ bs.length ≤ c ∧ c ≤ maxLen ∧ FoT ok w As 0 sub ∧ sub.len ≤ d ∧ d ≤ maxLen ∧ sub.len ≤ 2199023255488) ∧ FoT ok w A (i + 1) rest := h
set_option maxRecDepth 100000 in
set_option maxHeartbeats 4000000 in
theorem Turn02_c : ∀ (M : Nat) (f : Fo), f.size = M → ∀ (ok : Nat → Prop) (A : Option Addr) (n c : Nat) (w : World), f.len = n → FoT ok w A 0 f → n ≤ 2199023255488 →
    Calls Try.prog 50 #[.slice A n c] w fun r w' => r = .returned (.tuple #[]) ∧ Keeps ok w w' ∧ Soft w w' := by
  intro M
  induction M using Nat.strongRecOn with
  | _ M ih =>
    intro f hM ok A n c w hn h1 hl
    have IH := Lib.hid ih; clear ih
    have HN := Lib.hid hn; clear hn
    have H1 := Lib.hid h1; clear h1
    have HM := Lib.hid hM; clear hM
    go_enter Try.func50, Try.ntmps50
    go_wp2_with (fail)
    go_loopw [6] (fun i wr => ∃ (k : Nat) (r : Fo), i = .int .i64 k ∧ Hid (k + r.len = n) ∧ Hid (FoT ok wr A k r) ∧ Hid (r.size ≤ f.size) ∧ Hid (Keeps ok w wr) ∧ Hid (Soft w wr)) (fun i _ => n - (intOf i).toNat)
    case atStart => exact ⟨0, f, rfl, Lib.hid (by rw [HN.out]; omega), H1, Lib.hid (Nat.le_refl _), Lib.hid (Keeps.refl _ _), Lib.hid (Soft.refl _)⟩
    case round =>
      clear H1
      obtain ⟨wo, rfl⟩ : ∃ wo, wo = wr := ⟨_, rfl⟩
      obtain ⟨k, r, rfl, HK, R1, HS, HKp, HSo⟩ := hrel
      cases r with
      | nil =>
        have hk : k = n := HK.out
        have hk' : (n : Int) ≤ (k : Int) := by omega
        clear hk
        go_wp2_with (fail)
        go_end0
        exact ⟨rfl, HKp.out, HSo.out⟩
      | cons z cr0 li bs sub rest =>
        obtain ⟨⟨b1, o1, At, cm, As, e1, cr, rfl, hok, hf, ⟨c1, c3, c4⟩, ht, t2, t3, s1, l1, l2, l3⟩, r1⟩ := R1.out.one
        have hkn : k < n := by have := HK.out; simp only [Fo.len] at this; omega
        have hlt' : (k : Int) < (n : Int) := by omega
        have FR := Lib.hid R1.out
        have HSb : Hid (rest.size ≤ f.size) := Lib.hid (by have := HS.out; simp only [Fo.size] at this; omega)
        have HSs : Hid (sub.size < M) := Lib.hid (by have := HS.out; have := HM.out; simp only [Fo.size] at *; omega)
        have HKb : Hid (k + 1 + rest.len = n) := Lib.hid (by have := HK.out; simp only [Fo.len] at this; omega)
        obtain ⟨m, em⟩ : ∃ m, m = bs.length := ⟨_, rfl⟩
        obtain ⟨sl, esl⟩ : ∃ sl, sl = sub.len := ⟨_, rfl⟩
        rw [← em] at c3 ht t2
        rw [← esl] at c4 l1 l3
        have EM := Lib.hid em
        have ESL := Lib.hid esl
        have HT := Lib.hid ht
        unfold maxLen at t3
        clear em esl ht s1 r1 R1 c1 hf
        go_wp2_with (fail)
        go_loopw [15] (fun j wi => ∃ (q : Nat), q ≤ m ∧ j = .int .i64 q ∧ Hid (Soft wo wi) ∧ Hid (Keeps ok wo wi)) (fun j _ => m - (intOf j).toNat)
        case atStart => exact ⟨0, Nat.zero_le _, rfl, Lib.hid (Soft.refl _), Lib.hid (Keeps.refl _ _)⟩
        case round =>
          obtain ⟨q, hq, rfl, HSi, HKi⟩ := hrel
          have hcb : wr.cell? ⟨b1, o1 + k * 5 + 3, none⟩ = some (.slice At m cm) := by
            obtain ⟨v', e, s⟩ := HSi.out.ce _ _ c3
            obtain rfl : v' = .slice At m cm := s
            exact e
          rcases Nat.lt_or_ge q m with hqm | hqm
          · obtain ⟨g, o, rfl, hog, hh⟩ : ∃ g o, At = some ⟨g, o, none⟩ ∧ ok g ∧ ∀ j, j < m → wr.frozen? ⟨g, o + j, none⟩ = false ∧ ∃ x, wr.cell? ⟨g, o + j, none⟩ = some (bv x) := by
              rcases HT.out.soft HSi.out with h | h
              · omega
              · exact h
            obtain ⟨bf, x, b0⟩ := hh q hqm
            have B0 := Lib.hid b0
            unfold bv at b0
            obtain ⟨xn, ex⟩ : ∃ xn, xn = x.toNat := ⟨_, rfl⟩
            rw [← ex] at b0
            have HOG := Lib.hid hog
            have hqm' : (q : Int) < (m : Int) := by omega
            clear c3 ex hh
            go_wp2_with (fail)
            go_still_tail 16, (by kernel_rfl)
            change wpList _ _ _ _ _ wr.drew
            obtain ⟨b', eb⟩ := u8_bv ((xn : Int) + 1)
            have hso : Soft wo (wr.drew.setCell ⟨g, o + q, none⟩ (bv b')) := (HSi.out.trans (Soft.drew wr)).trans (Soft.set (v := bv x) B0.out (by unfold softV bv; exact .inr ⟨b', rfl⟩))
            have hke : Keeps ok wo (wr.drew.setCell ⟨g, o + q, none⟩ (bv b')) := (HKi.out.drewN 1).trans (Keeps.set ok _ ⟨g, o + q, none⟩ (bv b') HOG.out)
            rw [← eb] at hso hke
            have HSO := Lib.hid hso
            have HKE := Lib.hid hke
            clear eb hso hke
            go_wp2_with (fail)
            go_roundw
            case rel => exact ⟨q + 1, by omega, by go_num, HSO, HKE⟩
            case measure => simp [intOf]; omega
          · obtain rfl : m = q := by omega
            have hc4 : wr.cell? ⟨b1, o1 + k * 5 + 4, none⟩ = some (.slice As sl e1) := by
              obtain ⟨v', e, s⟩ := HSi.out.ce _ _ c4
              obtain rfl : v' = .slice As sl e1 := s
              exact e
            obtain ⟨⟨b1', o1', At', cm', As', e1', cr', eA, -, -, ⟨-, -, d4⟩, -, -, -, s1, -, -, -⟩, r1⟩ := (FR.out.soft HSi.out).one
            injection eA with eA
            injection eA with eb eo
            subst eb eo
            rw [hc4] at d4
            injection d4 with d4
            injection d4 with d4 d5 d6
            subst d4 d6
            have S1 := Lib.hid s1
            have R1 := Lib.hid r1
            clear c3 c4 s1 r1 d5
            go_wp2_with (fail)
            refine (IH.out sub.size HSs.out sub rfl ok As sl e1 wr ESL.out.symm S1.out l3).mono ?_
            rintro _ w3 ⟨rfl, hk3, hs3⟩
            obtain ⟨⟨b1', o1', At', cm', As', e1', cr', eA, -, f1, ⟨d1, -, -⟩, -, -, -, -, -, -, -⟩, -⟩ := ((FR.out.soft HSi.out).soft hs3).one
            injection eA with eA
            injection eA with eb eo
            subst eb eo
            have r3 : FoT ok w3 (some ⟨b1, o1, none⟩) (k + 1) rest := R1.out.soft hs3
            have hso : Soft w (w3.setCell ⟨b1, o1 + k * 5 + 1, none⟩ (.bool (!cr'))) := ((HSo.out.trans HSi.out).trans hs3).trans (Soft.set d1 ⟨_, rfl⟩)
            have hke : Keeps ok w (w3.setCell ⟨b1, o1 + k * 5 + 1, none⟩ (.bool (!cr'))) := ((HKp.out.trans HKi.out).trans hk3).trans (Keeps.set ok _ ⟨b1, o1 + k * 5 + 1, none⟩ _ hok)
            have r4 := r3.soft (Soft.set (u := .bool (!cr')) d1 ⟨_, rfl⟩)
            have HSO := Lib.hid hso
            have HKE := Lib.hid hke
            have R4 := Lib.hid r4
            clear hso hke r3 r4 hk3 hs3 hc4
            go_wp2_with (fail)
            go_roundw
            case rel => exact ⟨k + 1, rest, by go_num, HKb, R4, HSb, HKE, HSO⟩
            case measure => simp [intOf]; omega
end Go.Proofs.Ytgnciejbhaebeaa

/- What the reference's Copy answers of items: the same items in memory of one's own. Conditions: items that can be read; at most so many. -/
namespace Go.Proofs.Ytgnciejbhaebeaa
open Go Go.RowKit

/-- k of them are copied: the list P. -/
def Ci (w : World) (B g n c : Nat) (P : Fo) (k : Nat) (d : Option ItV) : Prop :=
  ∃ ds' : List ItV, ds'.length = n ∧ OwnI w B (.slice (some ⟨g, 0, none⟩) n c) ds' ∧ ItsO (g < ·) w (ds'.take k) P ∧ ∀ (h : k < ds'.length) d', d = some d' → ds'[k] = d'
theorem Ci.below {w w' : World} {B g n c k : Nat} {P : Fo} {d : Option ItV} (h : Ci w B g n c P k d) (hb : Below w.heap.size w w') : Ci w' B g n c P k d := by
  obtain ⟨ds', h1, h2, h3, h4⟩ := h
  exact ⟨ds', h1, h2.below hb, h3.frame (fun q _ hq => hb.block q hq), h4⟩
theorem take_set_le {α : Type} (l : List α) (k : Nat) (x : α) : (l.set k x).take k = l.take k := by
  rw [List.take_set]
  refine List.set_eq_of_length_le ?_
  rw [List.length_take]; omega
theorem Ci.setAll {w : World} {B g n c k : Nat} {P : Fo} {d0 : Option ItV} (h : Ci w B g n c P k d0) (hk : k < n) (d : ItV) :
    Ci (((((w.setCell ⟨g, k * 5, none⟩ (.int .i64 d.k)).setCell ⟨g, k * 5 + 1, none⟩ (.bool d.cr)).setCell ⟨g, k * 5 + 2, none⟩ (.bool d.li)).setCell ⟨g, k * 5 + 3, none⟩ (.slice d.A d.n d.c)).setCell ⟨g, k * 5 + 4, none⟩ (.slice d.As d.ns d.cs)) B g n c P k (some d) := by
  obtain ⟨ds', h1, h2, h3, _⟩ := h
  refine ⟨_, by rw [List.length_set]; exact h1, h2.setAll k (by omega) d, ?_, fun _ d' e => ?_⟩
  · rw [take_set_le]
    refine h3.frame (fun q hq _ => ?_)
    have hq' : q ≠ g := by have : g < q := hq; omega
    rw [heap_far _ hq', heap_far _ hq', heap_far _ hq', heap_far _ hq', heap_far _ hq']
  · injection e with e
    subst e
    rw [List.getElem_set, if_pos rfl]
theorem Ci.setT {w : World} {B g n c k : Nat} {P : Fo} {d : ItV} (h : Ci w B g n c P k (some d)) (hk : k < n) (A' : Option Addr) (n' c' : Nat) : Ci (w.setCell ⟨g, k * 5 + 3, none⟩ (.slice A' n' c')) B g n c P k (some (d.txt A' n' c')) := by
  obtain ⟨ds', h1, h2, h3, h4⟩ := h
  have e := h4 (by omega) d rfl
  refine ⟨_, by rw [List.length_set]; exact h1, h2.setT k (by omega) A' n' c', ?_, fun _ d' e' => ?_⟩
  · rw [take_set_le]
    exact h3.frame (fun q hq _ => heap_far _ (by have : g < q := hq; show q ≠ g; omega))
  · injection e' with e'
    subst e'
    rw [List.getElem_set, if_pos rfl, e]
theorem Ci.setS {w : World} {B g n c k : Nat} {P : Fo} {d : ItV} (h : Ci w B g n c P k (some d)) (hk : k < n) (A' : Option Addr) (n' c' : Nat) : Ci (w.setCell ⟨g, k * 5 + 4, none⟩ (.slice A' n' c')) B g n c P k (some (d.sub A' n' c')) := by
  obtain ⟨ds', h1, h2, h3, h4⟩ := h
  have e := h4 (by omega) d rfl
  refine ⟨_, by rw [List.length_set]; exact h1, h2.setS k (by omega) A' n' c', ?_, fun _ d' e' => ?_⟩
  · rw [take_set_le]
    exact h3.frame (fun q hq _ => heap_far _ (by have : g < q := hq; show q ≠ g; omega))
  · injection e' with e'
    subst e'
    rw [List.getElem_set, if_pos rfl, e]
theorem Ci.next {w : World} {B g n c k : Nat} {P R : Fo} {d : ItV} (h : Ci w B g n c P k (some d)) (hk : k < n) (ho : ItsO (g < ·) w [d] R) : Ci w B g n c (P.app R) (k + 1) none := by
  obtain ⟨ds', h1, h2, h3, h4⟩ := h
  have e := h4 (by omega) d rfl
  refine ⟨ds', h1, h2, ?_, fun _ _ e => by cases e⟩
  rw [List.take_succ_eq_append_getElem (by omega), e]
  exact ItsO.snoc ho P _ h3
theorem Ci.cell {w : World} {B g n c k : Nat} {P : Fo} {d : Option ItV} (h : Ci w B g n c P k d) (j : Nat) (hj : j < n) :
    ∃ u0 u1 u2 u3 u4, w.cell? ⟨g, j * 5, none⟩ = some u0 ∧ w.cell? ⟨g, j * 5 + 1, none⟩ = some u1 ∧ w.cell? ⟨g, j * 5 + 2, none⟩ = some u2 ∧ w.cell? ⟨g, j * 5 + 3, none⟩ = some u3 ∧ w.cell? ⟨g, j * 5 + 4, none⟩ = some u4 := by
  obtain ⟨ds', h1, h2, _⟩ := h
  obtain ⟨a0, a1, a2, a3, a4⟩ := h2.five j (by omega)
  exact ⟨_, _, _, _, _, a0, a1, a2, a3, a4⟩
theorem Ci.free {w : World} {B g n c k : Nat} {P : Fo} {d : Option ItV} (h : Ci w B g n c P k d) (j : Nat) : w.frozen? ⟨g, j, none⟩ = false := by
  obtain ⟨ds', _, h2, _⟩ := h
  exact h2.free j
theorem Ci.out {w : World} {B g n c : Nat} {P : Fo} {d : Option ItV} (h : Ci w B g n c P n d) : FoO (B ≤ ·) w (.slice (some ⟨g, 0, none⟩) n c) P := by
  obtain ⟨ds', h1, h2, h3, h4⟩ := h
  have hg := h2.len.2.2.2.1
  rw [List.take_of_length_le (by omega)] at h3
  refine ⟨ds', h2.low (Nat.zero_le _), fun k e => ?_, h3.weak (fun q hq _ => by have : g < q := hq; show B ≤ q; omega)⟩
  injection e with e
  subst e
  exact hg

set_option maxRecDepth 100000 in
set_option maxHeartbeats 4000000 in
theorem Copy02_c : ∀ (M : Nat) (f : Fo), f.size = M → ∀ (ok : Nat → Prop) (A : Option Addr) (n c : Nat) (w : World), f.len = n → FoR ok w A 0 f → n ≤ 2199023255488 →
    Calls Try.prog 42 #[.slice A n c] w fun r w' => ∃ v, r = .returned v ∧ FoO (w.heap.size ≤ ·) w' v f ∧ Below w.heap.size w w' := by
  intro M
  induction M using Nat.strongRecOn with
  | _ M ih =>
    intro f hM ok A n c w hn h1 hl
    have IH := Lib.hid ih; clear ih
    have HN := Lib.hid hn; clear hn
    have H1 := Lib.hid h1; clear h1
    have HM := Lib.hid hM; clear hM
    go_enter Try.func42, Try.ntmps42
    go_wp2_with (first | (at_make; refine wpList_makeI _ rfl (.tmp 6) (.tmp 6) rfl _ _ _ _ n rfl rfl rfl rfl hl ?_))
    intro w1 ho1 hb1 _
    have hcl : Ci w1 w.heap.size w.heap.size n n .nil 0 none := ⟨_, List.length_replicate, ho1, rfl, fun _ _ e => by cases e⟩
    have HC := Lib.hid hcl; clear hcl
    have hbw : w.heap.size < w1.heap.size := ho1.len.2.2.2.2
    clear ho1
    go_wp2_with (fail)
    go_loopw [10] (fun i wr => ∃ (k : Nat) (r P : Fo), i = .int .i64 k ∧ Hid (k + r.len = n) ∧ Hid (FoR ok w A k r) ∧ Hid (r.size ≤ f.size) ∧ Hid (f = P.app r) ∧ Hid (Ci wr w.heap.size w.heap.size n n P k none) ∧ Below w.heap.size w wr ∧ w.heap.size < wr.heap.size) (fun i _ => n - (intOf i).toNat)
    case atStart => exact ⟨0, f, .nil, rfl, Lib.hid (by rw [HN.out]; omega), H1, Lib.hid (Nat.le_refl _), Lib.hid rfl, HC, hb1, hbw⟩
    case round =>
      clear HC hb1 hbw
      obtain ⟨k, r, P, rfl, HK, R1, HS, HF, HC, kb, hbw⟩ := hrel
      cases r with
      | nil =>
        have hk : k = n := HK.out
        have hk' : (n : Int) ≤ (k : Int) := by omega
        have hfin : FoO (w.heap.size ≤ ·) wr (.slice (some ⟨w.heap.size, 0, none⟩) n n) f := by
          have := HC.out
          rw [hk] at this
          rw [HF.out, Fo.app_nil]
          exact this.out
        have FIN := Lib.hid hfin
        clear hk hfin
        go_wp2_with (fail)
        go_ret
        exact ⟨_, rfl, FIN.out, kb⟩
      | cons z cr li bs sub rest =>
        obtain ⟨⟨b1, o1, At, m, cm, As, e1, rfl, hb1, -, ⟨c0, ca, cb, cc, cd⟩, tt, s1, l1, l2, l3⟩, r1⟩ := R1.out.one
        obtain ⟨t1, t2, t3, t4, -, t5⟩ := tt
        have hlt : k < n := by have := HK.out; simp only [Fo.len] at this; omega
        have X4 := Lib.hid cd
        have HB1 := Lib.hid hb1
        rw [← kb.cell (p := ⟨b1, _, none⟩) hb1] at c0 ca cb cc cd
        have R1b := Lib.hid r1
        have S1 := Lib.hid s1
        have T1 := Lib.hid t1
        have HSb : Hid (rest.size ≤ f.size) := Lib.hid (by have := HS.out; simp only [Fo.size] at this; omega)
        have HSs : Hid (sub.size < M) := Lib.hid (by have := HS.out; have := HM.out; simp only [Fo.size] at *; omega)
        have HKb : Hid (k + 1 + rest.len = n) := Lib.hid (by have := HK.out; simp only [Fo.len] at this; omega)
        have HFb : Hid (f = (P.app (.cons z cr li bs sub .nil)).app rest) := Lib.hid (by rw [HF.out, Fo.app_assoc]; rfl)
        obtain ⟨sl, esl⟩ : ∃ sl, sl = sub.len := ⟨_, rfl⟩
        rw [← esl] at X4 cd l1 l3
        have ESL := Lib.hid esl
        obtain ⟨u0, u1, u2, u3, u4, f0, f1, f2, f3, f4⟩ := HC.out.cell k hlt
        have fr0 := HC.out.free (k * 5)
        have fr1 := HC.out.free (k * 5 + 1)
        have fr2 := HC.out.free (k * 5 + 2)
        have fr3 := HC.out.free (k * 5 + 3)
        have fr4 := HC.out.free (k * 5 + 4)
        have hne : b1 ≠ w.heap.size := by omega
        have hlt' : (k : Int) < (n : Int) := by omega
        obtain ⟨w2, ew2, hq2, kb2⟩ : ∃ w2, w2 = ((((wr.setCell ⟨w.heap.size, k * 5, none⟩ (.int .i64 z)).setCell ⟨w.heap.size, k * 5 + 1, none⟩ (.bool cr)).setCell ⟨w.heap.size, k * 5 + 2, none⟩ (.bool li)).setCell ⟨w.heap.size, k * 5 + 3, none⟩ (.slice At m cm)).setCell ⟨w.heap.size, k * 5 + 4, none⟩ (.slice As sl e1) ∧
            Ci w2 w.heap.size w.heap.size n n P k (some ⟨z, cr, li, At, m, cm, As, sl, e1⟩) ∧ Below w.heap.size w w2 ∧ w2.heap.size = wr.heap.size := by
          refine ⟨_, rfl, HC.out.setAll hlt ⟨z, cr, li, At, m, cm, As, sl, e1⟩, ?_, by simp [World.setCell]⟩
          have st : ∀ {wa : World} (j : Nat) (u : Value), Below w.heap.size w wa → Below w.heap.size w (wa.setCell ⟨w.heap.size, j, none⟩ u) := fun j u h => h.grown (only_set w.heap.size j u) h.size (fun q e => by injection e with e; omega)
          exact st _ _ (st _ _ (st _ _ (st _ _ (st _ _ kb))))
        obtain ⟨kb2, sz2⟩ := kb2
        have HQ2 := Lib.hid hq2; clear hq2
        have EW := Lib.hid ew2; clear ew2
        have r2 := Lib.hid (t2.below kb2)
        clear t1 t2 r1 s1 esl HK HS HF R1
        go_wp2_with (fail)
        rw [← EW.out]
        clear EW
        refine (Copy_c At m cm bs w2 T1.out r2.out t5).mono ?_
        rintro _ w3 ⟨v3, rfl, ho3, hb3⟩
        obtain ⟨A3, c3, rfl, p1, p2, p3, p4⟩ := OwnB.form ho3
        rw [T1.out] at p1 ho3 ⊢
        have HO3 := Lib.hid ho3; clear ho3
        have HQ3 := Lib.hid (HQ2.out.below hb3)
        have kb3 := kb2.trans (hb3.mono kb2.size)
        have gs := hb3.size
        have P4 : Hid (∀ a, A3 = some a → w.heap.size < a.block) := Lib.hid (fun a ea => Nat.lt_of_lt_of_le (by omega) (p4 a ea).1)
        have x4b : w3.cell? ⟨b1, o1 + k * 5 + 4, none⟩ = some (.slice As sl e1) := (kb3.cell (p := ⟨b1, _, none⟩) HB1.out).trans X4.out
        clear fr0 fr1 fr2 fr3 fr4 f0 f1 f2 f3 f4 c0 ca cb cc cd p3 p4 r2 HQ2 hb3 kb2
        obtain ⟨v0, v1, v2, v3, v4, -, -, -, f3, -⟩ := HQ3.out.cell k hlt
        have fr3 := HQ3.out.free (k * 5 + 3)
        obtain ⟨w4, ew4⟩ : ∃ w4, w4 = w3.setCell ⟨w.heap.size, k * 5 + 3, none⟩ (.slice A3 m c3) := ⟨_, rfl⟩
        have HQ4 := Lib.hid (HQ3.out.setT hlt A3 m c3)
        have kb4 : Below w.heap.size w w4 := by rw [ew4]; exact kb3.grown (only_set w.heap.size (k * 5 + 3) (.slice A3 m c3)) kb3.size (fun q e => by injection e with e; omega)
        have hT4 : TxtO (w.heap.size < ·) w4 A3 m c3 bs := by
          rw [ew4]
          refine ⟨T1.out, Own.frameK (Own.low HO3.out (Nat.zero_le _)) (fun g e => heap_far _ ?_), fun a ea => P4.out a ea, t5⟩
          cases A3 with
          | none => cases e
          | some a =>
            injection e with e
            have := P4.out a rfl
            rw [e] at this
            show g ≠ w.heap.size
            omega
        have sz4 : w4.heap.size = w3.heap.size := by rw [ew4]; simp [World.setCell]
        rw [← ew4] at HQ4
        have EW := Lib.hid ew4
        have HT4 := Lib.hid hT4
        have KB4 := Lib.hid kb4
        clear ew4 hT4 kb4
        go_wp2_with (fail)
        rw [← EW.out]
        refine (IH.out sub.size HSs.out sub rfl ok As sl e1 w4 ESL.out.symm (S1.out.below KB4.out) l3).mono ?_
        rintro _ w5 ⟨v5, rfl, ho5, hb5⟩
        obtain ⟨A5, c5, rfl, g1, g2, -⟩ := ho5.form ESL.out.symm
        have HO5 := Lib.hid ho5
        have HQ5 := Lib.hid (HQ4.out.below hb5)
        have HT5 := Lib.hid (HT4.out.frame (fun q _ hq => hb5.block q hq))
        have kb5 := KB4.out.trans (hb5.mono KB4.out.size)
        have gs5 := hb5.size
        clear fr3 f3 x4b HQ4 hb5 ho5 HQ3 HO3
        obtain ⟨v0, v1, v2, v3, v4, -, -, -, -, f4⟩ := HQ5.out.cell k hlt
        have fr4 := HQ5.out.free (k * 5 + 4)
        go_wp2_with (fail)
        have hfar : ∀ q, w.heap.size < q → (w5.setCell ⟨w.heap.size, k * 5 + 4, none⟩ (.slice A5 sl c5)).heap[q]? = w5.heap[q]? := fun q hq => heap_far _ (by show q ≠ w.heap.size; omega)
        have hO : ItsO (w.heap.size < ·) (w5.setCell ⟨w.heap.size, k * 5 + 4, none⟩ (.slice A5 sl c5)) [((⟨z, cr, li, At, m, cm, As, sl, e1⟩ : ItV).txt A3 m c3).sub A5 sl c5] (.cons z cr li bs sub .nil) := by
          obtain ⟨es, i1, i2, i3⟩ := HO5.out
          have i2' : ∀ g, (Value.slice A5 sl c5).ownBlock = some g → w.heap.size < g := fun g e => by have : w4.heap.size ≤ g := i2 g e; omega
          refine ⟨_, [], rfl, rfl, rfl, rfl, HT5.out.frame (fun q hq _ => hfar q hq), ⟨es, i1.frame (fun g e => hfar g (i2' g e)), i2', ItsO.frame (fun q hq _ => hfar q hq) sub es (ItsO.weak (fun q hq _ => by have : w4.heap.size ≤ q := hq; show w.heap.size < q; omega) sub es i3), by rw [← ESL.out]; exact l3⟩, rfl⟩
        have hput := (HQ5.out.setS hlt A5 sl c5).next hlt hO
        have HP := Lib.hid hput
        have kset := kb5.grown (only_set w.heap.size (k * 5 + 4) (.slice A5 sl c5)) kb5.size (fun q e => by injection e with e; omega)
        clear hput hO hfar
        go_roundw
        case rel => exact ⟨k + 1, rest, _, by go_num, HKb, R1b, HSb, HFb, HP, kset, by show w.heap.size < _; simp [World.setCell]; omega⟩
        case measure => simp [intOf]; omega
end Go.Proofs.Ytgnciejbhaebeaa

/- What tlv.Get and the reference's Get answer: the first item of a kind. Conditions: items that can be read; few items. -/
namespace Go.Proofs.Ytgnciejbhaebeaa
open Go Go.RowKit

/-- The first item of a kind, as a list of one; else an empty one. -/
def getI (x : Int) : Fo → Fo
  | .nil => .cons 0 false false [] .nil .nil
  | .cons k cr li bs sub rest => if k = x then .cons k cr li bs sub .nil else getI x rest
def hasI (x : Int) : Fo → Bool
  | .nil => false
  | .cons k _ _ _ _ rest => if k = x then true else hasI x rest
theorem ItsR.one {ok : Nat → Prop} {w : World} {k : Int} {cr li : Bool} {bs : List UInt8} {sub : Fo} {A As : Option Addr} {n c ns cs : Nat} (ht : TxtR ok w A n c bs) (hn : ns = sub.len) (hs : FoR ok w As 0 sub) (hc : ns ≤ cs) (hm : cs ≤ maxLen) (hl : sub.len ≤ 2199023255488) :
    ItsR ok w [⟨k, cr, li, A, n, c, As, ns, cs⟩] (.cons k cr li bs sub .nil) :=
  ⟨_, [], rfl, rfl, rfl, rfl, ht, ⟨hn, hs, by rw [← hn]; exact hc, hm, hl⟩, rfl⟩
/-- The five stores of an item. -/
def set5 (w : World) (g : Nat) (d : ItV) : World := ((((w.setCell ⟨g, 0, none⟩ (.int .i64 d.k)).setCell ⟨g, 1, none⟩ (.bool d.cr)).setCell ⟨g, 2, none⟩ (.bool d.li)).setCell ⟨g, 3, none⟩ (.slice d.A d.n d.c)).setCell ⟨g, 4, none⟩ (.slice d.As d.ns d.cs)
theorem set5_heap {w : World} {g : Nat} {a0 a1 a2 a3 a4 : Value} {t : TypeId} (h : w.heap[g]? = some (.cells #[a0, a1, a2, a3, a4] t (0, 0))) (d : ItV) : (set5 w g d).heap[g]? = some (.cells d.cells.toArray t (0, 0)) := by
  unfold set5
  rw [heap_set (heap_set (heap_set (heap_set (heap_set h _ _) _ _) _ _) _ _) _ _]; rfl
theorem set5_keeps (w : World) (g : Nat) (d : ItV) : Keeps (fun j => j = g) w (set5 w g d) := by
  unfold set5
  exact ((((Keeps.set (fun j => j = g) _ ⟨g, 0, none⟩ _ rfl).trans (Keeps.set _ _ ⟨g, 1, none⟩ _ rfl)).trans (Keeps.set _ _ ⟨g, 2, none⟩ _ rfl)).trans (Keeps.set _ _ ⟨g, 3, none⟩ _ rfl)).trans (Keeps.set _ _ ⟨g, 4, none⟩ _ rfl)
theorem five_of {w : World} {g : Nat} {t : TypeId} {d : ItV} (h : w.heap[g]? = some (.cells d.cells.toArray t (0, 0))) :
    (w.cell? ⟨g, 0, none⟩ = some (.int .i64 d.k) ∧ w.cell? ⟨g, 1, none⟩ = some (.bool d.cr) ∧ w.cell? ⟨g, 2, none⟩ = some (.bool d.li) ∧ w.cell? ⟨g, 3, none⟩ = some (.slice d.A d.n d.c) ∧ w.cell? ⟨g, 4, none⟩ = some (.slice d.As d.ns d.cs)) ∧
    (w.frozen? ⟨g, 0, none⟩ = false ∧ w.frozen? ⟨g, 1, none⟩ = false ∧ w.frozen? ⟨g, 2, none⟩ = false ∧ w.frozen? ⟨g, 3, none⟩ = false ∧ w.frozen? ⟨g, 4, none⟩ = false) := by
  refine ⟨⟨?_, ?_, ?_, ?_, ?_⟩, heap_free h _, heap_free h _, heap_free h _, heap_free h _, heap_free h _⟩ <;> (rw [heap_cell h]; rfl)
def ItV.zer : ItV := ⟨0, false, false, none, 0, 0, none, 0, 0⟩
set_option maxRecDepth 100000 in
set_option maxHeartbeats 4000000 in
theorem Get_c (f : Fo) (ok : Nat → Prop) (A : Option Addr) (n c : Nat) (x : Int) (w : World) (hn : f.len = n) (h1 : FoR ok w A 0 f) (hs : f.size ≤ 100000) :
    Calls Try.prog 54 #[.slice A n c, .int .i64 x] w fun r w' => ∃ d : ItV, r = .returned (.tuple #[d.val, .bool (hasI x f)]) ∧ ItsO (w.heap.size ≤ ·) w' [d] (getI x f) ∧ Below w.heap.size w w' := by
  have HN := Lib.hid hn
  have H1 := Lib.hid h1; clear h1
  have hl : n ≤ 100000 := by have := Fo.len_le f; omega
  have HSF := Lib.hid hs
  clear hn hs
  obtain ⟨B, eB⟩ : ∃ B, B = hasI x f := ⟨_, rfl⟩
  obtain ⟨T, eT⟩ : ∃ T, T = getI x f := ⟨_, rfl⟩
  rw [← eT, ← eB]
  have ET := Lib.hid eT; clear eT
  have EB := Lib.hid eB; clear eB
  obtain ⟨w1, ew1⟩ : ∃ w1, w1 = w.alloc (.cells #[.int .i64 0, .bool false, .bool false, .slice none 0 0, .slice none 0 0] 95) := ⟨_, rfl⟩
  obtain ⟨gr, egr⟩ : ∃ gr, gr = w.heap.size := ⟨_, rfl⟩
  have b1 : Below w.heap.size w w1 := by rw [ew1]; exact (Below.refl _ _).alloc (Nat.le_refl _) _
  have g1 : w1.heap[gr]? = some (.cells ItV.zer.cells.toArray 95 (0, 0)) := by rw [ew1, egr]; exact heap_alloc_new _ _
  have EW1 := Lib.hid ew1
  have EGR := Lib.hid egr
  have B1 := Lib.hid b1
  have G1 := Lib.hid g1
  clear ew1 egr b1 g1
  go_enter Try.func54, Try.ntmps54
  go_upto_region 1 with (fail)
  rw [← EW1.out, ← EGR.out]
  go_wp2_with (fail)
  go_loopw [10] (fun i wr => ∃ (q : Nat) (r : Fo), i = .int .i64 q ∧ Hid (q + r.len = n) ∧ Hid (FoR ok w A q r) ∧ Hid (r.size ≤ f.size) ∧ Hid (B = hasI x r) ∧ Hid (T = getI x r) ∧ Hid (Below w.heap.size w wr) ∧ Hid (wr.heap[gr]? = some (.cells ItV.zer.cells.toArray 95 (0, 0)))) (fun i _ => n - (intOf i).toNat)
  case atStart => exact ⟨0, f, rfl, Lib.hid (by rw [HN.out]; omega), H1, Lib.hid (Nat.le_refl _), EB, ET, B1, G1⟩
  case round =>
    obtain ⟨q, r, rfl, HK, R1, HSz, HBr, HTr, HB, HG⟩ := hrel
    cases r with
    | nil =>
      have hk : q = n := HK.out
      have hk' : (n : Int) ≤ (q : Int) := by omega
      have eB2 : B = false := HBr.out
      obtain ⟨⟨s0, s1, s2, s3, s4⟩, f0, f1, f2, f3, f4⟩ := five_of HG.out
      obtain ⟨w8, ew8⟩ : ∃ w8, w8 = set5 wr gr ItV.zer := ⟨_, rfl⟩
      have h8 : w8.heap[gr]? = some (.cells ItV.zer.cells.toArray 95 (0, 0)) := by rw [ew8]; exact set5_heap HG.out _
      have b8 : Below w.heap.size w w8 := by rw [ew8]; exact HB.out.trans ((set5_keeps wr gr ItV.zer).below (fun j hj => ⟨Nat.lt_of_lt_of_le hj HB.out.size, by have := EGR.out; omega⟩))
      obtain ⟨⟨v0, v1, v2, v3, v4⟩, -⟩ := five_of h8
      have B8 := Lib.hid b8
      have EB2 := Lib.hid eB2
      unfold set5 at ew8
      unfold ItV.zer at s0 s1 s2 s3 s4 ew8 v0 v1 v2 v3 v4
      dsimp only at s0 s1 s2 s3 s4 ew8 v0 v1 v2 v3 v4
      have EW8 := Lib.hid ew8
      clear hk eB2 ew8 h8 b8
      go_wp2_with (fail)
      rw [← EW8.out]
      refine bodyPost_ret (v := .tuple #[.agg #[.int .i64 0, .bool false, .bool false, .slice none 0 0, .slice none 0 0], .bool false]) (by simp [results, Try.results54, go_sem, v0, v1, v2, v3, v4]) rfl ?_
      rw [EB2.out]
      exact ⟨ItV.zer, rfl, by rw [HTr.out]; exact ItsO.one (TxtO.nil_ _ _) (FoO.nil_ _ _) (by simp [Fo.len]), B8.out⟩
    | cons z cr li bs sub rest =>
      obtain ⟨⟨b1, o1, At, m, cm, As1, e1, eA, hb1, -, ⟨c0, ca, cb, cc, cd⟩, tt, s1, l1, l2, l3⟩, r1⟩ := R1.out.one
      subst eA
      have hlt : q < n := by have := HK.out; simp only [Fo.len] at this; omega
      have kb := HB.out
      have TT := Lib.hid tt
      have S1 := Lib.hid s1
      have R1b := Lib.hid r1
      rw [← kb.cell (p := ⟨b1, _, none⟩) hb1] at c0 ca cb cc cd
      have HSb : Hid (rest.size ≤ f.size) := Lib.hid (by have := HSz.out; simp only [Fo.size] at this; omega)
      have HSs : Hid (sub.size ≤ 100000) := Lib.hid (by have := HSz.out; have := HSF.out; simp only [Fo.size] at *; omega)
      have HKb : Hid (q + 1 + rest.len = n) := Lib.hid (by have := HK.out; simp only [Fo.len] at this; omega)
      obtain ⟨sl, esl⟩ : ∃ sl, sl = sub.len := ⟨_, rfl⟩
      rw [← esl] at cd l1 l3
      have ESL := Lib.hid esl
      have hlt' : (q : Int) < (n : Int) := by omega
      obtain ⟨w5, ew5⟩ : ∃ w5, w5 = wr.alloc (.cells #[.int .i64 z, .bool cr, .bool li, .slice At m cm, .slice As1 sl e1] 95) := ⟨_, rfl⟩
      obtain ⟨gy, egy⟩ : ∃ gy, gy = wr.heap.size := ⟨_, rfl⟩
      have b5 : Below wr.heap.size wr w5 := by rw [ew5]; exact (Below.refl _ _).alloc (Nat.le_refl _) _
      have h5 : w5.heap[gy]? = some (.cells #[.int .i64 z, .bool cr, .bool li, .slice At m cm, .slice As1 sl e1] 95 (0, 0)) := by rw [ew5, egy]; exact heap_alloc_new _ _
      have HB5 : Hid (Below w.heap.size w w5) := Lib.hid (HB.out.trans (b5.mono HB.out.size))
      have HG5 : Hid (w5.heap[gr]? = some (.cells ItV.zer.cells.toArray 95 (0, 0))) := Lib.hid ((b5.block gr (heap_lt HG.out)).trans HG.out)
      obtain ⟨p0, p1, p2, p3, p4⟩ : w5.cell? ⟨gy, 0, none⟩ = some (.int .i64 z) ∧ w5.cell? ⟨gy, 1, none⟩ = some (.bool cr) ∧ w5.cell? ⟨gy, 2, none⟩ = some (.bool li) ∧ w5.cell? ⟨gy, 3, none⟩ = some (.slice At m cm) ∧ w5.cell? ⟨gy, 4, none⟩ = some (.slice As1 sl e1) := by
        refine ⟨?_, ?_, ?_, ?_, ?_⟩ <;> (rw [heap_cell h5]; rfl)
      have EW5 := Lib.hid ew5
      have EGY := Lib.hid egy
      have Z5 : Hid (gr < w5.heap.size) := Lib.hid (heap_lt HG5.out)
      clear ew5 egy b5 h5 tt s1 r1 esl HK HSz R1 kb l1 l2 HG
      go_upto_region 4 with (fail)
      rw [← EW5.out, ← EGY.out]
      clear c0 ca cb cc cd
      by_cases hin : z = x
      · have d0 : (z == x) = true := by rw [hin]; exact beq_self_eq_true _
        have hB : B = true := HBr.out.trans (if_pos hin)
        have hT : T = .cons z cr li bs sub .nil := HTr.out.trans (if_pos hin)
        have HB' := Lib.hid hB
        have HT' := Lib.hid hT
        clear hin hB hT
        go_wp2_with (fail)
        refine (clone_it sub.size sub rfl ok z cr li bs At m cm As1 sl e1 w5 (TT.out.frame (fun j _ hj => HB5.out.block j hj) HB5.out.size) ESL.out.symm (S1.out.below HB5.out) HSs.out).mono ?_
        rintro _ w6 ⟨⟨dk, dc, dl, dA, dn, dcc, dAs, dns, dcs⟩, rfl, ho6, hb6⟩
        unfold ItV.val
        dsimp only
        have hg6 := (hb6.block gr (heap_lt HG5.out)).trans HG5.out
        obtain ⟨⟨s0, s1, s2, s3, s4⟩, f0, f1, f2, f3, f4⟩ := five_of hg6
        obtain ⟨d, ed⟩ : ∃ d : ItV, d = ⟨dk, dc, dl, dA, dn, dcc, dAs, dns, dcs⟩ := ⟨_, rfl⟩
        rw [← ed] at ho6
        obtain ⟨w8, ew8⟩ : ∃ w8, w8 = set5 w6 gr d := ⟨_, rfl⟩
        have h8 : w8.heap[gr]? = some (.cells d.cells.toArray 95 (0, 0)) := by rw [ew8]; exact set5_heap hg6 _
        have k8 : Keeps (fun j => j = gr) w6 w8 := by rw [ew8]; exact set5_keeps _ _ _
        have b8 : Below w.heap.size w w8 := by
          have b6 : Below w.heap.size w w6 := HB5.out.trans (hb6.mono HB5.out.size)
          exact b6.trans (k8.below (fun j hj => ⟨Nat.lt_of_lt_of_le hj b6.size, by have := EGR.out; omega⟩))
        have ho8 : ItsO (w.heap.size ≤ ·) w8 [d] (.cons z cr li bs sub .nil) := (ho6.frame (w' := w8) (fun j hj hl => k8.block j hl (by have : w5.heap.size ≤ j := hj; have := Z5.out; omega))).weak (fun j hj _ => by have : w5.heap.size ≤ j := hj; have := Z5.out; have := EGR.out; show w.heap.size ≤ j; omega)
        have HO8 := Lib.hid ho8
        obtain ⟨⟨v0, v1, v2, v3, v4⟩, -⟩ := five_of h8
        have B8 := Lib.hid b8
        have ED := Lib.hid ed
        rw [ed] at ew8 v0 v1 v2 v3 v4
        unfold set5 at ew8
        unfold ItV.zer at s0 s1 s2 s3 s4
        dsimp only at s0 s1 s2 s3 s4 ew8 v0 v1 v2 v3 v4
        have EW8 := Lib.hid ew8
        clear ew8 h8 b8 k8 ho8 hg6 ho6 hb6 ed p0 p1 p2 p3 p4
        go_wp2_with (fail)
        rw [← EW8.out]
        refine bodyPost_ret (v := .tuple #[.agg #[.int .i64 dk, .bool dc, .bool dl, .slice dA dn dcc, .slice dAs dns dcs], .bool true]) (by simp [results, Try.results54, go_sem, v0, v1, v2, v3, v4]) rfl ?_
        rw [HB'.out, HT'.out]
        exact ⟨d, by rw [ED.out]; rfl, HO8.out, B8.out⟩
      · have d0 : (z == x) = false := by rw [beq_eq_false_iff_ne]; exact hin
        have hB : B = hasI x rest := HBr.out.trans (if_neg hin)
        have hT : T = getI x rest := HTr.out.trans (if_neg hin)
        have HB' := Lib.hid hB
        have HT' := Lib.hid hT
        clear hin hB hT
        go_wp2_with (fail)
        go_roundw
        case rel => exact ⟨q + 1, rest, by go_num, HKb, R1b, HSb, HB', HT', HB5, HG5⟩
        case measure => simp [intOf]; omega
set_option maxRecDepth 100000 in
set_option maxHeartbeats 4000000 in
theorem refGet_c (f : Fo) (ok : Nat → Prop) (A : Option Addr) (n c : Nat) (x : Int) (w : World) (hn : f.len = n) (h1 : FoR ok w A 0 f) (hl : n ≤ 2199023255488) :
    Calls Try.prog 55 #[.slice A n c, .int .i64 x] w fun r w' => ∃ d : ItV, r = .returned (.tuple #[d.val, .bool (hasI x f)]) ∧ ItsR (fun _ => True) w' [d] (getI x f) ∧ Below w.heap.size w w' := by
  have HN := Lib.hid hn; clear hn
  have H1 := Lib.hid h1; clear h1
  obtain ⟨B, eB⟩ : ∃ B, B = hasI x f := ⟨_, rfl⟩
  obtain ⟨T, eT⟩ : ∃ T, T = getI x f := ⟨_, rfl⟩
  rw [← eT, ← eB]
  have ET := Lib.hid eT; clear eT
  have EB := Lib.hid eB; clear eB
  obtain ⟨w1, ew1⟩ : ∃ w1, w1 = w.alloc (.cells #[.int .i64 0, .bool false, .bool false, .slice none 0 0, .slice none 0 0] 95) := ⟨_, rfl⟩
  obtain ⟨gr, egr⟩ : ∃ gr, gr = w.heap.size := ⟨_, rfl⟩
  have b1 : Below w.heap.size w w1 := by rw [ew1]; exact (Below.refl _ _).alloc (Nat.le_refl _) _
  have g1 : w1.heap[gr]? = some (.cells ItV.zer.cells.toArray 95 (0, 0)) := by rw [ew1, egr]; exact heap_alloc_new _ _
  have EW1 := Lib.hid ew1
  have EGR := Lib.hid egr
  have B1 := Lib.hid b1
  have G1 := Lib.hid g1
  clear ew1 egr b1 g1
  go_enter Try.func55, Try.ntmps55
  go_upto_region 1 with (fail)
  rw [← EW1.out, ← EGR.out]
  go_wp2_with (fail)
  go_loopw [6] (fun i wr => ∃ (q : Nat) (r : Fo), i = .int .i64 q ∧ Hid (q + r.len = n) ∧ Hid (FoR ok w A q r) ∧ Hid (B = hasI x r) ∧ Hid (T = getI x r) ∧ wr = w1) (fun i _ => n - (intOf i).toNat)
  case atStart => exact ⟨0, f, rfl, Lib.hid (by rw [HN.out]; omega), H1, EB, ET, rfl⟩
  case round =>
    obtain ⟨q, r, rfl, HK, R1, HBr, HTr, ewr⟩ := hrel
    have HB : Hid (Below w.heap.size w wr) := by rw [ewr]; exact B1
    have HG : Hid (wr.heap[gr]? = some (.cells ItV.zer.cells.toArray 95 (0, 0))) := by rw [ewr]; exact G1
    have EWR := Lib.hid ewr
    clear ewr
    obtain ⟨⟨s0, s1, s2, s3, s4⟩, f0, f1, f2, f3, f4⟩ := five_of HG.out
    cases r with
    | nil =>
      have hk : q = n := HK.out
      have hk' : (n : Int) ≤ (q : Int) := by omega
      have eB2 : B = false := HBr.out
      obtain ⟨w8, ew8⟩ : ∃ w8, w8 = set5 wr gr ItV.zer := ⟨_, rfl⟩
      have h8 : w8.heap[gr]? = some (.cells ItV.zer.cells.toArray 95 (0, 0)) := by rw [ew8]; exact set5_heap HG.out _
      have b8 : Below w.heap.size w w8 := by rw [ew8]; exact HB.out.trans ((set5_keeps wr gr ItV.zer).below (fun j hj => ⟨Nat.lt_of_lt_of_le hj HB.out.size, by have := EGR.out; omega⟩))
      obtain ⟨⟨v0, v1, v2, v3, v4⟩, -⟩ := five_of h8
      have B8 := Lib.hid b8
      have EB2 := Lib.hid eB2
      unfold set5 at ew8
      unfold ItV.zer at s0 s1 s2 s3 s4 ew8 v0 v1 v2 v3 v4
      dsimp only at s0 s1 s2 s3 s4 ew8 v0 v1 v2 v3 v4
      have EW8 := Lib.hid ew8
      clear hk eB2 ew8 h8 b8
      go_wp2_with (fail)
      rw [← EW8.out]
      refine bodyPost_ret (v := .tuple #[.agg #[.int .i64 0, .bool false, .bool false, .slice none 0 0, .slice none 0 0], .bool false]) (by simp [results, Try.results55, go_sem, v0, v1, v2, v3, v4]) rfl ?_
      rw [EB2.out]
      exact ⟨ItV.zer, rfl, by rw [HTr.out]; exact ItsR.one (TxtO.nil_ _ _).r rfl trivial (Nat.le_refl _) (Nat.zero_le _) (by simp [Fo.len]), B8.out⟩
    | cons z cr li bs sub rest =>
      obtain ⟨⟨b1, o1, At, m, cm, As1, e1, eA, hb1, -, ⟨c0, ca, cb, cc, cd⟩, tt, ss1, l1, l2, l3⟩, r1⟩ := R1.out.one
      subst eA
      have hlt : q < n := by have := HK.out; simp only [Fo.len] at this; omega
      have kb := HB.out
      have TT := Lib.hid tt
      have S1 := Lib.hid ss1
      have R1b := Lib.hid r1
      rw [← kb.cell (p := ⟨b1, _, none⟩) hb1] at c0 ca cb cc cd
      have HKb : Hid (q + 1 + rest.len = n) := Lib.hid (by have := HK.out; simp only [Fo.len] at this; omega)
      obtain ⟨sl, esl⟩ : ∃ sl, sl = sub.len := ⟨_, rfl⟩
      rw [← esl] at cd l1 l3
      have ESL := Lib.hid esl
      have L1 := Lib.hid l1
      have L2 := Lib.hid l2
      have hlt' : (q : Int) < (n : Int) := by omega
      clear tt ss1 r1 esl HK R1 kb l1 l2
      by_cases hin : z = x
      · have d0 : (z == x) = true := by rw [hin]; exact beq_self_eq_true _
        have hB : B = true := HBr.out.trans (if_pos hin)
        have hT : T = .cons z cr li bs sub .nil := HTr.out.trans (if_pos hin)
        have HB' := Lib.hid hB
        have HT' := Lib.hid hT
        clear hin hB hT
        obtain ⟨w8, ew8⟩ : ∃ w8, w8 = set5 wr gr ⟨z, cr, li, At, m, cm, As1, sl, e1⟩ := ⟨_, rfl⟩
        have h8 : w8.heap[gr]? = some (.cells (ItV.cells ⟨z, cr, li, At, m, cm, As1, sl, e1⟩).toArray 95 (0, 0)) := by rw [ew8]; exact set5_heap HG.out _
        have k8 : Keeps (fun j => j = gr) wr w8 := by rw [ew8]; exact set5_keeps _ _ _
        have b8 : Below w.heap.size w w8 := HB.out.trans (k8.below (fun j hj => ⟨Nat.lt_of_lt_of_le hj HB.out.size, by have := EGR.out; omega⟩))
        have ho8 : ItsR (fun _ => True) w8 [⟨z, cr, li, At, m, cm, As1, sl, e1⟩] (.cons z cr li bs sub .nil) :=
          ItsR.one ((TT.out.frame (fun j _ hj => b8.block j hj) b8.size).weak (fun _ _ _ => trivial)) ESL.out ((S1.out.below b8).weak (fun _ _ _ => trivial)) L1.out L2.out (by rw [← ESL.out]; exact l3)
        have HO8 := Lib.hid ho8
        obtain ⟨⟨v0, v1, v2, v3, v4⟩, -⟩ := five_of h8
        have B8 := Lib.hid b8
        unfold set5 at ew8
        unfold ItV.zer at s0 s1 s2 s3 s4
        dsimp only at s0 s1 s2 s3 s4 ew8 v0 v1 v2 v3 v4
        have EW8 := Lib.hid ew8
        clear ew8 h8 b8 k8 ho8
        go_wp2_with (fail)
        rw [← EW8.out]
        refine bodyPost_ret (v := .tuple #[.agg #[.int .i64 z, .bool cr, .bool li, .slice At m cm, .slice As1 sl e1], .bool true]) (by simp [results, Try.results55, go_sem, v0, v1, v2, v3, v4]) rfl ?_
        rw [HB'.out, HT'.out]
        exact ⟨⟨z, cr, li, At, m, cm, As1, sl, e1⟩, rfl, HO8.out, B8.out⟩
      · have d0 : (z == x) = false := by rw [beq_eq_false_iff_ne]; exact hin
        have hB : B = hasI x rest := HBr.out.trans (if_neg hin)
        have hT : T = getI x rest := HTr.out.trans (if_neg hin)
        have HB' := Lib.hid hB
        have HT' := Lib.hid hT
        clear hin hB hT s0 s1 s2 s3 s4 f0 f1 f2 f3 f4
        go_wp2_with (fail)
        go_roundw
        case rel => exact ⟨q + 1, rest, by go_num, HKb, R1b, HB', HT', EWR.out⟩
        case measure => simp [intOf]; omega
end Go.Proofs.Ytgnciejbhaebeaa

/- How a law's argument is opened: an event by value; a slice of events. Conditions: none. -/
namespace Go.Proofs.Ytgnciejbhaebeaa
open Go Go.RowKit Go.ChangeShapes Go.WideShapes

/-- The fields of an event's type. -/
structure EvT (P : Program) (t : TypeId) (f0 f1 f2 f3 f4 : Field) (e : TypeId) : Prop where
  hs : P.underlying t = some (.struct #[f0, f1, f2, f3, f4])
  hone : Deep.oneCellFields P #[f0, f1, f2, f3, f4] = true
  hC : P.cellsOf t = 5
  h0 : P.underlying f0.type = some (.int .i64)
  h1 : P.underlying f1.type = some (.slice e)
  h2 : P.underlying f2.type = some (.int .i64)
  h3 : P.underlying f3.type = some (.int .i64)
  h4 : P.underlying f4.type = some (.int .i64)
  he : P.underlying e = some (.int .u8)
  hc : P.cellsOf e = 1
  hb : P.bytesOf e = 1

theorem open_txt {H : Type} {enc : TypeId × Value → H} {P : Program} {W : World} {t e fuel : Nat} {u : Value} {y : DataW H × List MemPlace} (ht : P.underlying t = some (.slice e)) (he : P.underlying e = some (.int .u8)) (hc : P.cellsOf e = 1) (hb : P.bytesOf e = 1)
    (hf : DataW.trod enc P W 0 (fun _ => true) true fuel t [u] = some y) :
    ∃ (A : Option Addr) (m c : Nat) (bs : List UInt8), u = .slice A m c ∧ bs.length = m ∧ Rd W A (bs.map bv) ∧ m ≤ c ∧ c ≤ maxLen ∧ ((∀ n ∈ y.1.weights P t, n ≤ reachBytes) → m ≤ 140737488351232) := by
  rcases open_ints ht he hc hf with ⟨hcs, _⟩ | ⟨x, l, c, zs, hcs, _, hl, hm, hz, hx, hcell, hwz⟩
  · injection hcs with hcs _
    subst hcs
    exact ⟨none, 0, 0, [], rfl, rfl, .inl rfl, Nat.le_refl _, Nat.zero_le _, fun _ => by decide⟩
  · injection hcs with hcs _
    subst hcs
    subst hx
    simp only [if_true] at hz
    obtain ⟨bs, g1, g2⟩ := rd_of_ints (len := l) (by omega) hcell hwz
    refine ⟨some x, l, c, bs, rfl, g1, g2, hl, hm, fun hw => ?_⟩
    have h := hw ((zs.take l).length + (zs.drop l).length) (by
      simp only [DataW.weights, ht, List.mem_cons]
      left
      rw [hb]
      simp [lits])
    simp only [List.length_take, List.length_drop, reachBytes] at h
    omega

theorem open_ev {H : Type} {enc : TypeId × Value → H} {P : Program} {W : World} {t e fuel : Nat} {f0 f1 f2 f3 f4 : Field} (T : EvT P t f0 f1 f2 f3 f4 e) {cs : List Value} {x : DataW H × List MemPlace} (hf : DataW.trod enc P W 0 (fun _ => true) true fuel t cs = some x) :
    ∃ (k : Int) (A : Option Addr) (m c : Nat) (X Y b : Int) (bs : List UInt8), cs = [.int .i64 k, .slice A m c, .int .i64 X, .int .i64 Y, .int .i64 b] ∧ bs.length = m ∧ Rd W A (bs.map bv) ∧ m ≤ c ∧ c ≤ maxLen ∧ ((∀ n ∈ x.1.weights P t, n ≤ reachBytes) → m ≤ 140737488351232) := by
  obtain ⟨ys, n, _, rfl, hl, hlen, hg⟩ := DataW.trod_struct T.hs hf
  rw [T.hC] at hl
  obtain ⟨o0, k0⟩ := Deep.hone_of T.hone 0 f0 rfl
  obtain ⟨o1, k1⟩ := Deep.hone_of T.hone 1 f1 rfl
  obtain ⟨o2, k2⟩ := Deep.hone_of T.hone 2 f2 rfl
  obtain ⟨o3, k3⟩ := Deep.hone_of T.hone 3 f3 rfl
  obtain ⟨o4, k4⟩ := Deep.hone_of T.hone 4 f4 rfl
  match cs, hl, ys, hlen with
  | [u0, u1, u2, u3, u4], _, [y0, y1, y2, y3, y4], _ =>
    have g0 := hg 0 f0 rfl
    have g1 := hg 1 f1 rfl
    have g2 := hg 2 f2 rfl
    have g3 := hg 3 f3 rfl
    have g4 := hg 4 f4 rfl
    rw [o0, k0] at g0
    rw [o1, k1] at g1
    rw [o2, k2] at g2
    rw [o3, k3] at g3
    rw [o4, k4] at g4
    obtain ⟨a0, e0, _, _⟩ := DataW.trod_int T.h0 g0
    obtain ⟨a2, e2, _, _⟩ := DataW.trod_int T.h2 g2
    obtain ⟨a3, e3, _, _⟩ := DataW.trod_int T.h3 g3
    obtain ⟨a4, e4, _, _⟩ := DataW.trod_int T.h4 g4
    obtain ⟨A, m, c, bs, eu, q1, q2, q3, q4, q5⟩ := open_txt T.h1 T.he T.hc T.hb g1
    simp at e0 e2 e3 e4
    subst e0 e2 e3 e4 eu
    refine ⟨a0, A, m, c, a2, a3, a4, bs, rfl, q1, q2, q3, q4, fun hw => q5 (fun n hn => hw n ?_)⟩
    simp only [DataW.weights, T.hs]
    exact DataW.weights_mem_each (j := 1) (t := f1.type) (d := y1.1) (by simp) (by simp) n hn

theorem opn_ev {H : Type} {enc : TypeId × Value → H} {P : Program} {W : World} {base t e j : Nat} {f0 f1 f2 f3 f4 : Field} (T : EvT P t f0 f1 f2 f3 f4 e) {v : Value} {d : DataW H} {p : List MemPlace} {ts : List TypeId} {ds : List (DataW H)}
    (hv : Value.okWide P W .any base t v) (hj : DataW.Trod enc P W 0 (fun _ => true) true t v d p) (hsz : (DataW.weightsEach P ts ds).all (· ≤ reachBytes) = true) (k1 : ts[j]? = some t) (k2 : ds[j]? = some d) :
    ∃ (k : Int) (A : Option Addr) (n c : Nat) (x y b : Int) (bs : List UInt8), v = .agg #[.int .i64 k, .slice A n c, .int .i64 x, .int .i64 y, .int .i64 b] ∧ (bs.length = n ∧ Rd W A (bs.map bv) ∧ n ≤ c ∧ c ≤ maxLen ∧ n ≤ 140737488351232) := by
  obtain ⟨cs, rfl, hsz2⟩ := okWide_struct T.hs hv
  obtain ⟨fuel, hf⟩ := hj
  obtain ⟨k, A, m, c, x, y, b, bs, hcs, q1, q2, q3, q4, q5⟩ := open_ev T hf
  refine ⟨k, A, m, c, x, y, b, bs, ?_, q1, q2, q3, q4, q5 (fun n hn => ?_)⟩
  · congr 1
    apply Array.ext'
    simpa [Value.cells] using hcs
  · exact of_decide_eq_true (List.all_eq_true.1 hsz n (DataW.weights_mem_each k1 k2 n hn))

theorem opn_evs {H : Type} {enc : TypeId × Value → H} {P : Program} {W : World} {base t et e j : Nat} {f0 f1 f2 f3 f4 : Field} (ht : P.underlying t = some (.slice et)) (hB : P.bytesOf et = 56) (T : EvT P et f0 f1 f2 f3 f4 e) {v : Value} {d : DataW H} {p : List MemPlace} {ts : List TypeId} {ds : List (DataW H)}
    (hv : Value.okWide P W .any base t v) (hj : DataW.Trod enc P W 0 (fun _ => true) true t v d p) (hsz : (DataW.weightsEach P ts ds).all (· ≤ reachBytes) = true) (k1 : ts[j]? = some t) (k2 : ds[j]? = some d) :
    ∃ (A : Option Addr) (n c : Nat) (dv : List EvV) (es : List Ev), v = .slice A n c ∧ (es.length = n ∧ EvsR (· < W.heap.size) W A dv es ∧ n ≤ c ∧ c ≤ maxLen ∧ n ≤ 2513169434843) := by
  obtain ⟨a0, len, cap, rfl⟩ := okWide_slice ht hv
  obtain ⟨fuel, hf⟩ := hj
  rcases Deep.open_slice ht hf with ⟨hcs, _⟩ | ⟨a, l, c, m, n, D, Pl, hcs, _, hl, hm, hmm, hx, hcell⟩
  · simp [Value.cells] at hcs
    obtain ⟨rfl, rfl, rfl⟩ := hcs
    exact ⟨none, 0, 0, [], [], rfl, rfl, ⟨rfl, .inl rfl, fun _ a e => (by cases e), fun i h => absurd h (by simp)⟩, Nat.le_refl _, Nat.zero_le _, by decide⟩
  · simp [Value.cells] at hcs
    obtain ⟨rfl, rfl, rfl⟩ := hcs
    simp only [if_true] at hmm
    subst hmm
    simp only [Prod.mk.injEq] at hx
    obtain ⟨rfl, _⟩ := hx
    have hb := sized_slice hsz k1 k2 ht
    rw [hB] at hb
    simp only [List.length_map, List.length_range, reachBytes] at hb
    have each : ∀ i, i < len → ∃ z : EvV × Ev, (∀ q (hq : q < 5), W.cell? (a.add (i * 5 + q)) = (z.1.cells)[q]?) ∧ EvR (· < W.heap.size) W z.1 z.2 := by
      intro i hi
      obtain ⟨cs', g1, g2⟩ := hcell i (by omega)
      rw [T.hC] at g1
      obtain ⟨_, hlen, hg⟩ := World.cells?_some g1
      obtain ⟨k, A, m', c', x, y, b, bs, hcs, q1, q2, q3, q4, q5⟩ := open_ev T g2
      have hm' : m' ≤ 140737488351232 := q5 (fun n hn => of_decide_eq_true (List.all_eq_true.1 hsz n (DataW.weights_mem_each k1 k2 n (by
        simp only [DataW.weights, ht, List.mem_cons, List.mem_append]
        exact Or.inr (Or.inl (weightsAll_mem (List.mem_map.2 ⟨i, List.mem_range.2 hi, rfl⟩) n hn))))))
      refine ⟨(⟨k, A, m', c', x, y, b⟩, ⟨k, bs, x, y, b⟩), fun q hq => ?_, rfl, rfl, rfl, rfl, q1, q2, q3, q4, fun h0 a' e => ?_, (show m' ≤ 140737488355328 by omega)⟩
      · rw [← Deep.add_add]
        subst hcs
        have := hg q (by simpa using hq)
        rw [this]
        rfl
      · rcases q2 with h | ⟨b', off, rfl, hb', _⟩
        · have h0' : 0 < m' := h0
          have : bs = [] := by simpa using h
          rw [this, List.length_nil] at q1
          omega
        · injection e with e; subst e; exact hb'
    obtain ⟨zs, hz1, hz2⟩ := list_of_all len each
    have hcellz : ∀ i (hi : i < zs.length) q, q < 5 → W.cell? (a.add (i * 5 + q)) = (cellsV (zs.map (·.1)))[i * 5 + q]? := by
      intro i hi q hq
      rw [cellsV_get _ i (by simpa using hi) q hq, (hz2 i hi).1 q hq]
      simp
    have hblk : 0 < len → a.spot = none ∧ a.block < W.heap.size := by
      intro h0
      have h := hcellz 0 (by omega) 0 (by decide)
      have hc0 : (cellsV (zs.map (·.1)))[0 * 5 + 0]? ≠ none := by
        rw [List.getElem?_eq_getElem (by rw [cellsV_length, List.length_map]; omega)]
        simp
      have h2 : ∃ u, W.cell? a = some u := by
        have e1 : a.add (0 * 5 + 0) = a := by simp [Addr.add]
        rw [e1] at h
        rw [← h] at hc0
        exact Option.ne_none_iff_exists'.1 hc0
      obtain ⟨u, hu⟩ := h2
      exact ⟨World.cell?_spot hu, World.block_lt_of_cell? W a hu⟩
    refine ⟨some a, len, _, zs.map (·.1), zs.map (·.2), rfl, by simpa using hz1, ⟨by simp, ?_, fun h0 a' e => ?_, fun i h1 h2 => ?_⟩, hl, hm, by omega⟩
    · rcases Nat.eq_zero_or_pos len with h0 | h0
      · left
        have : zs = [] := List.eq_nil_of_length_eq_zero (by omega)
        rw [this]; rfl
      · obtain ⟨hsp, hlt⟩ := hblk h0
        obtain ⟨b, off, spot⟩ := a
        simp only at hsp
        subst hsp
        refine .inr ⟨b, off, rfl, hlt, fun k hk => ?_⟩
        have hk' : k < zs.length * 5 := by rw [cellsV_length] at hk; simpa using hk
        have h := hcellz (k / 5) (by omega) (k % 5) (Nat.mod_lt _ (by decide))
        rw [show k / 5 * 5 + k % 5 = k by omega, Addr.add_lit, List.getElem?_eq_getElem hk] at h
        exact h
    · injection e with e
      subst e
      exact (hblk (by rw [List.length_map] at h0; omega)).2
    · simp only [List.getElem_map]
      exact (hz2 i (by simpa using h1)).2
end Go.Proofs.Ytgnciejbhaebeaa

/- How a law's argument is opened: a list of items. Conditions: none. -/
namespace Go.Proofs.Ytgnciejbhaebeaa
open Go Go.RowKit Go.ChangeShapes Go.WideShapes

/-- The fields of an item's type (t: the type of a list of items). -/
structure ItT (P : Program) (t it : TypeId) (f0 f1 f2 f3 f4 : Field) (et e : TypeId) : Prop where
  ht : P.underlying t = some (.slice it)
  hs : P.underlying it = some (.struct #[f0, f1, f2, f3, f4])
  hone : Deep.oneCellFields P #[f0, f1, f2, f3, f4] = true
  hC : P.cellsOf it = 5
  hB : P.bytesOf it = 64
  h0 : P.underlying f0.type = some (.int .i64)
  h1 : P.underlying f1.type = some .bool
  h2 : P.underlying f2.type = some .bool
  h3 : f3.type = et
  h3' : P.underlying et = some (.slice e)
  h4 : f4.type = t
  he : P.underlying e = some (.int .u8)
  hc : P.cellsOf e = 1
  hb : P.bytesOf e = 1

/-- Items built from what is known at each place. -/
theorem fo_of_all {ok : Nat → Prop} {W : World} {b off len : Nat} (hb : b < W.heap.size) (hok : ok b)
    (h : ∀ i, i < len → ∃ (k : Int) (cr li : Bool) (At : Option Addr) (n c : Nat) (bs : List UInt8) (As : Option Addr) (d : Nat) (sub : Fo),
      (W.cell? ⟨b, off + i * 5, none⟩ = some (.int .i64 k) ∧ W.cell? ⟨b, off + i * 5 + 1, none⟩ = some (.bool cr) ∧ W.cell? ⟨b, off + i * 5 + 2, none⟩ = some (.bool li) ∧
       W.cell? ⟨b, off + i * 5 + 3, none⟩ = some (.slice At n c) ∧ W.cell? ⟨b, off + i * 5 + 4, none⟩ = some (.slice As sub.len d)) ∧
      TxtR ok W At n c bs ∧ FoR ok W As 0 sub ∧ sub.len ≤ d ∧ d ≤ maxLen ∧ sub.len ≤ 2199023255488) : ∀ (r i : Nat), i + r = len → ∃ f : Fo, f.len = r ∧ FoR ok W (some ⟨b, off, none⟩) i f
  | 0, i, _ => ⟨.nil, rfl, trivial⟩
  | r + 1, i, hi => by
    obtain ⟨k, cr, li, At, n, c, bs, As, d, sub, hc, ht, hsub, h1, h2, h3⟩ := h i (by omega)
    obtain ⟨f, e, hf⟩ := fo_of_all hb hok h r (i + 1) (by omega)
    exact ⟨.cons k cr li bs sub f, by rw [Fo.len, e], ⟨b, off, At, n, c, As, d, rfl, hb, hok, hc, ht, hsub, h1, h2, h3⟩, hf⟩

theorem open_fo {H : Type} {enc : TypeId × Value → H} {P : Program} {W : World} {t it et e : TypeId} {f0 f1 f2 f3 f4 : Field} (T : ItT P t it f0 f1 f2 f3 f4 et e) : ∀ (fuel : Nat) (u : Value) (x : DataW H × List MemPlace),
    DataW.trod enc P W 0 (fun _ => true) true fuel t [u] = some x → (∀ n ∈ x.1.weights P t, n ≤ reachBytes) →
    ∃ (A : Option Addr) (n c : Nat) (f : Fo), u = .slice A n c ∧ FoR (· < W.heap.size) W A 0 f ∧ f.len = n ∧ n ≤ c ∧ c ≤ maxLen ∧ n ≤ 2199023255488 := by
  intro fuel
  induction fuel using Nat.strongRecOn with
  | _ fuel ih =>
    intro u x hf hw
    rcases DataW.trod_slice T.ht hf with ⟨hcs, _⟩ | ⟨a, len, cap, elems, rest, n, hfu, hcs, hx, _, hl, hm, hlen, hel, hsp, _⟩
    · injection hcs with hcs _
      subst hcs
      exact ⟨none, 0, 0, .nil, rfl, trivial, rfl, Nat.le_refl _, Nat.zero_le _, by decide⟩
    · injection hcs with hcs _
      subst hcs
      subst hx
      obtain ⟨hrl, _⟩ := hsp rfl
      have hbd := hw _ (by simp only [DataW.weights, T.ht, List.mem_cons]; exact Or.inl rfl)
      rw [T.hB] at hbd
      simp only [List.length_map, reachBytes] at hbd
      have each : ∀ i, i < len → ∃ (k : Int) (cr li : Bool) (At : Option Addr) (n c : Nat) (bs : List UInt8) (As : Option Addr) (d : Nat) (sub : Fo),
          (W.cell? (a.add (i * 5 + 0)) = some (.int .i64 k) ∧ W.cell? (a.add (i * 5 + 1)) = some (.bool cr) ∧ W.cell? (a.add (i * 5 + 2)) = some (.bool li) ∧
           W.cell? (a.add (i * 5 + 3)) = some (.slice At n c) ∧ W.cell? (a.add (i * 5 + 4)) = some (.slice As sub.len d)) ∧
          TxtR (· < W.heap.size) W At n c bs ∧ FoR (· < W.heap.size) W As 0 sub ∧ sub.len ≤ d ∧ d ≤ maxLen ∧ sub.len ≤ 2199023255488 := by
        intro i hi
        have he := hel i hi
        have hi' : i < elems.length := by omega
        rw [List.getElem?_eq_getElem hi', T.hC, Option.bind_eq_some_iff] at he
        obtain ⟨cs', g1, g2⟩ := he
        obtain ⟨_, hlen5, hg⟩ := World.cells?_some g1
        obtain ⟨ys, n', hfu', hy, hl5, hlen', hgs⟩ := DataW.trod_struct T.hs g2
        rw [T.hC] at hl5
        obtain ⟨o0, k0⟩ := Deep.hone_of T.hone 0 f0 rfl
        obtain ⟨o1, k1⟩ := Deep.hone_of T.hone 1 f1 rfl
        obtain ⟨o2, k2⟩ := Deep.hone_of T.hone 2 f2 rfl
        obtain ⟨o3, k3⟩ := Deep.hone_of T.hone 3 f3 rfl
        obtain ⟨o4, k4⟩ := Deep.hone_of T.hone 4 f4 rfl
        match cs', hl5, ys, hlen' with
        | [u0, u1, u2, u3, u4], _, [y0, y1, y2, y3, y4], _ =>
          have q0 := hgs 0 f0 rfl
          have q1 := hgs 1 f1 rfl
          have q2 := hgs 2 f2 rfl
          have q3 := hgs 3 f3 rfl
          have q4 := hgs 4 f4 rfl
          rw [o0, k0] at q0
          rw [o1, k1] at q1
          rw [o2, k2] at q2
          rw [o3, k3, T.h3] at q3
          rw [o4, k4, T.h4] at q4
          have hwe : ∀ n ∈ (elems[i]).1.weights P it, n ≤ reachBytes := fun n hn => hw n (by
            simp only [DataW.weights, T.ht, List.mem_cons, List.mem_append]
            exact Or.inr (Or.inl (weightsAll_mem (List.mem_map.2 ⟨elems[i], List.getElem_mem _, rfl⟩) n hn)))
          rw [hy] at hwe
          have hwf : ∀ (j : Nat) (f : Field) (y : DataW H × List MemPlace), (#[f0, f1, f2, f3, f4] : Array Field)[j]? = some f → ([y0, y1, y2, y3, y4] : List (DataW H × List MemPlace))[j]? = some y → ∀ n ∈ y.1.weights P f.type, n ≤ reachBytes := by
            intro j f y hj hy' n hn
            refine hwe n ?_
            simp only [DataW.weights, T.hs]
            refine DataW.weights_mem_each (j := j) (t := f.type) (d := y.1) ?_ ?_ n hn
            · rw [List.getElem?_map]
              have : ([f0, f1, f2, f3, f4] : List Field)[j]? = some f := by simpa using hj
              show Option.map _ (([f0, f1, f2, f3, f4] : List Field)[j]?) = _
              rw [this]; rfl
            · rw [List.getElem?_map, hy']; rfl
          obtain ⟨a0, e0, _, _⟩ := DataW.trod_int T.h0 q0
          obtain ⟨a1, e1, _⟩ := DataW.trod_bool T.h1 q1
          obtain ⟨a2, e2, _⟩ := DataW.trod_bool T.h2 q2
          obtain ⟨At, m, c', bs, eu, r1, r2, r3, r4, r5⟩ := open_txt T.h3' T.he T.hc T.hb (show DataW.trod enc P W 0 (fun _ => true) true n' et [u3] = some y3 from q3)
          have hm' : m ≤ 140737488351232 := r5 (fun n hn => hwf 3 f3 y3 rfl rfl n (by rw [T.h3]; exact hn))
          obtain ⟨As, m2, d, sub, es, s1, s2, s3, s4, s5⟩ := ih n' (by omega) u4 y4 (show DataW.trod enc P W 0 (fun _ => true) true n' t [u4] = some y4 from q4) (fun n hn => hwf 4 f4 y4 rfl rfl n (by rw [T.h4]; exact hn))
          simp at e0 e1 e2
          subst e0 e1 e2 eu es s2
          have g : ∀ q (hq : q < 5), W.cell? (a.add (i * 5 + q)) = [Value.int .i64 a0, .bool a1, .bool a2, .slice At m c', .slice As sub.len d][q]? := fun q hq => by
            rw [← Deep.add_add]
            exact hg q (by simpa using hq)
          refine ⟨a0, a1, a2, At, m, c', bs, As, d, sub, ⟨g 0 (by decide), g 1 (by decide), g 2 (by decide), g 3 (by decide), g 4 (by decide)⟩, ⟨r1, r2, r3, r4, fun h0 a' e' => ?_, by omega⟩, s1, s3, s4, s5⟩
          rcases r2 with h | ⟨b', off, rfl, hb', _⟩
          · have h0' : 0 < m := h0
            have : bs = [] := by simpa using h
            rw [this, List.length_nil] at r1
            omega
          · injection e' with e'; subst e'; exact hb'
      rcases Nat.eq_zero_or_pos len with h0 | h0
      · subst h0
        exact ⟨some a, 0, cap, .nil, rfl, trivial, rfl, Nat.zero_le _, hm, Nat.zero_le _⟩
      · obtain ⟨k, _, _, _, _, _, _, _, _, _, ⟨hc0, _⟩, _⟩ := each 0 h0
        have e1 : a.add (0 * 5 + 0) = a := by simp [Addr.add]
        rw [e1] at hc0
        have hsp' := World.cell?_spot hc0
        have hlt := World.block_lt_of_cell? W a hc0
        obtain ⟨b, off, spot⟩ := a
        simp only at hsp' hlt
        subst hsp'
        have each' : ∀ i, i < len → ∃ (k : Int) (cr li : Bool) (At : Option Addr) (n c : Nat) (bs : List UInt8) (As : Option Addr) (d : Nat) (sub : Fo),
            (W.cell? ⟨b, off + i * 5, none⟩ = some (.int .i64 k) ∧ W.cell? ⟨b, off + i * 5 + 1, none⟩ = some (.bool cr) ∧ W.cell? ⟨b, off + i * 5 + 2, none⟩ = some (.bool li) ∧
             W.cell? ⟨b, off + i * 5 + 3, none⟩ = some (.slice At n c) ∧ W.cell? ⟨b, off + i * 5 + 4, none⟩ = some (.slice As sub.len d)) ∧
            TxtR (· < W.heap.size) W At n c bs ∧ FoR (· < W.heap.size) W As 0 sub ∧ sub.len ≤ d ∧ d ≤ maxLen ∧ sub.len ≤ 2199023255488 := by
          intro i hi
          obtain ⟨k, cr, li, At, n, c, bs, As, d, sub, ⟨g0, g1, g2, g3, g4⟩, r⟩ := each i hi
          rw [Addr.add_lit] at g0 g1 g2 g3 g4
          exact ⟨k, cr, li, At, n, c, bs, As, d, sub, ⟨g0, g1, g2, g3, g4⟩, r⟩
        obtain ⟨f, hf1, hf2⟩ := fo_of_all (ok := (· < W.heap.size)) hlt hlt each' len 0 (by omega)
        exact ⟨some ⟨b, off, none⟩, len, cap, f, rfl, hf2, hf1, hl, hm, by omega⟩
theorem opn_fo {H : Type} {enc : TypeId × Value → H} {P : Program} {W : World} {base t it et e j : Nat} {f0 f1 f2 f3 f4 : Field} (T : ItT P t it f0 f1 f2 f3 f4 et e) {v : Value} {d : DataW H} {p : List MemPlace} {ts : List TypeId} {ds : List (DataW H)}
    (hv : Value.okWide P W .any base t v) (hj : DataW.Trod enc P W 0 (fun _ => true) true t v d p) (hsz : (DataW.weightsEach P ts ds).all (· ≤ reachBytes) = true) (k1 : ts[j]? = some t) (k2 : ds[j]? = some d) :
    ∃ (A : Option Addr) (n c : Nat) (f : Fo), v = .slice A n c ∧ (FoR (· < W.heap.size) W A 0 f ∧ f.len = n ∧ n ≤ c ∧ c ≤ maxLen ∧ n ≤ 2199023255488) := by
  obtain ⟨a0, len, cap, rfl⟩ := okWide_slice T.ht hv
  obtain ⟨fuel, hf⟩ := hj
  have hf' : DataW.trod enc P W 0 (fun _ => true) true fuel t [.slice a0 len cap] = some (d, p) := by
    simpa [Value.cells] using hf
  obtain ⟨A, n, c, f, e1, r⟩ := open_fo T fuel _ _ hf' (fun n hn => of_decide_eq_true (List.all_eq_true.1 hsz n (DataW.weights_mem_each k1 k2 n hn)))
  exact ⟨A, n, c, f, e1, r⟩
end Go.Proofs.Ytgnciejbhaebeaa

/- The walk of the law TlvPicks: it returns true. Conditions: the row's own. -/
namespace Go.Proofs.Ytgnciejbhaebeaa
open Go Go.RowKit

/-- A literal of one item. -/
theorem lit_fo {ok : Nat → Prop} {w : World} {d : ItV} {T : Fo} (h : ItsR ok w [d] T) (hok : ok w.heap.size) (hT : T.size = T.size) : FoR ok (w.alloc (.cells d.cells.toArray 95)) (some ⟨w.heap.size, 0, none⟩) 0 T := by
  have hb : Below w.heap.size w (w.alloc (.cells d.cells.toArray 95)) := (Below.refl _ _).alloc (Nat.le_refl _) _
  refine FoR.of_row (by simp) hok T [d] 0 (fun k hk => ?_) (ItsR.frame (fun j _ hj => hb.block j hj) hb.size T _ h)
  rw [Nat.zero_mul, Nat.add_zero, Nat.zero_add, heap_cell (heap_alloc_new w _)]
  have e : cellsI [d] = d.cells := by simp [cellsI]
  simp only [e, List.getElem?_toArray]
  simp only [e] at hk
  rw [List.getElem?_eq_getElem hk]
theorem lit_ft {ok : Nat → Prop} {w : World} {d : ItV} {T : Fo} (h : ItsO ok w [d] T) (hok : ok w.heap.size) : FoT ok (w.alloc (.cells d.cells.toArray 95)) (some ⟨w.heap.size, 0, none⟩) 0 T := by
  have hb : Below w.heap.size w (w.alloc (.cells d.cells.toArray 95)) := (Below.refl _ _).alloc (Nat.le_refl _) _
  refine FoT.of_row hok (fun j => heap_free (heap_alloc_new w _) j) T [d] 0 (fun k hk => ?_) (ItsO.frame (fun j _ hj => hb.block j hj) T _ h)
  rw [Nat.zero_mul, Nat.zero_add, heap_cell (heap_alloc_new w _)]
  have e : cellsI [d] = d.cells := by simp [cellsI]
  simp only [e, List.getElem?_toArray]
  simp only [e] at hk
  rw [List.getElem?_eq_getElem hk]
theorem getI_len (x : Int) : ∀ (f : Fo), (getI x f).len = 1
  | .nil => rfl
  | .cons k _ _ _ _ rest => by
    rw [getI]; split
    · rfl
    · exact getI_len x rest
set_option maxRecDepth 100000 in
set_option maxHeartbeats 8000000 in
theorem TlvPicks_walk (w : World) (A : Option Addr) (n c : Nat) (f : Fo) (hr : FoR (· < w.heap.size) w A 0 f ∧ f.len = n ∧ n ≤ c ∧ c ≤ maxLen ∧ n ≤ 2199023255488)
    (Ak : Option Addr) (nk ck : Nat) (ks : List Int) (hk : ks.length = nk ∧ RdI w Ak ks ∧ nk ≤ ck ∧ ck ≤ maxLen ∧ nk * 8 ≤ 140737488351232 ∧ ∀ z ∈ ks, (Lit.int .i64 z).wf = true) (x : Int) (_ : (Lit.int .i64 x).wf = true) :
    Calls Try.prog 13 #[.slice A n c, .slice Ak nk ck, .int .i64 x] w fun r w' => r = .returned (.bool true) ∧ Below w.heap.size w w' := by
  obtain ⟨h1, hn, hc, hm, hl⟩ := hr
  obtain ⟨k1, k2, k3, k4, k5, -⟩ := hk
  have H1 := Lib.hid h1
  have HN := Lib.hid hn
  have HK1 := Lib.hid k1
  have HK2 := Lib.hid k2
  have hkb : nk ≤ 140737488355328 := by omega
  have rdi : ∀ w', Below w.heap.size w w' → RdI w' Ak ks := fun w' hb => by
    rcases k2 with h | ⟨b, off, h1, h2, h3⟩
    · exact .inl h
    · exact .inr ⟨b, off, h1, Nat.lt_of_lt_of_le h2 hb.size, fun k hk => (hb.cell (p := ⟨b, off + k, none⟩) h2).trans (h3 k hk)⟩
  have RDI := Lib.hid rdi
  clear h1 hn hc hm k1 k2 k3 k4 k5 rdi
  go_enter Try.func13, Try.ntmps13
  go_wp2_with (fail)
  refine (Small_c f _ A n c w HN.out H1.out hl).mono ?_
  rintro _ w1 ⟨b, rfl, hb, hk1⟩
  have K1 := Lib.hid hk1
  have HB := Lib.hid hb
  clear hk1 hb
  cases b with
  | false =>
    go_wp2_with (fail)
    refine (fixedT_c w1).mono ?_
    rintro _ w2 ⟨rfl, hk2⟩
    have K2 := Lib.hid (K1.out.trans (hk2.mono K1.out.size))
    clear hk2
    go_wp2_with (fail)
    go_ret
    exact ⟨rfl, K2.out⟩
  | true =>
    by_cases hbig : 1000 < nk
    · have hbig' : (1000 : Int) < (nk : Int) := by omega
      clear hbig
      go_wp2_with (fail)
      refine (fixedT_c w1).mono ?_
      rintro _ w2 ⟨rfl, hk2⟩
      have K2 := Lib.hid (K1.out.trans (hk2.mono K1.out.size))
      clear hk2
      go_wp2_with (fail)
      go_ret
      exact ⟨rfl, K2.out⟩
    · have hbig' : (nk : Int) ≤ 1000 := by omega
      clear hbig
      obtain ⟨sz, -⟩ := HB.out rfl
      have hn4 : n ≤ 400 := by have := Fo.len_le f; have := HN.out; omega
      have HSZ := Lib.hid sz
      clear sz
      obtain ⟨PT, hPT⟩ : ∃ PT, PT = pickT ks f := ⟨_, rfl⟩
      obtain ⟨e, he⟩ : ∃ e, e = PT.1 := ⟨_, rfl⟩
      obtain ⟨L, hL⟩ : ∃ L, L = PT.2 := ⟨_, rfl⟩
      obtain ⟨m, hm⟩ : ∃ m, L.len = m := ⟨_, rfl⟩
      have hm4 : m ≤ 400 := by
        rw [← hm, hL, hPT, pickT]
        split
        · simp [Fo.len]
        · have := pickF_len ks f; have := HN.out; show (pickF ks f).len ≤ 400; omega
      obtain ⟨B, hB⟩ : ∃ B, B = hasI x f := ⟨_, rfl⟩
      obtain ⟨T, hT⟩ : ∃ T, T = getI x f := ⟨_, rfl⟩
      have hT1 : T.len = 1 := by rw [hT]; exact getI_len x f
      have HPT := Lib.hid hPT
      have HE := Lib.hid he
      have HL := Lib.hid hL
      have HM := Lib.hid hm
      have HBB := Lib.hid hB
      have HT := Lib.hid hT
      have HT1 := Lib.hid hT1
      clear hPT he hL hm hB hT hT1
      go_wp2_with (fail)
      refine (Copy02_c f.size f rfl _ A n c w1 HN.out (H1.out.below K1.out) hl).mono ?_
      rintro _ w2 ⟨v2, rfl, ho2, hk2⟩
      have ho2' : FoO (fun j => w1.heap.size ≤ j ∧ j < w2.heap.size) w2 v2 f := ho2.weak (fun j hj hl => ⟨hj, hl⟩)
      obtain ⟨A2, c2, rfl, -, -, r2⟩ := ho2'.form HN.out
      have K2 := Lib.hid (K1.out.trans (hk2.mono K1.out.size))
      have R2 := Lib.hid r2
      clear ho2 ho2' hk2 r2
      go_wp2_with (fail)
      refine (Pick_c f _ A2 n c2 Ak nk ck ks w2 HN.out R2.out (by have := HSZ.out; omega) HK1.out (RDI.out _ K2.out) hkb).mono ?_
      rintro _ w3 ⟨v3, rfl, ho3, hk3⟩
      rw [← HPT.out] at ho3 ⊢
      rw [← HE.out]
      rw [← HL.out] at ho3
      have ho3' : FoO (fun j => w2.heap.size ≤ j ∧ j < w3.heap.size) w3 v3 L := ho3.weak (fun j hj hl => ⟨hj, hl⟩)
      obtain ⟨A3, c3, rfl, -, -, -⟩ := ho3'.form HM.out
      have K3 := Lib.hid (K2.out.trans (hk3.mono K2.out.size))
      have R23 := Lib.hid (R2.out.below hk3)
      have HO3 := Lib.hid ho3'
      have Z23 := Lib.hid hk3.size
      clear ho3 ho3' hk3
      go_wp2_with (fail)
      refine (refPick_c f _ A n c Ak nk ck ks w3 HN.out (H1.out.below K3.out) (by omega) HK1.out (RDI.out _ K3.out) hkb).mono ?_
      rintro _ w4 ⟨v4, rfl, ho4, hk4⟩
      rw [← HPT.out] at ho4 ⊢
      rw [← HE.out]
      rw [← HL.out] at ho4
      obtain ⟨A4, c4, rfl, -, -, r4⟩ := ho4.form HM.out
      have K4 := Lib.hid (K3.out.trans (hk4.mono K3.out.size))
      have R24 := Lib.hid (R23.out.below hk4)
      have HO34 := Lib.hid (HO3.out.below hk4)
      have R4 := Lib.hid r4
      have Z34 := Lib.hid hk4.size
      clear ho4 hk4 r4
      go_wp2_with (fail)
      refine (Get_c f _ A2 n c2 x w4 HN.out R24.out (by have := HSZ.out; omega)).mono ?_
      rintro _ w5 ⟨⟨dk, dc, dl, dA, dn, dcc, dAs, dns, dcs⟩, rfl, ho5, hk5⟩
      rw [← HBB.out]
      rw [← HT.out] at ho5
      unfold ItV.val
      dsimp only
      obtain ⟨w5a, ew5a⟩ : ∃ w5a, w5a = w5.alloc (.cells #[.int .i64 dk, .bool dc, .bool dl, .slice dA dn dcc, .slice dAs dns dcs] 95) := ⟨_, rfl⟩
      obtain ⟨gx, egx⟩ : ∃ gx, gx = w5.heap.size := ⟨_, rfl⟩
      have b5 : Below w5.heap.size w5 w5a := by rw [ew5a]; exact (Below.refl _ _).alloc (Nat.le_refl _) _
      have hx5 : w5a.heap[gx]? = some (.cells (ItV.cells ⟨dk, dc, dl, dA, dn, dcc, dAs, dns, dcs⟩).toArray 95 (0, 0)) := by rw [ew5a, egx]; exact heap_alloc_new _ _
      have b45 : Below w4.heap.size w4 w5a := hk5.trans (b5.mono hk5.size)
      have K5 := Lib.hid (K4.out.trans (b45.mono K4.out.size))
      have R25 := Lib.hid (R24.out.below b45)
      have HO35 := Lib.hid (HO34.out.below b45)
      have R45 := Lib.hid (R4.out.below b45)
      have X5 := Lib.hid (ItsO.frame (w' := w5a) (fun j _ hj => b5.block j hj) T _ ho5)
      have HX5 := Lib.hid hx5
      have Z4x : Hid (w4.heap.size ≤ gx) := Lib.hid (by rw [egx]; exact hk5.size)
      have EW5 := Lib.hid ew5a
      have EGX := Lib.hid egx
      clear ho5 hk5 b5 b45 ew5a egx hx5
      go_upto_region 7 with (fail)
      rw [← EW5.out, ← EGX.out]
      go_wp2_with (fail)
      refine (refGet_c f _ A n c x w5a HN.out (H1.out.below K5.out) hl).mono ?_
      rintro _ w6 ⟨⟨yk, yc, yl, yA, yn, ycc, yAs, yns, ycs⟩, rfl, ho6, hk6⟩
      rw [← HBB.out]
      rw [← HT.out] at ho6
      unfold ItV.val
      dsimp only
      obtain ⟨w6a, ew6a⟩ : ∃ w6a, w6a = w6.alloc (.cells #[.int .i64 yk, .bool yc, .bool yl, .slice yA yn ycc, .slice yAs yns ycs] 95) := ⟨_, rfl⟩
      obtain ⟨gy, egy⟩ : ∃ gy, gy = w6.heap.size := ⟨_, rfl⟩
      have b6 : Below w6.heap.size w6 w6a := by rw [ew6a]; exact (Below.refl _ _).alloc (Nat.le_refl _) _
      have hy6 : w6a.heap[gy]? = some (.cells (ItV.cells ⟨yk, yc, yl, yA, yn, ycc, yAs, yns, ycs⟩).toArray 95 (0, 0)) := by rw [ew6a, egy]; exact heap_alloc_new _ _
      have b56 : Below w5a.heap.size w5a w6a := hk6.trans (b6.mono hk6.size)
      have K6 := Lib.hid (K5.out.trans (b56.mono K5.out.size))
      have R26 := Lib.hid (R25.out.below b56)
      have HO36 := Lib.hid (HO35.out.below b56)
      have R46 := Lib.hid (R45.out.below b56)
      have X6 := Lib.hid (ItsO.frame (w' := w6a) (fun j _ hj => b56.block j hj) T _ X5.out)
      have HX6 := Lib.hid ((b56.block gx (heap_lt HX5.out)).trans HX5.out)
      have Y6 := Lib.hid (ItsR.frame (w' := w6a) (fun j _ hj => b6.block j hj) b6.size T _ ho6)
      have HY6 := Lib.hid hy6
      have EW6 := Lib.hid ew6a
      have EGY := Lib.hid egy
      clear ho6 hk6 b6 b56 ew6a egy hy6 X5 HX5
      go_upto_region 8 with (fail)
      rw [← EW6.out, ← EGY.out]
      go_wp2_with (fail)
      refine (fixedT_c w6a).mono ?_
      rintro _ w7 ⟨rfl, hk7⟩
      have K7 := Lib.hid (K6.out.trans (hk7.mono K6.out.size))
      have R27 := Lib.hid (R26.out.below hk7)
      have HO37 := Lib.hid (HO36.out.below hk7)
      have R47 := Lib.hid (R46.out.below hk7)
      have X7 := Lib.hid (ItsO.frame (w' := w7) (fun j _ hj => hk7.block j hj) T _ X6.out)
      have Y7 := Lib.hid (ItsR.frame (w' := w7) (fun j _ hj => hk7.block j hj) hk7.size T _ Y6.out)
      have HX7 := Lib.hid ((hk7.block gx (heap_lt HX6.out)).trans HX6.out)
      have HY7 := Lib.hid ((hk7.block gy (heap_lt HY6.out)).trans HY6.out)
      have cc : ((e : Int) != (e : Int)) = false := by simp
      have cb : (B != B) = false := by simp
      obtain ⟨A3', c3', ev3, -, -, r37⟩ := HO37.out.form HM.out
      injection ev3 with ev3 ev4 ev5
      rw [← ev3] at r37
      have R37 := Lib.hid r37
      clear hk7 X6 Y6 HX6 HY6 HO36 ev3 ev4 ev5 r37
      go_wp2_with (fail)
      refine (Same02_t L.size L (Nat.le_refl _) _ _ A3 A4 m c3 c4 w7 HM.out R37.out R47.out (by omega)).mono ?_
      rintro _ w8 ⟨rfl, q8, rfl⟩
      obtain ⟨⟨x0, x1, x2, x3, x4⟩, -⟩ := five_of HX7.out
      obtain ⟨⟨y0, y1, y2, y3, y4⟩, -⟩ := five_of HY7.out
      dsimp only at x0 x1 x2 x3 x4 y0 y1 y2 y3 y4
      have hgyl : gy < w7.heap.size := heap_lt HY7.out
      obtain ⟨w9, ew9⟩ : ∃ w9, w9 = ((w7.drewN q8).alloc (.cells #[.int .i64 dk, .bool dc, .bool dl, .slice dA dn dcc, .slice dAs dns dcs] 95)).alloc (.cells #[.int .i64 yk, .bool yc, .bool yl, .slice yA yn ycc, .slice yAs yns ycs] 95) := ⟨_, rfl⟩
      have hs8 : ((w7.drewN q8).alloc (.cells #[.int .i64 dk, .bool dc, .bool dl, .slice dA dn dcc, .slice dAs dns dcs] 95)).heap.size = w7.heap.size + 1 := by simp
      have ba : Below w7.heap.size (w7.drewN q8) ((w7.drewN q8).alloc (.cells #[.int .i64 dk, .bool dc, .bool dl, .slice dA dn dcc, .slice dAs dns dcs] 95)) := (Below.refl (w7.drewN q8).heap.size (w7.drewN q8)).alloc (Nat.le_refl _) _
      obtain ⟨⟨yy0, yy1, yy2, yy3, yy4⟩, -⟩ := five_of ((ba.block gy hgyl).trans HY7.out)
      dsimp only at yy0 yy1 yy2 yy3 yy4
      have b9 : Below w7.heap.size w7 w9 := by rw [ew9]; exact ((below_drewN (Below.refl _ _) q8).trans ba).alloc (by simp) _
      have rx : FoR (w4.heap.size ≤ ·) ((w7.drewN q8).alloc (.cells #[.int .i64 dk, .bool dc, .bool dl, .slice dA dn dcc, .slice dAs dns dcs] 95)) (some ⟨w7.heap.size, 0, none⟩) 0 T :=
        lit_fo (w := w7.drewN q8) (d := ⟨dk, dc, dl, dA, dn, dcc, dAs, dns, dcs⟩) (ItsR.frame (w := w7) (w' := w7.drewN q8) (fun j _ _ => rfl) (Nat.le_refl _) T _ X7.out.r) (by have := Z4x.out; have := heap_lt HX7.out; show w4.heap.size ≤ w7.heap.size; omega) rfl
      have rx9 : FoR (w4.heap.size ≤ ·) w9 (some ⟨w7.heap.size, 0, none⟩) 0 T := by rw [ew9]; exact rx.below ((Below.refl _ _).alloc (Nat.le_refl _) _)
      have ry9 : FoR (fun _ => True) w9 (some ⟨w7.heap.size + 1, 0, none⟩) 0 T := by
        rw [ew9, ← hs8]
        exact lit_fo (d := ⟨yk, yc, yl, yA, yn, ycc, yAs, yns, ycs⟩) (ItsR.frame (w := w7) (fun j _ hj => ba.block j hj) (by simp) T _ Y7.out) trivial rfl
      have K9 := Lib.hid (K7.out.trans (b9.mono K7.out.size))
      have R29 := Lib.hid (R27.out.below b9)
      have HO39 := Lib.hid (HO37.out.below b9)
      have X9 := Lib.hid (ItsO.frame (w' := w9) (fun j _ hj => b9.block j hj) T _ X7.out)
      have HX9 := Lib.hid ((b9.block gx (heap_lt HX7.out)).trans HX7.out)
      have RX9 := Lib.hid rx9
      have RY9 := Lib.hid ry9
      have EW9 := Lib.hid ew9
      clear ew9 hs8 ba b9 rx rx9 ry9 X7 Y7 HX7 HY7 HO37
      go_wp2_with (fail)
      rw [← EW9.out]
      refine (Same02_t T.size T (Nat.le_refl _) _ _ _ _ 1 1 1 w9 HT1.out RX9.out RY9.out (by omega)).mono ?_
      rintro _ w10 ⟨rfl, q10, rfl⟩
      have FT := Lib.hid ((HO39.out.below (below_drewN (Below.refl _ _) q10)).turn)
      clear x0 x1 x2 x3 x4 y0 y1 y2 y3 y4 yy0 yy1 yy2 yy3 yy4
      go_wp2_with (fail)
      refine (Turn02_c L.size L rfl _ A3 m c3 (w9.drewN q10) HM.out FT.out (by omega)).mono ?_
      rintro _ w11 ⟨rfl, hk11, -⟩
      have ks : Keeps (fun j => w2.heap.size ≤ j ∧ j < w3.heap.size) w9 w11 := ((Keeps.refl _ w9).drewN q10).trans hk11
      have K11 : Hid (Below w.heap.size w w11) := Lib.hid (K9.out.trans (ks.below (fun j hj => ⟨Nat.lt_of_lt_of_le hj K9.out.size, fun e => by have := K2.out.size; omega⟩)))
      have R211 : Hid (FoR (fun j => w1.heap.size ≤ j ∧ j < w2.heap.size) w11 A2 0 f) := Lib.hid (FoR.frame (fun j hj hl => ks.block j hl (fun e => by omega)) ks.size f A2 0 R29.out)
      have X11 := Lib.hid (ItsO.frame (w' := w11) (fun j hj hl => ks.block j hl (fun e => by have : w4.heap.size ≤ j := hj; have := Z34.out; omega)) T _ X9.out)
      have hx11 := (ks.block gx (heap_lt HX9.out) (fun e => by have := Z4x.out; have := Z34.out; omega)).trans HX9.out
      obtain ⟨⟨x0, x1, x2, x3, x4⟩, -⟩ := five_of hx11
      dsimp only at x0 x1 x2 x3 x4
      have Z11 : Hid (w4.heap.size ≤ w11.heap.size) := Lib.hid (by have := heap_lt hx11; have := Z4x.out; omega)
      have ft12 : FoT (w4.heap.size ≤ ·) (w11.alloc (.cells #[.int .i64 dk, .bool dc, .bool dl, .slice dA dn dcc, .slice dAs dns dcs] 95)) (some ⟨w11.heap.size, 0, none⟩) 0 T := lit_ft (d := ⟨dk, dc, dl, dA, dn, dcc, dAs, dns, dcs⟩) X11.out Z11.out
      have FT12 := Lib.hid ft12
      have b12 : Below w11.heap.size w11 (w11.alloc (.cells #[.int .i64 dk, .bool dc, .bool dl, .slice dA dn dcc, .slice dAs dns dcs] 95)) := (Below.refl _ _).alloc (Nat.le_refl _) _
      have K12 := Lib.hid (K11.out.trans (b12.mono K11.out.size))
      have R212 := Lib.hid (R211.out.below b12)
      clear hk11 ks hx11 ft12 b12
      go_wp2_with (fail)
      refine (Turn02_c T.size T rfl _ _ 1 1 _ HT1.out FT12.out (by omega)).mono ?_
      rintro _ w13 ⟨rfl, hk13, -⟩
      have Z24 : Hid (w2.heap.size ≤ w4.heap.size ∧ w.heap.size ≤ w4.heap.size) := Lib.hid ⟨by have := Z23.out; have := Z34.out; omega, K4.out.size⟩
      have K13 : Hid (Below w.heap.size w w13) := Lib.hid (K12.out.trans (hk13.below (fun j hj => ⟨Nat.lt_of_lt_of_le hj K12.out.size, fun e => by have : w4.heap.size ≤ j := e; have := Z24.out.2; omega⟩)))
      have R213 : Hid (FoR (fun j => w1.heap.size ≤ j ∧ j < w2.heap.size) w13 A2 0 f) := Lib.hid (FoR.frame (fun j hj hl => hk13.block j hl (fun e => by have : w4.heap.size ≤ j := e; have := Z24.out.1; omega)) hk13.size f A2 0 R212.out)
      have RL13 := Lib.hid (H1.out.below K13.out)
      clear hk13 x0 x1 x2 x3 x4
      go_wp2_with (fail)
      refine (Same02_t f.size f (Nat.le_refl _) _ _ A2 A n c2 c w13 HN.out R213.out RL13.out hl).mono ?_
      rintro _ w14 ⟨rfl, q14, rfl⟩
      go_wp2_with (fail)
      go_ret
      exact ⟨rfl, below_drewN K13.out q14⟩
end Go.Proofs.Ytgnciejbhaebeaa

/- How a law's argument is opened: an item by value. Conditions: none. -/
namespace Go.Proofs.Ytgnciejbhaebeaa
open Go Go.RowKit Go.ChangeShapes Go.WideShapes

theorem open_it {H : Type} {enc : TypeId × Value → H} {P : Program} {W : World} {t it et e fuel : TypeId} {f0 f1 f2 f3 f4 : Field} (T : ItT P t it f0 f1 f2 f3 f4 et e) {cs : List Value} {x : DataW H × List MemPlace} (hf : DataW.trod enc P W 0 (fun _ => true) true fuel it cs = some x) (hwe : ∀ n ∈ x.1.weights P it, n ≤ reachBytes) :
    ∃ (k : Int) (cr li : Bool) (A : Option Addr) (n c : Nat) (bs : List UInt8) (As : Option Addr) (ns d : Nat) (sub : Fo), cs = [.int .i64 k, .bool cr, .bool li, .slice A n c, .slice As ns d] ∧
      (TxtR (· < W.heap.size) W A n c bs ∧ FoR (· < W.heap.size) W As 0 sub ∧ sub.len = ns ∧ ns ≤ d ∧ d ≤ maxLen ∧ ns ≤ 2199023255488) := by
  obtain ⟨ys, n', _, hy, hl5, hlen', hgs⟩ := DataW.trod_struct T.hs hf
  rw [T.hC] at hl5
  obtain ⟨o0, k0⟩ := Deep.hone_of T.hone 0 f0 rfl
  obtain ⟨o1, k1⟩ := Deep.hone_of T.hone 1 f1 rfl
  obtain ⟨o2, k2⟩ := Deep.hone_of T.hone 2 f2 rfl
  obtain ⟨o3, k3⟩ := Deep.hone_of T.hone 3 f3 rfl
  obtain ⟨o4, k4⟩ := Deep.hone_of T.hone 4 f4 rfl
  match cs, hl5, ys, hlen' with
  | [u0, u1, u2, u3, u4], _, [y0, y1, y2, y3, y4], _ =>
    have q0 := hgs 0 f0 rfl
    have q1 := hgs 1 f1 rfl
    have q2 := hgs 2 f2 rfl
    have q3 := hgs 3 f3 rfl
    have q4 := hgs 4 f4 rfl
    rw [o0, k0] at q0
    rw [o1, k1] at q1
    rw [o2, k2] at q2
    rw [o3, k3, T.h3] at q3
    rw [o4, k4, T.h4] at q4
    rw [hy] at hwe
    have hwf : ∀ (j : Nat) (f : Field) (y : DataW H × List MemPlace), (#[f0, f1, f2, f3, f4] : Array Field)[j]? = some f → ([y0, y1, y2, y3, y4] : List (DataW H × List MemPlace))[j]? = some y → ∀ n ∈ y.1.weights P f.type, n ≤ reachBytes := by
      intro j f y hj hy' n hn
      refine hwe n ?_
      simp only [DataW.weights, T.hs]
      refine DataW.weights_mem_each (j := j) (t := f.type) (d := y.1) ?_ ?_ n hn
      · rw [List.getElem?_map]
        have : ([f0, f1, f2, f3, f4] : List Field)[j]? = some f := by simpa using hj
        show Option.map _ (([f0, f1, f2, f3, f4] : List Field)[j]?) = _
        rw [this]; rfl
      · rw [List.getElem?_map, hy']; rfl
    obtain ⟨a0, e0, _, _⟩ := DataW.trod_int T.h0 q0
    obtain ⟨a1, e1, _⟩ := DataW.trod_bool T.h1 q1
    obtain ⟨a2, e2, _⟩ := DataW.trod_bool T.h2 q2
    obtain ⟨At, m, c', bs, eu, r1, r2, r3, r4, r5⟩ := open_txt T.h3' T.he T.hc T.hb (show DataW.trod enc P W 0 (fun _ => true) true n' et [u3] = some y3 from q3)
    have hm' : m ≤ 140737488351232 := r5 (fun n hn => hwf 3 f3 y3 rfl rfl n (by rw [T.h3]; exact hn))
    obtain ⟨As, m2, d, sub, es, s1, s2, s3, s4, s5⟩ := open_fo T n' u4 y4 (show DataW.trod enc P W 0 (fun _ => true) true n' t [u4] = some y4 from q4) (fun n hn => hwf 4 f4 y4 rfl rfl n (by rw [T.h4]; exact hn))
    simp at e0 e1 e2
    subst e0 e1 e2 eu es
    refine ⟨a0, a1, a2, At, m, c', bs, As, m2, d, sub, rfl, ⟨r1, r2, r3, r4, fun h0 a' e' => ?_, by omega⟩, s1, s2, s3, s4, s5⟩
    rcases r2 with h | ⟨b', off, rfl, hb', _⟩
    · have h0' : 0 < m := h0
      have : bs = [] := by simpa using h
      rw [this, List.length_nil] at r1
      omega
    · injection e' with e'; subst e'; exact hb'
theorem opn_it {H : Type} {enc : TypeId × Value → H} {P : Program} {W : World} {base t it et e j : Nat} {f0 f1 f2 f3 f4 : Field} (T : ItT P t it f0 f1 f2 f3 f4 et e) {v : Value} {d : DataW H} {p : List MemPlace} {ts : List TypeId} {ds : List (DataW H)}
    (hv : Value.okWide P W .any base it v) (hj : DataW.Trod enc P W 0 (fun _ => true) true it v d p) (hsz : (DataW.weightsEach P ts ds).all (· ≤ reachBytes) = true) (k1 : ts[j]? = some it) (k2 : ds[j]? = some d) :
    ∃ (k : Int) (cr li : Bool) (A : Option Addr) (n c : Nat) (bs : List UInt8) (As : Option Addr) (ns cs : Nat) (sub : Fo), v = .agg #[.int .i64 k, .bool cr, .bool li, .slice A n c, .slice As ns cs] ∧
      (TxtR (· < W.heap.size) W A n c bs ∧ FoR (· < W.heap.size) W As 0 sub ∧ sub.len = ns ∧ ns ≤ cs ∧ cs ≤ maxLen ∧ ns ≤ 2199023255488) := by
  obtain ⟨cs, rfl, hsz2⟩ := okWide_struct T.hs hv
  obtain ⟨fuel, hf⟩ := hj
  obtain ⟨k, cr, li, A, m, c, bs, As, ns, d', sub, hcs, r⟩ := open_it T hf (fun n hn => of_decide_eq_true (List.all_eq_true.1 hsz n (DataW.weights_mem_each k1 k2 n hn)))
  refine ⟨k, cr, li, A, m, c, bs, As, ns, d', sub, ?_, r⟩
  congr 1
  apply Array.ext'
  simpa [Value.cells] using hcs
end Go.Proofs.Ytgnciejbhaebeaa
