/- Parts one behind the other: What the reference's row answers; What the reference's Small answers: true only of few items whose bytes are few; The faults of a row of items, in plain words; What the closure within tlv.Check answers: the first fault of a list, and how many items were gone through; What tlv.Check answers. Conditions: as told at each. -/
import Derived.Test.YtcffinkkfdfcaaaPB1
import Derived.Test.YtcffinkkfdfcaaaPB3
import Derived.Laws.EntriesVeiled

set_option linter.unusedVariables false
set_option linter.unusedSimpArgs false
/- What the reference's row answers. Conditions: depth 1 to 5; from -1 to 400 wanted. -/
namespace Go.Proofs.Ytcffinkkfdfcaaa
open Go Go.RowKit
theorem rd_en (w : World) (x : EnV) (t : TypeId) : Rd (w.alloc (.cells #[.int .i64 x.k, .bool x.cr, .bool x.li, .slice x.A x.nb x.cb, .slice x.As x.ns x.cs, .int .i64 x.d, .int .i64 x.ah] t)) (some ⟨w.heap.size, 0, none⟩) (cellsE [x]) := by
  refine .inr ⟨w.heap.size, 0, rfl, by simp, fun j hj => ?_⟩
  rw [cell_of_row _ _ _ _ _ (0, 0) (heap_alloc_new w _)]
  rw [cellsE_length] at hj
  simp only [List.length_singleton] at hj
  have e : cellsE [x] = x.cells := by simp [cellsE]
  simp only [e, Nat.zero_add]
  have : j < 7 := by omega
  match j, this with
  | 0, _ => rfl
  | 1, _ => rfl
  | 2, _ => rfl
  | 3, _ => rfl
  | 4, _ => rfl
  | 5, _ => rfl
  | 6, _ => rfl
set_option maxRecDepth 100000 in
set_option maxHeartbeats 4000000 in
theorem row_c : ∀ (M : Nat) (f : Fo), f.size = M → ∀ (d m : Int), 1 ≤ d → d ≤ 5 → -1 ≤ m → m ≤ 400 → ∀ (ok : Nat → Prop) (A : Option Addr) (n c : Nat) (w : World), f.len = n → FoR ok w A 0 f → n ≤ 2199023255488 →
    Calls Try.prog 58 #[.slice A n c, .int .i64 d, .int .i64 m] w fun r w' => ∃ v ds, r = .returned v ∧ OwnE w' w.heap.size v ds ∧ ds.map EnV.en = rowR f d m ∧ Below w.heap.size w w' := by
  intro M
  induction M using Nat.strongRecOn with
  | _ M ih =>
    intro f hM d m hd1 hd5 hm1 hm4 ok A n c w hn h1 hl
    have IH := Lib.hid ih; clear ih
    have HN := Lib.hid hn; clear hn
    have H1 := Lib.hid h1; clear h1
    have HM := Lib.hid hM; clear hM
    go_enter Try.func58, Try.ntmps58
    go_wp2_with (fail)
    go_loopw [7, 8, 9] (fun v a i wr => ∃ (k : Nat) (r : Fo) (P : List En) (ds : List EnV) (ah : Int), a = .int .i64 ah ∧ i = .int .i64 k ∧ Hid (k + r.len = n) ∧ Hid (FoR ok w A k r) ∧ Hid (r.size ≤ f.size) ∧ Hid (OwnE wr w.heap.size v ds) ∧ Hid (ds.map EnV.en = P.take (m + 1).toNat) ∧ Hid (fullR f d 0 = P ++ fullR r d ah) ∧ Below w.heap.size w wr) (fun _ _ i _ => n - (intOf i).toNat)
    case atStart => exact ⟨0, f, [], [], 0, rfl, rfl, Lib.hid (by rw [HN.out]; omega), H1, Lib.hid (Nat.le_refl _), Lib.hid (World.ownsRow_made w #[] 0 (Nat.le_refl _) (Nat.zero_le _) rfl), Lib.hid (by rw [List.take_nil]; rfl), Lib.hid rfl, (Below.refl _ _).alloc (Nat.le_refl _) _⟩
    case round =>
      obtain ⟨k, r, P, ds, ah, rfl, rfl, HK, R1, HS, HO, HT, HF, kb⟩ := hrel
      cases r with
      | nil =>
        have hk : k = n := HK.out
        have hk' : (n : Int) ≤ (k : Int) := by omega
        clear hk
        go_wp2_with (fail)
        go_ret
        exact ⟨_, ds, rfl, HO.out, by rw [HT.out, rowR, HF.out, fullR, List.append_nil], kb⟩
      | cons z cr li bs sub rest =>
        obtain ⟨⟨b1, o1, At1, m1, cm1, As1, e1, rfl, hb1, -, ⟨x0, x1, x2, x3, x4⟩, t1, s1, l1, l2, l3⟩, r1⟩ := R1.out.one
        have X0 := Lib.hid x0
        have X4 := Lib.hid x4
        have HB1 := Lib.hid hb1
        have S1 := Lib.hid s1
        clear s1
        rw [← kb.cell (p := ⟨b1, _, none⟩) hb1] at x0 x1 x2 x3 x4
        have hkn : k < n := by have := HK.out; simp only [Fo.len] at this; omega
        have hlt' : (k : Int) < (n : Int) := by omega
        obtain ⟨Av, cv, ev, f1, f2, f3, f4, f5⟩ := OwnE.form HO.out
        obtain ⟨L, eL⟩ : ∃ L, L = ds.length := ⟨_, rfl⟩
        rw [← eL] at ev f1
        have hL4 : L ≤ 401 := by
          have h2 := congrArg List.length HT.out
          rw [List.length_map, List.length_take] at h2
          omega
        subst ev
        have EL := Lib.hid eL
        clear eL f2 f3 f5
        by_cases hLm : (L : Int) ≤ m
        · have HOa := Lib.hid (HO.out.below ((Below.refl wr.heap.size wr).alloc (Nat.le_refl _) (.cells #[.int .i64 z, .bool cr, .bool li, .slice At1 m1 cm1, .slice As1 sub.len e1, .int .i64 d, .int .i64 ah] 113)))
          have HKa := Lib.hid (kb.alloc kb.size (.cells #[.int .i64 z, .bool cr, .bool li, .slice At1 m1 cm1, .slice As1 sub.len e1, .int .i64 d, .int .i64 ah] 113))
          have hza := HKa.out.size
          have KB := Lib.hid kb
          by_cases h5 : d < 5
          · go_wp2_with (at_builtin; refine wpList_appEL _ rfl (.tmp 23) (.tmp 31) rfl w _ ds L rfl HOa.out EL.out.symm _ 1 1 [⟨z, cr, li, At1, m1, cm1, As1, sub.len, e1, d, ah⟩] rfl rfl (rd_en wr ⟨z, cr, li, At1, m1, cm1, As1, sub.len, e1, d, ah⟩ _) (by omega) HKa.out ?_; intro A3 c3 w3 ho3 hc3 hc4 hk3; have HO3 := Lib.hid ho3; have HK3 := Lib.hid hk3; have y0 : w3.cell? ⟨b1, o1 + k * 5, none⟩ = some (.int .i64 z) := (HK3.out.cell (p := ⟨b1, _, none⟩) HB1.out).trans X0.out; have y4 : w3.cell? ⟨b1, o1 + k * 5 + 4, none⟩ = some (.slice As1 sub.len e1) := (HK3.out.cell (p := ⟨b1, _, none⟩) HB1.out).trans X4.out; clear ho3 hk3 hza)
            have HSs : Hid (sub.size < M) := Lib.hid (by have a := HS.out; have b := HM.out; simp only [Fo.size] at a; omega)
            have q1 : 1 ≤ d + 1 := by clear f4 HO3 y0 y4 l2 hc4; omega
            have q2 : d + 1 ≤ 5 := by omega
            have q3 : -1 ≤ m - ((L : Int) + 1) := by omega
            have q4 : m - ((L : Int) + 1) ≤ 400 := by omega
            have q5 := IH.out sub.size HSs.out sub rfl (d + 1) (m - ((L : Int) + 1)) q1 q2 q3 q4
            have q6 := q5 ok As1 sub.len e1 w3 rfl (S1.out.below HK3.out) l3
            refine Calls.mono q6 ?_
            rintro _ w4 ⟨v4, ds4, rfl, ho4, ht4, hk4⟩
            obtain ⟨L4, eL4⟩ : ∃ L4, ds4.length = L4 := ⟨_, rfl⟩
            have h44 : L4 ≤ 402 := by
              have h2 := congrArg List.length ht4
              rw [List.length_map, rowR, List.length_take] at h2
              omega
            obtain ⟨A4, c4, rfl, h45, h46, R4⟩ := ho4.formL eL4
            have HT4 := Lib.hid ht4
            have HO4 := Lib.hid (HO3.out.below hk4)
            have HK4 := Lib.hid (HK3.out.trans (hk4.mono HK3.out.size))
            have EL4 := Lib.hid eL4
            have RD4 := Lib.hid R4
            have EL3 : Hid ((ds ++ [(⟨z, cr, li, At1, m1, cm1, As1, sub.len, e1, d, ah⟩ : EnV)]).length = L + 1) := Lib.hid (by rw [List.length_append, List.length_singleton, ← EL.out])
            clear ho4 ht4 hk4 eL4 R4
            go_wp2_with (at_builtin; refine wpList_appEL _ rfl (.tmp 40) (.tmp 52) rfl w _ _ (L + 1) rfl HO4.out EL3.out _ L4 c4 ds4 rfl EL4.out RD4.out (by omega) HK4.out ?_; intro A5 c5 w5 ho5 hc5 hc6 hk5; have HO5 := Lib.hid ho5; have HK5 := Lib.hid hk5; clear ho5 hk5)
            refine ⟨⟨k + 1, rest, P ++ (⟨z, cr, li, bs.length, sub.len, d, ah⟩ :: fullR sub (d + 1) 0), _, z, rfl, by rw [Int.natCast_add]; rfl, Lib.hid (by have := HK.out; simp only [Fo.len] at this; omega), Lib.hid r1, Lib.hid (by have := HS.out; simp only [Fo.size] at this; omega), HO5, Lib.hid ?_, Lib.hid ?_, HK5.out⟩, ?_⟩
            · have e := take_round (S := fullR sub (d + 1) 0) (T := fullR rest d z) (x := ⟨z, cr, li, bs.length, sub.len, d, ah⟩) HT.out (by rw [List.length_map, ← EL.out]; exact hLm)
              rw [← e.1, List.map_append, List.map_append, HT4.out, rowR]
              have e2 : ((List.map EnV.en ds ++ [(⟨z, cr, li, bs.length, sub.len, d, ah⟩ : En)]).length : Int) = (L : Int) + 1 := by rw [List.length_append, List.length_map, List.length_singleton, ← EL.out]; rfl
              rw [e2]
              rw [t1.1]; rfl
            · rw [HF.out, fullR, if_pos h5]; simp
            · show n - ((k : Int) + 1).toNat < n - (k : Int).toNat
              omega
          · have h5' : 5 ≤ d := by omega
            go_wp2_with (at_builtin; refine wpList_appEL _ rfl (.tmp 23) (.tmp 31) rfl w _ ds L rfl HOa.out EL.out.symm _ 1 1 [⟨z, cr, li, At1, m1, cm1, As1, sub.len, e1, d, ah⟩] rfl rfl (rd_en wr ⟨z, cr, li, At1, m1, cm1, As1, sub.len, e1, d, ah⟩ _) (by omega) HKa.out ?_; intro A3 c3 w3 ho3 hc3 hc4 hk3; have HO3 := Lib.hid ho3; have HK3 := Lib.hid hk3; have y0 : w3.cell? ⟨b1, o1 + k * 5, none⟩ = some (.int .i64 z) := (HK3.out.cell (p := ⟨b1, _, none⟩) HB1.out).trans X0.out; have y4 : w3.cell? ⟨b1, o1 + k * 5 + 4, none⟩ = some (.slice As1 sub.len e1) := (HK3.out.cell (p := ⟨b1, _, none⟩) HB1.out).trans X4.out; clear ho3 hk3 hza)
            refine ⟨⟨k + 1, rest, P ++ [⟨z, cr, li, bs.length, sub.len, d, ah⟩], _, z, rfl, by rw [Int.natCast_add]; rfl, Lib.hid (by have := HK.out; simp only [Fo.len] at this; omega), Lib.hid r1, Lib.hid (by have := HS.out; simp only [Fo.size] at this; omega), HO3, Lib.hid ?_, Lib.hid ?_, HK3.out⟩, ?_⟩
            · rw [← take_one HT.out (by rw [List.length_map, ← EL.out]; exact hLm), List.map_append]
              rw [t1.1]; rfl
            · rw [HF.out, fullR, if_neg h5]; simp
            · show n - ((k : Int) + 1).toNat < n - (k : Int).toNat
              omega
        · have hLm' : m < (L : Int) := by omega
          go_wp2_with (fail)
          go_ret
          exact ⟨_, rfl, ds, HO.out, by rw [HT.out, rowR, HF.out]; exact take_done rfl (by have e1 := EL.out; have := congrArg List.length HT.out; rw [List.length_map] at this; omega), kb⟩
end Go.Proofs.Ytcffinkkfdfcaaa

/- What the reference's Small answers: true only of few items whose bytes are few. Conditions: items that can be read. -/
namespace Go.Proofs.Ytcffinkkfdfcaaa
open Go Go.RowKit

theorem RdE_at {w : World} {A : Option Addr} {ds : List EnV} (h : Rd w A (cellsE ds)) (i : Nat) (hi : i < ds.length) : ∃ b off, A = some ⟨b, off, none⟩ ∧ b < w.heap.size ∧
    w.cell? ⟨b, off + i * 7, none⟩ = some (.int .i64 ds[i].k) ∧ w.cell? ⟨b, off + i * 7 + 1, none⟩ = some (.bool ds[i].cr) ∧ w.cell? ⟨b, off + i * 7 + 2, none⟩ = some (.bool ds[i].li) ∧
    w.cell? ⟨b, off + i * 7 + 3, none⟩ = some (.slice ds[i].A ds[i].nb ds[i].cb) ∧ w.cell? ⟨b, off + i * 7 + 4, none⟩ = some (.slice ds[i].As ds[i].ns ds[i].cs) ∧
    w.cell? ⟨b, off + i * 7 + 5, none⟩ = some (.int .i64 ds[i].d) ∧ w.cell? ⟨b, off + i * 7 + 6, none⟩ = some (.int .i64 ds[i].ah) := by
  rcases h with h | ⟨b, off, rfl, hb, h⟩
  · have := congrArg List.length h
    rw [cellsE_length] at this
    simp at this
    omega
  · have q : ∀ j, j < 7 → w.cell? ⟨b, off + i * 7 + j, none⟩ = (ds[i].cells)[j]? := fun j hj => by
      have hl : i * 7 + j < (cellsE ds).length := by rw [cellsE_length]; omega
      rw [Nat.add_assoc, h _ hl, ← List.getElem?_eq_getElem hl, cellsE_get ds i hi j hj]
    exact ⟨b, off, rfl, hb, (q 0 (by omega)).trans rfl, (q 1 (by omega)).trans rfl, (q 2 (by omega)).trans rfl, (q 3 (by omega)).trans rfl, (q 4 (by omega)).trans rfl, (q 5 (by omega)).trans rfl, (q 6 (by omega)).trans rfl⟩
theorem full_bounds {ok : Nat → Prop} {w : World} : ∀ (f : Fo) (A : Option Addr) (i : Nat) (d ah : Int), FoR ok w A i f → ∀ e ∈ fullR f d ah, e.nb ≤ 140737488355328 ∧ e.ns ≤ 2199023255488
  | .nil, _, _, _, _, _, e, he => by simp [fullR] at he
  | .cons k cr li bs sub rest, A, i, d, ah, h, e, he => by
    obtain ⟨⟨b1, o1, At1, m1, cm1, As1, e1, -, -, -, -, t1, s1, -, -, l3⟩, r1⟩ := h
    rw [fullR, List.mem_cons, List.mem_append] at he
    rcases he with rfl | he | he
    · exact ⟨by have := t1.2.2.2.2.2; rw [← t1.1] at this; exact this, l3⟩
    · by_cases h5 : d < 5
      · rw [if_pos h5] at he; exact full_bounds sub _ _ _ _ s1 e he
      · rw [if_neg h5] at he; simp at he
    · exact full_bounds rest _ _ _ _ r1 e he
/-- Bytes that fit, all told. -/
def Fo.fits : Fo → Prop
  | .nil => True
  | .cons _ _ _ bs sub rest => bs.length ≤ 131072 ∧ sub.fits ∧ rest.fits
theorem Fo.len0 {f : Fo} (h : f.len = 0) : f = .nil := by
  cases f with
  | nil => rfl
  | cons => simp [Fo.len] at h
theorem small_of : ∀ (f : Fo) (d ah : Int), d ≤ 5 → (∀ e ∈ fullR f d ah, e.nb ≤ 131072 ∧ (e.d = 5 → e.ns = 0)) → (fullR f d ah).length = f.size ∧ f.fits
  | .nil, _, _, _, _ => ⟨rfl, trivial⟩
  | .cons k cr li bs sub rest, d, ah, hd, h => by
    have h0 := h ⟨k, cr, li, bs.length, sub.len, d, ah⟩ (by rw [fullR]; exact .head _)
    have hr := small_of rest d k hd (fun e he => h e (by rw [fullR]; exact List.mem_cons_of_mem _ (List.mem_append.2 (.inr he))))
    by_cases h5 : d < 5
    · have hs := small_of sub (d + 1) 0 (by omega) (fun e he => h e (by rw [fullR, if_pos h5]; exact List.mem_cons_of_mem _ (List.mem_append.2 (.inl he))))
      exact ⟨by rw [fullR, if_pos h5, List.length_cons, List.length_append, hs.1, hr.1, Fo.size], h0.1, hs.2, hr.2⟩
    · have hd5 : d = 5 := by omega
      obtain rfl : sub = .nil := Fo.len0 (h0.2 hd5)
      exact ⟨by rw [fullR, if_neg h5, List.length_cons, List.length_append, hr.1]; simp [Fo.size], h0.1, trivial, hr.2⟩
/-- Few items, few bytes. -/
def SmallF (f : Fo) : Prop := f.size ≤ 400 ∧ f.fits
theorem small_row {f : Fo} {ds : List EnV} (h : ds.map EnV.en = rowR f 1 400) (h1 : ds.length ≤ 400) (h2 : ∀ (j : Nat) (hj : j < ds.length), ds[j].nb ≤ 131072 ∧ (ds[j].d = 5 → ds[j].ns = 0)) : SmallF f := by
  have hl := congrArg List.length h
  rw [List.length_map, rowR, List.length_take] at hl
  have e : rowR f 1 400 = fullR f 1 0 := by
    rw [rowR]
    refine List.take_of_length_le ?_
    have : ((400 : Int) + 1).toNat = 401 := rfl
    omega
  rw [e] at h
  have q := small_of f 1 0 (by omega) (fun x hx => by
    rw [← h] at hx
    obtain ⟨d, hd, rfl⟩ := List.mem_map.1 hx
    obtain ⟨j, hj, rfl⟩ := List.getElem_of_mem hd
    exact h2 j hj)
  refine ⟨?_, q.2⟩
  rw [← q.1, ← h, List.length_map]
  exact h1
set_option maxRecDepth 100000 in
set_option maxHeartbeats 4000000 in
theorem Small_c (f : Fo) (ok : Nat → Prop) (A : Option Addr) (n c : Nat) (w : World) (hn : f.len = n) (h1 : FoR ok w A 0 f) (hl : n ≤ 2199023255488) :
    Calls Try.prog 29 #[.slice A n c] w fun r w' => ∃ b, r = .returned (.bool b) ∧ (b = true → SmallF f) ∧ Below w.heap.size w w' := by
  have HN := Lib.hid hn; clear hn
  have H1 := Lib.hid h1; clear h1
  go_enter Try.func29, Try.ntmps29
  go_wp2_with (fail)
  refine Calls.mono (row_c f.size f rfl 1 400 (by omega) (by omega) (by omega) (by omega) ok A n c w HN.out H1.out hl) ?_
  rintro _ w1 ⟨v, ds, rfl, ho, hm, hk⟩
  obtain ⟨L, eL⟩ : ∃ L, ds.length = L := ⟨_, rfl⟩
  obtain ⟨Av, cv, rfl, f1, f2, f3⟩ := ho.formL eL
  have hb : ∀ (j : Nat) (hj : j < ds.length), ds[j].nb ≤ 140737488355328 ∧ ds[j].ns ≤ 2199023255488 := fun j hj =>
    full_bounds f A 0 1 0 H1.out _ (List.mem_of_mem_take (by rw [rowR] at hm; rw [← hm]; exact List.mem_map.2 ⟨_, List.getElem_mem hj, rfl⟩))
  have hL4 : L ≤ 401 := by
    have h2 := congrArg List.length hm
    rw [List.length_map, rowR, List.length_take, eL] at h2
    have : ((400 : Int) + 1).toNat = 401 := rfl
    omega
  have HM := Lib.hid hm
  have HB := Lib.hid hb
  have EL := Lib.hid eL
  have RD := Lib.hid f3
  have HK := Lib.hid hk
  have hz1 := Lib.hid hk.size
  clear ho hm hb eL f2 f3 hk
  go_wp2_with (fail)
  go_loopw [4, 5] (fun s i wr => ∃ (k t : Nat), s = .int .i64 t ∧ i = .int .i64 k ∧ k ≤ L ∧ t ≤ 131072 ∧ Hid (∀ (j : Nat) (hj : j < ds.length), j < k → ds[j].nb ≤ 131072 ∧ (ds[j].d = 5 → ds[j].ns = 0)) ∧ Below w1.heap.size w1 wr) (fun _ i _ => L - (intOf i).toNat)
  case atStart => exact ⟨0, 0, rfl, rfl, Nat.zero_le _, Nat.zero_le _, Lib.hid (fun j hj h0 => absurd h0 (Nat.not_lt_zero _)), Below.refl _ _⟩
  case round =>
    obtain ⟨k, t, rfl, rfl, hkL, ht, HP, kb⟩ := hrel
    by_cases hkl : k < L
    · obtain ⟨b1, o1, rfl, hb1, x0, x1, x2, x3, x4, x5, x6⟩ := RdE_at RD.out k (by rw [EL.out]; exact hkl)
      rw [← kb.cell (p := ⟨b1, _, none⟩) hb1] at x3 x4 x5
      obtain ⟨p1, p2⟩ := HB.out k (by rw [EL.out]; exact hkl)
      clear x0 x1 x2 x6
      obtain ⟨nb, enb⟩ : ∃ nb, nb = (ds[k]'(by rw [EL.out]; exact hkl)).nb := ⟨_, rfl⟩
      obtain ⟨ns, ens⟩ : ∃ ns, ns = (ds[k]'(by rw [EL.out]; exact hkl)).ns := ⟨_, rfl⟩
      obtain ⟨dd, edd⟩ : ∃ dd, dd = (ds[k]'(by rw [EL.out]; exact hkl)).d := ⟨_, rfl⟩
      rw [← enb] at x3 p1
      rw [← ens] at x4 p2
      rw [← edd] at x5
      have ENB := Lib.hid enb
      have ENS := Lib.hid ens
      have EDD := Lib.hid edd
      clear enb ens edd
      have KB := Lib.hid kb
      have hlt' : (k : Int) < (L : Int) := by omega
      by_cases hnb : 131072 < t + nb
      · have hnb' : (131072 : Int) < (t : Int) + nb := by omega
        go_wp2_with (fail)
        go_ret
        exact ⟨_, rfl, fun h => (by cases h), HK.out.trans (KB.out.mono HK.out.size)⟩
      · have hnb' : (t : Int) + nb ≤ 131072 := by omega
        have fin : Hid (ns = 0 ∨ dd ≠ 5) → Hid (∀ (j : Nat) (hj : j < ds.length), j < k + 1 → ds[j].nb ≤ 131072 ∧ (ds[j].d = 5 → ds[j].ns = 0)) := fun h0 => Lib.hid fun j hj h1 => by
          by_cases e : j = k
          · subst e
            rw [← ENB.out, ← ENS.out, ← EDD.out]
            exact ⟨by omega, fun e5 => h0.out.resolve_right (fun h => h e5)⟩
          · exact HP.out j hj (by omega)
        have FIN := Lib.hid fin
        clear fin
        by_cases hd5 : dd = 5
        · have ed : (dd == 5) = true := by rw [hd5]; rfl
          by_cases hns : ns = 0
          · have hns' : (ns : Int) ≤ 0 := by omega
            have FIN2 := FIN.out (Lib.hid (.inl hns))
            have hns2 := Lib.hid hns
            clear hns hd5
            go_wp2_with (fail)
            exact ⟨⟨k + 1, t + nb, by go_num, by go_num, by omega, by omega, FIN2, KB.out⟩, by simp [intOf]; omega⟩
          · have hns' : (0 : Int) < (ns : Int) := by omega
            clear hd5
            go_wp2_with (fail)
            go_ret
            exact ⟨_, rfl, fun h => (by cases h), HK.out.trans (KB.out.mono HK.out.size)⟩
        · have ed : (dd == 5) = false := by simpa using hd5
          have FIN2 := FIN.out (Lib.hid (.inr hd5))
          clear hd5
          go_wp2_with (fail)
          exact ⟨⟨k + 1, t + nb, by go_num, by go_num, by omega, by omega, FIN2, KB.out⟩, by simp [intOf]; omega⟩
    · have hkl' : (L : Int) ≤ (k : Int) := by omega
      go_wp2_with (fail)
      go_ret
      refine ⟨_, rfl, fun h => ?_, HK.out.trans (kb.mono HK.out.size)⟩
      have hL : (L : Int) ≤ 400 := of_decide_eq_true h
      exact small_row HM.out (by rw [EL.out]; omega) (fun j hj => HP.out j hj (by have := EL.out; omega))
end Go.Proofs.Ytcffinkkfdfcaaa

/- The faults of a row of items, in plain words. Conditions: none. -/
namespace Go.Proofs.Ytcffinkkfdfcaaa
open Go Go.RowKit

/-- The fault of one entry, the c-th: 0 is none. -/
def fe (c : Nat) (e : En) : Int :=
  if 64 ≤ c then 4 else if e.k < 1 ∨ 1000 < e.k ∨ e.k ≤ e.ah ∨ (0 < e.ns ∧ e.li = false) ∨ (0 < e.nb ∧ e.li = true) then 1 else if e.li = true ∧ e.d = 4 then 5 else if 4096 < e.nb then 4 else 0
/-- The first fault of a row whose first entry is the c-th. -/
def scanF : List En → Nat → Int
  | [], _ => 0
  | e :: r, c => if fe c e ≠ 0 then fe c e else scanF r (c + 1)
theorem scanF_append (xs ys : List En) : ∀ c, scanF (xs ++ ys) c = if scanF xs c ≠ 0 then scanF xs c else scanF ys (c + xs.length) := by
  induction xs with
  | nil => intro c; simp [scanF]
  | cons x xs ih =>
    intro c
    rw [List.cons_append, scanF, scanF, ih]
    by_cases h : fe c x = 0
    · simp only [h, ne_eq, not_true_eq_false, if_false, List.length_cons]
      rw [show c + 1 + xs.length = c + (xs.length + 1) by omega]
    · simp only [h, ne_eq, not_false_eq_true, if_true]
/-- Check's answer. -/
def checkF (f : Fo) : Int := if scanF (fullR f 1 0) 0 ≠ 0 then scanF (fullR f 1 0) 0 else if 4096 < (layL f).length then 4 else 0
theorem scanF_zero : ∀ (xs : List En) (c : Nat), scanF xs c = 0 → ∀ (j : Nat) (hj : j < xs.length), fe (c + j) xs[j] = 0
  | [], _, _, j, hj => by simp at hj
  | x :: xs, c, h, j, hj => by
    rw [scanF] at h
    by_cases h0 : fe c x = 0
    · rw [if_neg (by simp [h0])] at h
      match j, hj with
      | 0, _ => simpa using h0
      | j + 1, hj =>
        have := scanF_zero xs (c + 1) h j (by simpa using hj)
        rw [show c + (j + 1) = c + 1 + j by omega]
        simpa using this
    · rw [if_pos h0] at h; exact absurd h h0
/-- The first fault stands at the k-th entry. -/
theorem scanF_at : ∀ (xs : List En) (c k : Nat) (hk : k < xs.length), (∀ (j : Nat) (hj : j < xs.length), j < k → fe (c + j) xs[j] = 0) → fe (c + k) xs[k] ≠ 0 → scanF xs c = fe (c + k) xs[k]
  | [], _, k, hk, _, _ => by simp at hk
  | x :: xs, c, 0, _, _, h => by
    rw [scanF, if_pos (by simpa using h)]
    simp
  | x :: xs, c, k + 1, hk, h0, h => by
    have hx : fe c x = 0 := h0 0 (by simp) (by omega)
    rw [scanF, if_neg (by simp [hx])]
    have e : c + (k + 1) = c + 1 + k := by omega
    rw [e] at h ⊢
    have := scanF_at xs (c + 1) k (by simpa using hk) (fun j hj hjk => by
      have := h0 (j + 1) (by simp; omega) (by omega)
      rw [show c + (j + 1) = c + 1 + j by omega] at this
      simpa using this) (by simpa using h)
    rw [this]; simp
theorem scanF_none : ∀ (xs : List En) (c : Nat), (∀ (j : Nat) (hj : j < xs.length), fe (c + j) xs[j] = 0) → scanF xs c = 0
  | [], _, _ => rfl
  | x :: xs, c, h => by
    have hx : fe c x = 0 := h 0 (by simp)
    rw [scanF, if_neg (by simp [hx])]
    exact scanF_none xs (c + 1) (fun j hj => by
      have := h (j + 1) (by simp; omega)
      rw [show c + (j + 1) = c + 1 + j by omega] at this
      simpa using this)
theorem fe_64 {c : Nat} {e : En} (h : 64 ≤ c) : fe c e = 4 := by rw [fe, if_pos h]
theorem fe_1 {c : Nat} {e : En} (h : ¬ 64 ≤ c) (h1 : e.k < 1 ∨ 1000 < e.k ∨ e.k ≤ e.ah ∨ (0 < e.ns ∧ e.li = false) ∨ (0 < e.nb ∧ e.li = true)) : fe c e = 1 := by rw [fe, if_neg h, if_pos h1]
def En.fair (e : En) : Prop := 1 ≤ e.k ∧ e.k ≤ 1000 ∧ e.ah < e.k ∧ (e.li = false → e.ns = 0) ∧ (e.li = true → e.nb = 0)
theorem En.fair.not {e : En} (h : e.fair) : ¬ (e.k < 1 ∨ 1000 < e.k ∨ e.k ≤ e.ah ∨ (0 < e.ns ∧ e.li = false) ∨ (0 < e.nb ∧ e.li = true)) := by
  obtain ⟨h1, h2, h3, h4, h5⟩ := h
  rintro (h | h | h | ⟨h, g⟩ | ⟨h, g⟩)
  · omega
  · omega
  · omega
  · have := h4 g; omega
  · have := h5 g; omega
theorem fe_5 {c : Nat} {e : En} (h : ¬ 64 ≤ c) (h1 : e.fair) (h2 : e.li = true) (h3 : e.d = 4) : fe c e = 5 := by rw [fe, if_neg h, if_neg h1.not, if_pos ⟨h2, h3⟩]
theorem fe_4b {c : Nat} {e : En} (h : ¬ 64 ≤ c) (h1 : e.fair) (h2 : ¬ (e.li = true ∧ e.d = 4)) (h3 : 4096 < e.nb) : fe c e = 4 := by rw [fe, if_neg h, if_neg h1.not, if_neg h2, if_pos h3]
theorem fe_0 {c : Nat} {e : En} (h : ¬ 64 ≤ c) (h1 : e.fair) (h2 : ¬ (e.li = true ∧ e.d = 4)) (h3 : e.nb ≤ 4096) : fe c e = 0 := by rw [fe, if_neg h, if_neg h1.not, if_neg h2, if_neg (by omega)]
/-- What an entry without a fault is. -/
theorem fe_zero {c : Nat} {e : En} (h : fe c e = 0) : c < 64 ∧ 1 ≤ e.k ∧ e.k ≤ 1000 ∧ e.ah < e.k ∧ (e.li = false → e.ns = 0) ∧ (e.li = true → e.nb = 0) ∧ (e.li = true → e.d ≠ 4) ∧ e.nb ≤ 4096 := by
  unfold fe at h
  by_cases h1 : 64 ≤ c
  · rw [if_pos h1] at h; omega
  rw [if_neg h1] at h
  by_cases h2 : e.k < 1 ∨ 1000 < e.k ∨ e.k ≤ e.ah ∨ (0 < e.ns ∧ e.li = false) ∨ (0 < e.nb ∧ e.li = true)
  · rw [if_pos h2] at h; omega
  rw [if_neg h2] at h
  by_cases h3 : e.li = true ∧ e.d = 4
  · rw [if_pos h3] at h; omega
  rw [if_neg h3] at h
  by_cases h4 : 4096 < e.nb
  · rw [if_pos h4] at h; omega
  have a1 : ¬ e.k < 1 := fun h => h2 (.inl h)
  have a2 : ¬ 1000 < e.k := fun h => h2 (.inr (.inl h))
  have a3 : ¬ e.k ≤ e.ah := fun h => h2 (.inr (.inr (.inl h)))
  refine ⟨by omega, by omega, by omega, by omega, fun hl => ?_, fun hl => ?_, fun hl hd => h3 ⟨hl, hd⟩, by omega⟩
  · exact Nat.eq_zero_of_not_pos fun hp => h2 (.inr (.inr (.inr (.inl ⟨hp, hl⟩))))
  · exact Nat.eq_zero_of_not_pos fun hp => h2 (.inr (.inr (.inr (.inr ⟨hp, hl⟩))))
/-- A list without faults: its kinds and bytes may be, and all its items stand in the row. -/
theorem good_of : ∀ (f : Fo) (d ah : Int), d ≤ 4 → (∀ e ∈ fullR f d ah, ∃ c, fe c e = 0) → f.good ∧ (fullR f d ah).length = f.size
  | .nil, _, _, _, _ => ⟨trivial, rfl⟩
  | .cons k cr li bs sub rest, d, ah, hd, h => by
    obtain ⟨c, h0⟩ := h ⟨k, cr, li, bs.length, sub.len, d, ah⟩ (by rw [fullR]; exact .head _)
    obtain ⟨-, k1, k2, -, n1, -, n3, n4⟩ := fe_zero h0
    simp only at k1 k2 n1 n3 n4
    have hr := good_of rest d k hd (fun e he => h e (by rw [fullR]; exact List.mem_cons_of_mem _ (List.mem_append.2 (.inr he))))
    have hs : sub.good ∧ (fullR sub (d + 1) 0).length = sub.size := by
      by_cases h4 : d ≤ 3
      · exact good_of sub (d + 1) 0 (by omega) (fun e he => h e (by rw [fullR, if_pos (by omega)]; exact List.mem_cons_of_mem _ (List.mem_append.2 (.inl he))))
      · have : sub = .nil := by
          cases li with
          | true => exact absurd (show d = 4 by omega) (n3 rfl)
          | false => exact Fo.len0 (n1 rfl)
        subst this
        exact ⟨trivial, rfl⟩
    exact ⟨⟨k1, k2, n4, hs.1, hr.1⟩, by rw [fullR, if_pos (by omega), List.length_cons, List.length_append, hs.2, hr.2, Fo.size]⟩
/-- The first 66 entries decide. -/
theorem scan_take (xs : List En) : scanF (xs.take 66) 0 = scanF xs 0 := by
  by_cases h : xs.length ≤ 66
  · rw [List.take_of_length_le h]
  · have e : xs.take 66 ++ xs.drop 66 = xs := List.take_append_drop 66 xs
    conv => rhs; rw [← e]
    rw [scanF_append]
    by_cases h0 : scanF (xs.take 66) 0 = 0
    · have hl : (xs.take 66).length = 66 := by rw [List.length_take]; omega
      have := scanF_zero _ 0 h0 64 (by omega)
      rw [fe_64 (by omega)] at this
      omega
    · rw [if_pos h0]
theorem check_scan {f : Fo} (h : scanF (fullR f 1 0) 0 = 0) : f.good ∧ f.size ≤ 64 := by
  have hz := scanF_zero _ 0 h
  have q := good_of f 1 0 (by omega) (fun e he => by
    obtain ⟨j, hj, rfl⟩ := List.getElem_of_mem he
    exact ⟨0 + j, hz j hj⟩)
  refine ⟨q.1, ?_⟩
  rw [← q.2]
  by_cases h6 : (fullR f 1 0).length ≤ 64
  · exact h6
  · have := hz 64 (by omega)
    rw [fe_64 (by omega)] at this
    omega
end Go.Proofs.Ytcffinkkfdfcaaa

/- What the closure within tlv.Check answers: the first fault of a list, and how many items were gone through. Conditions: a list that can be read; depth 1 to 5. -/
namespace Go.Proofs.Ytcffinkkfdfcaaa
open Go Go.RowKit

theorem scan_step {f : Fo} {d : Int} {c c0 : Nat} {P R : List En} {x : En} (hF : fullR f d 0 = P ++ (x :: R)) (hz : scanF P c = 0) (hc : c0 = c + P.length) :
    (∀ u : Int, u ≠ 0 → fe c0 x = u → scanF (fullR f d 0) c = u) ∧ (fe c0 x = 0 → scanF (fullR f d 0) c = scanF R (c0 + 1)) := by
  have e : scanF (fullR f d 0) c = scanF (x :: R) c0 := by rw [hF, scanF_append, if_neg (by simp [hz]), hc]
  rw [e]
  refine ⟨fun u hu h => ?_, fun h => ?_⟩
  · rw [scanF, h, if_pos hu]
  · rw [scanF, h, if_neg (by simp)]
/-- Where the closure's count lies, and the closure itself. -/
structure Wk (w : World) (bc bw : Nat) (c : Nat) : Prop where
  c : w.heap[bc]? = some (.cells #[.int .i64 (c : Int)] 3 (0, 0))
  w : w.heap[bw]? = some (.cells #[.func (.func 86) #[] #[.pointer (some ⟨bc, 0, none⟩), .pointer (some ⟨bw, 0, none⟩)]] 145 (0, 0))
  n : bc ≠ bw
theorem Wk.far {w w' : World} {bc bw c : Nat} (h : Wk w bc bw c) (hb : Below w.heap.size w w') : Wk w' bc bw c := ⟨(hb.block _ (heap_lt h.c)).trans h.c, (hb.block _ (heap_lt h.w)).trans h.w, h.n⟩
theorem Wk.set {w : World} {bc bw c : Nat} (h : Wk w bc bw c) (c' : Nat) : Wk (w.setCell ⟨bc, 0, none⟩ (.int .i64 (c' : Int))) bc bw c' := ⟨by rw [heap_set h.c]; rfl, (heap_far _ (by exact fun e => h.n e.symm)).trans h.w, h.n⟩
theorem FoR.only {ok : Nat → Prop} {w w' : World} {f : Fo} {A : Option Addr} {i bc : Nat} (h : FoR ok w A i f) (hok : ∀ j, ok j → j ≠ bc) (hg : w.grownBy w' (some bc)) : FoR ok w' A i f :=
  FoR.frame (fun j hj hl => hg.block j hl (fun e => hok j hj (by injection e))) hg.size f A i h
/-- What the closure answers and leaves. -/
def WkP (bc bw c : Nat) (w : World) (C : Int) (L : Nat) (r : Ending) (w' : World) : Prop := ∃ c', r = .returned (.int .i64 C) ∧ (C = 0 → c' = c + L ∧ c' ≤ 64) ∧ Wk w' bc bw c' ∧ w.grownBy w' (some bc)
theorem WkP.of {bc bw c : Nat} {w w' : World} {C : Int} {L : Nat} {r : Ending} (c' : Nat) (h1 : r = .returned (.int .i64 C)) (h2 : C = 0 → c' = c + L ∧ c' ≤ 64) (h3 : Wk w' bc bw c') (h4 : w.grownBy w' (some bc)) : WkP bc bw c w C L r w' := ⟨c', h1, h2, h3, h4⟩
set_option maxRecDepth 100000 in
set_option maxHeartbeats 8000000 in
theorem walk_c : ∀ (M : Nat) (f : Fo), f.size = M → ∀ (d : Int) (c : Nat), 1 ≤ d → d ≤ 5 → (d = 5 → f = .nil) → c ≤ 64 → ∀ (ok : Nat → Prop) (A : Option Addr) (n cap : Nat) (w : World) (bc bw : Nat), f.len = n → FoR ok w A 0 f → (∀ j, ok j → j ≠ bc) → n ≤ 2199023255488 → Wk w bc bw c →
    Calls Try.prog 86 #[.slice A n cap, .int .i64 d, .pointer (some ⟨bc, 0, none⟩), .pointer (some ⟨bw, 0, none⟩)] w (WkP bc bw c w (scanF (fullR f d 0) c) (fullR f d 0).length) := by
  intro M
  induction M using Nat.strongRecOn with
  | _ M ih =>
    intro f hM d c hd1 hd5 hdn hc ok A n cap w bc bw hn h1 hok hl hw
    have IH := Lib.hid ih; clear ih
    have HN := Lib.hid hn; clear hn
    have H1 := Lib.hid h1; clear h1
    have HM := Lib.hid hM; clear hM
    have HW := Lib.hid hw; clear hw
    have HDN := Lib.hid hdn; clear hdn
    have HOK := Lib.hid hok; clear hok
    obtain ⟨C, hC⟩ : ∃ C, C = scanF (fullR f d 0) c := ⟨_, rfl⟩
    rw [← hC]
    have HC := Lib.hid hC; clear hC
    go_enter Try.func86, Try.ntmps86
    go_wp2_with (fail)
    go_loopw [7, 13] (fun a i wr => ∃ (k : Nat) (r : Fo) (P : List En) (c0 : Nat) (ah : Int), a = .int .i64 ah ∧ i = .int .i64 k ∧ 0 ≤ ah ∧ Hid (k + r.len = n) ∧ Hid (FoR ok w A k r) ∧ Hid (r.size ≤ f.size) ∧ Hid (fullR f d 0 = P ++ fullR r d ah) ∧ Hid (scanF P c = 0) ∧ Hid (c0 = c + P.length) ∧ c0 ≤ 64 ∧ Hid (Wk wr bc bw c0) ∧ Hid (w.grownBy wr (some bc))) (fun _ i _ => n - (intOf i).toNat)
    case atStart => exact ⟨0, f, [], c, 0, rfl, rfl, by omega, Lib.hid (by rw [HN.out]; omega), H1, Lib.hid (Nat.le_refl _), Lib.hid rfl, Lib.hid rfl, Lib.hid rfl, hc, HW, Lib.hid (World.grownBy.refl _ _)⟩
    case round =>
      obtain ⟨k, r, P, c0, ah, rfl, rfl, hah, HK, R1, HS, HF, HZ, HC0, hc0, HWr, HG⟩ := hrel
      cases r with
      | nil =>
        have hk : k = n := HK.out
        have hk' : (n : Int) ≤ (k : Int) := by omega
        clear hk
        have eF : fullR f d 0 = P := by rw [HF.out, fullR, List.append_nil]
        have e0 : C = 0 := by rw [HC.out, eF]; exact HZ.out
        have E0 := Lib.hid e0
        have EF := Lib.hid eF
        clear e0 eF
        go_wp2_with (fail)
        go_ret
        exact WkP.of c0 (by rw [E0.out]; rfl) (fun _ => ⟨by rw [EF.out]; exact HC0.out, hc0⟩) HWr.out HG.out
      | cons z cr li bs sub rest =>
        obtain ⟨⟨b1, o1, At1, m1, cm1, As1, e1, rfl, hb1, hb1k, ⟨x0, x1, x2, x3, x4⟩, t1, s1, l1, l2, l3⟩, r1⟩ := R1.out.one
        have hd4 : d ≤ 4 := by
          rcases Int.lt_or_le d 5 with h | h
          · omega
          · have e := HDN.out (by omega)
            subst e
            have := HS.out
            simp only [Fo.size] at this
            omega
        have hge := HG.out
        have hbl : wr.heap[b1]? = w.heap[b1]? := hge.block b1 hb1 (fun e => HOK.out b1 hb1k (by injection e))
        have hcell : ∀ q v, w.cell? ⟨b1, q, none⟩ = some v → wr.cell? ⟨b1, q, none⟩ = some v := fun q v hu => (World.cell?_of_block (w := w) (a := ⟨b1, q, none⟩) hbl).trans hu
        replace x0 := hcell _ _ x0
        replace x1 := hcell _ _ x1
        replace x2 := hcell _ _ x2
        replace x3 := hcell _ _ x3
        replace x4 := hcell _ _ x4
        have hkn : k < n := by have := HK.out; simp only [Fo.len] at this; omega
        have hlt' : (k : Int) < (n : Int) := by omega
        have S1 := Lib.hid s1
        have R1b := Lib.hid r1
        obtain ⟨sl, esl⟩ : ∃ sl, sl = sub.len := ⟨_, rfl⟩
        rw [← esl] at x4 l1 l3
        have ESL := Lib.hid esl
        have hFx : fullR f d 0 = P ++ ((⟨z, cr, li, bs.length, sub.len, d, ah⟩ : En) :: (fullR sub (d + 1) 0 ++ fullR rest d z)) := by rw [HF.out, fullR, if_pos (by omega)]
        have em : bs.length = m1 := t1.1
        rw [em, ← esl] at hFx
        have hst := scan_step hFx HZ.out HC0.out
        rw [← HC.out] at hst
        have RES := Lib.hid hst.1
        have NXT := Lib.hid hst.2
        have HFX := Lib.hid hFx
        have LM : (m1 : Int) ≤ 140737488355328 := by have := t1.2.2.2.2.2; omega
        -- the world of this round
        have cc : wr.cell? ⟨bc, 0, none⟩ = some (.int .i64 (c0 : Int)) := by rw [heap_cell HWr.out.c]; rfl
        have xw : wr.cell? ⟨bw, 0, none⟩ = some (.func (.func 86) #[] #[.pointer (some ⟨bc, 0, none⟩), .pointer (some ⟨bw, 0, none⟩)]) := by rw [heap_cell HWr.out.w]; rfl
        have nbw : bc ≠ bw := HWr.out.n
        have nwb : bw ≠ bc := fun e => nbw e.symm
        have cf : wr.frozen? ⟨bc, 0, none⟩ = false := heap_free HWr.out.c 0
        have hbcl : bc < wr.heap.size := heap_lt HWr.out.c
        have hbwl : bw < wr.heap.size := heap_lt HWr.out.w
        obtain ⟨wa, ewa⟩ : ∃ wa, wa = (wr.setCell ⟨bc, 0, none⟩ (.int .i64 ((c0 : Int) + 1))).alloc (.cells #[.int .i64 z, .bool cr, .bool li, .slice At1 m1 cm1, .slice As1 sl e1] 76) := ⟨_, rfl⟩
        have wka : Wk wa bc bw (c0 + 1) := by rw [ewa]; exact (HWr.out.set (c0 + 1)).far ((Below.refl _ _).alloc (Nat.le_refl _) _)
        have gra : w.grownBy wa (some bc) := only_trans hge (by rw [ewa]; exact only_trans (only_set bc 0 _) (grownBy_of_below ((Below.refl _ _).alloc (Nat.le_refl _) _) _))
        have ya : ∀ (j : Nat) (v : Value), (#[Value.int .i64 z, .bool cr, .bool li, .slice At1 m1 cm1, .slice As1 sl e1] : Array Value)[j]? = some v → wa.cell? ⟨wr.heap.size, j, none⟩ = some v := fun j v h => by
          have hs : (wr.setCell ⟨bc, 0, none⟩ (.int .i64 ((c0 : Int) + 1))).heap.size = wr.heap.size := by simp [World.setCell]
          rw [ewa, ← hs, cell_of_row _ _ _ _ _ (0, 0) (heap_alloc_new _ _)]; exact h
        have y0 := ya 0 _ rfl
        have y2 := ya 2 _ rfl
        have y3 := ya 3 _ rfl
        have y4 := ya 4 _ rfl
        have yc : wa.cell? ⟨bc, 0, none⟩ = some (.int .i64 ((c0 : Int) + 1)) := by rw [heap_cell wka.c]; rfl
        have yw : wa.cell? ⟨bw, 0, none⟩ = some (.func (.func 86) #[] #[.pointer (some ⟨bc, 0, none⟩), .pointer (some ⟨bw, 0, none⟩)]) := by rw [heap_cell wka.w]; rfl
        have WKA := Lib.hid wka
        have GRA := Lib.hid gra
        have EWA := Lib.hid ewa
        have HBCL := Lib.hid hbcl
        clear ya wka gra ewa hge hbl hcell hst hFx s1 r1 esl em t1 l1 hb1k hb1 R1
        have hlc : (c0 : Int) ≤ 64 := by omega
        by_cases h64 : 64 ≤ c0
        · have h64' : (64 : Int) ≤ (c0 : Int) := by omega
          have e := Lib.hid (RES.out 4 (by decide) (fe_64 h64))
          go_wp2_with (fail)
          go_ret
          exact WkP.of (c0 + 1) (by rw [e.out]; rfl) (fun h => absurd (e.out.symm.trans h) (by decide)) (by rw [← EWA.out]; exact WKA.out) (by rw [← EWA.out]; exact GRA.out)
        · have h64' : (c0 : Int) < 64 := by omega
          by_cases hC : z ≤ ah
          · have e := Lib.hid (RES.out 1 (by decide) (fe_1 h64 (.inr (.inr (.inl hC)))))
            go_wp2_with (fail)
            go_ret
            exact WkP.of (c0 + 1) (by rw [e.out]; rfl) (fun h => absurd (e.out.symm.trans h) (by decide)) (by rw [← EWA.out]; exact WKA.out) (by rw [← EWA.out]; exact GRA.out)
          · have hC' : ah < z := by omega
            by_cases hB : 1000 < z
            · have e := Lib.hid (RES.out 1 (by decide) (fe_1 h64 (.inr (.inl hB))))
              go_wp2_with (fail)
              go_ret
              exact WkP.of (c0 + 1) (by rw [e.out]; rfl) (fun h => absurd (e.out.symm.trans h) (by decide)) (by rw [← EWA.out]; exact WKA.out) (by rw [← EWA.out]; exact GRA.out)
            · have hB' : z ≤ 1000 := by omega
              cases li with
              | false =>
                by_cases hD : 0 < sl
                · have hD' : (0 : Int) < (sl : Int) := by omega
                  have e := Lib.hid (RES.out 1 (by decide) (fe_1 h64 (.inr (.inr (.inr (.inl ⟨hD, rfl⟩))))))
                  go_wp2_with (fail)
                  go_ret
                  exact WkP.of (c0 + 1) (by rw [e.out]; rfl) (fun h => absurd (e.out.symm.trans h) (by decide)) (by rw [← EWA.out]; exact WKA.out) (by rw [← EWA.out]; exact GRA.out)
                · have hD' : (sl : Int) ≤ 0 := by omega
                  have fa : Hid (En.fair ⟨z, cr, false, m1, sl, d, ah⟩) := Lib.hid ⟨by show 1 ≤ z; omega, hB', hC', fun _ => by show sl = 0; omega, fun h => by cases h⟩
                  by_cases hF : 4096 < m1
                  · have hF' : (4096 : Int) < (m1 : Int) := by omega
                    have e := Lib.hid (RES.out 4 (by decide) (fe_4b h64 fa.out (fun h => by cases h.1) hF))
                    go_wp2_with (fail)
                    go_ret
                    exact WkP.of (c0 + 1) (by rw [e.out]; rfl) (fun h => absurd (e.out.symm.trans h) (by decide)) (by rw [← EWA.out]; exact WKA.out) (by rw [← EWA.out]; exact GRA.out)
                  · have hF' : (m1 : Int) ≤ 4096 := by omega
                    have HSs : Hid (sub.size < M) := Lib.hid (by have a := HS.out; have b := HM.out; simp only [Fo.size] at a; omega)
                    have SA := Lib.hid (S1.out.only HOK.out GRA.out)
                    have nx := NXT.out (fe_0 h64 fa.out (fun h => by cases h.1) (by show m1 ≤ 4096; omega))
                    have NX := Lib.hid nx
                    clear nx
                    have HZ0 : Hid (0 ≤ z) := Lib.hid (by omega)
                    have q1 : 1 ≤ d + 1 := by omega
                    have q2 : d + 1 ≤ 5 := by omega
                    have q3 : Hid (d + 1 = 5 → sub = .nil) := Lib.hid (fun _ => Fo.len0 (by have := ESL.out; omega))
                    go_wp2_with (fail)
                    rw [← EWA.out]
                    refine (IH.out sub.size HSs.out sub rfl (d + 1) (c0 + 1) q1 q2 q3.out (by omega) ok As1 sl e1 wa bc bw ESL.out.symm SA.out HOK.out l3 WKA.out).mono ?_
                    rintro _ w1 ⟨c1, rfl, hc1, hw1, hg1⟩
                    obtain ⟨E1, eE1⟩ : ∃ E1, E1 = scanF (fullR sub (d + 1) 0) (c0 + 1) := ⟨_, rfl⟩
                    rw [← eE1] at hc1 ⊢
                    have EE1 := Lib.hid eE1
                    have HC1 := Lib.hid hc1
                    have W1 := Lib.hid hw1
                    have G1 := Lib.hid (only_trans GRA.out hg1)
                    have y0b : w1.cell? ⟨wr.heap.size, 0, none⟩ = some (.int .i64 z) := by
                      rw [World.cell?_of_block (w := wa) (a := ⟨wr.heap.size, 0, none⟩) (hg1.block _ (by rw [EWA.out]; simp [World.setCell]) (by intro e; injection e with e; have e2 : wr.heap.size = bc := e; have := HBCL.out; omega))]
                      exact y0
                    clear eE1 hc1 hw1 hg1
                    by_cases hE : E1 = 0
                    · have ed : (E1 != 0) = false := by rw [hE]; rfl
                      have HE := Lib.hid hE
                      clear hE
                      go_wp2_with (fail)
                      refine ⟨⟨k + 1, rest, P ++ ((⟨z, cr, false, m1, sl, d, ah⟩ : En) :: fullR sub (d + 1) 0), c1, z, rfl, by go_num, HZ0.out, Lib.hid (by have := HK.out; simp only [Fo.len] at this; omega), R1b, Lib.hid (by have := HS.out; simp only [Fo.size] at this; omega), Lib.hid ?_, Lib.hid ?_, Lib.hid ?_, (HC1.out HE.out).2, W1, G1⟩, by simp [intOf]; omega⟩
                      · rw [HFX.out]; simp
                      · rw [scanF_append, if_neg (by rw [HZ.out]; simp), ← HC0.out, scanF, fe_0 h64 fa.out (fun h => by cases h.1) (by show m1 ≤ 4096; omega), if_neg (by simp), ← EE1.out]
                        exact HE.out
                      · rw [(HC1.out HE.out).1, HC0.out, List.length_append, List.length_cons]; omega
                    · have ed : (E1 != 0) = true := by simpa using hE
                      have eC : C = E1 := by rw [NX.out, scanF_append, ← EE1.out, if_pos hE]
                      have EC := Lib.hid eC
                      have HE := Lib.hid hE
                      clear hE eC
                      go_wp2_with (fail)
                      go_ret
                      exact WkP.of c1 (by rw [EC.out]; rfl) (fun h => absurd (EC.out.symm.trans h) HE.out) W1.out G1.out
              | true =>
                by_cases hE : 0 < m1
                · have hE' : (0 : Int) < (m1 : Int) := by omega
                  have e := Lib.hid (RES.out 1 (by decide) (fe_1 h64 (.inr (.inr (.inr (.inr ⟨hE, rfl⟩))))))
                  go_wp2_with (fail)
                  go_ret
                  exact WkP.of (c0 + 1) (by rw [e.out]; rfl) (fun h => absurd (e.out.symm.trans h) (by decide)) (by rw [← EWA.out]; exact WKA.out) (by rw [← EWA.out]; exact GRA.out)
                · have hE' : (m1 : Int) ≤ 0 := by omega
                  have hF' : (m1 : Int) ≤ 4096 := by omega
                  have fa : Hid (En.fair ⟨z, cr, true, m1, sl, d, ah⟩) := Lib.hid ⟨by show 1 ≤ z; omega, hB', hC', (fun h => by cases h), fun _ => by show m1 = 0; omega⟩
                  by_cases hG : d = 4
                  · have hG' : (4 : Int) ≤ d := by omega
                    have e := Lib.hid (RES.out 5 (by decide) (fe_5 h64 fa.out rfl hG))
                    go_wp2_with (fail)
                    go_ret
                    exact WkP.of (c0 + 1) (by rw [e.out]; rfl) (fun h => absurd (e.out.symm.trans h) (by decide)) (by rw [← EWA.out]; exact WKA.out) (by rw [← EWA.out]; exact GRA.out)
                  · have hG' : d < 4 := by omega
                    have HSs : Hid (sub.size < M) := Lib.hid (by have a := HS.out; have b := HM.out; simp only [Fo.size] at a; omega)
                    have SA := Lib.hid (S1.out.only HOK.out GRA.out)
                    have nx := NXT.out (fe_0 h64 fa.out (fun h => by have : d = 4 := h.2; omega) (by show m1 ≤ 4096; omega))
                    have NX := Lib.hid nx
                    clear nx
                    have HZ0 : Hid (0 ≤ z) := Lib.hid (by omega)
                    have q1 : 1 ≤ d + 1 := by omega
                    have q2 : d + 1 ≤ 5 := by omega
                    have q3 : Hid (d + 1 = 5 → sub = .nil) := Lib.hid (fun h => by omega)
                    go_wp2_with (fail)
                    rw [← EWA.out]
                    refine (IH.out sub.size HSs.out sub rfl (d + 1) (c0 + 1) q1 q2 q3.out (by omega) ok As1 sl e1 wa bc bw ESL.out.symm SA.out HOK.out l3 WKA.out).mono ?_
                    rintro _ w1 ⟨c1, rfl, hc1, hw1, hg1⟩
                    obtain ⟨E1, eE1⟩ : ∃ E1, E1 = scanF (fullR sub (d + 1) 0) (c0 + 1) := ⟨_, rfl⟩
                    rw [← eE1] at hc1 ⊢
                    have EE1 := Lib.hid eE1
                    have HC1 := Lib.hid hc1
                    have W1 := Lib.hid hw1
                    have G1 := Lib.hid (only_trans GRA.out hg1)
                    have y0b : w1.cell? ⟨wr.heap.size, 0, none⟩ = some (.int .i64 z) := by
                      rw [World.cell?_of_block (w := wa) (a := ⟨wr.heap.size, 0, none⟩) (hg1.block _ (by rw [EWA.out]; simp [World.setCell]) (by intro e; injection e with e; have e2 : wr.heap.size = bc := e; have := HBCL.out; omega))]
                      exact y0
                    clear eE1 hc1 hw1 hg1
                    by_cases hE : E1 = 0
                    · have ed : (E1 != 0) = false := by rw [hE]; rfl
                      have HE := Lib.hid hE
                      clear hE
                      go_wp2_with (fail)
                      refine ⟨⟨k + 1, rest, P ++ ((⟨z, cr, true, m1, sl, d, ah⟩ : En) :: fullR sub (d + 1) 0), c1, z, rfl, by go_num, HZ0.out, Lib.hid (by have := HK.out; simp only [Fo.len] at this; omega), R1b, Lib.hid (by have := HS.out; simp only [Fo.size] at this; omega), Lib.hid ?_, Lib.hid ?_, Lib.hid ?_, (HC1.out HE.out).2, W1, G1⟩, by simp [intOf]; omega⟩
                      · rw [HFX.out]; simp
                      · rw [scanF_append, if_neg (by rw [HZ.out]; simp), ← HC0.out, scanF, fe_0 h64 fa.out (fun h => by have : d = 4 := h.2; omega) (by show m1 ≤ 4096; omega), if_neg (by simp), ← EE1.out]
                        exact HE.out
                      · rw [(HC1.out HE.out).1, HC0.out, List.length_append, List.length_cons]; omega
                    · have ed : (E1 != 0) = true := by simpa using hE
                      have eC : C = E1 := by rw [NX.out, scanF_append, ← EE1.out, if_pos hE]
                      have EC := Lib.hid eC
                      have HE := Lib.hid hE
                      clear hE eC
                      go_wp2_with (fail)
                      go_ret
                      exact WkP.of c1 (by rw [EC.out]; rfl) (fun h => absurd (EC.out.symm.trans h) HE.out) W1.out G1.out
end Go.Proofs.Ytcffinkkfdfcaaa

/- What tlv.Check answers. Conditions: items that can be read. -/
namespace Go.Proofs.Ytcffinkkfdfcaaa
open Go Go.RowKit

set_option maxRecDepth 100000 in
set_option maxHeartbeats 4000000 in
theorem Check_c (f : Fo) (ok : Nat → Prop) (A : Option Addr) (n c : Nat) (w : World) (hn : f.len = n) (h1 : FoR ok w A 0 f) (hl : n ≤ 2199023255488) :
    Calls Try.prog 61 #[.slice A n c] w fun r w' => r = .returned (.int .i64 (checkF f)) ∧ Below w.heap.size w w' := by
  have HN := Lib.hid hn; clear hn
  obtain ⟨C, hC⟩ : ∃ C, C = checkF f := ⟨_, rfl⟩
  rw [← hC]
  have HC := Lib.hid hC; clear hC
  have hmf : ∀ (fn : Fn) (first cap : Array Value) (w : World), (Instr.makeFunc fn first cap).run Try.prog w = .ok (.func fn first cap) w := fun _ _ _ _ => rfl
  have H1 := Lib.hid (FoR.weak (ok' := (· < w.heap.size)) (fun _ _ h => h) f A 0 h1); clear h1
  obtain ⟨w0, ew0⟩ : ∃ w0, w0 = (w.alloc (.cells #[.int .i64 0] 3)).alloc (.cells #[.nilFunc] 145) := ⟨_, rfl⟩
  have hs1 : (w.alloc (.cells #[.int .i64 0] 3)).heap.size = w.heap.size + 1 := by simp
  have g0 : w0.heap[w.heap.size]? = some (.cells #[.int .i64 0] 3 (0, 0)) := by rw [ew0, Below.heap_alloc _ _ _ (by simp), heap_alloc_new]
  have g1 : w0.heap[w.heap.size + 1]? = some (.cells #[.nilFunc] 145 (0, 0)) := by rw [ew0, ← hs1, heap_alloc_new]
  have kb0 : Below w.heap.size w w0 := by rw [ew0]; exact ((Below.refl _ _).alloc (Nat.le_refl _) _).alloc (by simp) _
  have y0 : ((w.alloc (.cells #[.int .i64 0] 3)).alloc (.cells #[.nilFunc] 145)).cell? ⟨w.heap.size + 1, 0, none⟩ = some .nilFunc := by rw [← ew0, heap_cell g1]; rfl
  have y1 : ((w.alloc (.cells #[.int .i64 0] 3)).alloc (.cells #[.nilFunc] 145)).frozen? ⟨w.heap.size + 1, 0, none⟩ = false := by rw [← ew0]; exact heap_free g1 0
  obtain ⟨wa, ewa⟩ : ∃ wa, wa = (w.alloc (.cells #[.int .i64 0] 3)).alloc (.cells #[.func (.func 86) #[] #[.pointer (some ⟨w.heap.size, 0, none⟩), .pointer (some ⟨w.heap.size + 1, 0, none⟩)]] 145) := ⟨_, rfl⟩
  have kb : Below w.heap.size w wa := by rw [ewa]; exact ((Below.refl _ _).alloc (Nat.le_refl _) _).alloc (by simp) _
  have wk : Wk wa w.heap.size (w.heap.size + 1) 0 := by
    rw [ewa]
    refine ⟨?_, ?_, by omega⟩
    · rw [Below.heap_alloc _ _ _ (by simp), heap_alloc_new]; rfl
    · rw [← hs1, heap_alloc_new]
  have WK := Lib.hid wk
  have KB := Lib.hid kb
  have EWA := Lib.hid ewa
  clear wk kb ewa hs1 g0 g1 kb0 ew0
  go_enter Try.func61, Try.ntmps61
  go_wp2_with (fail)

  rw [← EWA.out]
  refine (walk_c f.size f rfl 1 0 (by omega) (by omega) (fun h => by omega) (by omega) _ A n c wa _ _ HN.out (H1.out.below KB.out) (fun j hj => Nat.ne_of_lt hj) hl WK.out).mono ?_
  rintro _ w1 ⟨c1, rfl, hc1, hw1, hg1⟩
  have hk1 : Below w.heap.size w w1 := KB.out.grown hg1 KB.out.size (fun j hj => by injection hj with hj; omega)
  have K1 := Lib.hid hk1
  obtain ⟨E, eE⟩ : ∃ E, E = scanF (fullR f 1 0) 0 := ⟨_, rfl⟩
  rw [← eE]
  have EE := Lib.hid eE
  clear eE hc1 hw1 hg1 hk1
  by_cases hE : E = 0
  · have hz : scanF (fullR f 1 0) 0 = 0 := by rw [← EE.out]; exact hE
    obtain ⟨gd, sz⟩ := check_scan hz
    have HZ := Lib.hid hz
    have GD := Lib.hid gd
    have ed : (E != 0) = false := by rw [hE]; rfl
    clear hz gd hE
    go_wp2_with (fail)
    refine (lay_c f.size f rfl GD.out (by omega) _ A n c w1 HN.out (H1.out.below K1.out) hl).mono ?_
    rintro _ w2 ⟨v2, rfl, ho2, hk2⟩
    obtain ⟨A2, c2, rfl, -, -, -, -⟩ := OwnB.form ho2
    obtain ⟨l2, el2⟩ : ∃ l2, l2 = (layL f).length := ⟨_, rfl⟩
    rw [← el2]
    have EL2 := Lib.hid el2
    have K2 := Lib.hid (K1.out.trans (hk2.mono K1.out.size))
    clear el2 ho2 hk2
    by_cases h4 : 4096 < l2
    · have h4' : (4096 : Int) < (l2 : Int) := by omega
      have e := Lib.hid (show C = 4 by rw [HC.out, checkF, HZ.out, if_neg (by simp), if_pos (by rw [← EL2.out]; exact h4)])
      go_wp2_with (fail)
      go_ret
      exact ⟨by rw [e.out]; rfl, K2.out⟩
    · have h4' : (l2 : Int) ≤ 4096 := by omega
      have e := Lib.hid (show C = 0 by rw [HC.out, checkF, HZ.out, if_neg (by simp), if_neg (by rw [← EL2.out]; exact h4)])
      go_wp2_with (fail)
      go_ret
      exact ⟨by rw [e.out]; rfl, K2.out⟩
  · have ed : (E != 0) = true := by simpa using hE
    have e := Lib.hid (show C = E by rw [HC.out, checkF, ← EE.out, if_pos hE])
    clear hE
    go_wp2_with (fail)
    go_ret
    exact ⟨by rw [e.out]; rfl, K1.out⟩
end Go.Proofs.Ytcffinkkfdfcaaa
