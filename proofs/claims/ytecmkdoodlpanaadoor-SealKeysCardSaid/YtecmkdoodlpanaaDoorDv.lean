/- What mac.Derive, the reference's Told and its Derive answer: the code of the label and each part, each with its length. Conditions: the table stands; lengths that fit. -/
import Derived.Test.YtecmkdoodlpanaaDoorMr
import Derived.Test.YtecmkdoodlpanaaDoorVa
import Derived.Test.YtecmkdoodlpanaaDoorStr
namespace Go.Proofs.YtecmkdoodlpanaaDoor
open Go Go.RowKit
attribute [local go_sem] run_eq_sumV run_guard_sumV

/-- One part with its length; the label and the parts. -/
def toldP (p : List UInt8) : List UInt8 := varL p.length ++ p
def toldL (lab : List UInt8) (bss : List (List UInt8)) : List UInt8 := varL lab.length ++ lab ++ (bss.map toldP).flatten
theorem toldL_nil (lab : List UInt8) : toldL lab [] = varL lab.length ++ lab := by simp [toldL]
theorem toldL_snoc (lab : List UInt8) (bss : List (List UInt8)) (p : List UInt8) : toldL lab (bss ++ [p]) = toldL lab bss ++ varL p.length ++ p := by
  simp [toldL, toldP]
theorem toldL_take (lab : List UInt8) (bss : List (List UInt8)) (k : Nat) (h : k < bss.length) : toldL lab (bss.take (k + 1)) = toldL lab (bss.take k) ++ varL (bss[k].length) ++ bss[k] := by
  rw [List.take_succ_eq_append_getElem h, toldL_snoc]
theorem toldL_len (lab : List UInt8) : ∀ (bss : List (List UInt8)), lab.length < 2 ^ 64 → (∀ b ∈ bss, b.length < 2 ^ 64) → (toldL lab bss).length ≤ 10 + lab.length + 10 * bss.length + bss.flatten.length := by
  intro bss h0 h
  have h1 := varL_len10 (n := lab.length) h0
  have h2 : (bss.map toldP).flatten.length ≤ 10 * bss.length + bss.flatten.length := by
    induction bss with
    | nil => simp
    | cons b t ih =>
      have i1 := ih (fun b hb => h b (List.mem_cons_of_mem _ hb))
      have i2 := varL_len10 (n := b.length) (h b List.mem_cons_self)
      simp only [List.map_cons, List.flatten_cons, List.length_append, List.length_cons, toldP]
      omega
  rw [toldL, List.length_append, List.length_append]
  omega
theorem toldL_le (lab : List UInt8) (bss : List (List UInt8)) (k : Nat) : (toldL lab (bss.take k)).length ≤ (toldL lab bss).length := by
  have e : bss = bss.take k ++ bss.drop k := (List.take_append_drop k bss).symm
  have h : (toldL lab bss).length = (toldL lab (bss.take k)).length + ((bss.drop k).map toldP).flatten.length := by
    conv => lhs; rw [e]
    simp only [toldL, List.map_append, List.flatten_append, List.length_append]
    omega
  omega
theorem toldL_num (lab : List UInt8) (bss : List (List UInt8)) : bss.length ≤ (toldL lab bss).length := by
  have h1 : (bss.map toldP).flatten.length ≤ (toldL lab bss).length := by rw [toldL, List.length_append]; omega
  have h2 : ∀ (l : List (List UInt8)), l.length ≤ (l.map toldP).flatten.length := by
    intro l
    induction l with
    | nil => simp
    | cons b t ih =>
      have h3 : 1 ≤ (varL b.length).length := by rw [varL]; split <;> simp
      simp only [List.map_cons, List.flatten_cons, List.length_append, List.length_cons, toldP]; omega
  exact Nat.le_trans (h2 bss) h1

set_option maxRecDepth 100000 in
set_option maxHeartbeats 4000000 in
theorem Told_c (s : ByteArray) (A : Option Addr) (n c : Nat) (bss : List (List UInt8)) (w : World) (hs : s.size ≤ 140737488351232) (hn : bss.length = n) (hr : RdS w A bss) (hbs : ∀ b ∈ bss, b.length ≤ 140737488351232)
    (hl : (toldL (strB s) bss).length ≤ 900000000) :
    Calls Tryd.prog 37 #[.string s, .slice A n c] w fun e w' => ∃ v, e = .returned v ∧ OwnB w' w.heap.size v (toldL (strB s) bss) ∧ Below w.heap.size w w' := by
  have HN := Lib.hid hn; clear hn
  have HBS := Lib.hid hbs; clear hbs
  have l0 := toldL_le (strB s) bss 0
  rw [List.take_zero, toldL_nil, List.length_append, strB_len] at l0
  have hu : U64 s.size := Nat.lt_of_le_of_lt hs (by decide)
  have hu2 := varL_len10 hu
  have hnl : n ≤ 900000000 := by
    have := toldL_num (strB s) bss
    rw [HN.out] at this
    omega
  have hl0 := hl
  have HL := Lib.hid hl0; clear hl0 hl
  have hx0 : (varL s.size).length + s.size ≤ 900000000 := by have := HL.out; omega
  clear l0
  go_enter Tryd.func37, Tryd.ntmps37
  go_wp2_with (fail)
  refine (refVar_c s.size w hu).mono ?_
  rintro e w1 ⟨v, rfl, ho, hb1⟩
  have k1 := hb1.size
  go_wp2_with (first | (at_builtin; refine wpList_appStr _ rfl (.tmp 11) (.tmp 12) rfl w.heap.size v _ rfl ho s rfl (by omega) k1 ?_; intro v2 w2 h2 h3; have HO := Lib.hid h2; clear h2; have k2 := hb1.grown h3 k1 (fun k e => (Own.lt ho k e).1); clear h3))
  have h4 := HO.out
  rw [← strB_len s, ← toldL_nil] at h4
  clear HO
  have HO := Lib.hid h4; clear h4 ho hb1 hu2
  go_loopw [5, 6] (fun vr i wr => ∃ k : Nat, k ≤ n ∧ i = .int .i64 k ∧ Hid (OwnB wr w.heap.size vr (toldL (strB s) (bss.take k))) ∧ Below w.heap.size w wr) (fun _ i _ => n - (intOf i).toNat)
  case atStart => exact ⟨0, Nat.zero_le _, rfl, by rw [List.take_zero]; exact HO, k2⟩
  case round =>
    clear HO k2
    obtain ⟨k, hk, rfl, HO, kb⟩ := hrel
    rcases Nat.lt_or_ge k n with hlt | hge
    · obtain ⟨b, off, rfl, hblt, hcc⟩ := hr.addr (by rw [HN.out]; omega)
      obtain ⟨Ak, ck, g1, g2, g3, g4⟩ := hcc k (by rw [HN.out]; exact hlt)
      have g5 := HBS.out _ (List.getElem_mem (by rw [HN.out]; exact hlt : k < bss.length))
      have e1 := toldL_take (strB s) bss k (by rw [HN.out]; exact hlt)
      have e2 := toldL_le (strB s) bss (k + 1)
      have e3 := HL.out
      obtain ⟨x, ex⟩ : ∃ x, x = bss[k]'(by rw [HN.out]; exact hlt) := ⟨_, rfl⟩
      rw [← ex] at g1 g2 g3 g5 e1
      have e4 := congrArg List.length e1
      rw [List.length_append, List.length_append] at e4
      have e5 : (toldL (strB s) (bss.take k)).length + (varL x.length).length + x.length ≤ 900000000 := by omega
      obtain ⟨m, em⟩ : ∃ m, m = x.length := ⟨_, rfl⟩
      rw [← em] at g1 g3 g5 e5 e1
      clear hcc g4 e2 e3 e4
      have EX := Lib.hid ex; clear ex
      have EM := Lib.hid em; clear em
      have E1 := Lib.hid e1; clear e1
      have G1 := Lib.hid g1
      rw [← kb.cell (p := ⟨b, _, none⟩) hblt] at g1
      have hlt' : (k : Int) < (n : Int) := by omega
      have hum : U64 m := Nat.lt_of_le_of_lt g5 (by decide)
      have z1 := kb.size
      go_wp2_with (fail)
      refine (refVar_c m wr hum).mono ?_
      rintro e w3 ⟨v3, rfl, ho3, hb3⟩
      have HO3 : Hid (OwnB w3 w.heap.size _ (toldL (strB s) (bss.take k))) := Lib.hid (Own.below HO.out hb3)
      obtain ⟨A3, c3, rfl, q1, q2, q3, _⟩ := OwnB.form ho3
      have kb3 := kb.trans (hb3.mono kb.size)
      have z3 := kb3.size
      clear g1 HO ho3 hb3
      go_wp2_with (first | (at_builtin; refine wpList_appB _ rfl (.tmp 20) (.tmp 27) rfl w.heap.size _ _ rfl HO3.out A3 _ c3 (varL m) rfl rfl q3 (by omega) z3 ?_; intro v4 w4 h5 h6 _; have HO4 := Lib.hid h5; clear h5; have kb4 := kb3.grown h6 z3 (fun k e => (Own.lt HO3.out k e).1); have z4 := kb4.size; have g1 := G1.out; rw [← kb4.cell (p := ⟨b, _, none⟩) hblt] at g1; clear h6 q3 q1 q2) | (at_builtin; refine wpList_appB _ rfl (.tmp 29) (.tmp 33) rfl w.heap.size _ _ rfl HO4.out Ak m ck x rfl EM.out.symm (g2.below kb4) (by rw [List.length_append]; omega) z4 ?_; intro v5 w5 h5 h6 _; have HO5 := Lib.hid h5; clear h5; have kb5 := kb4.grown h6 z4 (fun k e => (Own.lt HO4.out k e).1); clear h6))
      go_roundw
      case rel => exact ⟨k + 1, by omega, by go_num, by rw [E1.out]; exact HO5, kb5⟩
      case measure => simp [intOf]; omega
    · obtain rfl : n = k := by omega
      have e1 : bss.take n = bss := List.take_of_length_le (by rw [HN.out]; exact Nat.le_refl _)
      rw [e1] at HO
      clear e1
      go_wp2
      go_ret
      exact ⟨_, rfl, HO.out, kb⟩

set_option maxRecDepth 100000 in
set_option maxHeartbeats 4000000 in
theorem Derive_c (Ak : Option Addr) (nk ck : Nat) (key : List UInt8) (s : ByteArray) (A : Option Addr) (n c : Nat) (bss : List (List UInt8)) (w : World) (hnk : key.length = nk) (hrk : Rd w Ak (key.map bv)) (hck : nk ≤ ck) (hmk : ck ≤ maxLen) (hlk : nk ≤ 1000000000)
    (hs : s.size ≤ 140737488351232) (hn : bss.length = n) (hr : RdS w A bss) (hbs : ∀ b ∈ bss, b.length ≤ 140737488351232)
    (hl : (toldL (strB s) bss).length ≤ 900000000) (hT : Tab w) :
    Calls Tryd.prog 31 #[.slice Ak nk ck, .string s, .slice A n c] w fun e w' => e = .returned (sumV (codeB key (toldL (strB s) bss))) ∧ Below w.heap.size w w' := by
  have HNK := Lib.hid hnk; clear hnk
  have HT := Lib.hid hT; clear hT
  have HN := Lib.hid hn; clear hn
  have HBS := Lib.hid hbs; clear hbs
  have l0 := toldL_le (strB s) bss 0
  rw [List.take_zero, toldL_nil, List.length_append, strB_len] at l0
  have hu : U64 s.size := Nat.lt_of_le_of_lt hs (by decide)
  have hu2 := varL_len10 hu
  have hnl : n ≤ 900000000 := by
    have := toldL_num (strB s) bss
    rw [HN.out] at this
    omega
  have hl0 := hl
  have HL := Lib.hid hl0; clear hl0 hl
  have hx0 : (varL s.size).length + s.size ≤ 900000000 := by have := HL.out; omega
  clear l0
  have z32 : (List.replicate 32 (0 : UInt8)).length = 32 := rfl
  have Z32 := Lib.hid z32; clear z32
  go_enter Tryd.func31, Tryd.ntmps31
  have k1 : Below w.heap.size w (w.alloc (.cells #[.int .u8 0, .int .u8 0, .int .u8 0, .int .u8 0, .int .u8 0, .int .u8 0, .int .u8 0, .int .u8 0, .int .u8 0, .int .u8 0, .int .u8 0, .int .u8 0, .int .u8 0, .int .u8 0, .int .u8 0, .int .u8 0, .int .u8 0, .int .u8 0, .int .u8 0, .int .u8 0, .int .u8 0, .int .u8 0, .int .u8 0, .int .u8 0, .int .u8 0, .int .u8 0, .int .u8 0, .int .u8 0, .int .u8 0, .int .u8 0, .int .u8 0, .int .u8 0] 46)) := (Below.refl _ _).alloc (Nat.le_refl _) _
  have hz := zeroA32 w
  have HZ := Lib.hid hz; clear hz
  have s1 : w.heap.size + 1 ≤ (w.alloc (.cells (List.replicate 32 (Value.int .u8 0)).toArray 46)).heap.size := by simp
  go_wp2_with (fail)
  refine (Var_c s.size _ hu).mono ?_
  rintro e w1 ⟨v, rfl, ho, hb1⟩
  have ho0 := Own.low ho s1
  have HZ1 := Lib.hid (HZ.out.below hb1)
  have k2 := k1.trans (hb1.mono k1.size)
  have z1 : w.heap.size + 1 ≤ w1.heap.size := Nat.le_trans s1 hb1.size
  clear ho hb1 HZ s1
  go_wp2_with (first | (at_builtin; refine wpList_appStr _ rfl (.tmp 13) (.tmp 14) rfl (w.heap.size + 1) v _ rfl ho0 s rfl (by omega) z1 ?_; intro v2 w2 h2 h3; have HO := Lib.hid h2; clear h2; have k3 := k2.grown h3 k2.size (fun k e => by have := (Own.lt ho0 k e).1; omega); have HZ2 := Lib.hid (HZ1.out.grown h3 (fun e => by have := (Own.lt ho0 _ e).1; omega)); have z2 := Nat.le_trans z1 h3.size; clear h3))
  have h4 := HO.out
  rw [← strB_len s, ← toldL_nil] at h4
  clear HO HZ1
  have HO := Lib.hid h4; clear h4 ho0 k2 hu2
  go_loopw [7, 9, 18] (fun vr _ i wr => ∃ k : Nat, k ≤ n ∧ i = .int .i64 k ∧ Hid (OwnB wr (w.heap.size + 1) vr (toldL (strB s) (bss.take k))) ∧ Below w.heap.size w wr ∧ Hid (Bs wr w.heap.size 46 (List.replicate 32 0)) ∧ w.heap.size + 1 ≤ wr.heap.size) (fun _ _ i _ => n - (intOf i).toNat)
  case atStart => exact ⟨0, Nat.zero_le _, rfl, by rw [List.take_zero]; exact HO, k3, HZ2, z2⟩
  case round =>
    clear HO k3 HZ2 z2
    obtain ⟨k, hk, rfl, HO, kb, HZ, z1⟩ := hrel
    rcases Nat.lt_or_ge k n with hlt | hge
    · obtain ⟨b, off, rfl, hblt, hcc⟩ := hr.addr (by rw [HN.out]; omega)
      obtain ⟨Ak9, ck9, g1, g2, g3, g4⟩ := hcc k (by rw [HN.out]; exact hlt)
      have g5 := HBS.out _ (List.getElem_mem (by rw [HN.out]; exact hlt : k < bss.length))
      have e1 := toldL_take (strB s) bss k (by rw [HN.out]; exact hlt)
      have e2 := toldL_le (strB s) bss (k + 1)
      have e3 := HL.out
      obtain ⟨x, ex⟩ : ∃ x, x = bss[k]'(by rw [HN.out]; exact hlt) := ⟨_, rfl⟩
      rw [← ex] at g1 g2 g3 g5 e1
      have e4 := congrArg List.length e1
      rw [List.length_append, List.length_append] at e4
      have e5 : (toldL (strB s) (bss.take k)).length + (varL x.length).length + x.length ≤ 900000000 := by omega
      obtain ⟨m, em⟩ : ∃ m, m = x.length := ⟨_, rfl⟩
      rw [← em] at g1 g3 g5 e5 e1
      clear hcc g4 e2 e3 e4
      have EX := Lib.hid ex; clear ex
      have EM := Lib.hid em; clear em
      have E1 := Lib.hid e1; clear e1
      rw [← kb.cell (p := ⟨b, _, none⟩) hblt] at g1
      have hlt' : (k : Int) < (n : Int) := by omega
      have hum : U64 m := Nat.lt_of_le_of_lt g5 (by decide)
      go_wp2_with (fail)
      refine (Var_c m wr hum).mono ?_
      rintro e w3 ⟨v3, rfl, ho3, hb3⟩
      have HO3 : Hid (OwnB w3 (w.heap.size + 1) _ (toldL (strB s) (bss.take k))) := Lib.hid (Own.below HO.out hb3)
      obtain ⟨A3, c3, rfl, q1, q2, q3, _⟩ := OwnB.form ho3
      have kb3 := kb.trans (hb3.mono kb.size)
      have HZ3 := Lib.hid (HZ.out.below hb3)
      have z3 := Nat.le_trans z1 hb3.size
      clear g1 HO ho3 hb3 HZ
      go_wp2_with (first | (at_builtin; refine wpList_appB _ rfl (.tmp 22) (.tmp 26) rfl (w.heap.size + 1) _ _ rfl HO3.out A3 _ c3 (varL m) rfl rfl q3 (by omega) z3 ?_; intro v4 w4 h5 h6 _; have HO4 := Lib.hid h5; clear h5; have kb4 := kb3.grown h6 kb3.size (fun k e => by have := (Own.lt HO3.out k e).1; omega); have HZ4 := Lib.hid (HZ3.out.grown h6 (fun e => by have := (Own.lt HO3.out _ e).1; omega)); have z4 := Nat.le_trans z3 h6.size; clear h6 q3 q1 q2) | (at_builtin; refine wpList_appB _ rfl (.tmp 27) (.tmp 28) rfl (w.heap.size + 1) _ _ rfl HO4.out Ak9 m ck9 x rfl EM.out.symm (g2.below kb4) (by rw [List.length_append]; omega) z4 ?_; intro v5 w5 h5 h6 _; have HO5 := Lib.hid h5; clear h5; have kb5 := kb4.grown h6 kb4.size (fun k e => by have := (Own.lt HO4.out k e).1; omega); have HZ5 := Lib.hid (HZ4.out.grown h6 (fun e => by have := (Own.lt HO4.out _ e).1; omega)); have z5 := Nat.le_trans z4 h6.size; clear h6))
      go_roundw
      case rel => exact ⟨k + 1, by omega, by go_num, by rw [E1.out]; exact HO5, kb5, HZ5, z5⟩
      case measure => simp [intOf]; omega
    · obtain rfl : n = k := by omega
      have e1 : bss.take n = bss := List.take_of_length_le (by rw [HN.out]; exact Nat.le_refl _)
      rw [e1] at HO
      clear e1
      obtain ⟨A3, c3, rfl, q1, q2, q3, _⟩ := OwnB.form HO.out
      obtain ⟨T, eT⟩ : ∃ T, T = toldL (strB s) bss := ⟨_, rfl⟩
      rw [← eT] at q1 q3 HO HL ⊢
      obtain ⟨nt, ent⟩ : ∃ nt, nt = T.length := ⟨_, rfl⟩
      rw [← ent] at q1 ⊢
      have ET := Lib.hid eT; clear eT
      have ENT := Lib.hid ent; clear ent
      clear HO
      go_wp2_with (fail)
      have a3 : ∀ x ∈ [((A3, nt, c3) : Option Addr × Nat × Nat)].zip [T], x.2.length = x.1.2.1 ∧ Rd wr x.1.1 (x.2.map bv) ∧ x.1.2.1 ≤ x.1.2.2 ∧ x.1.2.2 ≤ maxLen := by
        intro x hx
        simp only [List.zip_cons_cons, List.zip_nil_right, List.mem_singleton] at hx
        subst hx
        exact ⟨ENT.out.symm, q3, q1, q2⟩
      have r1 := RdS_lit wr _ _ 22 (by simp only [List.length_cons, List.length_nil]) a3
      simp only [List.map_cons, List.map_nil] at r1
      clear a3
      have kb6 := kb.alloc kb.size (.cells #[.slice A3 nt c3] 22)
      have HZ6 := Lib.hid (HZ.out.alloc (.cells #[.slice A3 nt c3] 22))
      refine (Code_c Ak nk ck key _ 1 1 [T] T _ HNK.out (hrk.below kb6) hck hmk hlk rfl r1 (by omega) (by simp) (by exact HL.out) (Tab.below HT.out kb6 HT.out.1)).mono ?_
      rintro e w7 ⟨rfl, hb7⟩
      have kb7 := kb6.trans (hb7.mono kb6.size)
      have hz7 := HZ6.out.below hb7
      have z32 := Z32.out
      clear HZ6 HZ kb hb7 r1 kb6
      go_wp2_with (first | ((with_reducible refine wpList_storeSum _ rfl (.tmp 6) (.tmp 34) rfl w.heap.size (codeB key T) _ _ rfl rfl hz7 z32 ?_); intro we hw5 hg5))
      have hbw := kb7.grown hg5 kb7.size (fun k e => by injection e with e; omega)
      exact bodyPost_ret (v := sumV (codeB key T)) (results_sum rfl _ _ w.heap.size _ _ rfl hw5) rfl ⟨by rw [ET.out], hbw⟩

set_option maxRecDepth 100000 in
set_option maxHeartbeats 4000000 in
theorem refDerive_c (Ak : Option Addr) (nk ck : Nat) (key : List UInt8) (s : ByteArray) (A : Option Addr) (n c : Nat) (bss : List (List UInt8)) (w : World) (hnk : key.length = nk) (hrk : Rd w Ak (key.map bv)) (hck : nk ≤ ck) (hmk : ck ≤ maxLen) (hlk : nk ≤ 1000000000)
    (hs : s.size ≤ 140737488351232) (hn : bss.length = n) (hr : RdS w A bss) (hbs : ∀ b ∈ bss, b.length ≤ 140737488351232)
    (hl : (toldL (strB s) bss).length ≤ 900000000) :
    Calls Tryd.prog 32 #[.slice Ak nk ck, .string s, .slice A n c] w fun e w' => e = .returned (sumV (codeB key (toldL (strB s) bss))) ∧ Below w.heap.size w w' := by
  have HNK := Lib.hid hnk; clear hnk
  have HN := Lib.hid hn; clear hn
  have HBS := Lib.hid hbs; clear hbs
  have hl0 := hl
  have HL := Lib.hid hl0; clear hl0 hl
  have z32 : (List.replicate 32 (0 : UInt8)).length = 32 := rfl
  have Z32 := Lib.hid z32; clear z32
  go_enter Tryd.func32, Tryd.ntmps32
  have k1 : Below w.heap.size w (w.alloc (.cells #[.int .u8 0, .int .u8 0, .int .u8 0, .int .u8 0, .int .u8 0, .int .u8 0, .int .u8 0, .int .u8 0, .int .u8 0, .int .u8 0, .int .u8 0, .int .u8 0, .int .u8 0, .int .u8 0, .int .u8 0, .int .u8 0, .int .u8 0, .int .u8 0, .int .u8 0, .int .u8 0, .int .u8 0, .int .u8 0, .int .u8 0, .int .u8 0, .int .u8 0, .int .u8 0, .int .u8 0, .int .u8 0, .int .u8 0, .int .u8 0, .int .u8 0, .int .u8 0] 46)) := (Below.refl _ _).alloc (Nat.le_refl _) _
  have hz := zeroA32 w
  have HZ := Lib.hid hz; clear hz
  go_wp2_with (fail)
  refine (Told_c s A n c bss _ hs HN.out (hr.below k1) HBS.out HL.out).mono ?_
  rintro e wr ⟨v, rfl, ho, hb1⟩
  have HZ1 := Lib.hid (HZ.out.below hb1)
  have kb := k1.trans (hb1.mono k1.size)
  obtain ⟨A3, c3, rfl, q1, q2, q3, _⟩ := OwnB.form ho
  obtain ⟨T, eT⟩ : ∃ T, T = toldL (strB s) bss := ⟨_, rfl⟩
  rw [← eT] at q1 q3 HL ⊢
  obtain ⟨nt, ent⟩ : ∃ nt, nt = T.length := ⟨_, rfl⟩
  rw [← ent] at q1 ⊢
  have ET := Lib.hid eT; clear eT
  have ENT := Lib.hid ent; clear ent
  clear ho hb1 HZ
  go_wp2_with (fail)
  have a3 : ∀ x ∈ [((A3, nt, c3) : Option Addr × Nat × Nat)].zip [T], x.2.length = x.1.2.1 ∧ Rd wr x.1.1 (x.2.map bv) ∧ x.1.2.1 ≤ x.1.2.2 ∧ x.1.2.2 ≤ maxLen := by
    intro x hx
    simp only [List.zip_cons_cons, List.zip_nil_right, List.mem_singleton] at hx
    subst hx
    exact ⟨ENT.out.symm, q3, q1, q2⟩
  have r1 := RdS_lit wr _ _ 22 (by simp only [List.length_cons, List.length_nil]) a3
  simp only [List.map_cons, List.map_nil] at r1
  clear a3
  have kb6 := kb.alloc kb.size (.cells #[.slice A3 nt c3] 22)
  have HZ6 := Lib.hid (HZ1.out.alloc (.cells #[.slice A3 nt c3] 22))
  refine (refCode_c Ak nk ck key _ 1 1 [T] T _ HNK.out (hrk.below kb6) hck hmk hlk rfl r1 (by omega) (by simp) (by exact HL.out)).mono ?_
  rintro e w7 ⟨rfl, hb7⟩
  have kb7 := kb6.trans (hb7.mono kb6.size)
  have hz7 := HZ6.out.below hb7
  have z32 := Z32.out
  clear HZ6 HZ1 kb hb7 r1 kb6
  go_wp2_with (first | ((with_reducible refine wpList_storeSum _ rfl (.tmp 6) (.tmp 12) rfl w.heap.size (codeB key T) _ _ rfl rfl hz7 z32 ?_); intro we hw5 hg5))
  have hbw := kb7.grown hg5 kb7.size (fun k e => by injection e with e; omega)
  exact bodyPost_ret (v := sumV (codeB key T)) (results_sum rfl _ _ w.heap.size _ _ rfl hw5) rfl ⟨by rw [ET.out], hbw⟩
end Go.Proofs.YtecmkdoodlpanaaDoor
