/- What seal.Keys and the reference's Keys answer: an epoch's two keys. Conditions: the table stands; lengths that fit. -/
import Derived.Test.YtecmkdoodlpanaaDoorSe3
import Derived.Test.YtecmkdoodlpanaaDoorSk1
import Derived.Test.YtecmkdoodlpanaaDoorKy
import Derived.Test.YtecmkdoodlpanaaDoorNm
import Derived.Test.YtecmkdoodlpanaaDoorRs
import Derived.Test.YtecmkdoodlpanaaDoorRp
namespace Go.Proofs.YtecmkdoodlpanaaDoor
open Go Go.RowKit
attribute [local go_sem] run_eq_sumV run_guard_sumV

def upS : ByteArray := ⟨#[117, 112]⟩
def downS : ByteArray := ⟨#[100, 111, 119, 110]⟩
def upK (key l : List UInt8) (z : Nat) : List UInt8 := codeB key (toldL (strB upS) [numLI z 4, l])
def downK (key l : List UInt8) (z : Nat) : List UInt8 := codeB key (toldL (strB downS) [numLI z 4, l])
theorem told2_len (s : List UInt8) (n l : List UInt8) (hs : s.length ≤ 4) (hn : n.length = 4) (hl : l.length = 32) : (toldL s [n, l]).length ≤ 900000000 := by
  have := toldL_len s [n, l] (by omega) (by intro b hb; simp only [List.mem_cons, List.not_mem_nil, or_false] at hb; rcases hb with rfl | rfl <;> omega)
  simp only [List.length_cons, List.length_nil, List.flatten_cons, List.flatten_nil, List.append_nil, List.length_append] at this
  omega
theorem numLI4_len (z : Nat) : (numLI z 4).length = 4 := by rw [num4, numL_length]
def zero64 : List UInt8 := List.replicate 64 0
/-- The world behind the parameter's box and the result's cell. -/
theorem keys_world (w : World) (l : List UInt8) (hl : l.length = 32) : ∃ w1, w1 = (w.alloc (.cells (l.map bv).toArray 46)).alloc (.cells #[.int .u8 0, .int .u8 0, .int .u8 0, .int .u8 0, .int .u8 0, .int .u8 0, .int .u8 0, .int .u8 0, .int .u8 0, .int .u8 0, .int .u8 0, .int .u8 0, .int .u8 0, .int .u8 0, .int .u8 0, .int .u8 0, .int .u8 0, .int .u8 0, .int .u8 0, .int .u8 0, .int .u8 0, .int .u8 0, .int .u8 0, .int .u8 0, .int .u8 0, .int .u8 0, .int .u8 0, .int .u8 0, .int .u8 0, .int .u8 0, .int .u8 0, .int .u8 0, .int .u8 0, .int .u8 0, .int .u8 0, .int .u8 0, .int .u8 0, .int .u8 0, .int .u8 0, .int .u8 0, .int .u8 0, .int .u8 0, .int .u8 0, .int .u8 0, .int .u8 0, .int .u8 0, .int .u8 0, .int .u8 0, .int .u8 0, .int .u8 0, .int .u8 0, .int .u8 0, .int .u8 0, .int .u8 0, .int .u8 0, .int .u8 0, .int .u8 0, .int .u8 0, .int .u8 0, .int .u8 0, .int .u8 0, .int .u8 0, .int .u8 0, .int .u8 0] 49) ∧
    Bs w1 w.heap.size 46 l ∧ Bs w1 (w.heap.size + 1) 49 zero64 ∧ Below w.heap.size w w1 ∧ w.heap.size + 2 = w1.heap.size := by
  refine ⟨_, rfl, Bs.alloc (heap_alloc_new w _) _, ?_, ((Below.refl _ _).alloc (Nat.le_refl _) _).alloc (by simp) _, by simp⟩
  have := heap_alloc_new (w.alloc (.cells (l.map bv).toArray 46)) (.cells #[.int .u8 0, .int .u8 0, .int .u8 0, .int .u8 0, .int .u8 0, .int .u8 0, .int .u8 0, .int .u8 0, .int .u8 0, .int .u8 0, .int .u8 0, .int .u8 0, .int .u8 0, .int .u8 0, .int .u8 0, .int .u8 0, .int .u8 0, .int .u8 0, .int .u8 0, .int .u8 0, .int .u8 0, .int .u8 0, .int .u8 0, .int .u8 0, .int .u8 0, .int .u8 0, .int .u8 0, .int .u8 0, .int .u8 0, .int .u8 0, .int .u8 0, .int .u8 0, .int .u8 0, .int .u8 0, .int .u8 0, .int .u8 0, .int .u8 0, .int .u8 0, .int .u8 0, .int .u8 0, .int .u8 0, .int .u8 0, .int .u8 0, .int .u8 0, .int .u8 0, .int .u8 0, .int .u8 0, .int .u8 0, .int .u8 0, .int .u8 0, .int .u8 0, .int .u8 0, .int .u8 0, .int .u8 0, .int .u8 0, .int .u8 0, .int .u8 0, .int .u8 0, .int .u8 0, .int .u8 0, .int .u8 0, .int .u8 0, .int .u8 0, .int .u8 0] 49)
  simpa [Bs, zero64, bv] using this

set_option maxRecDepth 100000 in
set_option maxHeartbeats 4000000 in
theorem Keys_c (Ak : Option Addr) (nk ck : Nat) (key : List UInt8) (z : Nat) (l : List UInt8) (w : World) (hnk : key.length = nk) (hrk : Rd w Ak (key.map bv)) (hck : nk ≤ ck) (hmk : ck ≤ maxLen) (hlk : nk ≤ 1000000000) (hz : U32 z) (hl : l.length = 32) (hT : Tab w) :
    Calls Tryd.prog 21 #[.slice Ak nk ck, .int .u32 z, .agg (l.map bv).toArray] w fun e w' => e = .returned (keysV (upK key l z) (downK key l z)) ∧ Below w.heap.size w w' := by
  have HNK := Lib.hid hnk; clear hnk
  have HT := Lib.hid hT; clear hT
  have HL := Lib.hid hl; clear hl
  have hz6 := u32_64 hz
  have hz8 : U64 z := by unfold U32 at hz; exact Nat.lt_of_lt_of_le hz (by decide)
  have HBS : Hid (∀ b ∈ [numLI z 4, l], b.length ≤ 140737488351232) := Lib.hid (by
    intro b hb
    simp only [List.mem_cons, List.not_mem_nil, or_false] at hb
    rcases hb with rfl | rfl
    · rw [numLI4_len]; decide
    · rw [HL.out]; decide)
  have HTL0 : Hid ((toldL (strB upS) [numLI z 4, l]).length ≤ 900000000) := Lib.hid (told2_len _ _ _ (by decide) (numLI4_len z) HL.out)
  have HTL1 : Hid ((toldL (strB downS) [numLI z 4, l]).length ≤ 900000000) := Lib.hid (told2_len _ _ _ (by decide) (numLI4_len z) HL.out)
  have HL4 : Hid ((numLI z 4).length = 4) := Lib.hid (numLI4_len z)
  obtain ⟨w1, e1, hb1, hz1, k1, s1⟩ := keys_world w l HL.out
  go_enter Tryd.func21, Tryd.ntmps21
  go_wp2_with (fail)
  rw [← e1]
  refine (Num_c z 4 w1 hz8).mono ?_
  rintro e w2 ⟨v2, rfl, ho2, hb2⟩
  obtain ⟨An, cn, rfl, hn1, hn2, hnr, _⟩ := OwnB.form ho2
  rw [HL4.out] at hn1 ⊢
  have hbx := hb1.below hb2
  have hzx := hz1.below hb2
  have k2 := k1.trans (hb2.mono k1.size)
  have s2 := hb2.size
  clear ho2 hb2 hb1 hz1 e1
  have HNR := Lib.hid hnr; clear hnr
  have HNC : Hid (4 ≤ cn ∧ cn ≤ maxLen) := Lib.hid ⟨hn1, hn2⟩
  clear hn1 hn2
  have HHR := Lib.hid hbx.rd; clear hbx
  have HZC := Lib.hid hzx; clear hzx
  go_wp2_with (fail)
  have kk := below_drewN k2 1
  refine wp_region_rs 22 11 [Rl.eq (.slice Ak nk ck), Rl.eq (.slice An 4 cn), Rl.eq (.slice (some ⟨w.heap.size, 0, none⟩) 32 32), Rl.rds 2 [numLI z 4, l], Rl.eq (sumV (codeB key (toldL (strB upS) [numLI z 4, l]))), Rl.eq (.slice Ak nk ck), Rl.eq (.slice An 4 cn), Rl.eq (.slice (some ⟨w.heap.size, 0, none⟩) 32 32), Rl.rds 2 [numLI z 4, l], Rl.eq (sumV (codeB key (toldL (strB downS) [numLI z 4, l]))), Rl.eq (keysV (codeB key (toldL (strB upS) [numLI z 4, l])) (codeB key (toldL (strB downS) [numLI z 4, l])))] [11, 12, 13, 14, 15, 16, 17, 18, 19, 20, 21] (by kernel_rfl) rfl (by kernel_rfl) (by kernel_rfl) _ rfl rfl (by kernel_rfl) rfl ?_ ?_
  · repeat (first | exact AllFrom.nil_ | (refine AllFrom.cons_ (by rfl) ?_ ?_; rotate_left))
    · intro f w' g hF hD
      have h0 : f 0 = .slice Ak nk ck := hF 0 (by kernel_rfl)
      rw [if_pos (wanted_none rfl)]
      clear hF hD
      exact gives_val (by simp only [execOp, evF, h0]; first | rfl | go_simp) ⟨Gr.refl _, rfl⟩
    · intro f w' g hF hD
      have h7 : f 7 = .slice An 4 cn := hF 7 (by kernel_rfl)
      rw [if_pos (wanted_none rfl)]
      clear hF hD
      exact gives_val (by simp only [execOp, evF, h7]; first | rfl | go_simp) ⟨Gr.refl _, rfl⟩
    · intro f w' g hF hD
      have h5 : f 5 = .pointer (some ⟨w.heap.size, 0, none⟩) := hF 5 (by kernel_rfl)
      rw [if_pos (wanted_none rfl)]
      clear hF hD
      exact gives_val (by simp only [execOp, evF, h5, Option.map_some, Option.map_none]; go_simp) ⟨Gr.refl _, rfl⟩
    · intro f w' g hF hD
      have h12 : f 12 = (.slice An 4 cn) := hD 1 12 (by kernel_rfl) rfl
      have h13 : f 13 = (.slice (some ⟨w.heap.size, 0, none⟩) 32 32) := hD 2 13 (by kernel_rfl) rfl
      rw [if_pos (wanted_none rfl)]
      clear hF hD
      have kg := kk.trans (g.mono kk.size)
      have r1 := rds_lit w' [(An, 4, cn), (some ⟨w.heap.size, 0, none⟩, 32, 32)] [numLI z 4, l] 2 rfl rfl (by
          simp only [List.zip_cons_cons, List.zip_nil_right, List.forall_mem_cons]
          exact ⟨⟨HL4.out, (HNR.out.drewN 1).below g, HNC.out.1, HNC.out.2⟩, ⟨HL.out, (HHR.out.drewN 1).below g, Nat.le_refl _, by decide⟩, fun x hx => by cases hx⟩)
      simp only [List.map_cons, List.map_nil] at r1
      exact gives_val (by simp only [execOp, evF, h12, h13]; first | rfl | go_simp) ⟨(Below.refl _ _).alloc (Nat.le_refl _) _, r1⟩
    · intro f w' g hF hD
      have h11 : f 11 = (.slice Ak nk ck) := hD 0 11 (by kernel_rfl) rfl
      have q14 := hD 3 14 (by kernel_rfl) rfl
      rw [if_pos (wanted_none rfl)]
      clear hF hD
      have kg := kk.trans (g.mono kk.size)
      obtain ⟨X, hX, rX⟩ := q14
      refine gives_func rfl Tryd.func31 (by kernel_rfl) rfl (by simp only [List.map_toArray, List.map_cons, List.map_nil, evF, h11, hX, upS, downS]) ((Derive_c Ak nk ck key upS X 2 2 [numLI z 4, l] _ HNK.out (hrk.below kg) hck hmk hlk (by decide) rfl rX HBS.out HTL0.out (Tab.below HT.out kg HT.out.1)).mono ?_)
      rintro e w'' ⟨rfl, hb⟩
      exact ⟨_, rfl, hb, rfl⟩
    · intro f w' g hF hD
      have h0 : f 0 = .slice Ak nk ck := hF 0 (by kernel_rfl)
      rw [if_pos (wanted_none rfl)]
      clear hF hD
      exact gives_val (by simp only [execOp, evF, h0]; first | rfl | go_simp) ⟨Gr.refl _, rfl⟩
    · intro f w' g hF hD
      have h7 : f 7 = .slice An 4 cn := hF 7 (by kernel_rfl)
      rw [if_pos (wanted_none rfl)]
      clear hF hD
      exact gives_val (by simp only [execOp, evF, h7]; first | rfl | go_simp) ⟨Gr.refl _, rfl⟩
    · intro f w' g hF hD
      have h5 : f 5 = .pointer (some ⟨w.heap.size, 0, none⟩) := hF 5 (by kernel_rfl)
      rw [if_pos (wanted_none rfl)]
      clear hF hD
      exact gives_val (by simp only [execOp, evF, h5, Option.map_some, Option.map_none]; go_simp) ⟨Gr.refl _, rfl⟩
    · intro f w' g hF hD
      have h17 : f 17 = (.slice An 4 cn) := hD 6 17 (by kernel_rfl) rfl
      have h18 : f 18 = (.slice (some ⟨w.heap.size, 0, none⟩) 32 32) := hD 7 18 (by kernel_rfl) rfl
      rw [if_pos (wanted_none rfl)]
      clear hF hD
      have kg := kk.trans (g.mono kk.size)
      have r1 := rds_lit w' [(An, 4, cn), (some ⟨w.heap.size, 0, none⟩, 32, 32)] [numLI z 4, l] 2 rfl rfl (by
          simp only [List.zip_cons_cons, List.zip_nil_right, List.forall_mem_cons]
          exact ⟨⟨HL4.out, (HNR.out.drewN 1).below g, HNC.out.1, HNC.out.2⟩, ⟨HL.out, (HHR.out.drewN 1).below g, Nat.le_refl _, by decide⟩, fun x hx => by cases hx⟩)
      simp only [List.map_cons, List.map_nil] at r1
      exact gives_val (by simp only [execOp, evF, h17, h18]; first | rfl | go_simp) ⟨(Below.refl _ _).alloc (Nat.le_refl _) _, r1⟩
    · intro f w' g hF hD
      have h16 : f 16 = (.slice Ak nk ck) := hD 5 16 (by kernel_rfl) rfl
      have q19 := hD 8 19 (by kernel_rfl) rfl
      rw [if_pos (wanted_none rfl)]
      clear hF hD
      have kg := kk.trans (g.mono kk.size)
      obtain ⟨X, hX, rX⟩ := q19
      refine gives_func rfl Tryd.func31 (by kernel_rfl) rfl (by simp only [List.map_toArray, List.map_cons, List.map_nil, evF, h16, hX, upS, downS]) ((Derive_c Ak nk ck key downS X 2 2 [numLI z 4, l] _ HNK.out (hrk.below kg) hck hmk hlk (by decide) rfl rX HBS.out HTL1.out (Tab.below HT.out kg HT.out.1)).mono ?_)
      rintro e w'' ⟨rfl, hb⟩
      exact ⟨_, rfl, hb, rfl⟩
    · intro f w' g hF hD
      have h15 : f 15 = (sumV (codeB key (toldL (strB upS) [numLI z 4, l]))) := hD 4 15 (by kernel_rfl) rfl
      have h20 : f 20 = (sumV (codeB key (toldL (strB downS) [numLI z 4, l]))) := hD 9 20 (by kernel_rfl) rfl
      rw [if_pos (wanted_none rfl)]
      clear hF hD
      exact gives_build _ _ rfl _ (by simp only [List.map_toArray, List.map_cons, List.map_nil, evF, h15, h20]; exact built_keys _ _) ⟨Gr.refl _, rfl⟩
  · intro f w' g hD hF
    have hB := hD 10 21 (by decide) rfl
    have hr : f 21 = keysV (codeB key (toldL (strB upS) [numLI z 4, l])) (codeB key (toldL (strB downS) [numLI z 4, l])) := hB
    clear hD hF
    have hc6 := (HZC.out.drewN 1).below g
    have kg := kk.trans (g.mono kk.size)
    simp only [putAll, List.setIfInBounds_toArray, List.set_cons_zero, List.set_cons_succ, hr]
    obtain ⟨C, eC⟩ : ∃ C, C = ((sumL (upK key l z) ++ sumL (downK key l z)).map bv).toArray := ⟨_, rfl⟩
    have eV : keysV (codeB key (toldL (strB upS) [numLI z 4, l])) (codeB key (toldL (strB downS) [numLI z 4, l])) = .agg C := by rw [eC]; rfl
    rw [eV]
    have L64 : (sumL (upK key l z) ++ sumL (downK key l z)).length = 64 := by rw [List.length_append, sumL_len, sumL_len]
    refine wpList_storeKs _ rfl (.tmp 6) (.tmp 21) rfl (w.heap.size + 1) C rfl rfl _ _ _ eC hc6 L64 (by rfl) ?_
    intro w9 h9 g9
    have k9 := kg.grown g9 kg.size (fun q e => by injection e with e; omega)
    show Exit.then _ _ _ _ _
    go_wp2_with (fail)
    subst eC
    exact bodyPost_ret (v := keysV (upK key l z) (downK key l z)) (results_keys rfl _ _ (w.heap.size + 1) _ _ rfl h9 L64) rfl ⟨rfl, k9⟩

set_option maxRecDepth 100000 in
set_option maxHeartbeats 1000000 in
theorem refKeys_c (Ak : Option Addr) (nk ck : Nat) (key : List UInt8) (z : Nat) (l : List UInt8) (w : World) (hnk : key.length = nk) (hrk : Rd w Ak (key.map bv)) (hck : nk ≤ ck) (hmk : ck ≤ maxLen) (hlk : nk ≤ 1000000000) (hz : U32 z) (hl : l.length = 32) :
    Calls Tryd.prog 22 #[.slice Ak nk ck, .int .u32 z, .agg (l.map bv).toArray] w fun e w' => e = .returned (keysV (upK key l z) (downK key l z)) ∧ Below w.heap.size w w' := by
  have eU : upK key l z = codeB key (toldL (strB upS) [numLI z 4, l]) := rfl
  have eD : downK key l z = codeB key (toldL (strB downS) [numLI z 4, l]) := rfl
  rw [eU, eD]
  clear eU eD
  have HNK := Lib.hid hnk; clear hnk
  have HL := Lib.hid hl; clear hl
  have hz6 := u32_64 hz
  have hz8 : U64 z := by unfold U32 at hz; exact Nat.lt_of_lt_of_le hz (by decide)
  have HBS : Hid (∀ b ∈ [numLI z 4, l], b.length ≤ 140737488351232) := Lib.hid (by
    intro b hb
    simp only [List.mem_cons, List.not_mem_nil, or_false] at hb
    rcases hb with rfl | rfl
    · rw [numLI4_len]; decide
    · rw [HL.out]; decide)
  have HTL0 : Hid ((toldL (strB upS) [numLI z 4, l]).length ≤ 900000000) := Lib.hid (told2_len _ _ _ (by decide) (numLI4_len z) HL.out)
  have HTL1 : Hid ((toldL (strB downS) [numLI z 4, l]).length ≤ 900000000) := Lib.hid (told2_len _ _ _ (by decide) (numLI4_len z) HL.out)
  have HL4 : Hid ((numLI z 4).length = 4) := Lib.hid (numLI4_len z)
  obtain ⟨w1, e1, hb1, hz1, k1, s1⟩ := keys_world w l HL.out
  go_enter Tryd.func22, Tryd.ntmps22
  go_wp2_with (fail)
  rw [← e1]
  refine (refNum_c z 4 w1 hz8).mono ?_
  rintro e w2 ⟨v2, rfl, ho2, hb2⟩
  obtain ⟨An, cn, rfl, hn1, hn2, hnr, _⟩ := OwnB.form ho2
  rw [HL4.out] at hn1 ⊢
  have hbx := hb1.below hb2
  have hzx := hz1.below hb2
  have k2 := k1.trans (hb2.mono k1.size)
  have s2 := hb2.size
  have s1' := s1
  clear ho2 hb2 hb1 hz1 e1
  have HNC : Hid (4 ≤ cn ∧ cn ≤ maxLen) := Lib.hid ⟨hn1, hn2⟩
  clear hn1 hn2 s1 k1
  have HNR2 := Lib.hid hnr; clear hnr
  have HB2 := Lib.hid hbx; clear hbx
  have HZ2 := Lib.hid hzx; clear hzx
  have o3 : OwnB (w2.alloc (.cells #[] 5)) w2.heap.size (.slice (some ⟨w2.heap.size, 0, none⟩) 0 0) [] := World.ownsRow_made w2 #[] 0 (Nat.le_refl _) (Nat.zero_le _) rfl
  have HO3 := Lib.hid o3; clear o3
  have al : Below w2.heap.size w2 (w2.alloc (.cells #[] 5)) := (Below.refl _ _).alloc (Nat.le_refl _) _
  go_wp2_with (fail)
  go_loopw [8, 9] (fun v i wr => ∃ j : Nat, j ≤ 32 ∧ i = .int .i64 j ∧ Hid (OwnB wr w2.heap.size v (l.take j)) ∧ Below w2.heap.size w2 wr) (fun _ i _ => 32 - (intOf i).toNat)
  case atStart => exact ⟨0, by omega, rfl, by rw [List.take_zero]; exact HO3, al⟩
  case round =>
    clear HO3 al
    obtain ⟨j, hj, rfl, HO, kb⟩ := hrel
    by_cases hlt : j < 32
    · have hj32 : j < l.length := by rw [HL.out]; omega
      have c0 := (HB2.out.below kb).cell j hj32
      obtain ⟨x, ex⟩ : ∃ x, x = getB l j := ⟨_, rfl⟩
      rw [← ex] at c0
      unfold bv at c0
      have etk : l.take (j + 1) = l.take j ++ [x] := by
        rw [List.take_succ_eq_append_getElem hj32, ex]
        simp [getB, List.getD, hj32]
      have ETK := Lib.hid etk; clear etk ex
      have htj : (l.take j).length ≤ 32 := by rw [List.length_take]; omega
      have HTJ := Lib.hid htj; clear htj
      have hlt' : (j : Int) < 32 := by omega
      go_wp2_with (first | (at_builtin; refine wpList_appB1 _ rfl (.tmp 18) (.tmp 22) rfl w2.heap.size _ (l.take j) rfl HO.out _ rfl x rfl (by have := HTJ.out; omega) kb.size ?_; intro v4 w4 ha ga _; have HA := Lib.hid ha; clear ha; have al : Below wr.heap.size wr (wr.alloc (.cells #[.int .u8 (x.toNat : Int)] 5)) := (Below.refl _ _).alloc (Nat.le_refl _) _; have k4 := (kb.trans (al.mono kb.size)).grown ga (Nat.le_trans kb.size al.size) (fun k e => (Own.lt HO.out k e).1); clear ga al))
      go_roundw
      case rel => exact ⟨j + 1, by omega, by go_num, by rw [ETK.out]; exact HA, k4⟩
      case measure => simp [intOf]; omega
    · obtain rfl : 32 = j := by omega
      have et : l.take 32 = l := List.take_of_length_le (by rw [HL.out]; exact Nat.le_refl _)
      have ho9 := HO.out
      rw [et] at ho9
      clear HO et
      obtain ⟨Ah, ch, rfl, p1, p2, p3, _⟩ := OwnB.form ho9
      rw [HL.out] at p1 ⊢
      have HHC : Hid (32 ≤ ch ∧ ch ≤ maxLen) := Lib.hid ⟨p1, p2⟩
      have HHR := Lib.hid p3
      have HNR := Lib.hid (HNR2.out.below kb)
      have HZC := Lib.hid (HZ2.out.below kb)
      have k9 := k2.trans (kb.mono k2.size)
      have s2 : w.heap.size + 2 ≤ wr.heap.size := Nat.le_trans (Nat.le_trans (Nat.le_of_eq s1') s2) kb.size
      clear p1 p2 p3 ho9 HB2 HZ2 HNR2
      have lit : ∀ wa, Below wr.heap.size wr wa → RdS (wa.alloc (.cells #[.slice An 4 cn, .slice Ah 32 ch] 22)) (some ⟨wa.heap.size, 0, none⟩) [numLI z 4, l] := by
        intro wa hb
        have r1 := RdS_lit wa [(An, 4, cn), (Ah, 32, ch)] [numLI z 4, l] 22 rfl (by
          simp only [List.zip_cons_cons, List.zip_nil_right, List.forall_mem_cons]
          exact ⟨⟨HL4.out, HNR.out.below hb, HNC.out.1, HNC.out.2⟩, ⟨HL.out, HHR.out.below hb, HHC.out.1, HHC.out.2⟩, fun x hx => by cases hx⟩)
        simpa only [List.map_cons, List.map_nil] using r1
      have LIT := Lib.hid lit; clear lit
      have a1 : Below wr.heap.size wr (wr.alloc (.cells #[.slice An 4 cn, .slice Ah 32 ch] 22)) := (Below.refl _ _).alloc (Nat.le_refl _) _
      have k10 := k9.trans (a1.mono k9.size)
      go_wp2_with (fail)
      refine (refDerive_c Ak nk ck key upS _ 2 2 [numLI z 4, l] _ HNK.out (hrk.below k10) hck hmk hlk (by decide) rfl (LIT.out wr (Below.refl _ _)) HBS.out HTL0.out).mono ?_
      rintro e w5 ⟨rfl, hb5⟩
      have k5 := a1.trans (hb5.mono a1.size)
      have a2 : Below wr.heap.size wr (w5.alloc (.cells #[.slice An 4 cn, .slice Ah 32 ch] 22)) := k5.alloc k5.size _
      have k11 := k9.trans (a2.mono k9.size)
      have k5' := Lib.hid k5; clear k5 hb5 k10 a1
      go_wp2_with (fail)
      refine (refDerive_c Ak nk ck key downS _ 2 2 [numLI z 4, l] _ HNK.out (hrk.below k11) hck hmk hlk (by decide) rfl (LIT.out w5 k5'.out) HBS.out HTL1.out).mono ?_
      rintro e w6 ⟨rfl, hb6⟩
      have k6 := a2.trans (hb6.mono a2.size)
      have hc6 := HZC.out.below k6
      have kg := k9.trans (k6.mono k9.size)
      have KG := Lib.hid kg; clear kg
      have HC6 := Lib.hid hc6; clear hc6
      clear k11 a2 k6 hb6
      obtain ⟨C, eC⟩ : ∃ C, C = ((sumL (codeB key (toldL (strB upS) [numLI z 4, l])) ++ sumL (codeB key (toldL (strB downS) [numLI z 4, l]))).map bv).toArray := ⟨_, rfl⟩
      have L64 : Hid ((sumL (codeB key (toldL (strB upS) [numLI z 4, l])) ++ sumL (codeB key (toldL (strB downS) [numLI z 4, l]))).length = 64) := Lib.hid (by rw [List.length_append, sumL_len, sumL_len])
      have HBK := Lib.hid ((built_keys (codeB key (toldL (strB upS) [numLI z 4, l])) (codeB key (toldL (strB downS) [numLI z 4, l]))).trans (congrArg some eC.symm))
      have EC := Lib.hid eC; clear eC
      have Z64 : Hid (zero64.length = 64) := Lib.hid rfl
      go_wp2_with (first
        | ((with_reducible refine wpList_buildTo rfl 49 _ rfl (some 34) rfl C ?_ ?_); (simp only [List.map_toArray, List.map_cons, List.map_nil]; exact HBK.out))
        | ((with_reducible refine wpList_storeKs _ rfl (.tmp 6) (.tmp 34) rfl (w.heap.size + 1) C rfl rfl _ _ _ EC.out HC6.out L64.out Z64.out ?_); intro w9 h9 g9))
      have k10 := KG.out.grown g9 KG.out.size (fun q e => by injection e with e; omega)
      exact bodyPost_ret (v := keysV (codeB key (toldL (strB upS) [numLI z 4, l])) (codeB key (toldL (strB downS) [numLI z 4, l]))) (results_keys rfl _ _ (w.heap.size + 1) _ _ rfl h9 L64.out) rfl ⟨rfl, k10⟩
end Go.Proofs.YtecmkdoodlpanaaDoor
