/- The walk of the law WireReads: it returns true. Conditions: the row's own. -/
import Derived.Test.YtacindehajholaaWr
namespace Go.Proofs.Ytacindehajholaa
open Go Go.RowKit

set_option maxRecDepth 100000 in
set_option maxHeartbeats 4000000 in
theorem WireReads_walk (w : World) (A : Option Addr) (n c : Nat) (bs : List UInt8) (hn : bs.length = n) (hr : Rd w A (bs.map bv)) (hc : n ≤ c) (hm : c ≤ maxLen) (hl : n ≤ 140737488351232)
    (A2 : Option Addr) (n2 c2 : Nat) (zs : List (Int × Int)) (hz : zs.length = n2 ∧ RdP w A2 zs ∧ n2 ≤ c2 ∧ c2 ≤ maxLen ∧ n2 * 16 ≤ 140737488351232 ∧ ∀ z ∈ zs, (Lit.int .i64 z.1).wf = true ∧ (Lit.int .i64 z.2).wf = true) :
    Calls Try.prog 5 #[.slice A n c, .slice A2 n2 c2] w fun e w' => e = .returned (.bool true) ∧ Below w.heap.size w w' := by
  obtain ⟨hz1, hz2, _, _, hz3, hz4⟩ := hz
  have HZ4 := Lib.hid hz4; clear hz4
  have HZ1 := Lib.hid hz1; clear hz1
  have HN := Lib.hid hn; clear hn
  go_enter Try.func5, Try.ntmps5
  go_wp2_with (fail)
  refine (Copy_c A n c bs w HN.out hr (by omega)).mono ?_
  rintro e w1 ⟨v1, rfl, ho, hb1⟩
  obtain ⟨Ao, co, rfl, p1, p2, p3, p4⟩ := OwnB.form ho
  rw [HN.out] at ho p1 ⊢
  have HO := Lib.hid ho; clear ho
  go_wp2_with (fail)
  refine (Rnew_c Ao n co bs w1 HN.out p3 (by omega)).mono ?_
  rintro e w2 ⟨r, gA, rfl, hr1, hR, hb2, hgA⟩
  have HR := Lib.hid hR; clear hR
  have HG := Lib.hid hgA; clear hgA
  have HO2 : Hid (OwnB w2 w.heap.size (.slice Ao n co) bs) := Lib.hid (Own.below HO.out hb2)
  have hb12 := hb1.trans (hb2.mono hb1.size)
  go_wp2_with (fail)
  refine (fixed_c _).mono ?_
  rintro e w3 ⟨rfl, hb3⟩
  have hW0 : WR w r w2.heap.size (w2.heap.size + 1) n A c bs w3 ⟨bs, 0, 0, gA⟩ ⟨bs, 0, 0, gA⟩ := by
    have hr3 := HR.out.lt
    have hs3 := hb3.size
    simp only [World.size_alloc] at hs3
    exact { rdr := (HR.out.below ((Below.refl _ _).alloc (Nat.le_refl _) _)).below hb3, sb := rfl, sg := fun a e => (HG.out a e).2, tb := rfl, at_ := Nat.zero_le _
            box := (hb3.block _ (by simp)).trans (heap_alloc_new w2 _), bel := (hb12.alloc hb12.size _).trans (hb3.mono (by have := hb12.size; simp; omega)), sz := hs3, hr := by omega, hm := by omega, hwr := by have := hb1.size; omega, hwm := hb12.size, hrm := by omega }
  have hO3 : OwnB w3 w.heap.size (.slice Ao n co) bs := Own.below (Own.alloc HO2.out _) hb3
  have HW := Lib.hid hW0; clear hW0
  have HO3 := Lib.hid hO3; clear hO3 hb3 HR HO HO2
  obtain ⟨s0, es0⟩ : ∃ s0 : RS, s0 = ⟨bs, 0, 0, gA⟩ := ⟨_, rfl⟩
  rw [← es0] at HW
  have hgs : ∀ a, s0.gA = some a → w1.heap.size ≤ a.block := fun a e => (HG.out a (by rw [es0] at e; exact e)).1
  have HG2 := Lib.hid hgs; clear hgs HG
  clear es0 p2 p3
  obtain ⟨m, em⟩ : ∃ m, m = w2.heap.size := ⟨_, rfl⟩
  rw [← em] at HW ⊢
  have hm1 : w1.heap.size ≤ m := by rw [em]; exact hb2.size
  clear em hb2 hb12 hb1
  have P4 := Lib.hid p4; clear p4
  go_wp2_with (fail)
  go_loopw [30] (fun i wr => ∃ (k : Nat) (l : List UInt8), k ≤ n ∧ i = .int .i64 k ∧ Hid (OwnB wr w.heap.size (.slice Ao n co) l) ∧ Hid (WR w r m (m + 1) n A c bs wr s0 s0)) (fun i _ => n - (intOf i).toNat)
  case atStart => exact ⟨0, bs, Nat.zero_le _, rfl, HO3, HW⟩
  case round =>
    clear HO3 HW
    obtain ⟨k, l, hk, rfl, HO, HW⟩ := hrel
    by_cases hlt : k < n
    · obtain ⟨g, rfl, g1, g2, hll⟩ := HO.out.open_ (by omega)
      have g3 := (P4.out _ rfl).2.1
      simp only at g3
      have hlt' : (k : Int) < (n : Int) := by omega
      have c0 := HO.out.cell k (by rw [hll]; exact hlt)
      have f0 := HO.out.free k
      obtain ⟨x, ex⟩ : ∃ x, x = (l[k]'(by rw [hll]; exact hlt)).toNat := ⟨_, rfl⟩
      unfold bv at c0
      rw [← ex] at c0
      clear ex
      have HLL := Lib.hid hll; clear hll
      go_wp2
      go_roundw
      case rel =>
        obtain ⟨b', eb⟩ := u8_mod ((x : Int) + 1)
        rw [eb]
        exact ⟨k + 1, l.set k b', by omega, by go_num, Lib.hid (OwnB.set HO.out k b'), Lib.hid (HW.out.setLow g1 (by show g < r; omega) (fun a e => by have := HG2.out a e; show g < a.block; omega) (by show g < m; omega) _)⟩
      case measure => simp [intOf]; omega
    · obtain rfl : n = k := by omega
      clear HO P4
      go_wp2_with (fail)
      go_loopw [44] (fun i wr => ∃ (k : Nat) (s : RS), k ≤ n2 ∧ i = .int .i64 k ∧ Hid (WR w r m (m + 1) n A c bs wr s s)) (fun i _ => n2 - (intOf i).toNat)
      case atStart => exact ⟨0, s0, Nat.zero_le _, rfl, HW⟩
      case round =>
        clear HW HG2
        obtain ⟨k, s, hk, rfl, HW⟩ := hrel
        by_cases hlt : k < n2
        · have hj2 : k < zs.length := by rw [HZ1.out]; exact hlt
          rcases hz2 with rfl | ⟨b, off, rfl, hbl, hcell⟩
          · simp at hj2
          obtain ⟨k0, k1⟩ := hcell k hj2
          have kb := HW.out.bel
          rw [← kb.cell (p := ⟨b, _, none⟩) hbl] at k0 k1
          obtain ⟨hwf0, hwf1⟩ := HZ4.out _ (List.getElem_mem hj2)
          obtain ⟨x0, hx0⟩ : ∃ x0, x0 = (zs[k]).1 := ⟨_, rfl⟩
          obtain ⟨x1, hx1⟩ : ∃ x1, x1 = (zs[k]).2 := ⟨_, rfl⟩
          rw [← hx0] at k0 hwf0
          rw [← hx1] at k1 hwf1
          clear hcell hx0 hx1 hj2 hwf0
          have HWF := Lib.hid hwf1; clear hwf1
          have hlt' : (k : Int) < (n2 : Int) := by omega
          by_cases h3 : 300 < k
          · go_wp2_with (fail)
            go_ret
            exact ⟨rfl, kb.alloc kb.size _⟩
          · have ka : Below wr.heap.size wr (wr.alloc (.cells #[Value.int .i64 x0, Value.int .i64 x1] 45)) := (Below.refl _ _).alloc (Nat.le_refl _) _
            have HWa := Lib.hid (HW.out.below ka)
            have hca : (wr.alloc (.cells #[Value.int .i64 x0, Value.int .i64 x1] 45)).cell? ⟨wr.heap.size, 1, none⟩ = some (.int .i64 x1) := by rw [cell_of_row _ _ 1 _ _ (0, 0) (heap_alloc_new wr _)]; rfl
            have hrl := HW.out.rdr.lt
            have hsz := HW.out.sz
            clear ka HW
            by_cases b0 : x0 = 0
            · have e0 : (x0 == 0) = true := by rw [beq_iff_eq]; exact b0
              have B0 := Lib.hid b0; clear b0
              obtain ⟨N, s', eN⟩ : ∃ N s', numR s x1 = (N, s') := ⟨_, _, rfl⟩
              have EN := Lib.hid eN; clear eN
              go_wp2_with (fail)
              refine (num_i HWa.out x1 HWF.out EN.out).mono ?_
              rintro e w5 ⟨rfl, HW5, hg5⟩
              have hc5 := (hg5.cell hca (by intro e; injection e with e; simp at e; omega))
              obtain ⟨⟨d0, d1, d2⟩, _⟩ := HW5.out.cells
              have z5 : wr.heap.size + 1 ≤ w5.heap.size := by have := hg5.size; simpa using this
              clear hg5 hca
              go_wp2_with (fail)
              refine (num_r HW5.out hr HN.out hc hm hl x1 HWF.out EN.out).mono ?_
              rintro e w6 ⟨rfl, hb6⟩
              have HW6 := Lib.hid (HW5.out.below hb6)
              obtain ⟨⟨g0, g1, g2⟩, g3, g4, g5⟩ := HW6.out.cells
              have kk := numR_k s x1 HWa.out.at_
              rw [EN.out] at kk
              have hW7 := HW6.out.box3 _ _ _ s' kk.1 kk.2.2 rfl rfl rfl
              have HZ := Lib.hid hW7; clear hW7
              go_wp2_with (fail)
              clear g0 g1 g2 g3 g4 g5 HW6 HW5 hb6 d0 d1 d2 hc5 kk HWa
              refine wp_region_rw 146 [Rl.eq (.int .u64 (N : Int)), Rl.eq (.int .u64 (N : Int)), Rl.eq (.bool false), Rl.eq (.bool false), Rl.eq (.slice none 0 0), Rl.eq (.slice none 0 0), Rl.eq (.bool true), Rl.eq (.bool false), Rl.eq (.bool false), Rl.eq (.bool false), Rl.eq (.pointer (some ⟨r, 0, none⟩)), Rl.eq (.int .i64 ((s'.b.length - s'.at_ : Nat) : Int)), Rl.eq (.agg #[.slice A n c, .int .i64 (s'.at_ : Int), .int .i64 (s'.err : Int)]), Rl.eq (.int .i64 ((s'.b.length - s'.at_ : Nat) : Int)), Rl.eq (.bool false), Rl.eq (.bool false), Rl.eq (.bool false), Rl.eq (.pointer (some ⟨r, 0, none⟩)), Rl.eq (.int .i64 (s'.err : Int)), Rl.eq (.pointer (some ⟨m, 2, none⟩)), Rl.eq (.int .i64 (s'.err : Int)), Rl.eq (.bool false), Rl.eq (.bool false), Rl.eq (.bool false), Rl.eq (.pointer (some ⟨r, 0, none⟩)), Rl.eq (.int .i64 (endR s' : Int)), Rl.eq (.agg #[.slice A n c, .int .i64 (s'.at_ : Int), .int .i64 (s'.err : Int)]), Rl.eq (.int .i64 (endR s' : Int)), Rl.eq (.bool false), Rl.eq (.bool false)] [101, 102, 103, 104, 105, 106, 107, 108, 109, 110, 111, 112, 113, 114, 115, 116, 117, 118, 119, 120, 121, 122, 123, 124, 125, 126, 127, 128, 129, 130] (by kernel_rfl) rfl (by kernel_rfl) (by kernel_rfl) ?_ ?_
              · repeat (first | exact AllFrom.nil_ | (refine AllFrom.cons_ (by rfl) ?_ ?_; rotate_left))
                · intro f w' g hF hD
                  have h11 : f 11 = .int .u64 (N : Int) := hF 11 (by kernel_rfl)
                  rw [if_pos (wanted_none rfl)]
                  clear hF hD
                  exact gives_val (by simp only [execOp, evF, h11]; first | rfl | go_simp) ⟨Gr.refl _, rfl⟩
                · intro f w' g hF hD
                  have h12 : f 12 = .int .u64 (N : Int) := hF 12 (by kernel_rfl)
                  rw [if_pos (wanted_none rfl)]
                  clear hF hD
                  exact gives_val (by simp only [execOp, evF, h12]; first | rfl | go_simp) ⟨Gr.refl _, rfl⟩
                · intro f w' g hF hD
                  have h101 : f 101 = (.int .u64 (N : Int)) := hD 0 101 (by kernel_rfl) rfl
                  have h102 : f 102 = (.int .u64 (N : Int)) := hD 1 102 (by kernel_rfl) rfl
                  rw [if_pos (wanted_none rfl)]
                  clear hF hD
                  exact gives_val (by simp only [execOp, evF, h101, h102]; first | rfl | go_simp) ⟨Gr.refl _, rfl⟩
                · intro f w' g hF hD
                  have h103 : f 103 = (.bool false) := hD 2 103 (by kernel_rfl) rfl
                  rw [if_pos (wanted_none rfl)]
                  clear hF hD
                  exact gives_val (by simp only [execOp, evF, h103]; first | rfl | go_simp) ⟨Gr.refl _, rfl⟩
                · intro f w' g hF hD
                  have h13 : f 13 = .slice none 0 0 := hF 13 (by kernel_rfl)
                  rw [if_pos (wanted_some (d := 104) rfl rfl (hD 3 104 (by kernel_rfl) rfl))]
                  clear hF hD
                  exact gives_val (by simp only [execOp, evF, h13]; first | rfl | go_simp) ⟨Gr.refl _, rfl⟩
                · intro f w' g hF hD
                  have h14 : f 14 = .slice none 0 0 := hF 14 (by kernel_rfl)
                  rw [if_pos (wanted_some (d := 104) rfl rfl (hD 3 104 (by kernel_rfl) rfl))]
                  clear hF hD
                  exact gives_val (by simp only [execOp, evF, h14]; first | rfl | go_simp) ⟨Gr.refl _, rfl⟩
                · intro f w' g hF hD
                  have h105 : f 105 = (.slice none 0 0) := hD 4 105 (by kernel_rfl) rfl
                  have h106 : f 106 = (.slice none 0 0) := hD 5 106 (by kernel_rfl) rfl
                  rw [if_pos (wanted_some (d := 104) rfl rfl (hD 3 104 (by kernel_rfl) rfl))]
                  clear hF hD
                  have hw := (HZ.out.drewN 1).below g
                  refine gives_func rfl Try.func14 (by kernel_rfl) rfl (by simp only [List.map_toArray, List.map_cons, List.map_nil, evF, h105, h106]) ((Same_t none none 0 0 0 0 [] w' rfl rfl Rd.nil_ Rd.nil_ (by decide)).mono ?_)
                  rintro e w'' ⟨rfl, q, rfl⟩
                  exact ⟨_, rfl, below_drewN (Below.refl _ _) q, rfl⟩
                · intro f w' g hF hD
                  have h107 : f 107 = (.bool true) := hD 6 107 (by kernel_rfl) rfl
                  rw [if_pos (wanted_some (d := 104) rfl rfl (hD 3 104 (by kernel_rfl) rfl))]
                  clear hF hD
                  exact gives_val (by simp only [execOp, evF, h107]; first | rfl | go_simp) ⟨Gr.refl _, rfl⟩
                · intro f w' g hF hD
                  have h104 : f 104 = (.bool false) := hD 3 104 (by kernel_rfl) rfl
                  have h108 : f 108 = (.bool false) := hD 7 108 (by kernel_rfl) rfl
                  rw [if_pos (wanted_none rfl)]
                  clear hF hD
                  exact gives_val (by simp only [execOp, evF, h104, h108]; first | rfl | go_simp) ⟨Gr.refl _, rfl⟩
                · intro f w' g hF hD
                  have h109 : f 109 = (.bool false) := hD 8 109 (by kernel_rfl) rfl
                  rw [if_pos (wanted_none rfl)]
                  clear hF hD
                  exact gives_val (by simp only [execOp, evF, h109]; first | rfl | go_simp) ⟨Gr.refl _, rfl⟩
                · intro f w' g hF hD
                  have h6 : f 6 = .pointer (some ⟨r, 0, none⟩) := hF 6 (by kernel_rfl)
                  rw [if_pos (wanted_some (d := 110) rfl rfl (hD 9 110 (by kernel_rfl) rfl))]
                  clear hF hD
                  exact gives_val (by simp only [execOp, evF, h6]; first | rfl | go_simp) ⟨Gr.refl _, rfl⟩
                · intro f w' g hF hD
                  have h111 : f 111 = (.pointer (some ⟨r, 0, none⟩)) := hD 10 111 (by kernel_rfl) rfl
                  rw [if_pos (wanted_some (d := 110) rfl rfl (hD 9 110 (by kernel_rfl) rfl))]
                  clear hF hD
                  have hw := (HZ.out.drewN 1).below g
                  refine gives_func rfl Try.func13 (by kernel_rfl) rfl (by simp only [List.map_toArray, List.map_cons, List.map_nil, evF, h111]) ((Rleft_c r s' w' hw.rdr).mono ?_)
                  rintro e w'' ⟨rfl, q, rfl⟩
                  exact ⟨_, rfl, below_drewN (Below.refl _ _) q, rfl⟩
                · intro f w' g hF hD
                  have h7 : f 7 = .pointer (some ⟨m, 0, none⟩) := hF 7 (by kernel_rfl)
                  rw [if_pos (wanted_some (d := 110) rfl rfl (hD 9 110 (by kernel_rfl) rfl))]
                  clear hF hD
                  have hw := (HZ.out.drewN 1).below g
                  obtain ⟨⟨c0, c1, c2⟩, _⟩ := hw.cells
                  exact gives_val (by simp only [execOp, evF, h7]; go_simp) ⟨Gr.refl _, rfl⟩
                · intro f w' g hF hD
                  have h113 : f 113 = (.agg #[.slice A n c, .int .i64 (s'.at_ : Int), .int .i64 (s'.err : Int)]) := hD 12 113 (by kernel_rfl) rfl
                  rw [if_pos (wanted_some (d := 110) rfl rfl (hD 9 110 (by kernel_rfl) rfl))]
                  clear hF hD
                  have hw := (HZ.out.drewN 1).below g
                  refine gives_func rfl Try.func29 (by kernel_rfl) rfl (by simp only [List.map_toArray, List.map_cons, List.map_nil, evF, h113]) ((left_r hw hr HN.out hc hm hl).mono ?_)
                  rintro e w'' ⟨rfl, hb⟩
                  exact ⟨_, rfl, hb, rfl⟩
                · intro f w' g hF hD
                  have h112 : f 112 = (.int .i64 ((s'.b.length - s'.at_ : Nat) : Int)) := hD 11 112 (by kernel_rfl) rfl
                  have h114 : f 114 = (.int .i64 ((s'.b.length - s'.at_ : Nat) : Int)) := hD 13 114 (by kernel_rfl) rfl
                  rw [if_pos (wanted_some (d := 110) rfl rfl (hD 9 110 (by kernel_rfl) rfl))]
                  clear hF hD
                  exact gives_val (by simp only [execOp, evF, h112, h114]; first | rfl | go_simp) ⟨Gr.refl _, rfl⟩
                · intro f w' g hF hD
                  have h110 : f 110 = (.bool false) := hD 9 110 (by kernel_rfl) rfl
                  have h115 : f 115 = (.bool false) := hD 14 115 (by kernel_rfl) rfl
                  rw [if_pos (wanted_none rfl)]
                  clear hF hD
                  exact gives_val (by simp only [execOp, evF, h110, h115]; first | rfl | go_simp) ⟨Gr.refl _, rfl⟩
                · intro f w' g hF hD
                  have h116 : f 116 = (.bool false) := hD 15 116 (by kernel_rfl) rfl
                  rw [if_pos (wanted_none rfl)]
                  clear hF hD
                  exact gives_val (by simp only [execOp, evF, h116]; first | rfl | go_simp) ⟨Gr.refl _, rfl⟩
                · intro f w' g hF hD
                  have h6 : f 6 = .pointer (some ⟨r, 0, none⟩) := hF 6 (by kernel_rfl)
                  rw [if_pos (wanted_some (d := 117) rfl rfl (hD 16 117 (by kernel_rfl) rfl))]
                  clear hF hD
                  exact gives_val (by simp only [execOp, evF, h6]; first | rfl | go_simp) ⟨Gr.refl _, rfl⟩
                · intro f w' g hF hD
                  have h118 : f 118 = (.pointer (some ⟨r, 0, none⟩)) := hD 17 118 (by kernel_rfl) rfl
                  rw [if_pos (wanted_some (d := 117) rfl rfl (hD 16 117 (by kernel_rfl) rfl))]
                  clear hF hD
                  have hw := (HZ.out.drewN 1).below g
                  refine gives_func rfl Try.func11 (by kernel_rfl) rfl (by simp only [List.map_toArray, List.map_cons, List.map_nil, evF, h118]) ((Rerr_c r s' w' hw.rdr).mono ?_)
                  rintro e w'' ⟨rfl, rfl⟩
                  exact ⟨_, rfl, Gr.refl _, rfl⟩
                · intro f w' g hF hD
                  have h7 : f 7 = .pointer (some ⟨m, 0, none⟩) := hF 7 (by kernel_rfl)
                  rw [if_pos (wanted_some (d := 117) rfl rfl (hD 16 117 (by kernel_rfl) rfl))]
                  clear hF hD
                  exact gives_val (by simp only [execOp, evF, h7]; first | rfl | go_simp) ⟨Gr.refl _, rfl⟩
                · intro f w' g hF hD
                  have h120 : f 120 = (.pointer (some ⟨m, 2, none⟩)) := hD 19 120 (by kernel_rfl) rfl
                  rw [if_pos (wanted_some (d := 117) rfl rfl (hD 16 117 (by kernel_rfl) rfl))]
                  clear hF hD
                  have hw := (HZ.out.drewN 1).below g
                  obtain ⟨⟨c0, c1, c2⟩, _⟩ := hw.cells
                  exact gives_val (by simp only [execOp, evF, h120]; go_simp) ⟨Gr.refl _, rfl⟩
                · intro f w' g hF hD
                  have h119 : f 119 = (.int .i64 (s'.err : Int)) := hD 18 119 (by kernel_rfl) rfl
                  have h121 : f 121 = (.int .i64 (s'.err : Int)) := hD 20 121 (by kernel_rfl) rfl
                  rw [if_pos (wanted_some (d := 117) rfl rfl (hD 16 117 (by kernel_rfl) rfl))]
                  clear hF hD
                  exact gives_val (by simp only [execOp, evF, h119, h121]; first | rfl | go_simp) ⟨Gr.refl _, rfl⟩
                · intro f w' g hF hD
                  have h117 : f 117 = (.bool false) := hD 16 117 (by kernel_rfl) rfl
                  have h122 : f 122 = (.bool false) := hD 21 122 (by kernel_rfl) rfl
                  rw [if_pos (wanted_none rfl)]
                  clear hF hD
                  exact gives_val (by simp only [execOp, evF, h117, h122]; first | rfl | go_simp) ⟨Gr.refl _, rfl⟩
                · intro f w' g hF hD
                  have h123 : f 123 = (.bool false) := hD 22 123 (by kernel_rfl) rfl
                  rw [if_pos (wanted_none rfl)]
                  clear hF hD
                  exact gives_val (by simp only [execOp, evF, h123]; first | rfl | go_simp) ⟨Gr.refl _, rfl⟩
                · intro f w' g hF hD
                  have h6 : f 6 = .pointer (some ⟨r, 0, none⟩) := hF 6 (by kernel_rfl)
                  rw [if_pos (wanted_some (d := 124) rfl rfl (hD 23 124 (by kernel_rfl) rfl))]
                  clear hF hD
                  exact gives_val (by simp only [execOp, evF, h6]; first | rfl | go_simp) ⟨Gr.refl _, rfl⟩
                · intro f w' g hF hD
                  have h125 : f 125 = (.pointer (some ⟨r, 0, none⟩)) := hD 24 125 (by kernel_rfl) rfl
                  rw [if_pos (wanted_some (d := 124) rfl rfl (hD 23 124 (by kernel_rfl) rfl))]
                  clear hF hD
                  have hw := (HZ.out.drewN 1).below g
                  refine gives_func rfl Try.func30 (by kernel_rfl) rfl (by simp only [List.map_toArray, List.map_cons, List.map_nil, evF, h125]) ((Rend_c r s' w' hw.rdr).mono ?_)
                  rintro e w'' ⟨rfl, q, rfl⟩
                  exact ⟨_, rfl, below_drewN (Below.refl _ _) q, rfl⟩
                · intro f w' g hF hD
                  have h7 : f 7 = .pointer (some ⟨m, 0, none⟩) := hF 7 (by kernel_rfl)
                  rw [if_pos (wanted_some (d := 124) rfl rfl (hD 23 124 (by kernel_rfl) rfl))]
                  clear hF hD
                  have hw := (HZ.out.drewN 1).below g
                  obtain ⟨⟨c0, c1, c2⟩, _⟩ := hw.cells
                  exact gives_val (by simp only [execOp, evF, h7]; go_simp) ⟨Gr.refl _, rfl⟩
                · intro f w' g hF hD
                  have h127 : f 127 = (.agg #[.slice A n c, .int .i64 (s'.at_ : Int), .int .i64 (s'.err : Int)]) := hD 26 127 (by kernel_rfl) rfl
                  rw [if_pos (wanted_some (d := 124) rfl rfl (hD 23 124 (by kernel_rfl) rfl))]
                  clear hF hD
                  have hw := (HZ.out.drewN 1).below g
                  refine gives_func rfl Try.func31 (by kernel_rfl) rfl (by simp only [List.map_toArray, List.map_cons, List.map_nil, evF, h127]) ((end_r hw hr HN.out hc hm hl).mono ?_)
                  rintro e w'' ⟨rfl, hb⟩
                  exact ⟨_, rfl, hb, rfl⟩
                · intro f w' g hF hD
                  have h126 : f 126 = (.int .i64 (endR s' : Int)) := hD 25 126 (by kernel_rfl) rfl
                  have h128 : f 128 = (.int .i64 (endR s' : Int)) := hD 27 128 (by kernel_rfl) rfl
                  rw [if_pos (wanted_some (d := 124) rfl rfl (hD 23 124 (by kernel_rfl) rfl))]
                  clear hF hD
                  exact gives_val (by simp only [execOp, evF, h126, h128]; first | rfl | go_simp) ⟨Gr.refl _, rfl⟩
                · intro f w' g hF hD
                  have h124 : f 124 = (.bool false) := hD 23 124 (by kernel_rfl) rfl
                  have h129 : f 129 = (.bool false) := hD 28 129 (by kernel_rfl) rfl
                  rw [if_pos (wanted_none rfl)]
                  clear hF hD
                  exact gives_val (by simp only [execOp, evF, h124, h129]; first | rfl | go_simp) ⟨Gr.refl _, rfl⟩
              · intro f w' g hD
                have h130 : f 130 = .bool false := hD 29 130 rfl
                have hw0 := (HZ.out.drewN 1).below g
                have HW9 := Lib.hid hw0; clear hw0
                clear hD g HZ
                simp only [putAll, List.setIfInBounds_toArray, List.set_cons_zero, List.set_cons_succ, h130]
                go_wp2_with (fail)
                go_loopw [133] (fun i wr => i = .int .i64 (0 : Nat) ∧ Hid (WR w r m (m + 1) n A c bs wr s' s')) (fun i _ => 0)
                case atStart => exact ⟨rfl, HW9⟩
                case round =>
                  clear HW9
                  obtain ⟨rfl, HW⟩ := hrel
                  go_wp2_with (fail)
                  go_roundw
                  case rel => exact ⟨k + 1, s', by omega, by go_num, HW⟩
                  case measure => simp [intOf]; omega
            have e0 : (x0 == 0) = false := by rw [beq_eq_false_iff_ne]; exact b0
            clear b0
            by_cases b1 : x0 = 1
            · have e1 : (x0 == 1) = true := by rw [beq_iff_eq]; exact b1
              have B1 := Lib.hid b1; clear b1
              obtain ⟨N, s', eN⟩ : ∃ N s', varR s = (N, s') := ⟨_, _, rfl⟩
              have EN := Lib.hid eN; clear eN
              go_wp2_with (fail)
              refine (var_i HWa.out EN.out).mono ?_
              rintro e w5 ⟨rfl, HW5, hg5⟩
              have hc5 := (hg5.cell hca (by intro e; injection e with e; simp at e; omega))
              obtain ⟨⟨d0, d1, d2⟩, _⟩ := HW5.out.cells
              have z5 : wr.heap.size + 1 ≤ w5.heap.size := by have := hg5.size; simpa using this
              clear hg5 hca
              go_wp2_with (fail)
              refine (var_r HW5.out hr HN.out hc hm hl EN.out).mono ?_
              rintro e w6 ⟨rfl, hb6⟩
              have HW6 := Lib.hid (HW5.out.below hb6)
              obtain ⟨⟨g0, g1, g2⟩, g3, g4, g5⟩ := HW6.out.cells
              have kk := varR_k s HWa.out.at_
              rw [EN.out] at kk
              have hW7 := HW6.out.box3 _ _ _ s' kk.1 kk.2.2 rfl rfl rfl
              have HZ := Lib.hid hW7; clear hW7
              go_wp2_with (fail)
              clear g0 g1 g2 g3 g4 g5 HW6 HW5 hb6 d0 d1 d2 hc5 kk HWa
              refine wp_region_rw 146 [Rl.eq (.int .u64 (N : Int)), Rl.eq (.int .u64 (N : Int)), Rl.eq (.bool false), Rl.eq (.bool false), Rl.eq (.slice none 0 0), Rl.eq (.slice none 0 0), Rl.eq (.bool true), Rl.eq (.bool false), Rl.eq (.bool false), Rl.eq (.bool false), Rl.eq (.pointer (some ⟨r, 0, none⟩)), Rl.eq (.int .i64 ((s'.b.length - s'.at_ : Nat) : Int)), Rl.eq (.agg #[.slice A n c, .int .i64 (s'.at_ : Int), .int .i64 (s'.err : Int)]), Rl.eq (.int .i64 ((s'.b.length - s'.at_ : Nat) : Int)), Rl.eq (.bool false), Rl.eq (.bool false), Rl.eq (.bool false), Rl.eq (.pointer (some ⟨r, 0, none⟩)), Rl.eq (.int .i64 (s'.err : Int)), Rl.eq (.pointer (some ⟨m, 2, none⟩)), Rl.eq (.int .i64 (s'.err : Int)), Rl.eq (.bool false), Rl.eq (.bool false), Rl.eq (.bool false), Rl.eq (.pointer (some ⟨r, 0, none⟩)), Rl.eq (.int .i64 (endR s' : Int)), Rl.eq (.agg #[.slice A n c, .int .i64 (s'.at_ : Int), .int .i64 (s'.err : Int)]), Rl.eq (.int .i64 (endR s' : Int)), Rl.eq (.bool false), Rl.eq (.bool false)] [101, 102, 103, 104, 105, 106, 107, 108, 109, 110, 111, 112, 113, 114, 115, 116, 117, 118, 119, 120, 121, 122, 123, 124, 125, 126, 127, 128, 129, 130] (by kernel_rfl) rfl (by kernel_rfl) (by kernel_rfl) ?_ ?_
              · repeat (first | exact AllFrom.nil_ | (refine AllFrom.cons_ (by rfl) ?_ ?_; rotate_left))
                · intro f w' g hF hD
                  have h11 : f 11 = .int .u64 (N : Int) := hF 11 (by kernel_rfl)
                  rw [if_pos (wanted_none rfl)]
                  clear hF hD
                  exact gives_val (by simp only [execOp, evF, h11]; first | rfl | go_simp) ⟨Gr.refl _, rfl⟩
                · intro f w' g hF hD
                  have h12 : f 12 = .int .u64 (N : Int) := hF 12 (by kernel_rfl)
                  rw [if_pos (wanted_none rfl)]
                  clear hF hD
                  exact gives_val (by simp only [execOp, evF, h12]; first | rfl | go_simp) ⟨Gr.refl _, rfl⟩
                · intro f w' g hF hD
                  have h101 : f 101 = (.int .u64 (N : Int)) := hD 0 101 (by kernel_rfl) rfl
                  have h102 : f 102 = (.int .u64 (N : Int)) := hD 1 102 (by kernel_rfl) rfl
                  rw [if_pos (wanted_none rfl)]
                  clear hF hD
                  exact gives_val (by simp only [execOp, evF, h101, h102]; first | rfl | go_simp) ⟨Gr.refl _, rfl⟩
                · intro f w' g hF hD
                  have h103 : f 103 = (.bool false) := hD 2 103 (by kernel_rfl) rfl
                  rw [if_pos (wanted_none rfl)]
                  clear hF hD
                  exact gives_val (by simp only [execOp, evF, h103]; first | rfl | go_simp) ⟨Gr.refl _, rfl⟩
                · intro f w' g hF hD
                  have h13 : f 13 = .slice none 0 0 := hF 13 (by kernel_rfl)
                  rw [if_pos (wanted_some (d := 104) rfl rfl (hD 3 104 (by kernel_rfl) rfl))]
                  clear hF hD
                  exact gives_val (by simp only [execOp, evF, h13]; first | rfl | go_simp) ⟨Gr.refl _, rfl⟩
                · intro f w' g hF hD
                  have h14 : f 14 = .slice none 0 0 := hF 14 (by kernel_rfl)
                  rw [if_pos (wanted_some (d := 104) rfl rfl (hD 3 104 (by kernel_rfl) rfl))]
                  clear hF hD
                  exact gives_val (by simp only [execOp, evF, h14]; first | rfl | go_simp) ⟨Gr.refl _, rfl⟩
                · intro f w' g hF hD
                  have h105 : f 105 = (.slice none 0 0) := hD 4 105 (by kernel_rfl) rfl
                  have h106 : f 106 = (.slice none 0 0) := hD 5 106 (by kernel_rfl) rfl
                  rw [if_pos (wanted_some (d := 104) rfl rfl (hD 3 104 (by kernel_rfl) rfl))]
                  clear hF hD
                  have hw := (HZ.out.drewN 1).below g
                  refine gives_func rfl Try.func14 (by kernel_rfl) rfl (by simp only [List.map_toArray, List.map_cons, List.map_nil, evF, h105, h106]) ((Same_t none none 0 0 0 0 [] w' rfl rfl Rd.nil_ Rd.nil_ (by decide)).mono ?_)
                  rintro e w'' ⟨rfl, q, rfl⟩
                  exact ⟨_, rfl, below_drewN (Below.refl _ _) q, rfl⟩
                · intro f w' g hF hD
                  have h107 : f 107 = (.bool true) := hD 6 107 (by kernel_rfl) rfl
                  rw [if_pos (wanted_some (d := 104) rfl rfl (hD 3 104 (by kernel_rfl) rfl))]
                  clear hF hD
                  exact gives_val (by simp only [execOp, evF, h107]; first | rfl | go_simp) ⟨Gr.refl _, rfl⟩
                · intro f w' g hF hD
                  have h104 : f 104 = (.bool false) := hD 3 104 (by kernel_rfl) rfl
                  have h108 : f 108 = (.bool false) := hD 7 108 (by kernel_rfl) rfl
                  rw [if_pos (wanted_none rfl)]
                  clear hF hD
                  exact gives_val (by simp only [execOp, evF, h104, h108]; first | rfl | go_simp) ⟨Gr.refl _, rfl⟩
                · intro f w' g hF hD
                  have h109 : f 109 = (.bool false) := hD 8 109 (by kernel_rfl) rfl
                  rw [if_pos (wanted_none rfl)]
                  clear hF hD
                  exact gives_val (by simp only [execOp, evF, h109]; first | rfl | go_simp) ⟨Gr.refl _, rfl⟩
                · intro f w' g hF hD
                  have h6 : f 6 = .pointer (some ⟨r, 0, none⟩) := hF 6 (by kernel_rfl)
                  rw [if_pos (wanted_some (d := 110) rfl rfl (hD 9 110 (by kernel_rfl) rfl))]
                  clear hF hD
                  exact gives_val (by simp only [execOp, evF, h6]; first | rfl | go_simp) ⟨Gr.refl _, rfl⟩
                · intro f w' g hF hD
                  have h111 : f 111 = (.pointer (some ⟨r, 0, none⟩)) := hD 10 111 (by kernel_rfl) rfl
                  rw [if_pos (wanted_some (d := 110) rfl rfl (hD 9 110 (by kernel_rfl) rfl))]
                  clear hF hD
                  have hw := (HZ.out.drewN 1).below g
                  refine gives_func rfl Try.func13 (by kernel_rfl) rfl (by simp only [List.map_toArray, List.map_cons, List.map_nil, evF, h111]) ((Rleft_c r s' w' hw.rdr).mono ?_)
                  rintro e w'' ⟨rfl, q, rfl⟩
                  exact ⟨_, rfl, below_drewN (Below.refl _ _) q, rfl⟩
                · intro f w' g hF hD
                  have h7 : f 7 = .pointer (some ⟨m, 0, none⟩) := hF 7 (by kernel_rfl)
                  rw [if_pos (wanted_some (d := 110) rfl rfl (hD 9 110 (by kernel_rfl) rfl))]
                  clear hF hD
                  have hw := (HZ.out.drewN 1).below g
                  obtain ⟨⟨c0, c1, c2⟩, _⟩ := hw.cells
                  exact gives_val (by simp only [execOp, evF, h7]; go_simp) ⟨Gr.refl _, rfl⟩
                · intro f w' g hF hD
                  have h113 : f 113 = (.agg #[.slice A n c, .int .i64 (s'.at_ : Int), .int .i64 (s'.err : Int)]) := hD 12 113 (by kernel_rfl) rfl
                  rw [if_pos (wanted_some (d := 110) rfl rfl (hD 9 110 (by kernel_rfl) rfl))]
                  clear hF hD
                  have hw := (HZ.out.drewN 1).below g
                  refine gives_func rfl Try.func29 (by kernel_rfl) rfl (by simp only [List.map_toArray, List.map_cons, List.map_nil, evF, h113]) ((left_r hw hr HN.out hc hm hl).mono ?_)
                  rintro e w'' ⟨rfl, hb⟩
                  exact ⟨_, rfl, hb, rfl⟩
                · intro f w' g hF hD
                  have h112 : f 112 = (.int .i64 ((s'.b.length - s'.at_ : Nat) : Int)) := hD 11 112 (by kernel_rfl) rfl
                  have h114 : f 114 = (.int .i64 ((s'.b.length - s'.at_ : Nat) : Int)) := hD 13 114 (by kernel_rfl) rfl
                  rw [if_pos (wanted_some (d := 110) rfl rfl (hD 9 110 (by kernel_rfl) rfl))]
                  clear hF hD
                  exact gives_val (by simp only [execOp, evF, h112, h114]; first | rfl | go_simp) ⟨Gr.refl _, rfl⟩
                · intro f w' g hF hD
                  have h110 : f 110 = (.bool false) := hD 9 110 (by kernel_rfl) rfl
                  have h115 : f 115 = (.bool false) := hD 14 115 (by kernel_rfl) rfl
                  rw [if_pos (wanted_none rfl)]
                  clear hF hD
                  exact gives_val (by simp only [execOp, evF, h110, h115]; first | rfl | go_simp) ⟨Gr.refl _, rfl⟩
                · intro f w' g hF hD
                  have h116 : f 116 = (.bool false) := hD 15 116 (by kernel_rfl) rfl
                  rw [if_pos (wanted_none rfl)]
                  clear hF hD
                  exact gives_val (by simp only [execOp, evF, h116]; first | rfl | go_simp) ⟨Gr.refl _, rfl⟩
                · intro f w' g hF hD
                  have h6 : f 6 = .pointer (some ⟨r, 0, none⟩) := hF 6 (by kernel_rfl)
                  rw [if_pos (wanted_some (d := 117) rfl rfl (hD 16 117 (by kernel_rfl) rfl))]
                  clear hF hD
                  exact gives_val (by simp only [execOp, evF, h6]; first | rfl | go_simp) ⟨Gr.refl _, rfl⟩
                · intro f w' g hF hD
                  have h118 : f 118 = (.pointer (some ⟨r, 0, none⟩)) := hD 17 118 (by kernel_rfl) rfl
                  rw [if_pos (wanted_some (d := 117) rfl rfl (hD 16 117 (by kernel_rfl) rfl))]
                  clear hF hD
                  have hw := (HZ.out.drewN 1).below g
                  refine gives_func rfl Try.func11 (by kernel_rfl) rfl (by simp only [List.map_toArray, List.map_cons, List.map_nil, evF, h118]) ((Rerr_c r s' w' hw.rdr).mono ?_)
                  rintro e w'' ⟨rfl, rfl⟩
                  exact ⟨_, rfl, Gr.refl _, rfl⟩
                · intro f w' g hF hD
                  have h7 : f 7 = .pointer (some ⟨m, 0, none⟩) := hF 7 (by kernel_rfl)
                  rw [if_pos (wanted_some (d := 117) rfl rfl (hD 16 117 (by kernel_rfl) rfl))]
                  clear hF hD
                  exact gives_val (by simp only [execOp, evF, h7]; first | rfl | go_simp) ⟨Gr.refl _, rfl⟩
                · intro f w' g hF hD
                  have h120 : f 120 = (.pointer (some ⟨m, 2, none⟩)) := hD 19 120 (by kernel_rfl) rfl
                  rw [if_pos (wanted_some (d := 117) rfl rfl (hD 16 117 (by kernel_rfl) rfl))]
                  clear hF hD
                  have hw := (HZ.out.drewN 1).below g
                  obtain ⟨⟨c0, c1, c2⟩, _⟩ := hw.cells
                  exact gives_val (by simp only [execOp, evF, h120]; go_simp) ⟨Gr.refl _, rfl⟩
                · intro f w' g hF hD
                  have h119 : f 119 = (.int .i64 (s'.err : Int)) := hD 18 119 (by kernel_rfl) rfl
                  have h121 : f 121 = (.int .i64 (s'.err : Int)) := hD 20 121 (by kernel_rfl) rfl
                  rw [if_pos (wanted_some (d := 117) rfl rfl (hD 16 117 (by kernel_rfl) rfl))]
                  clear hF hD
                  exact gives_val (by simp only [execOp, evF, h119, h121]; first | rfl | go_simp) ⟨Gr.refl _, rfl⟩
                · intro f w' g hF hD
                  have h117 : f 117 = (.bool false) := hD 16 117 (by kernel_rfl) rfl
                  have h122 : f 122 = (.bool false) := hD 21 122 (by kernel_rfl) rfl
                  rw [if_pos (wanted_none rfl)]
                  clear hF hD
                  exact gives_val (by simp only [execOp, evF, h117, h122]; first | rfl | go_simp) ⟨Gr.refl _, rfl⟩
                · intro f w' g hF hD
                  have h123 : f 123 = (.bool false) := hD 22 123 (by kernel_rfl) rfl
                  rw [if_pos (wanted_none rfl)]
                  clear hF hD
                  exact gives_val (by simp only [execOp, evF, h123]; first | rfl | go_simp) ⟨Gr.refl _, rfl⟩
                · intro f w' g hF hD
                  have h6 : f 6 = .pointer (some ⟨r, 0, none⟩) := hF 6 (by kernel_rfl)
                  rw [if_pos (wanted_some (d := 124) rfl rfl (hD 23 124 (by kernel_rfl) rfl))]
                  clear hF hD
                  exact gives_val (by simp only [execOp, evF, h6]; first | rfl | go_simp) ⟨Gr.refl _, rfl⟩
                · intro f w' g hF hD
                  have h125 : f 125 = (.pointer (some ⟨r, 0, none⟩)) := hD 24 125 (by kernel_rfl) rfl
                  rw [if_pos (wanted_some (d := 124) rfl rfl (hD 23 124 (by kernel_rfl) rfl))]
                  clear hF hD
                  have hw := (HZ.out.drewN 1).below g
                  refine gives_func rfl Try.func30 (by kernel_rfl) rfl (by simp only [List.map_toArray, List.map_cons, List.map_nil, evF, h125]) ((Rend_c r s' w' hw.rdr).mono ?_)
                  rintro e w'' ⟨rfl, q, rfl⟩
                  exact ⟨_, rfl, below_drewN (Below.refl _ _) q, rfl⟩
                · intro f w' g hF hD
                  have h7 : f 7 = .pointer (some ⟨m, 0, none⟩) := hF 7 (by kernel_rfl)
                  rw [if_pos (wanted_some (d := 124) rfl rfl (hD 23 124 (by kernel_rfl) rfl))]
                  clear hF hD
                  have hw := (HZ.out.drewN 1).below g
                  obtain ⟨⟨c0, c1, c2⟩, _⟩ := hw.cells
                  exact gives_val (by simp only [execOp, evF, h7]; go_simp) ⟨Gr.refl _, rfl⟩
                · intro f w' g hF hD
                  have h127 : f 127 = (.agg #[.slice A n c, .int .i64 (s'.at_ : Int), .int .i64 (s'.err : Int)]) := hD 26 127 (by kernel_rfl) rfl
                  rw [if_pos (wanted_some (d := 124) rfl rfl (hD 23 124 (by kernel_rfl) rfl))]
                  clear hF hD
                  have hw := (HZ.out.drewN 1).below g
                  refine gives_func rfl Try.func31 (by kernel_rfl) rfl (by simp only [List.map_toArray, List.map_cons, List.map_nil, evF, h127]) ((end_r hw hr HN.out hc hm hl).mono ?_)
                  rintro e w'' ⟨rfl, hb⟩
                  exact ⟨_, rfl, hb, rfl⟩
                · intro f w' g hF hD
                  have h126 : f 126 = (.int .i64 (endR s' : Int)) := hD 25 126 (by kernel_rfl) rfl
                  have h128 : f 128 = (.int .i64 (endR s' : Int)) := hD 27 128 (by kernel_rfl) rfl
                  rw [if_pos (wanted_some (d := 124) rfl rfl (hD 23 124 (by kernel_rfl) rfl))]
                  clear hF hD
                  exact gives_val (by simp only [execOp, evF, h126, h128]; first | rfl | go_simp) ⟨Gr.refl _, rfl⟩
                · intro f w' g hF hD
                  have h124 : f 124 = (.bool false) := hD 23 124 (by kernel_rfl) rfl
                  have h129 : f 129 = (.bool false) := hD 28 129 (by kernel_rfl) rfl
                  rw [if_pos (wanted_none rfl)]
                  clear hF hD
                  exact gives_val (by simp only [execOp, evF, h124, h129]; first | rfl | go_simp) ⟨Gr.refl _, rfl⟩
              · intro f w' g hD
                have h130 : f 130 = .bool false := hD 29 130 rfl
                have hw0 := (HZ.out.drewN 1).below g
                have HW9 := Lib.hid hw0; clear hw0
                clear hD g HZ
                simp only [putAll, List.setIfInBounds_toArray, List.set_cons_zero, List.set_cons_succ, h130]
                go_wp2_with (fail)
                go_loopw [133] (fun i wr => i = .int .i64 (0 : Nat) ∧ Hid (WR w r m (m + 1) n A c bs wr s' s')) (fun i _ => 0)
                case atStart => exact ⟨rfl, HW9⟩
                case round =>
                  clear HW9
                  obtain ⟨rfl, HW⟩ := hrel
                  go_wp2_with (fail)
                  go_roundw
                  case rel => exact ⟨k + 1, s', by omega, by go_num, HW⟩
                  case measure => simp [intOf]; omega
            have e1 : (x0 == 1) = false := by rw [beq_eq_false_iff_ne]; exact b1
            clear b1
            by_cases b2 : x0 = 2
            · have e2 : (x0 == 2) = true := by rw [beq_iff_eq]; exact b2
              have B2 := Lib.hid b2; clear b2
              obtain ⟨N, s', eN⟩ : ∃ N s', textR s x1 = (N, s') := ⟨_, _, rfl⟩
              have EN := Lib.hid eN; clear eN
              go_wp2_with (fail)
              refine (text_i HWa.out x1 HWF.out EN.out).mono ?_
              rintro e w5 ⟨v5, rfl, HV5, HW5, hg5⟩
              have hc5 := (hg5.cell hca (by intro e; injection e with e; simp at e; omega))
              obtain ⟨⟨d0, d1, d2⟩, _⟩ := HW5.out.cells
              have z5 : wr.heap.size + 1 ≤ w5.heap.size := by have := hg5.size; simpa using this
              clear hg5 hca
              go_wp2_with (fail)
              refine (text_r HW5.out hr HN.out hc hm hl x1 HWF.out EN.out).mono ?_
              rintro e w6 ⟨v6, rfl, HV6, hb6⟩
              have HW6 := Lib.hid (HW5.out.below hb6)
              obtain ⟨⟨g0, g1, g2⟩, g3, g4, g5⟩ := HW6.out.cells
              have kk := textR_k s x1 HWa.out.at_
              rw [EN.out] at kk
              have hW7 := HW6.out.box3 _ _ _ s' kk.1 kk.2.2 rfl rfl rfl
              have HZ := Lib.hid hW7; clear hW7
              have z6 := hb6.size
              obtain ⟨Av, cv, rfl, pv1, pv2, pv3, _⟩ := OwnB.form HV5.out
              obtain ⟨At, ct, rfl, pt1, pt2, pt3, _⟩ := OwnB.form HV6.out
              have hv7 : OwnB w6 (wr.heap.size + 1) (.slice Av N.length cv) N := Own.below (Own.low HV5.out (by simp)) hb6
              have ht7 : OwnB w6 (wr.heap.size + 1) (.slice At N.length ct) N := Own.low HV6.out (by omega)
              have hv8 := ((Own.setBelow hv7 (p := ⟨m, 0, none⟩) (by show m < _; omega) (.slice A n c)).setBelow (p := ⟨m, 1, none⟩) (by show m < _; omega) (.int .i64 (s'.at_ : Int))).setBelow (p := ⟨m, 2, none⟩) (by show m < _; omega) (.int .i64 (s'.err : Int))
              have ht8 := ((Own.setBelow ht7 (p := ⟨m, 0, none⟩) (by show m < _; omega) (.slice A n c)).setBelow (p := ⟨m, 1, none⟩) (by show m < _; omega) (.int .i64 (s'.at_ : Int))).setBelow (p := ⟨m, 2, none⟩) (by show m < _; omega) (.int .i64 (s'.err : Int))
              clear HV5 HV6 hv7 ht7 pv1 pv2 pv3 pt1 pt2 pt3
              obtain ⟨l, el⟩ : ∃ l, l = N := ⟨_, rfl⟩
              rw [← el] at hv8 ht8 ⊢
              obtain ⟨ml, eml⟩ : ∃ ml, l.length = ml := ⟨_, rfl⟩
              rw [eml] at hv8 ht8 ⊢
              have HL := Lib.hid eml; clear eml el
              have HV := Lib.hid (Own.low hv8 (by omega : m + 1 ≤ wr.heap.size + 1)); clear hv8
              have HT := Lib.hid (Own.low ht8 (by omega : m + 1 ≤ wr.heap.size + 1)); clear ht8
              have HVr := Lib.hid (rd_of HV.out)
              have HTr := Lib.hid (rd_of HT.out)
              have hml := len_of HV.out
              go_wp2_with (fail)
              clear g0 g1 g2 g3 g4 g5 HW6 HW5 hb6 d0 d1 d2 hc5 kk HWa
              refine wp_region_rw 146 [Rl.eq (.int .u64 (0 : Int)), Rl.eq (.int .u64 (0 : Int)), Rl.eq (.bool false), Rl.eq (.bool false), Rl.eq (.slice Av ml cv), Rl.eq (.slice At ml ct), Rl.eq (.bool true), Rl.eq (.bool false), Rl.eq (.bool false), Rl.eq (.bool false), Rl.eq (.pointer (some ⟨r, 0, none⟩)), Rl.eq (.int .i64 ((s'.b.length - s'.at_ : Nat) : Int)), Rl.eq (.agg #[.slice A n c, .int .i64 (s'.at_ : Int), .int .i64 (s'.err : Int)]), Rl.eq (.int .i64 ((s'.b.length - s'.at_ : Nat) : Int)), Rl.eq (.bool false), Rl.eq (.bool false), Rl.eq (.bool false), Rl.eq (.pointer (some ⟨r, 0, none⟩)), Rl.eq (.int .i64 (s'.err : Int)), Rl.eq (.pointer (some ⟨m, 2, none⟩)), Rl.eq (.int .i64 (s'.err : Int)), Rl.eq (.bool false), Rl.eq (.bool false), Rl.eq (.bool false), Rl.eq (.pointer (some ⟨r, 0, none⟩)), Rl.eq (.int .i64 (endR s' : Int)), Rl.eq (.agg #[.slice A n c, .int .i64 (s'.at_ : Int), .int .i64 (s'.err : Int)]), Rl.eq (.int .i64 (endR s' : Int)), Rl.eq (.bool false), Rl.eq (.bool false)] [101, 102, 103, 104, 105, 106, 107, 108, 109, 110, 111, 112, 113, 114, 115, 116, 117, 118, 119, 120, 121, 122, 123, 124, 125, 126, 127, 128, 129, 130] (by kernel_rfl) rfl (by kernel_rfl) (by kernel_rfl) ?_ ?_
              · repeat (first | exact AllFrom.nil_ | (refine AllFrom.cons_ (by rfl) ?_ ?_; rotate_left))
                · intro f w' g hF hD
                  have h11 : f 11 = .int .u64 (0 : Int) := hF 11 (by kernel_rfl)
                  rw [if_pos (wanted_none rfl)]
                  clear hF hD
                  exact gives_val (by simp only [execOp, evF, h11]; first | rfl | go_simp) ⟨Gr.refl _, rfl⟩
                · intro f w' g hF hD
                  have h12 : f 12 = .int .u64 (0 : Int) := hF 12 (by kernel_rfl)
                  rw [if_pos (wanted_none rfl)]
                  clear hF hD
                  exact gives_val (by simp only [execOp, evF, h12]; first | rfl | go_simp) ⟨Gr.refl _, rfl⟩
                · intro f w' g hF hD
                  have h101 : f 101 = (.int .u64 (0 : Int)) := hD 0 101 (by kernel_rfl) rfl
                  have h102 : f 102 = (.int .u64 (0 : Int)) := hD 1 102 (by kernel_rfl) rfl
                  rw [if_pos (wanted_none rfl)]
                  clear hF hD
                  exact gives_val (by simp only [execOp, evF, h101, h102]; first | rfl | go_simp) ⟨Gr.refl _, rfl⟩
                · intro f w' g hF hD
                  have h103 : f 103 = (.bool false) := hD 2 103 (by kernel_rfl) rfl
                  rw [if_pos (wanted_none rfl)]
                  clear hF hD
                  exact gives_val (by simp only [execOp, evF, h103]; first | rfl | go_simp) ⟨Gr.refl _, rfl⟩
                · intro f w' g hF hD
                  have h13 : f 13 = .slice Av ml cv := hF 13 (by kernel_rfl)
                  rw [if_pos (wanted_some (d := 104) rfl rfl (hD 3 104 (by kernel_rfl) rfl))]
                  clear hF hD
                  exact gives_val (by simp only [execOp, evF, h13]; first | rfl | go_simp) ⟨Gr.refl _, rfl⟩
                · intro f w' g hF hD
                  have h14 : f 14 = .slice At ml ct := hF 14 (by kernel_rfl)
                  rw [if_pos (wanted_some (d := 104) rfl rfl (hD 3 104 (by kernel_rfl) rfl))]
                  clear hF hD
                  exact gives_val (by simp only [execOp, evF, h14]; first | rfl | go_simp) ⟨Gr.refl _, rfl⟩
                · intro f w' g hF hD
                  have h105 : f 105 = (.slice Av ml cv) := hD 4 105 (by kernel_rfl) rfl
                  have h106 : f 106 = (.slice At ml ct) := hD 5 106 (by kernel_rfl) rfl
                  rw [if_pos (wanted_some (d := 104) rfl rfl (hD 3 104 (by kernel_rfl) rfl))]
                  clear hF hD
                  have hw := (HZ.out.drewN 1).below g
                  refine gives_func rfl Try.func14 (by kernel_rfl) rfl (by simp only [List.map_toArray, List.map_cons, List.map_nil, evF, h105, h106]) ((Same_t Av At ml ml cv ct l w' HL.out HL.out ((HVr.out.drewN 1).below g) ((HTr.out.drewN 1).below g) hml).mono ?_)
                  rintro e w'' ⟨rfl, q, rfl⟩
                  exact ⟨_, rfl, below_drewN (Below.refl _ _) q, rfl⟩
                · intro f w' g hF hD
                  have h107 : f 107 = (.bool true) := hD 6 107 (by kernel_rfl) rfl
                  rw [if_pos (wanted_some (d := 104) rfl rfl (hD 3 104 (by kernel_rfl) rfl))]
                  clear hF hD
                  exact gives_val (by simp only [execOp, evF, h107]; first | rfl | go_simp) ⟨Gr.refl _, rfl⟩
                · intro f w' g hF hD
                  have h104 : f 104 = (.bool false) := hD 3 104 (by kernel_rfl) rfl
                  have h108 : f 108 = (.bool false) := hD 7 108 (by kernel_rfl) rfl
                  rw [if_pos (wanted_none rfl)]
                  clear hF hD
                  exact gives_val (by simp only [execOp, evF, h104, h108]; first | rfl | go_simp) ⟨Gr.refl _, rfl⟩
                · intro f w' g hF hD
                  have h109 : f 109 = (.bool false) := hD 8 109 (by kernel_rfl) rfl
                  rw [if_pos (wanted_none rfl)]
                  clear hF hD
                  exact gives_val (by simp only [execOp, evF, h109]; first | rfl | go_simp) ⟨Gr.refl _, rfl⟩
                · intro f w' g hF hD
                  have h6 : f 6 = .pointer (some ⟨r, 0, none⟩) := hF 6 (by kernel_rfl)
                  rw [if_pos (wanted_some (d := 110) rfl rfl (hD 9 110 (by kernel_rfl) rfl))]
                  clear hF hD
                  exact gives_val (by simp only [execOp, evF, h6]; first | rfl | go_simp) ⟨Gr.refl _, rfl⟩
                · intro f w' g hF hD
                  have h111 : f 111 = (.pointer (some ⟨r, 0, none⟩)) := hD 10 111 (by kernel_rfl) rfl
                  rw [if_pos (wanted_some (d := 110) rfl rfl (hD 9 110 (by kernel_rfl) rfl))]
                  clear hF hD
                  have hw := (HZ.out.drewN 1).below g
                  refine gives_func rfl Try.func13 (by kernel_rfl) rfl (by simp only [List.map_toArray, List.map_cons, List.map_nil, evF, h111]) ((Rleft_c r s' w' hw.rdr).mono ?_)
                  rintro e w'' ⟨rfl, q, rfl⟩
                  exact ⟨_, rfl, below_drewN (Below.refl _ _) q, rfl⟩
                · intro f w' g hF hD
                  have h7 : f 7 = .pointer (some ⟨m, 0, none⟩) := hF 7 (by kernel_rfl)
                  rw [if_pos (wanted_some (d := 110) rfl rfl (hD 9 110 (by kernel_rfl) rfl))]
                  clear hF hD
                  have hw := (HZ.out.drewN 1).below g
                  obtain ⟨⟨c0, c1, c2⟩, _⟩ := hw.cells
                  exact gives_val (by simp only [execOp, evF, h7]; go_simp) ⟨Gr.refl _, rfl⟩
                · intro f w' g hF hD
                  have h113 : f 113 = (.agg #[.slice A n c, .int .i64 (s'.at_ : Int), .int .i64 (s'.err : Int)]) := hD 12 113 (by kernel_rfl) rfl
                  rw [if_pos (wanted_some (d := 110) rfl rfl (hD 9 110 (by kernel_rfl) rfl))]
                  clear hF hD
                  have hw := (HZ.out.drewN 1).below g
                  refine gives_func rfl Try.func29 (by kernel_rfl) rfl (by simp only [List.map_toArray, List.map_cons, List.map_nil, evF, h113]) ((left_r hw hr HN.out hc hm hl).mono ?_)
                  rintro e w'' ⟨rfl, hb⟩
                  exact ⟨_, rfl, hb, rfl⟩
                · intro f w' g hF hD
                  have h112 : f 112 = (.int .i64 ((s'.b.length - s'.at_ : Nat) : Int)) := hD 11 112 (by kernel_rfl) rfl
                  have h114 : f 114 = (.int .i64 ((s'.b.length - s'.at_ : Nat) : Int)) := hD 13 114 (by kernel_rfl) rfl
                  rw [if_pos (wanted_some (d := 110) rfl rfl (hD 9 110 (by kernel_rfl) rfl))]
                  clear hF hD
                  exact gives_val (by simp only [execOp, evF, h112, h114]; first | rfl | go_simp) ⟨Gr.refl _, rfl⟩
                · intro f w' g hF hD
                  have h110 : f 110 = (.bool false) := hD 9 110 (by kernel_rfl) rfl
                  have h115 : f 115 = (.bool false) := hD 14 115 (by kernel_rfl) rfl
                  rw [if_pos (wanted_none rfl)]
                  clear hF hD
                  exact gives_val (by simp only [execOp, evF, h110, h115]; first | rfl | go_simp) ⟨Gr.refl _, rfl⟩
                · intro f w' g hF hD
                  have h116 : f 116 = (.bool false) := hD 15 116 (by kernel_rfl) rfl
                  rw [if_pos (wanted_none rfl)]
                  clear hF hD
                  exact gives_val (by simp only [execOp, evF, h116]; first | rfl | go_simp) ⟨Gr.refl _, rfl⟩
                · intro f w' g hF hD
                  have h6 : f 6 = .pointer (some ⟨r, 0, none⟩) := hF 6 (by kernel_rfl)
                  rw [if_pos (wanted_some (d := 117) rfl rfl (hD 16 117 (by kernel_rfl) rfl))]
                  clear hF hD
                  exact gives_val (by simp only [execOp, evF, h6]; first | rfl | go_simp) ⟨Gr.refl _, rfl⟩
                · intro f w' g hF hD
                  have h118 : f 118 = (.pointer (some ⟨r, 0, none⟩)) := hD 17 118 (by kernel_rfl) rfl
                  rw [if_pos (wanted_some (d := 117) rfl rfl (hD 16 117 (by kernel_rfl) rfl))]
                  clear hF hD
                  have hw := (HZ.out.drewN 1).below g
                  refine gives_func rfl Try.func11 (by kernel_rfl) rfl (by simp only [List.map_toArray, List.map_cons, List.map_nil, evF, h118]) ((Rerr_c r s' w' hw.rdr).mono ?_)
                  rintro e w'' ⟨rfl, rfl⟩
                  exact ⟨_, rfl, Gr.refl _, rfl⟩
                · intro f w' g hF hD
                  have h7 : f 7 = .pointer (some ⟨m, 0, none⟩) := hF 7 (by kernel_rfl)
                  rw [if_pos (wanted_some (d := 117) rfl rfl (hD 16 117 (by kernel_rfl) rfl))]
                  clear hF hD
                  exact gives_val (by simp only [execOp, evF, h7]; first | rfl | go_simp) ⟨Gr.refl _, rfl⟩
                · intro f w' g hF hD
                  have h120 : f 120 = (.pointer (some ⟨m, 2, none⟩)) := hD 19 120 (by kernel_rfl) rfl
                  rw [if_pos (wanted_some (d := 117) rfl rfl (hD 16 117 (by kernel_rfl) rfl))]
                  clear hF hD
                  have hw := (HZ.out.drewN 1).below g
                  obtain ⟨⟨c0, c1, c2⟩, _⟩ := hw.cells
                  exact gives_val (by simp only [execOp, evF, h120]; go_simp) ⟨Gr.refl _, rfl⟩
                · intro f w' g hF hD
                  have h119 : f 119 = (.int .i64 (s'.err : Int)) := hD 18 119 (by kernel_rfl) rfl
                  have h121 : f 121 = (.int .i64 (s'.err : Int)) := hD 20 121 (by kernel_rfl) rfl
                  rw [if_pos (wanted_some (d := 117) rfl rfl (hD 16 117 (by kernel_rfl) rfl))]
                  clear hF hD
                  exact gives_val (by simp only [execOp, evF, h119, h121]; first | rfl | go_simp) ⟨Gr.refl _, rfl⟩
                · intro f w' g hF hD
                  have h117 : f 117 = (.bool false) := hD 16 117 (by kernel_rfl) rfl
                  have h122 : f 122 = (.bool false) := hD 21 122 (by kernel_rfl) rfl
                  rw [if_pos (wanted_none rfl)]
                  clear hF hD
                  exact gives_val (by simp only [execOp, evF, h117, h122]; first | rfl | go_simp) ⟨Gr.refl _, rfl⟩
                · intro f w' g hF hD
                  have h123 : f 123 = (.bool false) := hD 22 123 (by kernel_rfl) rfl
                  rw [if_pos (wanted_none rfl)]
                  clear hF hD
                  exact gives_val (by simp only [execOp, evF, h123]; first | rfl | go_simp) ⟨Gr.refl _, rfl⟩
                · intro f w' g hF hD
                  have h6 : f 6 = .pointer (some ⟨r, 0, none⟩) := hF 6 (by kernel_rfl)
                  rw [if_pos (wanted_some (d := 124) rfl rfl (hD 23 124 (by kernel_rfl) rfl))]
                  clear hF hD
                  exact gives_val (by simp only [execOp, evF, h6]; first | rfl | go_simp) ⟨Gr.refl _, rfl⟩
                · intro f w' g hF hD
                  have h125 : f 125 = (.pointer (some ⟨r, 0, none⟩)) := hD 24 125 (by kernel_rfl) rfl
                  rw [if_pos (wanted_some (d := 124) rfl rfl (hD 23 124 (by kernel_rfl) rfl))]
                  clear hF hD
                  have hw := (HZ.out.drewN 1).below g
                  refine gives_func rfl Try.func30 (by kernel_rfl) rfl (by simp only [List.map_toArray, List.map_cons, List.map_nil, evF, h125]) ((Rend_c r s' w' hw.rdr).mono ?_)
                  rintro e w'' ⟨rfl, q, rfl⟩
                  exact ⟨_, rfl, below_drewN (Below.refl _ _) q, rfl⟩
                · intro f w' g hF hD
                  have h7 : f 7 = .pointer (some ⟨m, 0, none⟩) := hF 7 (by kernel_rfl)
                  rw [if_pos (wanted_some (d := 124) rfl rfl (hD 23 124 (by kernel_rfl) rfl))]
                  clear hF hD
                  have hw := (HZ.out.drewN 1).below g
                  obtain ⟨⟨c0, c1, c2⟩, _⟩ := hw.cells
                  exact gives_val (by simp only [execOp, evF, h7]; go_simp) ⟨Gr.refl _, rfl⟩
                · intro f w' g hF hD
                  have h127 : f 127 = (.agg #[.slice A n c, .int .i64 (s'.at_ : Int), .int .i64 (s'.err : Int)]) := hD 26 127 (by kernel_rfl) rfl
                  rw [if_pos (wanted_some (d := 124) rfl rfl (hD 23 124 (by kernel_rfl) rfl))]
                  clear hF hD
                  have hw := (HZ.out.drewN 1).below g
                  refine gives_func rfl Try.func31 (by kernel_rfl) rfl (by simp only [List.map_toArray, List.map_cons, List.map_nil, evF, h127]) ((end_r hw hr HN.out hc hm hl).mono ?_)
                  rintro e w'' ⟨rfl, hb⟩
                  exact ⟨_, rfl, hb, rfl⟩
                · intro f w' g hF hD
                  have h126 : f 126 = (.int .i64 (endR s' : Int)) := hD 25 126 (by kernel_rfl) rfl
                  have h128 : f 128 = (.int .i64 (endR s' : Int)) := hD 27 128 (by kernel_rfl) rfl
                  rw [if_pos (wanted_some (d := 124) rfl rfl (hD 23 124 (by kernel_rfl) rfl))]
                  clear hF hD
                  exact gives_val (by simp only [execOp, evF, h126, h128]; first | rfl | go_simp) ⟨Gr.refl _, rfl⟩
                · intro f w' g hF hD
                  have h124 : f 124 = (.bool false) := hD 23 124 (by kernel_rfl) rfl
                  have h129 : f 129 = (.bool false) := hD 28 129 (by kernel_rfl) rfl
                  rw [if_pos (wanted_none rfl)]
                  clear hF hD
                  exact gives_val (by simp only [execOp, evF, h124, h129]; first | rfl | go_simp) ⟨Gr.refl _, rfl⟩
              · intro f w' g hD
                have h130 : f 130 = .bool false := hD 29 130 rfl
                have hw0 := (HZ.out.drewN 1).below g
                have HW9 := Lib.hid hw0; clear hw0
                have hv0 : OwnB w' (m + 1) (.slice Av ml cv) l := Own.below (Own.drewN HV.out 1) g
                have HV9 := Lib.hid hv0; clear hv0
                clear hD g HZ HV HT HVr HTr
                simp only [putAll, List.setIfInBounds_toArray, List.set_cons_zero, List.set_cons_succ, h130]
                go_wp2_with (fail)
                go_loopw [133] (fun i wr => ∃ (j : Nat) (l' : List UInt8), j ≤ ml ∧ i = .int .i64 j ∧ Hid (OwnB wr (m + 1) (.slice Av ml cv) l') ∧ Hid (WR w r m (m + 1) n A c bs wr s' s')) (fun i _ => ml - (intOf i).toNat)
                case atStart => exact ⟨0, l, Nat.zero_le _, rfl, HV9, HW9⟩
                case round =>
                  clear HV9 HW9
                  obtain ⟨j, l', hj, rfl, HO, HW⟩ := hrel
                  by_cases hlj : j < ml
                  · have hml2 := hml
                    unfold maxLen at hml2
                    obtain ⟨g, rfl, g1, g2, hll⟩ := HO.out.open_ (by omega)
                    have hlj' : (j : Int) < (ml : Int) := by omega
                    have c0 := HO.out.cell j (by rw [hll]; exact hlj)
                    have f0 := HO.out.free j
                    obtain ⟨x, ex⟩ : ∃ x, x = (l'[j]'(by rw [hll]; exact hlj)).toNat := ⟨_, rfl⟩
                    unfold bv at c0
                    rw [← ex] at c0
                    clear ex
                    have HLL := Lib.hid hll; clear hll
                    go_wp2
                    go_roundw
                    case rel =>
                      obtain ⟨b', eb⟩ := u8_mod ((x : Int) + 1)
                      rw [eb]
                      exact ⟨j + 1, l'.set j b', by omega, by go_num, Lib.hid (OwnB.set HO.out j b'), Lib.hid (HW.out.set (by show m + 1 ≤ g; omega) _)⟩
                    case measure => simp [intOf]; omega
                  · obtain rfl : ml = j := by omega
                    clear HO
                    go_wp2_with (fail)
                    go_roundw
                    case rel => exact ⟨k + 1, s', by omega, by go_num, HW⟩
                    case measure => simp [intOf]; omega
            have e2 : (x0 == 2) = false := by rw [beq_eq_false_iff_ne]; exact b2
            clear b2
            by_cases b3 : x0 = 3
            · have e3 : (x0 == 3) = true := by rw [beq_iff_eq]; exact b3
              have B3 := Lib.hid b3; clear b3
              obtain ⟨N, s', eN⟩ : ∃ N s', takeR s x1 = (N, s') := ⟨_, _, rfl⟩
              have EN := Lib.hid eN; clear eN
              go_wp2_with (fail)
              refine (take_i HWa.out x1 HWF.out EN.out).mono ?_
              rintro e w5 ⟨v5, rfl, HV5, HW5, hg5⟩
              have hc5 := (hg5.cell hca (by intro e; injection e with e; simp at e; omega))
              obtain ⟨⟨d0, d1, d2⟩, _⟩ := HW5.out.cells
              have z5 : wr.heap.size + 1 ≤ w5.heap.size := by have := hg5.size; simpa using this
              clear hg5 hca
              go_wp2_with (fail)
              refine (take_r HW5.out hr HN.out hc hm hl x1 HWF.out EN.out).mono ?_
              rintro e w6 ⟨v6, rfl, HV6, hb6⟩
              have HW6 := Lib.hid (HW5.out.below hb6)
              obtain ⟨⟨g0, g1, g2⟩, g3, g4, g5⟩ := HW6.out.cells
              have kk := takeR_k s x1 HWa.out.at_
              rw [EN.out] at kk
              have hW7 := HW6.out.box3 _ _ _ s' kk.1 kk.2.2 rfl rfl rfl
              have HZ := Lib.hid hW7; clear hW7
              have z6 := hb6.size
              obtain ⟨Av, cv, rfl, pv1, pv2, pv3, _⟩ := OwnB.form HV5.out
              obtain ⟨At, ct, rfl, pt1, pt2, pt3, _⟩ := OwnB.form HV6.out
              have hv7 : OwnB w6 (wr.heap.size + 1) (.slice Av N.length cv) N := Own.below (Own.low HV5.out (by simp)) hb6
              have ht7 : OwnB w6 (wr.heap.size + 1) (.slice At N.length ct) N := Own.low HV6.out (by omega)
              have hv8 := ((Own.setBelow hv7 (p := ⟨m, 0, none⟩) (by show m < _; omega) (.slice A n c)).setBelow (p := ⟨m, 1, none⟩) (by show m < _; omega) (.int .i64 (s'.at_ : Int))).setBelow (p := ⟨m, 2, none⟩) (by show m < _; omega) (.int .i64 (s'.err : Int))
              have ht8 := ((Own.setBelow ht7 (p := ⟨m, 0, none⟩) (by show m < _; omega) (.slice A n c)).setBelow (p := ⟨m, 1, none⟩) (by show m < _; omega) (.int .i64 (s'.at_ : Int))).setBelow (p := ⟨m, 2, none⟩) (by show m < _; omega) (.int .i64 (s'.err : Int))
              clear HV5 HV6 hv7 ht7 pv1 pv2 pv3 pt1 pt2 pt3
              obtain ⟨l, el⟩ : ∃ l, l = N := ⟨_, rfl⟩
              rw [← el] at hv8 ht8 ⊢
              obtain ⟨ml, eml⟩ : ∃ ml, l.length = ml := ⟨_, rfl⟩
              rw [eml] at hv8 ht8 ⊢
              have HL := Lib.hid eml; clear eml el
              have HV := Lib.hid (Own.low hv8 (by omega : m + 1 ≤ wr.heap.size + 1)); clear hv8
              have HT := Lib.hid (Own.low ht8 (by omega : m + 1 ≤ wr.heap.size + 1)); clear ht8
              have HVr := Lib.hid (rd_of HV.out)
              have HTr := Lib.hid (rd_of HT.out)
              have hml := len_of HV.out
              go_wp2_with (fail)
              clear g0 g1 g2 g3 g4 g5 HW6 HW5 hb6 d0 d1 d2 hc5 kk HWa
              refine wp_region_rw 146 [Rl.eq (.int .u64 (0 : Int)), Rl.eq (.int .u64 (0 : Int)), Rl.eq (.bool false), Rl.eq (.bool false), Rl.eq (.slice Av ml cv), Rl.eq (.slice At ml ct), Rl.eq (.bool true), Rl.eq (.bool false), Rl.eq (.bool false), Rl.eq (.bool false), Rl.eq (.pointer (some ⟨r, 0, none⟩)), Rl.eq (.int .i64 ((s'.b.length - s'.at_ : Nat) : Int)), Rl.eq (.agg #[.slice A n c, .int .i64 (s'.at_ : Int), .int .i64 (s'.err : Int)]), Rl.eq (.int .i64 ((s'.b.length - s'.at_ : Nat) : Int)), Rl.eq (.bool false), Rl.eq (.bool false), Rl.eq (.bool false), Rl.eq (.pointer (some ⟨r, 0, none⟩)), Rl.eq (.int .i64 (s'.err : Int)), Rl.eq (.pointer (some ⟨m, 2, none⟩)), Rl.eq (.int .i64 (s'.err : Int)), Rl.eq (.bool false), Rl.eq (.bool false), Rl.eq (.bool false), Rl.eq (.pointer (some ⟨r, 0, none⟩)), Rl.eq (.int .i64 (endR s' : Int)), Rl.eq (.agg #[.slice A n c, .int .i64 (s'.at_ : Int), .int .i64 (s'.err : Int)]), Rl.eq (.int .i64 (endR s' : Int)), Rl.eq (.bool false), Rl.eq (.bool false)] [101, 102, 103, 104, 105, 106, 107, 108, 109, 110, 111, 112, 113, 114, 115, 116, 117, 118, 119, 120, 121, 122, 123, 124, 125, 126, 127, 128, 129, 130] (by kernel_rfl) rfl (by kernel_rfl) (by kernel_rfl) ?_ ?_
              · repeat (first | exact AllFrom.nil_ | (refine AllFrom.cons_ (by rfl) ?_ ?_; rotate_left))
                · intro f w' g hF hD
                  have h11 : f 11 = .int .u64 (0 : Int) := hF 11 (by kernel_rfl)
                  rw [if_pos (wanted_none rfl)]
                  clear hF hD
                  exact gives_val (by simp only [execOp, evF, h11]; first | rfl | go_simp) ⟨Gr.refl _, rfl⟩
                · intro f w' g hF hD
                  have h12 : f 12 = .int .u64 (0 : Int) := hF 12 (by kernel_rfl)
                  rw [if_pos (wanted_none rfl)]
                  clear hF hD
                  exact gives_val (by simp only [execOp, evF, h12]; first | rfl | go_simp) ⟨Gr.refl _, rfl⟩
                · intro f w' g hF hD
                  have h101 : f 101 = (.int .u64 (0 : Int)) := hD 0 101 (by kernel_rfl) rfl
                  have h102 : f 102 = (.int .u64 (0 : Int)) := hD 1 102 (by kernel_rfl) rfl
                  rw [if_pos (wanted_none rfl)]
                  clear hF hD
                  exact gives_val (by simp only [execOp, evF, h101, h102]; first | rfl | go_simp) ⟨Gr.refl _, rfl⟩
                · intro f w' g hF hD
                  have h103 : f 103 = (.bool false) := hD 2 103 (by kernel_rfl) rfl
                  rw [if_pos (wanted_none rfl)]
                  clear hF hD
                  exact gives_val (by simp only [execOp, evF, h103]; first | rfl | go_simp) ⟨Gr.refl _, rfl⟩
                · intro f w' g hF hD
                  have h13 : f 13 = .slice Av ml cv := hF 13 (by kernel_rfl)
                  rw [if_pos (wanted_some (d := 104) rfl rfl (hD 3 104 (by kernel_rfl) rfl))]
                  clear hF hD
                  exact gives_val (by simp only [execOp, evF, h13]; first | rfl | go_simp) ⟨Gr.refl _, rfl⟩
                · intro f w' g hF hD
                  have h14 : f 14 = .slice At ml ct := hF 14 (by kernel_rfl)
                  rw [if_pos (wanted_some (d := 104) rfl rfl (hD 3 104 (by kernel_rfl) rfl))]
                  clear hF hD
                  exact gives_val (by simp only [execOp, evF, h14]; first | rfl | go_simp) ⟨Gr.refl _, rfl⟩
                · intro f w' g hF hD
                  have h105 : f 105 = (.slice Av ml cv) := hD 4 105 (by kernel_rfl) rfl
                  have h106 : f 106 = (.slice At ml ct) := hD 5 106 (by kernel_rfl) rfl
                  rw [if_pos (wanted_some (d := 104) rfl rfl (hD 3 104 (by kernel_rfl) rfl))]
                  clear hF hD
                  have hw := (HZ.out.drewN 1).below g
                  refine gives_func rfl Try.func14 (by kernel_rfl) rfl (by simp only [List.map_toArray, List.map_cons, List.map_nil, evF, h105, h106]) ((Same_t Av At ml ml cv ct l w' HL.out HL.out ((HVr.out.drewN 1).below g) ((HTr.out.drewN 1).below g) hml).mono ?_)
                  rintro e w'' ⟨rfl, q, rfl⟩
                  exact ⟨_, rfl, below_drewN (Below.refl _ _) q, rfl⟩
                · intro f w' g hF hD
                  have h107 : f 107 = (.bool true) := hD 6 107 (by kernel_rfl) rfl
                  rw [if_pos (wanted_some (d := 104) rfl rfl (hD 3 104 (by kernel_rfl) rfl))]
                  clear hF hD
                  exact gives_val (by simp only [execOp, evF, h107]; first | rfl | go_simp) ⟨Gr.refl _, rfl⟩
                · intro f w' g hF hD
                  have h104 : f 104 = (.bool false) := hD 3 104 (by kernel_rfl) rfl
                  have h108 : f 108 = (.bool false) := hD 7 108 (by kernel_rfl) rfl
                  rw [if_pos (wanted_none rfl)]
                  clear hF hD
                  exact gives_val (by simp only [execOp, evF, h104, h108]; first | rfl | go_simp) ⟨Gr.refl _, rfl⟩
                · intro f w' g hF hD
                  have h109 : f 109 = (.bool false) := hD 8 109 (by kernel_rfl) rfl
                  rw [if_pos (wanted_none rfl)]
                  clear hF hD
                  exact gives_val (by simp only [execOp, evF, h109]; first | rfl | go_simp) ⟨Gr.refl _, rfl⟩
                · intro f w' g hF hD
                  have h6 : f 6 = .pointer (some ⟨r, 0, none⟩) := hF 6 (by kernel_rfl)
                  rw [if_pos (wanted_some (d := 110) rfl rfl (hD 9 110 (by kernel_rfl) rfl))]
                  clear hF hD
                  exact gives_val (by simp only [execOp, evF, h6]; first | rfl | go_simp) ⟨Gr.refl _, rfl⟩
                · intro f w' g hF hD
                  have h111 : f 111 = (.pointer (some ⟨r, 0, none⟩)) := hD 10 111 (by kernel_rfl) rfl
                  rw [if_pos (wanted_some (d := 110) rfl rfl (hD 9 110 (by kernel_rfl) rfl))]
                  clear hF hD
                  have hw := (HZ.out.drewN 1).below g
                  refine gives_func rfl Try.func13 (by kernel_rfl) rfl (by simp only [List.map_toArray, List.map_cons, List.map_nil, evF, h111]) ((Rleft_c r s' w' hw.rdr).mono ?_)
                  rintro e w'' ⟨rfl, q, rfl⟩
                  exact ⟨_, rfl, below_drewN (Below.refl _ _) q, rfl⟩
                · intro f w' g hF hD
                  have h7 : f 7 = .pointer (some ⟨m, 0, none⟩) := hF 7 (by kernel_rfl)
                  rw [if_pos (wanted_some (d := 110) rfl rfl (hD 9 110 (by kernel_rfl) rfl))]
                  clear hF hD
                  have hw := (HZ.out.drewN 1).below g
                  obtain ⟨⟨c0, c1, c2⟩, _⟩ := hw.cells
                  exact gives_val (by simp only [execOp, evF, h7]; go_simp) ⟨Gr.refl _, rfl⟩
                · intro f w' g hF hD
                  have h113 : f 113 = (.agg #[.slice A n c, .int .i64 (s'.at_ : Int), .int .i64 (s'.err : Int)]) := hD 12 113 (by kernel_rfl) rfl
                  rw [if_pos (wanted_some (d := 110) rfl rfl (hD 9 110 (by kernel_rfl) rfl))]
                  clear hF hD
                  have hw := (HZ.out.drewN 1).below g
                  refine gives_func rfl Try.func29 (by kernel_rfl) rfl (by simp only [List.map_toArray, List.map_cons, List.map_nil, evF, h113]) ((left_r hw hr HN.out hc hm hl).mono ?_)
                  rintro e w'' ⟨rfl, hb⟩
                  exact ⟨_, rfl, hb, rfl⟩
                · intro f w' g hF hD
                  have h112 : f 112 = (.int .i64 ((s'.b.length - s'.at_ : Nat) : Int)) := hD 11 112 (by kernel_rfl) rfl
                  have h114 : f 114 = (.int .i64 ((s'.b.length - s'.at_ : Nat) : Int)) := hD 13 114 (by kernel_rfl) rfl
                  rw [if_pos (wanted_some (d := 110) rfl rfl (hD 9 110 (by kernel_rfl) rfl))]
                  clear hF hD
                  exact gives_val (by simp only [execOp, evF, h112, h114]; first | rfl | go_simp) ⟨Gr.refl _, rfl⟩
                · intro f w' g hF hD
                  have h110 : f 110 = (.bool false) := hD 9 110 (by kernel_rfl) rfl
                  have h115 : f 115 = (.bool false) := hD 14 115 (by kernel_rfl) rfl
                  rw [if_pos (wanted_none rfl)]
                  clear hF hD
                  exact gives_val (by simp only [execOp, evF, h110, h115]; first | rfl | go_simp) ⟨Gr.refl _, rfl⟩
                · intro f w' g hF hD
                  have h116 : f 116 = (.bool false) := hD 15 116 (by kernel_rfl) rfl
                  rw [if_pos (wanted_none rfl)]
                  clear hF hD
                  exact gives_val (by simp only [execOp, evF, h116]; first | rfl | go_simp) ⟨Gr.refl _, rfl⟩
                · intro f w' g hF hD
                  have h6 : f 6 = .pointer (some ⟨r, 0, none⟩) := hF 6 (by kernel_rfl)
                  rw [if_pos (wanted_some (d := 117) rfl rfl (hD 16 117 (by kernel_rfl) rfl))]
                  clear hF hD
                  exact gives_val (by simp only [execOp, evF, h6]; first | rfl | go_simp) ⟨Gr.refl _, rfl⟩
                · intro f w' g hF hD
                  have h118 : f 118 = (.pointer (some ⟨r, 0, none⟩)) := hD 17 118 (by kernel_rfl) rfl
                  rw [if_pos (wanted_some (d := 117) rfl rfl (hD 16 117 (by kernel_rfl) rfl))]
                  clear hF hD
                  have hw := (HZ.out.drewN 1).below g
                  refine gives_func rfl Try.func11 (by kernel_rfl) rfl (by simp only [List.map_toArray, List.map_cons, List.map_nil, evF, h118]) ((Rerr_c r s' w' hw.rdr).mono ?_)
                  rintro e w'' ⟨rfl, rfl⟩
                  exact ⟨_, rfl, Gr.refl _, rfl⟩
                · intro f w' g hF hD
                  have h7 : f 7 = .pointer (some ⟨m, 0, none⟩) := hF 7 (by kernel_rfl)
                  rw [if_pos (wanted_some (d := 117) rfl rfl (hD 16 117 (by kernel_rfl) rfl))]
                  clear hF hD
                  exact gives_val (by simp only [execOp, evF, h7]; first | rfl | go_simp) ⟨Gr.refl _, rfl⟩
                · intro f w' g hF hD
                  have h120 : f 120 = (.pointer (some ⟨m, 2, none⟩)) := hD 19 120 (by kernel_rfl) rfl
                  rw [if_pos (wanted_some (d := 117) rfl rfl (hD 16 117 (by kernel_rfl) rfl))]
                  clear hF hD
                  have hw := (HZ.out.drewN 1).below g
                  obtain ⟨⟨c0, c1, c2⟩, _⟩ := hw.cells
                  exact gives_val (by simp only [execOp, evF, h120]; go_simp) ⟨Gr.refl _, rfl⟩
                · intro f w' g hF hD
                  have h119 : f 119 = (.int .i64 (s'.err : Int)) := hD 18 119 (by kernel_rfl) rfl
                  have h121 : f 121 = (.int .i64 (s'.err : Int)) := hD 20 121 (by kernel_rfl) rfl
                  rw [if_pos (wanted_some (d := 117) rfl rfl (hD 16 117 (by kernel_rfl) rfl))]
                  clear hF hD
                  exact gives_val (by simp only [execOp, evF, h119, h121]; first | rfl | go_simp) ⟨Gr.refl _, rfl⟩
                · intro f w' g hF hD
                  have h117 : f 117 = (.bool false) := hD 16 117 (by kernel_rfl) rfl
                  have h122 : f 122 = (.bool false) := hD 21 122 (by kernel_rfl) rfl
                  rw [if_pos (wanted_none rfl)]
                  clear hF hD
                  exact gives_val (by simp only [execOp, evF, h117, h122]; first | rfl | go_simp) ⟨Gr.refl _, rfl⟩
                · intro f w' g hF hD
                  have h123 : f 123 = (.bool false) := hD 22 123 (by kernel_rfl) rfl
                  rw [if_pos (wanted_none rfl)]
                  clear hF hD
                  exact gives_val (by simp only [execOp, evF, h123]; first | rfl | go_simp) ⟨Gr.refl _, rfl⟩
                · intro f w' g hF hD
                  have h6 : f 6 = .pointer (some ⟨r, 0, none⟩) := hF 6 (by kernel_rfl)
                  rw [if_pos (wanted_some (d := 124) rfl rfl (hD 23 124 (by kernel_rfl) rfl))]
                  clear hF hD
                  exact gives_val (by simp only [execOp, evF, h6]; first | rfl | go_simp) ⟨Gr.refl _, rfl⟩
                · intro f w' g hF hD
                  have h125 : f 125 = (.pointer (some ⟨r, 0, none⟩)) := hD 24 125 (by kernel_rfl) rfl
                  rw [if_pos (wanted_some (d := 124) rfl rfl (hD 23 124 (by kernel_rfl) rfl))]
                  clear hF hD
                  have hw := (HZ.out.drewN 1).below g
                  refine gives_func rfl Try.func30 (by kernel_rfl) rfl (by simp only [List.map_toArray, List.map_cons, List.map_nil, evF, h125]) ((Rend_c r s' w' hw.rdr).mono ?_)
                  rintro e w'' ⟨rfl, q, rfl⟩
                  exact ⟨_, rfl, below_drewN (Below.refl _ _) q, rfl⟩
                · intro f w' g hF hD
                  have h7 : f 7 = .pointer (some ⟨m, 0, none⟩) := hF 7 (by kernel_rfl)
                  rw [if_pos (wanted_some (d := 124) rfl rfl (hD 23 124 (by kernel_rfl) rfl))]
                  clear hF hD
                  have hw := (HZ.out.drewN 1).below g
                  obtain ⟨⟨c0, c1, c2⟩, _⟩ := hw.cells
                  exact gives_val (by simp only [execOp, evF, h7]; go_simp) ⟨Gr.refl _, rfl⟩
                · intro f w' g hF hD
                  have h127 : f 127 = (.agg #[.slice A n c, .int .i64 (s'.at_ : Int), .int .i64 (s'.err : Int)]) := hD 26 127 (by kernel_rfl) rfl
                  rw [if_pos (wanted_some (d := 124) rfl rfl (hD 23 124 (by kernel_rfl) rfl))]
                  clear hF hD
                  have hw := (HZ.out.drewN 1).below g
                  refine gives_func rfl Try.func31 (by kernel_rfl) rfl (by simp only [List.map_toArray, List.map_cons, List.map_nil, evF, h127]) ((end_r hw hr HN.out hc hm hl).mono ?_)
                  rintro e w'' ⟨rfl, hb⟩
                  exact ⟨_, rfl, hb, rfl⟩
                · intro f w' g hF hD
                  have h126 : f 126 = (.int .i64 (endR s' : Int)) := hD 25 126 (by kernel_rfl) rfl
                  have h128 : f 128 = (.int .i64 (endR s' : Int)) := hD 27 128 (by kernel_rfl) rfl
                  rw [if_pos (wanted_some (d := 124) rfl rfl (hD 23 124 (by kernel_rfl) rfl))]
                  clear hF hD
                  exact gives_val (by simp only [execOp, evF, h126, h128]; first | rfl | go_simp) ⟨Gr.refl _, rfl⟩
                · intro f w' g hF hD
                  have h124 : f 124 = (.bool false) := hD 23 124 (by kernel_rfl) rfl
                  have h129 : f 129 = (.bool false) := hD 28 129 (by kernel_rfl) rfl
                  rw [if_pos (wanted_none rfl)]
                  clear hF hD
                  exact gives_val (by simp only [execOp, evF, h124, h129]; first | rfl | go_simp) ⟨Gr.refl _, rfl⟩
              · intro f w' g hD
                have h130 : f 130 = .bool false := hD 29 130 rfl
                have hw0 := (HZ.out.drewN 1).below g
                have HW9 := Lib.hid hw0; clear hw0
                have hv0 : OwnB w' (m + 1) (.slice Av ml cv) l := Own.below (Own.drewN HV.out 1) g
                have HV9 := Lib.hid hv0; clear hv0
                clear hD g HZ HV HT HVr HTr
                simp only [putAll, List.setIfInBounds_toArray, List.set_cons_zero, List.set_cons_succ, h130]
                go_wp2_with (fail)
                go_loopw [133] (fun i wr => ∃ (j : Nat) (l' : List UInt8), j ≤ ml ∧ i = .int .i64 j ∧ Hid (OwnB wr (m + 1) (.slice Av ml cv) l') ∧ Hid (WR w r m (m + 1) n A c bs wr s' s')) (fun i _ => ml - (intOf i).toNat)
                case atStart => exact ⟨0, l, Nat.zero_le _, rfl, HV9, HW9⟩
                case round =>
                  clear HV9 HW9
                  obtain ⟨j, l', hj, rfl, HO, HW⟩ := hrel
                  by_cases hlj : j < ml
                  · have hml2 := hml
                    unfold maxLen at hml2
                    obtain ⟨g, rfl, g1, g2, hll⟩ := HO.out.open_ (by omega)
                    have hlj' : (j : Int) < (ml : Int) := by omega
                    have c0 := HO.out.cell j (by rw [hll]; exact hlj)
                    have f0 := HO.out.free j
                    obtain ⟨x, ex⟩ : ∃ x, x = (l'[j]'(by rw [hll]; exact hlj)).toNat := ⟨_, rfl⟩
                    unfold bv at c0
                    rw [← ex] at c0
                    clear ex
                    have HLL := Lib.hid hll; clear hll
                    go_wp2
                    go_roundw
                    case rel =>
                      obtain ⟨b', eb⟩ := u8_mod ((x : Int) + 1)
                      rw [eb]
                      exact ⟨j + 1, l'.set j b', by omega, by go_num, Lib.hid (OwnB.set HO.out j b'), Lib.hid (HW.out.set (by show m + 1 ≤ g; omega) _)⟩
                    case measure => simp [intOf]; omega
                  · obtain rfl : ml = j := by omega
                    clear HO
                    go_wp2_with (fail)
                    go_roundw
                    case rel => exact ⟨k + 1, s', by omega, by go_num, HW⟩
                    case measure => simp [intOf]; omega
            have e3 : (x0 == 3) = false := by rw [beq_eq_false_iff_ne]; exact b3
            clear b3
            go_wp2_with (fail)
            obtain ⟨s', es'⟩ : ∃ s' : RS, s' = s := ⟨_, rfl⟩
            rw [← es'] at HWa
            have HZ := HWa; clear HWa es' hca
            refine wp_region_rw 146 [Rl.eq (.int .u64 (0 : Int)), Rl.eq (.int .u64 (0 : Int)), Rl.eq (.bool false), Rl.eq (.bool false), Rl.eq (.slice none 0 0), Rl.eq (.slice none 0 0), Rl.eq (.bool true), Rl.eq (.bool false), Rl.eq (.bool false), Rl.eq (.bool false), Rl.eq (.pointer (some ⟨r, 0, none⟩)), Rl.eq (.int .i64 ((s'.b.length - s'.at_ : Nat) : Int)), Rl.eq (.agg #[.slice A n c, .int .i64 (s'.at_ : Int), .int .i64 (s'.err : Int)]), Rl.eq (.int .i64 ((s'.b.length - s'.at_ : Nat) : Int)), Rl.eq (.bool false), Rl.eq (.bool false), Rl.eq (.bool false), Rl.eq (.pointer (some ⟨r, 0, none⟩)), Rl.eq (.int .i64 (s'.err : Int)), Rl.eq (.pointer (some ⟨m, 2, none⟩)), Rl.eq (.int .i64 (s'.err : Int)), Rl.eq (.bool false), Rl.eq (.bool false), Rl.eq (.bool false), Rl.eq (.pointer (some ⟨r, 0, none⟩)), Rl.eq (.int .i64 (endR s' : Int)), Rl.eq (.agg #[.slice A n c, .int .i64 (s'.at_ : Int), .int .i64 (s'.err : Int)]), Rl.eq (.int .i64 (endR s' : Int)), Rl.eq (.bool false), Rl.eq (.bool false)] [101, 102, 103, 104, 105, 106, 107, 108, 109, 110, 111, 112, 113, 114, 115, 116, 117, 118, 119, 120, 121, 122, 123, 124, 125, 126, 127, 128, 129, 130] (by kernel_rfl) rfl (by kernel_rfl) (by kernel_rfl) ?_ ?_
            · repeat (first | exact AllFrom.nil_ | (refine AllFrom.cons_ (by rfl) ?_ ?_; rotate_left))
              · intro f w' g hF hD
                have h11 : f 11 = .int .u64 (0 : Int) := hF 11 (by kernel_rfl)
                rw [if_pos (wanted_none rfl)]
                clear hF hD
                exact gives_val (by simp only [execOp, evF, h11]; first | rfl | go_simp) ⟨Gr.refl _, rfl⟩
              · intro f w' g hF hD
                have h12 : f 12 = .int .u64 (0 : Int) := hF 12 (by kernel_rfl)
                rw [if_pos (wanted_none rfl)]
                clear hF hD
                exact gives_val (by simp only [execOp, evF, h12]; first | rfl | go_simp) ⟨Gr.refl _, rfl⟩
              · intro f w' g hF hD
                have h101 : f 101 = (.int .u64 (0 : Int)) := hD 0 101 (by kernel_rfl) rfl
                have h102 : f 102 = (.int .u64 (0 : Int)) := hD 1 102 (by kernel_rfl) rfl
                rw [if_pos (wanted_none rfl)]
                clear hF hD
                exact gives_val (by simp only [execOp, evF, h101, h102]; first | rfl | go_simp) ⟨Gr.refl _, rfl⟩
              · intro f w' g hF hD
                have h103 : f 103 = (.bool false) := hD 2 103 (by kernel_rfl) rfl
                rw [if_pos (wanted_none rfl)]
                clear hF hD
                exact gives_val (by simp only [execOp, evF, h103]; first | rfl | go_simp) ⟨Gr.refl _, rfl⟩
              · intro f w' g hF hD
                have h13 : f 13 = .slice none 0 0 := hF 13 (by kernel_rfl)
                rw [if_pos (wanted_some (d := 104) rfl rfl (hD 3 104 (by kernel_rfl) rfl))]
                clear hF hD
                exact gives_val (by simp only [execOp, evF, h13]; first | rfl | go_simp) ⟨Gr.refl _, rfl⟩
              · intro f w' g hF hD
                have h14 : f 14 = .slice none 0 0 := hF 14 (by kernel_rfl)
                rw [if_pos (wanted_some (d := 104) rfl rfl (hD 3 104 (by kernel_rfl) rfl))]
                clear hF hD
                exact gives_val (by simp only [execOp, evF, h14]; first | rfl | go_simp) ⟨Gr.refl _, rfl⟩
              · intro f w' g hF hD
                have h105 : f 105 = (.slice none 0 0) := hD 4 105 (by kernel_rfl) rfl
                have h106 : f 106 = (.slice none 0 0) := hD 5 106 (by kernel_rfl) rfl
                rw [if_pos (wanted_some (d := 104) rfl rfl (hD 3 104 (by kernel_rfl) rfl))]
                clear hF hD
                have hw := (HZ.out.drewN 1).below g
                refine gives_func rfl Try.func14 (by kernel_rfl) rfl (by simp only [List.map_toArray, List.map_cons, List.map_nil, evF, h105, h106]) ((Same_t none none 0 0 0 0 [] w' rfl rfl Rd.nil_ Rd.nil_ (by decide)).mono ?_)
                rintro e w'' ⟨rfl, q, rfl⟩
                exact ⟨_, rfl, below_drewN (Below.refl _ _) q, rfl⟩
              · intro f w' g hF hD
                have h107 : f 107 = (.bool true) := hD 6 107 (by kernel_rfl) rfl
                rw [if_pos (wanted_some (d := 104) rfl rfl (hD 3 104 (by kernel_rfl) rfl))]
                clear hF hD
                exact gives_val (by simp only [execOp, evF, h107]; first | rfl | go_simp) ⟨Gr.refl _, rfl⟩
              · intro f w' g hF hD
                have h104 : f 104 = (.bool false) := hD 3 104 (by kernel_rfl) rfl
                have h108 : f 108 = (.bool false) := hD 7 108 (by kernel_rfl) rfl
                rw [if_pos (wanted_none rfl)]
                clear hF hD
                exact gives_val (by simp only [execOp, evF, h104, h108]; first | rfl | go_simp) ⟨Gr.refl _, rfl⟩
              · intro f w' g hF hD
                have h109 : f 109 = (.bool false) := hD 8 109 (by kernel_rfl) rfl
                rw [if_pos (wanted_none rfl)]
                clear hF hD
                exact gives_val (by simp only [execOp, evF, h109]; first | rfl | go_simp) ⟨Gr.refl _, rfl⟩
              · intro f w' g hF hD
                have h6 : f 6 = .pointer (some ⟨r, 0, none⟩) := hF 6 (by kernel_rfl)
                rw [if_pos (wanted_some (d := 110) rfl rfl (hD 9 110 (by kernel_rfl) rfl))]
                clear hF hD
                exact gives_val (by simp only [execOp, evF, h6]; first | rfl | go_simp) ⟨Gr.refl _, rfl⟩
              · intro f w' g hF hD
                have h111 : f 111 = (.pointer (some ⟨r, 0, none⟩)) := hD 10 111 (by kernel_rfl) rfl
                rw [if_pos (wanted_some (d := 110) rfl rfl (hD 9 110 (by kernel_rfl) rfl))]
                clear hF hD
                have hw := (HZ.out.drewN 1).below g
                refine gives_func rfl Try.func13 (by kernel_rfl) rfl (by simp only [List.map_toArray, List.map_cons, List.map_nil, evF, h111]) ((Rleft_c r s' w' hw.rdr).mono ?_)
                rintro e w'' ⟨rfl, q, rfl⟩
                exact ⟨_, rfl, below_drewN (Below.refl _ _) q, rfl⟩
              · intro f w' g hF hD
                have h7 : f 7 = .pointer (some ⟨m, 0, none⟩) := hF 7 (by kernel_rfl)
                rw [if_pos (wanted_some (d := 110) rfl rfl (hD 9 110 (by kernel_rfl) rfl))]
                clear hF hD
                have hw := (HZ.out.drewN 1).below g
                obtain ⟨⟨c0, c1, c2⟩, _⟩ := hw.cells
                exact gives_val (by simp only [execOp, evF, h7]; go_simp) ⟨Gr.refl _, rfl⟩
              · intro f w' g hF hD
                have h113 : f 113 = (.agg #[.slice A n c, .int .i64 (s'.at_ : Int), .int .i64 (s'.err : Int)]) := hD 12 113 (by kernel_rfl) rfl
                rw [if_pos (wanted_some (d := 110) rfl rfl (hD 9 110 (by kernel_rfl) rfl))]
                clear hF hD
                have hw := (HZ.out.drewN 1).below g
                refine gives_func rfl Try.func29 (by kernel_rfl) rfl (by simp only [List.map_toArray, List.map_cons, List.map_nil, evF, h113]) ((left_r hw hr HN.out hc hm hl).mono ?_)
                rintro e w'' ⟨rfl, hb⟩
                exact ⟨_, rfl, hb, rfl⟩
              · intro f w' g hF hD
                have h112 : f 112 = (.int .i64 ((s'.b.length - s'.at_ : Nat) : Int)) := hD 11 112 (by kernel_rfl) rfl
                have h114 : f 114 = (.int .i64 ((s'.b.length - s'.at_ : Nat) : Int)) := hD 13 114 (by kernel_rfl) rfl
                rw [if_pos (wanted_some (d := 110) rfl rfl (hD 9 110 (by kernel_rfl) rfl))]
                clear hF hD
                exact gives_val (by simp only [execOp, evF, h112, h114]; first | rfl | go_simp) ⟨Gr.refl _, rfl⟩
              · intro f w' g hF hD
                have h110 : f 110 = (.bool false) := hD 9 110 (by kernel_rfl) rfl
                have h115 : f 115 = (.bool false) := hD 14 115 (by kernel_rfl) rfl
                rw [if_pos (wanted_none rfl)]
                clear hF hD
                exact gives_val (by simp only [execOp, evF, h110, h115]; first | rfl | go_simp) ⟨Gr.refl _, rfl⟩
              · intro f w' g hF hD
                have h116 : f 116 = (.bool false) := hD 15 116 (by kernel_rfl) rfl
                rw [if_pos (wanted_none rfl)]
                clear hF hD
                exact gives_val (by simp only [execOp, evF, h116]; first | rfl | go_simp) ⟨Gr.refl _, rfl⟩
              · intro f w' g hF hD
                have h6 : f 6 = .pointer (some ⟨r, 0, none⟩) := hF 6 (by kernel_rfl)
                rw [if_pos (wanted_some (d := 117) rfl rfl (hD 16 117 (by kernel_rfl) rfl))]
                clear hF hD
                exact gives_val (by simp only [execOp, evF, h6]; first | rfl | go_simp) ⟨Gr.refl _, rfl⟩
              · intro f w' g hF hD
                have h118 : f 118 = (.pointer (some ⟨r, 0, none⟩)) := hD 17 118 (by kernel_rfl) rfl
                rw [if_pos (wanted_some (d := 117) rfl rfl (hD 16 117 (by kernel_rfl) rfl))]
                clear hF hD
                have hw := (HZ.out.drewN 1).below g
                refine gives_func rfl Try.func11 (by kernel_rfl) rfl (by simp only [List.map_toArray, List.map_cons, List.map_nil, evF, h118]) ((Rerr_c r s' w' hw.rdr).mono ?_)
                rintro e w'' ⟨rfl, rfl⟩
                exact ⟨_, rfl, Gr.refl _, rfl⟩
              · intro f w' g hF hD
                have h7 : f 7 = .pointer (some ⟨m, 0, none⟩) := hF 7 (by kernel_rfl)
                rw [if_pos (wanted_some (d := 117) rfl rfl (hD 16 117 (by kernel_rfl) rfl))]
                clear hF hD
                exact gives_val (by simp only [execOp, evF, h7]; first | rfl | go_simp) ⟨Gr.refl _, rfl⟩
              · intro f w' g hF hD
                have h120 : f 120 = (.pointer (some ⟨m, 2, none⟩)) := hD 19 120 (by kernel_rfl) rfl
                rw [if_pos (wanted_some (d := 117) rfl rfl (hD 16 117 (by kernel_rfl) rfl))]
                clear hF hD
                have hw := (HZ.out.drewN 1).below g
                obtain ⟨⟨c0, c1, c2⟩, _⟩ := hw.cells
                exact gives_val (by simp only [execOp, evF, h120]; go_simp) ⟨Gr.refl _, rfl⟩
              · intro f w' g hF hD
                have h119 : f 119 = (.int .i64 (s'.err : Int)) := hD 18 119 (by kernel_rfl) rfl
                have h121 : f 121 = (.int .i64 (s'.err : Int)) := hD 20 121 (by kernel_rfl) rfl
                rw [if_pos (wanted_some (d := 117) rfl rfl (hD 16 117 (by kernel_rfl) rfl))]
                clear hF hD
                exact gives_val (by simp only [execOp, evF, h119, h121]; first | rfl | go_simp) ⟨Gr.refl _, rfl⟩
              · intro f w' g hF hD
                have h117 : f 117 = (.bool false) := hD 16 117 (by kernel_rfl) rfl
                have h122 : f 122 = (.bool false) := hD 21 122 (by kernel_rfl) rfl
                rw [if_pos (wanted_none rfl)]
                clear hF hD
                exact gives_val (by simp only [execOp, evF, h117, h122]; first | rfl | go_simp) ⟨Gr.refl _, rfl⟩
              · intro f w' g hF hD
                have h123 : f 123 = (.bool false) := hD 22 123 (by kernel_rfl) rfl
                rw [if_pos (wanted_none rfl)]
                clear hF hD
                exact gives_val (by simp only [execOp, evF, h123]; first | rfl | go_simp) ⟨Gr.refl _, rfl⟩
              · intro f w' g hF hD
                have h6 : f 6 = .pointer (some ⟨r, 0, none⟩) := hF 6 (by kernel_rfl)
                rw [if_pos (wanted_some (d := 124) rfl rfl (hD 23 124 (by kernel_rfl) rfl))]
                clear hF hD
                exact gives_val (by simp only [execOp, evF, h6]; first | rfl | go_simp) ⟨Gr.refl _, rfl⟩
              · intro f w' g hF hD
                have h125 : f 125 = (.pointer (some ⟨r, 0, none⟩)) := hD 24 125 (by kernel_rfl) rfl
                rw [if_pos (wanted_some (d := 124) rfl rfl (hD 23 124 (by kernel_rfl) rfl))]
                clear hF hD
                have hw := (HZ.out.drewN 1).below g
                refine gives_func rfl Try.func30 (by kernel_rfl) rfl (by simp only [List.map_toArray, List.map_cons, List.map_nil, evF, h125]) ((Rend_c r s' w' hw.rdr).mono ?_)
                rintro e w'' ⟨rfl, q, rfl⟩
                exact ⟨_, rfl, below_drewN (Below.refl _ _) q, rfl⟩
              · intro f w' g hF hD
                have h7 : f 7 = .pointer (some ⟨m, 0, none⟩) := hF 7 (by kernel_rfl)
                rw [if_pos (wanted_some (d := 124) rfl rfl (hD 23 124 (by kernel_rfl) rfl))]
                clear hF hD
                have hw := (HZ.out.drewN 1).below g
                obtain ⟨⟨c0, c1, c2⟩, _⟩ := hw.cells
                exact gives_val (by simp only [execOp, evF, h7]; go_simp) ⟨Gr.refl _, rfl⟩
              · intro f w' g hF hD
                have h127 : f 127 = (.agg #[.slice A n c, .int .i64 (s'.at_ : Int), .int .i64 (s'.err : Int)]) := hD 26 127 (by kernel_rfl) rfl
                rw [if_pos (wanted_some (d := 124) rfl rfl (hD 23 124 (by kernel_rfl) rfl))]
                clear hF hD
                have hw := (HZ.out.drewN 1).below g
                refine gives_func rfl Try.func31 (by kernel_rfl) rfl (by simp only [List.map_toArray, List.map_cons, List.map_nil, evF, h127]) ((end_r hw hr HN.out hc hm hl).mono ?_)
                rintro e w'' ⟨rfl, hb⟩
                exact ⟨_, rfl, hb, rfl⟩
              · intro f w' g hF hD
                have h126 : f 126 = (.int .i64 (endR s' : Int)) := hD 25 126 (by kernel_rfl) rfl
                have h128 : f 128 = (.int .i64 (endR s' : Int)) := hD 27 128 (by kernel_rfl) rfl
                rw [if_pos (wanted_some (d := 124) rfl rfl (hD 23 124 (by kernel_rfl) rfl))]
                clear hF hD
                exact gives_val (by simp only [execOp, evF, h126, h128]; first | rfl | go_simp) ⟨Gr.refl _, rfl⟩
              · intro f w' g hF hD
                have h124 : f 124 = (.bool false) := hD 23 124 (by kernel_rfl) rfl
                have h129 : f 129 = (.bool false) := hD 28 129 (by kernel_rfl) rfl
                rw [if_pos (wanted_none rfl)]
                clear hF hD
                exact gives_val (by simp only [execOp, evF, h124, h129]; first | rfl | go_simp) ⟨Gr.refl _, rfl⟩
            · intro f w' g hD
              have h130 : f 130 = .bool false := hD 29 130 rfl
              have hw0 := (HZ.out.drewN 1).below g
              have HW9 := Lib.hid hw0; clear hw0
              clear hD g HZ
              simp only [putAll, List.setIfInBounds_toArray, List.set_cons_zero, List.set_cons_succ, h130]
              go_wp2_with (fail)
              go_loopw [133] (fun i wr => i = .int .i64 (0 : Nat) ∧ Hid (WR w r m (m + 1) n A c bs wr s' s')) (fun i _ => 0)
              case atStart => exact ⟨rfl, HW9⟩
              case round =>
                clear HW9
                obtain ⟨rfl, HW⟩ := hrel
                go_wp2_with (fail)
                go_roundw
                case rel => exact ⟨k + 1, s', by omega, by go_num, HW⟩
                case measure => simp [intOf]; omega
        · obtain rfl : n2 = k := by omega
          go_wp2_with (fail)
          go_ret
          exact ⟨rfl, HW.out.bel⟩
end Go.Proofs.Ytacindehajholaa
