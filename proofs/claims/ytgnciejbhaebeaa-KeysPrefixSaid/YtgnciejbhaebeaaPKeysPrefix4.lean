/- Parts one behind the other: What a queue says next: its first events, in memory of one's own; What the reference's queue answers: an event pushed; What the reference's queue answers: how many came; its next events; What the reference's inbox answers; What the reference's Turn does to events of one's own: it writes into their blocks alone; A queue, an inbox and the reference's two side by side: what each call leaves of all four, and of blocks F that are none of theirs; The plain laws of a queue beside its reference: what is answered is the same where the one holds the other's tail; How a law's argument is opened: an event by value; a slice of events. Conditions: as told at each. -/
import Derived.Test.YtgnciejbhaebeaaPKeysPrefix3
import Derived.Test.YtgnciejbhaebeaaPKeysPrefix1
import Derived.Deep.Fields

/- What a queue says next: its first events, in memory of one's own. Conditions: lengths that fit. -/
namespace Go.Proofs.Ytgnciejbhaebeaa
open Go Go.RowKit

/-- Events of one's own, in blocks from B on. -/
def Rl.evo (B : Nat) (es : List Ev) : Rl := ⟨fun w v => ∃ ds, EvsO (B ≤ ·) w v ds es, fun ⟨ds, h⟩ hb => ⟨ds, h.below hb⟩⟩
theorem EvsR.drewN {ok : Nat → Prop} {w : World} {A : Option Addr} {ds : List EvV} {es : List Ev} (h : EvsR ok w A ds es) (q : Nat) : EvsR ok (w.drewN q) A ds es := h.frame (fun _ _ _ => rfl) (Nat.le_refl _)
theorem EvsR.take {ok : Nat → Prop} {w : World} {A : Option Addr} {ds : List EvV} {es : List Ev} (h : EvsR ok w A ds es) (m : Nat) : EvsR ok w A (ds.take m) (es.take m) := by
  have hl := h.len
  have e : cellsV (ds.take m) = (cellsV ds).take (m * 5) := by
    have e : cellsV ds = cellsV (ds.take m) ++ cellsV (ds.drop m) := by rw [← cellsV_append, List.take_append_drop]
    rcases Nat.lt_or_ge ds.length m with h1 | h1
    · rw [List.take_of_length_le (Nat.le_of_lt h1), List.take_of_length_le (by rw [cellsV_length]; omega)]
    · rw [e, List.take_left' (by rw [cellsV_length, List.length_take]; omega)]
  refine ⟨by simp [hl], by rw [e]; exact h.row.take _, fun h0 a ea => h.ok_ (by rw [List.length_take] at h0; omega) a ea, fun i h1 h2 => ?_⟩
  rw [List.getElem_take, List.getElem_take]
  exact h.each i _ _

set_option maxRecDepth 100000 in
set_option maxHeartbeats 4000000 in
theorem Batch_c (own : Nat → Prop) (q came : Nat) (v : Value) (ds : List EvV) (es : List Ev) (w : World) (h : Qu own w q came v ds es) (hl : es.length ≤ 1000000000) :
    Calls Try.prog 34 #[.pointer (some ⟨q, 0, none⟩)] w fun r w' => ∃ v', r = .returned (.tuple #[.int .u64 (came : Int), v']) ∧ Evs (w.heap.size ≤ ·) w' v' (es.take 16) ∧ Below w.heap.size w w' := by
  obtain ⟨A, c, ev, hq1, hq2, hR⟩ := h.evs.form
  obtain ⟨n, en⟩ : ∃ n, n = es.length := ⟨_, rfl⟩
  rw [← en] at ev hq1 hl
  have HQ := Lib.hid h; clear h
  have EV := Lib.hid ev; clear ev
  rcases Nat.lt_or_ge 16 n with hn | hn
  · have hn' : (16 : Int) < (n : Int) := by omega
    have hc' : (16 : Int) ≤ (c : Int) := by omega
    have hL : (es.take 16).length = 16 := by rw [List.length_take]; omega
    have HL := Lib.hid hL; clear hL
    have HR := Lib.hid (hR.take 16)
    have EN := Lib.hid en; clear en hR
    go_enter Try.func34, Try.ntmps34
    go_wp2_with (fail)
    refine wp_region_rw 22 [Rl.eq (.pointer (some ⟨q, 0, none⟩)), Rl.eq (.pointer (some ⟨q, 0, none⟩)), Rl.eq (.pointer (some ⟨q, 0, none⟩)), Rl.eq (.int .u64 (came : Int)), Rl.eq (.pointer (some ⟨q, 0, none⟩)), Rl.eq (.pointer (some ⟨q, 0, none⟩)), Rl.eq (.pointer (some ⟨q, 1, none⟩)), Rl.eq (.slice A n c), Rl.eq (.pointer (some ⟨q, 0, none⟩)), Rl.eq (.pointer (some ⟨q, 0, none⟩)), Rl.eq (.pointer (some ⟨q, 1, none⟩)), Rl.eq (.slice A n c), Rl.eq (.int .i64 (n : Int)), Rl.eq (.int .i64 (16 : Int)), Rl.eq (.slice A 16 c), Rl.evo w.heap.size (es.take 16), Rl.eq (.int .u64 (came : Int)), Rl.evo w.heap.size (es.take 16)] [6, 7, 8, 9, 10, 11, 12, 13, 14, 15, 16, 17, 18, 19, 20, 21, 2, 3] (by kernel_rfl) rfl (by kernel_rfl) (by kernel_rfl) ?_ ?_
    · repeat (first | exact AllFrom.nil_ | (refine AllFrom.cons_ (by rfl) ?_ ?_; rotate_left))
      · intro f w' g hF hD
        have h0 : f 0 = .pointer (some ⟨q, 0, none⟩) := hF 0 (by kernel_rfl)
        rw [if_pos (wanted_none rfl)]
        clear hF hD
        exact gives_val (by simp only [execOp, evF, h0]; first | rfl | go_simp) ⟨Gr.refl _, rfl⟩
      · intro f w' g hF hD
        have h6 : f 6 = (.pointer (some ⟨q, 0, none⟩)) := hD 0 6 (by kernel_rfl) rfl
        rw [if_pos (wanted_none rfl)]
        clear hF hD
        exact gives_val (by simp only [execOp, evF, h6]; first | rfl | go_simp) ⟨Gr.refl _, rfl⟩
      · intro f w' g hF hD
        have h7 : f 7 = (.pointer (some ⟨q, 0, none⟩)) := hD 1 7 (by kernel_rfl) rfl
        rw [if_pos (wanted_none rfl)]
        clear hF hD
        exact gives_val (by simp only [execOp, evF, h7]; first | rfl | go_simp) ⟨Gr.refl _, rfl⟩
      · intro f w' g hF hD
        have h8 : f 8 = (.pointer (some ⟨q, 0, none⟩)) := hD 2 8 (by kernel_rfl) rfl
        rw [if_pos (wanted_none rfl)]
        clear hF hD
        have hq := (HQ.out.drewN 1).below g
        have c0 := hq.c0
        have c1 := hq.c1
        rw [EV.out] at c1
        exact gives_val (by simp only [execOp, evF, h8]; go_simp) ⟨Gr.refl _, rfl⟩
      · intro f w' g hF hD
        have h0 : f 0 = .pointer (some ⟨q, 0, none⟩) := hF 0 (by kernel_rfl)
        rw [if_pos (wanted_none rfl)]
        clear hF hD
        exact gives_val (by simp only [execOp, evF, h0]; first | rfl | go_simp) ⟨Gr.refl _, rfl⟩
      · intro f w' g hF hD
        have h10 : f 10 = (.pointer (some ⟨q, 0, none⟩)) := hD 4 10 (by kernel_rfl) rfl
        rw [if_pos (wanted_none rfl)]
        clear hF hD
        exact gives_val (by simp only [execOp, evF, h10]; first | rfl | go_simp) ⟨Gr.refl _, rfl⟩
      · intro f w' g hF hD
        have h11 : f 11 = (.pointer (some ⟨q, 0, none⟩)) := hD 5 11 (by kernel_rfl) rfl
        rw [if_pos (wanted_none rfl)]
        clear hF hD
        exact gives_val (by simp only [execOp, evF, h11]; first | rfl | go_simp) ⟨Gr.refl _, rfl⟩
      · intro f w' g hF hD
        have h12 : f 12 = (.pointer (some ⟨q, 1, none⟩)) := hD 6 12 (by kernel_rfl) rfl
        rw [if_pos (wanted_none rfl)]
        clear hF hD
        have hq := (HQ.out.drewN 1).below g
        have c0 := hq.c0
        have c1 := hq.c1
        rw [EV.out] at c1
        exact gives_val (by simp only [execOp, evF, h12]; go_simp) ⟨Gr.refl _, rfl⟩
      · intro f w' g hF hD
        have h0 : f 0 = .pointer (some ⟨q, 0, none⟩) := hF 0 (by kernel_rfl)
        rw [if_pos (wanted_none rfl)]
        clear hF hD
        exact gives_val (by simp only [execOp, evF, h0]; first | rfl | go_simp) ⟨Gr.refl _, rfl⟩
      · intro f w' g hF hD
        have h14 : f 14 = (.pointer (some ⟨q, 0, none⟩)) := hD 8 14 (by kernel_rfl) rfl
        rw [if_pos (wanted_none rfl)]
        clear hF hD
        exact gives_val (by simp only [execOp, evF, h14]; first | rfl | go_simp) ⟨Gr.refl _, rfl⟩
      · intro f w' g hF hD
        have h15 : f 15 = (.pointer (some ⟨q, 0, none⟩)) := hD 9 15 (by kernel_rfl) rfl
        rw [if_pos (wanted_none rfl)]
        clear hF hD
        exact gives_val (by simp only [execOp, evF, h15]; first | rfl | go_simp) ⟨Gr.refl _, rfl⟩
      · intro f w' g hF hD
        have h16 : f 16 = (.pointer (some ⟨q, 1, none⟩)) := hD 10 16 (by kernel_rfl) rfl
        rw [if_pos (wanted_none rfl)]
        clear hF hD
        have hq := (HQ.out.drewN 1).below g
        have c0 := hq.c0
        have c1 := hq.c1
        rw [EV.out] at c1
        exact gives_val (by simp only [execOp, evF, h16]; go_simp) ⟨Gr.refl _, rfl⟩
      · intro f w' g hF hD
        have h17 : f 17 = (.slice A n c) := hD 11 17 (by kernel_rfl) rfl
        rw [if_pos (wanted_none rfl)]
        clear hF hD
        exact gives_val (by simp only [execOp, resolve, invoke, builtin, List.map_toArray, List.map_cons, List.map_nil, evF, h17]; go_simp) ⟨Gr.refl _, rfl⟩
      · intro f w' g hF hD
        have h18 : f 18 = (.int .i64 (n : Int)) := hD 12 18 (by kernel_rfl) rfl
        rw [if_pos (wanted_none rfl)]
        clear hF hD
        exact gives_val (by simp only [execOp, resolve, invoke, builtin, List.map_toArray, List.map_cons, List.map_nil, evF, h18]; (go_simp <;> (intros; omega))) ⟨Gr.refl _, rfl⟩
      · intro f w' g hF hD
        have h13 : f 13 = (.slice A n c) := hD 7 13 (by kernel_rfl) rfl
        have h19 : f 19 = (.int .i64 (16 : Int)) := hD 13 19 (by kernel_rfl) rfl
        rw [if_pos (wanted_none rfl)]
        clear hF hD
        exact gives_val (by simp only [execOp, evF, Option.map_some, Option.map_none, h13, h19]; go_simp) ⟨Gr.refl _, rfl⟩
      · intro f w' g hF hD
        have h20 : f 20 = (.slice A 16 c) := hD 14 20 (by kernel_rfl) rfl
        rw [if_pos (wanted_none rfl)]
        clear hF hD
        have rr := ((HR.out.drewN 1).below g)
        refine gives_func rfl Try.func63 (by kernel_rfl) rfl (by simp only [List.map_toArray, List.map_cons, List.map_nil, evF, h20]) ((clone_c _ A 16 c _ _ w' HL.out rr (by omega)).mono ?_)
        rintro e w'' ⟨v', ds', rfl, ho, hb⟩
        exact ⟨_, rfl, hb, ds', ho.weak (fun k hk _ => Nat.le_trans g.size hk)⟩
      · intro f w' g hF hD
        have h9 : f 9 = (.int .u64 (came : Int)) := hD 3 9 (by kernel_rfl) rfl
        rw [if_pos (wanted_none rfl)]
        clear hF hD
        exact gives_val (by simp only [execOp, evF, h9]; first | rfl | go_simp) ⟨Gr.refl _, rfl⟩
      · intro f w' g hF hD
        have q21 := hD 15 21 (by kernel_rfl) rfl
        rw [if_pos (wanted_none rfl)]
        clear hF hD
        obtain ⟨dd, hd⟩ : ∃ ds, EvsO (w.heap.size ≤ ·) w' (f 21) ds (es.take 16) := q21
        exact gives_val (by simp only [execOp, evF]; rfl) ⟨Gr.refl _, dd, hd⟩
    · intro f w' g hD
      have h2 : f 2 = .int .u64 (came : Int) := hD 16 2 rfl
      obtain ⟨ds', h3⟩ : ∃ ds', EvsO (w.heap.size ≤ ·) w' (f 3) ds' (es.take 16) := hD 17 3 rfl
      have H3 := Lib.hid h3
      have kg := (below_drewN (Below.refl w.heap.size w) 1).trans (g.mono (Nat.le_refl _))
      clear hD h3
      simp only [putAll, List.setIfInBounds_toArray, List.set_cons_zero, List.set_cons_succ, h2]
      go_wp2_with (fail)
      go_ret2
      exact ⟨_, rfl, ⟨ds', H3.out⟩, kg⟩
  · have hn' : (n : Int) ≤ 16 := by omega
    have hc' : (n : Int) ≤ (c : Int) := by omega
    have hL : (es.take 16).length = n := by rw [List.length_take]; omega
    have HL := Lib.hid hL; clear hL
    have HR := Lib.hid (hR.take 16)
    have EN := Lib.hid en; clear en hR
    go_enter Try.func34, Try.ntmps34
    go_wp2_with (fail)
    refine wp_region_rw 22 [Rl.eq (.pointer (some ⟨q, 0, none⟩)), Rl.eq (.pointer (some ⟨q, 0, none⟩)), Rl.eq (.pointer (some ⟨q, 0, none⟩)), Rl.eq (.int .u64 (came : Int)), Rl.eq (.pointer (some ⟨q, 0, none⟩)), Rl.eq (.pointer (some ⟨q, 0, none⟩)), Rl.eq (.pointer (some ⟨q, 1, none⟩)), Rl.eq (.slice A n c), Rl.eq (.pointer (some ⟨q, 0, none⟩)), Rl.eq (.pointer (some ⟨q, 0, none⟩)), Rl.eq (.pointer (some ⟨q, 1, none⟩)), Rl.eq (.slice A n c), Rl.eq (.int .i64 (n : Int)), Rl.eq (.int .i64 (n : Int)), Rl.eq (.slice A n c), Rl.evo w.heap.size (es.take 16), Rl.eq (.int .u64 (came : Int)), Rl.evo w.heap.size (es.take 16)] [6, 7, 8, 9, 10, 11, 12, 13, 14, 15, 16, 17, 18, 19, 20, 21, 2, 3] (by kernel_rfl) rfl (by kernel_rfl) (by kernel_rfl) ?_ ?_
    · repeat (first | exact AllFrom.nil_ | (refine AllFrom.cons_ (by rfl) ?_ ?_; rotate_left))
      · intro f w' g hF hD
        have h0 : f 0 = .pointer (some ⟨q, 0, none⟩) := hF 0 (by kernel_rfl)
        rw [if_pos (wanted_none rfl)]
        clear hF hD
        exact gives_val (by simp only [execOp, evF, h0]; first | rfl | go_simp) ⟨Gr.refl _, rfl⟩
      · intro f w' g hF hD
        have h6 : f 6 = (.pointer (some ⟨q, 0, none⟩)) := hD 0 6 (by kernel_rfl) rfl
        rw [if_pos (wanted_none rfl)]
        clear hF hD
        exact gives_val (by simp only [execOp, evF, h6]; first | rfl | go_simp) ⟨Gr.refl _, rfl⟩
      · intro f w' g hF hD
        have h7 : f 7 = (.pointer (some ⟨q, 0, none⟩)) := hD 1 7 (by kernel_rfl) rfl
        rw [if_pos (wanted_none rfl)]
        clear hF hD
        exact gives_val (by simp only [execOp, evF, h7]; first | rfl | go_simp) ⟨Gr.refl _, rfl⟩
      · intro f w' g hF hD
        have h8 : f 8 = (.pointer (some ⟨q, 0, none⟩)) := hD 2 8 (by kernel_rfl) rfl
        rw [if_pos (wanted_none rfl)]
        clear hF hD
        have hq := (HQ.out.drewN 1).below g
        have c0 := hq.c0
        have c1 := hq.c1
        rw [EV.out] at c1
        exact gives_val (by simp only [execOp, evF, h8]; go_simp) ⟨Gr.refl _, rfl⟩
      · intro f w' g hF hD
        have h0 : f 0 = .pointer (some ⟨q, 0, none⟩) := hF 0 (by kernel_rfl)
        rw [if_pos (wanted_none rfl)]
        clear hF hD
        exact gives_val (by simp only [execOp, evF, h0]; first | rfl | go_simp) ⟨Gr.refl _, rfl⟩
      · intro f w' g hF hD
        have h10 : f 10 = (.pointer (some ⟨q, 0, none⟩)) := hD 4 10 (by kernel_rfl) rfl
        rw [if_pos (wanted_none rfl)]
        clear hF hD
        exact gives_val (by simp only [execOp, evF, h10]; first | rfl | go_simp) ⟨Gr.refl _, rfl⟩
      · intro f w' g hF hD
        have h11 : f 11 = (.pointer (some ⟨q, 0, none⟩)) := hD 5 11 (by kernel_rfl) rfl
        rw [if_pos (wanted_none rfl)]
        clear hF hD
        exact gives_val (by simp only [execOp, evF, h11]; first | rfl | go_simp) ⟨Gr.refl _, rfl⟩
      · intro f w' g hF hD
        have h12 : f 12 = (.pointer (some ⟨q, 1, none⟩)) := hD 6 12 (by kernel_rfl) rfl
        rw [if_pos (wanted_none rfl)]
        clear hF hD
        have hq := (HQ.out.drewN 1).below g
        have c0 := hq.c0
        have c1 := hq.c1
        rw [EV.out] at c1
        exact gives_val (by simp only [execOp, evF, h12]; go_simp) ⟨Gr.refl _, rfl⟩
      · intro f w' g hF hD
        have h0 : f 0 = .pointer (some ⟨q, 0, none⟩) := hF 0 (by kernel_rfl)
        rw [if_pos (wanted_none rfl)]
        clear hF hD
        exact gives_val (by simp only [execOp, evF, h0]; first | rfl | go_simp) ⟨Gr.refl _, rfl⟩
      · intro f w' g hF hD
        have h14 : f 14 = (.pointer (some ⟨q, 0, none⟩)) := hD 8 14 (by kernel_rfl) rfl
        rw [if_pos (wanted_none rfl)]
        clear hF hD
        exact gives_val (by simp only [execOp, evF, h14]; first | rfl | go_simp) ⟨Gr.refl _, rfl⟩
      · intro f w' g hF hD
        have h15 : f 15 = (.pointer (some ⟨q, 0, none⟩)) := hD 9 15 (by kernel_rfl) rfl
        rw [if_pos (wanted_none rfl)]
        clear hF hD
        exact gives_val (by simp only [execOp, evF, h15]; first | rfl | go_simp) ⟨Gr.refl _, rfl⟩
      · intro f w' g hF hD
        have h16 : f 16 = (.pointer (some ⟨q, 1, none⟩)) := hD 10 16 (by kernel_rfl) rfl
        rw [if_pos (wanted_none rfl)]
        clear hF hD
        have hq := (HQ.out.drewN 1).below g
        have c0 := hq.c0
        have c1 := hq.c1
        rw [EV.out] at c1
        exact gives_val (by simp only [execOp, evF, h16]; go_simp) ⟨Gr.refl _, rfl⟩
      · intro f w' g hF hD
        have h17 : f 17 = (.slice A n c) := hD 11 17 (by kernel_rfl) rfl
        rw [if_pos (wanted_none rfl)]
        clear hF hD
        exact gives_val (by simp only [execOp, resolve, invoke, builtin, List.map_toArray, List.map_cons, List.map_nil, evF, h17]; go_simp) ⟨Gr.refl _, rfl⟩
      · intro f w' g hF hD
        have h18 : f 18 = (.int .i64 (n : Int)) := hD 12 18 (by kernel_rfl) rfl
        rw [if_pos (wanted_none rfl)]
        clear hF hD
        exact gives_val (by simp only [execOp, resolve, invoke, builtin, List.map_toArray, List.map_cons, List.map_nil, evF, h18]; (go_simp <;> (intros; omega))) ⟨Gr.refl _, rfl⟩
      · intro f w' g hF hD
        have h13 : f 13 = (.slice A n c) := hD 7 13 (by kernel_rfl) rfl
        have h19 : f 19 = (.int .i64 (n : Int)) := hD 13 19 (by kernel_rfl) rfl
        rw [if_pos (wanted_none rfl)]
        clear hF hD
        exact gives_val (by simp only [execOp, evF, Option.map_some, Option.map_none, h13, h19]; go_simp) ⟨Gr.refl _, rfl⟩
      · intro f w' g hF hD
        have h20 : f 20 = (.slice A n c) := hD 14 20 (by kernel_rfl) rfl
        rw [if_pos (wanted_none rfl)]
        clear hF hD
        have rr := ((HR.out.drewN 1).below g)
        refine gives_func rfl Try.func63 (by kernel_rfl) rfl (by simp only [List.map_toArray, List.map_cons, List.map_nil, evF, h20]) ((clone_c _ A n c _ _ w' HL.out rr (by omega)).mono ?_)
        rintro e w'' ⟨v', ds', rfl, ho, hb⟩
        exact ⟨_, rfl, hb, ds', ho.weak (fun k hk _ => Nat.le_trans g.size hk)⟩
      · intro f w' g hF hD
        have h9 : f 9 = (.int .u64 (came : Int)) := hD 3 9 (by kernel_rfl) rfl
        rw [if_pos (wanted_none rfl)]
        clear hF hD
        exact gives_val (by simp only [execOp, evF, h9]; first | rfl | go_simp) ⟨Gr.refl _, rfl⟩
      · intro f w' g hF hD
        have q21 := hD 15 21 (by kernel_rfl) rfl
        rw [if_pos (wanted_none rfl)]
        clear hF hD
        obtain ⟨dd, hd⟩ : ∃ ds, EvsO (w.heap.size ≤ ·) w' (f 21) ds (es.take 16) := q21
        exact gives_val (by simp only [execOp, evF]; rfl) ⟨Gr.refl _, dd, hd⟩
    · intro f w' g hD
      have h2 : f 2 = .int .u64 (came : Int) := hD 16 2 rfl
      obtain ⟨ds', h3⟩ : ∃ ds', EvsO (w.heap.size ≤ ·) w' (f 3) ds' (es.take 16) := hD 17 3 rfl
      have H3 := Lib.hid h3
      have kg := (below_drewN (Below.refl w.heap.size w) 1).trans (g.mono (Nat.le_refl _))
      clear hD h3
      simp only [putAll, List.setIfInBounds_toArray, List.set_cons_zero, List.set_cons_succ, h2]
      go_wp2_with (fail)
      go_ret2
      exact ⟨_, rfl, ⟨ds', H3.out⟩, kg⟩
end Go.Proofs.Ytgnciejbhaebeaa

/- What the reference's queue answers: an event pushed. Conditions: events that can be read; lengths that fit. -/
namespace Go.Proofs.Ytgnciejbhaebeaa
open Go Go.RowKit

/-- Block q is the reference's queue with these events, of which so many came; they lie in blocks of their own. -/
structure RQ (own : Nat → Prop) (w : World) (q came : Nat) (v : Value) (ds : List EvV) (es : List Ev) : Prop where
  row : w.heap[q]? = some (.cells #[v, .int .i64 (came : Int)] 51 (0, 0))
  evs : EvsO own w v ds es
  ne : ¬ own q
section
variable {own own' : Nat → Prop} {w w' : World} {q came : Nat} {v : Value} {ds : List EvV} {es : List Ev}
theorem RQ.c0 (h : RQ own w q came v ds es) : w.cell? ⟨q, 0, none⟩ = some v := by rw [heap_cell h.row]; rfl
theorem RQ.c1 (h : RQ own w q came v ds es) : w.cell? ⟨q, 1, none⟩ = some (.int .i64 (came : Int)) := by rw [heap_cell h.row]; rfl
theorem RQ.free (h : RQ own w q came v ds es) (i : Nat) : w.frozen? ⟨q, i, none⟩ = false := heap_free h.row i
theorem RQ.lt (h : RQ own w q came v ds es) : q < w.heap.size := heap_lt h.row
theorem RQ.keep (h : RQ own w q came v ds es) (hq : w'.heap[q]? = w.heap[q]?) (hk : ∀ k, own k → k < w.heap.size → w'.heap[k]? = w.heap[k]?) : RQ own w' q came v ds es := ⟨hq.trans h.row, h.evs.frame hk, h.ne⟩
theorem RQ.below (h : RQ own w q came v ds es) (hb : Below w.heap.size w w') : RQ own w' q came v ds es := h.keep (hb.block q h.lt) (fun k _ hk => hb.block k hk)
theorem RQ.drewN (h : RQ own w q came v ds es) (n : Nat) : RQ own (w.drewN n) q came v ds es := ⟨h.row, h.evs.frame (fun _ _ _ => rfl), h.ne⟩
theorem RQ.form (h : RQ own w q came v ds es) : ∃ A c, v = .slice A es.length c ∧ es.length ≤ c ∧ c ≤ maxLen := by
  obtain ⟨A, c, e, h1, h2, _⟩ := h.evs.form
  exact ⟨A, c, e, h1, h2⟩
end
theorem RQ.pushed {own : Nat → Prop} {w5 w7 : World} {q came B C : Nat} {v v5 v7 : Value} {ds d5 : List EvV} {es : List Ev} {e : Ev} (h : RQ own w5 q came v ds es) (hb : ∀ j, v.ownBlock = some j → j < B) (hq : q < B) (h5 : B ≤ w5.heap.size) (hC : B ≤ C)
    (O5 : EvsO (C ≤ ·) w5 v5 d5 [e]) (HO7 : OwnV w7 0 v7 (ds ++ d5)) (hg : w5.grownBy w7 v.ownBlock) (hv : v7.ownBlock = v.ownBlock ∨ v7.ownBlock = some w5.heap.size) :
    RQ (fun j => own j ∨ B ≤ j) (w7.setCell ⟨q, 0, none⟩ v7) q came v7 (ds ++ d5) (es ++ [e]) := by
  have hvq : ∀ j, v.ownBlock = some j → own j ∧ j ≠ q := fun j ej => ⟨h.evs.ok_ j ej, fun e' => h.ne (e' ▸ h.evs.ok_ j ej)⟩
  have hrow : w7.heap[q]? = some (.cells #[v, .int .i64 (came : Int)] 51 (0, 0)) := (hg.block q h.lt (fun e' => (hvq q e'.symm).2 rfl)).trans h.row
  have h7q : ∀ k, v7.ownBlock = some k → k ≠ q ∧ (own k ∨ B ≤ k) := by
    intro k ek
    rcases hv with hv | hv
    · rw [hv] at ek
      exact ⟨(hvq k ek).2, .inl (hvq k ek).1⟩
    · rw [hv] at ek
      injection ek with ek
      subst ek
      exact ⟨by omega, .inr h5⟩
  have hl := h.evs.len
  have hl5 := O5.len
  refine ⟨?_, ⟨by simp [hl, hl5], Own.frameK HO7 (fun g eg => heap_far _ (h7q g eg).1), fun k ek => (h7q k ek).2, fun i h1 h2 => ?_⟩, ?_⟩
  · rw [heap_set hrow 0]
    rfl
  · rcases Nat.lt_or_ge i ds.length with hi | hi
    · have ho := h.evs.each i hi (by omega)
      have hf : ∀ a, ds[i].A = some a → (w7.setCell ⟨q, 0, none⟩ v7).heap[a.block]? = w5.heap[a.block]? := by
        intro a ea
        have h3 := ho.2.2.2.2.2.2.1 a ea
        rw [heap_far _ (show a.block ≠ q from fun e' => h.ne (e' ▸ h3))]
        exact hg.block _ (ho.2.2.2.2.lt a ea) (fun e' => h.evs.txt_ne i hi a ea e'.symm)
      rw [List.getElem_append_left hi, List.getElem_append_left (by omega)]
      obtain ⟨q0, q1, q2, q3, t1, t2, t3, t4⟩ := ho
      refine ⟨q0, q1, q2, q3, t1, Own.frameK t2 (fun g eg => ?_), fun a ea => .inl (t3 a ea), t4⟩
      cases hA : ds[i].A with
      | none => rw [hA] at eg; cases eg
      | some a =>
        rw [hA] at eg
        injection eg with eg
        subst eg
        exact hf a hA
    · have hi5 : i - ds.length < d5.length := by rw [List.length_append] at h1; omega
      have ho := O5.each (i - ds.length) hi5 (by omega)
      rw [List.getElem_append_right hi, List.getElem_append_right (by omega)]
      simp only [← hl]
      obtain ⟨q0, q1, q2, q3, t1, t2, t3, t4⟩ := ho
      refine ⟨q0, q1, q2, q3, t1, Own.frameK t2 (fun g eg => ?_), fun a ea => .inr (Nat.le_trans hC (t3 a ea)), t4⟩
      cases hA : d5[i - ds.length].A with
      | none => rw [hA] at eg; cases eg
      | some a =>
        rw [hA] at eg
        injection eg with eg
        subst eg
        have h3 : C ≤ a.block := t3 a hA
        rw [heap_far _ (show a.block ≠ q by omega)]
        have hlt := (Own.lt t2 a.block (by rw [hA]; rfl)).2
        exact hg.block _ hlt (fun e' => by have := hb _ e'.symm; omega)
  · rintro (h1 | h1)
    · exact h.ne h1
    · omega

/-- The state within a push. -/
structure RS_ (own : Nat → Prop) (q came : Nat) (v : Value) (ds : List EvV) (es : List Ev) (g3 : Nat) (k x y b : Int) (A : Option Addr) (n c : Nat) (w : World) : Prop where
  qu : RQ own w q came v ds es
  bx : w.heap[g3]? = some (.cells #[.int .i64 k, .slice A n c, .int .i64 x, .int .i64 y, .int .i64 b] 36 (0, 0))
section
variable {own : Nat → Prop} {q came : Nat} {v : Value} {ds : List EvV} {es : List Ev} {g3 : Nat} {k x y b : Int} {A : Option Addr} {n c : Nat} {w w' : World}
theorem RS_.cells (h : RS_ own q came v ds es g3 k x y b A n c w) : w.cell? ⟨q, 0, none⟩ = some v ∧ w.cell? ⟨g3, 0, none⟩ = some (.int .i64 k) ∧ w.cell? ⟨g3, 1, none⟩ = some (.slice A n c) ∧ w.cell? ⟨g3, 2, none⟩ = some (.int .i64 x) ∧ w.cell? ⟨g3, 3, none⟩ = some (.int .i64 y) ∧ w.cell? ⟨g3, 4, none⟩ = some (.int .i64 b) :=
  ⟨h.qu.c0, by rw [heap_cell h.bx]; rfl, by rw [heap_cell h.bx]; rfl, by rw [heap_cell h.bx]; rfl, by rw [heap_cell h.bx]; rfl, by rw [heap_cell h.bx]; rfl⟩
theorem RS_.cellsH (h : Hid (RS_ own q came v ds es g3 k x y b A n c w)) : w.cell? ⟨q, 0, none⟩ = some v ∧ w.cell? ⟨g3, 0, none⟩ = some (.int .i64 k) ∧ w.cell? ⟨g3, 1, none⟩ = some (.slice A n c) ∧ w.cell? ⟨g3, 2, none⟩ = some (.int .i64 x) ∧ w.cell? ⟨g3, 3, none⟩ = some (.int .i64 y) ∧ w.cell? ⟨g3, 4, none⟩ = some (.int .i64 b) := h.out.cells
theorem RS_.cellsE {v2 : Value} (e : Hid (v = v2)) (h : Hid (RS_ own q came v ds es g3 k x y b A n c w)) : w.cell? ⟨q, 0, none⟩ = some v2 ∧ w.cell? ⟨g3, 0, none⟩ = some (.int .i64 k) ∧ w.cell? ⟨g3, 1, none⟩ = some (.slice A n c) ∧ w.cell? ⟨g3, 2, none⟩ = some (.int .i64 x) ∧ w.cell? ⟨g3, 3, none⟩ = some (.int .i64 y) ∧ w.cell? ⟨g3, 4, none⟩ = some (.int .i64 b) := by
  have := h.out.cells
  rw [e.out] at this
  exact this
theorem RS_.below (h : RS_ own q came v ds es g3 k x y b A n c w) (hb : Below w.heap.size w w') : RS_ own q came v ds es g3 k x y b A n c w' := ⟨h.qu.below hb, (hb.block g3 (heap_lt h.bx)).trans h.bx⟩
theorem RS_.grown {v2 : Value} (e : Hid (v = v2)) (h : RS_ own q came v ds es g3 k x y b A n c w) (hg : w.grownBy w' v2.ownBlock) (ne : ∀ j, v2.ownBlock = some j → j ≠ q ∧ j ≠ g3) : w'.heap[q]? = some (.cells #[v2, .int .i64 (came : Int)] 51 (0, 0)) ∧ w'.heap[g3]? = some (.cells #[.int .i64 k, .slice A n c, .int .i64 x, .int .i64 y, .int .i64 b] 36 (0, 0)) := by
  have hq := h.qu.row
  rw [e.out] at hq
  exact ⟨(hg.block q h.qu.lt (fun e => (ne q e.symm).1 rfl)).trans hq, (hg.block g3 (heap_lt h.bx) (fun e => (ne g3 e.symm).2 rfl)).trans h.bx⟩
theorem rrows_cells {v2 : Value} (h : w.heap[q]? = some (.cells #[v2, .int .i64 (came : Int)] 51 (0, 0)) ∧ w.heap[g3]? = some (.cells #[.int .i64 k, .slice A n c, .int .i64 x, .int .i64 y, .int .i64 b] 36 (0, 0))) : w.cell? ⟨q, 0, none⟩ = some v2 ∧ w.cell? ⟨g3, 0, none⟩ = some (.int .i64 k) ∧ w.cell? ⟨g3, 1, none⟩ = some (.slice A n c) ∧ w.cell? ⟨g3, 2, none⟩ = some (.int .i64 x) ∧ w.cell? ⟨g3, 3, none⟩ = some (.int .i64 y) ∧ w.cell? ⟨g3, 4, none⟩ = some (.int .i64 b) :=
  ⟨by rw [heap_cell h.1]; rfl, by rw [heap_cell h.2]; rfl, by rw [heap_cell h.2]; rfl, by rw [heap_cell h.2]; rfl, by rw [heap_cell h.2]; rfl, by rw [heap_cell h.2]; rfl⟩
theorem RS_.drewN (h : RS_ own q came v ds es g3 k x y b A n c w) (j : Nat) : RS_ own q came v ds es g3 k x y b A n c (w.drewN j) := ⟨h.qu.drewN j, h.bx⟩
end

/-- What the reference's queue makes of an event. -/
def rpushR (came : Nat) (es : List Ev) (e : Ev) : Nat × Nat × List Ev :=
  if e.may = false then (0, 1, es) else if 4096 ≤ es.length - came then (0, 11, es) else (es.length + 1, 0, es ++ [e])

set_option maxRecDepth 100000 in
set_option maxHeartbeats 2000000 in
theorem refPush_c (own : Nat → Prop) (q came : Nat) (v : Value) (ds : List EvV) (es : List Ev) (w : World) (h : RQ own w q came v ds es) (hol : ∀ j, own j → j < w.heap.size) (hcl : came ≤ es.length) (hl : es.length ≤ 1000000000)
    (ok : Nat → Prop) (k x y b : Int) (A : Option Addr) (n c : Nat) (t : List UInt8) (ht : TxtR ok w A n c t) :
    Calls Try.prog 29 #[.pointer (some ⟨q, 0, none⟩), .agg #[.int .i64 k, .slice A n c, .int .i64 x, .int .i64 y, .int .i64 b]] w fun r w' =>
      r = .returned (.tuple #[.int .u64 ((rpushR came es ⟨k, t, x, y, b⟩).1 : Int), .int .i64 ((rpushR came es ⟨k, t, x, y, b⟩).2.1 : Int)]) ∧ (∃ v' ds', RQ (fun j => own j ∨ w.heap.size ≤ j) w' q came v' ds' (rpushR came es ⟨k, t, x, y, b⟩).2.2) ∧ Keeps (fun j => j = q ∨ own j) w w' := by
  obtain ⟨N, er, es', eR⟩ : ∃ N er es', rpushR came es ⟨k, t, x, y, b⟩ = (N, er, es') := ⟨_, _, _, rfl⟩
  rw [eR]
  have ER := Lib.hid eR; clear eR
  show Calls _ _ _ _ fun r w' => r = .returned (.tuple #[.int .u64 (N : Int), .int .i64 (er : Int)]) ∧ (∃ v' ds', RQ (fun j => own j ∨ w.heap.size ≤ j) w' q came v' ds' es') ∧ Keeps (fun j => j = q ∨ own j) w w'
  have hqlt := h.lt
  have OWNB : Hid (∀ j, own j → j ≠ w.heap.size) := Lib.hid (fun j hj => by have := hol j hj; omega)
  obtain ⟨Aq, cq, ev, hq1, hq2⟩ := h.form
  obtain ⟨ln, eln⟩ : ∃ ln, ln = es.length := ⟨_, rfl⟩
  rw [← eln] at ev hq1 hl hcl
  have tl := ht.1
  have ob : ∀ j, (Value.slice Aq ln cq).ownBlock = some j → j ≠ q ∧ j ≠ w.heap.size := by
    intro j ej
    rw [← ev] at ej
    have h1 := h.evs.ok_ j ej
    have h2 := h.evs.lt j ej
    exact ⟨fun e => h.ne (e ▸ h1), by omega⟩
  have OB := Lib.hid ob; clear ob
  have ob2 : ∀ j, (Value.slice Aq ln cq).ownBlock = some j → j < w.heap.size := by
    intro j ej
    rw [← ev] at ej
    exact h.evs.lt j ej
  have OB2 := Lib.hid ob2; clear ob2
  have hmay : (⟨k, t, x, y, b⟩ : Ev).may = mayB k x y b n := by rw [Ev.may, tl]
  obtain ⟨w1, ew1⟩ : ∃ w1, w1 = w.alloc (.cells #[.int .i64 k, .slice A n c, .int .i64 x, .int .i64 y, .int .i64 b] 36) := ⟨_, rfl⟩
  have k1 : Below w.heap.size w w1 := by rw [ew1]; exact (Below.refl _ _).alloc (Nat.le_refl _) _
  have hP1 : RS_ own q came v ds es w.heap.size k x y b A n c w1 := ⟨h.below k1, by rw [ew1]; exact heap_alloc_new w _⟩
  have weak : ∀ (w' : World), RQ own w' q came v ds es → RQ (fun j => own j ∨ w.heap.size ≤ j) w' q came v ds es := fun _ h => ⟨h.row, h.evs.weak (fun j hj _ => .inl hj), fun e => by rcases e with e | e; exact h.ne e; omega⟩
  have kbel : ∀ (w' : World), Below w.heap.size w w' → Keeps (fun j => j = q ∨ own j) w w' := fun _ hb => Keeps.of_below hb _ (fun j hj _ => hj)
  have HP := Lib.hid hP1; clear hP1
  have HT := Lib.hid ht; clear ht
  have EW := Lib.hid ew1; clear ew1
  have EV := Lib.hid ev
  have WK := Lib.hid weak; clear weak
  have KB := Lib.hid kbel; clear kbel
  have ELN := Lib.hid eln; clear eln
  clear ev h
  obtain ⟨M, eM⟩ : ∃ M, M = mayB k x y b n := ⟨_, rfl⟩
  rw [← eM] at hmay
  have HM := Lib.hid hmay; clear hmay
  go_enter Try.func29, Try.ntmps29
  go_wp2_with (fail)
  rw [← EW.out]
  refine (refMay_c k x y b A n c w1).mono ?_
  rintro r w2 ⟨rfl, hb2⟩
  rw [← eM]
  clear eM
  have k2 := k1.trans (hb2.mono k1.size)
  have HP2 := Lib.hid (HP.out.below hb2)
  clear HP hb2 EW
  cases M with
  | false =>
    have hR : rpushR came es ⟨k, t, x, y, b⟩ = (0, 1, es) := by rw [rpushR, if_pos HM.out]
    rw [ER.out] at hR
    injection hR with r1 r2
    injection r2 with r2 r3
    have r3 := r3.symm
    subst r1 r2 r3
    go_wp2_with (fail)
    go_ret2
    exact ⟨rfl, ⟨v, ds, WK.out _ HP2.out.qu⟩, KB.out _ k2⟩
  | true =>
    have c0 := HP2.out.qu.c0
    have c1 := HP2.out.qu.c1
    rw [EV.out] at c0
    obtain ⟨D, eD⟩ : ∃ D, D = ln - came := ⟨_, rfl⟩
    have hDi : (ln : Int) - (came : Int) = (D : Int) := by omega
    have ED := Lib.hid eD; clear eD
    by_cases hbig : 4096 ≤ D
    · have hR : rpushR came es ⟨k, t, x, y, b⟩ = (0, 11, es) := by rw [rpushR, if_neg (by rw [HM.out]; decide), if_pos (by rw [← ELN.out, ← ED.out]; exact hbig)]
      rw [ER.out] at hR
      injection hR with r1 r2
      injection r2 with r2 r3
      have r3 := r3.symm
      subst r1 r2 r3
      have hbig' : (4096 : Int) ≤ (D : Int) := by omega
      clear hbig
      go_wp2_with (fail)
      go_quiet (fail)
      go_wp2_with (fail)
      go_ret2
      exact ⟨rfl, ⟨v, ds, WK.out _ (HP2.out.qu.drewN _)⟩, (KB.out _ k2).drewN _⟩
    · have hR : rpushR came es ⟨k, t, x, y, b⟩ = (es.length + 1, 0, es ++ [⟨k, t, x, y, b⟩]) := by rw [rpushR, if_neg (by rw [HM.out]; decide), if_neg (by rw [← ELN.out, ← ED.out]; exact hbig)]
      rw [ER.out] at hR
      injection hR with r1 r2
      injection r2 with r2 r3
      subst r2
      have R1 := Lib.hid r1; have R3 := Lib.hid r3; clear r1 r3
      have hsm' : (D : Int) < 4096 := by omega
      clear hbig
      obtain ⟨-, b0, b1, b2, b3, b4⟩ := HP2.out.cells
      go_wp2_with (fail)
      go_quiet (fail)
      go_wp2_with (fail)
      refine (Copy_c A n c t _ HT.out.1 ((HT.out.frame (fun j _ hj => k2.block j hj) k2.size).2.1.drewN _) HT.out.2.2.2.2.2).mono ?_
      rintro r w3 ⟨v3, rfl, ho3, hb3⟩
      obtain ⟨A3, c3, rfl, p1, p2, p3, p4⟩ := OwnB.form ho3
      rw [HT.out.1] at p1 ho3 ⊢
      have k3 := (below_drewN k2 _).trans (hb3.mono k2.size)
      have HP3 := Lib.hid ((HP2.out.drewN _).below hb3)
      have HO3 := Lib.hid ho3
      have s3 := hb3.size
      have hlow : w.heap.size + 1 ≤ w2.heap.size := by have := heap_lt HP2.out.bx; omega
      clear ho3 hb3 p3 HP2 b0 b1 b2 b3 b4 c0 c1
      have b1 := HP3.out.cells.2.2.1
      have fb : w3.frozen? ⟨w.heap.size, 1, none⟩ = false := heap_free HP3.out.bx 1
      obtain ⟨w4, ew4⟩ : ∃ w4, w4 = w3.setCell ⟨w.heap.size, 1, none⟩ (.slice A3 n c3) := ⟨_, rfl⟩
      have hne : q ≠ w.heap.size := by omega
      have hP4 : RS_ own q came v ds es w.heap.size k x y b A3 n c3 w4 := by
        have ownlt : ∀ j, own j → j < w3.heap.size → w4.heap[j]? = w3.heap[j]? := fun j hj _ => by
          rw [ew4]
          refine heap_far _ (fun e => ?_)
          exact OWNB.out j hj e
        exact ⟨HP3.out.qu.keep (by rw [ew4]; exact heap_far _ hne) ownlt, by rw [ew4, heap_set HP3.out.bx 1]; rfl⟩
      have k4 : Below w.heap.size w w4 := by
        rw [ew4]
        exact k3.grown (only_set w.heap.size 1 _) k3.size (fun j ej => by injection ej with ej; omega)
      have HP4 := Lib.hid hP4; clear hP4
      have ho4 : OwnB w4 (w.heap.size + 1) (.slice A3 n c3) t := by
        rw [ew4]
        exact Own.setBelow (Own.low HO3.out hlow) (by show w.heap.size < _; omega) _
      have HO4 := Lib.hid ho4; clear ho4
      have HD4 : Hid (RS_ own q came v ds es w.heap.size k x y b A3 n c3 w4.drew) := Lib.hid (HP4.out.drewN 1)
      have a4 : Below w4.heap.size w4 (w4.alloc (.cells #[.int .i64 k, .slice A3 n c3, .int .i64 x, .int .i64 y, .int .i64 b] 36)) := (Below.refl w4.heap.size w4).alloc (Nat.le_refl _) _
      have HD5 : Hid (RS_ own q came v ds es w.heap.size k x y b A3 n c3 (w4.alloc (.cells #[.int .i64 k, .slice A3 n c3, .int .i64 x, .int .i64 y, .int .i64 b] 36)).drew) := Lib.hid ((HP4.out.below a4).drewN 1)
      have EW4 := Lib.hid ew4; clear ew4
      go_wp2_with (fail)
      rw [← EW4.out]
      obtain ⟨x1, y0, y1, y2, y3, y4⟩ := HD4.out.cells
      obtain ⟨u1, v0, v1, v2, v3, v4⟩ := HD5.out.cells
      rw [EV.out] at x1 u1
      have kD : Below w.heap.size w (w4.alloc (.cells #[.int .i64 k, .slice A3 n c3, .int .i64 x, .int .i64 y, .int .i64 b] 36)).drew := below_drewN (k4.trans (a4.mono k4.size)) 1
      have o5 : EvsO (w.heap.size ≤ ·) (w4.alloc (.cells #[.int .i64 k, .slice A3 n c3, .int .i64 x, .int .i64 y, .int .i64 b] 36)).drew (.slice (some ⟨w4.heap.size, 0, none⟩) 1 1) [⟨k, A3, n, c3, x, y, b⟩] [⟨k, t, x, y, b⟩] := by
        refine ⟨rfl, ?_, fun j ej => (by injection ej with ej; rw [← ej]; exact k4.size), fun i h1 h2 => ?_⟩
        · have := World.ownsRow_lit (base := 0) (e := 36) (size := 5) w4 #[.int .i64 k, .slice A3 n c3, .int .i64 x, .int .i64 y, .int .i64 b] 1 (Nat.zero_le _) (by decide) rfl
          exact this
        · have hi : i = 0 := by simpa using h1
          subst hi
          have ht2 : OwnB (w4.alloc (.cells #[.int .i64 k, .slice A3 n c3, .int .i64 x, .int .i64 y, .int .i64 b] 36)).drew 0 (.slice A3 n c3) t := Own.drewN (Own.below (Own.low HO4.out (Nat.zero_le _)) a4) 1
          exact ⟨rfl, rfl, rfl, rfl, HT.out.1, ht2, fun a ea => Nat.le_trans (Nat.le_of_succ_le hlow) (p4 a ea).1, HT.out.2.2.2.2.2⟩
      have O5 := Lib.hid o5; clear o5
      have s5 := kD.size
      go_region_law ((refine step_appV rfl (.tmp 28) (.tmp 30) rfl 0 _ _ rfl (EV.out ▸ HD5.out.qu.evs.row) (some ⟨w4.heap.size, 0, none⟩) 1 1 [⟨k, A3, n, c3, x, y, b⟩] rfl rfl ((Rd.lit w4 (cellsV [⟨k, A3, n, c3, x, y, b⟩]) 36).drewN 1) (by have := HD5.out.qu.evs.len; have := ELN.out; omega) (Nat.zero_le _) ?_); intro v7 w7 HO7 hg7 hv7; obtain ⟨A7, cc7, rfl, -⟩ := OwnV.form HO7.out; have W7 := Lib.hid (RS_.grown EV HD5.out hg7 OB.out); have c7 : w7.cell? ⟨q, 0, none⟩ = some (.slice Aq ln cq) := (rrows_cells W7.out).1; have fr7 : w7.frozen? ⟨q, 0, none⟩ = false := heap_free W7.out.1 0)
      all_goals
        have hq5 := HD5.out.qu
        rw [EV.out] at hq5
        have hpu := RQ.pushed (B := w.heap.size) hq5 OB2.out hqlt s5 (Nat.le_refl _) O5.out HO7.out hg7 hv7
        have kp : Keeps (fun j => j = q ∨ own j) w (w7.setCell ⟨q, 0, none⟩ (.slice A7 (ln + 1) cc7)) :=
          ((KB.out _ kD).trans (Keeps.of_grown hg7 _ (fun j ej => .inr (hq5.evs.ok_ j ej)))).trans (Keeps.set _ w7 ⟨q, 0, none⟩ _ (.inl rfl))
        have hdl := hq5.evs.len
        have eL : (ds ++ [(⟨k, A3, n, c3, x, y, b⟩ : EvV)]).length = ln + 1 := by rw [List.length_append, hdl, ← ELN.out]; rfl
        have eds : ds.length + 1 = ln + 1 := by rw [hdl, ← ELN.out]
        rw [eL] at hpu
        have hpu2 := hpu
        rw [eds]
        obtain ⟨w8, ew8⟩ : ∃ w8, w8 = w7.setCell ⟨q, 0, none⟩ (.slice A7 (ln + 1) cc7) := ⟨_, rfl⟩
        rw [← ew8] at hpu2 kp ⊢
        have HPU := Lib.hid hpu2
        have KP := Lib.hid kp
        have c8 := HPU.out.c0
        have wl : IntKind.u64.wrap ((ln : Int) + 1) = ((ln + 1 : Nat) : Int) := by
          rw [show (ln : Int) + 1 = ((ln + 1 : Nat) : Int) by omega]; exact u64_wrapN (by unfold U64; omega)
        have wl2 : IntKind.u64.wrap ((ln + 1 : Nat) : Int) = ((ln + 1 : Nat) : Int) := u64_wrapN (by unfold U64; omega)
        clear hpu hpu2 kp ew8 hq5 W7 c7 fr7 HO7 hg7 hv7 O5 HD5 HD4 x1 u1 y0 y1 y2 y3 y4 v0 v1 v2 v3 v4 hdl eds
        go_wp2_with (fail)
        go_ret2
        exact ⟨by rw [R1.out, ← ELN.out] <;> rfl, ⟨_, _, by rw [R3.out]; exact HPU.out⟩, KP.out⟩
end Go.Proofs.Ytgnciejbhaebeaa

/- What the reference's queue answers: how many came; its next events. Conditions: lengths that fit. -/
namespace Go.Proofs.Ytgnciejbhaebeaa
open Go Go.RowKit

/-- What the reference's queue makes of a number. -/
def rackR (came : Nat) (es : List Ev) (m : Nat) : Nat × Nat := if es.length < m ∨ m ≤ came then (0, came) else (m - came, m)
theorem RQ.came_ {own : Nat → Prop} {w : World} {q came : Nat} {v : Value} {ds : List EvV} {es : List Ev} (h : RQ own w q came v ds es) (m : Nat) : RQ own (w.setCell ⟨q, 1, none⟩ (.int .i64 (m : Int))) q m v ds es := by
  refine ⟨?_, h.evs.frame (fun k hk _ => heap_far _ (fun e => h.ne (by have e' : k = q := e; exact e' ▸ hk))), h.ne⟩
  rw [heap_set h.row 1]
  rfl

set_option maxRecDepth 100000 in
set_option maxHeartbeats 2000000 in
theorem refAck_c (own : Nat → Prop) (q came : Nat) (v : Value) (ds : List EvV) (es : List Ev) (w : World) (h : RQ own w q came v ds es) (hcl : came ≤ es.length) (hl : es.length ≤ 1000000000) (m : Nat) (hm : U64 m) :
    Calls Try.prog 31 #[.pointer (some ⟨q, 0, none⟩), .int .u64 m] w fun r w' =>
      r = .returned (.int .i64 ((rackR came es m).1 : Int)) ∧ RQ own w' q (rackR came es m).2 v ds es ∧ Keeps (fun j => j = q) w w' := by
  obtain ⟨Aq, cq, ev, hq1, hq2⟩ := h.form
  obtain ⟨ln, eln⟩ : ∃ ln, ln = es.length := ⟨_, rfl⟩
  rw [← eln] at ev hq1 hl hcl
  have c0 := h.c0
  have c1 := h.c1
  rw [ev] at c0
  have fr := h.free 1
  have ELN := Lib.hid eln; clear eln
  have HQ := Lib.hid h; clear h
  clear ev
  have wl := u64_wrapN (n := ln) (by unfold U64; omega)
  rcases Nat.lt_or_ge ln m with h1 | h1
  · have hR : rackR came es m = (0, came) := by rw [rackR, if_pos (.inl (by rw [← ELN.out]; exact h1))]
    rw [hR]
    have d1 : decide (ln < m) = true := decide_eq_true h1
    clear hR h1
    go_enter Try.func31, Try.ntmps31
    go_wp2_with (fail)
    go_ret
    exact ⟨rfl, HQ.out, Keeps.refl _ _⟩
  have d1 : decide (ln < m) = false := decide_eq_false (by omega)
  have wm : IntKind.i64.wrap (m : Int) = (m : Int) := i64_wrapN (by unfold U63; omega)
  rcases Nat.lt_or_ge came m with h2 | h2
  · have hR : rackR came es m = (m - came, m) := by rw [rackR, if_neg (by rw [← ELN.out]; omega)]
    rw [hR]
    have d2 : decide (m ≤ came) = false := decide_eq_false (by omega)
    obtain ⟨D, eD⟩ : ∃ D, D = m - came := ⟨_, rfl⟩
    have hDi : (m : Int) - (came : Int) = (D : Int) := by omega
    have wd : IntKind.i64.wrap ((m : Int) - (came : Int)) = (D : Int) := by rw [hDi]; exact i64_wrapN (by unfold U63; omega)
    have hDb : D ≤ 1000000000 := by omega
    have ED := Lib.hid eD; clear eD hR h1 h2
    go_enter Try.func31, Try.ntmps31
    go_wp2_with (fail)
    go_ret
    exact ⟨by show Ending.returned (.int .i64 (D : Int)) = _; rw [ED.out], HQ.out.came_ m, Keeps.set _ w ⟨q, 1, none⟩ _ rfl⟩
  · have hR : rackR came es m = (0, came) := by rw [rackR, if_pos (.inr h2)]
    rw [hR]
    have d2 : decide (m ≤ came) = true := decide_eq_true h2
    clear hR h1 h2
    go_enter Try.func31, Try.ntmps31
    go_wp2_with (fail)
    go_ret
    exact ⟨rfl, HQ.out, Keeps.refl _ _⟩

/-- A slice of events to be read, whatever memory they lie in. -/
def EvsV (ok : Nat → Prop) (w : World) (v : Value) (es : List Ev) : Prop := ∃ A c ds, v = .slice A es.length c ∧ EvsR ok w A ds es ∧ es.length ≤ c ∧ c ≤ maxLen

set_option maxRecDepth 100000 in
set_option maxHeartbeats 2000000 in
theorem refBatch_c (own : Nat → Prop) (q came : Nat) (v : Value) (ds : List EvV) (es : List Ev) (w : World) (h : RQ own w q came v ds es) (hcl : came ≤ es.length) (hl : es.length ≤ 1000000000) :
    Calls Try.prog 35 #[.pointer (some ⟨q, 0, none⟩)] w fun r w' =>
      ∃ v', r = .returned (.tuple #[.int .u64 (came : Int), v']) ∧ EvsV own w v' ((es.drop came).take 16) ∧ ∃ j, w' = w.drewN j := by
  obtain ⟨Aq, cq, ev, hq1, hq2, hR⟩ := h.evs.form
  obtain ⟨ln, eln⟩ : ∃ ln, ln = es.length := ⟨_, rfl⟩
  have cut := (hR.cut (k := came) (c := cq) hcl hq1).take 16
  rw [← eln] at ev hq1 hl hcl
  have c0 := h.c0
  have c1 := h.c1
  rw [ev] at c0
  unfold maxLen at hq2
  have wl := u64_wrapN (n := came) (by unfold U64; omega)
  have ws : IntKind.i64.wrap ((came : Int) + 16) = ((came + 16 : Nat) : Int) := by
    rw [show (came : Int) + 16 = ((came + 16 : Nat) : Int) by omega]; exact i64_wrapN (by unfold U63; omega)
  obtain ⟨m, em⟩ : ∃ m, m = ((es.drop came).take 16).length := ⟨_, rfl⟩
  have hm : m = min 16 (ln - came) := by rw [em, List.length_take, List.length_drop, ← eln]
  have CUT := Lib.hid cut
  have ELN := Lib.hid eln
  have EM := Lib.hid em
  clear cut eln em h ev hR
  have hcw : (came : Int) ≤ (ln : Int) := by omega
  have hcq : (ln : Int) ≤ (cq : Int) := by omega
  rcases Nat.lt_or_ge ln (came + 16) with h1 | h1
  · have h1' : (ln : Int) < (came : Int) + 16 := by omega
    have hmin : m = ln - came := by omega
    have HM := Lib.hid hmin; clear hmin hm h1
    by_cases hcK : cq = came
    · have hz : ln - came = 0 := by omega
      have hcl2 : cq = came := hcK
      go_enter Try.func35, Try.ntmps35
      go_wp2_with (fail)
      go_quiet (fail)
      go_wp2_with (fail)
      go_ret2
      have cut := CUT.out
      rw [if_pos hcK] at cut
      exact ⟨_, rfl, ⟨_, _, _, by rw [← EM.out, HM.out, hz] <;> rfl, cut, by rw [← EM.out, HM.out]; omega, by unfold maxLen; omega⟩, _, rfl⟩
    · skip
      go_enter Try.func35, Try.ntmps35
      go_wp2_with (fail)
      go_quiet (fail)
      go_wp2_with (fail)
      go_ret2
      have cut := CUT.out
      rw [if_neg hcK] at cut
      exact ⟨_, rfl, ⟨_, _, _, by rw [← EM.out, HM.out] <;> rfl, cut, by rw [← EM.out, HM.out]; omega, by unfold maxLen; omega⟩, _, rfl⟩
  · have h1' : (came : Int) + 16 ≤ (ln : Int) := by omega
    have hmin : m = 16 := by omega
    have HM := Lib.hid hmin; have H1 := Lib.hid h1
    clear hmin hm h1
    have hcK : ¬ cq = came := by omega
    have e16 : came + 16 - came = 16 := by omega
    go_enter Try.func35, Try.ntmps35
    go_wp2_with (fail)
    go_quiet (fail)
    go_wp2_with (fail)
    go_ret2
    have cut := CUT.out
    rw [if_neg hcK] at cut
    exact ⟨_, rfl, ⟨_, _, _, by (show Value.slice _ (came + 16 - came) (cq - came) = _); rw [e16, ← EM.out, HM.out], cut, by rw [← EM.out, HM.out]; have := H1.out; omega, by unfold maxLen; omega⟩, _, rfl⟩
end Go.Proofs.Ytgnciejbhaebeaa

/- What the reference's inbox answers. Conditions: events that can be read; lengths that fit. -/
namespace Go.Proofs.Ytgnciejbhaebeaa
open Go Go.RowKit

/-- Block b is the reference's inbox to which so many came. -/
def RI (w : World) (b got : Nat) : Prop := w.heap[b]? = some (.cells #[.int .u64 (got : Int)] 54 (0, 0))
section
variable {w w' : World} {b got : Nat}
theorem RI.cell (h : RI w b got) : w.cell? ⟨b, 0, none⟩ = some (.int .u64 (got : Int)) := by rw [heap_cell h]; rfl
theorem RI.free (h : RI w b got) : w.frozen? ⟨b, 0, none⟩ = false := heap_free h 0
theorem RI.lt (h : RI w b got) : b < w.heap.size := heap_lt h
theorem RI.below (h : RI w b got) (hb : Below w.heap.size w w') : RI w' b got := (hb.block b h.lt).trans h
theorem RI.set (h : RI w b got) (m : Nat) : RI (w.setCell ⟨b, 0, none⟩ (.int .u64 (m : Int))) b m := by
  unfold RI
  rw [heap_set h]
  rfl
end
theorem drop_take_succ {α : Type} (l : List α) (K k : Nat) (h : k < l.length) (hK : K ≤ k) : (l.take (k + 1)).drop K = (l.take k).drop K ++ [l[k]] := by
  rw [List.take_succ_eq_append_getElem h, List.drop_append_of_le_length (by rw [List.length_take]; omega)]
theorem drop_take_lt {α : Type} (l : List α) (K k : Nat) (hK : k ≤ K) : (l.take k).drop K = [] := by
  apply List.eq_nil_of_length_eq_zero
  rw [List.length_drop, List.length_take]; omega

set_option maxRecDepth 100000 in
set_option maxHeartbeats 2000000 in
theorem refTake24_c (ok : Nat → Prop) (b got base : Nat) (A : Option Addr) (n c : Nat) (ds : List EvV) (es : List Ev) (w : World) (hg : U63 got) (hu : U64 base) (hi : RI w b got) (hokb : ¬ ok b) (hn : es.length = n) (hr : EvsR ok w A ds es) (hc : n ≤ c) (hm : c ≤ maxLen) (hl : n ≤ 140737488355328) :
    Calls Try.prog 33 #[.pointer (some ⟨b, 0, none⟩), .int .u64 base, .slice A n c] w fun r w' => ∃ v, r = .returned (.tuple #[v, .int .i64 ((takeR got base es).2.1 : Int)]) ∧ EvsV (fun j => ok j ∨ w.heap.size ≤ j) w' v (takeR got base es).1 ∧ RI w' b (takeR got base es).2.2 ∧ w.grownBy w' (some b) := by
  have HN := Lib.hid hn; clear hn
  have c0 := hi.cell
  have HI := Lib.hid hi; clear hi
  obtain ⟨L, er, gt, eR⟩ : ∃ L er gt, takeR got base es = (L, er, gt) := ⟨_, _, _, rfl⟩
  rw [eR]
  have ER := Lib.hid eR; clear eR
  show Calls _ _ _ _ fun r w' => ∃ v, r = .returned (.tuple #[v, .int .i64 (er : Int)]) ∧ EvsV (fun j => ok j ∨ w.heap.size ≤ j) w' v L ∧ RI w' b gt ∧ w.grownBy w' (some b)
  have nil_ : ∀ w', EvsV (fun j => ok j ∨ w.heap.size ≤ j) w' (.slice none 0 0) [] := fun w' => ⟨none, 0, [], rfl, ⟨rfl, .inl rfl, fun _ a e => (by cases e), fun i h => absurd h (by simp)⟩, Nat.le_refl _, Nat.zero_le _⟩
  have NIL := Lib.hid nil_; clear nil_
  rcases Nat.eq_zero_or_pos n with h0 | h0
  · have hR : takeR got base es = ([], 1, got) := by rw [takeR, if_pos (.inl (List.eq_nil_of_length_eq_zero (HN.out.trans h0)))]
    rw [ER.out] at hR
    injection hR with r1 r2
    injection r2 with r2 r3
    have r3 := r3.symm
    subst r1 r2 r3 h0
    go_enter Try.func33, Try.ntmps33
    go_wp2_with (fail)
    go_ret2
    exact ⟨_, rfl, NIL.out _, HI.out, World.grownBy.refl _ _⟩
  have d3 : decide ((n : Int) < 1) = false := decide_eq_false (by omega)
  by_cases hbig : 16 < n
  · have hR : takeR got base es = ([], 1, got) := by rw [takeR, if_pos (.inr (by rw [HN.out]; exact hbig))]
    rw [ER.out] at hR
    injection hR with r1 r2
    injection r2 with r2 r3
    have r3 := r3.symm
    subst r1 r2 r3
    have d4 : decide ((16 : Int) < (n : Int)) = true := decide_eq_true (by omega)
    clear hbig
    go_enter Try.func33, Try.ntmps33
    go_wp2_with (fail)
    go_ret2
    exact ⟨_, rfl, NIL.out _, HI.out, World.grownBy.refl _ _⟩
  have hnb : ¬ (es = [] ∨ 16 < es.length) := by
    rintro (h | h)
    · have := HN.out; rw [h] at this; simp at this; omega
    · rw [HN.out] at h; exact hbig h
  have d4 : decide ((16 : Int) < (n : Int)) = false := decide_eq_false (by omega)
  have hsm : n ≤ 16 := by omega
  clear hbig
  rcases Nat.lt_or_ge got base with hgb | hgb
  · have hR : takeR got base es = ([], 15, got) := by rw [takeR, if_neg hnb, if_pos hgb]
    rw [ER.out] at hR
    injection hR with r1 r2
    injection r2 with r2 r3
    have r3 := r3.symm
    subst r1 r2 r3
    have d5 : decide (got < base) = true := decide_eq_true (by omega)
    clear hnb hgb
    go_enter Try.func33, Try.ntmps33
    go_wp2_with (fail)
    go_ret2
    exact ⟨_, rfl, NIL.out _, HI.out, World.grownBy.refl _ _⟩
  have d5 : decide (got < base) = false := decide_eq_false (by omega)
  obtain ⟨K, eK⟩ : ∃ K, K = got - base := ⟨_, rfl⟩
  have HNB := Lib.hid hnb; clear hnb
  have HGB := Lib.hid hgb; clear hgb
  have EK := Lib.hid eK; clear eK
  have HR := Lib.hid hr; clear hr
  have o1 : OwnV (w.alloc (.cells #[] 36)) w.heap.size (.slice (some ⟨w.heap.size, 0, none⟩) 0 0) [] := World.ownsRow_made w #[] 0 (Nat.le_refl _) (Nat.zero_le _) rfl
  have k1 : Below w.heap.size w (w.alloc (.cells #[] 36)) := (Below.refl _ _).alloc (Nat.le_refl _) _
  have O1 := Lib.hid o1; clear o1
  go_enter Try.func33, Try.ntmps33
  go_wp2_with (fail)
  go_loopw [8, 27] (fun v i wr => ∃ k : Nat, k ≤ n ∧ i = .int .i64 k ∧ Hid (OwnV wr w.heap.size v ((ds.take k).drop K)) ∧ Below w.heap.size w wr) (fun _ i _ => n - (intOf i).toNat)
  case atStart => exact ⟨0, Nat.zero_le _, rfl, by rw [List.take_zero, List.drop_nil]; exact O1, k1⟩
  case round =>
    clear O1 k1 c0
    obtain ⟨k, hk, rfl, HO, kb⟩ := hrel
    have c0 := (HI.out.below kb).cell
    rcases Nat.lt_or_ge k n with hlt | hge
    · have hkd : k < ds.length := by rw [HR.out.len, HN.out]; exact hlt
      have wk := u64_wrapN (n := k) (by unfold U64; omega)
      have hsum : base + k < 9223372036854775808 + 16 := by have := HGB.out; unfold U63 at hg; omega
      have wb : IntKind.u64.wrap ((base : Int) + (k : Int)) = ((base + k : Nat) : Int) := by
        rw [show (base : Int) + (k : Int) = ((base + k : Nat) : Int) by omega]
        exact u64_wrapN (by unfold U64; omega)
      have hlt' : (k : Int) < (n : Int) := by omega
      rcases Nat.lt_or_ge k K with h1 | h1
      · have d6 : decide ((got : Int) ≤ (base : Int) + (k : Int)) = false := decide_eq_false (by have := EK.out; have := HGB.out; omega)
        have hnx : Hid (OwnV wr w.heap.size u8 ((ds.take (k + 1)).drop K)) := Lib.hid (by
          have := HO.out
          rw [drop_take_lt ds K k (by omega)] at this
          rw [drop_take_lt ds K (k + 1) (by omega)]
          exact this)
        clear h1 hsum HO
        go_wp2_with (fail)
        go_roundw
        case rel => exact ⟨k + 1, by omega, by go_num, hnx, kb⟩
        case measure => simp [intOf]; omega
      · have d6 : decide ((got : Int) ≤ (base : Int) + (k : Int)) = true := decide_eq_true (by have := EK.out; have := HGB.out; omega)
        obtain ⟨b1, o1, rfl, hb1, -, hcell⟩ := HR.out.five (by rw [HN.out]; omega)
        obtain ⟨c1, ca, cb, cc, cd⟩ := hcell k hkd
        have hdt := drop_take_succ ds K k hkd h1
        obtain ⟨d, ed⟩ : ∃ d, d = ds[k] := ⟨_, rfl⟩
        rw [← ed] at c1 ca cb cc cd hdt
        obtain ⟨z0, At, m, cm, z2, z3, z4⟩ := d
        simp only at c1 ca cb cc cd
        rw [← kb.cell (p := ⟨b1, _, none⟩) hb1] at c1 ca cb cc cd
        have HDT := Lib.hid hdt
        have al := kb.alloc kb.size (.cells #[.int .i64 z0, .slice At m cm, .int .i64 z2, .int .i64 z3, .int .i64 z4] 36)
        have ho2 : OwnV (wr.alloc (.cells #[.int .i64 z0, .slice At m cm, .int .i64 z2, .int .i64 z3, .int .i64 z4] 36)) w.heap.size u8 ((ds.take k).drop K) := HO.out.below ((Below.refl _ _).alloc (Nat.le_refl _) _)
        have HO2 := Lib.hid ho2
        have hlen2 : ((ds.take k).drop K).length ≤ 100 := by rw [List.length_drop, List.length_take]; omega
        have HL2 := Lib.hid hlen2
        clear hcell hdt ed ho2 hlen2 h1 hsum
        go_wp2_with (first | (at_builtin; refine wpList_appV _ rfl (.tmp 39) (.tmp 44) rfl w.heap.size _ _ rfl HO2.out (some ⟨wr.heap.size, 0, none⟩) 1 1 [⟨z0, At, m, cm, z2, z3, z4⟩] rfl rfl (Rd.lit wr (cellsV [⟨z0, At, m, cm, z2, z3, z4⟩]) 36) (by have := HL2.out; omega) al.size ?_; intro v2 w2 h2 hg2 _; have H2 : Hid (OwnV w2 w.heap.size v2 ((ds.take (k + 1)).drop K)) := Lib.hid (by rw [HDT.out]; exact h2); clear h2; have k2 := al.grown hg2 al.size (fun q e => (World.ownsRow.lt HO2.out q e).1); clear hg2))
        go_roundw
        case rel => exact ⟨k + 1, by omega, by go_num, H2, k2⟩
        case measure => simp [intOf]; omega
    · obtain rfl : n = k := by omega
      have hdn : ds.take n = ds := List.take_of_length_le (by rw [HR.out.len, HN.out]; exact Nat.le_refl _)
      have ho := HO.out
      rw [hdn] at ho
      clear HO hdn
      obtain ⟨A3, c3, rfl, q1, q2, q3, q4, -⟩ := OwnV.form ho
      have hdl : (ds.drop K).length = n - K := by rw [List.length_drop, HR.out.len, HN.out]
      rw [hdl] at q1 ho ⊢
      rcases Nat.lt_or_ge K n with h1 | h1
      · have hR : takeR got base es = (es.drop K, 0, got + (n - K)) := by rw [takeR, if_neg HNB.out, if_neg (by have := HGB.out; omega), ← EK.out, HN.out, if_neg (by omega)]
        rw [ER.out] at hR
        injection hR with r1 r2
        injection r2 with r2 r3
        subst r2
        have R1 := Lib.hid r1; have R3 := Lib.hid r3
        have wa : IntKind.u64.wrap ((got : Int) + ((n - K : Nat) : Int)) = ((got + (n - K) : Nat) : Int) := by
          rw [show (got : Int) + ((n - K : Nat) : Int) = ((got + (n - K) : Nat) : Int) by omega]
          exact u64_wrapN (by unfold U63 at hg; unfold U64; omega)
        have wn2 := u64_wrapN (n := n - K) (by unfold U64; omega)
        have hz : (((n - K : Nat) : Int) == 0) = false := by rw [beq_eq_false_iff_ne]; omega
        have fr := (HI.out.below kb).free
        have hel : (es.drop K).length = n - K := by rw [List.length_drop, HN.out]
        have hlt := HI.out.lt
        have hev : EvsR (fun j => ok j ∨ w.heap.size ≤ j) wr A3 (ds.drop K) (es.drop K) := by
          refine ⟨by rw [hdl, hel], q3, fun _ a ea => .inr (q4 a ea).1, fun i h2 h3 => ?_⟩
          rw [List.getElem_drop, List.getElem_drop]
          exact ((HR.out.each (K + i) (by rw [hdl] at h2; have := HR.out.len; have := HN.out; omega) (by rw [hel] at h3; have := HN.out; omega)).frame (fun j _ hj => kb.block j hj) kb.size).weak (fun j hj _ => .inl hj)
        have HEV := Lib.hid hev; clear hev
        have HEL := Lib.hid hel; clear hel
        have HK := Lib.hid (Nat.le_trans q1 (Nat.le_refl _))
        clear r1 r3 h1 q1 q3 q4 ho hdl
        go_wp2_with (fail)
        go_ret2
        refine ⟨_, rfl, ⟨A3, c3, ds.drop K, by rw [R1.out, HEL.out] <;> rfl, ?_, by rw [R1.out, HEL.out]; exact HK.out, q2⟩, by rw [R3.out]; exact (HI.out.below kb).set _, only_trans (grownBy_of_below kb (some b)) (only_set b 0 _)⟩
        rw [R1.out]
        exact HEV.out.frame (fun j hj _ => heap_far _ (fun e => by
          have e' : j = b := e
          rcases hj with hj | hj
          · exact hokb (e' ▸ hj)
          · omega)) (by simp [World.setCell])
      · have hR : takeR got base es = ([], 16, got) := by rw [takeR, if_neg HNB.out, if_neg (by have := HGB.out; omega), ← EK.out, HN.out, if_pos h1]
        rw [ER.out] at hR
        injection hR with r1 r2
        injection r2 with r2 r3
        have r3 := r3.symm
        subst r1 r2 r3
        have hz : n - K = 0 := by omega
        rw [hz]
        clear h1 hz q1 q3 q4 ho hdl
        go_wp2_with (fail)
        go_ret2
        exact ⟨_, rfl, NIL.out _, HI.out.below kb, grownBy_of_below kb _⟩
end Go.Proofs.Ytgnciejbhaebeaa

/- What the reference's Turn does to events of one's own: it writes into their blocks alone. Conditions: events of one's own. -/
namespace Go.Proofs.Ytgnciejbhaebeaa
open Go Go.RowKit

theorem u8_bv (z : Int) : ∃ b : UInt8, Value.int .u8 (z % 256) = bv b := by
  refine ⟨UInt8.ofNat (z % 256).toNat, ?_⟩
  unfold bv
  rw [UInt8.toNat_ofNat']
  congr 1
  omega
theorem Own.types {w : World} {B B' s s' n n' c c' g : Nat} {e e' : TypeId} {vs vs' : List Value} (h : w.ownsRow B e s (.slice (some ⟨g, 0, none⟩) n c) n vs) (h' : w.ownsRow B' e' s' (.slice (some ⟨g, 0, none⟩) n' c') n' vs') : e = e' := by
  rcases h.2 with ⟨h, _⟩ | ⟨g1, _, _, hv, _, hg, _⟩
  · cases h
  · rcases h'.2 with ⟨h, _⟩ | ⟨g2, _, _, hv', _, hg', _⟩
    · cases h
    · injection hv with hv _ _
      injection hv with hv
      injection hv with hv
      injection hv' with hv' _ _
      injection hv' with hv'
      injection hv' with hv'
      subst hv hv'
      rw [hg] at hg'
      injection hg' with hg'
      injection hg'
/-- A byte written into some block of bytes: texts stay texts. -/
theorem TxtO.poke {ok : Nat → Prop} {w : World} {A : Option Addr} {n c h k : Nat} {bs : List UInt8} (ht : TxtO ok w A n c bs) (b : UInt8) : ∃ bs', TxtO ok (w.setCell ⟨h, k, none⟩ (bv b)) A n c bs' := by
  obtain ⟨h1, h2, h3, h4⟩ := ht
  by_cases e : ∃ g, A = some ⟨g, 0, none⟩ ∧ g = h
  · obtain ⟨g, rfl, rfl⟩ := e
    exact ⟨bs.set k b, by simpa using h1, h2.set k b, h3, h4⟩
  · refine ⟨bs, h1, Own.frameK h2 (fun g eg => heap_far _ ?_), h3, h4⟩
    rintro rfl
    rcases h2.2 with ⟨hv, _⟩ | ⟨g', _, _, hv, _⟩
    · rw [hv] at eg; cases eg
    · injection hv with hv _ _
      subst hv
      injection eg with eg
      exact e ⟨g', rfl, eg⟩
theorem EvsO.poke {ok : Nat → Prop} {w : World} {v : Value} {ds : List EvV} {es : List Ev} (h : EvsO ok w v ds es) (i : Nat) (hi : i < ds.length) (g : Nat) (hg : ds[i].A = some ⟨g, 0, none⟩) (k : Nat) (b : UInt8) :
    ∃ es', EvsO ok (w.setCell ⟨g, k, none⟩ (bv b)) v ds es' := by
  have hl := h.len
  have hne : ∀ q, v.ownBlock = some q → q ≠ g := by
    rintro q eq rfl
    have ht := (h.each i hi (by omega)).2.2.2.2
    rw [hg] at ht
    have hrow := h.row
    rcases hrow.2 with ⟨hv, _⟩ | ⟨g', cap, cur, hv, _⟩
    · rw [hv] at eq; cases eq
    · rw [hv] at eq
      injection eq with eq
      simp only at eq
      subst eq
      have h2 := ht.2.1
      unfold OwnB Own at h2
      unfold OwnV at hrow
      rw [hv] at hrow
      have e1 := ht.1
      rw [List.length_map, e1] at h2
      have := Own.types hrow h2
      revert this
      decide
  have each : ∀ j, ∃ e', ∀ (h1 : j < ds.length), EvO ok (w.setCell ⟨g, k, none⟩ (bv b)) ds[j] e' := by
    intro j
    by_cases hj : j < ds.length
    · have ho := h.each j hj (by omega)
      obtain ⟨bs', hb⟩ := ho.2.2.2.2.poke (h := g) (k := k) b
      exact ⟨⟨(es[j]'(by omega)).k, bs', (es[j]'(by omega)).x, (es[j]'(by omega)).y, (es[j]'(by omega)).b⟩, fun _ => ⟨ho.1, ho.2.1, ho.2.2.1, ho.2.2.2.1, hb⟩⟩
    · exact ⟨⟨0, [], 0, 0, 0⟩, fun h => absurd h hj⟩
  let f : Nat → Ev := fun j => Classical.choose (each j)
  refine ⟨(List.range ds.length).map f, by simp, Own.frameK h.row (fun q eq => heap_far _ (hne q eq)), h.ok_, fun j h1 h2 => ?_⟩
  simp only [List.getElem_map, List.getElem_range]
  exact Classical.choose_spec (each j) h1
theorem EvsO.setX {ok : Nat → Prop} {w : World} {g n c : Nat} {ds : List EvV} {es : List Ev} (h : EvsO ok w (.slice (some ⟨g, 0, none⟩) n c) ds es) (i : Nat) (hi : i < ds.length) (x : Int) :
    ∃ ds' es', EvsO ok (w.setCell ⟨g, i * 5 + 2, none⟩ (.int .i64 x)) (.slice (some ⟨g, 0, none⟩) n c) ds' es' ∧ ds'.length = ds.length := by
  have hl := h.len
  have hne : ∀ j (hj : j < ds.length) a, ds[j].A = some a → a.block ≠ g := by
    rintro j hj a ea eg
    have ht := (h.each j hj (by omega)).2.2.2.2
    have h2 := ht.2.1
    unfold OwnB Own at h2
    rw [List.length_map, ht.1, ea] at h2
    rcases h2.2 with ⟨hv, _⟩ | ⟨g', _, _, hv, _⟩
    · cases hv
    · injection hv with hv _ _
      injection hv with hv
      subst hv
      simp only at eg
      subst eg
      have := Own.types h.row.to_n h2
      revert this
      decide
  refine ⟨_, es.set i ⟨(es[i]'(by omega)).k, (es[i]'(by omega)).t, x, (es[i]'(by omega)).y, (es[i]'(by omega)).b⟩, ⟨by simp [hl], h.row.setX i hi x, h.ok_, fun j h1 h2 => ?_⟩, by simp⟩
  have h1' : j < ds.length := by simpa using h1
  have ho := h.each j h1' (by omega)
  have far : TxtO ok (w.setCell ⟨g, i * 5 + 2, none⟩ (.int .i64 x)) ds[j].A ds[j].n ds[j].c (es[j]'(by omega)).t := by
    obtain ⟨q1, q2, q3, q4⟩ := ho.2.2.2.2
    refine ⟨q1, Own.frameK q2 (fun q eq => heap_far _ ?_), q3, q4⟩
    cases hA : ds[j].A with
    | none => rw [hA] at eq; cases eq
    | some a =>
      rw [hA] at eq
      injection eq with eq
      subst eq
      exact hne j h1' a hA
  rw [List.getElem_set, List.getElem_set]
  split
  · rename_i hij
    subst hij
    exact ⟨ho.1, rfl, ho.2.2.1, ho.2.2.2.1, far⟩
  · exact ⟨ho.1, ho.2.1, ho.2.2.1, ho.2.2.2.1, far⟩

set_option maxRecDepth 100000 in
set_option maxHeartbeats 2000000 in
theorem Turn24_c (ok : Nat → Prop) (A : Option Addr) (n c : Nat) (ds : List EvV) (es : List Ev) (w : World) (hn : es.length = n) (hr : EvsO ok w (.slice A n c) ds es) :
    Calls Try.prog 30 #[.slice A n c] w fun r w' => r = .returned (.tuple #[]) ∧ Keeps ok w w' := by
  have hdn : ds.length = n := hr.len.trans hn
  clear hn
  rcases Nat.eq_zero_or_pos n with h0 | h0
  · subst h0
    go_enter Try.func30, Try.ntmps30
    go_wp2
    go_loopw [6] (fun i wr => i = .int .i64 (0 : Nat) ∧ wr = w) (fun _ _ => 0)
    case atStart => exact ⟨rfl, rfl⟩
    case round =>
      obtain ⟨rfl, rfl⟩ := hrel
      go_wp2
      go_end0
      exact ⟨rfl, Keeps.refl _ _⟩
  · obtain ⟨g, rfl⟩ : ∃ g, A = some ⟨g, 0, none⟩ := by
      rcases hr.row.2 with ⟨h, h1⟩ | ⟨g, _, _, hv, _⟩
      · omega
      · injection hv with hv _ _
        exact ⟨g, hv⟩
    have HR := Lib.hid hr; clear hr
    have hnc : n ≤ c ∧ c ≤ maxLen := by have := HR.out.row.len; omega
    obtain ⟨hnc, hcm⟩ := hnc
    unfold maxLen at hcm
    go_enter Try.func30, Try.ntmps30
    go_wp2
    go_loopw [6] (fun i wr => ∃ (k : Nat) (ds' : List EvV) (es' : List Ev), k ≤ n ∧ i = .int .i64 k ∧ Hid (ds'.length = n) ∧ Hid (EvsO ok wr (.slice (some ⟨g, 0, none⟩) n c) ds' es') ∧ Hid (Keeps ok w wr)) (fun i _ => n - (intOf i).toNat)
    case atStart => exact ⟨0, ds, es, Nat.zero_le _, rfl, Lib.hid hdn, HR, Lib.hid (Keeps.refl _ _)⟩
    case round =>
      clear HR hdn
      obtain ⟨k, ds', es', hk, rfl, HD, HR, HK⟩ := hrel
      rcases Nat.lt_or_ge k n with hlt | hge
      · have hkd : k < ds'.length := by rw [HD.out]; exact hlt
        obtain ⟨m, em⟩ : ∃ m, m = ds'[k].n := ⟨_, rfl⟩
        obtain ⟨cm, ecm⟩ : ∃ cm, cm = ds'[k].c := ⟨_, rfl⟩
        obtain ⟨At, eAt⟩ : ∃ At, At = ds'[k].A := ⟨_, rfl⟩
        have EM := Lib.hid em; clear em
        have EC := Lib.hid ecm; clear ecm
        have EA := Lib.hid eAt; clear eAt
        have hm5 : m ≤ 140737488355328 ∧ m ≤ cm ∧ cm ≤ maxLen := by
          have ht := (HR.out.each k hkd (by rw [← HR.out.len]; exact hkd)).2.2.2.2.r
          rw [EM.out, EC.out]
          exact ⟨ht.2.2.2.2.2, ht.2.2.1, ht.2.2.2.1⟩
        obtain ⟨m1, m2, m3⟩ := hm5
        unfold maxLen at m3
        have c1 := (HR.out.row.five k hkd).2.1
        rw [← EM.out, ← EC.out, ← EA.out] at c1
        have hlt' : (k : Int) < (n : Int) := by omega
        go_wp2_with (fail)
        go_loopw [15] (fun j wi => ∃ (q : Nat) (es2 : List Ev), q ≤ m ∧ j = .int .i64 q ∧ Hid (EvsO ok wi (.slice (some ⟨g, 0, none⟩) n c) ds' es2) ∧ Hid (Keeps ok w wi)) (fun j _ => m - (intOf j).toNat)
        case atStart => exact ⟨0, es', Nat.zero_le _, rfl, HR, HK⟩
        case round =>
          clear HR HK c1
          obtain ⟨q, es2, hq, rfl, HR, HK⟩ := hrel
          have c1 := (HR.out.row.five k hkd).2.1
          have c2 := (HR.out.row.five k hkd).2.2.1
          have fr := HR.out.row.free (k * 5 + 2)
          rw [← EM.out, ← EC.out, ← EA.out] at c1
          rcases Nat.lt_or_ge q m with hqm | hqm
          · have he2 : k < es2.length := by rw [← HR.out.len]; exact hkd
            have ht := (HR.out.each k hkd he2).2.2.2.2
            rw [← EM.out, ← EC.out, ← EA.out] at ht
            obtain ⟨h, rfl⟩ : ∃ h, At = some ⟨h, 0, none⟩ := by
              rcases ht.2.1.2 with ⟨hh, h1⟩ | ⟨h, _, _, hv, _⟩
              · rw [List.length_map, ht.1] at h1; omega
              · injection hv with hv _ _
                exact ⟨h, hv⟩
            have b0 := ht.2.1.cell q (by rw [ht.1]; exact hqm)
            have bf := ht.2.1.free q
            obtain ⟨x, ex⟩ : ∃ x, x = (es2[k].t[q]'(by rw [ht.1]; exact hqm)).toNat := ⟨_, rfl⟩
            unfold bv at b0
            rw [← ex] at b0
            have hok := ht.2.2.1 _ rfl
            clear ex
            have HT := Lib.hid ht; clear ht c2 fr
            have hqm' : (q : Int) < (m : Int) := by omega
            go_wp2_with (fail)
            obtain ⟨b', eb⟩ := u8_bv ((x : Int) + 1)
            rw [eb]
            obtain ⟨es3, h3⟩ := HR.out.poke k hkd h EA.out.symm q b'
            have H3 := Lib.hid h3; clear h3
            have K3 := Lib.hid (HK.out.trans (Keeps.set ok wr ⟨h, q, none⟩ (bv b') hok))
            go_roundw
            case rel => exact ⟨q + 1, es3, by omega, by go_num, H3, K3⟩
            case measure => simp [intOf]; omega
          · obtain rfl : m = q := by omega
            go_wp2_with (fail)
            obtain ⟨ds3, es3, h3, l3⟩ := HR.out.setX k hkd (bits BinOp.xor IntKind.i64 ds'[k].x 1)
            have H3 := Lib.hid h3; clear h3
            have L3 : Hid (ds3.length = n) := Lib.hid (l3.trans HD.out)
            have K3 := Lib.hid (HK.out.trans (Keeps.set ok wr ⟨g, k * 5 + 2, none⟩ (.int .i64 (bits BinOp.xor IntKind.i64 ds'[k].x 1)) (HR.out.ok_ g rfl)))
            go_roundw
            case rel => exact ⟨k + 1, ds3, es3, by omega, by go_num, L3, H3, K3⟩
            case measure => simp [intOf]; omega
      · obtain rfl : n = k := by omega
        go_wp2_with (fail)
        go_end0
        exact ⟨rfl, HK.out⟩
end Go.Proofs.Ytgnciejbhaebeaa

/- A queue, an inbox and the reference's two side by side: what each call leaves of all four, and of blocks F that are none of theirs. Conditions: blocks parted. -/
namespace Go.Proofs.Ytgnciejbhaebeaa
open Go Go.RowKit

/-- The four, their blocks parted; what was there ahead of w0's end stays; the blocks F are none of theirs. -/
structure KS (F : Nat → Prop) (w0 : World) (q b m c came came2 got got2 : Nat) (es all : List Ev) (own1 own2 : Nat → Prop) (v1 v2 : Value) (d1 d2 : List EvV) (wr : World) : Prop where
  qu : Qu own1 wr q came v1 d1 es
  rq : RQ own2 wr m came2 v2 d2 all
  ib : Ib wr b got
  ri : RI wr c got2
  bel : Below w0.heap.size w0 wr
  dis : q ≠ b ∧ q ≠ m ∧ q ≠ c ∧ b ≠ m ∧ b ≠ c ∧ m ≠ c
  ge : w0.heap.size ≤ q ∧ w0.heap.size ≤ b ∧ w0.heap.size ≤ m ∧ w0.heap.size ≤ c
  p1 : ∀ j, own1 j → w0.heap.size ≤ j ∧ j < wr.heap.size ∧ j ≠ q ∧ j ≠ b ∧ j ≠ m ∧ j ≠ c ∧ ¬ own2 j
  p2 : ∀ j, own2 j → w0.heap.size ≤ j ∧ j < wr.heap.size ∧ j ≠ q ∧ j ≠ b ∧ j ≠ m ∧ j ≠ c
  fr : ∀ j, F j → w0.heap.size ≤ j ∧ j < wr.heap.size ∧ ¬ own1 j ∧ ¬ own2 j ∧ j ≠ q ∧ j ≠ b ∧ j ≠ m ∧ j ≠ c
def KSF (F : Nat → Prop) (w0 : World) (q b m c came came2 got got2 : Nat) (es all : List Ev) (wr : World) : Prop := ∃ own1 own2 v1 v2 d1 d2, KS F w0 q b m c came came2 got got2 es all own1 own2 v1 v2 d1 d2 wr
/-- The blocks made between two worlds. -/
def Fresh (w w' : World) (j : Nat) : Prop := w.heap.size ≤ j ∧ j < w'.heap.size
/-- The blocks F stay. -/
def Kf (F : Nat → Prop) (w w' : World) : Prop := w.heap.size ≤ w'.heap.size ∧ ∀ j, F j → w'.heap[j]? = w.heap[j]?
theorem Kf.of_below {F : Nat → Prop} {w w' : World} (hb : Below w.heap.size w w') (hF : ∀ j, F j → j < w.heap.size) : Kf F w w' := ⟨hb.size, fun j hj => hb.block j (hF j hj)⟩
section
variable {F : Nat → Prop} {w0 wr w' : World} {q b m c came came2 got got2 : Nat} {es all : List Ev}
theorem KSF.bel (h : KSF F w0 q b m c came came2 got got2 es all wr) : Below w0.heap.size w0 wr := by
  obtain ⟨own1, own2, v1, v2, d1, d2, h⟩ := h
  exact h.bel
/-- What makes memory alone leaves all four. -/
theorem KSF.below {G : Nat → Prop} (h : KSF F w0 q b m c came came2 got got2 es all wr) (hb : Below wr.heap.size wr w') (hG : ∀ j, G j → F j ∨ Fresh wr w' j) : KSF G w0 q b m c came came2 got got2 es all w' := by
  obtain ⟨own1, own2, v1, v2, d1, d2, h⟩ := h
  have hs := hb.size
  refine ⟨own1, own2, v1, v2, d1, d2, h.qu.below hb, h.rq.below hb, h.ib.below hb, h.ri.below hb, h.bel.trans (hb.mono h.bel.size), h.dis, h.ge,
    fun j hj => by have := h.p1 j hj; exact ⟨this.1, by omega, this.2.2⟩, fun j hj => by have := h.p2 j hj; exact ⟨this.1, by omega, this.2.2⟩, fun j hj => ?_⟩
  rcases hG j hj with hj | hj
  · have := h.fr j hj; exact ⟨this.1, by omega, this.2.2⟩
  · have a0 := hj.1; have a1 := h.qu.lt; have a2 := h.ib.lt; have a3 := h.rq.lt; have a4 := h.ri.lt; have a5 := h.bel.size
    exact ⟨by omega, hj.2, fun e => by have := (h.p1 j e).2.1; omega, fun e => by have := (h.p2 j e).2.1; omega, by omega, by omega, by omega, by omega⟩
theorem KSF.same (h : KSF F w0 q b m c came came2 got got2 es all wr) (hb : Below wr.heap.size wr w') : KSF F w0 q b m c came came2 got got2 es all w' := h.below hb (fun _ hj => .inl hj)
theorem KSF.fresh (h : KSF F w0 q b m c came came2 got got2 es all wr) (hb : Below wr.heap.size wr w') : KSF (Fresh wr w') w0 q b m c came came2 got got2 es all w' := h.below hb (fun _ hj => .inr hj)
theorem KSF.weak {G : Nat → Prop} (h : KSF F w0 q b m c came came2 got got2 es all wr) (hG : ∀ j, G j → F j) : KSF G w0 q b m c came came2 got got2 es all wr := h.below (Below.refl _ _) (fun j hj => .inl (hG j hj))
theorem KSF.lt (h : KSF F w0 q b m c came came2 got got2 es all wr) : ∀ j, F j → j < wr.heap.size := by
  obtain ⟨own1, own2, v1, v2, d1, d2, h⟩ := h
  exact fun j hj => (h.fr j hj).2.1
theorem KSF.drewN (h : KSF F w0 q b m c came came2 got got2 es all wr) (n : Nat) : KSF F w0 q b m c came came2 got got2 es all (wr.drewN n) := h.same (below_drewN (Below.refl _ _) n)
/-- What is written into the blocks F leaves all four. -/
theorem KSF.keeps (h : KSF F w0 q b m c came came2 got got2 es all wr) (hk : Keeps F wr w') : KSF F w0 q b m c came came2 got got2 es all w' := by
  obtain ⟨own1, own2, v1, v2, d1, d2, h⟩ := h
  have hs := hk.size
  have blk : ∀ j, j < wr.heap.size → ¬ F j → w'.heap[j]? = wr.heap[j]? := hk.block
  refine ⟨own1, own2, v1, v2, d1, d2, h.qu.keep (blk q h.qu.lt (fun e => (h.fr q e).2.2.2.2.1 rfl)) (fun j hj hl => blk j hl (fun e => (h.fr j e).2.2.1 hj)),
    h.rq.keep (blk m h.rq.lt (fun e => (h.fr m e).2.2.2.2.2.2.1 rfl)) (fun j hj hl => blk j hl (fun e => (h.fr j e).2.2.2.1 hj)), h.ib.keep (blk b h.ib.lt (fun e => (h.fr b e).2.2.2.2.2.1 rfl)),
    (blk c h.ri.lt (fun e => (h.fr c e).2.2.2.2.2.2.2 rfl)).trans h.ri, ?_, h.dis, h.ge,
    fun j hj => by have := h.p1 j hj; exact ⟨this.1, by omega, this.2.2⟩, fun j hj => by have := h.p2 j hj; exact ⟨this.1, by omega, this.2.2⟩, fun j hj => by have := h.fr j hj; exact ⟨this.1, by omega, this.2.2⟩⟩
  exact h.bel.trans (hk.below (fun j hj => ⟨Nat.lt_of_lt_of_le hj h.bel.size, fun e => by have := (h.fr j e).1; omega⟩))
theorem KSF.cells (h : KSF F w0 q b m c came came2 got got2 es all wr) : (∃ A3 c3, wr.cell? ⟨m, 0, none⟩ = some (.slice A3 all.length c3)) ∧ wr.cell? ⟨c, 0, none⟩ = some (.int .u64 (got2 : Int)) := by
  obtain ⟨own1, own2, v1, v2, d1, d2, h⟩ := h
  obtain ⟨A3, c3, e3, -⟩ := h.rq.form
  exact ⟨⟨A3, c3, by rw [h.rq.c0, e3]⟩, RI.cell h.ri⟩

theorem push_k (h : KSF F w0 q b m c came came2 got got2 es all wr) (hu : U63 came) (hl : es.length ≤ 1000000000)
    (ok : Nat → Prop) (k x y b' : Int) (A : Option Addr) (n c' : Nat) (t : List UInt8) (ht : TxtR ok wr A n c' t) (N er : Nat) (es' : List Ev) (hp : pushR came es ⟨k, t, x, y, b'⟩ = (N, er, es')) :
    Calls Try.prog 26 #[.pointer (some ⟨q, 0, none⟩), .agg #[.int .i64 k, .slice A n c', .int .i64 x, .int .i64 y, .int .i64 b']] wr fun r w' =>
      r = .returned (.tuple #[.int .u64 (N : Int), .int .i64 (er : Int)]) ∧ KSF F w0 q b m c came came2 got got2 es' all w' ∧ Kf F wr w' := by
  obtain ⟨own1, own2, v1, v2, d1, d2, h⟩ := h
  refine (Push_c own1 q came v1 d1 es wr h.qu hu hl ok k x y b' A n c' t ht).mono ?_
  rintro r w' ⟨hr, ⟨v', ds', hQ⟩, hK⟩
  rw [hp] at hr hQ
  have hs := hK.size
  obtain ⟨e1, e2, e3, e4, e5, e6⟩ := h.dis
  obtain ⟨g1, g2, g3, g4⟩ := h.ge
  have blk : ∀ j, j < wr.heap.size → j ≠ q → ¬ own1 j → w'.heap[j]? = wr.heap[j]? := fun j hj h1 h2 => hK.block j hj (fun e => by rcases e with e | e; exact h1 e; exact h2 e)
  have nb : ¬ own1 b := fun e => (h.p1 b e).2.2.2.1 rfl
  have nm : ¬ own1 m := fun e => (h.p1 m e).2.2.2.2.1 rfl
  have nc : ¬ own1 c := fun e => (h.p1 c e).2.2.2.2.2.1 rfl
  have hQ2 : Qu (fun j => (own1 j ∨ wr.heap.size ≤ j) ∧ j < w'.heap.size) w' q came v' ds' es' := ⟨hQ.row, hQ.evs.weak (fun j hj hl => ⟨hj, hl⟩), fun e => hQ.ne e.1⟩
  refine ⟨hr, ⟨_, own2, v', v2, ds', d2, hQ2, h.rq.keep (blk m h.rq.lt (Ne.symm e2) nm) (fun j hj hl => blk j hl (h.p2 j hj).2.2.1 (fun e => (h.p1 j e).2.2.2.2.2.2 hj)), h.ib.keep (blk b h.ib.lt (Ne.symm e1) nb), (blk c h.ri.lt (Ne.symm e3) nc).trans h.ri, ?_, h.dis, h.ge, fun j hj => ?_, fun j hj => ?_, fun j hj => ?_⟩, hs, fun j hj => hK.block j (h.fr j hj).2.1 (fun e => by
    rcases e with e | e
    · exact (h.fr j hj).2.2.2.2.1 e
    · exact (h.fr j hj).2.2.1 e)⟩
  · exact h.bel.trans (hK.below (fun j hj => ⟨Nat.lt_of_lt_of_le hj h.bel.size, fun e => by
      rcases e with e | e
      · omega
      · have := (h.p1 j e).1; omega⟩))
  · obtain ⟨h1 | h1, h2⟩ := hj
    · have := h.p1 j h1
      exact ⟨this.1, h2, this.2.2⟩
    · have a1 := h.qu.lt; have a2 := h.ib.lt; have a3 := h.rq.lt; have a4 := h.ri.lt; have a5 := h.bel.size
      exact ⟨by omega, h2, by omega, by omega, by omega, by omega, fun e => by have := (h.p2 j e).2.1; omega⟩
  · have := h.p2 j hj
    exact ⟨this.1, by omega, this.2.2⟩
  · have := h.fr j hj
    exact ⟨this.1, by omega, fun e => (by obtain ⟨e | e, _⟩ := e; exact this.2.2.1 e; omega), this.2.2.2.1, this.2.2.2.2⟩
theorem rpush_k (h : KSF F w0 q b m c came came2 got got2 es all wr) (hcl : came2 ≤ all.length) (hl : all.length ≤ 1000000000)
    (ok : Nat → Prop) (k x y b' : Int) (A : Option Addr) (n c' : Nat) (t : List UInt8) (ht : TxtR ok wr A n c' t) (N er : Nat) (all' : List Ev) (hp : rpushR came2 all ⟨k, t, x, y, b'⟩ = (N, er, all')) :
    Calls Try.prog 29 #[.pointer (some ⟨m, 0, none⟩), .agg #[.int .i64 k, .slice A n c', .int .i64 x, .int .i64 y, .int .i64 b']] wr fun r w' =>
      r = .returned (.tuple #[.int .u64 (N : Int), .int .i64 (er : Int)]) ∧ KSF F w0 q b m c came came2 got got2 es all' w' ∧ Kf F wr w' := by
  obtain ⟨own1, own2, v1, v2, d1, d2, h⟩ := h
  refine (refPush_c own2 m came2 v2 d2 all wr h.rq (fun j hj => (h.p2 j hj).2.1) hcl hl ok k x y b' A n c' t ht).mono ?_
  rintro r w' ⟨hr, ⟨v', ds', hQ⟩, hK⟩
  rw [hp] at hr hQ
  have hs := hK.size
  obtain ⟨e1, e2, e3, e4, e5, e6⟩ := h.dis
  obtain ⟨g1, g2, g3, g4⟩ := h.ge
  have blk : ∀ j, j < wr.heap.size → j ≠ m → ¬ own2 j → w'.heap[j]? = wr.heap[j]? := fun j hj h1 h2 => hK.block j hj (fun e => by rcases e with e | e; exact h1 e; exact h2 e)
  have nq : ¬ own2 q := fun e => (h.p2 q e).2.2.1 rfl
  have nb : ¬ own2 b := fun e => (h.p2 b e).2.2.2.1 rfl
  have nc : ¬ own2 c := fun e => (h.p2 c e).2.2.2.2.2 rfl
  have hQ2 : RQ (fun j => (own2 j ∨ wr.heap.size ≤ j) ∧ j < w'.heap.size) w' m came2 v' ds' all' := ⟨hQ.row, hQ.evs.weak (fun j hj hl => ⟨hj, hl⟩), fun e => hQ.ne e.1⟩
  refine ⟨hr, ⟨own1, _, v1, v', d1, ds', h.qu.keep (blk q h.qu.lt e2 nq) (fun j hj hl => blk j hl (h.p1 j hj).2.2.2.2.1 (h.p1 j hj).2.2.2.2.2.2), hQ2, h.ib.keep (blk b h.ib.lt e4 nb), (blk c h.ri.lt (Ne.symm e6) nc).trans h.ri, ?_, h.dis, h.ge, fun j hj => ?_, fun j hj => ?_, fun j hj => ?_⟩, hs, fun j hj => hK.block j (h.fr j hj).2.1 (fun e => by
    rcases e with e | e
    · exact (h.fr j hj).2.2.2.2.2.2.1 e
    · exact (h.fr j hj).2.2.2.1 e)⟩
  · exact h.bel.trans (hK.below (fun j hj => ⟨Nat.lt_of_lt_of_le hj h.bel.size, fun e => by
      rcases e with e | e
      · omega
      · have := (h.p2 j e).1; omega⟩))
  · have := h.p1 j hj
    refine ⟨this.1, by omega, this.2.2.1, this.2.2.2.1, this.2.2.2.2.1, this.2.2.2.2.2.1, fun e => ?_⟩
    rcases e.1 with e' | e'
    · exact this.2.2.2.2.2.2 e'
    · omega
  · obtain ⟨h1 | h1, h2⟩ := hj
    · have := h.p2 j h1
      exact ⟨this.1, h2, this.2.2⟩
    · have a1 := h.qu.lt; have a2 := h.ib.lt; have a3 := h.rq.lt; have a4 := h.ri.lt; have a5 := h.bel.size
      exact ⟨by omega, h2, by omega, by omega, by omega, by omega⟩
  · have := h.fr j hj
    exact ⟨this.1, by omega, this.2.2.1, fun e => (by obtain ⟨e | e, _⟩ := e; exact this.2.2.2.1 e; omega), this.2.2.2.2⟩
theorem ack_k (h : KSF F w0 q b m c came came2 got got2 es all wr) (hu : U63 came) (hl : es.length ≤ 1000000000) (x : Nat) (hx : U64 x) (N gt : Nat) (es' : List Ev) (hp : ackR came es x = (N, gt, es')) :
    Calls Try.prog 27 #[.pointer (some ⟨q, 0, none⟩), .int .u64 x] wr fun r w' => r = .returned (.int .i64 (N : Int)) ∧ KSF F w0 q b m c gt came2 got got2 es' all w' ∧ Kf F wr w' := by
  obtain ⟨own1, own2, v1, v2, d1, d2, h⟩ := h
  refine (Ack_c own1 q came v1 d1 es wr h.qu hu hl x hx).mono ?_
  rintro r w' ⟨hr, ⟨v', ds', hQ⟩, hK⟩
  rw [hp] at hr hQ
  have hs := hK.size
  obtain ⟨e1, e2, e3, e4, e5, e6⟩ := h.dis
  obtain ⟨g1, g2, g3, g4⟩ := h.ge
  have blk : ∀ j, j < wr.heap.size → j ≠ q → w'.heap[j]? = wr.heap[j]? := fun j hj h1 => hK.block j hj h1
  have hQ2 : Qu (fun j => (own1 j ∨ wr.heap.size ≤ j) ∧ j < w'.heap.size) w' q gt v' ds' es' := ⟨hQ.row, hQ.evs.weak (fun j hj hl => ⟨hj, hl⟩), fun e => hQ.ne e.1⟩
  refine ⟨hr, ⟨_, own2, v', v2, ds', d2, hQ2, h.rq.keep (blk m h.rq.lt (Ne.symm e2)) (fun j hj hl => blk j hl (h.p2 j hj).2.2.1), h.ib.keep (blk b h.ib.lt (Ne.symm e1)), (blk c h.ri.lt (Ne.symm e3)).trans h.ri, ?_, h.dis, h.ge, fun j hj => ?_, fun j hj => ?_, fun j hj => ?_⟩, hs, fun j hj => hK.block j (h.fr j hj).2.1 (h.fr j hj).2.2.2.2.1⟩
  · exact h.bel.trans (hK.below (fun j hj => ⟨Nat.lt_of_lt_of_le hj h.bel.size, by omega⟩))
  · obtain ⟨h1 | h1, h2⟩ := hj
    · have := h.p1 j h1
      exact ⟨this.1, h2, this.2.2⟩
    · have a1 := h.qu.lt; have a2 := h.ib.lt; have a3 := h.rq.lt; have a4 := h.ri.lt; have a5 := h.bel.size
      exact ⟨by omega, h2, by omega, by omega, by omega, by omega, fun e => by have := (h.p2 j e).2.1; omega⟩
  · have := h.p2 j hj
    exact ⟨this.1, by omega, this.2.2⟩
  · have := h.fr j hj
    exact ⟨this.1, by omega, fun e => (by obtain ⟨e | e, _⟩ := e; exact this.2.2.1 e; omega), this.2.2.2.1, this.2.2.2.2⟩
theorem rack_k (h : KSF F w0 q b m c came came2 got got2 es all wr) (hcl : came2 ≤ all.length) (hl : all.length ≤ 1000000000) (x : Nat) (hx : U64 x) (N gt : Nat) (hp : rackR came2 all x = (N, gt)) :
    Calls Try.prog 31 #[.pointer (some ⟨m, 0, none⟩), .int .u64 x] wr fun r w' => r = .returned (.int .i64 (N : Int)) ∧ KSF F w0 q b m c came gt got got2 es all w' ∧ Kf F wr w' := by
  obtain ⟨own1, own2, v1, v2, d1, d2, h⟩ := h
  refine (refAck_c own2 m came2 v2 d2 all wr h.rq hcl hl x hx).mono ?_
  rintro r w' ⟨hr, hQ, hK⟩
  rw [hp] at hr hQ
  have hs := hK.size
  obtain ⟨e1, e2, e3, e4, e5, e6⟩ := h.dis
  obtain ⟨g1, g2, g3, g4⟩ := h.ge
  have blk : ∀ j, j < wr.heap.size → j ≠ m → w'.heap[j]? = wr.heap[j]? := fun j hj h1 => hK.block j hj h1
  refine ⟨hr, ⟨own1, own2, v1, v2, d1, d2, h.qu.keep (blk q h.qu.lt e2) (fun j hj hl => blk j hl (h.p1 j hj).2.2.2.2.1), hQ, h.ib.keep (blk b h.ib.lt e4), (blk c h.ri.lt (Ne.symm e6)).trans h.ri, ?_, h.dis, h.ge, fun j hj => ?_, fun j hj => ?_, fun j hj => ?_⟩, hs, fun j hj => hK.block j (h.fr j hj).2.1 (h.fr j hj).2.2.2.2.2.2.1⟩
  · exact h.bel.trans (hK.below (fun j hj => ⟨Nat.lt_of_lt_of_le hj h.bel.size, by omega⟩))
  · have := h.p1 j hj; exact ⟨this.1, by omega, this.2.2⟩
  · have := h.p2 j hj; exact ⟨this.1, by omega, this.2.2⟩
  · have := h.fr j hj
    exact ⟨this.1, by omega, this.2.2.1, this.2.2.2.1, this.2.2.2.2⟩
theorem take_k (h : KSF F w0 q b m c came came2 got got2 es all wr) (ok : Nat → Prop) (hg : U63 got) (base : Nat) (hu : U64 base) (A : Option Addr) (n k : Nat) (ds : List EvV) (ev : List Ev) (hn : ev.length = n) (hr : EvsR ok wr A ds ev) (hc : n ≤ k) (hm : k ≤ maxLen) (hl : n ≤ 140737488355328) :
    Calls Try.prog 32 #[.pointer (some ⟨b, 0, none⟩), .int .u64 base, .slice A n k] wr fun r w' => ∃ v, r = .returned (.tuple #[v, .int .i64 ((takeR got base ev).2.1 : Int)]) ∧ Evs (wr.heap.size ≤ ·) w' v (takeR got base ev).1 ∧ KSF (fun j => F j ∨ Fresh wr w' j) w0 q b m c came came2 (takeR got base ev).2.2 got2 es all w' ∧ Kf F wr w' := by
  obtain ⟨own1, own2, v1, v2, d1, d2, h⟩ := h
  refine (Take24_c ok b got base A n k ds ev wr hg hu h.ib hn hr hc hm hl).mono ?_
  rintro r w' ⟨v, hr, hE, hI, hG⟩
  have hK : Keeps (fun j => j = b) wr w' := Keeps.of_grown hG _ (fun k hk => by injection hk with hk; exact hk.symm)
  have hs := hK.size
  obtain ⟨e1, e2, e3, e4, e5, e6⟩ := h.dis
  obtain ⟨g1, g2, g3, g4⟩ := h.ge
  have blk : ∀ j, j < wr.heap.size → j ≠ b → w'.heap[j]? = wr.heap[j]? := fun j hj h1 => hK.block j hj h1
  refine ⟨v, hr, hE, ⟨own1, own2, v1, v2, d1, d2, h.qu.keep (blk q h.qu.lt e1) (fun j hj hl => blk j hl (h.p1 j hj).2.2.2.1), h.rq.keep (blk m h.rq.lt (Ne.symm e4)) (fun j hj hl => blk j hl (h.p2 j hj).2.2.2.1), hI, (blk c h.ri.lt (Ne.symm e5)).trans h.ri, ?_, h.dis, h.ge, fun j hj => ?_, fun j hj => ?_, fun j hj => ?_⟩, hs, fun j hj => hK.block j (h.fr j hj).2.1 (h.fr j hj).2.2.2.2.2.1⟩
  · exact h.bel.trans (hK.below (fun j hj => ⟨Nat.lt_of_lt_of_le hj h.bel.size, by omega⟩))
  · have := h.p1 j hj; exact ⟨this.1, by omega, this.2.2⟩
  · have := h.p2 j hj; exact ⟨this.1, by omega, this.2.2⟩
  · rcases hj with hj | hj
    · have := h.fr j hj
      exact ⟨this.1, by omega, this.2.2⟩
    · have a0 := hj.1; have a1 := h.qu.lt; have a2 := h.ib.lt; have a3 := h.rq.lt; have a4 := h.ri.lt; have a5 := h.bel.size
      exact ⟨by omega, hj.2, fun e => by have := (h.p1 j e).2.1; omega, fun e => by have := (h.p2 j e).2.1; omega, by omega, by omega, by omega, by omega⟩
theorem rtake_k (h : KSF F w0 q b m c came came2 got got2 es all wr) (ok : Nat → Prop) (hg : U63 got2) (base : Nat) (hu : U64 base) (hokc : ¬ ok c) (A : Option Addr) (n k : Nat) (ds : List EvV) (ev : List Ev) (hn : ev.length = n) (hr : EvsR ok wr A ds ev) (hc : n ≤ k) (hm : k ≤ maxLen) (hl : n ≤ 140737488355328) :
    Calls Try.prog 33 #[.pointer (some ⟨c, 0, none⟩), .int .u64 base, .slice A n k] wr fun r w' => ∃ v, r = .returned (.tuple #[v, .int .i64 ((takeR got2 base ev).2.1 : Int)]) ∧ EvsV (fun j => ok j ∨ wr.heap.size ≤ j) w' v (takeR got2 base ev).1 ∧ KSF F w0 q b m c came came2 got (takeR got2 base ev).2.2 es all w' ∧ Kf F wr w' := by
  obtain ⟨own1, own2, v1, v2, d1, d2, h⟩ := h
  refine (refTake24_c ok c got2 base A n k ds ev wr hg hu h.ri hokc hn hr hc hm hl).mono ?_
  rintro r w' ⟨v, hr, hE, hI, hG⟩
  have hK : Keeps (fun j => j = c) wr w' := Keeps.of_grown hG _ (fun k hk => by injection hk with hk; exact hk.symm)
  have hs := hK.size
  obtain ⟨e1, e2, e3, e4, e5, e6⟩ := h.dis
  obtain ⟨g1, g2, g3, g4⟩ := h.ge
  have blk : ∀ j, j < wr.heap.size → j ≠ c → w'.heap[j]? = wr.heap[j]? := fun j hj h1 => hK.block j hj h1
  refine ⟨v, hr, hE, ⟨own1, own2, v1, v2, d1, d2, h.qu.keep (blk q h.qu.lt e3) (fun j hj hl => blk j hl (h.p1 j hj).2.2.2.2.2.1), h.rq.keep (blk m h.rq.lt e6) (fun j hj hl => blk j hl (h.p2 j hj).2.2.2.2.2), h.ib.keep (blk b h.ib.lt e5), hI, ?_, h.dis, h.ge, fun j hj => ?_, fun j hj => ?_, fun j hj => ?_⟩, hs, fun j hj => hK.block j (h.fr j hj).2.1 (h.fr j hj).2.2.2.2.2.2.2⟩
  · exact h.bel.trans (hK.below (fun j hj => ⟨Nat.lt_of_lt_of_le hj h.bel.size, by omega⟩))
  · have := h.p1 j hj; exact ⟨this.1, by omega, this.2.2⟩
  · have := h.p2 j hj; exact ⟨this.1, by omega, this.2.2⟩
  · have := h.fr j hj
    exact ⟨this.1, by omega, this.2.2.1, this.2.2.2.1, this.2.2.2.2⟩
theorem batch_k (h : KSF F w0 q b m c came came2 got got2 es all wr) (hl : es.length ≤ 1000000000) :
    Calls Try.prog 34 #[.pointer (some ⟨q, 0, none⟩)] wr fun r w' => ∃ v', r = .returned (.tuple #[.int .u64 (came : Int), v']) ∧ Evs (Fresh wr w') w' v' (es.take 16) ∧ KSF (Fresh wr w') w0 q b m c came came2 got got2 es all w' ∧ Below wr.heap.size wr w' := by
  have h0 := h
  obtain ⟨own1, own2, v1, v2, d1, d2, h⟩ := h
  refine (Batch_c own1 q came v1 d1 es wr h.qu hl).mono ?_
  rintro r w' ⟨v', hr, ⟨ds, hE⟩, hb⟩
  exact ⟨v', hr, ⟨ds, hE.weak (fun k h1 h2 => ⟨h1, h2⟩)⟩, h0.fresh hb, hb⟩
theorem rbatch_k (h : KSF F w0 q b m c came came2 got got2 es all wr) (hcl : came2 ≤ all.length) (hl : all.length ≤ 1000000000) :
    Calls Try.prog 35 #[.pointer (some ⟨m, 0, none⟩)] wr fun r w' => ∃ v', r = .returned (.tuple #[.int .u64 (came2 : Int), v']) ∧ EvsV (fun _ => True) w' v' ((all.drop came2).take 16) ∧ ∃ j, w' = wr.drewN j := by
  obtain ⟨own1, own2, v1, v2, d1, d2, h⟩ := h
  refine (refBatch_c own2 m came2 v2 d2 all wr h.rq hcl hl).mono ?_
  rintro r w' ⟨v', hr, ⟨A, k, ds, e1, e2, e3, e4⟩, j, rfl⟩
  exact ⟨v', hr, ⟨A, k, ds, e1, (e2.weak (ok' := fun _ => True) (fun _ _ _ => trivial)).drewN j, e3, e4⟩, j, rfl⟩
theorem accepted_k (h : KSF F w0 q b m c came came2 got got2 es all wr) (hu : U63 came) (hl : es.length ≤ 1000000000) (N : Nat) (hN : came + es.length = N) :
    Calls Try.prog 36 #[.pointer (some ⟨q, 0, none⟩)] wr fun r w' => r = .returned (.int .u64 (N : Int)) ∧ ∃ k, w' = wr.drewN k := by
  obtain ⟨own1, own2, v1, v2, d1, d2, h⟩ := h
  have := Accepted_c own1 q came v1 d1 es wr h.qu hu hl
  rw [hN] at this
  exact this
theorem got_k (h : KSF F w0 q b m c came came2 got got2 es all wr) : Calls Try.prog 37 #[.pointer (some ⟨b, 0, none⟩)] wr fun r w' => r = .returned (.int .u64 (got : Int)) ∧ wr = w' := by
  obtain ⟨own1, own2, v1, v2, d1, d2, h⟩ := h
  exact Got_c b got wr h.ib
end
end Go.Proofs.Ytgnciejbhaebeaa

/- The plain laws of a queue beside its reference: what is answered is the same where the one holds the other's tail. Conditions: none. -/
namespace Go.Proofs.Ytgnciejbhaebeaa
open Go Go.RowKit

theorem push_same {came : Nat} {all : List Ev} (h : came ≤ all.length) (e : Ev) : (pushR came (all.drop came) e).1 = (rpushR came all e).1 ∧ (pushR came (all.drop came) e).2.1 = (rpushR came all e).2.1 ∧
    (pushR came (all.drop came) e).2.2 = (rpushR came all e).2.2.drop came ∧ came ≤ (rpushR came all e).2.2.length ∧ (rpushR came all e).2.2.length ≤ all.length + 1 := by
  unfold pushR rpushR
  rw [List.length_drop]
  split
  · exact ⟨rfl, rfl, rfl, h, Nat.le_succ _⟩
  · split
    · exact ⟨rfl, rfl, rfl, h, Nat.le_succ _⟩
    · exact ⟨(show came + (all.length - came + 1) = all.length + 1 by omega), rfl, (List.drop_append_of_le_length h).symm, (show came ≤ (all ++ [e]).length by rw [List.length_append]; omega), (show (all ++ [e]).length ≤ all.length + 1 by rw [List.length_append]; exact Nat.le_refl _)⟩
theorem ack_same {came : Nat} {all : List Ev} (h : came ≤ all.length) (x : Nat) : (ackR came (all.drop came) x).1 = (rackR came all x).1 ∧ (ackR came (all.drop came) x).2.1 = (rackR came all x).2 ∧
    (ackR came (all.drop came) x).2.2 = all.drop (rackR came all x).2 ∧ (rackR came all x).2 ≤ all.length := by
  unfold ackR rackR
  rw [List.length_drop]
  by_cases hc : x ≤ came ∨ came + (all.length - came) < x
  · rw [if_pos hc, if_pos (by omega : all.length < x ∨ x ≤ came)]
    exact ⟨rfl, rfl, rfl, h⟩
  · rw [if_neg hc, if_neg (by omega : ¬ (all.length < x ∨ x ≤ came))]
    exact ⟨rfl, rfl, (show (all.drop came).drop (x - came) = all.drop x by rw [List.drop_drop]; congr 1; omega), (show x ≤ all.length by omega)⟩
theorem take_grows (got base : Nat) (es : List Ev) : (takeR got base es).2.2 ≤ got + 16 := by
  unfold takeR
  split
  · exact Nat.le_add_right _ _
  · rename_i h
    split
    · exact Nat.le_add_right _ _
    · split
      · exact Nat.le_add_right _ _
      · show got + (es.length - (got - base)) ≤ got + 16
        have : ¬ 16 < es.length := fun e => h (.inr e)
        omega
end Go.Proofs.Ytgnciejbhaebeaa

/- How a law's argument is opened: an event by value; a slice of events. Conditions: none. -/
namespace Go.Proofs.Ytgnciejbhaebeaa
open Go Go.RowKit Go.ChangeShapes Go.WideShapes

/-- The fields of an event's type. -/
structure EvT (P : Program) (t : TypeId) (f0 f1 f2 f3 f4 : Field) (e : TypeId) : Prop where
  hs : P.underlying t = some (.struct #[f0, f1, f2, f3, f4])
  hone : Deep.oneCellFields P #[f0, f1, f2, f3, f4] = true
  hC : P.cellsOf t = 5
  h0 : P.underlying f0.type = some (.int .i64)
  h1 : P.underlying f1.type = some (.slice e)
  h2 : P.underlying f2.type = some (.int .i64)
  h3 : P.underlying f3.type = some (.int .i64)
  h4 : P.underlying f4.type = some (.int .i64)
  he : P.underlying e = some (.int .u8)
  hc : P.cellsOf e = 1
  hb : P.bytesOf e = 1

theorem open_txt {H : Type} {enc : TypeId × Value → H} {P : Program} {W : World} {t e fuel : Nat} {u : Value} {y : DataW H × List MemPlace} (ht : P.underlying t = some (.slice e)) (he : P.underlying e = some (.int .u8)) (hc : P.cellsOf e = 1) (hb : P.bytesOf e = 1)
    (hf : DataW.trod enc P W 0 (fun _ => true) true fuel t [u] = some y) :
    ∃ (A : Option Addr) (m c : Nat) (bs : List UInt8), u = .slice A m c ∧ bs.length = m ∧ Rd W A (bs.map bv) ∧ m ≤ c ∧ c ≤ maxLen ∧ ((∀ n ∈ y.1.weights P t, n ≤ reachBytes) → m ≤ 140737488351232) := by
  rcases open_ints ht he hc hf with ⟨hcs, _⟩ | ⟨x, l, c, zs, hcs, _, hl, hm, hz, hx, hcell, hwz⟩
  · injection hcs with hcs _
    subst hcs
    exact ⟨none, 0, 0, [], rfl, rfl, .inl rfl, Nat.le_refl _, Nat.zero_le _, fun _ => by decide⟩
  · injection hcs with hcs _
    subst hcs
    subst hx
    simp only [if_true] at hz
    obtain ⟨bs, g1, g2⟩ := rd_of_ints (len := l) (by omega) hcell hwz
    refine ⟨some x, l, c, bs, rfl, g1, g2, hl, hm, fun hw => ?_⟩
    have h := hw ((zs.take l).length + (zs.drop l).length) (by
      simp only [DataW.weights, ht, List.mem_cons]
      left
      rw [hb]
      simp [lits])
    simp only [List.length_take, List.length_drop, reachBytes] at h
    omega

theorem open_ev {H : Type} {enc : TypeId × Value → H} {P : Program} {W : World} {t e fuel : Nat} {f0 f1 f2 f3 f4 : Field} (T : EvT P t f0 f1 f2 f3 f4 e) {cs : List Value} {x : DataW H × List MemPlace} (hf : DataW.trod enc P W 0 (fun _ => true) true fuel t cs = some x) :
    ∃ (k : Int) (A : Option Addr) (m c : Nat) (X Y b : Int) (bs : List UInt8), cs = [.int .i64 k, .slice A m c, .int .i64 X, .int .i64 Y, .int .i64 b] ∧ bs.length = m ∧ Rd W A (bs.map bv) ∧ m ≤ c ∧ c ≤ maxLen ∧ ((∀ n ∈ x.1.weights P t, n ≤ reachBytes) → m ≤ 140737488351232) := by
  obtain ⟨ys, n, _, rfl, hl, hlen, hg⟩ := DataW.trod_struct T.hs hf
  rw [T.hC] at hl
  obtain ⟨o0, k0⟩ := Deep.hone_of T.hone 0 f0 rfl
  obtain ⟨o1, k1⟩ := Deep.hone_of T.hone 1 f1 rfl
  obtain ⟨o2, k2⟩ := Deep.hone_of T.hone 2 f2 rfl
  obtain ⟨o3, k3⟩ := Deep.hone_of T.hone 3 f3 rfl
  obtain ⟨o4, k4⟩ := Deep.hone_of T.hone 4 f4 rfl
  match cs, hl, ys, hlen with
  | [u0, u1, u2, u3, u4], _, [y0, y1, y2, y3, y4], _ =>
    have g0 := hg 0 f0 rfl
    have g1 := hg 1 f1 rfl
    have g2 := hg 2 f2 rfl
    have g3 := hg 3 f3 rfl
    have g4 := hg 4 f4 rfl
    rw [o0, k0] at g0
    rw [o1, k1] at g1
    rw [o2, k2] at g2
    rw [o3, k3] at g3
    rw [o4, k4] at g4
    obtain ⟨a0, e0, _, _⟩ := DataW.trod_int T.h0 g0
    obtain ⟨a2, e2, _, _⟩ := DataW.trod_int T.h2 g2
    obtain ⟨a3, e3, _, _⟩ := DataW.trod_int T.h3 g3
    obtain ⟨a4, e4, _, _⟩ := DataW.trod_int T.h4 g4
    obtain ⟨A, m, c, bs, eu, q1, q2, q3, q4, q5⟩ := open_txt T.h1 T.he T.hc T.hb g1
    simp at e0 e2 e3 e4
    subst e0 e2 e3 e4 eu
    refine ⟨a0, A, m, c, a2, a3, a4, bs, rfl, q1, q2, q3, q4, fun hw => q5 (fun n hn => hw n ?_)⟩
    simp only [DataW.weights, T.hs]
    exact DataW.weights_mem_each (j := 1) (t := f1.type) (d := y1.1) (by simp) (by simp) n hn

theorem opn_ev {H : Type} {enc : TypeId × Value → H} {P : Program} {W : World} {base t e j : Nat} {f0 f1 f2 f3 f4 : Field} (T : EvT P t f0 f1 f2 f3 f4 e) {v : Value} {d : DataW H} {p : List MemPlace} {ts : List TypeId} {ds : List (DataW H)}
    (hv : Value.okWide P W .any base t v) (hj : DataW.Trod enc P W 0 (fun _ => true) true t v d p) (hsz : (DataW.weightsEach P ts ds).all (· ≤ reachBytes) = true) (k1 : ts[j]? = some t) (k2 : ds[j]? = some d) :
    ∃ (k : Int) (A : Option Addr) (n c : Nat) (x y b : Int) (bs : List UInt8), v = .agg #[.int .i64 k, .slice A n c, .int .i64 x, .int .i64 y, .int .i64 b] ∧ (bs.length = n ∧ Rd W A (bs.map bv) ∧ n ≤ c ∧ c ≤ maxLen ∧ n ≤ 140737488351232) := by
  obtain ⟨cs, rfl, hsz2⟩ := okWide_struct T.hs hv
  obtain ⟨fuel, hf⟩ := hj
  obtain ⟨k, A, m, c, x, y, b, bs, hcs, q1, q2, q3, q4, q5⟩ := open_ev T hf
  refine ⟨k, A, m, c, x, y, b, bs, ?_, q1, q2, q3, q4, q5 (fun n hn => ?_)⟩
  · congr 1
    apply Array.ext'
    simpa [Value.cells] using hcs
  · exact of_decide_eq_true (List.all_eq_true.1 hsz n (DataW.weights_mem_each k1 k2 n hn))

theorem opn_evs {H : Type} {enc : TypeId × Value → H} {P : Program} {W : World} {base t et e j : Nat} {f0 f1 f2 f3 f4 : Field} (ht : P.underlying t = some (.slice et)) (hB : P.bytesOf et = 56) (T : EvT P et f0 f1 f2 f3 f4 e) {v : Value} {d : DataW H} {p : List MemPlace} {ts : List TypeId} {ds : List (DataW H)}
    (hv : Value.okWide P W .any base t v) (hj : DataW.Trod enc P W 0 (fun _ => true) true t v d p) (hsz : (DataW.weightsEach P ts ds).all (· ≤ reachBytes) = true) (k1 : ts[j]? = some t) (k2 : ds[j]? = some d) :
    ∃ (A : Option Addr) (n c : Nat) (dv : List EvV) (es : List Ev), v = .slice A n c ∧ (es.length = n ∧ EvsR (· < W.heap.size) W A dv es ∧ n ≤ c ∧ c ≤ maxLen ∧ n ≤ 2513169434843) := by
  obtain ⟨a0, len, cap, rfl⟩ := okWide_slice ht hv
  obtain ⟨fuel, hf⟩ := hj
  rcases Deep.open_slice ht hf with ⟨hcs, _⟩ | ⟨a, l, c, m, n, D, Pl, hcs, _, hl, hm, hmm, hx, hcell⟩
  · simp [Value.cells] at hcs
    obtain ⟨rfl, rfl, rfl⟩ := hcs
    exact ⟨none, 0, 0, [], [], rfl, rfl, ⟨rfl, .inl rfl, fun _ a e => (by cases e), fun i h => absurd h (by simp)⟩, Nat.le_refl _, Nat.zero_le _, by decide⟩
  · simp [Value.cells] at hcs
    obtain ⟨rfl, rfl, rfl⟩ := hcs
    simp only [if_true] at hmm
    subst hmm
    simp only [Prod.mk.injEq] at hx
    obtain ⟨rfl, _⟩ := hx
    have hb := sized_slice hsz k1 k2 ht
    rw [hB] at hb
    simp only [List.length_map, List.length_range, reachBytes] at hb
    have each : ∀ i, i < len → ∃ z : EvV × Ev, (∀ q (hq : q < 5), W.cell? (a.add (i * 5 + q)) = (z.1.cells)[q]?) ∧ EvR (· < W.heap.size) W z.1 z.2 := by
      intro i hi
      obtain ⟨cs', g1, g2⟩ := hcell i (by omega)
      rw [T.hC] at g1
      obtain ⟨_, hlen, hg⟩ := World.cells?_some g1
      obtain ⟨k, A, m', c', x, y, b, bs, hcs, q1, q2, q3, q4, q5⟩ := open_ev T g2
      have hm' : m' ≤ 140737488351232 := q5 (fun n hn => of_decide_eq_true (List.all_eq_true.1 hsz n (DataW.weights_mem_each k1 k2 n (by
        simp only [DataW.weights, ht, List.mem_cons, List.mem_append]
        exact Or.inr (Or.inl (weightsAll_mem (List.mem_map.2 ⟨i, List.mem_range.2 hi, rfl⟩) n hn))))))
      refine ⟨(⟨k, A, m', c', x, y, b⟩, ⟨k, bs, x, y, b⟩), fun q hq => ?_, rfl, rfl, rfl, rfl, q1, q2, q3, q4, fun h0 a' e => ?_, (show m' ≤ 140737488355328 by omega)⟩
      · rw [← Deep.add_add]
        subst hcs
        have := hg q (by simpa using hq)
        rw [this]
        rfl
      · rcases q2 with h | ⟨b', off, rfl, hb', _⟩
        · have h0' : 0 < m' := h0
          have : bs = [] := by simpa using h
          rw [this, List.length_nil] at q1
          omega
        · injection e with e; subst e; exact hb'
    obtain ⟨zs, hz1, hz2⟩ := list_of_all len each
    have hcellz : ∀ i (hi : i < zs.length) q, q < 5 → W.cell? (a.add (i * 5 + q)) = (cellsV (zs.map (·.1)))[i * 5 + q]? := by
      intro i hi q hq
      rw [cellsV_get _ i (by simpa using hi) q hq, (hz2 i hi).1 q hq]
      simp
    have hblk : 0 < len → a.spot = none ∧ a.block < W.heap.size := by
      intro h0
      have h := hcellz 0 (by omega) 0 (by decide)
      have hc0 : (cellsV (zs.map (·.1)))[0 * 5 + 0]? ≠ none := by
        rw [List.getElem?_eq_getElem (by rw [cellsV_length, List.length_map]; omega)]
        simp
      have h2 : ∃ u, W.cell? a = some u := by
        have e1 : a.add (0 * 5 + 0) = a := by simp [Addr.add]
        rw [e1] at h
        rw [← h] at hc0
        exact Option.ne_none_iff_exists'.1 hc0
      obtain ⟨u, hu⟩ := h2
      exact ⟨World.cell?_spot hu, World.block_lt_of_cell? W a hu⟩
    refine ⟨some a, len, _, zs.map (·.1), zs.map (·.2), rfl, by simpa using hz1, ⟨by simp, ?_, fun h0 a' e => ?_, fun i h1 h2 => ?_⟩, hl, hm, by omega⟩
    · rcases Nat.eq_zero_or_pos len with h0 | h0
      · left
        have : zs = [] := List.eq_nil_of_length_eq_zero (by omega)
        rw [this]; rfl
      · obtain ⟨hsp, hlt⟩ := hblk h0
        obtain ⟨b, off, spot⟩ := a
        simp only at hsp
        subst hsp
        refine .inr ⟨b, off, rfl, hlt, fun k hk => ?_⟩
        have hk' : k < zs.length * 5 := by rw [cellsV_length] at hk; simpa using hk
        have h := hcellz (k / 5) (by omega) (k % 5) (Nat.mod_lt _ (by decide))
        rw [show k / 5 * 5 + k % 5 = k by omega, Addr.add_lit, List.getElem?_eq_getElem hk] at h
        exact h
    · injection e with e
      subst e
      exact (hblk (by rw [List.length_map] at h0; omega)).2
    · simp only [List.getElem_map]
      exact (hz2 i (by simpa using h1)).2
end Go.Proofs.Ytgnciejbhaebeaa
