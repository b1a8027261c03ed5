/- The two readers side by side: what stays true between the reads of the law WireReads. Conditions: none. -/
import Derived.Test.YtacindehajholaaWf
import Derived.Test.YtacindehajholaaRr4
import Derived.Test.YtacindehajholaaOpen
import Derived.Test.YtacindehajholaaRg
namespace Go.Proofs.Ytacindehajholaa
open Go Go.RowKit

theorem numR_k (s : RS) (z : Int) (h : s.at_ ≤ s.b.length) : (numR s z).2.b = s.b ∧ (numR s z).2.gA = s.gA ∧ (numR s z).2.at_ ≤ s.b.length := by
  unfold numR
  split
  · exact ⟨rfl, rfl, h⟩
  · split
    · exact ⟨rfl, rfl, h⟩
    · split
      · exact ⟨rfl, rfl, h⟩
      · exact ⟨rfl, rfl, by show s.at_ + z.toNat ≤ _; omega⟩
theorem varR_k (s : RS) (h : s.at_ ≤ s.b.length) : (varR s).2.b = s.b ∧ (varR s).2.gA = s.gA ∧ (varR s).2.at_ ≤ s.b.length := by
  refine ⟨varR_b s, ?_, varR_at s h⟩
  unfold varR
  split
  · rfl
  · split <;> rfl
theorem takeR_k (s : RS) (z : Int) (h : s.at_ ≤ s.b.length) : (takeR s z).2.b = s.b ∧ (takeR s z).2.gA = s.gA ∧ (takeR s z).2.at_ ≤ s.b.length := by
  unfold takeR
  split
  · exact ⟨rfl, rfl, h⟩
  · split
    · exact ⟨rfl, rfl, h⟩
    · split
      · exact ⟨rfl, rfl, h⟩
      · exact ⟨rfl, rfl, by show s.at_ + z.toNat ≤ _; omega⟩
theorem textR_k (s : RS) (z : Int) (h : s.at_ ≤ s.b.length) : (textR s z).2.b = s.b ∧ (textR s z).2.gA = s.gA ∧ (textR s z).2.at_ ≤ s.b.length := by
  unfold textR
  split
  · exact ⟨rfl, rfl, h⟩
  · split
    · exact ⟨rfl, rfl, h⟩
    · rename_i n k hg
      split
      · exact ⟨rfl, rfl, h⟩
      · split
        · exact ⟨rfl, rfl, h⟩
        · exact ⟨rfl, rfl, by show s.at_ + k + n ≤ _; omega⟩

/-- The reader in block r is at s, the reference's in block m at t; both go over the bytes bs; what is made from B on is neither's. -/
structure WR (w : World) (r m B n : Nat) (A : Option Addr) (c : Nat) (bs : List UInt8) (wr : World) (s t : RS) : Prop where
  rdr : Rdr wr r s
  sb : s.b = bs
  sg : ∀ a, s.gA = some a → a.block < m
  tb : t.b = bs
  at_ : t.at_ ≤ t.b.length
  box : wr.heap[m]? = some (.cells #[.slice A n c, .int .i64 (t.at_ : Int), .int .i64 (t.err : Int)] 43 (0, 0))
  bel : Below w.heap.size w wr
  sz : B ≤ wr.heap.size
  hr : r < B
  hm : m < B
  hwr : w.heap.size ≤ r
  hwm : w.heap.size ≤ m
  hrm : r ≠ m
section
variable {w wr wr' : World} {r m B n c : Nat} {A : Option Addr} {bs : List UInt8} {s t s' t' : RS}
theorem WR.below (h : WR w r m B n A c bs wr s t) (hb : Below wr.heap.size wr wr') : WR w r m B n A c bs wr' s t :=
  { h with rdr := h.rdr.below hb, box := (hb.block m (heap_lt h.box)).trans h.box, bel := h.bel.trans (hb.mono h.bel.size), sz := Nat.le_trans h.sz hb.size }
theorem WR.drewN (h : WR w r m B n A c bs wr s t) (q : Nat) : WR w r m B n A c bs (wr.drewN q) s t := h.below (below_drewN (Below.refl _ _) q)
theorem WR.read (h : WR w r m B n A c bs wr s t) (hR : Rdr wr' r s') (hg : wr.grownBy wr' (some r)) (k : s'.b = s.b ∧ s'.gA = s.gA ∧ s'.at_ ≤ s.b.length) : WR w r m B n A c bs wr' s' t :=
  { h with rdr := hR, sb := k.1.trans h.sb, sg := by rw [k.2.1]; exact h.sg, box := (hg.block m (heap_lt h.box) (fun e => h.hrm (by injection e with e; exact e.symm))).trans h.box
           bel := h.bel.grown hg h.bel.size (fun q e => by injection e with e; have := h.hwr; omega), sz := Nat.le_trans h.sz hg.size }
/-- A store into what was made ahead of both. -/
theorem WR.setLow (h : WR w r m B n A c bs wr s t) {p : Addr} (hp : w.heap.size ≤ p.block) (h1 : p.block < r) (h2 : ∀ a, s.gA = some a → p.block < a.block) (h3 : p.block < m) (u : Value) : WR w r m B n A c bs (wr.setCell p u) s t :=
  { h with rdr := h.rdr.farSet u (by omega) (fun a e => by have := h2 a e; omega), box := (heap_far u (by omega)).trans h.box
           bel := h.bel.setCell hp _, sz := by simpa using h.sz }
/-- A store into what was made behind. -/
theorem WR.set (h : WR w r m B n A c bs wr s t) {p : Addr} (hp : B ≤ p.block) (u : Value) : WR w r m B n A c bs (wr.setCell p u) s t :=
  { h with rdr := h.rdr.farSet u (by have := h.hr; omega) (fun a e => by have := h.sg a e; have := h.hm; omega), box := (heap_far u (by have := h.hm; omega)).trans h.box
           bel := h.bel.setCell (by have := h.hr; have := h.hwr; omega) _, sz := by simpa using h.sz }
theorem WR.box3 (h : WR w r m B n A c bs wr s t) (u v x : Value) (t' : RS) (hb : t'.b = t.b) (ha : t'.at_ ≤ t.b.length) (hu : u = .slice A n c) (hv : v = .int .i64 (t'.at_ : Int)) (hx : x = .int .i64 (t'.err : Int)) :
    WR w r m B n A c bs (((wr.setCell ⟨m, 0, none⟩ u).setCell ⟨m, 1, none⟩ v).setCell ⟨m, 2, none⟩ x) s t' := by
  subst hu hv hx
  have hne := h.hrm
  have hg : ∀ a, s.gA = some a → a.block ≠ m := by
    intro a e; have := h.sg a e; omega
  refine { h with rdr := ?_, tb := hb.trans h.tb, at_ := by rw [hb]; exact ha, box := ?_, bel := ?_, sz := ?_ }
  · exact ((h.rdr.farSet _ hne hg).farSet _ hne hg).farSet _ hne hg
  · exact heap_set (heap_set (heap_set h.box 0 _) 1 _) 2 _
  · exact ((h.bel.setCell h.hwm _).setCell h.hwm _).setCell h.hwm _
  · simpa using h.sz
end
theorem OwnB.open_ {w : World} {B n c : Nat} {Ao : Option Addr} {l : List UInt8} (h : OwnB w B (.slice Ao n c) l) (h0 : 0 < n) : ∃ g, Ao = some ⟨g, 0, none⟩ ∧ B ≤ g ∧ g < w.heap.size ∧ l.length = n := by
  obtain ⟨A7, c7, e7, _, _, rd7, hA7⟩ := OwnB.form h
  injection e7 with e1 e2 e3
  subst e1 e2
  obtain ⟨b, off, rfl, hb, _⟩ := rd7.addrB h0
  obtain ⟨q1, q2, q3, _⟩ := hA7 _ rfl
  simp only at q1 q2 q3
  subst q3
  exact ⟨b, rfl, q1, q2, rfl⟩
theorem rd_of {w : World} {B n c : Nat} {Ao : Option Addr} {l : List UInt8} (h : OwnB w B (.slice Ao n c) l) : Rd w Ao (l.map bv) := by
  obtain ⟨A7, c7, e7, _, _, rd7, _⟩ := OwnB.form h
  injection e7 with e1 e2 e3
  subst e1
  exact rd7
theorem len_of {w : World} {B n c : Nat} {Ao : Option Addr} {l : List UInt8} (h : OwnB w B (.slice Ao n c) l) : n ≤ maxLen := by
  obtain ⟨A7, c7, e7, h1, h2, _, _⟩ := OwnB.form h
  injection e7 with e1 e2 e3
  omega
theorem u8_mod (z : Int) : ∃ b : UInt8, Value.int .u8 (z % 256) = bv b := by
  refine ⟨UInt8.ofNat (z % 256).toNat, ?_⟩
  unfold bv
  rw [UInt8.toNat_ofNat']
  congr 1
  omega

/-! ### The reference's reads, the model's box told by its numbers -/
section
variable {w wr : World} {r m B n c : Nat} {A : Option Addr} {bs : List UInt8} {s t : RS}
theorem WR.ok (h : WR w r m B n A c bs wr s t) (hr : Rd w A (bs.map bv)) (hn : bs.length = n) (hc : n ≤ c) (hm : c ≤ maxLen) (hl : n ≤ 140737488351232) : RsOk wr A c t := by
  have hb := h.tb
  exact ⟨by rw [hb]; exact hr.below h.bel, by rw [hb]; omega, hm, h.at_, by rw [hb]; omega⟩
theorem rsV_eq {t : RS} (hb : t.b = bs) (hn : bs.length = n) : rsV A c t = .agg #[.slice A n c, .int .i64 (t.at_ : Int), .int .i64 (t.err : Int)] := by
  unfold rsV; rw [hb, hn]
theorem WR.cells (h : WR w r m B n A c bs wr s t) : (wr.cell? ⟨m, 0, none⟩ = some (.slice A n c) ∧ wr.cell? ⟨m, 1, none⟩ = some (.int .i64 (t.at_ : Int)) ∧ wr.cell? ⟨m, 2, none⟩ = some (.int .i64 (t.err : Int))) ∧
    (wr.frozen? ⟨m, 0, none⟩ = false ∧ wr.frozen? ⟨m, 1, none⟩ = false ∧ wr.frozen? ⟨m, 2, none⟩ = false) :=
  ⟨⟨by rw [heap_cell h.box]; rfl, by rw [heap_cell h.box]; rfl, by rw [heap_cell h.box]; rfl⟩, heap_free h.box _, heap_free h.box _, heap_free h.box _⟩
theorem num_i (h : WR w r m B n A c bs wr s s) (z : Int) (hz : (Lit.int .i64 z).wf = true) {N : Nat} {s' : RS} (e : numR s z = (N, s')) :
    Calls Try.prog 22 #[.pointer (some ⟨r, 0, none⟩), .int .i64 z] wr fun e w' => e = .returned (.int .u64 (N : Int)) ∧ Hid (WR w r m B n A c bs w' s' s) ∧ wr.grownBy w' (some r) := by
  have k := numR_k s z h.at_
  have hc := Rnum_c r s z wr h.rdr hz
  rw [e] at k hc
  exact hc.mono fun _ _ ⟨a1, a2, a3⟩ => ⟨a1, Lib.hid (h.read a2 a3 k), a3⟩
theorem var_i (h : WR w r m B n A c bs wr s s) {N : Nat} {s' : RS} (e : varR s = (N, s')) :
    Calls Try.prog 10 #[.pointer (some ⟨r, 0, none⟩)] wr fun e w' => e = .returned (.int .u64 (N : Int)) ∧ Hid (WR w r m B n A c bs w' s' s) ∧ wr.grownBy w' (some r) := by
  have k := varR_k s h.at_
  have hc := Rvar_c r s wr h.rdr
  rw [e] at k hc
  exact hc.mono fun _ _ ⟨a1, a2, a3⟩ => ⟨a1, Lib.hid (h.read a2 a3 k), a3⟩
theorem take_i (h : WR w r m B n A c bs wr s s) (z : Int) (hz : (Lit.int .i64 z).wf = true) {N : List UInt8} {s' : RS} (e : takeR s z = (N, s')) :
    Calls Try.prog 27 #[.pointer (some ⟨r, 0, none⟩), .int .i64 z] wr fun e w' => ∃ v, e = .returned v ∧ Hid (OwnB w' wr.heap.size v N) ∧ Hid (WR w r m B n A c bs w' s' s) ∧ wr.grownBy w' (some r) := by
  have k := takeR_k s z h.at_
  have hc := Rtake_c r s z wr h.rdr hz
  rw [e] at k hc
  exact hc.mono fun _ _ ⟨v, a0, a1, a2, a3⟩ => ⟨v, a0, Lib.hid a1, Lib.hid (h.read a2 a3 k), a3⟩
theorem text_i (h : WR w r m B n A c bs wr s s) (z : Int) (hz : (Lit.int .i64 z).wf = true) {N : List UInt8} {s' : RS} (e : textR s z = (N, s')) :
    Calls Try.prog 25 #[.pointer (some ⟨r, 0, none⟩), .int .i64 z] wr fun e w' => ∃ v, e = .returned v ∧ Hid (OwnB w' wr.heap.size v N) ∧ Hid (WR w r m B n A c bs w' s' s) ∧ wr.grownBy w' (some r) := by
  have k := textR_k s z h.at_
  have hc := Rtext_c r s z wr h.rdr hz
  rw [e] at k hc
  exact hc.mono fun _ _ ⟨v, a0, a1, a2, a3⟩ => ⟨v, a0, Lib.hid a1, Lib.hid (h.read a2 a3 k), a3⟩
theorem num_r (h : WR w r m B n A c bs wr t s) (hr : Rd w A (bs.map bv)) (hn : bs.length = n) (hc : n ≤ c) (hm : c ≤ maxLen) (hl : n ≤ 140737488351232) (z : Int) (hz : (Lit.int .i64 z).wf = true) {N : Nat} {s' : RS} (e : numR s z = (N, s')) :
    Calls Try.prog 23 #[.agg #[.slice A n c, .int .i64 (s.at_ : Int), .int .i64 (s.err : Int)], .int .i64 z] wr fun e w' => e = .returned (.tuple #[.int .u64 (N : Int), Value.agg #[.slice A n c, .int .i64 (s'.at_ : Int), .int .i64 (s'.err : Int)]]) ∧ Below wr.heap.size wr w' := by
  have k := numR_k s z h.at_
  have hc := refNumR_c A c s z wr (h.ok hr hn hc hm hl) hz
  rw [e] at k hc
  rw [rsV_eq (c := c) h.tb hn] at hc
  exact hc.mono fun _ _ ⟨a1, a2⟩ => ⟨by rw [a1, rsV_eq (k.1.trans h.tb) hn], a2⟩
theorem var_r (h : WR w r m B n A c bs wr t s) (hr : Rd w A (bs.map bv)) (hn : bs.length = n) (hc : n ≤ c) (hm : c ≤ maxLen) (hl : n ≤ 140737488351232) {N : Nat} {s' : RS} (e : varR s = (N, s')) :
    Calls Try.prog 24 #[.agg #[.slice A n c, .int .i64 (s.at_ : Int), .int .i64 (s.err : Int)]] wr fun e w' => e = .returned (.tuple #[.int .u64 (N : Int), Value.agg #[.slice A n c, .int .i64 (s'.at_ : Int), .int .i64 (s'.err : Int)]]) ∧ Below wr.heap.size wr w' := by
  have k := varR_k s h.at_
  have hc := refVarR_c A c s wr (h.ok hr hn hc hm hl)
  rw [e] at k hc
  rw [rsV_eq (c := c) h.tb hn] at hc
  exact hc.mono fun _ _ ⟨a1, a2⟩ => ⟨by rw [a1, rsV_eq (k.1.trans h.tb) hn], a2⟩
theorem take_r (h : WR w r m B n A c bs wr t s) (hr : Rd w A (bs.map bv)) (hn : bs.length = n) (hc : n ≤ c) (hm : c ≤ maxLen) (hl : n ≤ 140737488351232) (z : Int) (hz : (Lit.int .i64 z).wf = true) {N : List UInt8} {s' : RS} (e : takeR s z = (N, s')) :
    Calls Try.prog 28 #[.agg #[.slice A n c, .int .i64 (s.at_ : Int), .int .i64 (s.err : Int)], .int .i64 z] wr fun e w' => ∃ v, e = .returned (.tuple #[v, Value.agg #[.slice A n c, .int .i64 (s'.at_ : Int), .int .i64 (s'.err : Int)]]) ∧ Hid (OwnB w' wr.heap.size v N) ∧ Below wr.heap.size wr w' := by
  have k := takeR_k s z h.at_
  have hc := refTake_c A c s z wr (h.ok hr hn hc hm hl) hz
  rw [e] at k hc
  rw [rsV_eq (c := c) h.tb hn] at hc
  exact hc.mono fun _ _ ⟨v, a0, a1, a2⟩ => ⟨v, by rw [a0, rsV_eq (k.1.trans h.tb) hn], Lib.hid a1, a2⟩
theorem text_r (h : WR w r m B n A c bs wr t s) (hr : Rd w A (bs.map bv)) (hn : bs.length = n) (hc : n ≤ c) (hm : c ≤ maxLen) (hl : n ≤ 140737488351232) (z : Int) (hz : (Lit.int .i64 z).wf = true) {N : List UInt8} {s' : RS} (e : textR s z = (N, s')) :
    Calls Try.prog 26 #[.agg #[.slice A n c, .int .i64 (s.at_ : Int), .int .i64 (s.err : Int)], .int .i64 z] wr fun e w' => ∃ v, e = .returned (.tuple #[v, Value.agg #[.slice A n c, .int .i64 (s'.at_ : Int), .int .i64 (s'.err : Int)]]) ∧ Hid (OwnB w' wr.heap.size v N) ∧ Below wr.heap.size wr w' := by
  have k := textR_k s z h.at_
  have hc := refTextR_c A c s z wr (h.ok hr hn hc hm hl) hz
  rw [e] at k hc
  rw [rsV_eq (c := c) h.tb hn] at hc
  exact hc.mono fun _ _ ⟨v, a0, a1, a2⟩ => ⟨v, by rw [a0, rsV_eq (k.1.trans h.tb) hn], Lib.hid a1, a2⟩
theorem left_r (h : WR w r m B n A c bs wr t s) (hr : Rd w A (bs.map bv)) (hn : bs.length = n) (hc : n ≤ c) (hm : c ≤ maxLen) (hl : n ≤ 140737488351232) :
    Calls Try.prog 29 #[.agg #[.slice A n c, .int .i64 (s.at_ : Int), .int .i64 (s.err : Int)]] wr fun e w' => e = .returned (.int .i64 ((s.b.length - s.at_ : Nat) : Int)) ∧ Below wr.heap.size wr w' := by
  have hc := refLeft_c A c s wr (h.ok hr hn hc hm hl)
  rw [rsV_eq (c := c) h.tb hn] at hc
  exact hc
theorem end_r (h : WR w r m B n A c bs wr t s) (hr : Rd w A (bs.map bv)) (hn : bs.length = n) (hc : n ≤ c) (hm : c ≤ maxLen) (hl : n ≤ 140737488351232) :
    Calls Try.prog 31 #[.agg #[.slice A n c, .int .i64 (s.at_ : Int), .int .i64 (s.err : Int)]] wr fun e w' => e = .returned (.int .i64 (endR s : Int)) ∧ Below wr.heap.size wr w' := by
  have hc := refEnd_c A c s wr (h.ok hr hn hc hm hl)
  rw [rsV_eq (c := c) h.tb hn] at hc
  exact hc
end
end Go.Proofs.Ytacindehajholaa
