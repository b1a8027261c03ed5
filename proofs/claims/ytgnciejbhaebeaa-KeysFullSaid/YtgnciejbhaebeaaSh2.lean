/- What sha.turn makes of eight words and a block of 64 bytes, in plain lists. Rows of words in a block of their own. Conditions: the table of 64 words stands. -/
import Derived.Test.YtgnciejbhaebeaaSh1
import Derived.Test.YtgnciejbhaebeaaHp
namespace Go.Proofs.Ytgnciejbhaebeaa
open Go Go.RowKit

def getW (l : List (BitVec 32)) (i : Nat) : BitVec 32 := l.getD i 0
def getB (l : List UInt8) (i : Nat) : UInt8 := l.getD i 0
def be4 (b : List UInt8) (t : Nat) : BitVec 32 := bw (getB b (4 * t)) <<< 24 ||| bw (getB b (4 * t + 1)) <<< 16 ||| bw (getB b (4 * t + 2)) <<< 8 ||| bw (getB b (4 * t + 3))
def sig0 (x : BitVec 32) : BitVec 32 := ror x 7 ^^^ ror x 18 ^^^ x >>> 3
def sig1 (y : BitVec 32) : BitVec 32 := ror y 17 ^^^ ror y 19 ^^^ y >>> 10
def nxt (l : List (BitVec 32)) (k : Nat) : BitVec 32 := getW l k + getW l (k + 9) + sig0 (getW l (k + 1)) + sig1 (getW l (k + 14))
def sch1 (b : List UInt8) : Nat → List (BitVec 32)
  | 0 => List.replicate 64 0
  | k + 1 => (sch1 b k).set k (be4 b k)
def sch2 (b : List UInt8) : Nat → List (BitVec 32)
  | 0 => sch1 b 16
  | k + 1 => (sch2 b k).set (k + 16) (nxt (sch2 b k) k)
def pW (k x : BitVec 32) (v : List (BitVec 32)) : BitVec 32 :=
  getW v 7 + (ror (getW v 4) 6 ^^^ ror (getW v 4) 11 ^^^ ror (getW v 4) 25) + (getW v 4 &&& getW v 5 ^^^ ~~~(getW v 4) &&& getW v 6) + k + x
def qW (v : List (BitVec 32)) : BitVec 32 :=
  (ror (getW v 0) 2 ^^^ ror (getW v 0) 13 ^^^ ror (getW v 0) 22) + (getW v 0 &&& getW v 1 ^^^ getW v 0 &&& getW v 2 ^^^ getW v 1 &&& getW v 2)
def rnd (k x : BitVec 32) (v : List (BitVec 32)) : List (BitVec 32) :=
  [pW k x v + qW v, getW v 0, getW v 1, getW v 2, getW v 3 + pW k x v, getW v 4, getW v 5, getW v 6]
def rounds (ks xs h : List (BitVec 32)) : Nat → List (BitVec 32)
  | 0 => h
  | t + 1 => rnd (getW ks t) (getW xs t) (rounds ks xs h t)
def addL (h v : List (BitVec 32)) : Nat → List (BitVec 32)
  | 0 => h
  | t + 1 => (addL h v t).set t (getW (addL h v t) t + getW v t)
def rootL : List (BitVec 32) := [
  0x428a2f98, 0x71374491, 0xb5c0fbcf, 0xe9b5dba5, 0x3956c25b, 0x59f111f1, 0x923f82a4, 0xab1c5ed5,
  0xd807aa98, 0x12835b01, 0x243185be, 0x550c7dc3, 0x72be5d74, 0x80deb1fe, 0x9bdc06a7, 0xc19bf174,
  0xe49b69c1, 0xefbe4786, 0x0fc19dc6, 0x240ca1cc, 0x2de92c6f, 0x4a7484aa, 0x5cb0a9dc, 0x76f988da,
  0x983e5152, 0xa831c66d, 0xb00327c8, 0xbf597fc7, 0xc6e00bf3, 0xd5a79147, 0x06ca6351, 0x14292967,
  0x27b70a85, 0x2e1b2138, 0x4d2c6dfc, 0x53380d13, 0x650a7354, 0x766a0abb, 0x81c2c92e, 0x92722c85,
  0xa2bfe8a1, 0xa81a664b, 0xc24b8b70, 0xc76c51a3, 0xd192e819, 0xd6990624, 0xf40e3585, 0x106aa070,
  0x19a4c116, 0x1e376c08, 0x2748774c, 0x34b0bcb5, 0x391c0cb3, 0x4ed8aa4a, 0x5b9cca4f, 0x682e6ff3,
  0x748f82ee, 0x78a5636f, 0x84c87814, 0x8cc70208, 0x90befffa, 0xa4506ceb, 0xbef9a3f7, 0xc67178f2]
def blk (h : List (BitVec 32)) (b : List UInt8) : List (BitVec 32) := addL h (rounds rootL (sch2 b 48) h 64) 8
def startL : List (BitVec 32) := [0x6a09e667, 0xbb67ae85, 0x3c6ef372, 0xa54ff53a, 0x510e527f, 0x9b05688c, 0x1f83d9ab, 0x5be0cd19]

theorem sch1_len (b : List UInt8) : ∀ k, (sch1 b k).length = 64
  | 0 => by simp [sch1]
  | k + 1 => by simp [sch1, sch1_len b k]
theorem sch2_len (b : List UInt8) : ∀ k, (sch2 b k).length = 64
  | 0 => sch1_len b 16
  | k + 1 => by simp [sch2, sch2_len b k]
theorem rounds_len (ks xs h : List (BitVec 32)) (hh : h.length = 8) : ∀ k, (rounds ks xs h k).length = 8
  | 0 => hh
  | k + 1 => by simp [rounds, rnd]
theorem addL_len (h v : List (BitVec 32)) (hh : h.length = 8) : ∀ k, (addL h v k).length = 8
  | 0 => hh
  | k + 1 => by simp [addL, addL_len h v hh k]
theorem blk_len (h : List (BitVec 32)) (b : List UInt8) (hh : h.length = 8) : (blk h b).length = 8 := addL_len _ _ hh 8

/-- Block g holds the words l and nothing else. -/
def Ws (w : World) (g : Nat) (t : TypeId) (l : List (BitVec 32)) : Prop := w.heap[g]? = some (.cells (l.map wv).toArray t (0, 0))
section
variable {w w' : World} {g : Nat} {t : TypeId} {l : List (BitVec 32)}
theorem Ws.cell (h : Ws w g t l) (i : Nat) (hi : i < l.length) : w.cell? ⟨g, i, none⟩ = some (wv (getW l i)) := by
  rw [heap_cell h]
  simp [getW, List.getD, hi]
theorem Ws.free (h : Ws w g t l) (i : Nat) : w.frozen? ⟨g, i, none⟩ = false := heap_free h i
theorem Ws.set (h : Ws w g t l) (i : Nat) (x : BitVec 32) : Ws (w.setCell ⟨g, i, none⟩ (wv x)) g t (l.set i x) := by
  unfold Ws
  rw [heap_set h, List.map_set]
  simp
theorem Ws.far (h : Ws w g t l) {p : Addr} (u : Value) (hp : g ≠ p.block) : Ws (w.setCell p u) g t l := (heap_far u hp).trans h
theorem Ws.lt (h : Ws w g t l) : g < w.heap.size := heap_lt h
theorem Ws.below (h : Ws w g t l) (hb : Below w.heap.size w w') : Ws w' g t l := (hb.block g h.lt).trans h
theorem Ws.drewN (h : Ws w g t l) (n : Nat) : Ws (w.drewN n) g t l := h
theorem Ws.alloc (h : Ws w g t l) (o : Obj) : Ws (w.alloc o) g t l := (Below.heap_alloc w o g h.lt).trans h
end

/-- The table of the 64 words. -/
def Tab (w : World) : Prop := 0 < w.heap.size ∧ ∀ i, i < 64 → w.cell? ⟨0, i, none⟩ = some (wv (getW rootL i))
theorem Tab.below {w w' : World} {B : Nat} (h : Tab w) (hb : Below B w w') (hB : 0 < B) : Tab w' :=
  ⟨Nat.lt_of_lt_of_le h.1 hb.size, fun i hi => (World.cell?_of_block (w := w) (a := ⟨0, i, none⟩) (hb.block 0 hB)).trans (h.2 i hi)⟩
theorem getB_rd {b : Nat} {off : Nat} {w : World} {l : List UInt8} (g : ∀ k (h : k < l.length), w.cell? ⟨b, off + k, none⟩ = some (bv l[k])) (k : Nat) (hk : k < l.length) : w.cell? ⟨b, off + k, none⟩ = some (bv (getB l k)) := by
  rw [g k hk]
  simp [getB, List.getD, hk]
end Go.Proofs.Ytgnciejbhaebeaa
