/- What seal.Base and the reference's Base answer: the key of beginnings. Conditions: the table stands; lengths that fit. -/
import Derived.Test.YtecmkdoodlpanaaDoorSe6
import Derived.Test.YtecmkdoodlpanaaDoorDv
namespace Go.Proofs.YtecmkdoodlpanaaDoor
open Go Go.RowKit
attribute [local go_sem] run_eq_sumV run_guard_sumV

def helloS : ByteArray := ⟨#[104, 101, 108, 108, 111]⟩
def baseL (key : List UInt8) : List UInt8 := codeB key (toldL (strB helloS) [])
theorem hello_len : (toldL (strB helloS) []).length ≤ 900000000 := by
  have := toldL_len (strB helloS) [] (by decide) (by simp)
  have h2 : (strB helloS).length = 5 := rfl
  rw [h2] at this
  simp only [List.length_nil, List.flatten_nil] at this
  omega

set_option maxRecDepth 100000 in
set_option maxHeartbeats 2000000 in
theorem Base_c (Ak : Option Addr) (nk ck : Nat) (key : List UInt8) (w : World) (hnk : key.length = nk) (hrk : Rd w Ak (key.map bv)) (hck : nk ≤ ck) (hmk : ck ≤ maxLen) (hlk : nk ≤ 1000000000) (hT : Tab w) :
    Calls Tryd.prog 19 #[.slice Ak nk ck] w fun e w' => e = .returned (sumV (baseL key)) ∧ Below w.heap.size w w' := by
  have HNK := Lib.hid hnk; clear hnk
  have HT := Lib.hid hT; clear hT
  have z32 : (List.replicate 32 (0 : UInt8)).length = 32 := rfl
  have Z32 := Lib.hid z32; clear z32
  go_enter Tryd.func19, Tryd.ntmps19
  have k1 : Below w.heap.size w (w.alloc (.cells #[.int .u8 0, .int .u8 0, .int .u8 0, .int .u8 0, .int .u8 0, .int .u8 0, .int .u8 0, .int .u8 0, .int .u8 0, .int .u8 0, .int .u8 0, .int .u8 0, .int .u8 0, .int .u8 0, .int .u8 0, .int .u8 0, .int .u8 0, .int .u8 0, .int .u8 0, .int .u8 0, .int .u8 0, .int .u8 0, .int .u8 0, .int .u8 0, .int .u8 0, .int .u8 0, .int .u8 0, .int .u8 0, .int .u8 0, .int .u8 0, .int .u8 0, .int .u8 0] 46)) := (Below.refl _ _).alloc (Nat.le_refl _) _
  have hz := zeroA32 w
  have HZ := Lib.hid hz; clear hz
  go_wp2_with (fail)
  refine (Derive_c Ak nk ck key helloS none 0 0 [] _ HNK.out (hrk.below k1) hck hmk hlk (by decide) rfl RdS.nil_ (by simp) hello_len (Tab.below HT.out k1 HT.out.1)).mono ?_
  rintro e w7 ⟨rfl, hb7⟩
  have kb7 := k1.trans (hb7.mono k1.size)
  have hz7 := HZ.out.below hb7
  have z32 := Z32.out
  clear HZ hb7 k1
  go_wp2_with (first | ((with_reducible refine wpList_storeSum _ rfl (.tmp 2) (.tmp 4) rfl w.heap.size (codeB key (toldL (strB helloS) [])) _ _ rfl rfl hz7 z32 ?_); intro we hw5 hg5))
  have hbw := kb7.grown hg5 kb7.size (fun k e => by injection e with e; omega)
  exact bodyPost_ret (v := sumV (codeB key (toldL (strB helloS) []))) (results_sum rfl _ _ w.heap.size _ _ rfl hw5) rfl ⟨rfl, hbw⟩

set_option maxRecDepth 100000 in
set_option maxHeartbeats 2000000 in
theorem refBase_c (Ak : Option Addr) (nk ck : Nat) (key : List UInt8) (w : World) (hnk : key.length = nk) (hrk : Rd w Ak (key.map bv)) (hck : nk ≤ ck) (hmk : ck ≤ maxLen) (hlk : nk ≤ 1000000000) :
    Calls Tryd.prog 20 #[.slice Ak nk ck] w fun e w' => e = .returned (sumV (baseL key)) ∧ Below w.heap.size w w' := by
  have HNK := Lib.hid hnk; clear hnk
  have z32 : (List.replicate 32 (0 : UInt8)).length = 32 := rfl
  have Z32 := Lib.hid z32; clear z32
  go_enter Tryd.func20, Tryd.ntmps20
  have k1 : Below w.heap.size w (w.alloc (.cells #[.int .u8 0, .int .u8 0, .int .u8 0, .int .u8 0, .int .u8 0, .int .u8 0, .int .u8 0, .int .u8 0, .int .u8 0, .int .u8 0, .int .u8 0, .int .u8 0, .int .u8 0, .int .u8 0, .int .u8 0, .int .u8 0, .int .u8 0, .int .u8 0, .int .u8 0, .int .u8 0, .int .u8 0, .int .u8 0, .int .u8 0, .int .u8 0, .int .u8 0, .int .u8 0, .int .u8 0, .int .u8 0, .int .u8 0, .int .u8 0, .int .u8 0, .int .u8 0] 46)) := (Below.refl _ _).alloc (Nat.le_refl _) _
  have hz := zeroA32 w
  have HZ := Lib.hid hz; clear hz
  go_wp2_with (fail)
  refine (refDerive_c Ak nk ck key helloS none 0 0 [] _ HNK.out (hrk.below k1) hck hmk hlk (by decide) rfl RdS.nil_ (by simp) hello_len).mono ?_
  rintro e w7 ⟨rfl, hb7⟩
  have kb7 := k1.trans (hb7.mono k1.size)
  have hz7 := HZ.out.below hb7
  have z32 := Z32.out
  clear HZ hb7 k1
  go_wp2_with (first | ((with_reducible refine wpList_storeSum _ rfl (.tmp 2) (.tmp 4) rfl w.heap.size (codeB key (toldL (strB helloS) [])) _ _ rfl rfl hz7 z32 ?_); intro we hw5 hg5))
  have hbw := kb7.grown hg5 kb7.size (fun k e => by injection e with e; omega)
  exact bodyPost_ret (v := sumV (codeB key (toldL (strB helloS) []))) (results_sum rfl _ _ w.heap.size _ _ rfl hw5) rfl ⟨rfl, hbw⟩
end Go.Proofs.YtecmkdoodlpanaaDoor
