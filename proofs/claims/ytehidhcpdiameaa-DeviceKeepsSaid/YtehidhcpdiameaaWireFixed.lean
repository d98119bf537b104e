/- The walks of layer 10, on: the fixed calls. -/
import Derived.Test.YtehidhcpdiameaaWireInts
import Derived.Test.YtehidhcpdiameaaWireRefInts
namespace Go.Proofs.Ytehidhcpdiameaa
open Go.RowKit

namespace Wire
theorem num_300 : num 300 = [172, 2] := by decide +kernel
theorem take_300 : takeAt [172, 2] 0 = (300, 2, true) := by decide +kernel
theorem take_odd : takeAt [128, 0] 0 = (0, 0, false) := by decide +kernel
theorem ints_two : ints [1, 300] = [2, 1, 172, 2] := by decide +kernel
theorem takeInts_two : takeIntsAt [2, 1, 172, 2] 0 = ([1, 300], 4, true) := by decide +kernel
theorem text_ab : text [97, 98] = [2, 97, 98] := by decide +kernel
theorem takeText_ab : takeTextAt [2, 97, 98] 0 = ([97, 98], 3, true) := by decide +kernel
theorem num_minus : num (-1) = [] := by decide +kernel
end Wire

/-- two numbers that were just laid. -/
theorem sl_two (w : World) (x y : Int) : Sl (w.alloc (.cells #[.int .i64 x, .int .i64 y] 3)) (.slice (some ⟨w.heap.size, 0, none⟩) 2 2) ([x, y].map intV) := by
  refine ⟨_, 2, rfl, by simp, by omega, fun _ => ⟨_, _, rfl, by simp, fun i v hi => ?_⟩⟩
  rw [World.cell?_alloc_mark]
  match i, hi with
  | 0, hi => exact hi
  | 1, hi => exact hi
  | (_ + 2), hi => cases hi

set_option maxRecDepth 100000 in
set_option maxHeartbeats 4000000 in
theorem fixed10 (w : World) : Calls Try.prog 38 #[] w fun e w' => e = .returned (.bool true) ∧ Ext w w' := by
  have h1 := num_any 300
  have h2 := fun w => Soft_same (take_any ⟨#[172, 2]⟩ 0 (by decide) w)
  have h3 := fun w => Soft_same (take_any ⟨#[128, 0]⟩ 0 (by decide) w)
  have h4 := fun v w h => ints_any [1, 300] v w h (by decide)
  have h5 := takeInts_any ⟨#[2, 1, 172, 2]⟩ 0 (by decide)
  have h6 := text_any ⟨#[97, 98]⟩ (by decide)
  have h7 := takeText_any ⟨#[2, 97, 98]⟩ 0 (by decide)
  have h8 := num_any (-1)
  have h9 := fun u v w (hu : Sl w u ([1, 300].map intV)) hv => sameInts_any [1, 300] [1, 300] u v w hu hv
  rw [Wire.num_300, show str [172, 2] = ByteArray.mk #[172, 2] from rfl] at h1
  rw [show (ByteArray.mk #[172, 2]).data.toList = [172, 2] from rfl, Wire.take_300] at h2
  rw [show (ByteArray.mk #[128, 0]).data.toList = [128, 0] from rfl, Wire.take_odd] at h3
  rw [Wire.ints_two, show str [2, 1, 172, 2] = ByteArray.mk #[2, 1, 172, 2] from rfl] at h4
  rw [show (ByteArray.mk #[2, 1, 172, 2]).data.toList = [2, 1, 172, 2] from rfl, Wire.takeInts_two] at h5
  rw [show (ByteArray.mk #[97, 98]).data.toList = [97, 98] from rfl, Wire.text_ab, show str [2, 97, 98] = ByteArray.mk #[2, 97, 98] from rfl] at h6
  rw [show (ByteArray.mk #[2, 97, 98]).data.toList = [2, 97, 98] from rfl, Wire.takeText_ab] at h7
  rw [Wire.num_minus, show str [] = ByteArray.mk #[] from rfl] at h8
  rw [decide_eq_true rfl] at h9
  unfold took at h2 h3
  dsimp only at h2 h3 h7
  rw [show str [97, 98] = ByteArray.mk #[97, 98] from rfl] at h7
  replace h1 := Lib.hid h1; replace h2 := Lib.hid h2; replace h3 := Lib.hid h3; replace h4 := Lib.hid h4; replace h5 := Lib.hid h5; replace h6 := Lib.hid h6; replace h7 := Lib.hid h7; replace h8 := Lib.hid h8; replace h9 := Lib.hid h9
  go_enter Try.func38, Try.ntmps38
  go_wp2_with fail
  refine (h1.out _).mono ?_; rintro e w1 ⟨rfl, x1⟩
  go_wp2_with fail
  refine (h2.out _).mono ?_; rintro e w2 ⟨rfl, x2⟩
  go_wp2_with fail
  refine (h3.out _).mono ?_; rintro e w3 ⟨rfl, x3⟩
  go_wp2_with fail
  have y3 := (x1.trans x2).trans x3
  clear x1 x2 x3
  refine (h4.out _ _ (sl_two w3 1 300)).mono ?_; rintro e w4 ⟨rfl, x4⟩
  have y4 := (y3.alloc _).trans x4
  clear y3 x4
  go_wp2_with fail
  refine (h5.out _).mono ?_; rintro e w5 ⟨v5, rfl, hl5, x5⟩
  replace hl5 := Lib.hid hl5
  have y5 := y4.trans x5
  clear y4 x5
  go_wp2_with fail
  refine (h6.out _).mono ?_; rintro e w6 ⟨rfl, x6⟩
  go_wp2_with fail
  refine (h7.out _).mono ?_; rintro e w7 ⟨rfl, x7⟩
  go_wp2_with fail
  refine (h1.out _).mono ?_; rintro e w8 ⟨rfl, x8⟩
  have y8 := ((y5.trans x6).trans x7).trans x8
  have hl8 := Lib.hid (((hl5.out.ext x6).ext x7).ext x8)
  clear x6 x7 x8 y5 hl5
  go_wp2_with fail
  refine (h9.out _ _ _ (hl8.out.ext ((Ext.refl _).alloc _)) (sl_two w8 1 300)).mono ?_; rintro e w9 ⟨rfl, x9⟩
  go_wp2_with fail
  refine (h8.out _).mono ?_; rintro e w10 ⟨rfl, x10⟩
  go_wp2_with fail
  go_ret
  exact ⟨rfl, ((y8.alloc _).trans x9).trans x10⟩

end Go.Proofs.Ytehidhcpdiameaa
