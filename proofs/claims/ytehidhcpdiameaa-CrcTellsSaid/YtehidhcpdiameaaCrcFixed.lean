/- The walks of layer 2, on: the fixed calls. -/
import Derived.Test.YtehidhcpdiameaaCrcOpen
namespace Go.Proofs.Ytehidhcpdiameaa
open Go.RowKit

theorem sum_check : Crc.sum [49, 50, 51, 52, 53, 54, 55, 56, 57] = 3421780262 := by decide +kernel
theorem sum_nil : Crc.sum [] = 0 := by decide +kernel
theorem add_one : Crc.add 1 1 = 0 := by decide +kernel

theorem fixed02 (w : World) : Calls Try.prog 30 #[] w fun e w' => e = .returned (.bool true) ∧ Ext w w' := by
  have h1 := seal_any ⟨#[97, 98]⟩ (by decide)
  have h2 := open_any (str (Crc.seal_ [97, 98])) (by rw [str_size, Crc.seal_length]; decide)
  have h3 := open_any ⟨#[97, 98, 99]⟩ (by decide)
  have h4 := sum_any ⟨#[49, 50, 51, 52, 53, 54, 55, 56, 57]⟩ (by decide)
  have h5 := sum_any ⟨#[]⟩ (by decide)
  have h6 := add_any 1 1 (by decide) (by decide)
  rw [list_str, Crc.opn_seal, show str [97, 98] = ByteArray.mk #[97, 98] from rfl] at h2
  rw [opn_short _ (by decide)] at h3
  rw [show (ByteArray.mk #[49, 50, 51, 52, 53, 54, 55, 56, 57]).data.toList = [49, 50, 51, 52, 53, 54, 55, 56, 57] from rfl, sum_check] at h4
  rw [show (ByteArray.mk #[]).data.toList = [] from rfl, sum_nil] at h5
  rw [add_one] at h6
  rw [show (ByteArray.mk #[97, 98]).data.toList = [97, 98] from rfl] at h1
  generalize str (Crc.seal_ [97, 98]) = S at *
  replace h1 := Lib.hid h1; replace h2 := Lib.hid h2; replace h3 := Lib.hid h3; replace h4 := Lib.hid h4; replace h5 := Lib.hid h5; replace h6 := Lib.hid h6
  go_enter Try.func30, Try.ntmps30
  go_wp2_with fail
  refine (h1.out _).mono ?_; rintro e w1 ⟨rfl, x1⟩
  go_wp2_with fail
  refine (h2.out _).mono ?_; rintro e w2 ⟨rfl, x2⟩
  go_wp2_with fail
  refine (h3.out _).mono ?_; rintro e w3 ⟨rfl, x3⟩
  go_wp2_with fail
  refine (h4.out _).mono ?_; rintro e w4 ⟨rfl, rfl⟩
  go_wp2_with fail
  refine (h5.out _).mono ?_; rintro e w4 ⟨rfl, rfl⟩
  go_wp2_with fail
  refine (h6.out _).mono ?_; rintro e w4 ⟨rfl, rfl⟩
  go_wp2_with fail
  go_ret
  exact ⟨rfl, (x1.trans x2).trans x3⟩

end Go.Proofs.Ytehidhcpdiameaa
