/- The walks of layer 11, on: the fixed calls. -/
import Derived.Test.YtehidhcpdiameaaPageRefOpen
namespace Go.Proofs.Ytehidhcpdiameaa
open Go.RowKit

/-- a text that was just laid in a row. -/
theorem sl_one (w : World) (s : ByteArray) (T : TypeId) : Sl (w.alloc (.cells #[.string s] T)) (.slice (some ⟨w.heap.size, 0, none⟩) 1 1) ([s].map strV) := by
  refine ⟨_, 1, rfl, by simp, by omega, fun _ => ⟨_, _, rfl, by simp, fun i v hi => ?_⟩⟩
  rw [World.cell?_alloc_mark]
  match i, hi with
  | 0, hi => exact hi
  | (_ + 1), hi => cases hi

theorem opened_yes (l : List UInt8) : opened (l, true) = .tuple #[.string (str l), .bool true] := rfl
theorem opened_no : opened ([], false) = .tuple #[.string ⟨#[]⟩, .bool false] := rfl

namespace Page
theorem lay_ab : (lay [97, 98]).length = 1 := by rw [lay_length, sealed_length]; decide +kernel
theorem lay_nil : (lay []).length = 1 := by rw [lay_length, sealed_length]; decide +kernel
theorem opn_ab : opn (lay [97, 98]) = ([97, 98], true) := by
  have := opn_lay [97, 98] [] (by decide)
  rwa [List.append_nil] at this
theorem opn_zeros : opn [List.replicate 32 0] = ([], false) := by decide +kernel
theorem need_0 : need 0 = 1 := by decide +kernel
theorem need_28 : need 28 = 2 := by decide +kernel
theorem need_minus : need (-1) = 0 := by decide +kernel
end Page

set_option maxRecDepth 100000 in
set_option maxHeartbeats 4000000 in
theorem fixed11 (w : World) : Calls Try.prog 53 #[] w fun e w' => e = .returned (.bool true) ∧ Ext w w' := by
  have h1 := lay_any ⟨#[97, 98]⟩ (by decide)
  have h2 := fun v w h => pageOpen_any ((Page.lay [97, 98]).map str) v w h (by rw [List.length_map, Page.lay_ab]; decide)
  have h3 := pageOpen_any [] (.slice none 0 0)
  have h4 := fun v w h => pageOpen_any [zeros] v w h (by decide)
  have h5 := need_any 0
  have h6 := need_any 28
  have h7 := need_any (-1)
  have h8 := lay_any ⟨#[]⟩ (by decide)
  rw [bts_str, Page.opn_ab, opened_yes, show str [97, 98] = ByteArray.mk #[97, 98] from rfl] at h2
  rw [show bts [] = [] from rfl, Page.opn_nil, opened_no] at h3
  rw [show bts [zeros] = [List.replicate 32 0] from rfl, Page.opn_zeros, opened_no] at h4
  rw [Page.need_0] at h5
  rw [Page.need_28] at h6
  rw [Page.need_minus] at h7
  rw [show (ByteArray.mk #[97, 98]).data.toList = [97, 98] from rfl] at h1
  rw [show (ByteArray.mk #[]).data.toList = [] from rfl] at h8
  have l1 := Page.lay_ab
  rw [← strs_length] at l1
  have l8 := Page.lay_nil
  rw [← strs_length] at l8
  rw [show ((Page.lay [97, 98]).map str).map strV = strs (Page.lay [97, 98]) from rfl] at h2
  generalize Page.lay [97, 98] = A at *
  generalize Page.lay [] = B at *
  replace h1 := Lib.hid h1; replace h2 := Lib.hid h2; replace h3 := Lib.hid h3; replace h4 := Lib.hid h4; replace h5 := Lib.hid h5; replace h6 := Lib.hid h6; replace h7 := Lib.hid h7; replace h8 := Lib.hid h8; replace l1 := Lib.hid l1; replace l8 := Lib.hid l8
  go_enter Try.func53, Try.ntmps53
  go_wp2_with fail
  refine (h1.out _).mono ?_; rintro e w1 ⟨v1, rfl, s1, x1⟩
  have s1' := Lib.hid s1
  obtain ⟨a1, c1, e1, _, hc1, _⟩ := s1
  rw [l1.out] at e1
  subst e1
  go_wp2_with fail
  refine (h2.out _ _ s1'.out).mono ?_; rintro e w2 ⟨rfl, x2⟩
  go_wp2_with fail
  refine (h3.out _ (Sl.nil _) (by decide)).mono ?_; rintro e w3 ⟨rfl, x3⟩
  go_wp2_with fail
  refine (zeros_any _).mono ?_; rintro e w4 ⟨rfl, x4⟩
  have y4 := ((x1.trans x2).trans x3).trans x4
  clear x1 x2 x3 x4
  go_wp2_with fail
  refine (h4.out _ _ (sl_one w4 zeros 9)).mono ?_; rintro e w5 ⟨rfl, x5⟩
  have y5 := (y4.alloc _).trans x5
  clear y4 x5
  go_wp2_with fail
  refine (h5.out _).mono ?_; rintro e w6 ⟨rfl, x6⟩
  go_wp2_with fail
  refine (h6.out _).mono ?_; rintro e w7 ⟨rfl, x7⟩
  go_wp2_with fail
  refine (h8.out _).mono ?_; rintro e w8 ⟨v8, rfl, s8, x8⟩
  obtain ⟨a8, c8, e8, _, hc8, _⟩ := s8
  rw [l8.out] at e8
  subst e8
  go_wp2_with fail
  refine (h7.out _).mono ?_; rintro e w9 ⟨rfl, x9⟩
  go_wp2_with fail
  go_ret
  exact ⟨rfl, (((y5.trans x6).trans x7).trans x8).trans x9⟩

end Go.Proofs.Ytehidhcpdiameaa
