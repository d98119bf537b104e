/- The walks of layer 12, on: the fixed calls. -/
import Derived.Test.YtehidhcpdiameaaSuperChoose
namespace Go.Proofs.Ytehidhcpdiameaa
open Go.RowKit

namespace Super
theorem opn_short (s : List UInt8) (h : ¬ s.length = 32) : opn s = ((0, 0, 0), false) := opn_no1 s (congrArg Prod.snd (Page.opn_first s [] h))
theorem choose_lay (x y : S3) (hx : ok x = true) (hy : ok y = true) : choose (lay x) (lay y) = if x.1 < y.1 then (y, 1, true) else (x, 0, true) := by
  unfold choose
  rw [opn_lay x hx, opn_lay y hy]
  by_cases h : x.1 < y.1
  · rw [if_pos h, if_pos (by simp [h])]
  · rw [if_neg h, if_neg (by simp; omega), if_pos rfl]
theorem choose_right (s : List UInt8) (y : S3) (hs : (opn s).2 = false) (hy : ok y = true) : choose s (lay y) = (y, 1, true) := by
  unfold choose
  rw [hs, opn_lay y hy]
  rfl
end Super

theorem isEmpty_str (l : List UInt8) : (str l).toList.isEmpty = l.isEmpty := by rw [toList_str]

set_option maxRecDepth 100000 in
set_option maxHeartbeats 4000000 in
theorem fixed12 (w : World) : Calls Try.prog 82 #[] w fun e w' => e = .returned (.bool true) ∧ Ext w w' := by
  have oa : Super.ok (1, 0, 5) = true := by decide
  have ob : Super.ok (2, 1, 0) = true := by decide
  have h1 := superLay_any (1, 0, 5)
  have h2 := superLay_any (2, 1, 0)
  have h3 := superLay_any (0, 0, 0)
  rw [Super.lay_no (0, 0, 0) (by decide), show str [] = ByteArray.mk #[] from rfl] at h3
  have h4 := superChoose_any (str (Super.lay (1, 0, 5))) (str (Super.lay (2, 1, 0)))
  rw [list_str, list_str, Super.choose_lay _ _ oa ob, if_pos (by decide)] at h4
  have h5 := superOpen_any (str (Super.lay (1, 0, 5)))
  rw [list_str, Super.opn_lay _ oa] at h5
  have h6 := superChoose_any ⟨#[]⟩ ⟨#[97]⟩
  rw [show Super.choose (ByteArray.mk #[]).data.toList (ByteArray.mk #[97]).data.toList = ((0, 0, 0), 0, false) from by
    unfold Super.choose
    rw [Super.opn_short (ByteArray.mk #[]).data.toList (by decide), Super.opn_short (ByteArray.mk #[97]).data.toList (by decide)]
    rfl] at h6
  have hz : (str (Super.lay (1, 0, 5))).size = 32 := by rw [str_size, Super.lay_length _ oa]
  unfold choV at h4 h6
  unfold supV at h5
  dsimp only at h1 h2 h3 h4 h5 h6
  generalize str (Super.lay (1, 0, 5)) = A at *
  generalize str (Super.lay (2, 1, 0)) = B at *
  replace h1 := Lib.hid h1; replace h2 := Lib.hid h2; replace h3 := Lib.hid h3; replace h4 := Lib.hid h4; replace h5 := Lib.hid h5; replace h6 := Lib.hid h6
  have hzi : ((A.size : Int) == 32) = true := by simp; omega
  replace hz := Lib.hid hz
  go_enter Try.func82, Try.ntmps82
  go_wp2_with fail
  refine (h1.out _).mono ?_; rintro e w1 ⟨rfl, x1⟩
  go_wp2_with fail
  refine (h2.out _).mono ?_; rintro e w2 ⟨rfl, x2⟩
  go_wp2_with fail
  refine (h4.out _).mono ?_; rintro e w3 ⟨rfl, x3⟩
  have b3 := Box.new w3 [.int .i64 2, .int .i64 1, .int .i64 0] 94
  have y3 := Lib.hid (((x1.trans x2).trans x3).alloc (.cells #[.int .i64 2, .int .i64 1, .int .i64 0] 94))
  clear x1 x2 x3
  go_wp2_with fail
  refine (h5.out _).mono ?_; rintro e w4 ⟨rfl, x4⟩
  replace b3 := (b3.ext x4).alloc (.cells #[.int .i64 1, .int .i64 0, .int .i64 5] 94)
  have b4 := Box.new w4 [.int .i64 1, .int .i64 0, .int .i64 5] 94
  replace y3 := Lib.hid ((y3.out.trans x4).alloc (.cells #[.int .i64 1, .int .i64 0, .int .i64 5] 94))
  clear x4
  go_wp2_with fail
  refine (h6.out _).mono ?_; rintro e w5 ⟨rfl, x5⟩
  replace b3 := (b3.ext x5).alloc (.cells #[.int .i64 0, .int .i64 0, .int .i64 0] 94)
  replace b4 := (b4.ext x5).alloc (.cells #[.int .i64 0, .int .i64 0, .int .i64 0] 94)
  replace y3 := Lib.hid ((y3.out.trans x5).alloc (.cells #[.int .i64 0, .int .i64 0, .int .i64 0] 94))
  clear x5
  obtain ⟨i1, i2, i3, _, _, _⟩ := b3.at3
  obtain ⟨j1, j2, j3, _, _, _⟩ := b4.at3
  replace b3 := Lib.hid b3; replace b4 := Lib.hid b4
  go_wp2_with fail
  refine (h3.out _).mono ?_; rintro e w6 ⟨rfl, x6⟩
  go_wp2_with fail
  go_ret
  exact ⟨rfl, y3.out.trans x6⟩
end Go.Proofs.Ytehidhcpdiameaa
