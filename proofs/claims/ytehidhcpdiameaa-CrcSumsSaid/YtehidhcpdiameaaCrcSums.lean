/- The statement CrcSums: the law's own walk. -/
import Derived.Test.YtehidhcpdiameaaCrcFixed
namespace Go.Proofs.Ytehidhcpdiameaa
open Go.RowKit

theorem crcSums_walk (s : ByteArray) (c b : Int) (hs : s.size ≤ maxLen) (hr : s.size ≤ 140737488351232) (hc : 0 ≤ c ∧ c ≤ 4294967295) (hb : 0 ≤ b ∧ b ≤ 255) (w : World) :
    Calls Try.prog 3 #[.string s, .int .u32 c, .int .u8 b] w fun e w' => e = .returned (.bool true) ∧ Ext w w' := by
  obtain ⟨c, rfl⟩ := Int.eq_ofNat_of_zero_le hc.1
  obtain ⟨b, rfl⟩ := Int.eq_ofNat_of_zero_le hb.1
  have h1 := Lib.hid (open_any s hs)
  have h2 := Lib.hid (refOpen_any s hs)
  have h3 := Lib.hid (sum_any s hs)
  have h4 := Lib.hid (refSum_any s hs)
  have h5 := Lib.hid (add_any c b (by omega) (by omega))
  have h6 := Lib.hid (refAdd_any c b (by omega) (by omega))
  have h7 := Lib.hid (seal_any s (by omega))
  have h8 := Lib.hid (refSeal_any s (by omega))
  generalize Crc.opn s.data.toList = o at *
  generalize Crc.sum s.data.toList = x at *
  generalize Crc.seal_ s.data.toList = y at *
  generalize Crc.add c b = z at *
  clear hs hc hb hr
  go_enter Try.func3, Try.ntmps3
  go_wp2_with fail
  refine (h1.out _).mono ?_; rintro e w1 ⟨rfl, x1⟩
  go_wp2_with fail
  refine (h2.out _).mono ?_; rintro e w2 ⟨rfl, x2⟩
  go_wp2_with fail
  refine (fixed02 _).mono ?_; rintro e w3 ⟨rfl, x3⟩
  go_wp2_with fail
  refine (h3.out _).mono ?_; rintro e w4 ⟨rfl, rfl⟩
  go_wp2_with fail
  refine (h4.out _).mono ?_; rintro e w4 ⟨rfl, rfl⟩
  go_wp2_with fail
  refine (h5.out _).mono ?_; rintro e w4 ⟨rfl, rfl⟩
  go_wp2_with fail
  refine (h6.out _).mono ?_; rintro e w4 ⟨rfl, rfl⟩
  go_wp2_with fail
  refine (h7.out _).mono ?_; rintro e w4 ⟨rfl, x4⟩
  go_wp2_with fail
  refine (h8.out _).mono ?_; rintro e w5 ⟨rfl, x5⟩
  go_wp2_with fail
  go_ret
  exact ⟨rfl, (((x1.trans x2).trans x3).trans x4).trans x5⟩

end Go.Proofs.Ytehidhcpdiameaa
