/- The statement CrcLonger: the law's own walk. -/
import Derived.Test.YtehidhcpdiameaaCrcFixed
import Derived.Test.YtehidhcpdiameaaSoft
namespace Go.Proofs.Ytehidhcpdiameaa
open Go.RowKit

theorem crcLonger_long (s : ByteArray) (b : Nat) (hl : 10000 < s.size) (w : World) :
    Calls Try.prog 7 #[.string s, .int .u8 b] w fun e w' => e = .returned (.bool true) ∧ Ext w w' := by
  have hl' : (10000 : Int) < s.size := by omega
  go_enter Try.func7, Try.ntmps7
  go_wp2_with fail
  refine (fixed02 _).mono ?_; rintro e w1 ⟨rfl, x1⟩
  go_wp2_with fail
  refine (fixed02 _).mono ?_; rintro e w2 ⟨rfl, x2⟩
  go_wp2_with fail
  go_ret
  exact ⟨rfl, x1.trans x2⟩

set_option maxHeartbeats 4000000 in
theorem crcLonger_short (s : ByteArray) (b : UInt8) (hl : s.size ≤ 10000) (w : World) :
    Calls Try.prog 7 #[.string s, .int .u8 b.toNat] w fun e w' => e = .returned (.bool true) ∧ Ext w w' := by
  have hl' : ¬ (10000 : Int) < s.size := by omega
  have h1 := seal_any s (by omega)
  have h1r := refSeal_any s (by omega)
  have h2 := seal_any (str (Crc.seal_ s.data.toList)) (by rw [str_size, Crc.seal_length, size_list]; omega)
  have h3 := open_any (str (Crc.seal_ (Crc.seal_ s.data.toList))) (by rw [str_size, Crc.seal_length, Crc.seal_length, size_list]; unfold maxLen; omega)
  have h4 := open_any (str (Crc.seal_ s.data.toList)) (by rw [str_size, Crc.seal_length, size_list]; unfold maxLen; omega)
  have h5 := open_any (str (Crc.seal_ s.data.toList) ++ str [b]) (by rw [ByteArray.size_append, str_size, str_size, Crc.seal_length, size_list]; unfold maxLen; simp; omega)
  have h6 := refOpen_any (str (Crc.seal_ s.data.toList) ++ str [b]) (by rw [ByteArray.size_append, str_size, str_size, Crc.seal_length, size_list]; unfold maxLen; simp; omega)
  rw [list_str] at h2
  rw [list_str, Crc.opn_seal] at h3
  rw [list_str, Crc.opn_seal, str_list] at h4
  have hone := run_one b
  have hsz : (str (Crc.seal_ s.data.toList)).size ≤ 10004 := by rw [str_size, Crc.seal_length, size_list]; omega
  have hsz1 : (str [b]).size = 1 := rfl
  have hself : (s.toList == s.toList) = true := beq_self_eq_true _
  generalize Crc.opn (str (Crc.seal_ s.data.toList) ++ str [b]).data.toList = o at *
  generalize str (Crc.seal_ (Crc.seal_ s.data.toList)) = S2 at *
  generalize str (Crc.seal_ s.data.toList) = S at *
  generalize str [b] = B at *
  have hns : ¬ 9223372036854775807 < S.size + 1 := by omega
  replace h1 := Lib.hid h1; replace h1r := Lib.hid h1r; replace h2 := Lib.hid h2; replace h3 := Lib.hid h3; replace h4 := Lib.hid h4; replace h5 := Lib.hid h5; replace h6 := Lib.hid h6
  go_enter Try.func7, Try.ntmps7
  go_wp2_with fail
  refine (fixed02 _).mono ?_; rintro e w1 ⟨rfl, x1⟩
  go_wp2_with fail
  refine (h1.out _).mono ?_; rintro e w2 ⟨rfl, x2⟩
  go_wp2_with fail
  refine (h2.out _).mono ?_; rintro e w3 ⟨rfl, x3⟩
  go_wp2_with fail
  refine (h3.out _).mono ?_; rintro e w4 ⟨rfl, x4⟩
  go_wp2_with fail
  refine (h4.out _).mono ?_; rintro e w5 ⟨rfl, x5⟩
  have x := (((x1.trans x2).trans x3).trans x4).trans x5
  clear x1 x2 x3 x4 x5
  go_wp2_with fail
  refine Soft.region_ext [(3, Soft.row 1 1 [.int .u8 b.toNat])] [0, 1, 2, 3, 4, 5, 6, 7, 8, 9, 10, 11] [] (by kernel_rfl) (by kernel_rfl) (Soft.stab_one fun _ _ _ => Soft.row_stab) ?_
  repeat (refine Soft.pure_step rfl rfl rfl (fun K hK => ?_); go_simp; refine hK _ ?_; clear hK K)
  (refine Soft.quiet_step0 rfl rfl rfl (fun K hK => ?_); go_simp; apply Exists.intro; refine ⟨fun wq hq => ?_, hK _ ?_⟩; exact h1.out _; clear hK K)
  repeat (refine Soft.pure_step rfl rfl rfl (fun K hK => ?_); go_simp; refine hK _ ?_; clear hK K)
  refine Soft.loud_step0 rfl rfl rfl rfl (fun K hK => ?_)
  refine ⟨fun wq hq => ?_, fun u ⟨n, hu⟩ => hK _ ?_⟩
  · go_simp
    exact ⟨(Ext.refl _).alloc _, ⟨_, rfl⟩, Soft.row_new⟩
  clear hK K
  subst hu
  refine Soft.quiet_step rfl rfl rfl (fun K hK => ?_)
  go_simp
  apply Exists.intro
  refine ⟨fun wq hq hk => ?_, hK _ ?_⟩
  · have hc := (Soft.row_cell (hk.get 3 (by kernel_rfl) rfl rfl)).2 0 _ rfl
    clear hk
    go_simp
    rfl
  clear hK K
  repeat (refine Soft.pure_step rfl rfl rfl (fun K hK => ?_); go_simp; refine hK _ ?_; clear hK K)
  (refine Soft.quiet_step0 rfl rfl rfl (fun K hK => ?_); go_simp; apply Exists.intro; refine ⟨fun wq hq => ?_, hK _ ?_⟩; exact h5.out _; clear hK K)
  repeat (refine Soft.pure_step rfl rfl rfl (fun K hK => ?_); go_simp; refine hK _ ?_; clear hK K)
  refine Soft.ends (by kernel_rfl) (fun w6 x6 _ => ?_)
  go_wp2_with fail
  refine Soft.region_ext [(3, Soft.row 1 1 [.int .u8 b.toNat])] [0, 1, 2, 3, 4, 5, 6, 7, 8, 9, 10, 11] [] (by kernel_rfl) (by kernel_rfl) (Soft.stab_one fun _ _ _ => Soft.row_stab) ?_
  repeat (refine Soft.pure_step rfl rfl rfl (fun K hK => ?_); go_simp; refine hK _ ?_; clear hK K)
  (refine Soft.quiet_step0 rfl rfl rfl (fun K hK => ?_); go_simp; apply Exists.intro; refine ⟨fun wq hq => ?_, hK _ ?_⟩; exact h1r.out _; clear hK K)
  repeat (refine Soft.pure_step rfl rfl rfl (fun K hK => ?_); go_simp; refine hK _ ?_; clear hK K)
  refine Soft.loud_step0 rfl rfl rfl rfl (fun K hK => ?_)
  refine ⟨fun wq hq => ?_, fun u ⟨n, hu⟩ => hK _ ?_⟩
  · go_simp
    exact ⟨(Ext.refl _).alloc _, ⟨_, rfl⟩, Soft.row_new⟩
  clear hK K
  subst hu
  refine Soft.quiet_step rfl rfl rfl (fun K hK => ?_)
  go_simp
  apply Exists.intro
  refine ⟨fun wq hq hk => ?_, hK _ ?_⟩
  · have hc := (Soft.row_cell (hk.get 3 (by kernel_rfl) rfl rfl)).2 0 _ rfl
    clear hk
    go_simp
    rfl
  clear hK K
  repeat (refine Soft.pure_step rfl rfl rfl (fun K hK => ?_); go_simp; refine hK _ ?_; clear hK K)
  (refine Soft.quiet_step0 rfl rfl rfl (fun K hK => ?_); go_simp; apply Exists.intro; refine ⟨fun wq hq => ?_, hK _ ?_⟩; exact h6.out _; clear hK K)
  repeat (refine Soft.pure_step rfl rfl rfl (fun K hK => ?_); go_simp; refine hK _ ?_; clear hK K)
  refine Soft.ends (by kernel_rfl) (fun w7 x7 _ => ?_)
  go_wp2_with fail
  go_ret
  exact ⟨rfl, (x.trans x6).trans x7⟩

theorem crcLonger_walk (s : ByteArray) (b : Int) (_hs : s.size ≤ maxLen) (_hr : s.size ≤ 140737488351232) (hb : 0 ≤ b ∧ b ≤ 255) (w : World) :
    Calls Try.prog 7 #[.string s, .int .u8 b] w fun e w' => e = .returned (.bool true) ∧ Ext w w' := by
  obtain ⟨b, rfl⟩ := Int.eq_ofNat_of_zero_le hb.1
  by_cases hl : s.size ≤ 10000
  · have := crcLonger_short s (UInt8.ofNat b) hl w
    rw [UInt8.toNat_ofNat', Nat.mod_eq_of_lt (by omega)] at this
    exact this
  · exact crcLonger_long s b (by omega) w

end Go.Proofs.Ytehidhcpdiameaa
