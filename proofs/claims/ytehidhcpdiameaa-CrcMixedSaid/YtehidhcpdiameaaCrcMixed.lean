/- The statement CrcMixed: the law's own walk. -/
import Derived.Test.YtehidhcpdiameaaCrcFixed
import Derived.Test.YtehidhcpdiameaaSoft
namespace Go.Proofs.Ytehidhcpdiameaa
open Go.RowKit

/-- three texts, turned together. -/
def mix3 (a b c : List UInt8) : List UInt8 := Crc.mix (Crc.mix a b) c
theorem mix3_length (a b c : List UInt8) (n : Nat) (ha : a.length = n) (hb : b.length = n) (hc : c.length = n) : (mix3 a b c).length = n := by
  simp [mix3, Crc.mix, ha, hb, hc]
theorem mix3_at (a b c : ByteArray) (n k : Nat) (hn : k < n) (ha : n ≤ a.size) (hb : n ≤ b.size) (hc : n ≤ c.size) :
    (mix3 (a.data.toList.take n) (b.data.toList.take n) (c.data.toList.take n)).take (k + 1) =
      (mix3 (a.data.toList.take n) (b.data.toList.take n) (c.data.toList.take n)).take k ++ [a[k] ^^^ b[k] ^^^ c[k]] := by
  have hl := mix3_length (a.data.toList.take n) (b.data.toList.take n) (c.data.toList.take n) n (by rw [List.length_take, size_list]; omega) (by rw [List.length_take, size_list]; omega) (by rw [List.length_take, size_list]; omega)
  rw [List.take_succ_eq_append_getElem (by omega)]
  congr 2
  simp only [mix3, Crc.mix, List.getElem_zipWith, List.getElem_take]
  rfl

theorem xor_byte (x y : UInt8) : bits BinOp.xor IntKind.u8 (x.toNat : Int) (y.toNat : Int) = ((x.toNat ^^^ y.toNat : Nat) : Int) :=
  u8_xor_nat x.toNat y.toNat x.toNat_lt y.toNat_lt

theorem take_str (s : ByteArray) (n : Nat) : (s.extract 0 n).data.toList = s.data.toList.take n := extract_head s n

set_option maxRecDepth 100000 in
set_option maxHeartbeats 4000000 in
theorem crcMixed_walk (a b c : ByteArray) (_ha : a.size ≤ maxLen) (hra : a.size ≤ 140737488351232) (_hb : b.size ≤ maxLen) (_hrb : b.size ≤ 140737488351232) (_hc : c.size ≤ maxLen) (_hrc : c.size ≤ 140737488351232) (w : World) :
    Calls Try.prog 5 #[.string a, .string b, .string c] w fun e w' => e = .returned (.bool true) ∧ Ext w w' := by
  clear _ha _hb _hc _hrb _hrc
  obtain ⟨n, hn⟩ : ∃ n, n = min a.size (min b.size c.size) := ⟨_, rfl⟩
  have hna : n ≤ a.size := by omega
  have hnb : n ≤ b.size := by omega
  have hnc : n ≤ c.size := by omega
  replace hn := Lib.hid hn
  obtain ⟨X, hX⟩ : ∃ X, X = mix3 (a.data.toList.take n) (b.data.toList.take n) (c.data.toList.take n) := ⟨_, rfl⟩
  have hXl : X.length = n := by rw [hX]; exact mix3_length _ _ _ _ (by rw [List.length_take, size_list]; omega) (by rw [List.length_take, size_list]; omega) (by rw [List.length_take, size_list]; omega)
  have hXs : ∀ k (h : k < n), X.take (k + 1) = X.take k ++ [a[k]'(by omega) ^^^ b[k]'(by omega) ^^^ c[k]'(by omega)] := fun k h => by have := mix3_at a b c n k h hna hnb hnc; rw [← hX] at this; exact this
  have hXsum := Crc.sum_mix (a.data.toList.take n) (b.data.toList.take n) (c.data.toList.take n) (by simp only [List.length_take, size_list]; omega) (by simp only [List.length_take, size_list]; omega)
  rw [show Crc.mix (Crc.mix (a.data.toList.take n) (b.data.toList.take n)) (c.data.toList.take n) = X from hX.symm] at hXsum
  obtain ⟨i0, hi, hz0, hz1, hz2⟩ := info_parts info5
  replace hXs := Lib.hid hXs; replace hXsum := Lib.hid hXsum; replace hX := Lib.hid hX; replace hXl := Lib.hid hXl
  go_enter Try.func5, Try.ntmps5
  go_upto_region 2 with fail
  go_cut [7, 8] from 10 to 18 (fun s7 s8 wc => s7 = .int .i64 n ∧ s8 = .slice (some ⟨w.heap.size, 0, none⟩) 0 0 ∧ wc = w.alloc (.cells #[] 5))
  case first =>
    go_wp2
    all_goals (go_meet; exact ⟨by have := hn.out; congr 1; omega, rfl, rfl⟩)
  case rest =>
    obtain ⟨rfl, rfl, rfl⟩ := hcut
    go_wp2
    go_loopw [8, 9] (fun l i wr => ∃ k : Nat, k ≤ n ∧ i = .int .i64 k ∧ wr.ownsRow w.heap.size 5 1 l k ((X.take k).map byteV) ∧ Ext w wr) (fun _ i _ => n - (intOf i).toNat)
    case atStart =>
      exact ⟨0, by omega, rfl, ownsRow_fresh _ _ _, (Ext.refl _).alloc _⟩
    case round =>
      obtain ⟨k, hk, rfl, hown, hx⟩ := hrel
      by_cases hkn : k < n
      · have hka : k < a.size := by omega
        have hkb : k < b.size := by omega
        have hkc : k < c.size := by omega
        have hs := Lib.hid (hXs.out k hkn)
        have hx1 := xor_byte a[k] b[k]
        have hx2 := xor_byte (a[k] ^^^ b[k]) c[k]
        rw [UInt8.toNat_xor] at hx2
        have hbv : byteV (a[k] ^^^ b[k] ^^^ c[k]) = .int .u8 ((a[k].toNat ^^^ b[k].toNat ^^^ c[k].toNat : Nat) : Int) := by unfold byteV; rw [UInt8.toNat_xor, UInt8.toNat_xor]
        replace hbv := Lib.hid hbv
        go_wp2_with fail
        refine Soft.region_ext [(12, Soft.row 1 1 [.int .u8 ((a[k].toNat ^^^ b[k].toNat ^^^ c[k].toNat : Nat) : Int)])] [0, 1, 2, 3, 4, 5, 6, 7, 8, 9, 10, 11, 12] [13, 14] (by kernel_rfl) (by kernel_rfl) (Soft.stab_one fun _ _ _ => Soft.row_stab) ?_
        repeat (refine Soft.pure_step rfl rfl rfl (fun K hK => ?_); go_simp; refine hK _ ?_; clear hK K)
        refine Soft.loud_step0 rfl rfl rfl rfl (fun K hK => ?_)
        refine ⟨fun wq hq => ?_, fun u ⟨m, hu⟩ => hK _ ?_⟩
        · go_simp
          exact ⟨(Ext.refl _).alloc _, ⟨_, rfl⟩, Soft.row_new⟩
        clear hK K
        subst hu
        refine Soft.tail_forced [_, _] (by kernel_rfl) rfl (fun w2 x2 hk2 => ?_)
        have hcell := (Soft.row_cell (hk2.get 12 rfl rfl)).2 0 _ rfl
        clear hk2
        refine wpList_append_own w2 rfl (.tmp 24) (.tmp 36) 33 rfl w.heap.size 5 i0 (.int .u8 0) 1 1 Try.underlying33 hi hz0 hz1 hz2 rfl (by decide) _ k _ rfl (ownsRow_ext hown x2) ⟨m, 0, none⟩ 1 1 _ rfl rfl (one_news hcell) ?h1 ?h2 ?h3 (hx.trans x2).size ?_
        case h1 => intro u hu; rw [List.mem_singleton] at hu; subst hu; rfl
        case h2 => unfold maxLen; omega
        case h3 => omega
        intro v' w3 hown3 hgrow _
        have x3 : Ext w w3 := (hx.trans x2).grown hgrow (ownBlock_ge hown)
        have hown4 : w3.ownsRow w.heap.size 5 1 v' (k + 1) ((X.take (k + 1)).map byteV) := by
          rw [hs.out, List.map_append, List.map_cons, List.map_nil, hbv.out]; exact hown3
        clear hown3 hgrow hown hcell
        go_wp2
        apply_assumption
        go_wp2
        go_roundw
        case rel => exact ⟨k + 1, by omega, by go_num, hown4, x3⟩
        case measure => simp [intOf]; omega
      · have hkn' : k = n := by omega
        subst hkn'
        have hend : X.take k = X := List.take_of_length_le (by rw [hXl.out]; omega)
        rw [hend] at hown
        have h1 := sum_any (str X) (by rw [str_size, hXl.out]; unfold maxLen; omega)
        have ea := extract_head a k
        have eb := extract_head b k
        have ec := extract_head c k
        have h2 := sum_any (a.extract 0 k) (by rw [← size_list, ea, List.length_take, size_list]; unfold maxLen; omega)
        have h3 := sum_any (b.extract 0 k) (by rw [← size_list, eb, List.length_take, size_list]; unfold maxLen; omega)
        have h4 := sum_any (c.extract 0 k) (by rw [← size_list, ec, List.length_take, size_list]; unfold maxLen; omega)
        rw [list_str] at h1
        rw [ea] at h2
        rw [eb] at h3
        rw [ec] at h4
        have l2 := Crc.sum_lt (a.data.toList.take k)
        have l3 := Crc.sum_lt (b.data.toList.take k)
        have l4 := Crc.sum_lt (c.data.toList.take k)
        have hsum := hXsum.out
        have hconv := fun wq (xq : Ext wr wq) => run_owned (ownsRow_ext hown xq) hXl.out
        generalize Crc.sum (a.data.toList.take k) = sa at *
        generalize Crc.sum (b.data.toList.take k) = sb at *
        generalize Crc.sum (c.data.toList.take k) = sc at *
        generalize Crc.sum X = sx at *
        have e1 := u32_xor_nat sa sb l2 l3
        have e2 := u32_xor_nat (sa ^^^ sb) sc (Crc.xor_lt32 l2 l3) l4
        have e3 : ((sx : Int) == ((sa ^^^ sb ^^^ sc : Nat) : Int)) = true := by rw [hsum]; exact beq_self_eq_true _
        replace h1 := Lib.hid h1; replace h2 := Lib.hid h2; replace h3 := Lib.hid h3; replace h4 := Lib.hid h4; replace hsum := Lib.hid hsum
        clear ea eb ec hend
        go_wp2_with fail
        refine Soft.region_ext [] [0, 1, 2, 3, 4, 5, 6, 7, 8, 9, 10, 11, 12, 13, 14, 15, 16, 17, 18, 19, 20, 21] [] (by kernel_rfl) (by kernel_rfl) Soft.stab_none ?_
        (refine Soft.quiet_step0 rfl rfl rfl (fun K hK => ?_); go_simp; apply Exists.intro; refine ⟨fun wq hq => ?_, hK _ ?_⟩; exact fixed02 _; clear hK K)
        repeat (refine Soft.pure_step rfl rfl rfl (fun K hK => ?_); go_simp; refine hK _ ?_; clear hK K)
        refine Soft.quiet_step0 rfl rfl rfl (fun K hK => ?_)
        go_simp
        apply Exists.intro
        refine ⟨fun wq hq => ?_, hK _ ?_⟩
        · rw [hconv wq hq]
          go_simp
          rfl
        clear hK K
        (refine Soft.quiet_step0 rfl rfl rfl (fun K hK => ?_); go_simp; apply Exists.intro; refine ⟨fun wq hq => ?_, hK _ ?_⟩; exact Soft.quiet_same (h1.out _); clear hK K)
        repeat (refine Soft.pure_step rfl rfl rfl (fun K hK => ?_); go_simp; refine hK _ ?_; clear hK K)
        (refine Soft.quiet_step0 rfl rfl rfl (fun K hK => ?_); go_simp; apply Exists.intro; refine ⟨fun wq hq => ?_, hK _ ?_⟩; exact Soft.quiet_same (h2.out _); clear hK K)
        repeat (refine Soft.pure_step rfl rfl rfl (fun K hK => ?_); go_simp; refine hK _ ?_; clear hK K)
        (refine Soft.quiet_step0 rfl rfl rfl (fun K hK => ?_); go_simp; apply Exists.intro; refine ⟨fun wq hq => ?_, hK _ ?_⟩; exact Soft.quiet_same (h3.out _); clear hK K)
        repeat (refine Soft.pure_step rfl rfl rfl (fun K hK => ?_); go_simp; refine hK _ ?_; clear hK K)
        (refine Soft.quiet_step0 rfl rfl rfl (fun K hK => ?_); go_simp; apply Exists.intro; refine ⟨fun wq hq => ?_, hK _ ?_⟩; exact Soft.quiet_same (h4.out _); clear hK K)
        repeat (refine Soft.pure_step rfl rfl rfl (fun K hK => ?_); go_simp; refine hK _ ?_; clear hK K)
        refine Soft.ends (by kernel_rfl) (fun w6 x6 _ => ?_)
        go_wp2_with fail
        go_ret
        exact ⟨rfl, hx.trans x6⟩

end Go.Proofs.Ytehidhcpdiameaa
