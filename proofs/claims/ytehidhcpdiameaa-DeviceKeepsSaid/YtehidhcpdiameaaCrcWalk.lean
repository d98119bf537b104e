/- The walks of layer 2: what Add, Sum, Seal and Open of the program compute. -/
import Derived.Test.YtehidhcpdiameaaKit
import Derived.Test.YtehidhcpdiameaaCrcMath
namespace Go.Proofs.Ytehidhcpdiameaa
open Go.RowKit

theorem and_one_u32 (x : Nat) (hx : x < 4294967296) : bits .and .u32 (x : Int) 1 = ((x % 2 : Nat) : Int) := by
  have := u32_and_nat x 1 hx (by omega)
  rw [Nat.and_one_is_mod] at this
  exact this

theorem steps_snoc (n x : Nat) : Crc.steps (n + 1) x = Crc.step (Crc.steps n x) := by
  rw [Crc.steps_add n 1 x]
  rw [Crc.steps, Crc.steps]

theorem add_any (c b : Nat) (hc : c < 4294967296) (hb : b < 256) (w : World) :
    Calls Try.prog 33 #[.int .u32 c, .int .u8 b] w fun e w' => e = .returned (.int .u32 (Crc.add c b)) ∧ w = w' := by
  have hx := u32_xor_nat c b hc (by omega)
  go_enter Try.func33, Try.ntmps33
  go_wp2
  go_loop [0, 10] (fun c' i => ∃ k : Nat, k ≤ 8 ∧ i = .int .i64 k ∧ c' = .int .u32 (Crc.steps k (c ^^^ b) : Nat)) (fun _ i => 8 - (intOf i).toNat)
  case atStart => exact ⟨0, by omega, rfl, by rw [Crc.steps]⟩
  case round =>
    obtain ⟨k, hk, rfl, rfl⟩ := hrel
    have hlt := Crc.steps_lt k (Crc.xor_lt32 hc (show b < 4294967296 by omega))
    have hs := steps_snoc k (c ^^^ b)
    generalize hxx0 : Crc.steps k (c ^^^ b) = x at *
    have hxx := Lib.hid hxx0
    clear hxx0
    have ha := and_one_u32 x hlt
    go_wp2
    · have h1 : ((x : Int) % 2 == 1) = true := by assumption
      have h2 : bits BinOp.xor IntKind.u32 ((x : Int) / 2) 3988292384 = ((x / 2 ^^^ 3988292384 : Nat) : Int) := u32_xor_nat (x / 2) 3988292384 (by omega) (by omega)
      go_round
      case rel => exact ⟨k + 1, by omega, by go_num, by rw [hs, h2, Crc.step_odd (by rw [beq_iff_eq] at h1; omega)]⟩
      case measure => simp [intOf]; omega
    · have h1 : ((x : Int) % 2 == 1) = false := by assumption
      go_round
      case rel => exact ⟨k + 1, by omega, by go_num, by rw [hs, Crc.step_even (by rw [beq_eq_false_iff_ne] at h1; omega)]; rfl⟩
      case measure => simp [intOf]; omega
    · have h8 : k = 8 := by have : (8 : Int) ≤ k := by assumption
                            omega
      go_ret
      exact ⟨ret_int (by rw [show Crc.add c b = x from by unfold Crc.add; rw [← h8]; exact hxx.out]), rfl⟩

theorem refAdd_any (c b : Nat) (hc : c < 4294967296) (hb : b < 256) (w : World) :
    Calls Try.prog 34 #[.int .u32 c, .int .u8 b] w fun e w' => e = .returned (.int .u32 (Crc.add c b)) ∧ w = w' := by
  have hx := u32_xor_nat c b hc (by omega)
  go_enter Try.func34, Try.ntmps34
  go_wp2
  go_loop [0, 5] (fun c' i => ∃ k : Nat, k ≤ 8 ∧ i = .int .i64 k ∧ c' = .int .u32 (Crc.steps k (c ^^^ b) : Nat)) (fun _ i => 8 - (intOf i).toNat)
  case atStart => exact ⟨0, by omega, rfl, by rw [Crc.steps]⟩
  case round =>
    obtain ⟨k, hk, rfl, rfl⟩ := hrel
    have hlt := Crc.steps_lt k (Crc.xor_lt32 hc (show b < 4294967296 by omega))
    have hs := steps_snoc k (c ^^^ b)
    generalize hxx0 : Crc.steps k (c ^^^ b) = x at *
    have hxx := Lib.hid hxx0
    clear hxx0
    go_wp2
    · have h1 : ((x : Int) % 2 == 1) = true := by assumption
      have h2 : bits BinOp.xor IntKind.u32 ((x : Int) / 2) 3988292384 = ((x / 2 ^^^ 3988292384 : Nat) : Int) := u32_xor_nat (x / 2) 3988292384 (by omega) (by omega)
      go_round
      case rel => exact ⟨k + 1, by omega, by go_num, by rw [hs, h2, Crc.step_odd (by rw [beq_iff_eq] at h1; omega)]⟩
      case measure => simp [intOf]; omega
    · have h1 : ((x : Int) % 2 == 1) = false := by assumption
      go_round
      case rel => exact ⟨k + 1, by omega, by go_num, by rw [hs, Crc.step_even (by rw [beq_eq_false_iff_ne] at h1; omega)]; rfl⟩
      case measure => simp [intOf]; omega
    · have h8 : k = 8 := by have : (8 : Int) ≤ k := by assumption
                            omega
      go_ret
      exact ⟨ret_int (by rw [show Crc.add c b = x from by unfold Crc.add; rw [← h8]; exact hxx.out]), rfl⟩

theorem reg_take (c : Nat) (s : ByteArray) (k : Nat) (h : k < s.size) :
    Crc.reg c (s.data.toList.take (k + 1)) = Crc.add (Crc.reg c (s.data.toList.take k)) (s[k]'h).toNat := by
  rw [take_snoc s k h, Crc.reg_append]; rfl

theorem sum_any (s : ByteArray) (hs : s.size ≤ maxLen) (w : World) :
    Calls Try.prog 31 #[.string s] w fun e w' => e = .returned (.int .u32 (Crc.sum s.data.toList)) ∧ w = w' := by
  unfold maxLen at hs
  go_enter Try.func31, Try.ntmps31
  go_wp2
  go_loop [3, 7] (fun c i => ∃ k : Nat, k ≤ s.size ∧ i = .int .i64 k ∧ c = .int .u32 (Crc.reg 4294967295 (s.data.toList.take k) : Nat)) (fun _ i => s.size - (intOf i).toNat)
  case atStart => exact ⟨0, by omega, rfl, rfl⟩
  case round =>
    obtain ⟨k, hk, rfl, rfl⟩ := hrel
    have hlt := Crc.reg_lt (s.data.toList.take k) (c := 4294967295) (by decide)
    by_cases hkl : k < s.size
    · have hr := Lib.hid (reg_take 4294967295 s k hkl)
      generalize Crc.reg 4294967295 (s.data.toList.take k) = x at *
      have hb := (s[k]).toNat_lt
      go_wp2_with (go_at_call 33; refine (add_any _ _ hlt hb _).mono ?_; rintro e w' ⟨rfl, rfl⟩)
      go_round
      case rel => exact ⟨k + 1, by omega, by go_num, by rw [hr.out]⟩
      case measure => simp [intOf]; omega
    · have hend : s.data.toList.take k = s.data.toList := List.take_of_length_le (by rw [size_list]; omega)
      rw [hend] at hlt
      have hx := Lib.hid (u32_xor_nat 4294967295 _ (by omega) hlt)
      go_wp2
      go_ret
      exact ⟨ret_int (by rw [Crc.sum_eq, Nat.xor_comm]; exact hx.out), rfl⟩

theorem refSum_any (s : ByteArray) (hs : s.size ≤ maxLen) (w : World) :
    Calls Try.prog 32 #[.string s] w fun e w' => e = .returned (.int .u32 (Crc.sum s.data.toList)) ∧ w = w' := by
  unfold maxLen at hs
  go_enter Try.func32, Try.ntmps32
  go_wp2
  go_loop [3, 4] (fun c i => ∃ k : Nat, k ≤ s.size ∧ i = .int .i64 k ∧ c = .int .u32 (Crc.reg 4294967295 (s.data.toList.take k) : Nat)) (fun _ i => s.size - (intOf i).toNat)
  case atStart => exact ⟨0, by omega, rfl, rfl⟩
  case round =>
    obtain ⟨k, hk, rfl, rfl⟩ := hrel
    have hlt := Crc.reg_lt (s.data.toList.take k) (c := 4294967295) (by decide)
    by_cases hkl : k < s.size
    · have hr := Lib.hid (reg_take 4294967295 s k hkl)
      generalize Crc.reg 4294967295 (s.data.toList.take k) = x at *
      have hb := (s[k]).toNat_lt
      go_wp2_with (go_at_call 34; refine (refAdd_any _ _ hlt hb _).mono ?_; rintro e w' ⟨rfl, rfl⟩)
      go_round
      case rel => exact ⟨k + 1, by omega, by go_num, by rw [hr.out]⟩
      case measure => simp [intOf]; omega
    · have hend : s.data.toList.take k = s.data.toList := List.take_of_length_le (by rw [size_list]; omega)
      rw [hend] at hlt
      go_wp2
      go_ret
      exact ⟨ret_int (by unfold Crc.sum; omega), rfl⟩

/-- four bytes that were just laid, as a text. -/
theorem run_four (x : Nat) (hx : x < 4294967296) (w : World) :
    (Go.convert 33 9 (.slice (some ⟨w.heap.size, 0, none⟩) 4 4)).run Try.prog
      (w.alloc (.cells #[.int .u8 ((x : Int) % 256), .int .u8 ((x : Int) / 256 % 256), .int .u8 ((x : Int) / 65536 % 256), .int .u8 ((x : Int) / 16777216)] 5)) =
    .ok (.string (str (Crc.four x)))
      (w.alloc (.cells #[.int .u8 ((x : Int) % 256), .int .u8 ((x : Int) / 256 % 256), .int .u8 ((x : Int) / 65536 % 256), .int .u8 ((x : Int) / 16777216)] 5)) := by
  rw [run_convert_bytes_arg _ 33 5 Try.underlying33 Try.underlying5 w.heap.size 0 4 4 [(x : Int) % 256, (x : Int) / 256 % 256, (x : Int) / 65536 % 256, (x : Int) / 16777216] rfl ?_ 9 Try.underlying9]
  · congr 2
    unfold strOfNums str Crc.four
    simp only [List.map_cons, List.map_nil]
    have e1 : ((x : Int) % 256).toNat = x % 256 := by omega
    have e2 : ((x : Int) / 256 % 256).toNat = x / 256 % 256 := by omega
    have e3 : ((x : Int) / 65536 % 256).toNat = x / 65536 % 256 := by omega
    have e4 : ((x : Int) / 16777216).toNat = x / 16777216 := by omega
    rw [e1, e2, e3, e4]
    have m : ∀ n : Nat, UInt8.ofNat (n % 256) = UInt8.ofNat n := fun n => UInt8.toNat_inj.1 (by simp)
    rw [m, m, m]
  · intro i hi
    rw [Nat.zero_add, World.cell?_alloc_mark]
    match i, hi with
    | 0, _ => rfl
    | 1, _ => rfl
    | 2, _ => rfl
    | 3, _ => rfl

set_option maxRecDepth 100000 in
theorem seal_any (s : ByteArray) (hs : s.size ≤ 9223372036854775803) (w : World) :
    Calls Try.prog 35 #[.string s] w fun e w' => e = .returned (.string (str (Crc.seal_ s.data.toList))) ∧ Ext w w' := by
  have hm : s.size ≤ maxLen := by unfold maxLen; omega
  have hc := sum_any s hm
  have hlt := Crc.sum_lt s.data.toList
  have hsl : str (Crc.seal_ s.data.toList) = s ++ str (Crc.four (Crc.sum s.data.toList)) := by
    unfold Crc.seal_ str
    rw [← ByteArray.mk_append_mk]
  generalize hx0 : Crc.sum s.data.toList = x at *
  have hfour := run_four x hlt
  have hx := Lib.hid hx0
  have HC := Lib.hid hc
  have HS := Lib.hid hsl
  have hsz : (str (Crc.four x)).size = 4 := rfl
  clear hc hx0 hsl
  go_enter Try.func35, Try.ntmps35
  go_wp2_with (go_at_call 31; refine (HC.out _).mono ?_; rintro e w' ⟨rfl, rfl⟩)
  go_ret
  exact ⟨ret_string HS.out.symm, (Ext.refl _).alloc _⟩

set_option maxRecDepth 100000 in
theorem refSeal_any (s : ByteArray) (hs : s.size ≤ 9223372036854775803) (w : World) :
    Calls Try.prog 36 #[.string s] w fun e w' => e = .returned (.string (str (Crc.seal_ s.data.toList))) ∧ Ext w w' := by
  have hm : s.size ≤ maxLen := by unfold maxLen; omega
  have hc := refSum_any s hm
  have hlt := Crc.sum_lt s.data.toList
  have hsl : str (Crc.seal_ s.data.toList) = s ++ str (Crc.four (Crc.sum s.data.toList)) := by
    unfold Crc.seal_ str
    rw [← ByteArray.mk_append_mk]
  generalize hx0 : Crc.sum s.data.toList = x at *
  have hfour := run_four x hlt
  have hx := Lib.hid hx0
  have HC := Lib.hid hc
  have HS := Lib.hid hsl
  have hsz : (str (Crc.four x)).size = 4 := rfl
  clear hc hx0 hsl
  go_enter Try.func36, Try.ntmps36
  go_wp2_with (go_at_call 32; refine (HC.out _).mono ?_; rintro e w' ⟨rfl, rfl⟩)
  go_ret
  exact ⟨ret_string HS.out.symm, (Ext.refl _).alloc _⟩

end Go.Proofs.Ytehidhcpdiameaa
