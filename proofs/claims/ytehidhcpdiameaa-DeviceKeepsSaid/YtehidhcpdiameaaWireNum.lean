/- The walks of layer 10: what Num of the program and of the reference compute. -/
import Derived.Test.YtehidhcpdiameaaKit
import Derived.Test.YtehidhcpdiameaaWireMath
namespace Go.Proofs.Ytehidhcpdiameaa
open Go.RowKit

theorem num_out (n : Int) (h : n < 0 ∨ 1099511627776 ≤ n) : Wire.num n = [] := by unfold Wire.num; rw [if_pos (by rw [Wire.lim_eq]; exact h)]
theorem num_in (n : Nat) (h : n < 1099511627776) : Wire.num n = Wire.numN n := by unfold Wire.num; rw [if_neg (by rw [Wire.lim_eq]; omega)]; rfl
theorem byte_mod (n : Nat) : (UInt8.ofNat n).toNat = n % 256 := by rw [UInt8.toNat_ofNat']

theorem num_no (n : Int) (h : n < 0 ∨ 1099511627776 ≤ n) (w : World) :
    Calls Try.prog 45 #[.int .i64 n] w fun e w' => e = .returned (.string (str (Wire.num n))) ∧ Ext w w' := by
  rw [num_out n h]
  by_cases h1 : n < 0
  · clear h
    go_enter Try.func45, Try.ntmps45
    go_wp2
    go_ret
    exact ⟨rfl, Ext.refl _⟩
  · have h2 : 1099511627776 ≤ n := by omega
    clear h
    go_enter Try.func45, Try.ntmps45
    go_wp2
    go_ret
    exact ⟨rfl, Ext.refl _⟩

set_option maxRecDepth 100000 in
set_option maxHeartbeats 1000000 in
theorem num_yes (n : Nat) (h : n < 1099511627776) (w : World) :
    Calls Try.prog 45 #[.int .i64 n] w fun e w' => e = .returned (.string (str (Wire.num n))) ∧ Ext w w' := by
  rw [num_in n h]
  have h1 : ¬ (n : Int) < 0 := by omega
  have h2 : ¬ (1099511627776 : Int) ≤ n := by omega
  have hd1 : decide ((n : Int) < 0) = false := decide_eq_false h1
  have hd2 : decide ((1099511627776 : Int) ≤ n) = false := decide_eq_false h2
  obtain ⟨i0, hi, hz0, hz1, hz2⟩ := info_parts info5
  go_enter Try.func45, Try.ntmps45
  go_wp2
  go_loopw [0, 3] (fun m out wr => ∃ (j k : Nat) (pre : List UInt8), j ≤ 5 ∧ k < 128 ^ (j + 1) ∧ m = .int .i64 k ∧ k ≤ n ∧ pre.length ≤ 5 - j ∧ pre ++ Wire.digits j k = Wire.numN n ∧ wr.ownsRow w.heap.size 5 1 out pre.length (pre.map byteV) ∧ Ext w wr) (fun m _ _ => (intOf m).toNat)
  case atStart => exact ⟨5, n, [], by omega, by omega, rfl, by omega, by simp, rfl, ⟨rfl, .inl ⟨rfl, rfl⟩⟩, Ext.refl _⟩
  case round =>
    obtain ⟨j, k, pre, hj, hk, rfl, hkn, hpl, hpre, hown, hx⟩ := hrel
    have hbig : (k : Int) ≤ 1099511627775 := by omega
    clear h h1 h2 hd1 hd2
    replace hbig := Lib.hid hbig; replace hkn := Lib.hid hkn
    by_cases h128 : k < 128
    · have hdig : Wire.digits j k = [UInt8.ofNat k] := by
        cases j with
        | zero => rfl
        | succ j => unfold Wire.digits; rw [if_pos h128]
      rw [hdig] at hpre
      replace hpre := Lib.hid hpre; replace hk := Lib.hid hk; clear hdig
      have hm : (k : Int) < 128 := by omega
      go_wp2_with (at_builtin; refine wpList_append_own _ rfl _ _ 33 rfl w.heap.size 5 i0 (.int .u8 0) 1 1 Try.underlying33 hi hz0 hz1 hz2 rfl (by decide) _ _ _ rfl (ownsRow_ext hown ((Ext.refl _).alloc _)) ⟨wr.heap.size, 0, none⟩ 1 1 [.int .u8 k] rfl rfl ?c1 ?c2 ?c3 ?c4 ?c5 ?_)
      case c1 => exact one_news (by rw [World.cell?_alloc_mark]; rfl)
      case c2 => intro u hu; rw [List.mem_singleton] at hu; subst hu; rfl
      case c3 => unfold maxLen; omega
      case c4 => omega
      case c5 => have := hx.size; simp; omega
      intro v' w1 hown1 hgrow _
      have x1 : Ext w w1 := (hx.alloc _).grown hgrow (ownBlock_ge hown)
      have hb : [Value.int .u8 (k : Int)] = [UInt8.ofNat k].map byteV := by
        simp only [List.map_cons, List.map_nil, byteV, byte_mod]
        rw [Nat.mod_eq_of_lt (by omega)]
      rw [hb, ← List.map_append, hpre.out] at hown1
      have hconv := run_owned hown1 (by rw [← hpre.out]; simp)
      clear hown1 hgrow hown hb
      replace x1 := Lib.hid x1
      go_wp2
      go_ret
      exact ⟨rfl, x1.out⟩
    · have hm : ¬ (k : Int) < 128 := by omega
      obtain ⟨j, rfl⟩ : ∃ j', j = j' + 1 := ⟨j - 1, by
        have h2 : j ≠ 0 := fun e => by subst e; exact h128 (by simpa using hk)
        omega⟩
      have hdig : Wire.digits (j + 1) k = UInt8.ofNat (128 + k % 128) :: Wire.digits j (k / 128) := by
        conv => lhs; unfold Wire.digits
        rw [if_neg h128]
      rw [hdig] at hpre
      have hk2 : k / 128 < 128 ^ (j + 1) := by rw [Nat.div_lt_iff_lt_mul (by decide)]; rw [Nat.pow_succ] at hk; exact hk
      have hbig := hbig.out
      replace hpre := Lib.hid hpre; replace hk2 := Lib.hid hk2; clear hdig hk
      go_wp2_with (at_builtin; refine wpList_append_own _ rfl _ _ 33 rfl w.heap.size 5 i0 (.int .u8 0) 1 1 Try.underlying33 hi hz0 hz1 hz2 rfl (by decide) _ _ _ rfl (ownsRow_ext hown ((Ext.refl _).alloc _)) ⟨wr.heap.size, 0, none⟩ 1 1 [.int .u8 ((k : Int) % 128 + 128)] rfl rfl ?c1 ?c2 ?c3 ?c4 ?c5 ?_)
      case c2 => rfl
      case c3 => unfold maxLen; omega
      case c4 => omega
      case c5 => have := hx.size; omega
      intro v' w1 hown1 hgrow _
      have x1 : Ext w w1 := (hx.alloc _).grown hgrow (ownBlock_ge hown)
      have hb : [Value.int .u8 ((k : Int) % 128 + 128)] = [UInt8.ofNat (128 + k % 128)].map byteV := by
        simp only [List.map_cons, List.map_nil, byteV, byte_mod]
        rw [Nat.mod_eq_of_lt (by omega)]
        congr 2
        omega
      rw [hb, ← List.map_append] at hown1
      clear hgrow hown hb
      go_wp2
      go_roundw
      case rel => exact ⟨j, k / 128, pre ++ [UInt8.ofNat (128 + k % 128)], by omega, hk2.out, by go_num, Nat.le_trans (Nat.div_le_self _ _) hkn.out, by simp; omega, by rw [List.append_assoc]; exact hpre.out, by simpa using hown1, x1⟩
      case measure => simp [intOf]; omega

theorem num_any (n : Int) (w : World) : Calls Try.prog 45 #[.int .i64 n] w fun e w' => e = .returned (.string (str (Wire.num n))) ∧ Ext w w' := by
  by_cases h : n < 0 ∨ 1099511627776 ≤ n
  · exact num_no n h w
  · obtain ⟨m, rfl⟩ := Int.eq_ofNat_of_zero_le (show 0 ≤ n by omega)
    exact num_yes m (by omega) w

theorem refNum_no (n : Int) (h : n < 0 ∨ 1099511627776 ≤ n) (w : World) :
    Calls Try.prog 46 #[.int .i64 n] w fun e w' => e = .returned (.string (str (Wire.num n))) ∧ Ext w w' := by
  rw [num_out n h]
  by_cases h1 : n < 0
  · clear h
    go_enter Try.func46, Try.ntmps46
    go_wp2
    go_ret
    exact ⟨rfl, Ext.refl _⟩
  · have h2 : 1099511627776 ≤ n := by omega
    clear h
    go_enter Try.func46, Try.ntmps46
    go_wp2
    go_ret
    exact ⟨rfl, Ext.refl _⟩

set_option maxRecDepth 100000 in
set_option maxHeartbeats 1000000 in
theorem refNum_yes (n : Nat) (h : n < 1099511627776) (w : World) :
    Calls Try.prog 46 #[.int .i64 n] w fun e w' => e = .returned (.string (str (Wire.num n))) ∧ Ext w w' := by
  rw [num_in n h]
  have h1 : ¬ (n : Int) < 0 := by omega
  have h2 : ¬ (1099511627776 : Int) ≤ n := by omega
  have hd1 : decide ((n : Int) < 0) = false := decide_eq_false h1
  have hd2 : decide ((1099511627776 : Int) ≤ n) = false := decide_eq_false h2
  obtain ⟨i0, hi, hz0, hz1, hz2⟩ := info_parts info5
  go_enter Try.func46, Try.ntmps46
  go_wp2
  go_loopw [0, 3] (fun m out wr => ∃ (j k : Nat) (pre : List UInt8), j ≤ 5 ∧ k < 128 ^ (j + 1) ∧ m = .int .i64 k ∧ k ≤ n ∧ pre.length ≤ 5 - j ∧ pre ++ Wire.digits j k = Wire.numN n ∧ wr.ownsRow w.heap.size 5 1 out pre.length (pre.map byteV) ∧ Ext w wr) (fun m _ _ => (intOf m).toNat)
  case atStart => exact ⟨5, n, [], by omega, by omega, rfl, by omega, by simp, rfl, ownsRow_fresh _ _ _, (Ext.refl _).alloc _⟩
  case round =>
    obtain ⟨j, k, pre, hj, hk, rfl, hkn, hpl, hpre, hown, hx⟩ := hrel
    have hbig : (k : Int) ≤ 1099511627775 := by omega
    clear h h1 h2 hd1 hd2
    replace hbig := Lib.hid hbig; replace hkn := Lib.hid hkn
    by_cases h128 : k < 128
    · have hdig : Wire.digits j k = [UInt8.ofNat k] := by
        cases j with
        | zero => rfl
        | succ j => unfold Wire.digits; rw [if_pos h128]
      rw [hdig] at hpre
      replace hpre := Lib.hid hpre; replace hk := Lib.hid hk; clear hdig
      have hm : (k : Int) < 128 := by omega
      go_wp2_with (at_builtin; refine wpList_append_own _ rfl _ _ 33 rfl w.heap.size 5 i0 (.int .u8 0) 1 1 Try.underlying33 hi hz0 hz1 hz2 rfl (by decide) _ _ _ rfl (ownsRow_ext hown ((Ext.refl _).alloc _)) ⟨wr.heap.size, 0, none⟩ 1 1 [.int .u8 k] rfl rfl ?c1 ?c2 ?c3 ?c4 ?c5 ?_)
      case c1 => exact one_news (by rw [World.cell?_alloc_mark]; rfl)
      case c2 => intro u hu; rw [List.mem_singleton] at hu; subst hu; rfl
      case c3 => unfold maxLen; omega
      case c4 => omega
      case c5 => have := hx.size; simp; omega
      intro v' w1 hown1 hgrow _
      have x1 : Ext w w1 := (hx.alloc _).grown hgrow (ownBlock_ge hown)
      have hb : [Value.int .u8 (k : Int)] = [UInt8.ofNat k].map byteV := by
        simp only [List.map_cons, List.map_nil, byteV, byte_mod]
        rw [Nat.mod_eq_of_lt (by omega)]
      rw [hb, ← List.map_append, hpre.out] at hown1
      have hconv := run_owned hown1 (by rw [← hpre.out]; simp)
      clear hown1 hgrow hown hb
      replace x1 := Lib.hid x1
      go_wp2
      go_ret
      exact ⟨rfl, x1.out⟩
    · have hm : ¬ (k : Int) < 128 := by omega
      obtain ⟨j, rfl⟩ : ∃ j', j = j' + 1 := ⟨j - 1, by
        have h2 : j ≠ 0 := fun e => by subst e; exact h128 (by simpa using hk)
        omega⟩
      have hdig : Wire.digits (j + 1) k = UInt8.ofNat (128 + k % 128) :: Wire.digits j (k / 128) := by
        conv => lhs; unfold Wire.digits
        rw [if_neg h128]
      rw [hdig] at hpre
      have hk2 : k / 128 < 128 ^ (j + 1) := by rw [Nat.div_lt_iff_lt_mul (by decide)]; rw [Nat.pow_succ] at hk; exact hk
      have hbig := hbig.out
      replace hpre := Lib.hid hpre; replace hk2 := Lib.hid hk2; clear hdig hk
      go_wp2_with (at_builtin; refine wpList_append_own _ rfl _ _ 33 rfl w.heap.size 5 i0 (.int .u8 0) 1 1 Try.underlying33 hi hz0 hz1 hz2 rfl (by decide) _ _ _ rfl (ownsRow_ext hown ((Ext.refl _).alloc _)) ⟨wr.heap.size, 0, none⟩ 1 1 [.int .u8 (128 + (k : Int) % 128)] rfl rfl ?c1 ?c2 ?c3 ?c4 ?c5 ?_)
      case c2 => rfl
      case c3 => unfold maxLen; omega
      case c4 => omega
      case c5 => have := hx.size; omega
      intro v' w1 hown1 hgrow _
      have x1 : Ext w w1 := (hx.alloc _).grown hgrow (ownBlock_ge hown)
      have hb : [Value.int .u8 (128 + (k : Int) % 128)] = [UInt8.ofNat (128 + k % 128)].map byteV := by
        simp only [List.map_cons, List.map_nil, byteV, byte_mod]
        rw [Nat.mod_eq_of_lt (by omega)]
        congr 2
      rw [hb, ← List.map_append] at hown1
      clear hgrow hown hb
      go_wp2
      go_roundw
      case rel => exact ⟨j, k / 128, pre ++ [UInt8.ofNat (128 + k % 128)], by omega, hk2.out, by go_num, Nat.le_trans (Nat.div_le_self _ _) hkn.out, by simp; omega, by rw [List.append_assoc]; exact hpre.out, by simpa using hown1, x1⟩
      case measure => simp [intOf]; omega

theorem refNum_any (n : Int) (w : World) : Calls Try.prog 46 #[.int .i64 n] w fun e w' => e = .returned (.string (str (Wire.num n))) ∧ Ext w w' := by
  by_cases h : n < 0 ∨ 1099511627776 ≤ n
  · exact refNum_no n h w
  · obtain ⟨m, rfl⟩ := Int.eq_ofNat_of_zero_le (show 0 ≤ n by omega)
    exact refNum_yes m (by omega) w

end Go.Proofs.Ytehidhcpdiameaa
