/- The walks of layer 10, on: what Take of the reference computes. -/
import Derived.Test.YtehidhcpdiameaaWireTake
import Derived.Test.YtehidhcpdiameaaWireNum
namespace Go.Proofs.Ytehidhcpdiameaa
open Go.RowKit

theorem refTake_no (s : ByteArray) (p : Int) (hp : p < 0 ∨ (s.size : Int) < p) (w : World) :
    Calls Try.prog 40 #[.string s, .int .i64 p] w fun e w' => e = .returned (took (Wire.takeAt s.data.toList p)) ∧ Ext w w' := by
  rw [takeAt_out _ _ (by rw [size_list]; omega)]
  by_cases h1 : p < 0
  · clear hp
    go_enter Try.func40, Try.ntmps40
    go_wp2
    go_ret3
    exact ⟨rfl, Ext.refl _⟩
  · have h2 : (s.size : Int) < p := by omega
    clear hp
    go_enter Try.func40, Try.ntmps40
    go_wp2
    go_ret3
    exact ⟨rfl, Ext.refl _⟩

/-- the whole row is compared with the number's own bytes: the same answer. -/
theorem ref_hit (l : List UInt8) (n c : Nat) (h : Wire.take l = some (n, c)) : l.take c = Wire.num n := by
  obtain ⟨h1, _, _, h4, _⟩ := Wire.take_spec l n c h
  rw [h4, num_in n h1]
theorem ref_bad (l : List UInt8) (v c : Nat) (hc : 1 ≤ c) (hl : c ≤ l.length) (h : Wire.take l = none) : ¬ l.take c = Wire.num v := by
  intro he
  by_cases hv : v < 1099511627776
  · rw [num_in v hv] at he
    have : Wire.take (Wire.numN v ++ l.drop c) = some (v, (Wire.numN v).length) := Wire.take_num v (l.drop c) hv
    rw [← he, List.take_append_drop, h] at this
    cases this
  · rw [num_out v (.inr (by omega))] at he
    have := congrArg List.length he
    rw [List.length_take, List.length_nil] at this
    omega

set_option maxRecDepth 100000 in
set_option maxHeartbeats 4000000 in
theorem refTake_yes (s : ByteArray) (p : Nat) (hp : p ≤ s.size) (hs : s.size ≤ 140737488400000) (w : World) :
    Calls Try.prog 40 #[.string s, .int .i64 p] w fun e w' => e = .returned (took (Wire.takeAt s.data.toList p)) ∧ Ext w w' := by

  have hT : p < s.size → _ := fun h => takeAt_in s.data.toList p (by rw [size_list]; exact h)
  have h1 : ¬ (p : Int) < 0 := by omega
  have h2 : ¬ (s.size : Int) < p := by omega
  have hd1 : decide ((p : Int) < 0) = false := decide_eq_false h1
  have hd2 : decide (s.size < p) = false := decide_eq_false (by omega)
  replace hT := Lib.hid hT
  go_enter Try.func40, Try.ntmps40
  go_wp2
  go_loop [7, 8, 9] (fun n u i => ∃ k acc : Nat, k ≤ 6 ∧ i = .int .i64 k ∧ n = .int .i64 acc ∧ u = .int .i64 (128 ^ k : Nat) ∧ acc < 128 ^ k ∧ Wire.takeF (6 - k) k acc (s.data.toList.drop (p + k)) = Wire.take (s.data.toList.drop p)) (fun _ _ i => 6 - (intOf i).toNat)
  case atStart => exact ⟨0, 0, by omega, rfl, rfl, rfl, by decide, rfl⟩
  case round =>
    obtain ⟨k, acc, hk, rfl, rfl, rfl, hacc, ht⟩ := hrel
    by_cases hgo : k < 6 ∧ p + k < s.size
    · obtain ⟨hk6, hpk⟩ := hgo
      have hT := hT.out (by omega)
      rw [drop_cons s (p + k) hpk] at ht
      have hb := (s[p + k]).toNat_lt
      have hf : 6 - k = (5 - k) + 1 := by omega
      rw [hf] at ht
      have hgo : 128 ≤ s[p + k].toNat → Wire.takeF (6 - (k + 1)) (k + 1) (acc + s[p + k].toNat % 128 * 128 ^ k) (s.data.toList.drop (p + (k + 1))) = Wire.take (s.data.toList.drop p) := fun h => by
        rw [← ht, takeF_go rfl _ _ _ _ h, show 6 - (k + 1) = 5 - k from by omega, show p + (k + 1) = p + k + 1 from by omega]
      have hlen : k + 1 ≤ (s.data.toList.drop p).length := by rw [List.length_drop, size_list]; omega
      have hex : ∀ v : Nat, ((s.extract p (p + k + 1)).toList == (str (Wire.num v)).toList) = decide ((s.data.toList.drop p).take (k + 1) = Wire.num v) := fun v => by
        rw [toList_str, toList_data, extract_list, show p + k + 1 - p = k + 1 from by omega]
        rw [Bool.eq_iff_iff, beq_iff_eq, decide_eq_true_eq]
      have hbad : ¬ 128 ≤ s[p + k].toNat → (1099511627776 ≤ acc + s[p + k].toNat % 128 * 128 ^ k ∨ (s[p + k].toNat = 0 ∧ 0 < k)) → Wire.takeAt s.data.toList p = (0, 0, false) ∧ ((s.extract p (p + k + 1)).toList == (str (Wire.num ((acc + s[p + k].toNat % 128 * 128 ^ k : Nat) : Int))).toList) = false := fun h h' => by
        have hn : Wire.take (s.data.toList.drop p) = none := by rw [← ht, takeF_bad rfl _ _ _ _ h h']
        exact ⟨by rw [hT, hn], by rw [hex]; exact decide_eq_false (ref_bad _ _ _ (by omega) hlen hn)⟩
      have hhit : ¬ 128 ≤ s[p + k].toNat → ¬ (1099511627776 ≤ acc + s[p + k].toNat % 128 * 128 ^ k ∨ (s[p + k].toNat = 0 ∧ 0 < k)) → Wire.takeAt s.data.toList p = (acc + s[p + k].toNat % 128 * 128 ^ k, (p : Int) + ((k + 1 : Nat) : Int), true) ∧ ((s.extract p (p + k + 1)).toList == (str (Wire.num ((acc + s[p + k].toNat % 128 * 128 ^ k : Nat) : Int))).toList) = true := fun h h' => by
        have hn : Wire.take (s.data.toList.drop p) = some (acc + s[p + k].toNat % 128 * 128 ^ k, k + 1) := by rw [← ht, takeF_hit rfl _ _ _ _ h h']
        exact ⟨by rw [hT, hn], by rw [hex]; exact decide_eq_true (ref_hit _ _ _ hn)⟩
      have hacc2 : acc < 34359738368 := Nat.lt_of_lt_of_le hacc (Nat.pow_le_pow_right (by decide) (show k ≤ 5 by omega))
      have hacc' : (acc : Int) ≤ 34359738367 := by omega
      have hnum := fun v => Lib.hid (refNum_any v)
      generalize hbb : s[p + k].toNat = b at *
      have hm : (b : Int) % 128 ≤ 127 := by omega
      clear hacc2 hf ht hT hex hlen
      replace hgo := Lib.hid hgo; replace hbad := Lib.hid hbad; replace hhit := Lib.hid hhit; replace hacc := Lib.hid hacc; replace hnum := Lib.hid hnum
      have hk' : k = 0 ∨ k = 1 ∨ k = 2 ∨ k = 3 ∨ k = 4 ∨ k = 5 := by omega
      by_cases h128 : 128 ≤ b
      · have h128' : (128 : Int) ≤ b := by omega
        rcases hk' with rfl | rfl | rfl | rfl | rfl | rfl
        · have hbb0 : s[p].toNat = b := hbb
          clear hbb
          go_wp2
          go_round
          case rel => exact ⟨1, acc + b % 128 * 128 ^ 0, by omega, rfl, by first | go_num | (congr 1; omega), by first | rfl | (congr 1; omega), by have := hacc.out; omega, hgo.out h128⟩
          case measure => simp [intOf]
        · go_wp2
          go_round
          case rel => exact ⟨2, acc + b % 128 * 128 ^ 1, by omega, rfl, by first | go_num | (congr 1; omega), by first | rfl | (congr 1; omega), by have := hacc.out; omega, hgo.out h128⟩
          case measure => simp [intOf]
        · go_wp2
          go_round
          case rel => exact ⟨3, acc + b % 128 * 128 ^ 2, by omega, rfl, by first | go_num | (congr 1; omega), by first | rfl | (congr 1; omega), by have := hacc.out; omega, hgo.out h128⟩
          case measure => simp [intOf]
        · go_wp2
          go_round
          case rel => exact ⟨4, acc + b % 128 * 128 ^ 3, by omega, rfl, by first | go_num | (congr 1; omega), by first | rfl | (congr 1; omega), by have := hacc.out; omega, hgo.out h128⟩
          case measure => simp [intOf]
        · go_wp2
          go_round
          case rel => exact ⟨5, acc + b % 128 * 128 ^ 4, by omega, rfl, by first | go_num | (congr 1; omega), by first | rfl | (congr 1; omega), by have := hacc.out; omega, hgo.out h128⟩
          case measure => simp [intOf]
        · go_wp2
          go_round
          case rel => exact ⟨6, acc + b % 128 * 128 ^ 5, by omega, rfl, by first | go_num | (congr 1; omega), by first | rfl | (congr 1; omega), by have := hacc.out; omega, hgo.out h128⟩
          case measure => simp [intOf]
      · have h128' : (b : Int) < 128 := by omega
        by_cases hA : 1099511627776 ≤ acc + b % 128 * 128 ^ k ∨ (b = 0 ∧ 0 < k)
        · obtain ⟨hb1, hb2⟩ := hbad.out h128 hA
          replace hb1 := Lib.hid hb1
          clear hhit hgo hbad hA
          rcases hk' with rfl | rfl | rfl | rfl | rfl | rfl
          · rw [show ((acc + b % 128 * 128 ^ 0 : Nat) : Int) = acc + (b : Int) % 128 from by omega] at hb2
            simp only [Nat.add_zero] at hb2
            have hbb0 : s[p].toNat = b := hbb
            clear hbb
            go_wp2_with fail
            refine ((hnum.out _).out _).mono ?_; rintro e w1 ⟨rfl, x1⟩
            go_wp2_with fail
            go_ret3
            exact ⟨by rw [hb1.out]; rfl, x1⟩
          · rw [show ((acc + b % 128 * 128 ^ 1 : Nat) : Int) = acc + (b : Int) % 128 * 128 from by omega] at hb2
            go_wp2_with fail
            refine ((hnum.out _).out _).mono ?_; rintro e w1 ⟨rfl, x1⟩
            go_wp2_with fail
            go_ret3
            exact ⟨by rw [hb1.out]; rfl, x1⟩
          · rw [show ((acc + b % 128 * 128 ^ 2 : Nat) : Int) = acc + (b : Int) % 128 * 16384 from by omega] at hb2
            go_wp2_with fail
            refine ((hnum.out _).out _).mono ?_; rintro e w1 ⟨rfl, x1⟩
            go_wp2_with fail
            go_ret3
            exact ⟨by rw [hb1.out]; rfl, x1⟩
          · rw [show ((acc + b % 128 * 128 ^ 3 : Nat) : Int) = acc + (b : Int) % 128 * 2097152 from by omega] at hb2
            go_wp2_with fail
            refine ((hnum.out _).out _).mono ?_; rintro e w1 ⟨rfl, x1⟩
            go_wp2_with fail
            go_ret3
            exact ⟨by rw [hb1.out]; rfl, x1⟩
          · rw [show ((acc + b % 128 * 128 ^ 4 : Nat) : Int) = acc + (b : Int) % 128 * 268435456 from by omega] at hb2
            go_wp2_with fail
            refine ((hnum.out _).out _).mono ?_; rintro e w1 ⟨rfl, x1⟩
            go_wp2_with fail
            go_ret3
            exact ⟨by rw [hb1.out]; rfl, x1⟩
          · rw [show ((acc + b % 128 * 128 ^ 5 : Nat) : Int) = acc + (b : Int) % 128 * 34359738368 from by omega] at hb2
            go_wp2_with fail
            refine ((hnum.out _).out _).mono ?_; rintro e w1 ⟨rfl, x1⟩
            go_wp2_with fail
            go_ret3
            exact ⟨by rw [hb1.out]; rfl, x1⟩
        · obtain ⟨hb1, hb2⟩ := hhit.out h128 hA
          replace hb1 := Lib.hid hb1
          clear hhit hgo hbad hA
          rcases hk' with rfl | rfl | rfl | rfl | rfl | rfl
          · rw [show ((acc + b % 128 * 128 ^ 0 : Nat) : Int) = acc + (b : Int) % 128 from by omega] at hb2
            simp only [Nat.add_zero] at hb2
            have hbb0 : s[p].toNat = b := hbb
            clear hbb
            go_wp2_with fail
            refine ((hnum.out _).out _).mono ?_; rintro e w1 ⟨rfl, x1⟩
            go_wp2_with fail
            go_ret3
            exact ⟨by rw [hb1.out]; exact ret_took (by omega) (by omega), x1⟩
          · rw [show ((acc + b % 128 * 128 ^ 1 : Nat) : Int) = acc + (b : Int) % 128 * 128 from by omega] at hb2
            go_wp2_with fail
            refine ((hnum.out _).out _).mono ?_; rintro e w1 ⟨rfl, x1⟩
            go_wp2_with fail
            go_ret3
            exact ⟨by rw [hb1.out]; exact ret_took (by omega) (by omega), x1⟩
          · rw [show ((acc + b % 128 * 128 ^ 2 : Nat) : Int) = acc + (b : Int) % 128 * 16384 from by omega] at hb2
            go_wp2_with fail
            refine ((hnum.out _).out _).mono ?_; rintro e w1 ⟨rfl, x1⟩
            go_wp2_with fail
            go_ret3
            exact ⟨by rw [hb1.out]; exact ret_took (by omega) (by omega), x1⟩
          · rw [show ((acc + b % 128 * 128 ^ 3 : Nat) : Int) = acc + (b : Int) % 128 * 2097152 from by omega] at hb2
            go_wp2_with fail
            refine ((hnum.out _).out _).mono ?_; rintro e w1 ⟨rfl, x1⟩
            go_wp2_with fail
            go_ret3
            exact ⟨by rw [hb1.out]; exact ret_took (by omega) (by omega), x1⟩
          · rw [show ((acc + b % 128 * 128 ^ 4 : Nat) : Int) = acc + (b : Int) % 128 * 268435456 from by omega] at hb2
            go_wp2_with fail
            refine ((hnum.out _).out _).mono ?_; rintro e w1 ⟨rfl, x1⟩
            go_wp2_with fail
            go_ret3
            exact ⟨by rw [hb1.out]; exact ret_took (by omega) (by omega), x1⟩
          · rw [show ((acc + b % 128 * 128 ^ 5 : Nat) : Int) = acc + (b : Int) % 128 * 34359738368 from by omega] at hb2
            go_wp2_with fail
            refine ((hnum.out _).out _).mono ?_; rintro e w1 ⟨rfl, x1⟩
            go_wp2_with fail
            go_ret3
            exact ⟨by rw [hb1.out]; exact ret_took (by omega) (by omega), x1⟩
    · have hnone : Wire.takeAt s.data.toList p = (0, 0, false) := by
        by_cases hps : p < s.size
        · rw [hT.out hps, ← ht]
          by_cases h6 : k = 6
          · subst h6
            rw [takeF_zero]
          · rw [List.drop_eq_nil_of_le (by rw [size_list]; omega), takeF_end]
        · exact takeAt_out _ _ (.inr (by rw [size_list]; omega))
      replace hnone := Lib.hid hnone
      clear ht hacc
      by_cases h6 : k < 6
      · have hpk : ¬ p + k < s.size := fun h => hgo ⟨h6, h⟩
        clear hgo
        go_wp2
        go_ret3
        exact ⟨by rw [hnone.out]; rfl, Ext.refl _⟩
      · clear hgo
        go_wp2
        go_ret3
        exact ⟨by rw [hnone.out]; rfl, Ext.refl _⟩

theorem refTake_any (s : ByteArray) (p : Int) (hs : s.size ≤ 140737488400000) (w : World) :
    Calls Try.prog 40 #[.string s, .int .i64 p] w fun e w' => e = .returned (took (Wire.takeAt s.data.toList p)) ∧ Ext w w' := by
  by_cases h : p < 0 ∨ (s.size : Int) < p
  · exact refTake_no s p h w
  · obtain ⟨q, rfl⟩ := Int.eq_ofNat_of_zero_le (show 0 ≤ p by omega)
    exact refTake_yes s q (by omega) hs w

end Go.Proofs.Ytehidhcpdiameaa
