/- The walks of layer 10, on: what Take of the program computes. -/
import Derived.Test.YtehidhcpdiameaaKit
import Derived.Test.YtehidhcpdiameaaWireMath
namespace Go.Proofs.Ytehidhcpdiameaa
open Go.RowKit

/-- what Take hands back. -/
def took (t : Nat × Int × Bool) : Value := .tuple #[.int .i64 t.1, .int .i64 t.2.1, .bool t.2.2]

theorem ret_took {a b : Int} {n : Nat} {c : Int} (h1 : a = n) (h2 : b = c) : Ending.returned (.tuple #[.int .i64 a, .int .i64 b, .bool true]) = .returned (took (n, c, true)) := by rw [h1, h2]; rfl
theorem takeAt_out (l : List UInt8) (p : Int) (h : p < 0 ∨ (l.length : Int) ≤ p) : Wire.takeAt l p = (0, 0, false) := by unfold Wire.takeAt; rw [if_pos h]
theorem takeAt_in (l : List UInt8) (p : Nat) (h : p < l.length) : Wire.takeAt l p = match Wire.take (l.drop p) with | some (n, c) => (n, (p : Int) + c, true) | none => (0, 0, false) := by
  unfold Wire.takeAt
  rw [if_neg (by omega)]
  rfl

theorem take_no (s : ByteArray) (p : Int) (hp : p < 0 ∨ (s.size : Int) ≤ p) (w : World) :
    Calls Try.prog 39 #[.string s, .int .i64 p] w fun e w' => e = .returned (took (Wire.takeAt s.data.toList p)) ∧ w = w' := by
  rw [takeAt_out _ _ (by rw [size_list]; exact hp)]
  by_cases h1 : p < 0
  · clear hp
    go_enter Try.func39, Try.ntmps39
    go_wp2
    go_ret3
    exact ⟨rfl, rfl⟩
  · have h2 : (s.size : Int) ≤ p := by omega
    clear hp
    go_enter Try.func39, Try.ntmps39
    go_wp2
    go_ret3
    exact ⟨rfl, rfl⟩

theorem drop_cons (s : ByteArray) (k : Nat) (h : k < s.size) : s.data.toList.drop k = s[k] :: s.data.toList.drop (k + 1) := by
  rw [List.drop_eq_getElem_cons (by rw [size_list]; exact h)]
  rfl

theorem takeF_go {x : UInt8} {b : Nat} (hx : x.toNat = b) (f i acc : Nat) (l : List UInt8) (h : 128 ≤ b) : Wire.takeF (f + 1) i acc (x :: l) = Wire.takeF f (i + 1) (acc + b % 128 * 128 ^ i) l := by
  subst hx
  conv => lhs; unfold Wire.takeF
  rw [if_pos h]
theorem takeF_bad {x : UInt8} {b : Nat} (hx : x.toNat = b) (f i acc : Nat) (l : List UInt8) (h : ¬ 128 ≤ b) (h2 : Wire.lim ≤ acc + b % 128 * 128 ^ i ∨ (b = 0 ∧ 0 < i)) : Wire.takeF (f + 1) i acc (x :: l) = none := by
  subst hx
  unfold Wire.takeF
  rw [if_neg h, if_pos h2]
theorem takeF_hit {x : UInt8} {b : Nat} (hx : x.toNat = b) (f i acc : Nat) (l : List UInt8) (h : ¬ 128 ≤ b) (h2 : ¬ (Wire.lim ≤ acc + b % 128 * 128 ^ i ∨ (b = 0 ∧ 0 < i))) : Wire.takeF (f + 1) i acc (x :: l) = some (acc + b % 128 * 128 ^ i, i + 1) := by
  subst hx
  unfold Wire.takeF
  rw [if_neg h, if_neg h2]
theorem takeF_end (f i acc : Nat) : Wire.takeF f i acc [] = none := by cases f <;> rfl
theorem takeF_zero (i acc : Nat) (l : List UInt8) : Wire.takeF 0 i acc l = none := by cases l <;> rfl

set_option maxRecDepth 100000 in
set_option maxHeartbeats 4000000 in
theorem take_yes (s : ByteArray) (p : Nat) (hp : p < s.size) (hs : s.size ≤ maxLen) (w : World) :
    Calls Try.prog 39 #[.string s, .int .i64 p] w fun e w' => e = .returned (took (Wire.takeAt s.data.toList p)) ∧ w = w' := by
  unfold maxLen at hs
  have hT := takeAt_in s.data.toList p (by rw [size_list]; exact hp)
  have h1 : ¬ (p : Int) < 0 := by omega
  have h2 : ¬ (s.size : Int) ≤ p := by omega
  have hd1 : decide ((p : Int) < 0) = false := decide_eq_false h1
  have hd2 : decide (s.size ≤ p) = false := decide_eq_false (by omega)
  replace hT := Lib.hid hT
  go_enter Try.func39, Try.ntmps39
  go_wp2
  go_loop [7, 8] (fun n i => ∃ k acc : Nat, k ≤ 6 ∧ i = .int .i64 k ∧ n = .int .i64 acc ∧ acc < 128 ^ k ∧ Wire.takeF (6 - k) k acc (s.data.toList.drop (p + k)) = Wire.take (s.data.toList.drop p)) (fun _ i => 6 - (intOf i).toNat)
  case atStart => exact ⟨0, 0, by omega, rfl, rfl, by decide, rfl⟩
  case round =>
    obtain ⟨k, acc, hk, rfl, rfl, hacc, ht⟩ := hrel
    by_cases hgo : k < 6 ∧ p + k < s.size
    · obtain ⟨hk6, hpk⟩ := hgo
      rw [drop_cons s (p + k) hpk] at ht
      have hb := (s[p + k]).toNat_lt
      have hf : 6 - k = (5 - k) + 1 := by omega
      rw [hf] at ht
      have hgo : 128 ≤ s[p + k].toNat → Wire.takeF (6 - (k + 1)) (k + 1) (acc + s[p + k].toNat % 128 * 128 ^ k) (s.data.toList.drop (p + (k + 1))) = Wire.take (s.data.toList.drop p) := fun h => by
        rw [← ht, takeF_go rfl _ _ _ _ h, show 6 - (k + 1) = 5 - k from by omega, show p + (k + 1) = p + k + 1 from by omega]
      have hbad : ¬ 128 ≤ s[p + k].toNat → (1099511627776 ≤ acc + s[p + k].toNat % 128 * 128 ^ k ∨ (s[p + k].toNat = 0 ∧ 0 < k)) → Wire.takeAt s.data.toList p = (0, 0, false) := fun h h' => by
        rw [hT.out, ← ht, takeF_bad rfl _ _ _ _ h h']
      have hhit : ¬ 128 ≤ s[p + k].toNat → ¬ (1099511627776 ≤ acc + s[p + k].toNat % 128 * 128 ^ k ∨ (s[p + k].toNat = 0 ∧ 0 < k)) → Wire.takeAt s.data.toList p = (acc + s[p + k].toNat % 128 * 128 ^ k, (p : Int) + ((k + 1 : Nat) : Int), true) := fun h h' => by
        rw [hT.out, ← ht, takeF_hit rfl _ _ _ _ h h']
      have hacc2 : acc < 34359738368 := Nat.lt_of_lt_of_le hacc (Nat.pow_le_pow_right (by decide) (show k ≤ 5 by omega))
      have hacc' : (acc : Int) ≤ 34359738367 := by omega
      generalize hbb : s[p + k].toNat = b at *
      have hm : (b : Int) % 128 ≤ 127 := by omega
      clear hacc2 hf ht
      replace hgo := Lib.hid hgo; replace hbad := Lib.hid hbad; replace hhit := Lib.hid hhit; replace hacc := Lib.hid hacc
      have hk' : k = 0 ∨ k = 1 ∨ k = 2 ∨ k = 3 ∨ k = 4 ∨ k = 5 := by omega
      by_cases h128 : 128 ≤ b
      · have h128' : (128 : Int) ≤ b := by omega
        rcases hk' with rfl | rfl | rfl | rfl | rfl | rfl
        · have hbb0 : s[p].toNat = b := hbb
          clear hbb
          go_wp2
          go_round
          case rel => exact ⟨1, acc + b % 128 * 128 ^ 0, by omega, rfl, by first | go_num | (congr 1; omega), by have := hacc.out; omega, hgo.out h128⟩
          case measure => simp [intOf]
        · go_wp2
          go_round
          case rel => exact ⟨2, acc + b % 128 * 128 ^ 1, by omega, rfl, by first | go_num | (congr 1; omega), by have := hacc.out; omega, hgo.out h128⟩
          case measure => simp [intOf]
        · go_wp2
          go_round
          case rel => exact ⟨3, acc + b % 128 * 128 ^ 2, by omega, rfl, by first | go_num | (congr 1; omega), by have := hacc.out; omega, hgo.out h128⟩
          case measure => simp [intOf]
        · go_wp2
          go_round
          case rel => exact ⟨4, acc + b % 128 * 128 ^ 3, by omega, rfl, by first | go_num | (congr 1; omega), by have := hacc.out; omega, hgo.out h128⟩
          case measure => simp [intOf]
        · go_wp2
          go_round
          case rel => exact ⟨5, acc + b % 128 * 128 ^ 4, by omega, rfl, by first | go_num | (congr 1; omega), by have := hacc.out; omega, hgo.out h128⟩
          case measure => simp [intOf]
        · go_wp2
          go_round
          case rel => exact ⟨6, acc + b % 128 * 128 ^ 5, by omega, rfl, by first | go_num | (congr 1; omega), by have := hacc.out; omega, hgo.out h128⟩
          case measure => simp [intOf]
      · have h128' : (b : Int) < 128 := by omega
        by_cases hA : 1099511627776 ≤ acc + b % 128 * 128 ^ k
        · obtain rfl : k = 5 := by
            rcases hk' with rfl | rfl | rfl | rfl | rfl | rfl
            · omega
            · omega
            · omega
            · omega
            · have := hacc.out; omega
            · rfl
          have hbad := Lib.hid (hbad.out h128 (.inl hA))
          have hA' : (1099511627776 : Int) ≤ (acc : Int) + (b : Int) % 128 * 34359738368 := by omega
          clear hA hk'
          go_wp2
          go_ret3
          exact ⟨by rw [hbad.out]; rfl, rfl⟩
        · by_cases hB : b = 0 ∧ 0 < k
          · have hbad2 := Lib.hid (hbad.out h128 (.inr hB))
            obtain ⟨hb0, hk0⟩ := hB
            have hb0' : ((b : Int) == 0) = true := by rw [beq_iff_eq]; omega
            have hbz : (b : Int) % 128 ≤ 0 := by omega
            clear hA hhit hgo hbad hb0
            rcases hk' with rfl | rfl | rfl | rfl | rfl | rfl
            · omega
            · have hdA : decide ((1099511627776 : Int) ≤ (acc : Int) + (b : Int) % 128 * 128) = false := decide_eq_false (by omega)
              clear hbz
              go_wp2
              go_ret3
              exact ⟨by rw [hbad2.out]; rfl, rfl⟩
            · have hdA : decide ((1099511627776 : Int) ≤ (acc : Int) + (b : Int) % 128 * 16384) = false := decide_eq_false (by omega)
              clear hbz
              go_wp2
              go_ret3
              exact ⟨by rw [hbad2.out]; rfl, rfl⟩
            · have hdA : decide ((1099511627776 : Int) ≤ (acc : Int) + (b : Int) % 128 * 2097152) = false := decide_eq_false (by omega)
              clear hbz
              go_wp2
              go_ret3
              exact ⟨by rw [hbad2.out]; rfl, rfl⟩
            · have hdA : decide ((1099511627776 : Int) ≤ (acc : Int) + (b : Int) % 128 * 268435456) = false := decide_eq_false (by omega)
              clear hbz
              go_wp2
              go_ret3
              exact ⟨by rw [hbad2.out]; rfl, rfl⟩
            · have hdA : decide ((1099511627776 : Int) ≤ (acc : Int) + (b : Int) % 128 * 34359738368) = false := decide_eq_false (by omega)
              clear hbz
              go_wp2
              go_ret3
              exact ⟨by rw [hbad2.out]; rfl, rfl⟩
          · have hhit2 := Lib.hid (hhit.out h128 (by omega))
            clear hhit hbad hgo
            rcases hk' with rfl | rfl | rfl | rfl | rfl | rfl
            · have hbb0 : s[p].toNat = b := hbb
              clear hbb hA hB
              have hb1 : ¬ ((1099511627776 : Int) ≤ (acc : Int) + (b : Int) % 128) := by omega
              by_cases hb0 : b = 0
              · have hb0' : ((b : Int) == 0) = true := by rw [beq_iff_eq]; omega
                clear hb0
                go_wp2
                go_ret3
                exact ⟨by rw [hhit2.out]; exact ret_took (by omega) (by omega), rfl⟩
              · have hb0' : ((b : Int) == 0) = false := by rw [beq_eq_false_iff_ne]; omega
                clear hb0
                go_wp2
                go_ret3
                exact ⟨by rw [hhit2.out]; exact ret_took (by omega) (by omega), rfl⟩
            · have hdA : decide ((1099511627776 : Int) ≤ (acc : Int) + (b : Int) % 128 * 128) = false := decide_eq_false (by omega)
              have hb0' : ((b : Int) == 0) = false := by rw [beq_eq_false_iff_ne]; omega
              clear hA hB
              go_wp2
              go_ret3
              exact ⟨by rw [hhit2.out]; exact ret_took (by omega) (by omega), rfl⟩
            · have hdA : decide ((1099511627776 : Int) ≤ (acc : Int) + (b : Int) % 128 * 16384) = false := decide_eq_false (by omega)
              have hb0' : ((b : Int) == 0) = false := by rw [beq_eq_false_iff_ne]; omega
              clear hA hB
              go_wp2
              go_ret3
              exact ⟨by rw [hhit2.out]; exact ret_took (by omega) (by omega), rfl⟩
            · have hdA : decide ((1099511627776 : Int) ≤ (acc : Int) + (b : Int) % 128 * 2097152) = false := decide_eq_false (by omega)
              have hb0' : ((b : Int) == 0) = false := by rw [beq_eq_false_iff_ne]; omega
              clear hA hB
              go_wp2
              go_ret3
              exact ⟨by rw [hhit2.out]; exact ret_took (by omega) (by omega), rfl⟩
            · have hdA : decide ((1099511627776 : Int) ≤ (acc : Int) + (b : Int) % 128 * 268435456) = false := decide_eq_false (by omega)
              have hb0' : ((b : Int) == 0) = false := by rw [beq_eq_false_iff_ne]; omega
              clear hA hB
              go_wp2
              go_ret3
              exact ⟨by rw [hhit2.out]; exact ret_took (by omega) (by omega), rfl⟩
            · have hdA : decide ((1099511627776 : Int) ≤ (acc : Int) + (b : Int) % 128 * 34359738368) = false := decide_eq_false (by omega)
              have hb0' : ((b : Int) == 0) = false := by rw [beq_eq_false_iff_ne]; omega
              clear hA hB
              go_wp2
              go_ret3
              exact ⟨by rw [hhit2.out]; exact ret_took (by omega) (by omega), rfl⟩
    · have hnone : Wire.takeAt s.data.toList p = (0, 0, false) := by
        rw [hT.out, ← ht]
        by_cases h6 : k = 6
        · subst h6
          rw [takeF_zero]
        · rw [List.drop_eq_nil_of_le (by rw [size_list]; omega), takeF_end]
      replace hnone := Lib.hid hnone
      clear ht hacc
      by_cases h6 : k < 6
      · have hpk : ¬ p + k < s.size := fun h => hgo ⟨h6, h⟩
        clear hgo
        go_wp2
        go_ret3
        exact ⟨by rw [hnone.out]; rfl, rfl⟩
      · clear hgo
        go_wp2
        go_ret3
        exact ⟨by rw [hnone.out]; rfl, rfl⟩

theorem take_any (s : ByteArray) (p : Int) (hs : s.size ≤ maxLen) (w : World) :
    Calls Try.prog 39 #[.string s, .int .i64 p] w fun e w' => e = .returned (took (Wire.takeAt s.data.toList p)) ∧ w = w' := by
  by_cases h : p < 0 ∨ (s.size : Int) ≤ p
  · exact take_no s p h w
  · obtain ⟨q, rfl⟩ := Int.eq_ofNat_of_zero_le (show 0 ≤ p by omega)
    exact take_yes s q (by omega) hs w

end Go.Proofs.Ytehidhcpdiameaa
