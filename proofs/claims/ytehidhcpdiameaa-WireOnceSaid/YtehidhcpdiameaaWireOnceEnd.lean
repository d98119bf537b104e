/- The statement WireOnce: the law's own walk, for every input. -/
import Derived.Test.YtehidhcpdiameaaWireOnce
namespace Go.Proofs.Ytehidhcpdiameaa
open Go.RowKit

theorem takeInts_take (l : List UInt8) (p : Int) (h : (Wire.takeIntsAt l p).2.2 = true) : (Wire.takeAt l p).2.2 = true := by
  unfold Wire.takeIntsAt at h
  split at h
  · rename_i hc; simp only [Bool.and_eq_true] at hc; exact hc.1
  · cases h

theorem wireOnce_walk (s : ByteArray) (p : Int) (x : Int × Int) (hs : s.size ≤ maxLen) (_hz : s.size ≤ 140737488351232) (_hp : -9223372036854775808 ≤ p ∧ p ≤ 9223372036854775807)
    (_hx : (-9223372036854775808 ≤ x.1 ∧ x.1 ≤ 9223372036854775807) ∧ (-9223372036854775808 ≤ x.2 ∧ x.2 ≤ 9223372036854775807)) (w : World) :
    Calls Try.prog 10 #[.string s, .int .i64 p, .agg #[.int .i64 x.1, .int .i64 x.2]] w fun e w' => e = .returned (.bool true) ∧ Ext w w' := by
  by_cases h : 1000 < s.size
  · exact wireOnce_long w s p x.1 x.2 h hs
  · obtain ⟨k, hk, hlast⟩ := onceLast x.1 x.2
    have c1 := fun w => Soft_same (take_any s p (by unfold maxLen; omega) w)
    have c3 := takeInts_any s p (by omega)
    have g1 := Wire.takeAt_told s.data.toList p
    have g3 := Wire.takeInts_once s.data.toList p
    have g4 := Wire.takeIntsAt_no s.data.toList p
    have g13 := takeInts_take s.data.toList p
    obtain ⟨⟨n1, q1, b1⟩, hT1⟩ : ∃ x, x = Wire.takeAt s.data.toList p := ⟨_, rfl⟩
    obtain ⟨⟨ns, q3, b3⟩, hT3⟩ : ∃ x, x = Wire.takeIntsAt s.data.toList p := ⟨_, rfl⟩
    rw [← hT1] at c1 g1 g13
    rw [← hT3] at c3 g3 g4 g13
    unfold took at c1
    dsimp only at c1 g4 g13
    have hlim : (1099511627776 : Nat) = Wire.lim := rfl
    have hnl : 6 * ns.length + 6 ≤ 140737488355328 := by
      cases b3 with
      | false => have := g4 rfl; simp only [Prod.mk.injEq] at this; rw [this.1]; simp
      | true => have := (g3 ns q3 rfl).2.2.2.1; omega
    have sA := num_size x.1
    have sB := num_size x.2
    refine wireOnce_core w s (str (Wire.num x.1)) (str (Wire.num x.2)) (str (Wire.num n1)) (str (Wire.ints ns)) p x.1 x.2 n1 q1 q3 b1 b3 ns k hk hlast (by omega) (by rw [str_size]; exact sA) (by rw [str_size]; exact sB)
      (num_any _) (num_any _) c1 (num_any _) c3 (fun v w h => ints_any ns v w h hnl) (fun hb => ?_) (fun hb => ?_) g13
    · subst hb
      obtain ⟨h0, h1, h2, h3, h4, _⟩ := g1 n1 q1 rfl
      rw [size_list] at h2
      obtain ⟨a, rfl⟩ := Int.eq_ofNat_of_zero_le h0
      obtain ⟨b, rfl⟩ := Int.eq_ofNat_of_zero_le (show 0 ≤ q1 by omega)
      refine ⟨a, b, rfl, rfl, by omega, by omega, beq_true ?_⟩
      rw [list_str, extract_list, Wire.num_good _ (by omega) (by omega), Int.toNat_natCast, ← h4, Int.toNat_natCast, show ((b : Int) - (a : Int)).toNat = b - a from by omega]
    · subst hb
      obtain ⟨h0, h1, h2, h3, h4⟩ := g3 ns q3 rfl
      rw [size_list] at h2
      obtain ⟨a, rfl⟩ := Int.eq_ofNat_of_zero_le h0
      obtain ⟨b, rfl⟩ := Int.eq_ofNat_of_zero_le (show 0 ≤ q3 by omega)
      refine ⟨a, b, rfl, rfl, by omega, by omega, beq_true ?_⟩
      rw [list_str, extract_list, h4, Int.toNat_natCast, show ((b : Int) - (a : Int)).toNat = b - a from by omega]

end Go.Proofs.Ytehidhcpdiameaa
