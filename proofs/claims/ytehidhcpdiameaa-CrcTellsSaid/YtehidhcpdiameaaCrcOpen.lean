/- The walks of layer 2, on: what Open of the program computes. -/
import Derived.Test.YtehidhcpdiameaaCrcWalk
namespace Go.Proofs.Ytehidhcpdiameaa
open Go.RowKit

theorem opn_short (l : List UInt8) (h : l.length < 4) : Crc.opn l = ([], false) := by unfold Crc.opn; rw [if_pos h]
theorem opn_hit (l : List UInt8) (h : ¬ l.length < 4) (he : Crc.seal_ (l.take (l.length - 4)) = l) : Crc.opn l = (l.take (l.length - 4), true) := by
  unfold Crc.opn; rw [if_neg h, if_pos he]
theorem opn_miss (l : List UInt8) (h : ¬ l.length < 4) (he : ¬ Crc.seal_ (l.take (l.length - 4)) = l) : Crc.opn l = ([], false) := by
  unfold Crc.opn; rw [if_neg h, if_neg he]
theorem ret_sb {a b : ByteArray} {c d : Bool} (h : a = b) (k : c = d) : Ending.returned (.tuple #[.string a, .bool c]) = .returned (.tuple #[.string b, .bool d]) := by rw [h, k]

theorem open_any (s : ByteArray) (hs : s.size ≤ maxLen) (w : World) :
    Calls Try.prog 28 #[.string s] w fun e w' => e = .returned (.tuple #[.string (str (Crc.opn s.data.toList).1), .bool (Crc.opn s.data.toList).2]) ∧ Ext w w' := by
  unfold maxLen at hs
  by_cases h4 : s.size < 4
  · have ho := Lib.hid (opn_short s.data.toList (by rw [size_list]; exact h4))
    go_enter Try.func28, Try.ntmps28
    go_wp2
    go_ret2
    exact ⟨by rw [ho.out]; rfl, Ext.refl _⟩
  · have hI := extract_head s (s.size - 4)
    have HC := seal_any (s.extract 0 (s.size - 4)) (by rw [← size_list, hI, List.length_take]; omega)
    rw [hI] at HC
    replace HC := Lib.hid HC
    by_cases he : Crc.seal_ (s.data.toList.take (s.size - 4)) = s.data.toList
    · have ho := opn_hit s.data.toList (by rw [size_list]; exact h4) (by rw [size_list]; exact he)
      rw [size_list] at ho
      have hb : ((str (Crc.seal_ (s.data.toList.take (s.size - 4)))).toList == s.toList) = true := beq_true he
      generalize Crc.seal_ (s.data.toList.take (s.size - 4)) = X at *
      replace ho := Lib.hid ho
      replace hI := Lib.hid hI
      clear he
      go_enter Try.func28, Try.ntmps28
      go_wp2_with (go_at_call 35; refine (HC.out _).mono ?_; rintro e w' ⟨rfl, hbel⟩)
      go_ret2
      refine ⟨?_, by assumption⟩
      rw [ho.out]
      exact ret_sb (str_inj hI.out) rfl
    · have ho := opn_miss s.data.toList (by rw [size_list]; exact h4) (by rw [size_list]; exact he)
      have hb : ((str (Crc.seal_ (s.data.toList.take (s.size - 4)))).toList == s.toList) = false := beq_false he
      generalize Crc.seal_ (s.data.toList.take (s.size - 4)) = X at *
      replace ho := Lib.hid ho
      replace hI := Lib.hid hI
      clear he
      go_enter Try.func28, Try.ntmps28
      go_wp2_with (go_at_call 35; refine (HC.out _).mono ?_; rintro e w' ⟨rfl, hbel⟩)
      go_ret2
      refine ⟨?_, by assumption⟩
      rw [ho.out]
      exact ret_sb rfl rfl

theorem refOpen_any (s : ByteArray) (hs : s.size ≤ maxLen) (w : World) :
    Calls Try.prog 29 #[.string s] w fun e w' => e = .returned (.tuple #[.string (str (Crc.opn s.data.toList).1), .bool (Crc.opn s.data.toList).2]) ∧ Ext w w' := by
  unfold maxLen at hs
  by_cases h4 : s.size < 4
  · have ho := Lib.hid (opn_short s.data.toList (by rw [size_list]; exact h4))
    go_enter Try.func29, Try.ntmps29
    go_wp2
    go_ret2
    exact ⟨by rw [ho.out]; rfl, Ext.refl _⟩
  · have hI := extract_head s (s.size - 4)
    have HC := refSeal_any (s.extract 0 (s.size - 4)) (by rw [← size_list, hI, List.length_take]; omega)
    rw [hI] at HC
    replace HC := Lib.hid HC
    by_cases he : Crc.seal_ (s.data.toList.take (s.size - 4)) = s.data.toList
    · have ho := opn_hit s.data.toList (by rw [size_list]; exact h4) (by rw [size_list]; exact he)
      rw [size_list] at ho
      have hb : ((str (Crc.seal_ (s.data.toList.take (s.size - 4)))).toList == s.toList) = true := beq_true he
      generalize Crc.seal_ (s.data.toList.take (s.size - 4)) = X at *
      replace ho := Lib.hid ho
      replace hI := Lib.hid hI
      clear he
      go_enter Try.func29, Try.ntmps29
      go_wp2_with (go_at_call 36; refine (HC.out _).mono ?_; rintro e w' ⟨rfl, hbel⟩)
      go_ret2
      refine ⟨?_, by assumption⟩
      rw [ho.out]
      exact ret_sb (str_inj hI.out) rfl
    · have ho := opn_miss s.data.toList (by rw [size_list]; exact h4) (by rw [size_list]; exact he)
      have hb : ((str (Crc.seal_ (s.data.toList.take (s.size - 4)))).toList == s.toList) = false := beq_false he
      generalize Crc.seal_ (s.data.toList.take (s.size - 4)) = X at *
      replace ho := Lib.hid ho
      replace hI := Lib.hid hI
      clear he
      go_enter Try.func29, Try.ntmps29
      go_wp2_with (go_at_call 36; refine (HC.out _).mono ?_; rintro e w' ⟨rfl, hbel⟩)
      go_ret2
      refine ⟨?_, by assumption⟩
      rw [ho.out]
      exact ret_sb rfl rfl

end Go.Proofs.Ytehidhcpdiameaa
