/- The statement CrcBack: the law's own walk. -/
import Derived.Test.YtehidhcpdiameaaCrcFixed
namespace Go.Proofs.Ytehidhcpdiameaa
open Go.RowKit

theorem opn_fst_length (l : List UInt8) : (Crc.opn l).1.length ≤ l.length := by
  unfold Crc.opn
  split
  · simp
  · split
    · simp only [List.length_take]; omega
    · simp

theorem crcBack_walk (s : ByteArray) (hs : s.size ≤ maxLen) (hr : s.size ≤ 140737488351232) (w : World) :
    Calls Try.prog 6 #[.string s] w fun e w' => e = .returned (.bool true) ∧ Ext w w' := by
  have h1 := seal_any s (by omega)
  have h2 := open_any (str (Crc.seal_ s.data.toList)) (by rw [str_size, Crc.seal_length, size_list]; unfold maxLen; omega)
  rw [list_str, Crc.opn_seal, str_list] at h2
  have h3 := open_any s hs
  have hlen : (str (Crc.seal_ s.data.toList)).size = s.size + 4 := by rw [str_size, Crc.seal_length, size_list]
  have hself : (s.toList == s.toList) = true := beq_self_eq_true _
  have h4 := seal_any (str (Crc.opn s.data.toList).1) (by rw [str_size]; have := opn_fst_length s.data.toList; rw [size_list] at this; omega)
  rw [list_str] at h4
  have hback : (Crc.opn s.data.toList).2 = true → ((str (Crc.seal_ (Crc.opn s.data.toList).1)).toList == s.toList) = true := fun h =>
    beq_true (Crc.seal_opn s.data.toList _ (Prod.ext rfl h))
  generalize hS : Crc.seal_ s.data.toList = S at *
  generalize Crc.opn s.data.toList = o at *
  obtain ⟨o1, o2⟩ := o
  replace h1 := Lib.hid h1; replace h2 := Lib.hid h2; replace h3 := Lib.hid h3; replace h4 := Lib.hid h4
  clear hS hs
  cases o2
  · clear hback
    go_enter Try.func6, Try.ntmps6
    go_wp2_with fail
    refine (h1.out _).mono ?_; rintro e w1 ⟨rfl, x1⟩
    go_wp2_with fail
    refine (h2.out _).mono ?_; rintro e w2 ⟨rfl, x2⟩
    go_wp2_with fail
    refine (h3.out _).mono ?_; rintro e w3 ⟨rfl, x3⟩
    go_wp2_with fail
    refine (fixed02 _).mono ?_; rintro e w4 ⟨rfl, x4⟩
    go_wp2_with fail
    refine (h1.out _).mono ?_; rintro e w5 ⟨rfl, x5⟩
    go_wp2_with fail
    go_ret
    exact ⟨rfl, (((x1.trans x2).trans x3).trans x4).trans x5⟩
  · replace hback := hback rfl
    go_enter Try.func6, Try.ntmps6
    go_wp2_with fail
    refine (h1.out _).mono ?_; rintro e w1 ⟨rfl, x1⟩
    go_wp2_with fail
    refine (h2.out _).mono ?_; rintro e w2 ⟨rfl, x2⟩
    go_wp2_with fail
    refine (h3.out _).mono ?_; rintro e w3 ⟨rfl, x3⟩
    go_wp2_with fail
    refine (fixed02 _).mono ?_; rintro e w4 ⟨rfl, x4⟩
    go_wp2_with fail
    refine (h4.out _).mono ?_; rintro e w5 ⟨rfl, x5⟩
    go_wp2_with fail
    refine (h1.out _).mono ?_; rintro e w6 ⟨rfl, x6⟩
    go_wp2_with fail
    go_ret
    exact ⟨rfl, ((((x1.trans x2).trans x3).trans x4).trans x5).trans x6⟩

end Go.Proofs.Ytehidhcpdiameaa
