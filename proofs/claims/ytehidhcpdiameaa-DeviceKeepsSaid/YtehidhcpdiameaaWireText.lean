/- The walks of layer 10, on: texts as bytes, of the program and of the reference. -/
import Derived.Test.YtehidhcpdiameaaWireRefTake
namespace Go.Proofs.Ytehidhcpdiameaa
open Go.RowKit

namespace Wire
/-- a text as bytes. -/
def text (l : List UInt8) : List UInt8 := num (l.length : Int) ++ l
/-- the text that stands at a place, and the place behind it. -/
def takeTextAt (l : List UInt8) (p : Int) : List UInt8 × Int × Bool :=
  if (takeAt l p).2.2 && decide (((takeAt l p).1 : Int) ≤ (l.length : Int) - (takeAt l p).2.1) then
    ((l.drop (takeAt l p).2.1.toNat).take (takeAt l p).1, (takeAt l p).2.1 + (takeAt l p).1, true)
  else ([], 0, false)

theorem takeAt_bounds (l : List UInt8) (p : Int) (n : Nat) (q : Int) (h : takeAt l p = (n, q, true)) : 0 ≤ p ∧ p < q ∧ q ≤ l.length ∧ n < 1099511627776 := by
  unfold takeAt at h
  by_cases hp : p < 0 ∨ (l.length : Int) ≤ p
  · rw [if_pos hp] at h; simp at h
  · rw [if_neg hp] at h
    cases ht : take (l.drop p.toNat) with
    | none => rw [ht] at h; simp at h
    | some r =>
      obtain ⟨m, c⟩ := r
      rw [ht] at h
      simp only [Prod.mk.injEq, and_true] at h
      obtain ⟨rfl, rfl⟩ := h
      obtain ⟨h1, _, h3, _, h5⟩ := take_spec _ _ _ ht
      rw [List.length_drop] at h3
      rw [lim_eq] at h1
      omega
end Wire

theorem Soft_same {f : FuncId} {args : Array Value} {w : World} {v : Value} (h : Calls Try.prog f args w fun e w' => e = .returned v ∧ w = w') :
    Calls Try.prog f args w fun e w' => e = .returned v ∧ Ext w w' := h.mono fun _ _ ⟨he, hw⟩ => ⟨he, by subst hw; exact Ext.refl _⟩

theorem num_size (n : Int) : (Wire.num n).length ≤ 6 := by
  unfold Wire.num
  split
  · simp
  · exact Wire.digits_length 5 _

theorem text_any (s : ByteArray) (hs : s.size ≤ 140737488400000) (w : World) :
    Calls Try.prog 48 #[.string s] w fun e w' => e = .returned (.string (str (Wire.text s.data.toList))) ∧ Ext w w' := by
  have hn := num_any (s.size : Int)
  have hl := num_size (s.size : Int)
  have ht : str (Wire.text s.data.toList) = str (Wire.num (s.size : Int)) ++ s := by
    unfold Wire.text str
    rw [size_list]
    conv => rhs; rw [← str_list s]
    unfold str
    rw [ByteArray.mk_append_mk]
  have hsz : (str (Wire.num (s.size : Int))).size ≤ 6 := by rw [str_size]; exact hl
  generalize str (Wire.num (s.size : Int)) = N at *
  replace hn := Lib.hid hn; replace ht := Lib.hid ht
  go_enter Try.func48, Try.ntmps48
  go_wp2_with fail
  refine (hn.out _).mono ?_; rintro e w1 ⟨rfl, x1⟩
  go_wp2_with fail
  go_ret
  exact ⟨ret_string ht.out.symm, x1⟩

theorem refText_any (s : ByteArray) (hs : s.size ≤ 140737488400000) (w : World) :
    Calls Try.prog 49 #[.string s] w fun e w' => e = .returned (.string (str (Wire.text s.data.toList))) ∧ Ext w w' := by
  have hn := refNum_any (s.size : Int)
  have hl := num_size (s.size : Int)
  have ht : str (Wire.text s.data.toList) = str (Wire.num (s.size : Int)) ++ s := by
    unfold Wire.text str
    rw [size_list]
    conv => rhs; rw [← str_list s]
    unfold str
    rw [ByteArray.mk_append_mk]
  have hsz : (str (Wire.num (s.size : Int))).size ≤ 6 := by rw [str_size]; exact hl
  generalize str (Wire.num (s.size : Int)) = N at *
  replace hn := Lib.hid hn; replace ht := Lib.hid ht
  go_enter Try.func49, Try.ntmps49
  go_wp2_with fail
  refine (hn.out _).mono ?_; rintro e w1 ⟨rfl, x1⟩
  go_wp2_with fail
  go_ret
  exact ⟨ret_string ht.out.symm, x1⟩

set_option maxRecDepth 100000 in
theorem takeText_any (s : ByteArray) (p : Int) (hs : s.size ≤ 140737488400000) (w : World) :
    Calls Try.prog 41 #[.string s, .int .i64 p] w fun e w' => e = .returned (.tuple #[.string (str (Wire.takeTextAt s.data.toList p).1), .int .i64 (Wire.takeTextAt s.data.toList p).2.1, .bool (Wire.takeTextAt s.data.toList p).2.2]) ∧ Ext w w' := by
  have hc := fun w => Soft_same (take_any s p (by unfold maxLen; omega) w)
  have hb := Wire.takeAt_bounds s.data.toList p
  obtain ⟨r, hr⟩ : ∃ r, r = Wire.takeTextAt s.data.toList p := ⟨_, rfl⟩
  rw [← hr]
  unfold Wire.takeTextAt at hr
  generalize Wire.takeAt s.data.toList p = t at *
  obtain ⟨n, q, b⟩ := t
  unfold took at hc
  dsimp only at hr hc
  rw [size_list] at hr
  replace hc := Lib.hid hc
  cases b
  · simp only [Bool.false_and, Bool.false_eq_true, if_false] at hr
    subst hr
    clear hb
    go_enter Try.func41, Try.ntmps41
    go_wp2_with fail
    refine (hc.out _).mono ?_; rintro e w1 ⟨rfl, x1⟩
    go_wp2_with fail
    go_ret3
    exact ⟨rfl, x1⟩
  · obtain ⟨h1, h2, h3, h4⟩ := hb n q rfl
    rw [size_list] at h3
    obtain ⟨q, rfl⟩ := Int.eq_ofNat_of_zero_le (show 0 ≤ q by omega)
    by_cases hn : (n : Int) ≤ (s.size : Int) - q
    · simp only [Bool.true_and, decide_eq_true hn, if_true, Int.toNat_natCast] at hr
      have hx : str ((s.data.toList.drop q).take n) = s.extract q (q + n) := by
        apply str_inj
        rw [extract_list, list_str, show q + n - q = n from by omega]
      subst hr
      dsimp only
      rw [hx]
      have h4' : (n : Int) ≤ 140737488400000 := by omega
      clear h4 hx h1
      go_enter Try.func41, Try.ntmps41
      go_wp2_with fail
      refine (hc.out _).mono ?_; rintro e w1 ⟨rfl, x1⟩
      go_wp2_with fail
      go_ret3
      exact ⟨rfl, x1⟩
    · simp only [Bool.true_and, decide_eq_false hn, Bool.false_eq_true, if_false] at hr
      subst hr
      have hn' : (s.size : Int) - q < n := by omega
      clear h4 h1
      go_enter Try.func41, Try.ntmps41
      go_wp2_with fail
      refine (hc.out _).mono ?_; rintro e w1 ⟨rfl, x1⟩
      go_wp2_with fail
      go_ret3
      exact ⟨rfl, x1⟩

set_option maxRecDepth 100000 in
theorem refTakeText_any (s : ByteArray) (p : Int) (hs : s.size ≤ 140737488400000) (w : World) :
    Calls Try.prog 42 #[.string s, .int .i64 p] w fun e w' => e = .returned (.tuple #[.string (str (Wire.takeTextAt s.data.toList p).1), .int .i64 (Wire.takeTextAt s.data.toList p).2.1, .bool (Wire.takeTextAt s.data.toList p).2.2]) ∧ Ext w w' := by
  have hc := refTake_any s p hs
  have hb := Wire.takeAt_bounds s.data.toList p
  obtain ⟨r, hr⟩ : ∃ r, r = Wire.takeTextAt s.data.toList p := ⟨_, rfl⟩
  rw [← hr]
  unfold Wire.takeTextAt at hr
  generalize Wire.takeAt s.data.toList p = t at *
  obtain ⟨n, q, b⟩ := t
  unfold took at hc
  dsimp only at hr hc
  rw [size_list] at hr
  replace hc := Lib.hid hc
  cases b
  · simp only [Bool.false_and, Bool.false_eq_true, if_false] at hr
    subst hr
    clear hb
    go_enter Try.func42, Try.ntmps42
    go_wp2_with fail
    refine (hc.out _).mono ?_; rintro e w1 ⟨rfl, x1⟩
    go_wp2_with fail
    go_ret3
    exact ⟨rfl, x1⟩
  · obtain ⟨h1, h2, h3, h4⟩ := hb n q rfl
    rw [size_list] at h3
    obtain ⟨q, rfl⟩ := Int.eq_ofNat_of_zero_le (show 0 ≤ q by omega)
    by_cases hn : (n : Int) ≤ (s.size : Int) - q
    · simp only [Bool.true_and, decide_eq_true hn, if_true, Int.toNat_natCast] at hr
      have hx : str ((s.data.toList.drop q).take n) = s.extract q (q + n) := by
        apply str_inj
        rw [extract_list, list_str, show q + n - q = n from by omega]
      subst hr
      dsimp only
      rw [hx]
      have h4' : (n : Int) ≤ 140737488400000 := by omega
      clear h4 hx h1
      go_enter Try.func42, Try.ntmps42
      go_wp2_with fail
      refine (hc.out _).mono ?_; rintro e w1 ⟨rfl, x1⟩
      go_wp2_with fail
      go_ret3
      exact ⟨rfl, x1⟩
    · simp only [Bool.true_and, decide_eq_false hn, Bool.false_eq_true, if_false] at hr
      subst hr
      have hn' : (s.size : Int) - q < n := by omega
      clear h4 h1
      go_enter Try.func42, Try.ntmps42
      go_wp2_with fail
      refine (hc.out _).mono ?_; rintro e w1 ⟨rfl, x1⟩
      go_wp2_with fail
      go_ret3
      exact ⟨rfl, x1⟩

end Go.Proofs.Ytehidhcpdiameaa
