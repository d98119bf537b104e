/- The walks of layer 10, on: lists of numbers as bytes, of the reference. -/
import Derived.Test.YtehidhcpdiameaaWireTakeInts
namespace Go.Proofs.Ytehidhcpdiameaa
open Go.RowKit

theorem str_append (a b : List UInt8) : str a ++ str b = str (a ++ b) := by
  unfold str
  rw [ByteArray.mk_append_mk]

set_option maxRecDepth 100000 in
set_option maxHeartbeats 4000000 in
theorem refInts_any (l : List Int) (v : Value) (w : World) (h : Sl w v (l.map intV)) (hn : 6 * l.length + 6 ≤ 140737488355328) :
    Calls Try.prog 51 #[v] w fun e w' => e = .returned (.string (str (Wire.ints l))) ∧ Ext w w' := by
  obtain ⟨a, c, rfl, hlc, hc, hcell⟩ := sl_int_at h
  have hcnt := refNum_any (l.length : Int)
  have hlen : (l.length : Int) ≤ 9223372036854775807 := by omega
  have hsz0 := num_size (l.length : Int)
  replace hcnt := Lib.hid hcnt
  go_enter Try.func51, Try.ntmps51
  go_wp2_with fail
  refine (hcnt.out _).mono ?_; rintro e w1 ⟨rfl, x1⟩
  go_wp2_with fail
  go_loopw [3, 4] (fun out i wr => ∃ (k : Nat) (S : ByteArray), k ≤ l.length ∧ i = .int .i64 k ∧ (l.take k).any Wire.bad = false ∧ out = .string S ∧ S = str (Wire.num (l.length : Int) ++ (l.take k).flatMap Wire.num) ∧ Ext w wr) (fun _ i _ => l.length - (intOf i).toNat)
  case atStart => exact ⟨0, _, by omega, rfl, by simp, rfl, by simp, x1⟩
  case round =>
    obtain ⟨k, S, hk, rfl, hany, rfl, hS, hx⟩ := hrel
    by_cases hkl : k < l.length
    · obtain ⟨b, o, rfl, hbl, hcl⟩ := hcell k hkl
      have hcl2 := (hx.cell (p := ⟨b, o + k, none⟩) hbl).trans hcl
      have h1 := refNum_any l[k]
      have hs1 := Wire.take_any_snoc l k hkl Wire.bad
      have hs2 := Wire.take_flat_snoc l k hkl
      have hbad := Wire.any_of_bad l k hkl
      have hz := num_size l[k]
      have hbd : Wire.bad l[k] = decide (Wire.num l[k] = []) := rfl
      generalize l[k] = n at *
      have hem : (str (Wire.num n)).toList.isEmpty = Wire.bad n := by
        rw [hbd, toList_str]; cases Wire.num n <;> rfl
      have hsz : (str (Wire.num n)).size = (Wire.num n).length := str_size _
      have hfs := Wire.flatMap_size (l.take k)
      have hSs : S.size ≤ 6 + 6 * k := by
        rw [hS, str_size, List.length_append]; rw [List.length_take] at hfs; omega
      have hS2 : S ++ str (Wire.num n) = str (Wire.num (l.length : Int) ++ (l.take (k + 1)).flatMap Wire.num) := by
        rw [hS, str_append, hs2, List.append_assoc]
      have hints : Wire.bad n = true → str (Wire.ints l) = ByteArray.empty := fun hb => by unfold Wire.ints; rw [hbad hb]; rfl
      generalize str (Wire.num n) = N at *
      replace h1 := Lib.hid h1; replace hints := Lib.hid hints; replace hS := Lib.hid hS; replace hS2 := Lib.hid hS2; replace hs1 := Lib.hid hs1
      clear hcell h hcl hbd hbad hs2 hfs
      have hNs : N.size ≤ 6 := by omega
      have hadd : ¬ 9223372036854775807 < S.size + N.size := by omega
      clear hsz hz
      cases hnb : Wire.bad n
      · rw [hnb] at hem
        have hs1 := hs1.out
        rw [hnb, hany] at hs1
        replace hs1 := Lib.hid hs1
        replace hnb := Lib.hid hnb; replace hany := Lib.hid hany
        clear hints
        go_wp2_with fail
        refine (h1.out _).mono ?_; rintro e w3 ⟨rfl, x3⟩
        have hcl3 := (x3.cell (p := ⟨b, o + k, none⟩) (Nat.lt_of_lt_of_le hbl hx.size)).trans hcl2
        go_wp2_with fail
        refine (h1.out _).mono ?_; rintro e w4 ⟨rfl, x4⟩
        go_wp2_with fail
        go_roundw
        case rel => exact ⟨k + 1, _, by omega, by go_num, hs1.out, rfl, hS2.out, (hx.trans x3).trans x4⟩
        case measure => simp [intOf]; omega
      · rw [hnb] at hem
        replace hnb := Lib.hid hnb; replace hany := Lib.hid hany
        go_wp2_with fail
        refine (h1.out _).mono ?_; rintro e w3 ⟨rfl, x3⟩
        go_wp2_with fail
        go_ret
        exact ⟨ret_string (hints.out hnb.out).symm, hx.trans x3⟩
    · obtain rfl : k = l.length := by omega
      have hres : str (Wire.ints l) = S := by
        rw [List.take_length] at hany
        rw [hS, List.take_length]
        unfold Wire.ints
        rw [hany]; rfl
      replace hS := Lib.hid hS; replace hany := Lib.hid hany; replace hres := Lib.hid hres
      go_wp2_with fail
      go_ret
      exact ⟨ret_string hres.out.symm, hx⟩

end Go.Proofs.Ytehidhcpdiameaa
