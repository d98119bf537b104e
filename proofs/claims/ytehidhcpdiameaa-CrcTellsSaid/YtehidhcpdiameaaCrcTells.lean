/- The statement CrcTells: the law's own walk. -/
import Derived.Test.YtehidhcpdiameaaCrcFixed
import Derived.Test.YtehidhcpdiameaaCrcWindow
namespace Go.Proofs.Ytehidhcpdiameaa
open Go.RowKit

set_option maxHeartbeats 2000000 in
theorem crcTells_main (s : ByteArray) (p : Nat) (b0 b1 b2 b3 : UInt8) (hs : s.size ≤ 100000) (hp : p < s.size) (w : World) :
    Calls Try.prog 4 #[.string s, .int .i64 p, .agg #[byteV b0, byteV b1, byteV b2, byteV b3]] w fun e w' => e = .returned (.bool true) ∧ Ext w w' := by
  obtain ⟨bs, hbs⟩ : ∃ bs, bs = [b0, b1, b2, b3] := ⟨_, rfl⟩
  have hs' : ¬ (100000 : Int) < s.size := by omega
  have hp' : ¬ (p : Int) < 0 := by omega
  have hp2 : ¬ (s.size : Int) ≤ p := by omega
  have hcells : ∀ k, k < 4 → (w.alloc (.cells #[byteV b0, byteV b1, byteV b2, byteV b3] 30)).cell? ⟨w.heap.size, k, none⟩ = some (.int .u8 ((bs.getD k 0).toNat)) := by
    intro k hk
    rw [World.cell?_alloc_mark, hbs]
    match k, hk with
    | 0, _ => rfl
    | 1, _ => rfl
    | 2, _ => rfl
    | 3, _ => rfl
  have hd1 : decide ((100000 : Int) < (s.size : Int)) = false := decide_eq_false hs'
  have hd2 : decide ((p : Int) < 0) = false := decide_eq_false hp'
  have hd3 : decide (s.size ≤ p) = false := decide_eq_false (by omega)
  replace hbs := Lib.hid hbs; replace hcells := Lib.hid hcells
  go_enter Try.func4, Try.ntmps4
  go_wp2_with fail
  refine (fixed02 _).mono ?_; rintro e w1 ⟨rfl, x1⟩
  go_wp2_with fail
  have y1 : Ext w w1 := ((Ext.refl w).alloc _).trans x1
  have hb1 : ∀ k, k < 4 → w1.cell? ⟨w.heap.size, k, none⟩ = some (.int .u8 ((bs.getD k 0).toNat)) := fun k hk => (x1.cells _ _ (by simp)).trans (hcells.out k hk)
  clear hcells
  replace hb1 := Lib.hid hb1
  have hwsz : w.heap.size < w1.heap.size := by have := x1.size; simp at this; omega
  clear x1
  go_loopw [7, 8] (fun t i wr => ∃ k : Nat, k ≤ 4 ∧ i = .int .i64 k ∧ t = .string (str (turnTo s.data.toList p bs k)) ∧ Ext w1 wr) (fun _ i _ => 4 - (intOf i).toNat)
  case atStart => exact ⟨0, by omega, rfl, by unfold turnTo; rw [str_list], Ext.refl _⟩
  case round =>
    obtain ⟨k, hk, rfl, rfl, hx⟩ := hrel
    by_cases hgo : k < 4 ∧ p + k < s.size
    · obtain ⟨hk4, hpk⟩ := hgo
      have hc : wr.cell? ⟨w.heap.size, k, none⟩ = some (.int .u8 ((bs.getD k 0).toNat)) := (hx.cells _ _ hwsz).trans (hb1.out k hk4)
      have hlen : (str (turnTo s.data.toList p bs k)).size = s.size := by rw [str_size, turnTo_length, size_list]
      have ht := turn_any (str (turnTo s.data.toList p bs k)) (p + k) (bs.getD k 0) (by rw [hlen]; exact hpk)
      rw [list_str] at ht
      have hst := Lib.hid (turnTo_step s.data.toList p bs k (by rw [size_list]; exact hpk))
      replace ht := Lib.hid ht
      generalize bs.getD k 0 = bk at *
      generalize str (turnTo s.data.toList p bs k) = t at *
      clear hlen
      go_wp2_with fail
      refine (ht.out wr).mono ?_; rintro e w2 ⟨rfl, x2⟩
      go_wp2
      go_roundw
      case rel => exact ⟨k + 1, by omega, by go_num, by rw [hst.out], hx.trans x2⟩
      case measure => simp [intOf]; omega
    · have hstop : turnTo s.data.toList p bs k = turnTo s.data.toList p bs 4 := by
        by_cases h4 : k = 4
        · rw [h4]
        · have := turnTo_stop s.data.toList p bs k (by rw [size_list]; omega) (4 - k)
          rw [show k + (4 - k) = 4 from by omega] at this
          exact this.symm
      rw [hstop]
      clear hstop
      have hT1 := sum_any (str (turnTo s.data.toList p bs 4)) (by rw [str_size, turnTo_length, size_list]; unfold maxLen; omega)
      have hT2 := sum_any s (by unfold maxLen; omega)
      rw [list_str] at hT1
      have hTs : Crc.sum (turnTo s.data.toList p bs 4) = Crc.sum s.data.toList ↔ turnTo s.data.toList p bs 4 = s.data.toList :=
        ⟨fun h => (sum_inj _ _ p (turnTo_length _ _ _ _).symm (turnTo_out _ _ _ 4) h.symm).symm, fun h => by rw [h]⟩
      have hq1 : (((Crc.sum (turnTo s.data.toList p bs 4) : Nat) : Int) == ((Crc.sum s.data.toList : Nat) : Int)) = ((str (turnTo s.data.toList p bs 4)).toList == s.toList) := by
        rw [toList_str, toList_data, Bool.eq_iff_iff, beq_iff_eq, beq_iff_eq, ← hTs]
        omega
      have hS1 := seal_any s (by omega)
      have hSl : (str (Crc.seal_ s.data.toList)).size = s.size + 4 := by rw [str_size, Crc.seal_length, size_list]
      have hU1 := open_any (str (turnTo (Crc.seal_ s.data.toList) p bs 4)) (by rw [str_size, turnTo_length, Crc.seal_length, size_list]; unfold maxLen; omega)
      rw [list_str] at hU1
      have hq2 : (Crc.opn (turnTo (Crc.seal_ s.data.toList) p bs 4)).2 = ((str (turnTo (Crc.seal_ s.data.toList) p bs 4)).toList == (str (Crc.seal_ s.data.toList)).toList) := by
        rw [toList_str, toList_str, Bool.eq_iff_iff, beq_iff_eq]
        exact open_inj s.data.toList _ p (turnTo_length _ _ _ _).symm (turnTo_out _ _ _ 4)
      have hq3 : ∀ x : Bool, (x == x) = true := fun x => by cases x <;> rfl
      have hq4 : ∀ x : Bool, (x != x) = false := fun x => by cases x <;> rfl
      replace hT1 := Lib.hid hT1; replace hT2 := Lib.hid hT2; replace hS1 := Lib.hid hS1; replace hU1 := Lib.hid hU1; replace hq2 := Lib.hid hq2; replace hTs := Lib.hid hTs
      have hd5 : (k < 4 → decide ((p : Int) + (k : Int) < (s.size : Int)) = false) := fun h => decide_eq_false (by omega)
      by_cases hk4 : k < 4
      all_goals
        first
        | (have hd4 : decide ((k : Int) < 4) = true := decide_eq_true (by omega)
           replace hd5 := hd5 hk4)
        | (have hd4 : decide ((k : Int) < 4) = false := decide_eq_false (by omega)
           clear hd5)
        go_wp2_with fail
        refine (hT1.out _).mono ?_; rintro e w2 ⟨rfl, rfl⟩
        go_wp2_with fail
        refine (hT2.out _).mono ?_; rintro e w2 ⟨rfl, rfl⟩
        go_wp2_with fail
        refine (hS1.out _).mono ?_; rintro e w2 ⟨rfl, x2⟩
        have y2 : Ext w w2 := (y1.trans hx).trans x2
        have z2 : Ext w1 w2 := hx.trans x2
        clear x2 hx
        go_wp2_with fail
        go_loopw [9, 10] (fun t i wr => ∃ k : Nat, k ≤ 4 ∧ i = .int .i64 k ∧ t = .string (str (turnTo (Crc.seal_ s.data.toList) p bs k)) ∧ Ext w2 wr) (fun _ i _ => 4 - (intOf i).toNat)
        case atStart => exact ⟨0, by omega, rfl, by unfold turnTo; rfl, Ext.refl _⟩
        case round =>
          obtain ⟨j, hj, rfl, rfl, hx⟩ := hrel
          have hlen : (str (turnTo (Crc.seal_ s.data.toList) p bs j)).size = s.size + 4 := by rw [str_size, turnTo_length, Crc.seal_length, size_list]
          by_cases hgo2 : j < 4 ∧ p + j < s.size + 4
          · obtain ⟨hj4, hpj⟩ := hgo2
            have hc : wr.cell? ⟨w.heap.size, j, none⟩ = some (.int .u8 ((bs.getD j 0).toNat)) := ((z2.trans hx).cells _ _ hwsz).trans (hb1.out j hj4)
            have ht := turn_any (str (turnTo (Crc.seal_ s.data.toList) p bs j)) (p + j) (bs.getD j 0) (by rw [hlen]; exact hpj)
            rw [list_str] at ht
            have hst := Lib.hid (turnTo_step (Crc.seal_ s.data.toList) p bs j (by rw [Crc.seal_length, size_list]; exact hpj))
            replace ht := Lib.hid ht
            generalize bs.getD j 0 = bk at *
            generalize str (turnTo (Crc.seal_ s.data.toList) p bs j) = t at *
            go_wp2_with fail
            refine (ht.out _).mono ?_; rintro e w3 ⟨rfl, x3⟩
            clear hlen
            go_wp2
            go_roundw
            case rel => exact ⟨j + 1, by omega, by go_num, by rw [hst.out], hx.trans x3⟩
            case measure => simp [intOf]; omega
          · obtain rfl : j = 4 := by omega
            go_wp2_with fail
            refine (hU1.out _).mono ?_; rintro e w3 ⟨rfl, x3⟩
            go_wp2_with fail
            refine (hS1.out _).mono ?_; rintro e w4 ⟨rfl, x4⟩
            have hq2 := hq2.out
            go_wp2_with fail
            go_ret
            exact ⟨rfl, ((y2.trans hx).trans x3).trans x4⟩

theorem crcTells_out (s : ByteArray) (p : Int) (b0 b1 b2 b3 : UInt8) (h : 100000 < (s.size : Int) ∨ p < 0 ∨ (s.size : Int) ≤ p) (w : World) :
    Calls Try.prog 4 #[.string s, .int .i64 p, .agg #[byteV b0, byteV b1, byteV b2, byteV b3]] w fun e w' => e = .returned (.bool true) ∧ Ext w w' := by
  by_cases h1 : (100000 : Int) < s.size
  · clear h
    go_enter Try.func4, Try.ntmps4
    go_wp2_with fail
    refine (fixed02 _).mono ?_; rintro e w1 ⟨rfl, x1⟩
    go_wp2_with fail
    refine (fixed02 _).mono ?_; rintro e w2 ⟨rfl, x2⟩
    go_wp2_with fail
    go_ret
    exact ⟨rfl, (((Ext.refl w).alloc _).trans x1).trans x2⟩
  · by_cases h2 : p < 0
    · clear h
      go_enter Try.func4, Try.ntmps4
      go_wp2_with fail
      refine (fixed02 _).mono ?_; rintro e w1 ⟨rfl, x1⟩
      go_wp2_with fail
      refine (fixed02 _).mono ?_; rintro e w2 ⟨rfl, x2⟩
      go_wp2_with fail
      go_ret
      exact ⟨rfl, (((Ext.refl w).alloc _).trans x1).trans x2⟩
    · have h3 : (s.size : Int) ≤ p := by omega
      clear h
      go_enter Try.func4, Try.ntmps4
      go_wp2_with fail
      refine (fixed02 _).mono ?_; rintro e w1 ⟨rfl, x1⟩
      go_wp2_with fail
      refine (fixed02 _).mono ?_; rintro e w2 ⟨rfl, x2⟩
      go_wp2_with fail
      go_ret
      exact ⟨rfl, (((Ext.refl w).alloc _).trans x1).trans x2⟩

theorem crcTells_walk (s : ByteArray) (p : Int) (b : UInt8 × UInt8 × UInt8 × UInt8) (_hs : s.size ≤ maxLen) (_hr : s.size ≤ 140737488351232) (_hp : -9223372036854775808 ≤ p ∧ p ≤ 9223372036854775807) (_hb : True) (w : World) :
    Calls Try.prog 4 #[.string s, .int .i64 p, .agg #[byteV b.1, byteV b.2.1, byteV b.2.2.1, byteV b.2.2.2]] w fun e w' => e = .returned (.bool true) ∧ Ext w w' := by
  by_cases h : 100000 < (s.size : Int) ∨ p < 0 ∨ (s.size : Int) ≤ p
  · exact crcTells_out s p _ _ _ _ h w
  · obtain ⟨q, rfl⟩ := Int.eq_ofNat_of_zero_le (show 0 ≤ p by omega)
    exact crcTells_main s q _ _ _ _ (by omega) (by omega) w

end Go.Proofs.Ytehidhcpdiameaa
