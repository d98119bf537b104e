/- The statement WireLists: the law's own walk. -/
import Derived.Test.YtehidhcpdiameaaWireBack
namespace Go.Proofs.Ytehidhcpdiameaa
open Go.RowKit

set_option maxRecDepth 100000 in
set_option maxHeartbeats 4000000 in
theorem wireLists_out (w : World) (l m : List Int) (a a2 : Option Addr) (c c2 : Nat) (TA TB : ByteArray) (bA bB : Bool)
    (hl : Sl w (.slice a l.length c) (l.map intV)) (hm : Sl w (.slice a2 m.length c2) (m.map intV)) (hln : (l.length : Int) ≤ 9223372036854775807) (hmn : (m.length : Int) ≤ 9223372036854775807)
    (h50 : ∀ w, Sl w (.slice a l.length c) (l.map intV) → Calls Try.prog 50 #[.slice a l.length c] w fun e w' => e = .returned (.string TA) ∧ Ext w w')
    (h50' : ∀ w, Sl w (.slice a2 m.length c2) (m.map intV) → Calls Try.prog 50 #[.slice a2 m.length c2] w fun e w' => e = .returned (.string TB) ∧ Ext w w')
    (eA : TA.toList.isEmpty = bA) (eB : TB.toList.isEmpty = bB) (h : bA = true ∨ bB = true ∨ 300 < (l.length : Int) ∨ 300 < (m.length : Int)) :
    Calls Try.prog 12 #[.slice a l.length c, .slice a2 m.length c2] w fun e w' => e = .returned (.bool true) ∧ Ext w w' := by
  replace h50 := Lib.hid h50; replace h50' := Lib.hid h50'; replace hl := Lib.hid hl; replace hm := Lib.hid hm
  rcases bA with _ | _
  · rcases bB with _ | _
    · by_cases h3 : 300 < (l.length : Int)
      · clear h
        go_enter Try.func12, Try.ntmps12
        go_wp2_with fail
        refine (h50.out _ hl.out).mono ?_; rintro e w1 ⟨rfl, x1⟩
        go_wp2_with fail
        refine (h50'.out _ (hm.out.ext x1)).mono ?_; rintro e w2 ⟨rfl, x2⟩
        go_wp2_with fail
        refine (fixed10 _).mono ?_; rintro e w3 ⟨rfl, x3⟩
        go_wp2_with fail
        refine (fixed10 _).mono ?_; rintro e w4 ⟨rfl, x4⟩
        go_wp2_with fail
        go_ret
        exact ⟨rfl, ((x1.trans x2).trans x3).trans x4⟩
      · have d3 : decide ((300 : Int) < l.length) = false := decide_eq_false h3
        have h4 : 300 < (m.length : Int) := by rcases h with h | h | h | h; cases h; cases h; omega; omega
        clear h
        go_enter Try.func12, Try.ntmps12
        go_wp2_with fail
        refine (h50.out _ hl.out).mono ?_; rintro e w1 ⟨rfl, x1⟩
        go_wp2_with fail
        refine (h50'.out _ (hm.out.ext x1)).mono ?_; rintro e w2 ⟨rfl, x2⟩
        go_wp2_with fail
        refine (fixed10 _).mono ?_; rintro e w3 ⟨rfl, x3⟩
        go_wp2_with fail
        refine (fixed10 _).mono ?_; rintro e w4 ⟨rfl, x4⟩
        go_wp2_with fail
        go_ret
        exact ⟨rfl, ((x1.trans x2).trans x3).trans x4⟩
    · clear h
      go_enter Try.func12, Try.ntmps12
      go_wp2_with fail
      refine (h50.out _ hl.out).mono ?_; rintro e w1 ⟨rfl, x1⟩
      go_wp2_with fail
      refine (h50'.out _ (hm.out.ext x1)).mono ?_; rintro e w2 ⟨rfl, x2⟩
      go_wp2_with fail
      refine (fixed10 _).mono ?_; rintro e w3 ⟨rfl, x3⟩
      go_wp2_with fail
      refine (fixed10 _).mono ?_; rintro e w4 ⟨rfl, x4⟩
      go_wp2_with fail
      go_ret
      exact ⟨rfl, ((x1.trans x2).trans x3).trans x4⟩
  · clear h
    go_enter Try.func12, Try.ntmps12
    go_wp2_with fail
    refine (h50.out _ hl.out).mono ?_; rintro e w1 ⟨rfl, x1⟩
    go_wp2_with fail
    refine (h50'.out _ (hm.out.ext x1)).mono ?_; rintro e w2 ⟨rfl, x2⟩
    go_wp2_with fail
    refine (fixed10 _).mono ?_; rintro e w3 ⟨rfl, x3⟩
    go_wp2_with fail
    refine (fixed10 _).mono ?_; rintro e w4 ⟨rfl, x4⟩
    go_wp2_with fail
    go_ret
    exact ⟨rfl, ((x1.trans x2).trans x3).trans x4⟩

set_option maxRecDepth 100000 in
set_option maxHeartbeats 4000000 in
theorem wireLists_core (w : World) (l m : List Int) (a a2 : Option Addr) (c c2 : Nat) (TA TB : ByteArray)
    (hl : Sl w (.slice a l.length c) (l.map intV)) (hm : Sl w (.slice a2 m.length c2) (m.map intV)) (hln : l.length ≤ 300) (hmn : m.length ≤ 300) (sA : TA.size ≤ 2000) (sB : TB.size ≤ 2000)
    (h50 : ∀ w, Sl w (.slice a l.length c) (l.map intV) → Calls Try.prog 50 #[.slice a l.length c] w fun e w' => e = .returned (.string TA) ∧ Ext w w')
    (h50' : ∀ w, Sl w (.slice a2 m.length c2) (m.map intV) → Calls Try.prog 50 #[.slice a2 m.length c2] w fun e w' => e = .returned (.string TB) ∧ Ext w w')
    (eA : TA.toList.isEmpty = false) (eB : TB.toList.isEmpty = false)
    (h43 : ∀ w, Calls Try.prog 43 #[.string (TA ++ TB), .int .i64 0] w (TookInts w (l, TA.size, true)))
    (h43' : ∀ w, Calls Try.prog 43 #[.string (TA ++ TB), .int .i64 TA.size] w (TookInts w (m, (TA.size : Int) + TB.size, true)))
    (eAB : (TA.toList == TB.toList) = decide (l = m)) :
    Calls Try.prog 12 #[.slice a l.length c, .slice a2 m.length c2] w fun e w' => e = .returned (.bool true) ∧ Ext w w' := by
  have h47a := sameInts_any l l
  have h47b := sameInts_any m m
  have h47c := sameInts_any l m
  have d3 : decide ((300 : Int) < l.length) = false := decide_eq_false (by omega)
  have d4 : decide ((300 : Int) < m.length) = false := decide_eq_false (by omega)
  have dd : (decide (l = m) == decide (l = m)) = true := beq_self_eq_true _
  rw [decide_eq_true rfl] at h47a h47b
  generalize decide (l = m) = bLM at *
  replace h50 := Lib.hid h50; replace h50' := Lib.hid h50'; replace hl := Lib.hid hl; replace hm := Lib.hid hm; replace h43 := Lib.hid h43; replace h43' := Lib.hid h43'
  replace h47a := Lib.hid h47a; replace h47b := Lib.hid h47b; replace h47c := Lib.hid h47c
  go_enter Try.func12, Try.ntmps12
  go_wp2_with fail
  refine (h50.out _ hl.out).mono ?_; rintro e w1 ⟨rfl, x1⟩
  go_wp2_with fail
  refine (h50'.out _ (hm.out.ext x1)).mono ?_; rintro e w2 ⟨rfl, x2⟩
  go_wp2_with fail
  refine (fixed10 _).mono ?_; rintro e w3 ⟨rfl, x3⟩
  go_wp2_with fail
  refine (h43.out _).mono ?_; rintro e w4 ⟨v4, rfl, l4, x4⟩
  replace l4 := Lib.hid l4
  go_wp2_with fail
  refine (h43'.out _).mono ?_; rintro e w5 ⟨v5, rfl, l5, x5⟩
  have y5 := Lib.hid ((((x1.trans x2).trans x3).trans x4).trans x5)
  replace l4 := Lib.hid (l4.out.ext x5)
  replace l5 := Lib.hid l5
  go_wp2_with fail
  refine (h47a.out _ _ _ l4.out (hl.out.ext y5.out)).mono ?_; rintro e w6 ⟨rfl, x6⟩
  have y6 := Lib.hid (y5.out.trans x6)
  go_wp2_with fail
  refine (h47b.out _ _ _ (l5.out.ext x6) (hm.out.ext y6.out)).mono ?_; rintro e w7 ⟨rfl, x7⟩
  have y7 := Lib.hid (y6.out.trans x7)
  go_wp2_with fail
  refine (h47c.out _ _ _ (hl.out.ext y7.out) (hm.out.ext y7.out)).mono ?_; rintro e w8 ⟨rfl, x8⟩
  go_wp2_with fail
  go_ret
  exact ⟨rfl, y7.out.trans x8⟩

theorem wireLists_walk (w : World) (l : List Int) (u : Value) (m : List Int) (v : Value)
    (hl : Sl w u (l.map intV) ∧ 8 * l.length ≤ 140737488351232 ∧ ∀ n ∈ l, -9223372036854775808 ≤ n ∧ n ≤ 9223372036854775807)
    (hm : Sl w v (m.map intV) ∧ 8 * m.length ≤ 140737488351232 ∧ ∀ n ∈ m, -9223372036854775808 ≤ n ∧ n ≤ 9223372036854775807) :
    Calls Try.prog 12 #[u, v] w fun e w' => e = .returned (.bool true) ∧ Ext w w' := by
  obtain ⟨a, c, rfl, _, _, _⟩ := id hl.1
  obtain ⟨a2, c2, rfl, _, _, _⟩ := id hm.1
  have hl0 := hl.1
  have hm0 := hm.1
  rw [List.length_map] at hl0 hm0 ⊢
  rw [List.length_map]
  by_cases h : decide (Wire.ints l = []) = true ∨ decide (Wire.ints m = []) = true ∨ 300 < (l.length : Int) ∨ 300 < (m.length : Int)
  · exact wireLists_out w l m a a2 c c2 _ _ _ _ hl0 hm0 (by omega) (by omega) (fun w h => ints_any l _ w h (by omega)) (fun w h => ints_any m _ w h (by omega)) (isEmpty_str _) (isEmpty_str _) h
  · have hlim : (1099511627776 : Nat) = Wire.lim := rfl
    have n1 : ¬ Wire.ints l = [] := fun e => h (.inl (decide_eq_true e))
    have n2 : ¬ Wire.ints m = [] := fun e => h (.inr (.inl (decide_eq_true e)))
    have n3 : ¬ 300 < (l.length : Int) := fun e => h (.inr (.inr (.inl e)))
    have n4 : ¬ 300 < (m.length : Int) := fun e => h (.inr (.inr (.inr e)))
    have s1 := Wire.ints_size l
    have s2 := Wire.ints_size m
    have c1 := takeInts_any (str (Wire.ints l) ++ str (Wire.ints m)) 0 (by rw [app_size, str_size, str_size]; omega)
    have c2' := takeInts_any (str (Wire.ints l) ++ str (Wire.ints m)) (str (Wire.ints l)).size (by rw [app_size, str_size, str_size]; omega)
    have u1 := Wire.takeInts_told l [] (Wire.ints m) (by rw [← hlim]; omega) n1
    have u2 := Wire.takeInts_told m (Wire.ints l) [] (by rw [← hlim]; omega) n2
    rw [List.append_nil] at u2
    rw [List.nil_append, List.length_nil, Int.natCast_zero, Int.zero_add] at u1
    rw [app_list, list_str, list_str] at c1 c2'
    rw [u1] at c1
    rw [str_size, u2] at c2'
    rw [← str_size (Wire.ints l)] at c1 c2'
    rw [← str_size (Wire.ints m)] at c2'
    refine wireLists_core w l m a a2 c c2 (str (Wire.ints l)) (str (Wire.ints m)) hl0 hm0 (by omega) (by omega) (by rw [str_size]; omega) (by rw [str_size]; omega) (fun w h => ints_any l _ w h (by omega)) (fun w h => ints_any m _ w h (by omega))
      (by rw [isEmpty_str]; exact decide_eq_false n1) (by rw [isEmpty_str]; exact decide_eq_false n2) c1 c2' ?_
    rw [toList_str, toList_str, Bool.eq_iff_iff, beq_iff_eq, decide_eq_true_iff]
    exact Wire.ints_inj l m (by rw [← hlim]; omega) (by rw [← hlim]; omega) n1 n2

end Go.Proofs.Ytehidhcpdiameaa
