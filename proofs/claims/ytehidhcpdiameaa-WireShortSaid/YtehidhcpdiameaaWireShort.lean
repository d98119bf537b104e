/- The statement WireShort: the law's own walk. -/
import Derived.Test.YtehidhcpdiameaaWireBack
import Derived.Test.YtehidhcpdiameaaSoft2
namespace Go.Proofs.Ytehidhcpdiameaa
open Go.RowKit

theorem wireShort_out (w : World) (s : ByteArray) (N q : Int) (h : N < 0 ∨ q < N ∨ 1099511627776 ≤ q ∨ 1000 < (s.size : Int)) (hs : s.size ≤ maxLen) :
    Calls Try.prog 11 #[.agg #[.int .i64 N, .int .i64 q], .string s] w fun e w' => e = .returned (.bool true) ∧ Ext w w' := by
  unfold maxLen at hs
  have y0 : Ext w (w.alloc (.cells #[.int .i64 N, .int .i64 q] 38)) := (Ext.refl w).alloc _
  have hbox := Box2.new w (.int .i64 N) (.int .i64 q) 38
  by_cases h1 : N < 0
  · clear h
    have d1 : decide (N < 0) = true := decide_eq_true h1
    go_enter Try.func11, Try.ntmps11
    go_wp2_with fail
    refine (fixed10 _).mono ?_; rintro e w1 ⟨rfl, x1⟩
    obtain ⟨g1, g2, g3⟩ := hbox.ext x1
    go_wp2_with fail
    refine (fixed10 _).mono ?_; rintro e w2 ⟨rfl, x2⟩
    go_wp2_with fail
    go_ret
    exact ⟨rfl, (y0.trans x1).trans x2⟩
  · have d1 : decide (N < 0) = false := decide_eq_false h1
    by_cases h2 : q < N
    · clear h
      have d2 : decide (q < N) = true := decide_eq_true h2
      go_enter Try.func11, Try.ntmps11
      go_wp2_with fail
      refine (fixed10 _).mono ?_; rintro e w1 ⟨rfl, x1⟩
      obtain ⟨g1, g2, g3⟩ := hbox.ext x1
      go_wp2_with fail
      refine (fixed10 _).mono ?_; rintro e w2 ⟨rfl, x2⟩
      go_wp2_with fail
      go_ret
      exact ⟨rfl, (y0.trans x1).trans x2⟩
    · have d2 : decide (q < N) = false := decide_eq_false h2
      by_cases h3 : 1099511627776 ≤ q
      · clear h
        have d3 : decide (1099511627776 ≤ q) = true := decide_eq_true h3
        go_enter Try.func11, Try.ntmps11
        go_wp2_with fail
        refine (fixed10 _).mono ?_; rintro e w1 ⟨rfl, x1⟩
        obtain ⟨g1, g2, g3⟩ := hbox.ext x1
        go_wp2_with fail
        refine (fixed10 _).mono ?_; rintro e w2 ⟨rfl, x2⟩
        go_wp2_with fail
        go_ret
        exact ⟨rfl, (y0.trans x1).trans x2⟩
      · have d3 : decide (1099511627776 ≤ q) = false := decide_eq_false h3
        have h4 : 1000 < (s.size : Int) := by omega
        clear h
        go_enter Try.func11, Try.ntmps11
        go_wp2_with fail
        refine (fixed10 _).mono ?_; rintro e w1 ⟨rfl, x1⟩
        obtain ⟨g1, g2, g3⟩ := hbox.ext x1
        go_wp2_with fail
        refine (fixed10 _).mono ?_; rintro e w2 ⟨rfl, x2⟩
        go_wp2_with fail
        go_ret
        exact ⟨rfl, (y0.trans x1).trans x2⟩

set_option maxRecDepth 100000 in
set_option maxHeartbeats 4000000 in
theorem wireShort_core (w : World) (s TA TB TT : ByteArray) (N q : Int) (k : Nat) (h1 : 0 ≤ N) (h2 : N ≤ q) (h3 : q < 1099511627776) (hs : s.size ≤ 1000)
    (sA : 1 ≤ TA.size) (sAB : TA.size ≤ TB.size) (sB : TB.size ≤ 6) (sT : TT.size = k + s.size) (hk : 1 ≤ k) (hk6 : k ≤ 6) (hT : ((TT.extract k TT.size).toList == s.toList) = true)
    (h45 : ∀ w, Calls Try.prog 45 #[.int .i64 N] w fun e w' => e = .returned (.string TA) ∧ Ext w w')
    (h45' : ∀ w, Calls Try.prog 45 #[.int .i64 q] w fun e w' => e = .returned (.string TB) ∧ Ext w w')
    (h48 : ∀ w, Calls Try.prog 48 #[.string s] w fun e w' => e = .returned (.string TT) ∧ Ext w w') :
    Calls Try.prog 11 #[.agg #[.int .i64 N, .int .i64 q], .string s] w fun e w' => e = .returned (.bool true) ∧ Ext w w' := by
  have y0 : Ext w (w.alloc (.cells #[.int .i64 N, .int .i64 q] 38)) := (Ext.refl w).alloc _
  have hbox := Box2.new w (.int .i64 N) (.int .i64 q) 38
  have d1 : decide (N < 0) = false := decide_eq_false (by omega)
  have d2 : decide (q < N) = false := decide_eq_false (by omega)
  have d3 : decide (1099511627776 ≤ q) = false := decide_eq_false (by omega)
  have d4 : decide ((1000 : Int) < s.size) = false := decide_eq_false (by omega)
  have i1 : (TT.size : Int) - (s.size : Int) = k := by omega
  have i2 : s.size < TT.size := by omega
  have i3 : k ≤ TT.size := by omega
  replace h45 := Lib.hid h45; replace h45' := Lib.hid h45'; replace h48 := Lib.hid h48; replace sT := Lib.hid sT
  clear h1 h2 h3
  go_enter Try.func11, Try.ntmps11
  go_wp2_with fail
  refine (fixed10 _).mono ?_; rintro e w1 ⟨rfl, x1⟩
  have y1 := y0.trans x1
  have k1 := hbox.ext x1
  clear hbox y0 x1
  obtain ⟨g1, g2, g3⟩ := id k1
  go_wp2_with fail
  clear g1 g2 g3
  refine Soft.region_ext [] [0, 1, 2, 3, 4, 5, 6, 7, 8, 9, 10] [] (by kernel_rfl) (by kernel_rfl) Soft.stab_none ?_
  repeat (first | (refine Soft.pure_n rfl rfl rfl rfl (fun K hK => ?_); go_simp; refine hK _ ?_; clear hK K) | (refine Soft.pure_g rfl rfl rfl rfl rfl (fun K hK => ?_); go_simp; refine hK _ ?_; clear hK K) | (refine Soft.shut rfl rfl rfl rfl (fun K hK => ?_); go_simp; refine hK _ ?_; clear hK K) | (refine Soft.shut0 rfl rfl rfl rfl (fun K hK => ?_); go_simp; refine hK _ ?_; clear hK K) | (refine Soft.quiet_n rfl rfl rfl rfl (fun K hK => ?_); go_simp; apply Exists.intro; refine ⟨fun wq hq => ?_, hK _ ?_⟩; (first | (with_reducible exact h45.out _) | (with_reducible exact h45'.out _) | (with_reducible exact h48.out _) | (go_simp; with_reducible rfl) | (have g := (k1.ext hq).2.1; go_simp; with_reducible rfl) | (have g := (k1.ext hq).2.2; go_simp; with_reducible rfl)); clear hK K) | (refine Soft.quiet_g rfl rfl rfl rfl rfl (fun K hK => ?_); go_simp; apply Exists.intro; refine ⟨fun wq hq => ?_, hK _ ?_⟩; (first | (with_reducible exact h45.out _) | (with_reducible exact h45'.out _) | (with_reducible exact h48.out _) | (go_simp; with_reducible rfl) | (have g := (k1.ext hq).2.1; go_simp; with_reducible rfl) | (have g := (k1.ext hq).2.2; go_simp; with_reducible rfl)); clear hK K))
  refine Soft.ends (by kernel_rfl) (fun w2 x2 _ => ?_)
  go_wp2_with fail
  go_ret
  exact ⟨rfl, y1.trans x2⟩

theorem wireShort_walk (x : Int × Int) (s : ByteArray) (_hx : (-9223372036854775808 ≤ x.1 ∧ x.1 ≤ 9223372036854775807) ∧ (-9223372036854775808 ≤ x.2 ∧ x.2 ≤ 9223372036854775807))
    (hs : s.size ≤ maxLen) (_hz : s.size ≤ 140737488351232) (w : World) :
    Calls Try.prog 11 #[.agg #[.int .i64 x.1, .int .i64 x.2], .string s] w fun e w' => e = .returned (.bool true) ∧ Ext w w' := by
  by_cases h : x.1 < 0 ∨ x.2 < x.1 ∨ 1099511627776 ≤ x.2 ∨ 1000 < (s.size : Int)
  · exact wireShort_out w s x.1 x.2 h hs
  · have hm := Wire.num_mono x.1 x.2 (by omega) (by omega) (by rw [Wire.lim_eq]; omega)
    have hp : 1 ≤ (Wire.num (s.size : Int)).length := by
      rw [Wire.num_good _ (by omega) (by rw [Wire.lim_eq]; omega)]; exact Wire.numN_pos _
    have h6 := num_size (s.size : Int)
    have hl : (str (Wire.text s.data.toList)).size = (Wire.num (s.size : Int)).length + s.size := by
      rw [str_size]; unfold Wire.text; rw [List.length_append, size_list]
    refine wireShort_core w s (str (Wire.num x.1)) (str (Wire.num x.2)) (str (Wire.text s.data.toList)) x.1 x.2 (Wire.num (s.size : Int)).length (by omega) (by omega) (by omega) (by omega)
      (by rw [str_size]; omega) (by rw [str_size, str_size]; omega) (by rw [str_size]; omega) hl hp h6 (beq_true ?_) (num_any _) (num_any _) (text_any s (by omega))
    rw [extract_list, list_str, str_size]
    unfold Wire.text
    rw [size_list, List.drop_left, List.length_append, size_list, Nat.add_sub_cancel_left, ← size_list, List.take_length]

end Go.Proofs.Ytehidhcpdiameaa
