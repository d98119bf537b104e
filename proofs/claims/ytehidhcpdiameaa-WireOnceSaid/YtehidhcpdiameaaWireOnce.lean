/- The statement WireOnce: the law's own walk. -/
import Derived.Test.YtehidhcpdiameaaWireBack
import Derived.Test.YtehidhcpdiameaaSoft2
namespace Go.Proofs.Ytehidhcpdiameaa
open Go.RowKit

theorem wireOnce_long (w : World) (s : ByteArray) (p : Int) (N q : Int) (h : 1000 < s.size) (hs : s.size ≤ maxLen) :
    Calls Try.prog 10 #[.string s, .int .i64 p, .agg #[.int .i64 N, .int .i64 q]] w fun e w' => e = .returned (.bool true) ∧ Ext w w' := by
  unfold maxLen at hs
  have h1 : (1000 : Int) < s.size := by omega
  clear h
  go_enter Try.func10, Try.ntmps10
  go_wp2_with fail
  refine (fixed10 _).mono ?_; rintro e w1 ⟨rfl, x1⟩
  go_wp2_with fail
  refine (fixed10 _).mono ?_; rintro e w2 ⟨rfl, x2⟩
  go_wp2_with fail
  go_ret
  exact ⟨rfl, (((Ext.refl w).alloc _).trans x1).trans x2⟩

/-- what the last test of WireOnce asks of two numbers' bytes. -/
structure OnceLast (TA TB : ByteArray) (N q : Int) (k : Nat) : Prop where
  a : k = 0 → TA.toList.isEmpty = true
  a' : k ≠ 0 → TA.toList.isEmpty = false
  b : k = 1 → TB.toList.isEmpty = true
  b' : 2 ≤ k → TB.toList.isEmpty = false
  c : k = 2 → TB.size < TA.size
  c' : 3 ≤ k → TA.size ≤ TB.size
  d : k = 3 → N = q ∧ ((TB.extract 0 TA.size).toList == TA.toList) = true
  d' : k = 4 → ¬ N = q ∧ ((TB.extract 0 TA.size).toList == TA.toList) = false

theorem onceLast (N q : Int) : ∃ k, k ≤ 4 ∧ OnceLast (str (Wire.num N)) (str (Wire.num q)) N q k := by
  have eA := isEmpty_str (Wire.num N)
  have eB := isEmpty_str (Wire.num q)
  have lA := str_size (Wire.num N)
  have lB := str_size (Wire.num q)
  by_cases hA : Wire.num N = []
  · exact ⟨0, by omega, fun _ => by rw [eA]; exact decide_eq_true hA, fun h => by omega, fun h => by omega, fun h => by omega, fun h => by omega, fun h => by omega, fun h => by omega, fun h => by omega⟩
  · by_cases hB : Wire.num q = []
    · exact ⟨1, by omega, fun h => by omega, fun _ => by rw [eA]; exact decide_eq_false hA, fun _ => by rw [eB]; exact decide_eq_true hB, fun h => by omega, fun h => by omega, fun h => by omega, fun h => by omega, fun h => by omega⟩
    · by_cases hl : (str (Wire.num q)).size < (str (Wire.num N)).size
      · exact ⟨2, by omega, fun h => by omega, fun _ => by rw [eA]; exact decide_eq_false hA, fun h => by omega, fun _ => by rw [eB]; exact decide_eq_false hB, fun _ => hl, fun h => by omega, fun h => by omega, fun h => by omega⟩
      · by_cases hN : N = q
        · refine ⟨3, by omega, fun h => by omega, fun _ => by rw [eA]; exact decide_eq_false hA, fun h => by omega, fun _ => by rw [eB]; exact decide_eq_false hB, fun h => by omega, fun _ => by omega, fun _ => ⟨hN, ?_⟩, fun h => by omega⟩
          subst hN
          apply beq_true
          rw [extract_head, list_str, lA, List.take_length]
        · refine ⟨4, by omega, fun h => by omega, fun _ => by rw [eA]; exact decide_eq_false hA, fun h => by omega, fun _ => by rw [eB]; exact decide_eq_false hB, fun h => by omega, fun _ => by omega, fun h => by omega, fun _ => ⟨hN, ?_⟩⟩
          apply beq_false
          intro he
          rw [extract_head, list_str, list_str, lA] at he
          exact hN (Wire.num_inj N q hA hB ((Wire.num q).drop (Wire.num N).length) ((List.take_append_drop (Wire.num N).length (Wire.num q)).symm.trans (by rw [he])))

set_option maxRecDepth 100000 in
set_option maxHeartbeats 8000000 in
theorem wireOnce_core (w : World) (s TA TB TM TI : ByteArray) (p N q n1 q1 q3 : Int) (b1 b3 : Bool) (ns : List Int) (k : Nat) (hk : k ≤ 4) (hlast : OnceLast TA TB N q k) (hs : s.size ≤ 1000)
    (sA : TA.size ≤ 6) (sB : TB.size ≤ 6)
    (h45 : ∀ w, Calls Try.prog 45 #[.int .i64 N] w fun e w' => e = .returned (.string TA) ∧ Ext w w')
    (h45' : ∀ w, Calls Try.prog 45 #[.int .i64 q] w fun e w' => e = .returned (.string TB) ∧ Ext w w')
    (h39 : ∀ w, Calls Try.prog 39 #[.string s, .int .i64 p] w fun e w' => e = .returned (.tuple #[.int .i64 n1, .int .i64 q1, .bool b1]) ∧ Ext w w')
    (h45n : ∀ w, Calls Try.prog 45 #[.int .i64 n1] w fun e w' => e = .returned (.string TM) ∧ Ext w w')
    (h43 : ∀ w, Calls Try.prog 43 #[.string s, .int .i64 p] w (TookInts w (ns, q3, b3)))
    (h50 : ∀ v w, Sl w v (ns.map intV) → Calls Try.prog 50 #[v] w fun e w' => e = .returned (.string TI) ∧ Ext w w')
    (f1 : b1 = true → ∃ a b : Nat, p = a ∧ q1 = b ∧ a < b ∧ b ≤ s.size ∧ (TM.toList == (s.extract a b).toList) = true)
    (f3 : b3 = true → ∃ a b : Nat, p = a ∧ q3 = b ∧ a < b ∧ b ≤ s.size ∧ (TI.toList == (s.extract a b).toList) = true) (f13 : b3 = true → b1 = true) :
    Calls Try.prog 10 #[.string s, .int .i64 p, .agg #[.int .i64 N, .int .i64 q]] w fun e w' => e = .returned (.bool true) ∧ Ext w w' := by
  have hbox := Box2.new w (.int .i64 N) (.int .i64 q) 38
  have y0 : Ext w (w.alloc (.cells #[.int .i64 N, .int .i64 q] 38)) := (Ext.refl w).alloc _
  have hd1 : decide ((1000 : Int) < s.size) = false := decide_eq_false (by omega)
  replace h45 := Lib.hid h45; replace h45' := Lib.hid h45'; replace h39 := Lib.hid h39; replace h45n := Lib.hid h45n; replace h43 := Lib.hid h43; replace h50 := Lib.hid h50
  have key : ∀ (b1' : Bool), b1 = b1' → ∀ (b3' : Bool), b3 = b3' → Calls Try.prog 10 #[.string s, .int .i64 p, .agg #[.int .i64 N, .int .i64 q]] w fun e w' => e = .returned (.bool true) ∧ Ext w w' := by
    intro b1' hb1 b3' hb3
    cases b1' <;> cases b3'
    all_goals
      subst hb1 hb3
      first
      | (have := f13 rfl; cases this; done)
      | skip
    all_goals
      clear f13
      first
      | (obtain ⟨a, b, rfl, rfl, hab, hbs, hne1⟩ := f1 rfl; have i1 : decide (b ≤ a) = false := decide_eq_false (by omega); have i2 : decide (s.size < b) = false := decide_eq_false (by omega); have i3 : a ≤ b := by omega)
      | skip
      first
      | (obtain ⟨a', b', ha', rfl, hab', hbs', hne3⟩ := f3 rfl; obtain rfl : a' = a := (by omega); have j2 : decide (s.size < b') = false := decide_eq_false (by omega); have j3 : a' ≤ b' := by omega)
      | skip
      clear f1 f3
      replace hlast := Lib.hid hlast
      go_enter Try.func10, Try.ntmps10
      go_wp2_with fail
      refine (fixed10 _).mono ?_; rintro e w1 ⟨rfl, x1⟩
      go_wp2_with fail
      refine (h39.out _).mono ?_; rintro e w2 ⟨rfl, x2⟩
      go_wp2_with fail
      refine Soft.region_ext [] [0, 1, 2, 3, 4, 5, 6, 7, 8, 9, 10, 11, 12, 13, 14, 15, 16, 17, 18, 19, 20] [] (by kernel_rfl) (by kernel_rfl) Soft.stab_none ?_
      repeat (first | (refine Soft.pure_n rfl rfl rfl rfl (fun K hK => ?_); go_simp; refine hK _ ?_; clear hK K) | (refine Soft.pure_g rfl rfl rfl rfl rfl (fun K hK => ?_); go_simp; refine hK _ ?_; clear hK K) | (refine Soft.shut rfl rfl rfl rfl (fun K hK => ?_); go_simp; refine hK _ ?_; clear hK K) | (refine Soft.shut0 rfl rfl rfl rfl (fun K hK => ?_); go_simp; refine hK _ ?_; clear hK K) | (refine Soft.quiet_n rfl rfl rfl rfl (fun K hK => ?_); go_simp; apply Exists.intro; refine ⟨fun wq hq => ?_, hK _ ?_⟩; (first | (with_reducible exact h45n.out _) | (go_simp; with_reducible rfl)); clear hK K) | (refine Soft.quiet_g rfl rfl rfl rfl rfl (fun K hK => ?_); go_simp; apply Exists.intro; refine ⟨fun wq hq => ?_, hK _ ?_⟩; (first | (with_reducible exact h45n.out _) | (go_simp; with_reducible rfl)); clear hK K))
      refine Soft.ends (by kernel_rfl) (fun w3 x3 _ => ?_)
      go_wp2_with fail
      refine (h43.out _).mono ?_; rintro e w4 ⟨v4, rfl, l4, x4⟩
      replace l4 := Lib.hid l4
      go_wp2_with fail
      refine Soft.region_ext [] [0, 1, 2, 3, 4, 5, 6, 7, 8, 9, 10, 11, 12, 13, 14, 15] [] (by kernel_rfl) (by kernel_rfl) Soft.stab_none ?_
      repeat (first | (refine Soft.pure_n rfl rfl rfl rfl (fun K hK => ?_); go_simp; refine hK _ ?_; clear hK K) | (refine Soft.pure_g rfl rfl rfl rfl rfl (fun K hK => ?_); go_simp; refine hK _ ?_; clear hK K) | (refine Soft.shut rfl rfl rfl rfl (fun K hK => ?_); go_simp; refine hK _ ?_; clear hK K) | (refine Soft.shut0 rfl rfl rfl rfl (fun K hK => ?_); go_simp; refine hK _ ?_; clear hK K) | (refine Soft.quiet_n rfl rfl rfl rfl (fun K hK => ?_); go_simp; apply Exists.intro; refine ⟨fun wq hq => ?_, hK _ ?_⟩; (first | (with_reducible exact h50.out _ _ (l4.out.ext hq)) | (go_simp; with_reducible rfl)); clear hK K) | (refine Soft.quiet_g rfl rfl rfl rfl rfl (fun K hK => ?_); go_simp; apply Exists.intro; refine ⟨fun wq hq => ?_, hK _ ?_⟩; (first | (with_reducible exact h50.out _ _ (l4.out.ext hq)) | (go_simp; with_reducible rfl)); clear hK K))
      refine Soft.ends (by kernel_rfl) (fun w5 x5 _ => ?_)
      go_wp2_with fail
      have y5 := ((((y0.trans x1).trans x2).trans x3).trans x4).trans x5
      have k5 := ((((hbox.ext x1).ext x2).ext x3).ext x4).ext x5
      clear x1 x2 x3 x4 x5 y0 hbox
      refine Soft.region_ext [] [0, 1, 2, 3, 4, 5, 6, 7] [] (by kernel_rfl) (by kernel_rfl) Soft.stab_none ?_
      repeat (first | (refine Soft.pure_n rfl rfl rfl rfl (fun K hK => ?_); go_simp; refine hK _ ?_; clear hK K) | (refine Soft.pure_g rfl rfl rfl rfl rfl (fun K hK => ?_); go_simp; refine hK _ ?_; clear hK K) | (refine Soft.shut rfl rfl rfl rfl (fun K hK => ?_); go_simp; refine hK _ ?_; clear hK K) | (refine Soft.shut0 rfl rfl rfl rfl (fun K hK => ?_); go_simp; refine hK _ ?_; clear hK K) | (refine Soft.quiet_n rfl rfl rfl rfl (fun K hK => ?_); go_simp; apply Exists.intro; refine ⟨fun wq hq => ?_, hK _ ?_⟩; (first | (with_reducible exact h45.out _) | (with_reducible exact h45'.out _) | (go_simp; with_reducible rfl) | (have g := (k5.ext hq).2.1; go_simp; with_reducible rfl) | (have g := (k5.ext hq).2.2; go_simp; with_reducible rfl)); clear hK K) | (refine Soft.quiet_g rfl rfl rfl rfl rfl (fun K hK => ?_); go_simp; apply Exists.intro; refine ⟨fun wq hq => ?_, hK _ ?_⟩; (first | (with_reducible exact h45.out _) | (with_reducible exact h45'.out _) | (go_simp; with_reducible rfl) | (have g := (k5.ext hq).2.1; go_simp; with_reducible rfl) | (have g := (k5.ext hq).2.2; go_simp; with_reducible rfl)); clear hK K))
      refine Soft.ends (by kernel_rfl) (fun w6 x6 _ => ?_)
      go_wp2_with fail
      replace k5 := k5.ext x6
      replace y5 := y5.trans x6
      clear x6
      have hka : k = 0 ∨ k = 1 ∨ k = 2 ∨ k = 3 ∨ k = 4 := by omega
      clear hk
      rcases hka with rfl | rfl | rfl | rfl | rfl
      · have e1 := hlast.out.a rfl
        clear hlast
        refine Soft.region_ext [] [0, 1, 2, 3, 4, 5, 6, 7, 8, 9, 10, 11, 12, 13, 14, 15, 16, 17, 18, 19, 20, 21, 22, 23, 24, 25, 26, 27] [] (by kernel_rfl) (by kernel_rfl) Soft.stab_none ?_
        repeat (first | (refine Soft.pure_n rfl rfl rfl rfl (fun K hK => ?_); go_simp; refine hK _ ?_; clear hK K) | (refine Soft.pure_g rfl rfl rfl rfl rfl (fun K hK => ?_); go_simp; refine hK _ ?_; clear hK K) | (refine Soft.shut rfl rfl rfl rfl (fun K hK => ?_); go_simp; refine hK _ ?_; clear hK K) | (refine Soft.shut0 rfl rfl rfl rfl (fun K hK => ?_); go_simp; refine hK _ ?_; clear hK K) | (refine Soft.quiet_n rfl rfl rfl rfl (fun K hK => ?_); go_simp; apply Exists.intro; refine ⟨fun wq hq => ?_, hK _ ?_⟩; (first | (go_simp; with_reducible rfl) | (have g := (k5.ext hq).2.1; go_simp; with_reducible rfl) | (have g := (k5.ext hq).2.2; go_simp; with_reducible rfl)); clear hK K) | (refine Soft.quiet_g rfl rfl rfl rfl rfl (fun K hK => ?_); go_simp; apply Exists.intro; refine ⟨fun wq hq => ?_, hK _ ?_⟩; (first | (go_simp; with_reducible rfl) | (have g := (k5.ext hq).2.1; go_simp; with_reducible rfl) | (have g := (k5.ext hq).2.2; go_simp; with_reducible rfl)); clear hK K))
        refine Soft.ends (by kernel_rfl) (fun w7 x7 _ => ?_)
        go_wp2_with fail
        go_ret
        exact ⟨rfl, y5.trans x7⟩
      · have e1 := hlast.out.a' (by decide)
        have e2 := hlast.out.b rfl
        clear hlast
        refine Soft.region_ext [] [0, 1, 2, 3, 4, 5, 6, 7, 8, 9, 10, 11, 12, 13, 14, 15, 16, 17, 18, 19, 20, 21, 22, 23, 24, 25, 26, 27] [] (by kernel_rfl) (by kernel_rfl) Soft.stab_none ?_
        repeat (first | (refine Soft.pure_n rfl rfl rfl rfl (fun K hK => ?_); go_simp; refine hK _ ?_; clear hK K) | (refine Soft.pure_g rfl rfl rfl rfl rfl (fun K hK => ?_); go_simp; refine hK _ ?_; clear hK K) | (refine Soft.shut rfl rfl rfl rfl (fun K hK => ?_); go_simp; refine hK _ ?_; clear hK K) | (refine Soft.shut0 rfl rfl rfl rfl (fun K hK => ?_); go_simp; refine hK _ ?_; clear hK K) | (refine Soft.quiet_n rfl rfl rfl rfl (fun K hK => ?_); go_simp; apply Exists.intro; refine ⟨fun wq hq => ?_, hK _ ?_⟩; (first | (go_simp; with_reducible rfl) | (have g := (k5.ext hq).2.1; go_simp; with_reducible rfl) | (have g := (k5.ext hq).2.2; go_simp; with_reducible rfl)); clear hK K) | (refine Soft.quiet_g rfl rfl rfl rfl rfl (fun K hK => ?_); go_simp; apply Exists.intro; refine ⟨fun wq hq => ?_, hK _ ?_⟩; (first | (go_simp; with_reducible rfl) | (have g := (k5.ext hq).2.1; go_simp; with_reducible rfl) | (have g := (k5.ext hq).2.2; go_simp; with_reducible rfl)); clear hK K))
        refine Soft.ends (by kernel_rfl) (fun w7 x7 _ => ?_)
        go_wp2_with fail
        go_ret
        exact ⟨rfl, y5.trans x7⟩
      · have e1 := hlast.out.a' (by decide)
        have e2 := hlast.out.b' (by decide)
        have e3 := hlast.out.c (by decide)
        have e4 : decide (TB.size < TA.size) = true := decide_eq_true e3
        clear hlast
        refine Soft.region_ext [] [0, 1, 2, 3, 4, 5, 6, 7, 8, 9, 10, 11, 12, 13, 14, 15, 16, 17, 18, 19, 20, 21, 22, 23, 24, 25, 26, 27] [] (by kernel_rfl) (by kernel_rfl) Soft.stab_none ?_
        repeat (first | (refine Soft.pure_n rfl rfl rfl rfl (fun K hK => ?_); go_simp; refine hK _ ?_; clear hK K) | (refine Soft.pure_g rfl rfl rfl rfl rfl (fun K hK => ?_); go_simp; refine hK _ ?_; clear hK K) | (refine Soft.shut rfl rfl rfl rfl (fun K hK => ?_); go_simp; refine hK _ ?_; clear hK K) | (refine Soft.shut0 rfl rfl rfl rfl (fun K hK => ?_); go_simp; refine hK _ ?_; clear hK K) | (refine Soft.quiet_n rfl rfl rfl rfl (fun K hK => ?_); go_simp; apply Exists.intro; refine ⟨fun wq hq => ?_, hK _ ?_⟩; (first | (go_simp; with_reducible rfl) | (have g := (k5.ext hq).2.1; go_simp; with_reducible rfl) | (have g := (k5.ext hq).2.2; go_simp; with_reducible rfl)); clear hK K) | (refine Soft.quiet_g rfl rfl rfl rfl rfl (fun K hK => ?_); go_simp; apply Exists.intro; refine ⟨fun wq hq => ?_, hK _ ?_⟩; (first | (go_simp; with_reducible rfl) | (have g := (k5.ext hq).2.1; go_simp; with_reducible rfl) | (have g := (k5.ext hq).2.2; go_simp; with_reducible rfl)); clear hK K))
        refine Soft.ends (by kernel_rfl) (fun w7 x7 _ => ?_)
        go_wp2_with fail
        go_ret
        exact ⟨rfl, y5.trans x7⟩
      · have e1 := hlast.out.a' (by decide)
        have e2 := hlast.out.b' (by decide)
        have e3 := hlast.out.c' (by decide)
        have e4 : decide (TB.size < TA.size) = false := decide_eq_false (by omega)
        obtain ⟨rfl, e5⟩ := hlast.out.d rfl
        clear hlast
        refine Soft.region_ext [] [0, 1, 2, 3, 4, 5, 6, 7, 8, 9, 10, 11, 12, 13, 14, 15, 16, 17, 18, 19, 20, 21, 22, 23, 24, 25, 26, 27] [] (by kernel_rfl) (by kernel_rfl) Soft.stab_none ?_
        repeat (first | (refine Soft.pure_n rfl rfl rfl rfl (fun K hK => ?_); go_simp; refine hK _ ?_; clear hK K) | (refine Soft.pure_g rfl rfl rfl rfl rfl (fun K hK => ?_); go_simp; refine hK _ ?_; clear hK K) | (refine Soft.shut rfl rfl rfl rfl (fun K hK => ?_); go_simp; refine hK _ ?_; clear hK K) | (refine Soft.shut0 rfl rfl rfl rfl (fun K hK => ?_); go_simp; refine hK _ ?_; clear hK K) | (refine Soft.quiet_n rfl rfl rfl rfl (fun K hK => ?_); go_simp; apply Exists.intro; refine ⟨fun wq hq => ?_, hK _ ?_⟩; (first | (go_simp; with_reducible rfl) | (have g := (k5.ext hq).2.1; go_simp; with_reducible rfl) | (have g := (k5.ext hq).2.2; go_simp; with_reducible rfl)); clear hK K) | (refine Soft.quiet_g rfl rfl rfl rfl rfl (fun K hK => ?_); go_simp; apply Exists.intro; refine ⟨fun wq hq => ?_, hK _ ?_⟩; (first | (go_simp; with_reducible rfl) | (have g := (k5.ext hq).2.1; go_simp; with_reducible rfl) | (have g := (k5.ext hq).2.2; go_simp; with_reducible rfl)); clear hK K))
        refine Soft.ends (by kernel_rfl) (fun w7 x7 _ => ?_)
        go_wp2_with fail
        go_ret
        exact ⟨rfl, y5.trans x7⟩
      · have e1 := hlast.out.a' (by decide)
        have e2 := hlast.out.b' (by decide)
        have e3 := hlast.out.c' (by decide)
        have e4 : decide (TB.size < TA.size) = false := decide_eq_false (by omega)
        obtain ⟨e6, e5⟩ := hlast.out.d' rfl
        have e7 : (N == q) = false := by simpa using e6
        clear hlast
        refine Soft.region_ext [] [0, 1, 2, 3, 4, 5, 6, 7, 8, 9, 10, 11, 12, 13, 14, 15, 16, 17, 18, 19, 20, 21, 22, 23, 24, 25, 26, 27] [] (by kernel_rfl) (by kernel_rfl) Soft.stab_none ?_
        repeat (first | (refine Soft.pure_n rfl rfl rfl rfl (fun K hK => ?_); go_simp; refine hK _ ?_; clear hK K) | (refine Soft.pure_g rfl rfl rfl rfl rfl (fun K hK => ?_); go_simp; refine hK _ ?_; clear hK K) | (refine Soft.shut rfl rfl rfl rfl (fun K hK => ?_); go_simp; refine hK _ ?_; clear hK K) | (refine Soft.shut0 rfl rfl rfl rfl (fun K hK => ?_); go_simp; refine hK _ ?_; clear hK K) | (refine Soft.quiet_n rfl rfl rfl rfl (fun K hK => ?_); go_simp; apply Exists.intro; refine ⟨fun wq hq => ?_, hK _ ?_⟩; (first | (go_simp; with_reducible rfl) | (have g := (k5.ext hq).2.1; go_simp; with_reducible rfl) | (have g := (k5.ext hq).2.2; go_simp; with_reducible rfl)); clear hK K) | (refine Soft.quiet_g rfl rfl rfl rfl rfl (fun K hK => ?_); go_simp; apply Exists.intro; refine ⟨fun wq hq => ?_, hK _ ?_⟩; (first | (go_simp; with_reducible rfl) | (have g := (k5.ext hq).2.1; go_simp; with_reducible rfl) | (have g := (k5.ext hq).2.2; go_simp; with_reducible rfl)); clear hK K))
        refine Soft.ends (by kernel_rfl) (fun w7 x7 _ => ?_)
        go_wp2_with fail
        go_ret
        exact ⟨rfl, y5.trans x7⟩
  exact key b1 rfl b3 rfl

end Go.Proofs.Ytehidhcpdiameaa
