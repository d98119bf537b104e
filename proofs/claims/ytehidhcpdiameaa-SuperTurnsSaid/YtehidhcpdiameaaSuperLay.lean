/- The walks of layer 12: the sector of an image's place, of the program and of the reference. -/
import Derived.Test.YtehidhcpdiameaaSuperMath
import Derived.Test.YtehidhcpdiameaaPageFixed
namespace Go.Proofs.Ytehidhcpdiameaa
open Go.RowKit

/-- three numbers that were just laid. -/
theorem sl_three (w : World) (x y z : Int) : Sl (w.alloc (.cells #[.int .i64 x, .int .i64 y, .int .i64 z] 3)) (.slice (some ⟨w.heap.size, 0, none⟩) 3 3) ([x, y, z].map intV) := by
  refine ⟨_, 3, rfl, by simp, by omega, fun _ => ⟨_, _, rfl, by simp, fun i v hi => ?_⟩⟩
  rw [World.cell?_alloc_mark]
  match i, hi with
  | 0, hi => exact hi
  | 1, hi => exact hi
  | 2, hi => exact hi
  | (_ + 3), hi => cases hi
theorem sl_one_at {w : World} {v : Value} {X : List UInt8} (h : Sl w v (strs [X])) : ∃ b o c, v = .slice (some ⟨b, o, none⟩) 1 c ∧ 1 ≤ c ∧ b < w.heap.size ∧ w.cell? ⟨b, o, none⟩ = some (.string (str X)) := by
  obtain ⟨a, c, h1, h2, h3, h4⟩ := h
  obtain ⟨b, o, h5, h6, h7⟩ := h4 (by simp [strs])
  subst h5
  exact ⟨b, o, c, h1, h2, h6, by have := h7 0 _ rfl; exact this⟩

set_option maxHeartbeats 4000000 in
theorem superLay_no (g a s : Int) (w : World) (h : Super.ok (g, a, s) = false) :
    Calls Try.prog 87 #[.agg #[.int .i64 g, .int .i64 a, .int .i64 s]] w fun e w' => e = .returned (.string (str (Super.lay (g, a, s)))) ∧ Ext w w' := by
  rw [Super.lay_no _ h]
  unfold Super.ok at h
  replace h := of_decide_eq_false h
  dsimp only at h
  by_cases h1 : g < 1
  · clear h
    have d1 : decide (g < 1) = true := decide_eq_true h1
    go_enter Try.func87, Try.ntmps87
    go_wp2
    go_ret
    exact ⟨rfl, (Ext.refl _).alloc _⟩
  · have d1 : decide (g < 1) = false := decide_eq_false h1
    by_cases h2 : 1099511627776 ≤ g
    · clear h
      have d2 : decide (1099511627776 ≤ g) = true := decide_eq_true h2
      go_enter Try.func87, Try.ntmps87
      go_wp2
      go_ret
      exact ⟨rfl, (Ext.refl _).alloc _⟩
    · have d2 : decide (1099511627776 ≤ g) = false := decide_eq_false h2
      by_cases h3 : a < 0
      · clear h
        have d3 : decide (a < 0) = true := decide_eq_true h3
        go_enter Try.func87, Try.ntmps87
        go_wp2
        go_ret
        exact ⟨rfl, (Ext.refl _).alloc _⟩
      · have d3 : decide (a < 0) = false := decide_eq_false h3
        by_cases h4 : 1 < a
        · clear h
          have d4 : decide (1 < a) = true := decide_eq_true h4
          go_enter Try.func87, Try.ntmps87
          go_wp2
          go_ret
          exact ⟨rfl, (Ext.refl _).alloc _⟩
        · have d4 : decide (1 < a) = false := decide_eq_false h4
          by_cases h5 : s < 0
          · clear h
            have d5 : decide (s < 0) = true := decide_eq_true h5
            go_enter Try.func87, Try.ntmps87
            go_wp2
            go_ret
            exact ⟨rfl, (Ext.refl _).alloc _⟩
          · have d5 : decide (s < 0) = false := decide_eq_false h5
            have h6 : 1000000 < s := by omega
            clear h
            go_enter Try.func87, Try.ntmps87
            go_wp2
            go_ret
            exact ⟨rfl, (Ext.refl _).alloc _⟩

set_option maxRecDepth 100000 in
set_option maxHeartbeats 4000000 in
theorem superLay_yes (g a s : Int) (w : World) (h : Super.ok (g, a, s) = true) :
    Calls Try.prog 87 #[.agg #[.int .i64 g, .int .i64 a, .int .i64 s]] w fun e w' => e = .returned (.string (str (Super.lay (g, a, s)))) ∧ Ext w w' := by
  have h50 := fun v w hl => ints_any [g, a, s] v w hl (by show 6 * 3 + 6 ≤ _; decide)
  have hb := Super.body_eq (g, a, s) h
  have h57 := lay_any (str (Super.body (g, a, s))) (by rw [str_size]; omega)
  rw [list_str, Super.lay_one _ h] at h57
  rw [show Wire.ints [g, a, s] = Super.body (g, a, s) from rfl] at h50
  obtain ⟨h1, h2, h3, h4, h5, h6⟩ := (Super.ok_iff _).1 h
  dsimp only at h1 h2 h3 h4 h5 h6
  generalize str (Super.body (g, a, s)) = B at *
  generalize Super.lay (g, a, s) = X at *
  clear hb h
  have d1 : decide (g < 1) = false := decide_eq_false (by omega)
  have d2 : decide (1099511627776 ≤ g) = false := decide_eq_false (by omega)
  have d3 : decide (a < 0) = false := decide_eq_false (by omega)
  have d4 : decide (1 < a) = false := decide_eq_false (by omega)
  have d5 : decide (s < 0) = false := decide_eq_false (by omega)
  have d6 : decide (1000000 < s) = false := decide_eq_false (by omega)
  have hs3 := sl_three (w.alloc (.cells #[.int .i64 g, .int .i64 a, .int .i64 s] 94)) g a s
  rw [show (w.alloc (.cells #[.int .i64 g, .int .i64 a, .int .i64 s] 94)).heap.size = w.heap.size + 1 from by simp] at hs3
  replace h50 := Lib.hid h50; replace h57 := Lib.hid h57; replace hs3 := Lib.hid hs3
  go_enter Try.func87, Try.ntmps87
  go_wp2_with fail
  refine (h50.out _ _ hs3.out).mono ?_; rintro e w1 ⟨rfl, x1⟩
  have y1 := ((((Ext.refl w).alloc _).alloc _).trans x1)
  clear x1
  go_wp2_with fail
  refine (h57.out _).mono ?_; rintro e w2 ⟨v2, rfl, l2, x2⟩
  obtain ⟨b, o, c, rfl, hc, hb, hcell⟩ := sl_one_at l2
  clear l2
  go_wp2_with fail
  go_ret
  exact ⟨rfl, y1.trans x2⟩

theorem superLay_any (x : Super.S3) (w : World) :
    Calls Try.prog 87 #[.agg #[.int .i64 x.1, .int .i64 x.2.1, .int .i64 x.2.2]] w fun e w' => e = .returned (.string (str (Super.lay x))) ∧ Ext w w' := by
  cases h : Super.ok x with
  | true => exact superLay_yes x.1 x.2.1 x.2.2 w h
  | false => exact superLay_no x.1 x.2.1 x.2.2 w h

set_option maxHeartbeats 4000000 in
theorem refSuperLay_no (g a s : Int) (w : World) (h : Super.ok (g, a, s) = false) :
    Calls Try.prog 88 #[.agg #[.int .i64 g, .int .i64 a, .int .i64 s]] w fun e w' => e = .returned (.string (str (Super.lay (g, a, s)))) ∧ Ext w w' := by
  rw [Super.lay_no _ h]
  unfold Super.ok at h
  replace h := of_decide_eq_false h
  dsimp only at h
  by_cases h1 : g < 1
  · clear h
    have d1 : decide (g < 1) = true := decide_eq_true h1
    go_enter Try.func88, Try.ntmps88
    go_wp2
    go_ret
    exact ⟨rfl, (Ext.refl _).alloc _⟩
  · have d1 : decide (g < 1) = false := decide_eq_false h1
    by_cases h2 : 1099511627776 ≤ g
    · clear h
      have d2 : decide (1099511627776 ≤ g) = true := decide_eq_true h2
      go_enter Try.func88, Try.ntmps88
      go_wp2
      go_ret
      exact ⟨rfl, (Ext.refl _).alloc _⟩
    · have d2 : decide (1099511627776 ≤ g) = false := decide_eq_false h2
      by_cases h3 : a < 0
      · clear h
        have d3 : decide (a < 0) = true := decide_eq_true h3
        have q0 : (a == 0) = false := by simp; omega
        have q1 : (a == 1) = false := by simp; omega
        go_enter Try.func88, Try.ntmps88
        go_wp2
        go_ret
        exact ⟨rfl, (Ext.refl _).alloc _⟩
      · have d3 : decide (a < 0) = false := decide_eq_false h3
        by_cases h4 : 1 < a
        · clear h
          have d4 : decide (1 < a) = true := decide_eq_true h4
          have q0 : (a == 0) = false := by simp; omega
          have q1 : (a == 1) = false := by simp; omega
          go_enter Try.func88, Try.ntmps88
          go_wp2
          go_ret
          exact ⟨rfl, (Ext.refl _).alloc _⟩
        · have d4 : decide (1 < a) = false := decide_eq_false h4
          by_cases h5 : s < 0
          · clear h
            have d5 : decide (s < 0) = true := decide_eq_true h5
            have ha : a = 0 ∨ a = 1 := by omega
            rcases ha with rfl | rfl
            all_goals
              go_enter Try.func88, Try.ntmps88
              go_wp2
              go_ret
              exact ⟨rfl, (Ext.refl _).alloc _⟩
          · have d5 : decide (s < 0) = false := decide_eq_false h5
            have h6 : 1000000 < s := by omega
            clear h
            have ha : a = 0 ∨ a = 1 := by omega
            rcases ha with rfl | rfl
            all_goals
              go_enter Try.func88, Try.ntmps88
              go_wp2
              go_ret
              exact ⟨rfl, (Ext.refl _).alloc _⟩

set_option maxRecDepth 100000 in
set_option maxHeartbeats 4000000 in
theorem refSuperLay_yes (g a s : Int) (w : World) (h : Super.ok (g, a, s) = true) :
    Calls Try.prog 88 #[.agg #[.int .i64 g, .int .i64 a, .int .i64 s]] w fun e w' => e = .returned (.string (str (Super.lay (g, a, s)))) ∧ Ext w w' := by
  have h50 := fun v w hl => refInts_any [g, a, s] v w hl (by show 6 * 3 + 6 ≤ _; decide)
  have hb := Super.body_eq (g, a, s) h
  have h57 := refLay_any (str (Super.body (g, a, s))) (by rw [str_size]; omega)
  rw [list_str, Super.lay_one _ h] at h57
  rw [show Wire.ints [g, a, s] = Super.body (g, a, s) from rfl] at h50
  obtain ⟨h1, h2, h3, h4, h5, h6⟩ := (Super.ok_iff _).1 h
  dsimp only at h1 h2 h3 h4 h5 h6
  generalize str (Super.body (g, a, s)) = B at *
  generalize Super.lay (g, a, s) = X at *
  clear hb h
  have d1 : decide (g < 1) = false := decide_eq_false (by omega)
  have d2 : decide (1099511627776 ≤ g) = false := decide_eq_false (by omega)
  have d3 : decide (a < 0) = false := decide_eq_false (by omega)
  have d4 : decide (1 < a) = false := decide_eq_false (by omega)
  have d5 : decide (s < 0) = false := decide_eq_false (by omega)
  have d6 : decide (1000000 < s) = false := decide_eq_false (by omega)
  have hs3 := sl_three (w.alloc (.cells #[.int .i64 g, .int .i64 a, .int .i64 s] 94)) g a s
  rw [show (w.alloc (.cells #[.int .i64 g, .int .i64 a, .int .i64 s] 94)).heap.size = w.heap.size + 1 from by simp] at hs3
  replace h50 := Lib.hid h50; replace h57 := Lib.hid h57; replace hs3 := Lib.hid hs3
  have ha : a = 0 ∨ a = 1 := by omega
  rcases ha with rfl | rfl
  all_goals
    go_enter Try.func88, Try.ntmps88
    go_wp2_with fail
    refine (h50.out _ _ hs3.out).mono ?_; rintro e w1 ⟨rfl, x1⟩
    have y1 := ((((Ext.refl w).alloc _).alloc _).trans x1)
    clear x1
    go_wp2_with fail
    refine (h57.out _).mono ?_; rintro e w2 ⟨v2, rfl, l2, x2⟩
    obtain ⟨b, o, c, rfl, hc, hb, hcell⟩ := sl_one_at l2
    clear l2
    go_wp2_with fail
    go_ret
    exact ⟨rfl, y1.trans x2⟩

theorem refSuperLay_any (x : Super.S3) (w : World) :
    Calls Try.prog 88 #[.agg #[.int .i64 x.1, .int .i64 x.2.1, .int .i64 x.2.2]] w fun e w' => e = .returned (.string (str (Super.lay x))) ∧ Ext w w' := by
  cases h : Super.ok x with
  | true => exact refSuperLay_yes x.1 x.2.1 x.2.2 w h
  | false => exact refSuperLay_no x.1 x.2.1 x.2.2 w h

end Go.Proofs.Ytehidhcpdiameaa
