/- The statement WireTells: the law's own walk. -/
import Derived.Test.YtehidhcpdiameaaWireFixed
import Derived.Test.YtehidhcpdiameaaSoft
namespace Go.Proofs.Ytehidhcpdiameaa
open Go.RowKit

/-- two numbers that lie boxed. -/
def Box2 (n : Nat) (a b : Value) (w : World) : Prop := n < w.heap.size ∧ w.cell? ⟨n, 0, none⟩ = some a ∧ w.cell? ⟨n, 1, none⟩ = some b
theorem Box2.ext {n : Nat} {a b : Value} {w w' : World} (h : Box2 n a b w) (x : Ext w w') : Box2 n a b w' :=
  ⟨Nat.lt_of_lt_of_le h.1 x.size, by rw [x.cell (p := ⟨n, 0, none⟩) h.1]; exact h.2.1, by rw [x.cell (p := ⟨n, 1, none⟩) h.1]; exact h.2.2⟩
theorem Box2.new (w : World) (a b : Value) (T : TypeId) : Box2 w.heap.size a b (w.alloc (.cells #[a, b] T)) :=
  ⟨by simp, by rw [World.cell?_alloc_mark]; rfl, by rw [World.cell?_alloc_mark]; rfl⟩

theorem wireTells_long (w : World) (s : ByteArray) (x : Int × Int) (a : Option Addr) (n c : Nat) (h : 1000 < s.size ∨ 1000 < n) (hn : n ≤ 9223372036854775807) :
    Calls Try.prog 8 #[.string s, .agg #[.int .i64 x.1, .int .i64 x.2], .slice a n c] w fun e w' => e = .returned (.bool true) ∧ Ext w w' := by
  by_cases h1 : (1000 : Int) < s.size
  · clear h
    go_enter Try.func8, Try.ntmps8
    go_wp2_with fail
    refine (fixed10 _).mono ?_; rintro e w1 ⟨rfl, x1⟩
    go_wp2_with fail
    go_ret
    exact ⟨rfl, ((Ext.refl w).alloc _).trans x1⟩
  · have h2 : (1000 : Int) < n := by omega
    have hd1 : decide ((1000 : Int) < s.size) = false := decide_eq_false h1
    clear h
    go_enter Try.func8, Try.ntmps8
    go_wp2_with fail
    refine (fixed10 _).mono ?_; rintro e w1 ⟨rfl, x1⟩
    go_wp2_with fail
    go_ret
    exact ⟨rfl, ((Ext.refl w).alloc _).trans x1⟩

set_option maxRecDepth 100000 in
set_option maxHeartbeats 4000000 in
theorem wireTells_short (w : World) (s : ByteArray) (N p : Int) (l : List Int) (a : Option Addr) (c : Nat) (hs : s.size ≤ 1000) (hn : l.length ≤ 1000) (hl : Sl w (.slice a l.length c) (l.map intV)) :
    Calls Try.prog 8 #[.string s, .agg #[.int .i64 N, .int .i64 p], .slice a l.length c] w fun e w' => e = .returned (.bool true) ∧ Ext w w' := by
  have h39 := fun w => Soft_same (take_any s p (by unfold maxLen; omega) w)
  have h40 := refTake_any s p (by omega)
  have h41 := takeText_any s p (by omega)
  have h42 := refTakeText_any s p (by omega)
  have h43 := takeInts_any s p (by omega)
  have h44 := refTakeInts_any s p (by omega)
  have h45 := num_any N
  have h46 := refNum_any N
  have h47 := sameInts_any (Wire.takeIntsAt s.data.toList p).1 (Wire.takeIntsAt s.data.toList p).1
  have h48 := text_any s (by omega)
  have h49 := refText_any s (by omega)
  have h50 := fun w h => ints_any l (.slice a l.length c) w h (by omega)
  have h51 := fun w h => refInts_any l (.slice a l.length c) w h (by omega)
  rw [decide_eq_true rfl] at h47
  generalize Wire.takeAt s.data.toList p = t1 at *
  generalize Wire.takeTextAt s.data.toList p = t2 at *
  generalize Wire.takeIntsAt s.data.toList p = t3 at *
  obtain ⟨n1, q1, b1⟩ := t1
  obtain ⟨S2, q2, b2⟩ := t2
  obtain ⟨ns, q3, b3⟩ := t3
  unfold took at h39 h40
  dsimp only at h39 h40 h41 h42 h43 h44 h47
  have e1 : (b1 == b1) = true := beq_self_eq_true _
  have e2 : (b2 == b2) = true := beq_self_eq_true _
  have e3 : (b3 == b3) = true := beq_self_eq_true _
  have e4 : ((str S2).toList == (str S2).toList) = true := beq_self_eq_true _
  have e5 : ((str (Wire.num N)).toList == (str (Wire.num N)).toList) = true := beq_self_eq_true _
  have e6 : ((str (Wire.text s.data.toList)).toList == (str (Wire.text s.data.toList)).toList) = true := beq_self_eq_true _
  have e7 : ((str (Wire.ints l)).toList == (str (Wire.ints l)).toList) = true := beq_self_eq_true _
  generalize str S2 = T2 at *
  generalize str (Wire.num N) = TN at *
  generalize str (Wire.text s.data.toList) = TT at *
  generalize str (Wire.ints l) = TI at *
  have hd1 : decide ((1000 : Int) < s.size) = false := decide_eq_false (by omega)
  have hd2 : decide ((1000 : Int) < l.length) = false := decide_eq_false (by omega)
  have hbox := Box2.new w (.int .i64 N) (.int .i64 p) 38
  replace h39 := Lib.hid h39; replace h40 := Lib.hid h40; replace h41 := Lib.hid h41; replace h42 := Lib.hid h42; replace h43 := Lib.hid h43; replace h44 := Lib.hid h44; replace h45 := Lib.hid h45; replace h46 := Lib.hid h46; replace h47 := Lib.hid h47; replace h48 := Lib.hid h48; replace h49 := Lib.hid h49; replace h50 := Lib.hid h50; replace h51 := Lib.hid h51
  have y0 : Ext w (w.alloc (.cells #[.int .i64 N, .int .i64 p] 38)) := (Ext.refl w).alloc _
  replace hl := Lib.hid hl
  go_enter Try.func8, Try.ntmps8
  go_wp2_with fail
  refine (h39.out _).mono ?_; rintro e w1 ⟨rfl, x1⟩
  have y1 := y0.trans x1
  have k1 := hbox.ext x1
  clear x1 hbox
  obtain ⟨g1, g2, g3⟩ := id k1
  go_wp2_with fail
  refine (h40.out _).mono ?_; rintro e w2 ⟨rfl, x2⟩
  have y2 := y1.trans x2
  have k2 := k1.ext x2
  clear x2 k1 g1 g2 g3
  obtain ⟨g1, g2, g3⟩ := id k2
  go_wp2_with fail
  refine (h41.out _).mono ?_; rintro e w3 ⟨rfl, x3⟩
  have y3 := y2.trans x3
  have k3 := k2.ext x3
  clear x3 k2 g1 g2 g3
  obtain ⟨g1, g2, g3⟩ := id k3
  go_wp2_with fail
  refine (h42.out _).mono ?_; rintro e w4 ⟨rfl, x4⟩
  have y4 := y3.trans x4
  have k4 := k3.ext x4
  clear x4 k3 g1 g2 g3
  obtain ⟨g1, g2, g3⟩ := id k4
  go_wp2_with fail
  refine (h43.out _).mono ?_; rintro e w5 ⟨v5, rfl, l5, x5⟩
  have y5 := y4.trans x5
  have k5 := k4.ext x5
  clear x5 k4 g1 g2 g3
  obtain ⟨g1, g2, g3⟩ := id k5
  replace l5 := Lib.hid l5
  go_wp2_with fail
  refine (h44.out _).mono ?_; rintro e w6 ⟨v6, rfl, l6, x6⟩
  have y6 := y5.trans x6
  have k6 := k5.ext x6
  have l5 := Lib.hid (l5.out.ext x6)
  clear x6 k5 g1 g2 g3
  obtain ⟨g1, g2, g3⟩ := id k6
  replace l6 := Lib.hid l6
  go_wp2_with fail
  clear g1 g2 g3
  refine Soft.region_ext [] [0, 1, 2, 3, 4, 5, 6, 7, 8, 9, 10, 11, 12, 13, 14, 15, 16, 17, 18, 19, 20, 21, 22, 23, 24, 25, 26, 27, 28, 29, 30, 31, 32, 33, 34, 35, 36, 37, 38, 39, 40, 41, 42, 43, 44, 45, 46, 47, 48, 49, 50, 51, 52, 53, 54, 55, 56, 57, 58, 59, 60, 61, 62, 63, 64, 65, 66, 67, 68, 69] [] (by kernel_rfl) (by kernel_rfl) Soft.stab_none ?_
  (refine Soft.quiet_step0 rfl rfl rfl (fun K hK => ?_); go_simp; apply Exists.intro; refine ⟨fun wq hq => ?_, hK _ ?_⟩; exact fixed10 _; clear hK K)
  repeat (refine Soft.pure_step rfl rfl rfl (fun K hK => ?_); go_simp; refine hK _ ?_; clear hK K)
  (refine Soft.quiet_step0 rfl rfl rfl (fun K hK => ?_); go_simp; apply Exists.intro; refine ⟨fun wq hq => ?_, hK _ ?_⟩; (have g := (k6.ext hq).2.1; go_simp; rfl); clear hK K)
  (refine Soft.quiet_step0 rfl rfl rfl (fun K hK => ?_); go_simp; apply Exists.intro; refine ⟨fun wq hq => ?_, hK _ ?_⟩; exact h45.out _; clear hK K)
  repeat (refine Soft.pure_step rfl rfl rfl (fun K hK => ?_); go_simp; refine hK _ ?_; clear hK K)
  (refine Soft.quiet_step0 rfl rfl rfl (fun K hK => ?_); go_simp; apply Exists.intro; refine ⟨fun wq hq => ?_, hK _ ?_⟩; (have g := (k6.ext hq).2.1; go_simp; rfl); clear hK K)
  (refine Soft.quiet_step0 rfl rfl rfl (fun K hK => ?_); go_simp; apply Exists.intro; refine ⟨fun wq hq => ?_, hK _ ?_⟩; exact h46.out _; clear hK K)
  repeat (refine Soft.pure_step rfl rfl rfl (fun K hK => ?_); go_simp; refine hK _ ?_; clear hK K)
  (refine Soft.quiet_step0 rfl rfl rfl (fun K hK => ?_); go_simp; apply Exists.intro; refine ⟨fun wq hq => ?_, hK _ ?_⟩; exact h47.out _ _ _ (l5.out.ext hq) (l6.out.ext hq); clear hK K)
  repeat (refine Soft.pure_step rfl rfl rfl (fun K hK => ?_); go_simp; refine hK _ ?_; clear hK K)
  (refine Soft.quiet_step0 rfl rfl rfl (fun K hK => ?_); go_simp; apply Exists.intro; refine ⟨fun wq hq => ?_, hK _ ?_⟩; exact h48.out _; clear hK K)
  repeat (refine Soft.pure_step rfl rfl rfl (fun K hK => ?_); go_simp; refine hK _ ?_; clear hK K)
  (refine Soft.quiet_step0 rfl rfl rfl (fun K hK => ?_); go_simp; apply Exists.intro; refine ⟨fun wq hq => ?_, hK _ ?_⟩; exact h49.out _; clear hK K)
  repeat (refine Soft.pure_step rfl rfl rfl (fun K hK => ?_); go_simp; refine hK _ ?_; clear hK K)
  (refine Soft.quiet_step0 rfl rfl rfl (fun K hK => ?_); go_simp; apply Exists.intro; refine ⟨fun wq hq => ?_, hK _ ?_⟩; exact h50.out _ (hl.out.ext (y6.trans hq)); clear hK K)
  repeat (refine Soft.pure_step rfl rfl rfl (fun K hK => ?_); go_simp; refine hK _ ?_; clear hK K)
  (refine Soft.quiet_step0 rfl rfl rfl (fun K hK => ?_); go_simp; apply Exists.intro; refine ⟨fun wq hq => ?_, hK _ ?_⟩; exact h51.out _ (hl.out.ext (y6.trans hq)); clear hK K)
  repeat (refine Soft.pure_step rfl rfl rfl (fun K hK => ?_); go_simp; refine hK _ ?_; clear hK K)
  refine Soft.ends (by kernel_rfl) (fun w7 x7 _ => ?_)
  go_wp2_with fail
  go_ret
  exact ⟨rfl, y6.trans x7⟩

theorem wireTells_walk (w : World) (s : ByteArray) (x : Int × Int) (l : List Int) (v : Value) (_hs : s.size ≤ maxLen) (_hz : s.size ≤ 140737488351232)
    (_hx : (-9223372036854775808 ≤ x.1 ∧ x.1 ≤ 9223372036854775807) ∧ (-9223372036854775808 ≤ x.2 ∧ x.2 ≤ 9223372036854775807))
    (hl : Sl w v (l.map intV) ∧ 8 * l.length ≤ 140737488351232 ∧ ∀ n ∈ l, -9223372036854775808 ≤ n ∧ n ≤ 9223372036854775807) :
    Calls Try.prog 8 #[.string s, .agg #[.int .i64 x.1, .int .i64 x.2], v] w fun e w' => e = .returned (.bool true) ∧ Ext w w' := by
  obtain ⟨a, c, rfl, h1, h2, h3⟩ := id hl.1
  rw [List.length_map] at h1 ⊢
  by_cases h : 1000 < s.size ∨ 1000 < l.length
  · exact wireTells_long w s x a _ c h (by omega)
  · have := hl.1
    rw [List.length_map] at this
    exact wireTells_short w s x.1 x.2 l a c (by omega) (by omega) this

end Go.Proofs.Ytehidhcpdiameaa
