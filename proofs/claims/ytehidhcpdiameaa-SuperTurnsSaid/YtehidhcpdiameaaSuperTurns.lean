/- The statement SuperTurns: the law's own walk. -/
import Derived.Test.YtehidhcpdiameaaSuperFixed
import Derived.Test.YtehidhcpdiameaaOpen4
import Derived.BigRegion
namespace Go.Proofs.Ytehidhcpdiameaa
open Go.RowKit

namespace Super
theorem choose_cases (a b : List UInt8) (x : S3) (n : Int) (h : choose a b = (x, n, true)) : (n = 0 ∧ opn a = (x, true)) ∨ (n = 1 ∧ opn b = (x, true)) := by
  unfold choose at h
  split at h
  · rename_i hc
    rw [Bool.and_eq_true] at hc
    simp only [Prod.mk.injEq] at h
    exact .inr ⟨h.2.1.symm, Prod.ext h.1 hc.1⟩
  · split at h
    · rename_i hc
      simp only [Prod.mk.injEq] at h
      exact .inl ⟨h.2.1.symm, Prod.ext h.1 hc⟩
    · simp at h
theorem turn0 (a c : List UInt8) (x y : S3) (ha : opn a = (x, true)) (hy : ok y = true) (h : x.1 < y.1) (hc : (opn c).2 = false) : choose a (lay y) = (y, 1, true) ∧ choose a c = (x, 0, true) := by
  unfold choose
  rw [opn_lay y hy, ha, hc]
  simp [h]
theorem turn1 (b c : List UInt8) (x y : S3) (hb : opn b = (x, true)) (hy : ok y = true) (h : x.1 < y.1) (hc : (opn c).2 = false) : choose (lay y) b = (y, 0, true) ∧ choose c b = (x, 1, true) := by
  unfold choose
  rw [opn_lay y hy, hb, hc]
  simp
  omega
end Super

theorem Box.at2 {n : Nat} {a b : Value} {w : World} (h : Box n [a, b] w) : w.cell? ⟨n, 0, none⟩ = some a ∧ w.cell? ⟨n, 1, none⟩ = some b ∧ w.frozen? ⟨n, 0, none⟩ = false ∧ w.frozen? ⟨n, 1, none⟩ = false :=
  ⟨h.cell 0 _ rfl, h.cell 1 _ rfl, h.free 0 (by simp), h.free 1 (by simp)⟩

set_option maxRecDepth 100000 in
set_option maxHeartbeats 8000000 in
theorem superTurns_long (w : World) (a b c : ByteArray) (n0 n1 n2 : Int)
    (h : (∃ _ : decide ((200 : Int) < a.size) = true, True) ∨ (∃ _ : decide ((200 : Int) < a.size) = false, decide ((200 : Int) < b.size) = true) ∨ (∃ (_ : decide ((200 : Int) < a.size) = false) (_ : decide ((200 : Int) < b.size) = false), decide ((200 : Int) < c.size) = true)) :
    Calls Try.prog 25 #[.agg #[.string a, .string b, .int .i64 n0, .int .i64 n1, .int .i64 n2, .string c]] w fun e w' => e = .returned (.bool true) ∧ Ext w w' := by
  rcases h with ⟨d1, _⟩ | ⟨d1, d2⟩ | ⟨d1, d2, d3⟩
  all_goals
    go_enter Try.func25, Try.ntmps25
    go_wp2_with fail
    go_region
    have b1 := Box.new (w.alloc (.cells #[.string a, .string b, .int .i64 n0, .int .i64 n1, .int .i64 n2, .string c] 103)) [.int .i64 n0, .int .i64 n1, .int .i64 n2] 94
    rw [show (w.alloc (.cells #[.string a, .string b, .int .i64 n0, .int .i64 n1, .int .i64 n2, .string c] 103)).heap.size = w.heap.size + 1 from by simp] at b1
    have z0 : Ext w (((w.alloc (.cells #[.string a, .string b, .int .i64 n0, .int .i64 n1, .int .i64 n2, .string c] 103)).alloc (.cells #[.int .i64 n0, .int .i64 n1, .int .i64 n2] 94)).drew) := (((Ext.refl w).alloc _).alloc _).drew
    replace b1 := Lib.hid (b1.ext (Ext.refl _).drew)
    try apply_assumption
    go_wp2_with fail
    refine (fixed12 _).mono ?_; rintro e w1 ⟨rfl, r1⟩
    go_wp2_with fail
    refine (fixed12 _).mono ?_; rintro e w2 ⟨rfl, r2⟩
    go_wp2_with fail
    go_ret
    exact ⟨rfl, (z0.trans r1).trans r2⟩

set_option maxRecDepth 100000 in
set_option maxHeartbeats 8000000 in
theorem superTurns_out (w : World) (a b c T : ByteArray) (n0 n1 n2 x0 x1 x2 n u0 u1 u2 : Int) (ok any : Bool) (d1 : decide ((200 : Int) < a.size) = false) (d2 : decide ((200 : Int) < b.size) = false) (d3 : decide ((200 : Int) < c.size) = false)
    (h85 : ∀ w, Calls Try.prog 85 #[.string a, .string b] w fun e w' => e = .returned (.tuple #[.agg #[.int .i64 x0, .int .i64 x1, .int .i64 x2], .int .i64 n, .bool ok]) ∧ Ext w w')
    (h87 : ∀ w, Calls Try.prog 87 #[.agg #[.int .i64 n0, .int .i64 n1, .int .i64 n2]] w fun e w' => e = .returned (.string T) ∧ Ext w w')
    (h83 : ∀ w, Calls Try.prog 83 #[.string c] w fun e w' => e = .returned (.tuple #[.agg #[.int .i64 u0, .int .i64 u1, .int .i64 u2], .bool any]) ∧ Ext w w')
    (h : (∃ _ : ok = false, True) ∨ (∃ (_ : ok = true) (_ : T.toList = []), T.toList.isEmpty = true) ∨ (∃ (_ : ok = true) (_ : T.toList.isEmpty = false), decide (n0 ≤ x0) = true) ∨ (∃ (_ : ok = true) (_ : T.toList.isEmpty = false) (_ : decide (n0 ≤ x0) = false), any = true)) :
    Calls Try.prog 25 #[.agg #[.string a, .string b, .int .i64 n0, .int .i64 n1, .int .i64 n2, .string c]] w fun e w' => e = .returned (.bool true) ∧ Ext w w' := by
  replace h85 := Lib.hid h85; replace h87 := Lib.hid h87; replace h83 := Lib.hid h83
  rcases h with ⟨rfl, _⟩ | ⟨rfl, q1, q2⟩ | ⟨rfl, q1, q2⟩ | ⟨rfl, q1, q2, rfl⟩
  all_goals
    go_enter Try.func25, Try.ntmps25
    go_wp2_with fail
    go_region
    have b1 := Box.new (w.alloc (.cells #[.string a, .string b, .int .i64 n0, .int .i64 n1, .int .i64 n2, .string c] 103)) [.int .i64 n0, .int .i64 n1, .int .i64 n2] 94
    rw [show (w.alloc (.cells #[.string a, .string b, .int .i64 n0, .int .i64 n1, .int .i64 n2, .string c] 103)).heap.size = w.heap.size + 1 from by simp] at b1
    have z0 : Ext w (((w.alloc (.cells #[.string a, .string b, .int .i64 n0, .int .i64 n1, .int .i64 n2, .string c] 103)).alloc (.cells #[.int .i64 n0, .int .i64 n1, .int .i64 n2] 94)).drew) := (((Ext.refl w).alloc _).alloc _).drew
    replace b1 := Lib.hid (b1.ext (Ext.refl _).drew)
    try apply_assumption
    go_wp2_with fail
    refine (fixed12 _).mono ?_; rintro e w1 ⟨rfl, r1⟩
    replace z0 := Lib.hid (z0.trans r1)
    replace b1 := Lib.hid (b1.out.ext r1)
    clear r1
    go_wp2_with fail
    refine (h85.out _).mono ?_; rintro e w2 ⟨rfl, r2⟩
    replace b1 := (b1.out.ext r2).alloc (.cells #[.int .i64 x0, .int .i64 x1, .int .i64 x2] 94)
    have b2 := Lib.hid (Box.new w2 [.int .i64 x0, .int .i64 x1, .int .i64 x2] 94)
    replace z0 := Lib.hid ((z0.out.trans r2).alloc (.cells #[.int .i64 x0, .int .i64 x1, .int .i64 x2] 94))
    obtain ⟨i0, i1, i2, _, _, _⟩ := b1.at3
    replace b1 := Lib.hid b1
    clear r2
    go_wp2_with fail
    refine (h87.out _).mono ?_; rintro e w3 ⟨rfl, r3⟩
    clear i0 i1 i2
    go_wp2_with fail
    refine (h83.out _).mono ?_; rintro e w4 ⟨rfl, r4⟩
    replace b1 := ((b1.out.ext r3).ext r4).alloc (.cells #[.int .i64 u0, .int .i64 u1, .int .i64 u2] 94)
    replace b2 := ((b2.out.ext r3).ext r4).alloc (.cells #[.int .i64 u0, .int .i64 u1, .int .i64 u2] 94)
    replace z0 := Lib.hid (((z0.out.trans r3).trans r4).alloc (.cells #[.int .i64 u0, .int .i64 u1, .int .i64 u2] 94))
    obtain ⟨i0, i1, i2, _, _, _⟩ := b1.at3
    obtain ⟨j0, j1, j2, _, _, _⟩ := b2.at3
    replace b1 := Lib.hid b1; replace b2 := Lib.hid b2
    clear r3 r4
    go_wp2_with fail
    go_ret
    exact ⟨rfl, z0.out⟩

set_option maxRecDepth 100000 in
set_option maxHeartbeats 8000000 in
theorem superTurns_0 (w : World) (a b c T : ByteArray) (n0 n1 n2 x0 x1 x2 u0 u1 u2 : Int) (d1 : decide ((200 : Int) < a.size) = false) (d2 : decide ((200 : Int) < b.size) = false) (d3 : decide ((200 : Int) < c.size) = false)
    (h85 : ∀ w, Calls Try.prog 85 #[.string a, .string b] w fun e w' => e = .returned (.tuple #[.agg #[.int .i64 x0, .int .i64 x1, .int .i64 x2], .int .i64 0, .bool true]) ∧ Ext w w')
    (h87 : ∀ w, Calls Try.prog 87 #[.agg #[.int .i64 n0, .int .i64 n1, .int .i64 n2]] w fun e w' => e = .returned (.string T) ∧ Ext w w')
    (h83 : ∀ w, Calls Try.prog 83 #[.string c] w fun e w' => e = .returned (.tuple #[.agg #[.int .i64 u0, .int .i64 u1, .int .i64 u2], .bool false]) ∧ Ext w w')
    (q1 : T.toList.isEmpty = false) (q2 : decide (n0 ≤ x0) = false)
    (g1 : ∀ w, Calls Try.prog 85 #[.string a, .string T] w fun e w' => e = .returned (.tuple #[.agg #[.int .i64 n0, .int .i64 n1, .int .i64 n2], .int .i64 1, .bool true]) ∧ Ext w w')
    (g2 : ∀ w, Calls Try.prog 85 #[.string a, .string c] w fun e w' => e = .returned (.tuple #[.agg #[.int .i64 x0, .int .i64 x1, .int .i64 x2], .int .i64 0, .bool true]) ∧ Ext w w') :
    Calls Try.prog 25 #[.agg #[.string a, .string b, .int .i64 n0, .int .i64 n1, .int .i64 n2, .string c]] w fun e w' => e = .returned (.bool true) ∧ Ext w w' := by
  replace h85 := Lib.hid h85; replace h87 := Lib.hid h87; replace h83 := Lib.hid h83; replace g1 := Lib.hid g1; replace g2 := Lib.hid g2
  go_enter Try.func25, Try.ntmps25
  go_wp2_with fail
  go_region
  have b1 := Box.new (w.alloc (.cells #[.string a, .string b, .int .i64 n0, .int .i64 n1, .int .i64 n2, .string c] 103)) [.int .i64 n0, .int .i64 n1, .int .i64 n2] 94
  rw [show (w.alloc (.cells #[.string a, .string b, .int .i64 n0, .int .i64 n1, .int .i64 n2, .string c] 103)).heap.size = w.heap.size + 1 from by simp] at b1
  have z0 : Ext w (((w.alloc (.cells #[.string a, .string b, .int .i64 n0, .int .i64 n1, .int .i64 n2, .string c] 103)).alloc (.cells #[.int .i64 n0, .int .i64 n1, .int .i64 n2] 94)).drew) := (((Ext.refl w).alloc _).alloc _).drew
  replace b1 := Lib.hid (b1.ext (Ext.refl _).drew)
  try apply_assumption
  go_wp2_with fail
  refine (fixed12 _).mono ?_; rintro e w1 ⟨rfl, r1⟩
  replace z0 := Lib.hid (z0.trans r1)
  replace b1 := Lib.hid (b1.out.ext r1)
  clear r1
  go_wp2_with fail
  refine (h85.out _).mono ?_; rintro e w2 ⟨rfl, r2⟩
  replace b1 := (b1.out.ext r2).alloc (.cells #[.int .i64 x0, .int .i64 x1, .int .i64 x2] 94)
  have b2 := Lib.hid (Box.new w2 [.int .i64 x0, .int .i64 x1, .int .i64 x2] 94)
  replace z0 := Lib.hid ((z0.out.trans r2).alloc (.cells #[.int .i64 x0, .int .i64 x1, .int .i64 x2] 94))
  obtain ⟨i0, i1, i2, _, _, _⟩ := b1.at3
  replace b1 := Lib.hid b1
  clear r2
  go_wp2_with fail
  refine (h87.out _).mono ?_; rintro e w3 ⟨rfl, r3⟩
  clear i0 i1 i2
  go_wp2_with fail
  refine (h83.out _).mono ?_; rintro e w4 ⟨rfl, r4⟩
  replace b1 := ((b1.out.ext r3).ext r4).alloc (.cells #[.int .i64 u0, .int .i64 u1, .int .i64 u2] 94)
  replace b2 := ((b2.out.ext r3).ext r4).alloc (.cells #[.int .i64 u0, .int .i64 u1, .int .i64 u2] 94)
  replace z0 := Lib.hid (((z0.out.trans r3).trans r4).alloc (.cells #[.int .i64 u0, .int .i64 u1, .int .i64 u2] 94))
  obtain ⟨i0, i1, i2, _, _, _⟩ := b1.at3
  obtain ⟨j0, j1, j2, _, _, _⟩ := b2.at3
  replace b1 := Lib.hid b1; replace b2 := Lib.hid b2
  clear r3 r4
  have b3 := Box.new (w4.alloc (.cells #[.int .i64 u0, .int .i64 u1, .int .i64 u2] 94)) [.string a, .string T] 104
  rw [show (w4.alloc (.cells #[.int .i64 u0, .int .i64 u1, .int .i64 u2] 94)).heap.size = w4.heap.size + 1 from by simp] at b3
  obtain ⟨l0, l1, l2, l3⟩ := b3.at2
  replace b3 := Lib.hid b3
  go_wp2_with fail
  refine (g1.out _).mono ?_; rintro e w5 ⟨rfl, r5⟩
  clear l0 l1 l2 l3 i0 i1 i2 j0 j1 j2
  have b4 := Box.new w5 [.int .i64 n0, .int .i64 n1, .int .i64 n2] 94
  replace b3 := (b3.out.ext r5).alloc (.cells #[.int .i64 n0, .int .i64 n1, .int .i64 n2] 94)
  obtain ⟨l0, l1, l2, l3⟩ := b3.at2
  have hne : w4.heap.size + 1 ≠ w5.heap.size := by have := r5.size; simp at this; omega
  have hx : Ext (w4.alloc (.cells #[.int .i64 u0, .int .i64 u1, .int .i64 u2] 94)) ((w5.alloc (.cells #[.int .i64 n0, .int .i64 n1, .int .i64 n2] 94)).setCell ⟨w4.heap.size + 1, 1, none⟩ (.string c)) := ((((Ext.refl _).alloc _).trans r5).alloc _).below.setCell (by simp) _
  have b4' := b4.other hne 1 (.string c)
  have b3' := b3.set 1 (.string c) (by simp)
  obtain ⟨o0, o1, o2, o3⟩ := b3'.at2
  replace b3 := Lib.hid b3; replace b3' := Lib.hid b3'; replace b4 := Lib.hid b4; replace b4' := Lib.hid b4'
  replace z0 := Lib.hid (z0.out.trans hx)
  replace b1 := Lib.hid (b1.out.ext hx)
  replace b2 := Lib.hid (b2.out.ext hx)
  clear hx r5 hne
  go_wp2_with fail
  refine (g2.out _).mono ?_; rintro e w6 ⟨rfl, r6⟩
  clear l0 l1 l2 l3 o0 o1 o2 o3
  obtain ⟨i0, i1, i2, _, _, _⟩ := (b1.out.ext r6).alloc (.cells #[.int .i64 x0, .int .i64 x1, .int .i64 x2] 94) |>.at3
  obtain ⟨j0, j1, j2, _, _, _⟩ := (b2.out.ext r6).alloc (.cells #[.int .i64 x0, .int .i64 x1, .int .i64 x2] 94) |>.at3
  obtain ⟨l0, l1, l2, _, _, _⟩ := (b4'.out.ext r6).alloc (.cells #[.int .i64 x0, .int .i64 x1, .int .i64 x2] 94) |>.at3
  obtain ⟨o0, o1, o2, _, _, _⟩ := (Box.new w6 [.int .i64 x0, .int .i64 x1, .int .i64 x2] 94).at3
  replace z0 := Lib.hid ((z0.out.trans r6).alloc (.cells #[.int .i64 x0, .int .i64 x1, .int .i64 x2] 94))
  clear r6
  go_wp2_with fail
  go_ret
  exact ⟨rfl, z0.out⟩

set_option maxRecDepth 100000 in
set_option maxHeartbeats 8000000 in
theorem superTurns_1 (w : World) (a b c T : ByteArray) (n0 n1 n2 x0 x1 x2 u0 u1 u2 : Int) (d1 : decide ((200 : Int) < a.size) = false) (d2 : decide ((200 : Int) < b.size) = false) (d3 : decide ((200 : Int) < c.size) = false)
    (h85 : ∀ w, Calls Try.prog 85 #[.string a, .string b] w fun e w' => e = .returned (.tuple #[.agg #[.int .i64 x0, .int .i64 x1, .int .i64 x2], .int .i64 1, .bool true]) ∧ Ext w w')
    (h87 : ∀ w, Calls Try.prog 87 #[.agg #[.int .i64 n0, .int .i64 n1, .int .i64 n2]] w fun e w' => e = .returned (.string T) ∧ Ext w w')
    (h83 : ∀ w, Calls Try.prog 83 #[.string c] w fun e w' => e = .returned (.tuple #[.agg #[.int .i64 u0, .int .i64 u1, .int .i64 u2], .bool false]) ∧ Ext w w')
    (q1 : T.toList.isEmpty = false) (q2 : decide (n0 ≤ x0) = false)
    (g1 : ∀ w, Calls Try.prog 85 #[.string T, .string b] w fun e w' => e = .returned (.tuple #[.agg #[.int .i64 n0, .int .i64 n1, .int .i64 n2], .int .i64 0, .bool true]) ∧ Ext w w')
    (g2 : ∀ w, Calls Try.prog 85 #[.string c, .string b] w fun e w' => e = .returned (.tuple #[.agg #[.int .i64 x0, .int .i64 x1, .int .i64 x2], .int .i64 1, .bool true]) ∧ Ext w w') :
    Calls Try.prog 25 #[.agg #[.string a, .string b, .int .i64 n0, .int .i64 n1, .int .i64 n2, .string c]] w fun e w' => e = .returned (.bool true) ∧ Ext w w' := by
  replace h85 := Lib.hid h85; replace h87 := Lib.hid h87; replace h83 := Lib.hid h83; replace g1 := Lib.hid g1; replace g2 := Lib.hid g2
  go_enter Try.func25, Try.ntmps25
  go_wp2_with fail
  go_region
  have b1 := Box.new (w.alloc (.cells #[.string a, .string b, .int .i64 n0, .int .i64 n1, .int .i64 n2, .string c] 103)) [.int .i64 n0, .int .i64 n1, .int .i64 n2] 94
  rw [show (w.alloc (.cells #[.string a, .string b, .int .i64 n0, .int .i64 n1, .int .i64 n2, .string c] 103)).heap.size = w.heap.size + 1 from by simp] at b1
  have z0 : Ext w (((w.alloc (.cells #[.string a, .string b, .int .i64 n0, .int .i64 n1, .int .i64 n2, .string c] 103)).alloc (.cells #[.int .i64 n0, .int .i64 n1, .int .i64 n2] 94)).drew) := (((Ext.refl w).alloc _).alloc _).drew
  replace b1 := Lib.hid (b1.ext (Ext.refl _).drew)
  try apply_assumption
  go_wp2_with fail
  refine (fixed12 _).mono ?_; rintro e w1 ⟨rfl, r1⟩
  replace z0 := Lib.hid (z0.trans r1)
  replace b1 := Lib.hid (b1.out.ext r1)
  clear r1
  go_wp2_with fail
  refine (h85.out _).mono ?_; rintro e w2 ⟨rfl, r2⟩
  replace b1 := (b1.out.ext r2).alloc (.cells #[.int .i64 x0, .int .i64 x1, .int .i64 x2] 94)
  have b2 := Lib.hid (Box.new w2 [.int .i64 x0, .int .i64 x1, .int .i64 x2] 94)
  replace z0 := Lib.hid ((z0.out.trans r2).alloc (.cells #[.int .i64 x0, .int .i64 x1, .int .i64 x2] 94))
  obtain ⟨i0, i1, i2, _, _, _⟩ := b1.at3
  replace b1 := Lib.hid b1
  clear r2
  go_wp2_with fail
  refine (h87.out _).mono ?_; rintro e w3 ⟨rfl, r3⟩
  clear i0 i1 i2
  go_wp2_with fail
  refine (h83.out _).mono ?_; rintro e w4 ⟨rfl, r4⟩
  replace b1 := ((b1.out.ext r3).ext r4).alloc (.cells #[.int .i64 u0, .int .i64 u1, .int .i64 u2] 94)
  replace b2 := ((b2.out.ext r3).ext r4).alloc (.cells #[.int .i64 u0, .int .i64 u1, .int .i64 u2] 94)
  replace z0 := Lib.hid (((z0.out.trans r3).trans r4).alloc (.cells #[.int .i64 u0, .int .i64 u1, .int .i64 u2] 94))
  obtain ⟨i0, i1, i2, _, _, _⟩ := b1.at3
  obtain ⟨j0, j1, j2, _, _, _⟩ := b2.at3
  replace b1 := Lib.hid b1; replace b2 := Lib.hid b2
  clear r3 r4
  have b3 := Box.new (w4.alloc (.cells #[.int .i64 u0, .int .i64 u1, .int .i64 u2] 94)) [.string T, .string b] 104
  rw [show (w4.alloc (.cells #[.int .i64 u0, .int .i64 u1, .int .i64 u2] 94)).heap.size = w4.heap.size + 1 from by simp] at b3
  obtain ⟨l0, l1, l2, l3⟩ := b3.at2
  replace b3 := Lib.hid b3
  go_wp2_with fail
  refine (g1.out _).mono ?_; rintro e w5 ⟨rfl, r5⟩
  clear l0 l1 l2 l3 i0 i1 i2 j0 j1 j2
  have b4 := Box.new w5 [.int .i64 n0, .int .i64 n1, .int .i64 n2] 94
  replace b3 := (b3.out.ext r5).alloc (.cells #[.int .i64 n0, .int .i64 n1, .int .i64 n2] 94)
  obtain ⟨l0, l1, l2, l3⟩ := b3.at2
  have hne : w4.heap.size + 1 ≠ w5.heap.size := by have := r5.size; simp at this; omega
  have hx : Ext (w4.alloc (.cells #[.int .i64 u0, .int .i64 u1, .int .i64 u2] 94)) ((w5.alloc (.cells #[.int .i64 n0, .int .i64 n1, .int .i64 n2] 94)).setCell ⟨w4.heap.size + 1, 0, none⟩ (.string c)) := ((((Ext.refl _).alloc _).trans r5).alloc _).below.setCell (by simp) _
  have b4' := b4.other hne 0 (.string c)
  have b3' := b3.set 0 (.string c) (by simp)
  obtain ⟨o0, o1, o2, o3⟩ := b3'.at2
  replace b3 := Lib.hid b3; replace b3' := Lib.hid b3'; replace b4 := Lib.hid b4; replace b4' := Lib.hid b4'
  replace z0 := Lib.hid (z0.out.trans hx)
  replace b1 := Lib.hid (b1.out.ext hx)
  replace b2 := Lib.hid (b2.out.ext hx)
  clear hx r5 hne
  go_wp2_with fail
  refine (g2.out _).mono ?_; rintro e w6 ⟨rfl, r6⟩
  clear l0 l1 l2 l3 o0 o1 o2 o3
  obtain ⟨i0, i1, i2, _, _, _⟩ := (b1.out.ext r6).alloc (.cells #[.int .i64 x0, .int .i64 x1, .int .i64 x2] 94) |>.at3
  obtain ⟨j0, j1, j2, _, _, _⟩ := (b2.out.ext r6).alloc (.cells #[.int .i64 x0, .int .i64 x1, .int .i64 x2] 94) |>.at3
  obtain ⟨l0, l1, l2, _, _, _⟩ := (b4'.out.ext r6).alloc (.cells #[.int .i64 x0, .int .i64 x1, .int .i64 x2] 94) |>.at3
  obtain ⟨o0, o1, o2, _, _, _⟩ := (Box.new w6 [.int .i64 x0, .int .i64 x1, .int .i64 x2] 94).at3
  replace z0 := Lib.hid ((z0.out.trans r6).alloc (.cells #[.int .i64 x0, .int .i64 x1, .int .i64 x2] 94))
  clear r6
  go_wp2_with fail
  go_ret
  exact ⟨rfl, z0.out⟩

theorem superTurns_walk (t : TurnV) (_h : True) (w : World) :
    Calls Try.prog 25 #[t.val] w fun e w' => e = .returned (.bool true) ∧ Ext w w' := by
  obtain ⟨a, b, y, c⟩ := t
  by_cases ha : 200 < (a.size : Int)
  · exact superTurns_long w a b c _ _ _ (.inl ⟨decide_eq_true ha, trivial⟩)
  by_cases hb : 200 < (b.size : Int)
  · exact superTurns_long w a b c _ _ _ (.inr (.inl ⟨decide_eq_false ha, decide_eq_true hb⟩))
  by_cases hc : 200 < (c.size : Int)
  · exact superTurns_long w a b c _ _ _ (.inr (.inr ⟨decide_eq_false ha, decide_eq_false hb, decide_eq_true hc⟩))
  have d1 := decide_eq_false ha
  have d2 := decide_eq_false hb
  have d3 := decide_eq_false hc
  have h85 := superChoose_any a b
  have h87 := superLay_any y
  have h83 := superOpen_any c
  obtain ⟨⟨x, n, ok⟩, hch⟩ : ∃ z, z = Super.choose a.data.toList b.data.toList := ⟨_, rfl⟩
  rw [← hch] at h85
  cases ok with
  | false => exact superTurns_out w a b c _ _ _ _ _ _ _ _ _ _ _ _ _ d1 d2 d3 h85 h87 h83 (.inl ⟨rfl, trivial⟩)
  | true =>
    cases oy : Super.ok y with
    | false => exact superTurns_out w a b c _ _ _ _ _ _ _ _ _ _ _ _ _ d1 d2 d3 h85 h87 h83 (.inr (.inl ⟨rfl, by rw [toList_str, Super.lay_no y oy], by rw [isEmpty_str, Super.lay_no y oy]; rfl⟩))
    | true =>
      have q1 : (str (Super.lay y)).toList.isEmpty = false := by
        rw [isEmpty_str]
        cases h : Super.lay y with
        | nil => exact absurd h (Super.lay_ne y oy)
        | cons _ _ => rfl
      by_cases hg : y.1 ≤ x.1
      · exact superTurns_out w a b c _ _ _ _ _ _ _ _ _ _ _ _ _ d1 d2 d3 h85 h87 h83 (.inr (.inr (.inl ⟨rfl, q1, decide_eq_true hg⟩)))
      · have q2 := decide_eq_false hg
        cases han : (Super.opn c.data.toList).2 with
        | true => exact superTurns_out w a b c _ _ _ _ _ _ _ _ _ _ _ _ _ d1 d2 d3 h85 h87 h83 (.inr (.inr (.inr ⟨rfl, q1, q2, han⟩)))
        | false =>
          have g1 := superChoose_any
          have h83' := h83
          unfold supV at h83'
          rw [han] at h83'
          rcases Super.choose_cases _ _ x n hch.symm with ⟨rfl, ho⟩ | ⟨rfl, ho⟩
          · have ht := Super.turn0 a.data.toList c.data.toList x y ho oy (by omega) han
            have e1 := superChoose_any a (str (Super.lay y))
            rw [list_str, ht.1] at e1
            have e2 := superChoose_any a c
            rw [ht.2] at e2
            exact superTurns_0 w a b c _ _ _ _ _ _ _ _ _ _ d1 d2 d3 h85 h87 h83' q1 q2 e1 e2
          · have ht := Super.turn1 b.data.toList c.data.toList x y ho oy (by omega) han
            have e1 := superChoose_any (str (Super.lay y)) b
            rw [list_str, ht.1] at e1
            have e2 := superChoose_any c b
            rw [ht.2] at e2
            exact superTurns_1 w a b c _ _ _ _ _ _ _ _ _ _ d1 d2 d3 h85 h87 h83' q1 q2 e1 e2
end Go.Proofs.Ytehidhcpdiameaa
