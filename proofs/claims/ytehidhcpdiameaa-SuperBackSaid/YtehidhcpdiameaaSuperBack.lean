/- The statement SuperBack: the law's own walk. -/
import Derived.Test.YtehidhcpdiameaaSuperFixed
import Derived.Test.YtehidhcpdiameaaOpen4
namespace Go.Proofs.Ytehidhcpdiameaa
open Go.RowKit

theorem superBack_long (w : World) (x0 x1 x2 y0 y1 y2 : Int) (s : ByteArray) (h : 200 < (s.size : Int)) :
    Calls Try.prog 24 #[.agg #[.int .i64 x0, .int .i64 x1, .int .i64 x2], .agg #[.int .i64 y0, .int .i64 y1, .int .i64 y2], .string s] w fun e w' => e = .returned (.bool true) ∧ Ext w w' := by
  have z0 : Ext w ((w.alloc (.cells #[.int .i64 x0, .int .i64 x1, .int .i64 x2] 94)).alloc (.cells #[.int .i64 y0, .int .i64 y1, .int .i64 y2] 94)) := ((Ext.refl w).alloc _).alloc _
  go_enter Try.func24, Try.ntmps24
  go_wp2_with fail
  refine (fixed12 _).mono ?_; rintro e w1 ⟨rfl, r1⟩
  go_wp2_with fail
  refine (fixed12 _).mono ?_; rintro e w2 ⟨rfl, r2⟩
  go_wp2_with fail
  go_ret
  exact ⟨rfl, (z0.trans r1).trans r2⟩

/-- the ways of what is laid. -/
def BackA (A B : ByteArray) (x0 x1 x2 y0 y1 y2 : Int) : Prop :=
  (∃ (_ : B.toList = []), B.toList.isEmpty = true) ∨
  (∃ (_ : B.toList.isEmpty = false) (_ : (A.toList == B.toList) = true) (_ : x0 = y0) (_ : x1 = y1), x2 = y2) ∨
  (∃ (_ : B.toList.isEmpty = false) (_ : (A.toList == B.toList) = false) (_ : (x0 == y0) = false), ¬ x0 = y0) ∨
  (∃ (_ : B.toList.isEmpty = false) (_ : (A.toList == B.toList) = false) (_ : x0 = y0) (_ : (x1 == y1) = false), ¬ x1 = y1) ∨
  (∃ (_ : B.toList.isEmpty = false) (_ : (A.toList == B.toList) = false) (_ : x0 = y0) (_ : x1 = y1) (_ : (x2 == y2) = false), ¬ x2 = y2)

set_option maxRecDepth 100000 in
set_option maxHeartbeats 16000000 in
theorem superBack_nof (w : World) (x0 x1 x2 y0 y1 y2 : Int) (A B : ByteArray) (s : ByteArray)  (hs : s.size ≤ 200)
    (hx : ∀ w, Calls Try.prog 87 #[.agg #[.int .i64 x0, .int .i64 x1, .int .i64 x2]] w fun e w' => e = .returned (.string A) ∧ Ext w w')
    (hy : ∀ w, Calls Try.prog 87 #[.agg #[.int .i64 y0, .int .i64 y1, .int .i64 y2]] w fun e w' => e = .returned (.string B) ∧ Ext w w')
    (ho : ∀ w, Calls Try.prog 83 #[.string A] w fun e w' => e = .returned (.tuple #[.agg #[.int .i64 0, .int .i64 0, .int .i64 0], .bool false]) ∧ Ext w w')
    (hv : ∀ w, Calls Try.prog 83 #[.string s] w fun e w' => e = .returned (.tuple #[.agg #[.int .i64 0, .int .i64 0, .int .i64 0], .bool false]) ∧ Ext w w')
    (q1 : A.toList = []) (q2 : A.toList.isEmpty = true) :
    Calls Try.prog 24 #[.agg #[.int .i64 x0, .int .i64 x1, .int .i64 x2], .agg #[.int .i64 y0, .int .i64 y1, .int .i64 y2], .string s] w fun e w' => e = .returned (.bool true) ∧ Ext w w' := by
  have hd : decide ((200 : Int) < s.size) = false := decide_eq_false (by omega)
  have es : (s.toList == s.toList) = true := beq_self_eq_true _
  replace hx := Lib.hid hx; replace hy := Lib.hid hy; replace ho := Lib.hid ho; replace hv := Lib.hid hv
  have b0 := Lib.hid ((Box.new w [.int .i64 x0, .int .i64 x1, .int .i64 x2] 94).alloc (.cells #[.int .i64 y0, .int .i64 y1, .int .i64 y2] 94))
  have b1 := Box.new (w.alloc (.cells #[.int .i64 x0, .int .i64 x1, .int .i64 x2] 94)) [.int .i64 y0, .int .i64 y1, .int .i64 y2] 94
  rw [show (w.alloc (.cells #[.int .i64 x0, .int .i64 x1, .int .i64 x2] 94)).heap.size = w.heap.size + 1 from by simp] at b1
  replace b1 := Lib.hid b1
  have z0 : Ext w ((w.alloc (.cells #[.int .i64 x0, .int .i64 x1, .int .i64 x2] 94)).alloc (.cells #[.int .i64 y0, .int .i64 y1, .int .i64 y2] 94)) := ((Ext.refl w).alloc _).alloc _
  all_goals
    go_enter Try.func24, Try.ntmps24
    go_wp2_with fail
    refine (fixed12 _).mono ?_; rintro e w1 ⟨rfl, r1⟩
    have b0' := Lib.hid (b0.out.ext r1)
    have b1' := Lib.hid (b1.out.ext r1)
    replace z0 := Lib.hid (z0.trans r1)
    clear r1 b0 b1
    go_wp2_with fail
    refine Soft.region_ext [] [0, 1, 2, 3, 4, 5] [] (by kernel_rfl) (by kernel_rfl) Soft.stab_none ?_
    repeat (first | (refine Soft.pure_n rfl rfl rfl rfl (fun K hK => ?_); go_simp; refine hK _ ?_; clear hK K) | (refine Soft.pure_g rfl rfl rfl rfl rfl (fun K hK => ?_); go_simp; refine hK _ ?_; clear hK K) | (refine Soft.shut rfl rfl rfl rfl (fun K hK => ?_); go_simp; refine hK _ ?_; clear hK K) | (refine Soft.shut0 rfl rfl rfl rfl (fun K hK => ?_); go_simp; refine hK _ ?_; clear hK K) | (refine Soft.quiet_n rfl rfl rfl rfl (fun K hK => ?_); go_simp; apply Exists.intro; refine ⟨fun wq hq => ?_, hK _ ?_⟩; (first | (with_reducible exact hx.out _) | (with_reducible exact hy.out _) | (go_simp; with_reducible rfl) | (obtain ⟨gg1, gg2, gg3, _⟩ := (b0'.out.ext hq).at3; go_simp; with_reducible rfl) | (obtain ⟨gg1, gg2, gg3, _⟩ := (b1'.out.ext hq).at3; go_simp; with_reducible rfl)); clear hK K) | (refine Soft.quiet_g rfl rfl rfl rfl rfl (fun K hK => ?_); go_simp; apply Exists.intro; refine ⟨fun wq hq => ?_, hK _ ?_⟩; (first | (with_reducible exact hx.out _) | (with_reducible exact hy.out _) | (go_simp; with_reducible rfl) | (obtain ⟨gg1, gg2, gg3, _⟩ := (b0'.out.ext hq).at3; go_simp; with_reducible rfl) | (obtain ⟨gg1, gg2, gg3, _⟩ := (b1'.out.ext hq).at3; go_simp; with_reducible rfl)); clear hK K))
    refine Soft.ends (by kernel_rfl) (fun w2 r2 _ => ?_)
    go_wp2_with fail
    refine (ho.out _).mono ?_; rintro e w3 ⟨rfl, r3⟩
    replace b0' := Lib.hid (((b0'.out.ext r2).ext r3).alloc (.cells #[.int .i64 0, .int .i64 0, .int .i64 0] 94))
    replace b1' := Lib.hid (((b1'.out.ext r2).ext r3).alloc (.cells #[.int .i64 0, .int .i64 0, .int .i64 0] 94))
    have b2 := Lib.hid (Box.new w3 [.int .i64 0, .int .i64 0, .int .i64 0] 94)
    replace z0 := Lib.hid (((z0.out.trans r2).trans r3).alloc (.cells #[.int .i64 0, .int .i64 0, .int .i64 0] 94))
    clear r2 r3
    go_wp2_with fail
    refine (hv.out _).mono ?_; rintro e w4 ⟨rfl, r4⟩
    replace b0' := (b0'.out.ext r4).alloc (.cells #[.int .i64 0, .int .i64 0, .int .i64 0] 94)
    replace b1' := (b1'.out.ext r4).alloc (.cells #[.int .i64 0, .int .i64 0, .int .i64 0] 94)
    replace b2 := (b2.out.ext r4).alloc (.cells #[.int .i64 0, .int .i64 0, .int .i64 0] 94)
    have b3 := Box.new w4 [.int .i64 0, .int .i64 0, .int .i64 0] 94
    replace z0 := Lib.hid ((z0.out.trans r4).alloc (.cells #[.int .i64 0, .int .i64 0, .int .i64 0] 94))
    clear r4
    obtain ⟨i0, i1, i2, _, _, _⟩ := b0'.at3
    obtain ⟨j0, j1, j2, _, _, _⟩ := b1'.at3
    obtain ⟨l0, l1, l2, _, _, _⟩ := b2.at3
    obtain ⟨m0, m1, m2, _, _, _⟩ := b3.at3
    replace b0' := Lib.hid b0'; replace b1' := Lib.hid b1'; replace b2 := Lib.hid b2; replace b3 := Lib.hid b3
    go_wp2_with fail
    go_ret
    exact ⟨rfl, z0.out⟩

set_option maxRecDepth 100000 in
set_option maxHeartbeats 16000000 in
theorem superBack_not (w : World) (x0 x1 x2 y0 y1 y2 : Int) (A B : ByteArray) (s : ByteArray)  (hs : s.size ≤ 200)
    (hx : ∀ w, Calls Try.prog 87 #[.agg #[.int .i64 x0, .int .i64 x1, .int .i64 x2]] w fun e w' => e = .returned (.string A) ∧ Ext w w')
    (hy : ∀ w, Calls Try.prog 87 #[.agg #[.int .i64 y0, .int .i64 y1, .int .i64 y2]] w fun e w' => e = .returned (.string B) ∧ Ext w w')
    (ho : ∀ w, Calls Try.prog 83 #[.string A] w fun e w' => e = .returned (.tuple #[.agg #[.int .i64 x0, .int .i64 x1, .int .i64 x2], .bool true]) ∧ Ext w w')
    (hv : ∀ w, Calls Try.prog 83 #[.string s] w fun e w' => e = .returned (.tuple #[.agg #[.int .i64 0, .int .i64 0, .int .i64 0], .bool false]) ∧ Ext w w')
    (q1 : A.toList.isEmpty = false) (q2 : ((A.size : Int) == 32) = true) (q3 : ((A.size : Int) != 32) = false) (key : BackA A B x0 x1 x2 y0 y1 y2) :
    Calls Try.prog 24 #[.agg #[.int .i64 x0, .int .i64 x1, .int .i64 x2], .agg #[.int .i64 y0, .int .i64 y1, .int .i64 y2], .string s] w fun e w' => e = .returned (.bool true) ∧ Ext w w' := by
  have hd : decide ((200 : Int) < s.size) = false := decide_eq_false (by omega)
  have es : (s.toList == s.toList) = true := beq_self_eq_true _
  replace hx := Lib.hid hx; replace hy := Lib.hid hy; replace ho := Lib.hid ho; replace hv := Lib.hid hv
  have b0 := Lib.hid ((Box.new w [.int .i64 x0, .int .i64 x1, .int .i64 x2] 94).alloc (.cells #[.int .i64 y0, .int .i64 y1, .int .i64 y2] 94))
  have b1 := Box.new (w.alloc (.cells #[.int .i64 x0, .int .i64 x1, .int .i64 x2] 94)) [.int .i64 y0, .int .i64 y1, .int .i64 y2] 94
  rw [show (w.alloc (.cells #[.int .i64 x0, .int .i64 x1, .int .i64 x2] 94)).heap.size = w.heap.size + 1 from by simp] at b1
  replace b1 := Lib.hid b1
  have z0 : Ext w ((w.alloc (.cells #[.int .i64 x0, .int .i64 x1, .int .i64 x2] 94)).alloc (.cells #[.int .i64 y0, .int .i64 y1, .int .i64 y2] 94)) := ((Ext.refl w).alloc _).alloc _
  unfold BackA at key
  rcases key with ⟨k1, k2⟩ | ⟨k1, k2, rfl, rfl, rfl⟩ | ⟨k1, k2, k3, k4⟩ | ⟨k1, k2, rfl, k3, k4⟩ | ⟨k1, k2, rfl, rfl, k3, k4⟩
  all_goals
    go_enter Try.func24, Try.ntmps24
    go_wp2_with fail
    refine (fixed12 _).mono ?_; rintro e w1 ⟨rfl, r1⟩
    have b0' := Lib.hid (b0.out.ext r1)
    have b1' := Lib.hid (b1.out.ext r1)
    replace z0 := Lib.hid (z0.trans r1)
    clear r1 b0 b1
    go_wp2_with fail
    refine Soft.region_ext [] [0, 1, 2, 3, 4, 5] [] (by kernel_rfl) (by kernel_rfl) Soft.stab_none ?_
    repeat (first | (refine Soft.pure_n rfl rfl rfl rfl (fun K hK => ?_); go_simp; refine hK _ ?_; clear hK K) | (refine Soft.pure_g rfl rfl rfl rfl rfl (fun K hK => ?_); go_simp; refine hK _ ?_; clear hK K) | (refine Soft.shut rfl rfl rfl rfl (fun K hK => ?_); go_simp; refine hK _ ?_; clear hK K) | (refine Soft.shut0 rfl rfl rfl rfl (fun K hK => ?_); go_simp; refine hK _ ?_; clear hK K) | (refine Soft.quiet_n rfl rfl rfl rfl (fun K hK => ?_); go_simp; apply Exists.intro; refine ⟨fun wq hq => ?_, hK _ ?_⟩; (first | (with_reducible exact hx.out _) | (with_reducible exact hy.out _) | (go_simp; with_reducible rfl) | (obtain ⟨gg1, gg2, gg3, _⟩ := (b0'.out.ext hq).at3; go_simp; with_reducible rfl) | (obtain ⟨gg1, gg2, gg3, _⟩ := (b1'.out.ext hq).at3; go_simp; with_reducible rfl)); clear hK K) | (refine Soft.quiet_g rfl rfl rfl rfl rfl (fun K hK => ?_); go_simp; apply Exists.intro; refine ⟨fun wq hq => ?_, hK _ ?_⟩; (first | (with_reducible exact hx.out _) | (with_reducible exact hy.out _) | (go_simp; with_reducible rfl) | (obtain ⟨gg1, gg2, gg3, _⟩ := (b0'.out.ext hq).at3; go_simp; with_reducible rfl) | (obtain ⟨gg1, gg2, gg3, _⟩ := (b1'.out.ext hq).at3; go_simp; with_reducible rfl)); clear hK K))
    refine Soft.ends (by kernel_rfl) (fun w2 r2 _ => ?_)
    go_wp2_with fail
    refine (ho.out _).mono ?_; rintro e w3 ⟨rfl, r3⟩
    replace b0' := Lib.hid (((b0'.out.ext r2).ext r3).alloc (.cells #[.int .i64 x0, .int .i64 x1, .int .i64 x2] 94))
    replace b1' := Lib.hid (((b1'.out.ext r2).ext r3).alloc (.cells #[.int .i64 x0, .int .i64 x1, .int .i64 x2] 94))
    have b2 := Lib.hid (Box.new w3 [.int .i64 x0, .int .i64 x1, .int .i64 x2] 94)
    replace z0 := Lib.hid (((z0.out.trans r2).trans r3).alloc (.cells #[.int .i64 x0, .int .i64 x1, .int .i64 x2] 94))
    clear r2 r3
    go_wp2_with fail
    refine (hv.out _).mono ?_; rintro e w4 ⟨rfl, r4⟩
    replace b0' := (b0'.out.ext r4).alloc (.cells #[.int .i64 0, .int .i64 0, .int .i64 0] 94)
    replace b1' := (b1'.out.ext r4).alloc (.cells #[.int .i64 0, .int .i64 0, .int .i64 0] 94)
    replace b2 := (b2.out.ext r4).alloc (.cells #[.int .i64 0, .int .i64 0, .int .i64 0] 94)
    have b3 := Box.new w4 [.int .i64 0, .int .i64 0, .int .i64 0] 94
    replace z0 := Lib.hid ((z0.out.trans r4).alloc (.cells #[.int .i64 0, .int .i64 0, .int .i64 0] 94))
    clear r4
    obtain ⟨i0, i1, i2, _, _, _⟩ := b0'.at3
    obtain ⟨j0, j1, j2, _, _, _⟩ := b1'.at3
    obtain ⟨l0, l1, l2, _, _, _⟩ := b2.at3
    obtain ⟨m0, m1, m2, _, _, _⟩ := b3.at3
    replace b0' := Lib.hid b0'; replace b1' := Lib.hid b1'; replace b2 := Lib.hid b2; replace b3 := Lib.hid b3
    go_wp2_with fail
    go_ret
    exact ⟨rfl, z0.out⟩

set_option maxRecDepth 100000 in
set_option maxHeartbeats 16000000 in
theorem superBack_yesf (w : World) (x0 x1 x2 y0 y1 y2 : Int) (A B : ByteArray) (s : ByteArray) (v0 v1 v2 : Int)  (hs : s.size ≤ 200)
    (hx : ∀ w, Calls Try.prog 87 #[.agg #[.int .i64 x0, .int .i64 x1, .int .i64 x2]] w fun e w' => e = .returned (.string A) ∧ Ext w w')
    (hy : ∀ w, Calls Try.prog 87 #[.agg #[.int .i64 y0, .int .i64 y1, .int .i64 y2]] w fun e w' => e = .returned (.string B) ∧ Ext w w')
    (ho : ∀ w, Calls Try.prog 83 #[.string A] w fun e w' => e = .returned (.tuple #[.agg #[.int .i64 0, .int .i64 0, .int .i64 0], .bool false]) ∧ Ext w w')
    (hv : ∀ w, Calls Try.prog 83 #[.string s] w fun e w' => e = .returned (.tuple #[.agg #[.int .i64 v0, .int .i64 v1, .int .i64 v2], .bool true]) ∧ Ext w w')
    (h87 : ∀ w, Calls Try.prog 87 #[.agg #[.int .i64 v0, .int .i64 v1, .int .i64 v2]] w fun e w' => e = .returned (.string s) ∧ Ext w w')
    (q1 : A.toList = []) (q2 : A.toList.isEmpty = true) :
    Calls Try.prog 24 #[.agg #[.int .i64 x0, .int .i64 x1, .int .i64 x2], .agg #[.int .i64 y0, .int .i64 y1, .int .i64 y2], .string s] w fun e w' => e = .returned (.bool true) ∧ Ext w w' := by
  have hd : decide ((200 : Int) < s.size) = false := decide_eq_false (by omega)
  have es : (s.toList == s.toList) = true := beq_self_eq_true _
  replace hx := Lib.hid hx; replace hy := Lib.hid hy; replace ho := Lib.hid ho; replace hv := Lib.hid hv; replace h87 := Lib.hid h87
  have b0 := Lib.hid ((Box.new w [.int .i64 x0, .int .i64 x1, .int .i64 x2] 94).alloc (.cells #[.int .i64 y0, .int .i64 y1, .int .i64 y2] 94))
  have b1 := Box.new (w.alloc (.cells #[.int .i64 x0, .int .i64 x1, .int .i64 x2] 94)) [.int .i64 y0, .int .i64 y1, .int .i64 y2] 94
  rw [show (w.alloc (.cells #[.int .i64 x0, .int .i64 x1, .int .i64 x2] 94)).heap.size = w.heap.size + 1 from by simp] at b1
  replace b1 := Lib.hid b1
  have z0 : Ext w ((w.alloc (.cells #[.int .i64 x0, .int .i64 x1, .int .i64 x2] 94)).alloc (.cells #[.int .i64 y0, .int .i64 y1, .int .i64 y2] 94)) := ((Ext.refl w).alloc _).alloc _
  all_goals
    go_enter Try.func24, Try.ntmps24
    go_wp2_with fail
    refine (fixed12 _).mono ?_; rintro e w1 ⟨rfl, r1⟩
    have b0' := Lib.hid (b0.out.ext r1)
    have b1' := Lib.hid (b1.out.ext r1)
    replace z0 := Lib.hid (z0.trans r1)
    clear r1 b0 b1
    go_wp2_with fail
    refine Soft.region_ext [] [0, 1, 2, 3, 4, 5] [] (by kernel_rfl) (by kernel_rfl) Soft.stab_none ?_
    repeat (first | (refine Soft.pure_n rfl rfl rfl rfl (fun K hK => ?_); go_simp; refine hK _ ?_; clear hK K) | (refine Soft.pure_g rfl rfl rfl rfl rfl (fun K hK => ?_); go_simp; refine hK _ ?_; clear hK K) | (refine Soft.shut rfl rfl rfl rfl (fun K hK => ?_); go_simp; refine hK _ ?_; clear hK K) | (refine Soft.shut0 rfl rfl rfl rfl (fun K hK => ?_); go_simp; refine hK _ ?_; clear hK K) | (refine Soft.quiet_n rfl rfl rfl rfl (fun K hK => ?_); go_simp; apply Exists.intro; refine ⟨fun wq hq => ?_, hK _ ?_⟩; (first | (with_reducible exact hx.out _) | (with_reducible exact hy.out _) | (go_simp; with_reducible rfl) | (obtain ⟨gg1, gg2, gg3, _⟩ := (b0'.out.ext hq).at3; go_simp; with_reducible rfl) | (obtain ⟨gg1, gg2, gg3, _⟩ := (b1'.out.ext hq).at3; go_simp; with_reducible rfl)); clear hK K) | (refine Soft.quiet_g rfl rfl rfl rfl rfl (fun K hK => ?_); go_simp; apply Exists.intro; refine ⟨fun wq hq => ?_, hK _ ?_⟩; (first | (with_reducible exact hx.out _) | (with_reducible exact hy.out _) | (go_simp; with_reducible rfl) | (obtain ⟨gg1, gg2, gg3, _⟩ := (b0'.out.ext hq).at3; go_simp; with_reducible rfl) | (obtain ⟨gg1, gg2, gg3, _⟩ := (b1'.out.ext hq).at3; go_simp; with_reducible rfl)); clear hK K))
    refine Soft.ends (by kernel_rfl) (fun w2 r2 _ => ?_)
    go_wp2_with fail
    refine (ho.out _).mono ?_; rintro e w3 ⟨rfl, r3⟩
    replace b0' := Lib.hid (((b0'.out.ext r2).ext r3).alloc (.cells #[.int .i64 0, .int .i64 0, .int .i64 0] 94))
    replace b1' := Lib.hid (((b1'.out.ext r2).ext r3).alloc (.cells #[.int .i64 0, .int .i64 0, .int .i64 0] 94))
    have b2 := Lib.hid (Box.new w3 [.int .i64 0, .int .i64 0, .int .i64 0] 94)
    replace z0 := Lib.hid (((z0.out.trans r2).trans r3).alloc (.cells #[.int .i64 0, .int .i64 0, .int .i64 0] 94))
    clear r2 r3
    go_wp2_with fail
    refine (hv.out _).mono ?_; rintro e w4 ⟨rfl, r4⟩
    replace b0' := (b0'.out.ext r4).alloc (.cells #[.int .i64 v0, .int .i64 v1, .int .i64 v2] 94)
    replace b1' := (b1'.out.ext r4).alloc (.cells #[.int .i64 v0, .int .i64 v1, .int .i64 v2] 94)
    replace b2 := (b2.out.ext r4).alloc (.cells #[.int .i64 v0, .int .i64 v1, .int .i64 v2] 94)
    have b3 := Box.new w4 [.int .i64 v0, .int .i64 v1, .int .i64 v2] 94
    replace z0 := Lib.hid ((z0.out.trans r4).alloc (.cells #[.int .i64 v0, .int .i64 v1, .int .i64 v2] 94))
    clear r4
    obtain ⟨i0, i1, i2, _, _, _⟩ := b0'.at3
    obtain ⟨j0, j1, j2, _, _, _⟩ := b1'.at3
    obtain ⟨l0, l1, l2, _, _, _⟩ := b2.at3
    obtain ⟨m0, m1, m2, _, _, _⟩ := b3.at3
    replace b0' := Lib.hid b0'; replace b1' := Lib.hid b1'; replace b2 := Lib.hid b2; replace b3 := Lib.hid b3
    go_wp2_with fail
    refine (h87.out _).mono ?_; rintro e w5 ⟨rfl, r5⟩
    clear i0 i1 i2 j0 j1 j2 l0 l1 l2 m0 m1 m2
    obtain ⟨i0, i1, i2, _, _, _⟩ := (b0'.out.ext r5).at3
    obtain ⟨j0, j1, j2, _, _, _⟩ := (b1'.out.ext r5).at3
    replace z0 := Lib.hid (z0.out.trans r5)
    clear r5
    go_wp2_with fail
    go_ret
    exact ⟨rfl, z0.out⟩

set_option maxRecDepth 100000 in
set_option maxHeartbeats 16000000 in
theorem superBack_yest (w : World) (x0 x1 x2 y0 y1 y2 : Int) (A B : ByteArray) (s : ByteArray) (v0 v1 v2 : Int)  (hs : s.size ≤ 200)
    (hx : ∀ w, Calls Try.prog 87 #[.agg #[.int .i64 x0, .int .i64 x1, .int .i64 x2]] w fun e w' => e = .returned (.string A) ∧ Ext w w')
    (hy : ∀ w, Calls Try.prog 87 #[.agg #[.int .i64 y0, .int .i64 y1, .int .i64 y2]] w fun e w' => e = .returned (.string B) ∧ Ext w w')
    (ho : ∀ w, Calls Try.prog 83 #[.string A] w fun e w' => e = .returned (.tuple #[.agg #[.int .i64 x0, .int .i64 x1, .int .i64 x2], .bool true]) ∧ Ext w w')
    (hv : ∀ w, Calls Try.prog 83 #[.string s] w fun e w' => e = .returned (.tuple #[.agg #[.int .i64 v0, .int .i64 v1, .int .i64 v2], .bool true]) ∧ Ext w w')
    (h87 : ∀ w, Calls Try.prog 87 #[.agg #[.int .i64 v0, .int .i64 v1, .int .i64 v2]] w fun e w' => e = .returned (.string s) ∧ Ext w w')
    (q1 : A.toList.isEmpty = false) (q2 : ((A.size : Int) == 32) = true) (q3 : ((A.size : Int) != 32) = false) (key : BackA A B x0 x1 x2 y0 y1 y2) :
    Calls Try.prog 24 #[.agg #[.int .i64 x0, .int .i64 x1, .int .i64 x2], .agg #[.int .i64 y0, .int .i64 y1, .int .i64 y2], .string s] w fun e w' => e = .returned (.bool true) ∧ Ext w w' := by
  have hd : decide ((200 : Int) < s.size) = false := decide_eq_false (by omega)
  have es : (s.toList == s.toList) = true := beq_self_eq_true _
  replace hx := Lib.hid hx; replace hy := Lib.hid hy; replace ho := Lib.hid ho; replace hv := Lib.hid hv; replace h87 := Lib.hid h87
  have b0 := Lib.hid ((Box.new w [.int .i64 x0, .int .i64 x1, .int .i64 x2] 94).alloc (.cells #[.int .i64 y0, .int .i64 y1, .int .i64 y2] 94))
  have b1 := Box.new (w.alloc (.cells #[.int .i64 x0, .int .i64 x1, .int .i64 x2] 94)) [.int .i64 y0, .int .i64 y1, .int .i64 y2] 94
  rw [show (w.alloc (.cells #[.int .i64 x0, .int .i64 x1, .int .i64 x2] 94)).heap.size = w.heap.size + 1 from by simp] at b1
  replace b1 := Lib.hid b1
  have z0 : Ext w ((w.alloc (.cells #[.int .i64 x0, .int .i64 x1, .int .i64 x2] 94)).alloc (.cells #[.int .i64 y0, .int .i64 y1, .int .i64 y2] 94)) := ((Ext.refl w).alloc _).alloc _
  unfold BackA at key
  rcases key with ⟨k1, k2⟩ | ⟨k1, k2, rfl, rfl, rfl⟩ | ⟨k1, k2, k3, k4⟩ | ⟨k1, k2, rfl, k3, k4⟩ | ⟨k1, k2, rfl, rfl, k3, k4⟩
  all_goals
    go_enter Try.func24, Try.ntmps24
    go_wp2_with fail
    refine (fixed12 _).mono ?_; rintro e w1 ⟨rfl, r1⟩
    have b0' := Lib.hid (b0.out.ext r1)
    have b1' := Lib.hid (b1.out.ext r1)
    replace z0 := Lib.hid (z0.trans r1)
    clear r1 b0 b1
    go_wp2_with fail
    refine Soft.region_ext [] [0, 1, 2, 3, 4, 5] [] (by kernel_rfl) (by kernel_rfl) Soft.stab_none ?_
    repeat (first | (refine Soft.pure_n rfl rfl rfl rfl (fun K hK => ?_); go_simp; refine hK _ ?_; clear hK K) | (refine Soft.pure_g rfl rfl rfl rfl rfl (fun K hK => ?_); go_simp; refine hK _ ?_; clear hK K) | (refine Soft.shut rfl rfl rfl rfl (fun K hK => ?_); go_simp; refine hK _ ?_; clear hK K) | (refine Soft.shut0 rfl rfl rfl rfl (fun K hK => ?_); go_simp; refine hK _ ?_; clear hK K) | (refine Soft.quiet_n rfl rfl rfl rfl (fun K hK => ?_); go_simp; apply Exists.intro; refine ⟨fun wq hq => ?_, hK _ ?_⟩; (first | (with_reducible exact hx.out _) | (with_reducible exact hy.out _) | (go_simp; with_reducible rfl) | (obtain ⟨gg1, gg2, gg3, _⟩ := (b0'.out.ext hq).at3; go_simp; with_reducible rfl) | (obtain ⟨gg1, gg2, gg3, _⟩ := (b1'.out.ext hq).at3; go_simp; with_reducible rfl)); clear hK K) | (refine Soft.quiet_g rfl rfl rfl rfl rfl (fun K hK => ?_); go_simp; apply Exists.intro; refine ⟨fun wq hq => ?_, hK _ ?_⟩; (first | (with_reducible exact hx.out _) | (with_reducible exact hy.out _) | (go_simp; with_reducible rfl) | (obtain ⟨gg1, gg2, gg3, _⟩ := (b0'.out.ext hq).at3; go_simp; with_reducible rfl) | (obtain ⟨gg1, gg2, gg3, _⟩ := (b1'.out.ext hq).at3; go_simp; with_reducible rfl)); clear hK K))
    refine Soft.ends (by kernel_rfl) (fun w2 r2 _ => ?_)
    go_wp2_with fail
    refine (ho.out _).mono ?_; rintro e w3 ⟨rfl, r3⟩
    replace b0' := Lib.hid (((b0'.out.ext r2).ext r3).alloc (.cells #[.int .i64 x0, .int .i64 x1, .int .i64 x2] 94))
    replace b1' := Lib.hid (((b1'.out.ext r2).ext r3).alloc (.cells #[.int .i64 x0, .int .i64 x1, .int .i64 x2] 94))
    have b2 := Lib.hid (Box.new w3 [.int .i64 x0, .int .i64 x1, .int .i64 x2] 94)
    replace z0 := Lib.hid (((z0.out.trans r2).trans r3).alloc (.cells #[.int .i64 x0, .int .i64 x1, .int .i64 x2] 94))
    clear r2 r3
    go_wp2_with fail
    refine (hv.out _).mono ?_; rintro e w4 ⟨rfl, r4⟩
    replace b0' := (b0'.out.ext r4).alloc (.cells #[.int .i64 v0, .int .i64 v1, .int .i64 v2] 94)
    replace b1' := (b1'.out.ext r4).alloc (.cells #[.int .i64 v0, .int .i64 v1, .int .i64 v2] 94)
    replace b2 := (b2.out.ext r4).alloc (.cells #[.int .i64 v0, .int .i64 v1, .int .i64 v2] 94)
    have b3 := Box.new w4 [.int .i64 v0, .int .i64 v1, .int .i64 v2] 94
    replace z0 := Lib.hid ((z0.out.trans r4).alloc (.cells #[.int .i64 v0, .int .i64 v1, .int .i64 v2] 94))
    clear r4
    obtain ⟨i0, i1, i2, _, _, _⟩ := b0'.at3
    obtain ⟨j0, j1, j2, _, _, _⟩ := b1'.at3
    obtain ⟨l0, l1, l2, _, _, _⟩ := b2.at3
    obtain ⟨m0, m1, m2, _, _, _⟩ := b3.at3
    replace b0' := Lib.hid b0'; replace b1' := Lib.hid b1'; replace b2 := Lib.hid b2; replace b3 := Lib.hid b3
    go_wp2_with fail
    refine (h87.out _).mono ?_; rintro e w5 ⟨rfl, r5⟩
    clear i0 i1 i2 j0 j1 j2 l0 l1 l2 m0 m1 m2
    obtain ⟨i0, i1, i2, _, _, _⟩ := (b0'.out.ext r5).at3
    obtain ⟨j0, j1, j2, _, _, _⟩ := (b1'.out.ext r5).at3
    replace z0 := Lib.hid (z0.out.trans r5)
    clear r5
    go_wp2_with fail
    go_ret
    exact ⟨rfl, z0.out⟩


theorem superBack_walk (x y : Int × Int × Int) (s : ByteArray) (_hx : In64 x.1 ∧ In64 x.2.1 ∧ In64 x.2.2) (_hy : In64 y.1 ∧ In64 y.2.1 ∧ In64 y.2.2) (_hs : s.size ≤ maxLen) (_zs : s.size ≤ 140737488351232) (w : World) :
    Calls Try.prog 24 #[.agg #[.int .i64 x.1, .int .i64 x.2.1, .int .i64 x.2.2], .agg #[.int .i64 y.1, .int .i64 y.2.1, .int .i64 y.2.2], .string s] w fun e w' => e = .returned (.bool true) ∧ Ext w w' := by
  by_cases hs : 200 < (s.size : Int)
  · exact superBack_long w _ _ _ _ _ _ s hs
  have hx := superLay_any x
  have hy := superLay_any y
  have ho := superOpen_any (str (Super.lay x))
  have hv := superOpen_any s
  rw [list_str] at ho
  have he : ∀ z : Super.S3, Super.ok z = true → (str (Super.lay z)).toList.isEmpty = false := fun z hz => by
    rw [isEmpty_str]
    cases h : Super.lay z with
    | nil => exact absurd h (Super.lay_ne z hz)
    | cons _ _ => rfl
  cases ox : Super.ok x with
  | false =>
    have q1 : (str (Super.lay x)).toList = [] := by rw [toList_str, Super.lay_no x ox]
    have q2 : (str (Super.lay x)).toList.isEmpty = true := by rw [isEmpty_str, Super.lay_no x ox]; rfl
    rw [show Super.opn (Super.lay x) = ((0, 0, 0), false) from by rw [Super.lay_no x ox]; exact Super.opn_short [] (by decide)] at ho
    rcases Super.opn_spec s.data.toList with ⟨h1, _⟩ | ⟨z, h1, h2, _⟩
    · rw [h1] at hv
      exact superBack_nof w _ _ _ _ _ _ _ _ s (by omega) hx hy ho hv q1 q2
    · rw [h1] at hv
      have h87 := superLay_any z
      rw [h2, str_list] at h87
      exact superBack_yesf w _ _ _ _ _ _ _ _ s z.1 z.2.1 z.2.2 (by omega) hx hy ho hv h87 q1 q2
  | true =>
    have q1 := he x ox
    have q2 : (((str (Super.lay x)).size : Int) == 32) = true := by rw [str_size, Super.lay_length x ox]; rfl
    rw [Super.opn_lay x ox] at ho
    have key : BackA (str (Super.lay x)) (str (Super.lay y)) x.1 x.2.1 x.2.2 y.1 y.2.1 y.2.2 := by
      unfold BackA
      cases oy : Super.ok y with
      | false => exact .inl ⟨by rw [toList_str, Super.lay_no y oy], by rw [isEmpty_str, Super.lay_no y oy]; rfl⟩
      | true =>
        have hij := Super.lay_inj x y ox oy
        refine .inr ?_
        by_cases hxy : x = y
        · subst hxy
          exact .inl ⟨q1, beq_self_eq_true _, rfl, rfl, rfl⟩
        · have hn : ((str (Super.lay x)).toList == (str (Super.lay y)).toList) = false := beq_false fun e => hxy (hij.1 e)
          refine .inr ?_
          by_cases h0 : x.1 = y.1
          · by_cases h1 : x.2.1 = y.2.1
            · have h2 : x.2.2 ≠ y.2.2 := fun h2 => hxy (Prod.ext h0 (Prod.ext h1 h2))
              exact .inr (.inr ⟨he y oy, hn, h0, h1, beq_eq_false_iff_ne.2 h2, h2⟩)
            · exact .inr (.inl ⟨he y oy, hn, h0, beq_eq_false_iff_ne.2 h1, h1⟩)
          · exact .inl ⟨he y oy, hn, beq_eq_false_iff_ne.2 h0, h0⟩
    rcases Super.opn_spec s.data.toList with ⟨h1, _⟩ | ⟨z, h1, h2, _⟩
    · rw [h1] at hv
      exact superBack_not w _ _ _ _ _ _ _ _ s (by omega) hx hy ho hv q1 q2 (by rw [bne, q2]; rfl) key
    · rw [h1] at hv
      have h87 := superLay_any z
      rw [h2, str_list] at h87
      exact superBack_yest w _ _ _ _ _ _ _ _ s z.1 z.2.1 z.2.2 (by omega) hx hy ho hv h87 q1 q2 (by rw [bne, q2]; rfl) key
end Go.Proofs.Ytehidhcpdiameaa

