/- The statement SuperGreater: the law's own walk. -/
import Derived.Test.YtehidhcpdiameaaSuperFixed
import Derived.Test.YtehidhcpdiameaaOpen4
namespace Go.Proofs.Ytehidhcpdiameaa
open Go.RowKit

set_option maxRecDepth 100000 in
set_option maxHeartbeats 4000000 in
theorem superGreater_no (w : World) (x0 x1 x2 y0 y1 y2 : Int) (A B : ByteArray)
    (hx : ∀ w, Calls Try.prog 87 #[.agg #[.int .i64 x0, .int .i64 x1, .int .i64 x2]] w fun e w' => e = .returned (.string A) ∧ Ext w w')
    (hy : ∀ w, Calls Try.prog 87 #[.agg #[.int .i64 y0, .int .i64 y1, .int .i64 y2]] w fun e w' => e = .returned (.string B) ∧ Ext w w')
    (h : (∃ (_ : A.toList = []), A.toList.isEmpty = true) ∨ (∃ (_ : A.toList.isEmpty = false) (_ : B.toList = []), B.toList.isEmpty = true)) :
    Calls Try.prog 26 #[.agg #[.int .i64 x0, .int .i64 x1, .int .i64 x2], .agg #[.int .i64 y0, .int .i64 y1, .int .i64 y2]] w fun e w' => e = .returned (.bool true) ∧ Ext w w' := by
  replace hx := Lib.hid hx; replace hy := Lib.hid hy
  have b0 := Lib.hid ((Box.new w [.int .i64 x0, .int .i64 x1, .int .i64 x2] 94).alloc (.cells #[.int .i64 y0, .int .i64 y1, .int .i64 y2] 94))
  have b1 := Box.new (w.alloc (.cells #[.int .i64 x0, .int .i64 x1, .int .i64 x2] 94)) [.int .i64 y0, .int .i64 y1, .int .i64 y2] 94
  rw [show (w.alloc (.cells #[.int .i64 x0, .int .i64 x1, .int .i64 x2] 94)).heap.size = w.heap.size + 1 from by simp] at b1
  replace b1 := Lib.hid b1
  have z0 : Ext w ((w.alloc (.cells #[.int .i64 x0, .int .i64 x1, .int .i64 x2] 94)).alloc (.cells #[.int .i64 y0, .int .i64 y1, .int .i64 y2] 94)) := ((Ext.refl w).alloc _).alloc _
  rcases h with ⟨q1, q2⟩ | ⟨q1, q2, q3⟩
  all_goals
    go_enter Try.func26, Try.ntmps26
    go_wp2_with fail
    refine Soft.region_ext [] [0, 1, 2, 3, 4, 5] [] (by kernel_rfl) (by kernel_rfl) Soft.stab_none ?_
    repeat (first | (refine Soft.pure_n rfl rfl rfl rfl (fun K hK => ?_); go_simp; refine hK _ ?_; clear hK K) | (refine Soft.pure_g rfl rfl rfl rfl rfl (fun K hK => ?_); go_simp; refine hK _ ?_; clear hK K) | (refine Soft.shut rfl rfl rfl rfl (fun K hK => ?_); go_simp; refine hK _ ?_; clear hK K) | (refine Soft.shut0 rfl rfl rfl rfl (fun K hK => ?_); go_simp; refine hK _ ?_; clear hK K) | (refine Soft.quiet_n rfl rfl rfl rfl (fun K hK => ?_); go_simp; apply Exists.intro; refine ⟨fun wq hq => ?_, hK _ ?_⟩; (first | (with_reducible exact hx.out _) | (with_reducible exact hy.out _) | (go_simp; with_reducible rfl) | (obtain ⟨gg1, gg2, gg3, _⟩ := (b0.out.ext hq).at3; go_simp; with_reducible rfl) | (obtain ⟨gg1, gg2, gg3, _⟩ := (b1.out.ext hq).at3; go_simp; with_reducible rfl)); clear hK K) | (refine Soft.quiet_g rfl rfl rfl rfl rfl (fun K hK => ?_); go_simp; apply Exists.intro; refine ⟨fun wq hq => ?_, hK _ ?_⟩; (first | (with_reducible exact hx.out _) | (with_reducible exact hy.out _) | (go_simp; with_reducible rfl) | (obtain ⟨gg1, gg2, gg3, _⟩ := (b0.out.ext hq).at3; go_simp; with_reducible rfl) | (obtain ⟨gg1, gg2, gg3, _⟩ := (b1.out.ext hq).at3; go_simp; with_reducible rfl)); clear hK K))
    refine Soft.ends (by kernel_rfl) (fun w1 r1 _ => ?_)
    go_wp2_with fail
    refine (fixed12 _).mono ?_; rintro e w2 ⟨rfl, r2⟩
    go_wp2_with fail
    refine (fixed12 _).mono ?_; rintro e w3 ⟨rfl, r3⟩
    go_wp2_with fail
    go_ret
    exact ⟨rfl, ((z0.trans r1).trans r2).trans r3⟩

set_option maxRecDepth 100000 in
set_option maxHeartbeats 8000000 in
theorem superGreater_yes (w : World) (x0 x1 x2 y0 y1 y2 : Int) (A B : ByteArray)
    (hx : ∀ w, Calls Try.prog 87 #[.agg #[.int .i64 x0, .int .i64 x1, .int .i64 x2]] w fun e w' => e = .returned (.string A) ∧ Ext w w')
    (hy : ∀ w, Calls Try.prog 87 #[.agg #[.int .i64 y0, .int .i64 y1, .int .i64 y2]] w fun e w' => e = .returned (.string B) ∧ Ext w w')
    (ea : A.toList.isEmpty = false) (eb : B.toList.isEmpty = false)
    (h85 : ∀ w, Calls Try.prog 85 #[.string A, .string B] w fun e w' => e = .returned (choV (if x0 < y0 then ((y0, y1, y2), 1, true) else ((x0, x1, x2), 0, true))) ∧ Ext w w')
    (h85' : ∀ w, Calls Try.prog 85 #[.string ⟨#[]⟩, .string B] w fun e w' => e = .returned (choV ((y0, y1, y2), 1, true)) ∧ Ext w w') :
    Calls Try.prog 26 #[.agg #[.int .i64 x0, .int .i64 x1, .int .i64 x2], .agg #[.int .i64 y0, .int .i64 y1, .int .i64 y2]] w fun e w' => e = .returned (.bool true) ∧ Ext w w' := by
  replace hx := Lib.hid hx; replace hy := Lib.hid hy
  have b0 := Lib.hid ((Box.new w [.int .i64 x0, .int .i64 x1, .int .i64 x2] 94).alloc (.cells #[.int .i64 y0, .int .i64 y1, .int .i64 y2] 94))
  have b1 := Box.new (w.alloc (.cells #[.int .i64 x0, .int .i64 x1, .int .i64 x2] 94)) [.int .i64 y0, .int .i64 y1, .int .i64 y2] 94
  rw [show (w.alloc (.cells #[.int .i64 x0, .int .i64 x1, .int .i64 x2] 94)).heap.size = w.heap.size + 1 from by simp] at b1
  replace b1 := Lib.hid b1
  have z0 : Ext w ((w.alloc (.cells #[.int .i64 x0, .int .i64 x1, .int .i64 x2] 94)).alloc (.cells #[.int .i64 y0, .int .i64 y1, .int .i64 y2] 94)) := ((Ext.refl w).alloc _).alloc _
  unfold choV at h85 h85'
  dsimp only at h85'
  have e0 : ∀ n : Int, (n == n) = true := fun n => beq_self_eq_true _
  have ex0 := e0 x0; have ex1 := e0 x1; have ex2 := e0 x2; have ey0 := e0 y0; have ey1 := e0 y1; have ey2 := e0 y2
  clear e0
  replace h85' := Lib.hid h85'
  by_cases hlt : x0 < y0
  · rw [if_pos hlt] at h85
    dsimp only at h85
    replace h85 := Lib.hid h85
    go_enter Try.func26, Try.ntmps26
    go_wp2_with fail
    refine Soft.region_ext [] [0, 1, 2, 3, 4, 5] [] (by kernel_rfl) (by kernel_rfl) Soft.stab_none ?_
    repeat (first | (refine Soft.pure_n rfl rfl rfl rfl (fun K hK => ?_); go_simp; refine hK _ ?_; clear hK K) | (refine Soft.pure_g rfl rfl rfl rfl rfl (fun K hK => ?_); go_simp; refine hK _ ?_; clear hK K) | (refine Soft.shut rfl rfl rfl rfl (fun K hK => ?_); go_simp; refine hK _ ?_; clear hK K) | (refine Soft.shut0 rfl rfl rfl rfl (fun K hK => ?_); go_simp; refine hK _ ?_; clear hK K) | (refine Soft.quiet_n rfl rfl rfl rfl (fun K hK => ?_); go_simp; apply Exists.intro; refine ⟨fun wq hq => ?_, hK _ ?_⟩; (first | (with_reducible exact hx.out _) | (with_reducible exact hy.out _) | (go_simp; with_reducible rfl) | (obtain ⟨gg1, gg2, gg3, _⟩ := (b0.out.ext hq).at3; go_simp; with_reducible rfl) | (obtain ⟨gg1, gg2, gg3, _⟩ := (b1.out.ext hq).at3; go_simp; with_reducible rfl)); clear hK K) | (refine Soft.quiet_g rfl rfl rfl rfl rfl (fun K hK => ?_); go_simp; apply Exists.intro; refine ⟨fun wq hq => ?_, hK _ ?_⟩; (first | (with_reducible exact hx.out _) | (with_reducible exact hy.out _) | (go_simp; with_reducible rfl) | (obtain ⟨gg1, gg2, gg3, _⟩ := (b0.out.ext hq).at3; go_simp; with_reducible rfl) | (obtain ⟨gg1, gg2, gg3, _⟩ := (b1.out.ext hq).at3; go_simp; with_reducible rfl)); clear hK K))
    refine Soft.ends (by kernel_rfl) (fun w1 r1 _ => ?_)
    go_wp2_with fail
    refine (fixed12 _).mono ?_; rintro e w2 ⟨rfl, r2⟩
    go_wp2_with fail
    refine (h85.out _).mono ?_; rintro e w3 ⟨rfl, r3⟩
    replace b0 := Lib.hid ((((b0.out.ext r1).ext r2).ext r3).alloc (.cells #[.int .i64 y0, .int .i64 y1, .int .i64 y2] 94))
    replace b1 := Lib.hid ((((b1.out.ext r1).ext r2).ext r3).alloc (.cells #[.int .i64 y0, .int .i64 y1, .int .i64 y2] 94))
    have b2 := Lib.hid (Box.new w3 [.int .i64 y0, .int .i64 y1, .int .i64 y2] 94)
    replace z0 := Lib.hid ((((z0.trans r1).trans r2).trans r3).alloc (.cells #[.int .i64 y0, .int .i64 y1, .int .i64 y2] 94))
    clear r1 r2 r3
    go_wp2_with fail
    refine (h85'.out _).mono ?_; rintro e w4 ⟨rfl, r4⟩
    replace b0 := (b0.out.ext r4).alloc (.cells #[.int .i64 y0, .int .i64 y1, .int .i64 y2] 94)
    replace b1 := (b1.out.ext r4).alloc (.cells #[.int .i64 y0, .int .i64 y1, .int .i64 y2] 94)
    replace b2 := (b2.out.ext r4).alloc (.cells #[.int .i64 y0, .int .i64 y1, .int .i64 y2] 94)
    have b3 := Box.new w4 [.int .i64 y0, .int .i64 y1, .int .i64 y2] 94
    replace z0 := Lib.hid ((z0.out.trans r4).alloc (.cells #[.int .i64 y0, .int .i64 y1, .int .i64 y2] 94))
    clear r4
    obtain ⟨i0, i1, i2, _, _, _⟩ := b0.at3
    obtain ⟨j0, j1, j2, _, _, _⟩ := b1.at3
    obtain ⟨k0, k1, k2, _, _, _⟩ := b2.at3
    obtain ⟨l0, l1, l2, _, _, _⟩ := b3.at3
    replace b0 := Lib.hid b0; replace b1 := Lib.hid b1; replace b2 := Lib.hid b2; replace b3 := Lib.hid b3
    go_wp2_with fail
    go_ret
    exact ⟨rfl, z0.out⟩
  · rw [if_neg hlt] at h85
    dsimp only at h85
    replace h85 := Lib.hid h85
    have hle : y0 ≤ x0 := by omega
    go_enter Try.func26, Try.ntmps26
    go_wp2_with fail
    refine Soft.region_ext [] [0, 1, 2, 3, 4, 5] [] (by kernel_rfl) (by kernel_rfl) Soft.stab_none ?_
    repeat (first | (refine Soft.pure_n rfl rfl rfl rfl (fun K hK => ?_); go_simp; refine hK _ ?_; clear hK K) | (refine Soft.pure_g rfl rfl rfl rfl rfl (fun K hK => ?_); go_simp; refine hK _ ?_; clear hK K) | (refine Soft.shut rfl rfl rfl rfl (fun K hK => ?_); go_simp; refine hK _ ?_; clear hK K) | (refine Soft.shut0 rfl rfl rfl rfl (fun K hK => ?_); go_simp; refine hK _ ?_; clear hK K) | (refine Soft.quiet_n rfl rfl rfl rfl (fun K hK => ?_); go_simp; apply Exists.intro; refine ⟨fun wq hq => ?_, hK _ ?_⟩; (first | (with_reducible exact hx.out _) | (with_reducible exact hy.out _) | (go_simp; with_reducible rfl) | (obtain ⟨gg1, gg2, gg3, _⟩ := (b0.out.ext hq).at3; go_simp; with_reducible rfl) | (obtain ⟨gg1, gg2, gg3, _⟩ := (b1.out.ext hq).at3; go_simp; with_reducible rfl)); clear hK K) | (refine Soft.quiet_g rfl rfl rfl rfl rfl (fun K hK => ?_); go_simp; apply Exists.intro; refine ⟨fun wq hq => ?_, hK _ ?_⟩; (first | (with_reducible exact hx.out _) | (with_reducible exact hy.out _) | (go_simp; with_reducible rfl) | (obtain ⟨gg1, gg2, gg3, _⟩ := (b0.out.ext hq).at3; go_simp; with_reducible rfl) | (obtain ⟨gg1, gg2, gg3, _⟩ := (b1.out.ext hq).at3; go_simp; with_reducible rfl)); clear hK K))
    refine Soft.ends (by kernel_rfl) (fun w1 r1 _ => ?_)
    go_wp2_with fail
    refine (fixed12 _).mono ?_; rintro e w2 ⟨rfl, r2⟩
    go_wp2_with fail
    refine (h85.out _).mono ?_; rintro e w3 ⟨rfl, r3⟩
    replace b0 := Lib.hid ((((b0.out.ext r1).ext r2).ext r3).alloc (.cells #[.int .i64 x0, .int .i64 x1, .int .i64 x2] 94))
    replace b1 := Lib.hid ((((b1.out.ext r1).ext r2).ext r3).alloc (.cells #[.int .i64 x0, .int .i64 x1, .int .i64 x2] 94))
    have b2 := Lib.hid (Box.new w3 [.int .i64 x0, .int .i64 x1, .int .i64 x2] 94)
    replace z0 := Lib.hid ((((z0.trans r1).trans r2).trans r3).alloc (.cells #[.int .i64 x0, .int .i64 x1, .int .i64 x2] 94))
    clear r1 r2 r3
    go_wp2_with fail
    refine (h85'.out _).mono ?_; rintro e w4 ⟨rfl, r4⟩
    replace b0 := (b0.out.ext r4).alloc (.cells #[.int .i64 y0, .int .i64 y1, .int .i64 y2] 94)
    replace b1 := (b1.out.ext r4).alloc (.cells #[.int .i64 y0, .int .i64 y1, .int .i64 y2] 94)
    replace b2 := (b2.out.ext r4).alloc (.cells #[.int .i64 y0, .int .i64 y1, .int .i64 y2] 94)
    have b3 := Box.new w4 [.int .i64 y0, .int .i64 y1, .int .i64 y2] 94
    replace z0 := Lib.hid ((z0.out.trans r4).alloc (.cells #[.int .i64 y0, .int .i64 y1, .int .i64 y2] 94))
    clear r4
    obtain ⟨i0, i1, i2, _, _, _⟩ := b0.at3
    obtain ⟨j0, j1, j2, _, _, _⟩ := b1.at3
    obtain ⟨k0, k1, k2, _, _, _⟩ := b2.at3
    obtain ⟨l0, l1, l2, _, _, _⟩ := b3.at3
    replace b0 := Lib.hid b0; replace b1 := Lib.hid b1; replace b2 := Lib.hid b2; replace b3 := Lib.hid b3
    go_wp2_with fail
    go_ret
    exact ⟨rfl, z0.out⟩

theorem superGreater_walk (x y : Int × Int × Int) (_hx : In64 x.1 ∧ In64 x.2.1 ∧ In64 x.2.2) (_hy : In64 y.1 ∧ In64 y.2.1 ∧ In64 y.2.2) (w : World) :
    Calls Try.prog 26 #[.agg #[.int .i64 x.1, .int .i64 x.2.1, .int .i64 x.2.2], .agg #[.int .i64 y.1, .int .i64 y.2.1, .int .i64 y.2.2]] w fun e w' => e = .returned (.bool true) ∧ Ext w w' := by
  have hx := superLay_any x
  have hy := superLay_any y
  have he : ∀ z : Super.S3, Super.ok z = true → (str (Super.lay z)).toList.isEmpty = false := fun z hz => by
    rw [isEmpty_str]
    cases h : Super.lay z with
    | nil => exact absurd h (Super.lay_ne z hz)
    | cons _ _ => rfl
  cases ox : Super.ok x with
  | false =>
    exact superGreater_no w _ _ _ _ _ _ _ _ hx hy (.inl ⟨by rw [toList_str, Super.lay_no x ox], by rw [isEmpty_str, Super.lay_no x ox]; rfl⟩)
  | true =>
    cases oy : Super.ok y with
    | false =>
      exact superGreater_no w _ _ _ _ _ _ _ _ hx hy (.inr ⟨he x ox, by rw [toList_str, Super.lay_no y oy], by rw [isEmpty_str, Super.lay_no y oy]; rfl⟩)
    | true =>
      have h85 := superChoose_any (str (Super.lay x)) (str (Super.lay y))
      rw [list_str, list_str, Super.choose_lay x y ox oy] at h85
      have h85' := superChoose_any ⟨#[]⟩ (str (Super.lay y))
      rw [list_str, Super.choose_right _ y (congrArg Prod.snd (Super.opn_short _ (by decide))) oy] at h85'
      exact superGreater_yes w _ _ _ _ _ _ _ _ hx hy (he x ox) (he y oy) h85 h85'
end Go.Proofs.Ytehidhcpdiameaa

