/- The statement SuperTells: the law's own walk. -/
import Derived.Test.YtehidhcpdiameaaSuperFixed
import Derived.Test.YtehidhcpdiameaaOpen4
namespace Go.Proofs.Ytehidhcpdiameaa
open Go.RowKit

theorem superTells_long (w : World) (g z t : Int) (a b : ByteArray) (h : 200 < (a.size : Int) ∨ 200 < (b.size : Int)) :
    Calls Try.prog 23 #[.agg #[.int .i64 g, .int .i64 z, .int .i64 t], .string a, .string b] w fun e w' => e = .returned (.bool true) ∧ Ext w w' := by
  by_cases h1 : 200 < (a.size : Int)
  · clear h
    go_enter Try.func23, Try.ntmps23
    go_wp2_with fail
    refine (fixed12 _).mono ?_; rintro e w1 ⟨rfl, x1⟩
    go_wp2_with fail
    go_ret
    exact ⟨rfl, ((Ext.refl _).alloc _).trans x1⟩
  · have h2 : 200 < (b.size : Int) := by omega
    have hd1 : decide ((200 : Int) < a.size) = false := decide_eq_false h1
    clear h
    go_enter Try.func23, Try.ntmps23
    go_wp2_with fail
    refine (fixed12 _).mono ?_; rintro e w1 ⟨rfl, x1⟩
    go_wp2_with fail
    go_ret
    exact ⟨rfl, ((Ext.refl _).alloc _).trans x1⟩

set_option maxRecDepth 100000 in
set_option maxHeartbeats 8000000 in
theorem superTells_short (w : World) (g z t : Int) (a b : ByteArray) (ha : a.size ≤ 200) (hb : b.size ≤ 200) :
    Calls Try.prog 23 #[.agg #[.int .i64 g, .int .i64 z, .int .i64 t], .string a, .string b] w fun e w' => e = .returned (.bool true) ∧ Ext w w' := by
  have h83 := superOpen_any a
  have h84 := refSuperOpen_any a (by omega)
  have h85 := superChoose_any a b
  have h86 := refSuperChoose_any a b (by omega) (by omega)
  have h87 := superLay_any (g, z, t)
  have h88 := refSuperLay_any (g, z, t)
  have hd1 : decide ((200 : Int) < a.size) = false := decide_eq_false (by omega)
  have hd2 : decide ((200 : Int) < b.size) = false := decide_eq_false (by omega)
  unfold supV at h83 h84
  unfold choV at h85 h86
  generalize Super.opn a.data.toList = o at *
  generalize Super.choose a.data.toList b.data.toList = c at *
  obtain ⟨⟨o0, o1, o2⟩, ob⟩ := o
  obtain ⟨⟨c0, c1, c2⟩, cn, cb⟩ := c
  dsimp only at h83 h84 h85 h86 h87 h88
  have e1 : ((str (Super.lay (g, z, t))).toList == (str (Super.lay (g, z, t))).toList) = true := beq_self_eq_true _
  have e2 : (ob == ob) = true := beq_self_eq_true _
  have e3 : (cb == cb) = true := beq_self_eq_true _
  have e4 : (cn == cn) = true := beq_self_eq_true _
  generalize str (Super.lay (g, z, t)) = S at *
  replace h83 := Lib.hid h83; replace h84 := Lib.hid h84; replace h85 := Lib.hid h85; replace h86 := Lib.hid h86; replace h87 := Lib.hid h87; replace h88 := Lib.hid h88
  have b0 := Box.new w [.int .i64 g, .int .i64 z, .int .i64 t] 94
  have y0 : Ext w (w.alloc (.cells #[.int .i64 g, .int .i64 z, .int .i64 t] 94)) := (Ext.refl w).alloc _
  go_enter Try.func23, Try.ntmps23
  go_wp2_with fail
  refine (h83.out _).mono ?_; rintro e w1 ⟨rfl, x1⟩
  replace b0 := Lib.hid ((b0.ext x1).alloc (.cells #[.int .i64 o0, .int .i64 o1, .int .i64 o2] 94))
  have b1 := Lib.hid (Box.new w1 [.int .i64 o0, .int .i64 o1, .int .i64 o2] 94)
  replace y0 := Lib.hid ((y0.trans x1).alloc (.cells #[.int .i64 o0, .int .i64 o1, .int .i64 o2] 94))
  clear x1
  go_wp2_with fail
  refine (h84.out _).mono ?_; rintro e w2 ⟨rfl, x2⟩
  replace b0 := Lib.hid ((b0.out.ext x2).alloc (.cells #[.int .i64 o0, .int .i64 o1, .int .i64 o2] 94))
  replace b1 := Lib.hid ((b1.out.ext x2).alloc (.cells #[.int .i64 o0, .int .i64 o1, .int .i64 o2] 94))
  have b2 := Lib.hid (Box.new w2 [.int .i64 o0, .int .i64 o1, .int .i64 o2] 94)
  replace y0 := Lib.hid ((y0.out.trans x2).alloc (.cells #[.int .i64 o0, .int .i64 o1, .int .i64 o2] 94))
  clear x2
  go_wp2_with fail
  refine (h85.out _).mono ?_; rintro e w3 ⟨rfl, x3⟩
  replace b0 := Lib.hid ((b0.out.ext x3).alloc (.cells #[.int .i64 c0, .int .i64 c1, .int .i64 c2] 94))
  replace b1 := Lib.hid ((b1.out.ext x3).alloc (.cells #[.int .i64 c0, .int .i64 c1, .int .i64 c2] 94))
  replace b2 := Lib.hid ((b2.out.ext x3).alloc (.cells #[.int .i64 c0, .int .i64 c1, .int .i64 c2] 94))
  have b3 := Lib.hid (Box.new w3 [.int .i64 c0, .int .i64 c1, .int .i64 c2] 94)
  replace y0 := Lib.hid ((y0.out.trans x3).alloc (.cells #[.int .i64 c0, .int .i64 c1, .int .i64 c2] 94))
  clear x3
  go_wp2_with fail
  refine (h86.out _).mono ?_; rintro e w4 ⟨rfl, x4⟩
  replace b0 := Lib.hid ((b0.out.ext x4).alloc (.cells #[.int .i64 c0, .int .i64 c1, .int .i64 c2] 94))
  replace b1 := Lib.hid ((b1.out.ext x4).alloc (.cells #[.int .i64 c0, .int .i64 c1, .int .i64 c2] 94))
  replace b2 := Lib.hid ((b2.out.ext x4).alloc (.cells #[.int .i64 c0, .int .i64 c1, .int .i64 c2] 94))
  replace b3 := Lib.hid ((b3.out.ext x4).alloc (.cells #[.int .i64 c0, .int .i64 c1, .int .i64 c2] 94))
  have b4 := Lib.hid (Box.new w4 [.int .i64 c0, .int .i64 c1, .int .i64 c2] 94)
  replace y0 := Lib.hid ((y0.out.trans x4).alloc (.cells #[.int .i64 c0, .int .i64 c1, .int .i64 c2] 94))
  clear x4
  go_wp2_with fail
  refine Soft.region_ext [] [0, 1, 2, 3, 4, 5, 6, 7, 8, 9, 10, 11, 12, 13, 14, 15, 16, 17, 18, 19, 20, 21, 22, 23, 24, 25, 26, 27, 28, 29, 30, 31, 32, 33] [] (by kernel_rfl) (by kernel_rfl) Soft.stab_none ?_
  repeat (first | (refine Soft.pure_n rfl rfl rfl rfl (fun K hK => ?_); go_simp; refine hK _ ?_; clear hK K) | (refine Soft.pure_g rfl rfl rfl rfl rfl (fun K hK => ?_); go_simp; refine hK _ ?_; clear hK K) | (refine Soft.shut rfl rfl rfl rfl (fun K hK => ?_); go_simp; refine hK _ ?_; clear hK K) | (refine Soft.shut0 rfl rfl rfl rfl (fun K hK => ?_); go_simp; refine hK _ ?_; clear hK K) | (refine Soft.quiet_n rfl rfl rfl rfl (fun K hK => ?_); go_simp; apply Exists.intro; refine ⟨fun wq hq => ?_, hK _ ?_⟩; (first | (with_reducible exact fixed12 _) | (with_reducible exact h87.out _) | (with_reducible exact h88.out _) | (go_simp; with_reducible rfl) | (obtain ⟨gg1, gg2, gg3, _⟩ := (b0.out.ext hq).at3; go_simp; with_reducible rfl) | (obtain ⟨gg1, gg2, gg3, _⟩ := (b1.out.ext hq).at3; go_simp; with_reducible rfl) | (obtain ⟨gg1, gg2, gg3, _⟩ := (b2.out.ext hq).at3; go_simp; with_reducible rfl) | (obtain ⟨gg1, gg2, gg3, _⟩ := (b3.out.ext hq).at3; go_simp; with_reducible rfl) | (obtain ⟨gg1, gg2, gg3, _⟩ := (b4.out.ext hq).at3; go_simp; with_reducible rfl)); clear hK K) | (refine Soft.quiet_g rfl rfl rfl rfl rfl (fun K hK => ?_); go_simp; apply Exists.intro; refine ⟨fun wq hq => ?_, hK _ ?_⟩; (first | (with_reducible exact fixed12 _) | (with_reducible exact h87.out _) | (with_reducible exact h88.out _) | (go_simp; with_reducible rfl) | (obtain ⟨gg1, gg2, gg3, _⟩ := (b0.out.ext hq).at3; go_simp; with_reducible rfl) | (obtain ⟨gg1, gg2, gg3, _⟩ := (b1.out.ext hq).at3; go_simp; with_reducible rfl) | (obtain ⟨gg1, gg2, gg3, _⟩ := (b2.out.ext hq).at3; go_simp; with_reducible rfl) | (obtain ⟨gg1, gg2, gg3, _⟩ := (b3.out.ext hq).at3; go_simp; with_reducible rfl) | (obtain ⟨gg1, gg2, gg3, _⟩ := (b4.out.ext hq).at3; go_simp; with_reducible rfl)); clear hK K))
  refine Soft.ends (by kernel_rfl) (fun w5 x5 _ => ?_)
  go_wp2_with fail
  go_ret
  exact ⟨rfl, y0.out.trans x5⟩

theorem superTells_walk (x : Int × Int × Int) (a b : ByteArray) (_hx : In64 x.1 ∧ In64 x.2.1 ∧ In64 x.2.2) (_ha : a.size ≤ maxLen) (_za : a.size ≤ 140737488351232) (_hb : b.size ≤ maxLen) (_zb : b.size ≤ 140737488351232) (w : World) :
    Calls Try.prog 23 #[.agg #[.int .i64 x.1, .int .i64 x.2.1, .int .i64 x.2.2], .string a, .string b] w fun e w' => e = .returned (.bool true) ∧ Ext w w' := by
  by_cases h : 200 < (a.size : Int) ∨ 200 < (b.size : Int)
  · exact superTells_long w _ _ _ a b h
  · exact superTells_short w _ _ _ a b (by omega) (by omega)
end Go.Proofs.Ytehidhcpdiameaa

