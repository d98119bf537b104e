/- The walks of layer 12, on: which of two sectors counts. -/
import Derived.Test.YtehidhcpdiameaaSuperRef
namespace Go.Proofs.Ytehidhcpdiameaa
open Go.RowKit

/-- which of two sectors counts, as a value. -/
def choV (t : Super.S3 × Int × Bool) : Value := .tuple #[.agg #[.int .i64 t.1.1, .int .i64 t.1.2.1, .int .i64 t.1.2.2], .int .i64 t.2.1, .bool t.2.2]

set_option maxRecDepth 100000 in
set_option maxHeartbeats 4000000 in
theorem superChoose_of (a b : ByteArray) (x0 x1 x2 y0 y1 y2 : Int) (pa pb : Bool) (w : World)
    (ha : ∀ w, Calls Try.prog 83 #[.string a] w fun e w' => e = .returned (.tuple #[.agg #[.int .i64 x0, .int .i64 x1, .int .i64 x2], .bool pa]) ∧ Ext w w')
    (hb : ∀ w, Calls Try.prog 83 #[.string b] w fun e w' => e = .returned (.tuple #[.agg #[.int .i64 y0, .int .i64 y1, .int .i64 y2], .bool pb]) ∧ Ext w w') :
    Calls Try.prog 85 #[.string a, .string b] w fun e w' => e = .returned (choV (if pb && (!pa || decide (x0 < y0)) then ((y0, y1, y2), 1, true) else if pa then ((x0, x1, x2), 0, true) else ((0, 0, 0), 0, false))) ∧ Ext w w' := by
  have hbox := Box.new w [.int .i64 0, .int .i64 0, .int .i64 0] 94
  have z0 : Ext w (w.alloc (.cells #[.int .i64 0, .int .i64 0, .int .i64 0] 94)) := (Ext.refl w).alloc _
  replace ha := Lib.hid ha; replace hb := Lib.hid hb
  have hcase : (∃ (_ : pa = false), pb = false) ∨ (∃ (_ : pa = true), pb = false) ∨ (∃ (_ : pa = false), pb = true) ∨ (∃ (_ : pa = true) (_ : pb = true), decide (x0 < y0) = true) ∨ (∃ (_ : pa = true) (_ : pb = true), decide (x0 < y0) = false) := by
    cases pa <;> cases pb <;> simp
    by_cases h : x0 < y0
    · exact .inl h
    · exact .inr (by omega)
  rcases hcase with ⟨rfl, rfl⟩ | ⟨rfl, rfl⟩ | ⟨rfl, rfl⟩ | ⟨rfl, rfl, hd⟩ | ⟨rfl, rfl, hd⟩
  · go_enter Try.func85, Try.ntmps85
    go_wp2_with fail
    refine (ha.out _).mono ?_; rintro e w1 ⟨rfl, q1⟩
    have bx := (Box.new w1 [.int .i64 x0, .int .i64 x1, .int .i64 x2] 94)
    replace z0 := Lib.hid ((z0.trans q1).alloc (.cells #[.int .i64 x0, .int .i64 x1, .int .i64 x2] 94))
    replace hbox := Lib.hid ((hbox.ext q1).alloc (.cells #[.int .i64 x0, .int .i64 x1, .int .i64 x2] 94))
    replace bx := Lib.hid bx
    clear q1
    go_wp2_with fail
    refine (hb.out _).mono ?_; rintro e w2 ⟨rfl, q2⟩
    have bz := (hbox.out.ext q2).alloc (.cells #[.int .i64 y0, .int .i64 y1, .int .i64 y2] 94)
    have by_ := (Box.new w2 [.int .i64 y0, .int .i64 y1, .int .i64 y2] 94)
    replace bx := (bx.out.ext q2).alloc (.cells #[.int .i64 y0, .int .i64 y1, .int .i64 y2] 94)
    replace z0 := Lib.hid ((z0.out.trans q2).alloc (.cells #[.int .i64 y0, .int .i64 y1, .int .i64 y2] 94))
    obtain ⟨i1, i2, i3, i4, i5, i6⟩ := bx.at3
    obtain ⟨j1, j2, j3, j4, j5, j6⟩ := by_.at3
    obtain ⟨k1, k2, k3, k4, k5, k6⟩ := bz.at3
    have hz := ((bz.set 0 (.int .i64 0) (by simp)).set 1 (.int .i64 0) (by simp)).set 2 (.int .i64 0) (by simp)
    obtain ⟨m1, m2, m3, _, _, _⟩ := hz.at3
    replace m1 := Lib.hid m1; replace m2 := Lib.hid m2; replace m3 := Lib.hid m3
    clear q2 bx by_ bz hz hbox
    go_wp2_with fail
    refine bodyPost_ret (v := choV ((0, 0, 0), 0, false)) ?_ rfl ⟨rfl, ?_⟩
    · simp [results, Try.results85, go_sem, m1.out, m2.out, m3.out, choV]
    · exact ((z0.out.below.setCell (Nat.le_refl _) _).setCell (Nat.le_refl _) _).setCell (Nat.le_refl _) _
  · go_enter Try.func85, Try.ntmps85
    go_wp2_with fail
    refine (ha.out _).mono ?_; rintro e w1 ⟨rfl, q1⟩
    have bx := (Box.new w1 [.int .i64 x0, .int .i64 x1, .int .i64 x2] 94)
    replace z0 := Lib.hid ((z0.trans q1).alloc (.cells #[.int .i64 x0, .int .i64 x1, .int .i64 x2] 94))
    replace hbox := Lib.hid ((hbox.ext q1).alloc (.cells #[.int .i64 x0, .int .i64 x1, .int .i64 x2] 94))
    replace bx := Lib.hid bx
    clear q1
    go_wp2_with fail
    refine (hb.out _).mono ?_; rintro e w2 ⟨rfl, q2⟩
    have bz := (hbox.out.ext q2).alloc (.cells #[.int .i64 y0, .int .i64 y1, .int .i64 y2] 94)
    have by_ := (Box.new w2 [.int .i64 y0, .int .i64 y1, .int .i64 y2] 94)
    replace bx := (bx.out.ext q2).alloc (.cells #[.int .i64 y0, .int .i64 y1, .int .i64 y2] 94)
    replace z0 := Lib.hid ((z0.out.trans q2).alloc (.cells #[.int .i64 y0, .int .i64 y1, .int .i64 y2] 94))
    obtain ⟨i1, i2, i3, i4, i5, i6⟩ := bx.at3
    obtain ⟨j1, j2, j3, j4, j5, j6⟩ := by_.at3
    obtain ⟨k1, k2, k3, k4, k5, k6⟩ := bz.at3
    have hz := ((bz.set 0 (.int .i64 x0) (by simp)).set 1 (.int .i64 x1) (by simp)).set 2 (.int .i64 x2) (by simp)
    obtain ⟨m1, m2, m3, _, _, _⟩ := hz.at3
    replace m1 := Lib.hid m1; replace m2 := Lib.hid m2; replace m3 := Lib.hid m3
    clear q2 bx by_ bz hz hbox
    go_wp2_with fail
    refine bodyPost_ret (v := choV ((x0, x1, x2), 0, true)) ?_ rfl ⟨rfl, ?_⟩
    · simp [results, Try.results85, go_sem, m1.out, m2.out, m3.out, choV]
    · exact ((z0.out.below.setCell (Nat.le_refl _) _).setCell (Nat.le_refl _) _).setCell (Nat.le_refl _) _
  · go_enter Try.func85, Try.ntmps85
    go_wp2_with fail
    refine (ha.out _).mono ?_; rintro e w1 ⟨rfl, q1⟩
    have bx := (Box.new w1 [.int .i64 x0, .int .i64 x1, .int .i64 x2] 94)
    replace z0 := Lib.hid ((z0.trans q1).alloc (.cells #[.int .i64 x0, .int .i64 x1, .int .i64 x2] 94))
    replace hbox := Lib.hid ((hbox.ext q1).alloc (.cells #[.int .i64 x0, .int .i64 x1, .int .i64 x2] 94))
    replace bx := Lib.hid bx
    clear q1
    go_wp2_with fail
    refine (hb.out _).mono ?_; rintro e w2 ⟨rfl, q2⟩
    have bz := (hbox.out.ext q2).alloc (.cells #[.int .i64 y0, .int .i64 y1, .int .i64 y2] 94)
    have by_ := (Box.new w2 [.int .i64 y0, .int .i64 y1, .int .i64 y2] 94)
    replace bx := (bx.out.ext q2).alloc (.cells #[.int .i64 y0, .int .i64 y1, .int .i64 y2] 94)
    replace z0 := Lib.hid ((z0.out.trans q2).alloc (.cells #[.int .i64 y0, .int .i64 y1, .int .i64 y2] 94))
    obtain ⟨i1, i2, i3, i4, i5, i6⟩ := bx.at3
    obtain ⟨j1, j2, j3, j4, j5, j6⟩ := by_.at3
    obtain ⟨k1, k2, k3, k4, k5, k6⟩ := bz.at3
    have hz := ((bz.set 0 (.int .i64 y0) (by simp)).set 1 (.int .i64 y1) (by simp)).set 2 (.int .i64 y2) (by simp)
    obtain ⟨m1, m2, m3, _, _, _⟩ := hz.at3
    replace m1 := Lib.hid m1; replace m2 := Lib.hid m2; replace m3 := Lib.hid m3
    clear q2 bx by_ bz hz hbox
    go_wp2_with fail
    refine bodyPost_ret (v := choV ((y0, y1, y2), 1, true)) ?_ rfl ⟨rfl, ?_⟩
    · simp [results, Try.results85, go_sem, m1.out, m2.out, m3.out, choV]
    · exact ((z0.out.below.setCell (Nat.le_refl _) _).setCell (Nat.le_refl _) _).setCell (Nat.le_refl _) _
  · rw [hd]
    go_enter Try.func85, Try.ntmps85
    go_wp2_with fail
    refine (ha.out _).mono ?_; rintro e w1 ⟨rfl, q1⟩
    have bx := (Box.new w1 [.int .i64 x0, .int .i64 x1, .int .i64 x2] 94)
    replace z0 := Lib.hid ((z0.trans q1).alloc (.cells #[.int .i64 x0, .int .i64 x1, .int .i64 x2] 94))
    replace hbox := Lib.hid ((hbox.ext q1).alloc (.cells #[.int .i64 x0, .int .i64 x1, .int .i64 x2] 94))
    replace bx := Lib.hid bx
    clear q1
    go_wp2_with fail
    refine (hb.out _).mono ?_; rintro e w2 ⟨rfl, q2⟩
    have bz := (hbox.out.ext q2).alloc (.cells #[.int .i64 y0, .int .i64 y1, .int .i64 y2] 94)
    have by_ := (Box.new w2 [.int .i64 y0, .int .i64 y1, .int .i64 y2] 94)
    replace bx := (bx.out.ext q2).alloc (.cells #[.int .i64 y0, .int .i64 y1, .int .i64 y2] 94)
    replace z0 := Lib.hid ((z0.out.trans q2).alloc (.cells #[.int .i64 y0, .int .i64 y1, .int .i64 y2] 94))
    obtain ⟨i1, i2, i3, i4, i5, i6⟩ := bx.at3
    obtain ⟨j1, j2, j3, j4, j5, j6⟩ := by_.at3
    obtain ⟨k1, k2, k3, k4, k5, k6⟩ := bz.at3
    have hz := ((bz.set 0 (.int .i64 y0) (by simp)).set 1 (.int .i64 y1) (by simp)).set 2 (.int .i64 y2) (by simp)
    obtain ⟨m1, m2, m3, _, _, _⟩ := hz.at3
    replace m1 := Lib.hid m1; replace m2 := Lib.hid m2; replace m3 := Lib.hid m3
    clear q2 bx by_ bz hz hbox
    go_wp2_with fail
    refine bodyPost_ret (v := choV ((y0, y1, y2), 1, true)) ?_ rfl ⟨rfl, ?_⟩
    · simp [results, Try.results85, go_sem, m1.out, m2.out, m3.out, choV]
    · exact ((z0.out.below.setCell (Nat.le_refl _) _).setCell (Nat.le_refl _) _).setCell (Nat.le_refl _) _
  · rw [hd]
    go_enter Try.func85, Try.ntmps85
    go_wp2_with fail
    refine (ha.out _).mono ?_; rintro e w1 ⟨rfl, q1⟩
    have bx := (Box.new w1 [.int .i64 x0, .int .i64 x1, .int .i64 x2] 94)
    replace z0 := Lib.hid ((z0.trans q1).alloc (.cells #[.int .i64 x0, .int .i64 x1, .int .i64 x2] 94))
    replace hbox := Lib.hid ((hbox.ext q1).alloc (.cells #[.int .i64 x0, .int .i64 x1, .int .i64 x2] 94))
    replace bx := Lib.hid bx
    clear q1
    go_wp2_with fail
    refine (hb.out _).mono ?_; rintro e w2 ⟨rfl, q2⟩
    have bz := (hbox.out.ext q2).alloc (.cells #[.int .i64 y0, .int .i64 y1, .int .i64 y2] 94)
    have by_ := (Box.new w2 [.int .i64 y0, .int .i64 y1, .int .i64 y2] 94)
    replace bx := (bx.out.ext q2).alloc (.cells #[.int .i64 y0, .int .i64 y1, .int .i64 y2] 94)
    replace z0 := Lib.hid ((z0.out.trans q2).alloc (.cells #[.int .i64 y0, .int .i64 y1, .int .i64 y2] 94))
    obtain ⟨i1, i2, i3, i4, i5, i6⟩ := bx.at3
    obtain ⟨j1, j2, j3, j4, j5, j6⟩ := by_.at3
    obtain ⟨k1, k2, k3, k4, k5, k6⟩ := bz.at3
    have hz := ((bz.set 0 (.int .i64 x0) (by simp)).set 1 (.int .i64 x1) (by simp)).set 2 (.int .i64 x2) (by simp)
    obtain ⟨m1, m2, m3, _, _, _⟩ := hz.at3
    replace m1 := Lib.hid m1; replace m2 := Lib.hid m2; replace m3 := Lib.hid m3
    clear q2 bx by_ bz hz hbox
    go_wp2_with fail
    refine bodyPost_ret (v := choV ((x0, x1, x2), 0, true)) ?_ rfl ⟨rfl, ?_⟩
    · simp [results, Try.results85, go_sem, m1.out, m2.out, m3.out, choV]
    · exact ((z0.out.below.setCell (Nat.le_refl _) _).setCell (Nat.le_refl _) _).setCell (Nat.le_refl _) _

set_option maxRecDepth 100000 in
set_option maxHeartbeats 4000000 in
theorem refSuperChoose_of (a b : ByteArray) (x0 x1 x2 y0 y1 y2 : Int) (pa pb : Bool) (w : World)
    (ha : ∀ w, Calls Try.prog 84 #[.string a] w fun e w' => e = .returned (.tuple #[.agg #[.int .i64 x0, .int .i64 x1, .int .i64 x2], .bool pa]) ∧ Ext w w')
    (hb : ∀ w, Calls Try.prog 84 #[.string b] w fun e w' => e = .returned (.tuple #[.agg #[.int .i64 y0, .int .i64 y1, .int .i64 y2], .bool pb]) ∧ Ext w w') :
    Calls Try.prog 86 #[.string a, .string b] w fun e w' => e = .returned (choV (if pb && (!pa || decide (x0 < y0)) then ((y0, y1, y2), 1, true) else if pa then ((x0, x1, x2), 0, true) else ((0, 0, 0), 0, false))) ∧ Ext w w' := by
  have hbox := Box.new w [.int .i64 0, .int .i64 0, .int .i64 0] 94
  have z0 : Ext w (w.alloc (.cells #[.int .i64 0, .int .i64 0, .int .i64 0] 94)) := (Ext.refl w).alloc _
  replace ha := Lib.hid ha; replace hb := Lib.hid hb
  have hcase : (∃ (_ : pa = false), pb = false) ∨ (∃ (_ : pa = true), pb = false) ∨ (∃ (_ : pa = false), pb = true) ∨ (∃ (_ : pa = true) (_ : pb = true), decide (x0 < y0) = true) ∨ (∃ (_ : pa = true) (_ : pb = true), decide (x0 < y0) = false) := by
    cases pa <;> cases pb <;> simp
    by_cases h : x0 < y0
    · exact .inl h
    · exact .inr (by omega)
  rcases hcase with ⟨rfl, rfl⟩ | ⟨rfl, rfl⟩ | ⟨rfl, rfl⟩ | ⟨rfl, rfl, hd⟩ | ⟨rfl, rfl, hd⟩
  · go_enter Try.func86, Try.ntmps86
    go_wp2_with fail
    refine (ha.out _).mono ?_; rintro e w1 ⟨rfl, q1⟩
    have bx := (Box.new w1 [.int .i64 x0, .int .i64 x1, .int .i64 x2] 94)
    replace z0 := Lib.hid ((z0.trans q1).alloc (.cells #[.int .i64 x0, .int .i64 x1, .int .i64 x2] 94))
    replace hbox := Lib.hid ((hbox.ext q1).alloc (.cells #[.int .i64 x0, .int .i64 x1, .int .i64 x2] 94))
    replace bx := Lib.hid bx
    clear q1
    go_wp2_with fail
    refine (hb.out _).mono ?_; rintro e w2 ⟨rfl, q2⟩
    have bz := (hbox.out.ext q2).alloc (.cells #[.int .i64 y0, .int .i64 y1, .int .i64 y2] 94)
    have by_ := (Box.new w2 [.int .i64 y0, .int .i64 y1, .int .i64 y2] 94)
    replace bx := (bx.out.ext q2).alloc (.cells #[.int .i64 y0, .int .i64 y1, .int .i64 y2] 94)
    replace z0 := Lib.hid ((z0.out.trans q2).alloc (.cells #[.int .i64 y0, .int .i64 y1, .int .i64 y2] 94))
    obtain ⟨i1, i2, i3, i4, i5, i6⟩ := bx.at3
    obtain ⟨j1, j2, j3, j4, j5, j6⟩ := by_.at3
    obtain ⟨k1, k2, k3, k4, k5, k6⟩ := bz.at3
    have hz := ((bz.set 0 (.int .i64 0) (by simp)).set 1 (.int .i64 0) (by simp)).set 2 (.int .i64 0) (by simp)
    obtain ⟨m1, m2, m3, _, _, _⟩ := hz.at3
    replace m1 := Lib.hid m1; replace m2 := Lib.hid m2; replace m3 := Lib.hid m3
    clear q2 bx by_ bz hz hbox
    go_wp2_with fail
    refine bodyPost_ret (v := choV ((0, 0, 0), 0, false)) ?_ rfl ⟨rfl, ?_⟩
    · simp [results, Try.results86, go_sem, m1.out, m2.out, m3.out, choV]
    · exact ((z0.out.below.setCell (Nat.le_refl _) _).setCell (Nat.le_refl _) _).setCell (Nat.le_refl _) _
  · go_enter Try.func86, Try.ntmps86
    go_wp2_with fail
    refine (ha.out _).mono ?_; rintro e w1 ⟨rfl, q1⟩
    have bx := (Box.new w1 [.int .i64 x0, .int .i64 x1, .int .i64 x2] 94)
    replace z0 := Lib.hid ((z0.trans q1).alloc (.cells #[.int .i64 x0, .int .i64 x1, .int .i64 x2] 94))
    replace hbox := Lib.hid ((hbox.ext q1).alloc (.cells #[.int .i64 x0, .int .i64 x1, .int .i64 x2] 94))
    replace bx := Lib.hid bx
    clear q1
    go_wp2_with fail
    refine (hb.out _).mono ?_; rintro e w2 ⟨rfl, q2⟩
    have bz := (hbox.out.ext q2).alloc (.cells #[.int .i64 y0, .int .i64 y1, .int .i64 y2] 94)
    have by_ := (Box.new w2 [.int .i64 y0, .int .i64 y1, .int .i64 y2] 94)
    replace bx := (bx.out.ext q2).alloc (.cells #[.int .i64 y0, .int .i64 y1, .int .i64 y2] 94)
    replace z0 := Lib.hid ((z0.out.trans q2).alloc (.cells #[.int .i64 y0, .int .i64 y1, .int .i64 y2] 94))
    obtain ⟨i1, i2, i3, i4, i5, i6⟩ := bx.at3
    obtain ⟨j1, j2, j3, j4, j5, j6⟩ := by_.at3
    obtain ⟨k1, k2, k3, k4, k5, k6⟩ := bz.at3
    have hz := ((bz.set 0 (.int .i64 x0) (by simp)).set 1 (.int .i64 x1) (by simp)).set 2 (.int .i64 x2) (by simp)
    obtain ⟨m1, m2, m3, _, _, _⟩ := hz.at3
    replace m1 := Lib.hid m1; replace m2 := Lib.hid m2; replace m3 := Lib.hid m3
    clear q2 bx by_ bz hz hbox
    go_wp2_with fail
    refine bodyPost_ret (v := choV ((x0, x1, x2), 0, true)) ?_ rfl ⟨rfl, ?_⟩
    · simp [results, Try.results86, go_sem, m1.out, m2.out, m3.out, choV]
    · exact ((z0.out.below.setCell (Nat.le_refl _) _).setCell (Nat.le_refl _) _).setCell (Nat.le_refl _) _
  · go_enter Try.func86, Try.ntmps86
    go_wp2_with fail
    refine (ha.out _).mono ?_; rintro e w1 ⟨rfl, q1⟩
    have bx := (Box.new w1 [.int .i64 x0, .int .i64 x1, .int .i64 x2] 94)
    replace z0 := Lib.hid ((z0.trans q1).alloc (.cells #[.int .i64 x0, .int .i64 x1, .int .i64 x2] 94))
    replace hbox := Lib.hid ((hbox.ext q1).alloc (.cells #[.int .i64 x0, .int .i64 x1, .int .i64 x2] 94))
    replace bx := Lib.hid bx
    clear q1
    go_wp2_with fail
    refine (hb.out _).mono ?_; rintro e w2 ⟨rfl, q2⟩
    have bz := (hbox.out.ext q2).alloc (.cells #[.int .i64 y0, .int .i64 y1, .int .i64 y2] 94)
    have by_ := (Box.new w2 [.int .i64 y0, .int .i64 y1, .int .i64 y2] 94)
    replace bx := (bx.out.ext q2).alloc (.cells #[.int .i64 y0, .int .i64 y1, .int .i64 y2] 94)
    replace z0 := Lib.hid ((z0.out.trans q2).alloc (.cells #[.int .i64 y0, .int .i64 y1, .int .i64 y2] 94))
    obtain ⟨i1, i2, i3, i4, i5, i6⟩ := bx.at3
    obtain ⟨j1, j2, j3, j4, j5, j6⟩ := by_.at3
    obtain ⟨k1, k2, k3, k4, k5, k6⟩ := bz.at3
    have hz := ((bz.set 0 (.int .i64 y0) (by simp)).set 1 (.int .i64 y1) (by simp)).set 2 (.int .i64 y2) (by simp)
    obtain ⟨m1, m2, m3, _, _, _⟩ := hz.at3
    replace m1 := Lib.hid m1; replace m2 := Lib.hid m2; replace m3 := Lib.hid m3
    clear q2 bx by_ bz hz hbox
    go_wp2_with fail
    refine bodyPost_ret (v := choV ((y0, y1, y2), 1, true)) ?_ rfl ⟨rfl, ?_⟩
    · simp [results, Try.results86, go_sem, m1.out, m2.out, m3.out, choV]
    · exact ((z0.out.below.setCell (Nat.le_refl _) _).setCell (Nat.le_refl _) _).setCell (Nat.le_refl _) _
  · rw [hd]
    go_enter Try.func86, Try.ntmps86
    go_wp2_with fail
    refine (ha.out _).mono ?_; rintro e w1 ⟨rfl, q1⟩
    have bx := (Box.new w1 [.int .i64 x0, .int .i64 x1, .int .i64 x2] 94)
    replace z0 := Lib.hid ((z0.trans q1).alloc (.cells #[.int .i64 x0, .int .i64 x1, .int .i64 x2] 94))
    replace hbox := Lib.hid ((hbox.ext q1).alloc (.cells #[.int .i64 x0, .int .i64 x1, .int .i64 x2] 94))
    replace bx := Lib.hid bx
    clear q1
    go_wp2_with fail
    refine (hb.out _).mono ?_; rintro e w2 ⟨rfl, q2⟩
    have bz := (hbox.out.ext q2).alloc (.cells #[.int .i64 y0, .int .i64 y1, .int .i64 y2] 94)
    have by_ := (Box.new w2 [.int .i64 y0, .int .i64 y1, .int .i64 y2] 94)
    replace bx := (bx.out.ext q2).alloc (.cells #[.int .i64 y0, .int .i64 y1, .int .i64 y2] 94)
    replace z0 := Lib.hid ((z0.out.trans q2).alloc (.cells #[.int .i64 y0, .int .i64 y1, .int .i64 y2] 94))
    obtain ⟨i1, i2, i3, i4, i5, i6⟩ := bx.at3
    obtain ⟨j1, j2, j3, j4, j5, j6⟩ := by_.at3
    obtain ⟨k1, k2, k3, k4, k5, k6⟩ := bz.at3
    have hz := ((bz.set 0 (.int .i64 y0) (by simp)).set 1 (.int .i64 y1) (by simp)).set 2 (.int .i64 y2) (by simp)
    obtain ⟨m1, m2, m3, _, _, _⟩ := hz.at3
    replace m1 := Lib.hid m1; replace m2 := Lib.hid m2; replace m3 := Lib.hid m3
    clear q2 bx by_ bz hz hbox
    go_wp2_with fail
    refine bodyPost_ret (v := choV ((y0, y1, y2), 1, true)) ?_ rfl ⟨rfl, ?_⟩
    · simp [results, Try.results86, go_sem, m1.out, m2.out, m3.out, choV]
    · exact ((z0.out.below.setCell (Nat.le_refl _) _).setCell (Nat.le_refl _) _).setCell (Nat.le_refl _) _
  · rw [hd]
    go_enter Try.func86, Try.ntmps86
    go_wp2_with fail
    refine (ha.out _).mono ?_; rintro e w1 ⟨rfl, q1⟩
    have bx := (Box.new w1 [.int .i64 x0, .int .i64 x1, .int .i64 x2] 94)
    replace z0 := Lib.hid ((z0.trans q1).alloc (.cells #[.int .i64 x0, .int .i64 x1, .int .i64 x2] 94))
    replace hbox := Lib.hid ((hbox.ext q1).alloc (.cells #[.int .i64 x0, .int .i64 x1, .int .i64 x2] 94))
    replace bx := Lib.hid bx
    clear q1
    go_wp2_with fail
    refine (hb.out _).mono ?_; rintro e w2 ⟨rfl, q2⟩
    have bz := (hbox.out.ext q2).alloc (.cells #[.int .i64 y0, .int .i64 y1, .int .i64 y2] 94)
    have by_ := (Box.new w2 [.int .i64 y0, .int .i64 y1, .int .i64 y2] 94)
    replace bx := (bx.out.ext q2).alloc (.cells #[.int .i64 y0, .int .i64 y1, .int .i64 y2] 94)
    replace z0 := Lib.hid ((z0.out.trans q2).alloc (.cells #[.int .i64 y0, .int .i64 y1, .int .i64 y2] 94))
    obtain ⟨i1, i2, i3, i4, i5, i6⟩ := bx.at3
    obtain ⟨j1, j2, j3, j4, j5, j6⟩ := by_.at3
    obtain ⟨k1, k2, k3, k4, k5, k6⟩ := bz.at3
    have hz := ((bz.set 0 (.int .i64 x0) (by simp)).set 1 (.int .i64 x1) (by simp)).set 2 (.int .i64 x2) (by simp)
    obtain ⟨m1, m2, m3, _, _, _⟩ := hz.at3
    replace m1 := Lib.hid m1; replace m2 := Lib.hid m2; replace m3 := Lib.hid m3
    clear q2 bx by_ bz hz hbox
    go_wp2_with fail
    refine bodyPost_ret (v := choV ((x0, x1, x2), 0, true)) ?_ rfl ⟨rfl, ?_⟩
    · simp [results, Try.results86, go_sem, m1.out, m2.out, m3.out, choV]
    · exact ((z0.out.below.setCell (Nat.le_refl _) _).setCell (Nat.le_refl _) _).setCell (Nat.le_refl _) _

theorem superChoose_any (a b : ByteArray) (w : World) : Calls Try.prog 85 #[.string a, .string b] w fun e w' => e = .returned (choV (Super.choose a.data.toList b.data.toList)) ∧ Ext w w' :=
  superChoose_of a b _ _ _ _ _ _ _ _ w (superOpen_any a) (superOpen_any b)
theorem refSuperChoose_any (a b : ByteArray) (ha : a.size ≤ 1000000) (hb : b.size ≤ 1000000) (w : World) : Calls Try.prog 86 #[.string a, .string b] w fun e w' => e = .returned (choV (Super.choose a.data.toList b.data.toList)) ∧ Ext w w' :=
  refSuperChoose_of a b _ _ _ _ _ _ _ _ w (refSuperOpen_any a ha) (refSuperOpen_any b hb)
end Go.Proofs.Ytehidhcpdiameaa
