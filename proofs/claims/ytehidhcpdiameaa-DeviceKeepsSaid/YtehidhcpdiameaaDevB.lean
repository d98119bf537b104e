import Derived.Test.YtehidhcpdiameaaDevA

/- The walks of layer 9, on: a disk that dies, and is revived. -/
namespace Go.Proofs.Ytehidhcpdiameaa
open Go.RowKit

theorem Sl.form {w : World} {v : Value} {vs : List Value} (h : Sl w v vs) : ∃ a n c, v = .slice a n c := by
  obtain ⟨a, c, h1, _⟩ := h; exact ⟨_, _, _, h1⟩
theorem SlP.form {w : World} {v : Value} {ps : List Dev.Put} (h : SlP w v ps) : ∃ a n c, v = .slice a n c := by
  obtain ⟨a, c, h1, _⟩ := h; exact ⟨_, _, _, h1⟩
/-- a disk's value, in slices. -/
theorem DiskIn.form {w : World} {v : Value} {d : Dev.Disk} (h : DiskIn w v d) : ∃ ka kn kc ca cn cc pa pn pc, v = diskV (.slice ka kn kc) (.slice ca cn cc) d.fuse (.slice pa pn pc) d.dead := by
  obtain ⟨k, c, p, rfl, h1, h2, h3, _, _⟩ := h
  obtain ⟨ka, kn, kc, rfl⟩ := h1.form
  obtain ⟨ca, cn, cc, rfl⟩ := h2.form
  obtain ⟨pa, pn, pc, rfl⟩ := h3.form
  exact ⟨_, _, _, _, _, _, _, _, _, rfl⟩
def noV : Value := diskV (.slice none 0 0) (.slice none 0 0) 0 (.slice none 0 0) false
theorem diskIn_no (w : World) : DiskIn w noV Dev.no := ⟨_, _, _, rfl, Sl.nil _, SlP.nil _, Sl.nil _, .inl rfl, .inl rfl⟩
/-- what may be is bounded. -/
theorem may_small {d : Dev.Disk} (h : Dev.may d = true) : d.kept.length ≤ 1000000 ∧ d.cache.length ≤ 1000000 ∧ (∀ q ∈ d.cache, 0 ≤ q.1 ∧ q.1 < d.kept.length) := by
  obtain ⟨⟨_, h2, h3, _⟩, _, h6⟩ := (Dev.may_iff d).1 h
  exact ⟨by omega, by omega, fun q hq => (h6 q hq).1⟩
abbrev zeroL : List Value := diskL (.slice none 0 0) (.slice none 0 0) 0 (.slice none 0 0) false

set_option maxRecDepth 100000 in
set_option maxHeartbeats 4000000 in
theorem die9_any (d : Dev.Disk) (v kp : Value) (keep : List Bool) (w : World) (h : DiskIn w v d) (hk : Sl w kp (keep.map boolV)) (h3 : d.keep.length ≤ 1000000) :
    Calls Try.prog 78 #[v, kp] w fun e w' => ∃ r, e = .returned r ∧ DiskIn w' r (Dev.die d keep) ∧ Ext w w' := by
  have hm := fun w h => may_any d v w h
  have hcp := fun w h h1 h2 => copy_any d v w h h1 h2 h3
  have hform := h.form
  obtain ⟨ka, kn, kc, ca, cn, cc, pa, pn, pc, rfl⟩ := hform
  obtain ⟨la, ln, lc, rfl⟩ := hk.form
  have b0 := (Box.new w (diskL (.slice ka kn kc) (.slice ca cn cc) d.fuse (.slice pa pn pc) d.dead) 69).alloc (.cells #[.slice none 0 0, .slice none 0 0, .int .i64 0, .slice none 0 0, .bool false] 69)
  have r0 := Box.new (w.alloc (.cells #[.slice ka kn kc, .slice ca cn cc, .int .i64 d.fuse, .slice pa pn pc, .bool d.dead] 69)) zeroL 69
  rw [show (w.alloc (.cells #[.slice ka kn kc, .slice ca cn cc, .int .i64 d.fuse, .slice pa pn pc, .bool d.dead] 69)).heap.size = w.heap.size + 1 from by simp] at r0
  have y0 : Ext w ((w.alloc (.cells #[.slice ka kn kc, .slice ca cn cc, .int .i64 d.fuse, .slice pa pn pc, .bool d.dead] 69)).alloc (.cells #[.slice none 0 0, .slice none 0 0, .int .i64 0, .slice none 0 0, .bool false] 69)) := ((Ext.refl w).alloc _).alloc _
  have hz : ((w.alloc (.cells #[.slice ka kn kc, .slice ca cn cc, .int .i64 d.fuse, .slice pa pn pc, .bool d.dead] 69)).alloc (.cells #[.slice none 0 0, .slice none 0 0, .int .i64 0, .slice none 0 0, .bool false] 69)).heap.size = w.heap.size + 2 := by simp
  generalize hw0 : (w.alloc (.cells #[.slice ka kn kc, .slice ca cn cc, .int .i64 d.fuse, .slice pa pn pc, .bool d.dead] 69)).alloc (.cells #[.slice none 0 0, .slice none 0 0, .int .i64 0, .slice none 0 0, .bool false] 69) = w0 at *
  unfold diskV at hm hcp h ⊢
  obtain ⟨⟨i0, i1, i2, i3, i4⟩, f0, f1, f2, f3, f4⟩ := b0.at5
  replace hm := Lib.hid hm; replace hcp := Lib.hid hcp; replace h := Lib.hid h; replace hk := Lib.hid hk; replace b0 := Lib.hid b0; replace r0 := Lib.hid r0; replace hz := Lib.hid hz
  cases hmay : Dev.may d with
  | false =>
    rw [show Dev.die d keep = Dev.no from by unfold Dev.die; rw [if_pos hmay]]
    replace hm := hm.out
    rw [hmay] at hm
    replace hm := Lib.hid hm
    clear hmay
    go_enter Try.func78, Try.ntmps78
    go_wp2_with fail
    refine (hm.out _ (h.out.ext y0)).mono ?_; rintro e w1 ⟨rfl, x1⟩
    clear i0 i1 i2 i3 i4 f0 f1 f2 f3 f4 hw0
    have r1 := r0.out.ext x1
    obtain ⟨⟨j0, j1, j2, j3, j4⟩, g0, g1, g2, g3, g4⟩ := r1.at5
    have r2 := ((((r1.set 0 (.slice none 0 0) (by simp)).set 1 (.slice none 0 0) (by simp)).set 2 (.int .i64 0) (by simp)).set 3 (.slice none 0 0) (by simp)).set 4 (.bool false) (by simp)
    obtain ⟨⟨m0, m1, m2, m3, m4⟩, _⟩ := r2.at5
    replace m0 := Lib.hid m0; replace m1 := Lib.hid m1; replace m2 := Lib.hid m2; replace m3 := Lib.hid m3; replace m4 := Lib.hid m4
    have y1 := y0.trans x1
    clear r1 r2 x1 y0
    go_wp2_with fail
    refine bodyPost_ret (v := noV) ?_ rfl ⟨noV, rfl, diskIn_no _, ?_⟩
    · simp [results, Try.results78, go_sem, m0.out, m1.out, m2.out, m3.out, m4.out, noV, diskV]
    · exact ((((y1.below.setCell (by simp) _).setCell (by simp) _).setCell (by simp) _).setCell (by simp) _).setCell (by simp) _
  | true =>
    rw [show Dev.die d keep = Dev.dieOf d keep from by unfold Dev.die; rw [if_neg (by rw [hmay]; decide)]]
    obtain ⟨q1, q2, q3⟩ := may_small hmay
    replace hm := hm.out
    rw [hmay] at hm
    replace hm := Lib.hid hm; replace q3 := Lib.hid q3
    clear hmay
    go_enter Try.func78, Try.ntmps78
    go_wp2_with fail
    refine (hm.out _ (h.out.ext y0)).mono ?_; rintro e w1 ⟨rfl, x1⟩
    clear i0 i1 i2 i3 i4 f0 f1 f2 f3 f4 hw0
    replace r0 := Lib.hid (r0.out.ext x1)
    obtain ⟨⟨i0, i1, i2, i3, i4⟩, f0, f1, f2, f3, f4⟩ := (b0.out.ext x1).at5
    have y1 := y0.trans x1
    have hl1 := x1.size
    clear x1 y0
    go_wp2_with fail
    refine (hcp.out _ (h.out.ext y1) q1 q2).mono ?_; rintro e w2 ⟨k', c', p', B1, rfl, D, x2⟩
    clear i0 i1 i2 i3 i4 f0 f1 f2 f3 f4
    have hfar : FarSl w1.heap.size B1 w2 (.slice la ln lc) (keep.map boolV) := farSl_below (hk.out.ext y1) (Nat.le_refl _) x2
    have hd := die_any d k' c' p' (.slice la ln lc) keep w1.heap.size B1 w2 w1 D (Nat.le_refl _) D.top x2 hfar q3.out q1 q2
    obtain ⟨ka', kb', e1⟩ := owned_slice D.kept
    subst e1
    obtain ⟨ca', cb', e2⟩ := owned_slice D.cache
    subst e2
    obtain ⟨pa', pb', e3⟩ := owned_slice D.keep
    subst e3
    unfold diskV at hd
    replace hd := Lib.hid hd; replace hfar := Lib.hid hfar; replace D := Lib.hid D
    go_wp2_with fail
    refine hd.out.mono ?_; rintro e w3 ⟨rfl, hown, x3⟩
    have r1 := r0.out.ext x3
    obtain ⟨⟨j0, j1, j2, j3, j4⟩, g0, g1, g2, g3, g4⟩ := r1.at5
    have r2 := ((((r1.set 0 (.slice ka' d.kept.length kb') (by simp)).set 1 (.slice none 0 0) (by simp)).set 2 (.int .i64 (-1)) (by simp)).set 3 (.slice none 0 0) (by simp)).set 4 (.bool true) (by simp)
    obtain ⟨⟨m0, m1, m2, m3, m4⟩, _⟩ := r2.at5
    replace m0 := Lib.hid m0; replace m1 := Lib.hid m1; replace m2 := Lib.hid m2; replace m3 := Lib.hid m3; replace m4 := Lib.hid m4
    have y3 := y1.trans x3
    have hlt : w.heap.size + 1 < w1.heap.size := by rw [hz.out] at hl1; omega
    replace hown := Lib.hid hown
    clear r1 r2 x3 y1 x2
    go_wp2_with fail
    refine bodyPost_ret (v := diskV (.slice ka' d.kept.length kb') (.slice none 0 0) (-1) (.slice none 0 0) true) ?_ rfl ⟨_, rfl, ?_, ?_⟩
    · simp [results, Try.results78, go_sem, m0.out, m1.out, m2.out, m3.out, m4.out, diskV]
    · have ho := ownsRow_under (ownsRow_under (ownsRow_under (ownsRow_under (ownsRow_under hown.out _ 0 (.slice ka' d.kept.length kb') hlt) _ 1 (.slice none 0 0) hlt) _ 2 (.int .i64 (-1)) hlt) _ 3 (.slice none 0 0) hlt) _ 4 (.bool true) hlt
      exact ⟨_, _, _, rfl, Sl.owned ho, SlP.nil _, Sl.nil _, nilOr_owned ho, .inl rfl⟩
    · exact ((((y3.below.setCell (by simp) _).setCell (by simp) _).setCell (by simp) _).setCell (by simp) _).setCell (by simp) _
end Go.Proofs.Ytehidhcpdiameaa

/- The walks of layer 9, on: a disk that is revived, and armed. -/
namespace Go.Proofs.Ytehidhcpdiameaa
open Go.RowKit

set_option maxRecDepth 100000 in
set_option maxHeartbeats 4000000 in
theorem revive9_any (d : Dev.Disk) (v : Value) (w : World) (h : DiskIn w v d) (h3 : d.keep.length ≤ 1000000) :
    Calls Try.prog 80 #[v] w fun e w' => ∃ r, e = .returned r ∧ DiskIn w' r (Dev.revive d) ∧ Ext w w' := by
  have hm := fun w h => may_any d v w h
  have hcp := fun w h h1 h2 => copy_any d v w h h1 h2 h3
  have hform := h.form
  obtain ⟨ka, kn, kc, ca, cn, cc, pa, pn, pc, rfl⟩ := hform
  have b0 := (Box.new w (diskL (.slice ka kn kc) (.slice ca cn cc) d.fuse (.slice pa pn pc) d.dead) 69).alloc (.cells #[.slice none 0 0, .slice none 0 0, .int .i64 0, .slice none 0 0, .bool false] 69)
  have r0 := Box.new (w.alloc (.cells #[.slice ka kn kc, .slice ca cn cc, .int .i64 d.fuse, .slice pa pn pc, .bool d.dead] 69)) zeroL 69
  rw [show (w.alloc (.cells #[.slice ka kn kc, .slice ca cn cc, .int .i64 d.fuse, .slice pa pn pc, .bool d.dead] 69)).heap.size = w.heap.size + 1 from by simp] at r0
  have y0 : Ext w ((w.alloc (.cells #[.slice ka kn kc, .slice ca cn cc, .int .i64 d.fuse, .slice pa pn pc, .bool d.dead] 69)).alloc (.cells #[.slice none 0 0, .slice none 0 0, .int .i64 0, .slice none 0 0, .bool false] 69)) := ((Ext.refl w).alloc _).alloc _
  have hz : ((w.alloc (.cells #[.slice ka kn kc, .slice ca cn cc, .int .i64 d.fuse, .slice pa pn pc, .bool d.dead] 69)).alloc (.cells #[.slice none 0 0, .slice none 0 0, .int .i64 0, .slice none 0 0, .bool false] 69)).heap.size = w.heap.size + 2 := by simp
  generalize hw0 : (w.alloc (.cells #[.slice ka kn kc, .slice ca cn cc, .int .i64 d.fuse, .slice pa pn pc, .bool d.dead] 69)).alloc (.cells #[.slice none 0 0, .slice none 0 0, .int .i64 0, .slice none 0 0, .bool false] 69) = w0 at *
  unfold diskV at hm hcp h ⊢
  obtain ⟨⟨i0, i1, i2, i3, i4⟩, f0, f1, f2, f3, f4⟩ := b0.at5
  replace hm := Lib.hid hm; replace hcp := Lib.hid hcp; replace h := Lib.hid h; replace b0 := Lib.hid b0; replace r0 := Lib.hid r0; replace hz := Lib.hid hz
  cases hmay : Dev.may d with
  | false =>
    rw [show Dev.revive d = Dev.no from by unfold Dev.revive; rw [if_pos hmay]]
    replace hm := hm.out
    rw [hmay] at hm
    replace hm := Lib.hid hm
    clear hmay
    go_enter Try.func80, Try.ntmps80
    go_wp2_with fail
    refine (hm.out _ (h.out.ext y0)).mono ?_; rintro e w1 ⟨rfl, x1⟩
    clear i0 i1 i2 i3 i4 f0 f1 f2 f3 f4 hw0
    have r1 := r0.out.ext x1
    have y1 := y0.trans x1
    clear x1 y0
    obtain ⟨_, g0, g1, g2, g3, g4⟩ := r1.at5
    have r2 := (((((r1.set 0 (.slice none 0 0) (by simp)).set 1 (.slice none 0 0) (by simp)).set 2 (.int .i64 0) (by simp)).set 3 (.slice none 0 0) (by simp)).set 4 (.bool false) (by simp))
    obtain ⟨⟨m0, m1, m2, m3, m4⟩, _⟩ := r2.at5
    replace m0 := Lib.hid m0; replace m1 := Lib.hid m1; replace m2 := Lib.hid m2; replace m3 := Lib.hid m3; replace m4 := Lib.hid m4
    replace r1 := Lib.hid r1; replace r2 := Lib.hid r2
    go_wp2_with fail
    refine bodyPost_ret (v := diskV (.slice none 0 0) (.slice none 0 0) (0) (.slice none 0 0) (false)) ?_ rfl ⟨_, rfl, ?_, ?_⟩
    · simp [results, Try.results80, go_sem, m0.out, m1.out, m2.out, m3.out, m4.out, diskV]
    · exact diskIn_no _
    · exact (((((y1).below.setCell (by simp) _).setCell (by simp) _).setCell (by simp) _).setCell (by simp) _).setCell (by simp) _
  | true =>
    rw [show Dev.revive d = ⟨d.kept, [], -1, [], false⟩ from by unfold Dev.revive; rw [if_neg (by rw [hmay]; decide)]]
    obtain ⟨q1, q2, q3⟩ := may_small hmay
    replace hm := hm.out
    rw [hmay] at hm
    replace hm := Lib.hid hm; replace q3 := Lib.hid q3
    clear hmay
    go_enter Try.func80, Try.ntmps80
    go_wp2_with fail
    refine (hm.out _ (h.out.ext y0)).mono ?_; rintro e w1 ⟨rfl, x1⟩
    clear i0 i1 i2 i3 i4 f0 f1 f2 f3 f4 hw0
    replace r0 := Lib.hid (r0.out.ext x1)
    replace b0 := Lib.hid (b0.out.ext x1)
    obtain ⟨⟨i0, i1, i2, i3, i4⟩, f0, f1, f2, f3, f4⟩ := b0.out.at5
    have y1 := y0.trans x1
    have hl1 := x1.size
    clear x1 y0
    go_wp2_with fail
    refine (hcp.out _ (h.out.ext y1) q1 q2).mono ?_; rintro e w2 ⟨k', c', p', B1, rfl, D, x2⟩
    clear i0 i1 i2 i3 i4 f0 f1 f2 f3 f4
    obtain ⟨ka', kb', e1⟩ := owned_slice D.kept
    subst e1
    obtain ⟨ca', cb', e2⟩ := owned_slice D.cache
    subst e2
    obtain ⟨pa', pb', e3⟩ := owned_slice D.keep
    subst e3
    have hlt : w.heap.size + 1 < w1.heap.size := by rw [hz.out] at hl1; omega
    replace D := Lib.hid D
    have bo := Box.new w2 (diskL (.slice ka' d.kept.length kb') (.slice ca' d.cache.length cb') d.fuse (.slice pa' d.keep.length pb') d.dead) 69
    obtain ⟨⟨i0, i1, i2, i3, i4⟩, f0, f1, f2, f3, f4⟩ := bo.at5
    have hne : w2.heap.size ≠ w.heap.size + 1 := by have := x2.size; omega
    have r1 := ((r0.out.ext x2).alloc (.cells #[.slice ka' d.kept.length kb', .slice none 0 0, .int .i64 (-1), .slice none 0 0, .bool false] 69))
    have D2 := (D.out.ext ((Ext.refl w2).alloc (.cells #[.slice ka' d.kept.length kb', .slice none 0 0, .int .i64 (-1), .slice none 0 0, .bool false] 69)))
    have y2 := (y1.trans x2).alloc (.cells #[.slice ka' d.kept.length kb', .slice none 0 0, .int .i64 (-1), .slice none 0 0, .bool false] 69)
    replace D2 := Lib.hid D2; replace bo := Lib.hid bo
    obtain ⟨_, g0, g1, g2, g3, g4⟩ := r1.at5
    have r2 := (((((r1.set 0 (.slice ka' d.kept.length kb') (by simp)).set 1 (.slice none 0 0) (by simp)).set 2 (.int .i64 (-1)) (by simp)).set 3 (.slice none 0 0) (by simp)).set 4 (.bool false) (by simp))
    obtain ⟨⟨m0, m1, m2, m3, m4⟩, _⟩ := r2.at5
    replace m0 := Lib.hid m0; replace m1 := Lib.hid m1; replace m2 := Lib.hid m2; replace m3 := Lib.hid m3; replace m4 := Lib.hid m4
    replace r1 := Lib.hid r1; replace r2 := Lib.hid r2
    go_wp2_with fail
    refine bodyPost_ret (v := diskV (.slice ka' d.kept.length kb') (.slice none 0 0) ((-1)) (.slice none 0 0) (false)) ?_ rfl ⟨_, rfl, ?_, ?_⟩
    · simp [results, Try.results80, go_sem, m0.out, m1.out, m2.out, m3.out, m4.out, diskV]
    · have ho := (ownsRow_under (ownsRow_under (ownsRow_under (ownsRow_under (ownsRow_under D2.out.kept _ 0 (.slice ka' d.kept.length kb') hlt) _ 1 (.slice none 0 0) hlt) _ 2 (.int .i64 (-1)) hlt) _ 3 (.slice none 0 0) hlt) _ 4 (.bool false) hlt)
      exact ⟨_, _, _, rfl, Sl.owned ho, SlP.nil _, Sl.nil _, nilOr_owned ho, .inl rfl⟩
    · exact (((((y2).below.setCell (by simp) _).setCell (by simp) _).setCell (by simp) _).setCell (by simp) _).setCell (by simp) _

end Go.Proofs.Ytehidhcpdiameaa

/- The walks of layer 9, on: a disk that is armed. -/
namespace Go.Proofs.Ytehidhcpdiameaa
open Go.RowKit

set_option maxRecDepth 100000 in
set_option maxHeartbeats 4000000 in
theorem arm9_any (d : Dev.Disk) (v : Value) (fuse : Int) (kp : Value) (keep : List Bool) (w : World) (h : DiskIn w v d) (hk : Sl w kp (keep.map boolV)) (h3 : d.keep.length ≤ 1000000) (h4 : keep.length ≤ 1000000) (hf : -9223372036854775808 ≤ fuse ∧ fuse ≤ 9223372036854775807) :
    Calls Try.prog 63 #[v, .int .i64 fuse, kp] w fun e w' => ∃ r, e = .returned r ∧ DiskIn w' r (Dev.arm d fuse keep) ∧ Ext w w' := by
  have hcl := fun w h => clone98_any keep kp w h h4
  obtain ⟨la, ln, lc, rfl⟩ := hk.form
  replace hk := Lib.hid hk; replace hcl := Lib.hid hcl
  have hm := fun w h => may_any d v w h
  have hcp := fun w h h1 h2 => copy_any d v w h h1 h2 h3
  have hform := h.form
  obtain ⟨ka, kn, kc, ca, cn, cc, pa, pn, pc, rfl⟩ := hform
  have b0 := (Box.new w (diskL (.slice ka kn kc) (.slice ca cn cc) d.fuse (.slice pa pn pc) d.dead) 69).alloc (.cells #[.slice none 0 0, .slice none 0 0, .int .i64 0, .slice none 0 0, .bool false] 69)
  have r0 := Box.new (w.alloc (.cells #[.slice ka kn kc, .slice ca cn cc, .int .i64 d.fuse, .slice pa pn pc, .bool d.dead] 69)) zeroL 69
  rw [show (w.alloc (.cells #[.slice ka kn kc, .slice ca cn cc, .int .i64 d.fuse, .slice pa pn pc, .bool d.dead] 69)).heap.size = w.heap.size + 1 from by simp] at r0
  have y0 : Ext w ((w.alloc (.cells #[.slice ka kn kc, .slice ca cn cc, .int .i64 d.fuse, .slice pa pn pc, .bool d.dead] 69)).alloc (.cells #[.slice none 0 0, .slice none 0 0, .int .i64 0, .slice none 0 0, .bool false] 69)) := ((Ext.refl w).alloc _).alloc _
  have hz : ((w.alloc (.cells #[.slice ka kn kc, .slice ca cn cc, .int .i64 d.fuse, .slice pa pn pc, .bool d.dead] 69)).alloc (.cells #[.slice none 0 0, .slice none 0 0, .int .i64 0, .slice none 0 0, .bool false] 69)).heap.size = w.heap.size + 2 := by simp
  generalize hw0 : (w.alloc (.cells #[.slice ka kn kc, .slice ca cn cc, .int .i64 d.fuse, .slice pa pn pc, .bool d.dead] 69)).alloc (.cells #[.slice none 0 0, .slice none 0 0, .int .i64 0, .slice none 0 0, .bool false] 69) = w0 at *
  unfold diskV at hm hcp h ⊢
  obtain ⟨⟨i0, i1, i2, i3, i4⟩, f0, f1, f2, f3, f4⟩ := b0.at5
  replace hm := Lib.hid hm; replace hcp := Lib.hid hcp; replace h := Lib.hid h; replace b0 := Lib.hid b0; replace r0 := Lib.hid r0; replace hz := Lib.hid hz
  cases hmay : Dev.may d with
  | false =>
    rw [show Dev.arm d fuse keep = Dev.no from by unfold Dev.arm; rw [if_pos hmay]]
    replace hm := hm.out
    rw [hmay] at hm
    replace hm := Lib.hid hm
    clear hmay
    go_enter Try.func63, Try.ntmps63
    go_wp2_with fail
    refine (hm.out _ (h.out.ext y0)).mono ?_; rintro e w1 ⟨rfl, x1⟩
    clear i0 i1 i2 i3 i4 f0 f1 f2 f3 f4 hw0
    have r1 := r0.out.ext x1
    have y1 := y0.trans x1
    clear x1 y0
    obtain ⟨_, g0, g1, g2, g3, g4⟩ := r1.at5
    have r2 := (((((r1.set 0 (.slice none 0 0) (by simp)).set 1 (.slice none 0 0) (by simp)).set 2 (.int .i64 0) (by simp)).set 3 (.slice none 0 0) (by simp)).set 4 (.bool false) (by simp))
    obtain ⟨⟨m0, m1, m2, m3, m4⟩, _⟩ := r2.at5
    replace m0 := Lib.hid m0; replace m1 := Lib.hid m1; replace m2 := Lib.hid m2; replace m3 := Lib.hid m3; replace m4 := Lib.hid m4
    replace r1 := Lib.hid r1; replace r2 := Lib.hid r2
    go_wp2_with fail
    refine bodyPost_ret (v := diskV (.slice none 0 0) (.slice none 0 0) (0) (.slice none 0 0) (false)) ?_ rfl ⟨_, rfl, ?_, ?_⟩
    · simp [results, Try.results63, go_sem, m0.out, m1.out, m2.out, m3.out, m4.out, diskV]
    · exact diskIn_no _
    · exact (((((y1).below.setCell (by simp) _).setCell (by simp) _).setCell (by simp) _).setCell (by simp) _).setCell (by simp) _
  | true =>
    rw [show Dev.arm d fuse keep = ⟨d.kept, d.cache, max fuse (-1), keep, d.dead⟩ from by unfold Dev.arm; rw [if_neg (by rw [hmay]; decide)]]
    obtain ⟨q1, q2, q3⟩ := may_small hmay
    replace hm := hm.out
    rw [hmay] at hm
    replace hm := Lib.hid hm; replace q3 := Lib.hid q3
    clear hmay
    go_enter Try.func63, Try.ntmps63
    go_wp2_with fail
    refine (hm.out _ (h.out.ext y0)).mono ?_; rintro e w1 ⟨rfl, x1⟩
    clear i0 i1 i2 i3 i4 f0 f1 f2 f3 f4 hw0
    replace r0 := Lib.hid (r0.out.ext x1)
    replace b0 := Lib.hid (b0.out.ext x1)
    obtain ⟨⟨i0, i1, i2, i3, i4⟩, f0, f1, f2, f3, f4⟩ := b0.out.at5
    have y1 := y0.trans x1
    have hl1 := x1.size
    clear x1 y0
    go_wp2_with fail
    refine (hcp.out _ (h.out.ext y1) q1 q2).mono ?_; rintro e w2 ⟨k', c', p', B1, rfl, D, x2⟩
    clear i0 i1 i2 i3 i4 f0 f1 f2 f3 f4
    obtain ⟨ka', kb', e1⟩ := owned_slice D.kept
    subst e1
    obtain ⟨ca', cb', e2⟩ := owned_slice D.cache
    subst e2
    obtain ⟨pa', pb', e3⟩ := owned_slice D.keep
    subst e3
    have hlt : w.heap.size + 1 < w1.heap.size := by rw [hz.out] at hl1; omega
    replace D := Lib.hid D
    have bo := Box.new w2 (diskL (.slice ka' d.kept.length kb') (.slice ca' d.cache.length cb') (max fuse (-1)) (.slice pa' d.keep.length pb') d.dead) 69
    obtain ⟨⟨i0, i1, i2, i3, i4⟩, f0, f1, f2, f3, f4⟩ := bo.at5
    have hl2 := x2.size
    have hne : w2.heap.size ≠ w.heap.size + 1 := by omega
    replace r0 := Lib.hid ((r0.out.ext x2).alloc (.cells #[.slice ka' d.kept.length kb', .slice ca' d.cache.length cb', .int .i64 (max fuse (-1)), .slice pa' d.keep.length pb', .bool d.dead] 69))
    have y2 := (y1.trans x2).alloc (.cells #[.slice ka' d.kept.length kb', .slice ca' d.cache.length cb', .int .i64 (max fuse (-1)), .slice pa' d.keep.length pb', .bool d.dead] 69)
    replace bo := Lib.hid bo
    have hmx : fuse ≤ -1 → max fuse (-1) = -1 := fun h => by omega
    have hmx2 : -1 ≤ fuse → max fuse (-1) = fuse := fun h => by omega
    clear x2
    go_wp2_with fail
    refine (hcl.out _ (hk.out.ext y2)).mono ?_; rintro e w3 ⟨q', rfl, o3, x3⟩
    clear i0 i1 i2 i3 i4 f0 f1 f2 f3 f4
    obtain ⟨qa, qb, e4⟩ := owned_slice o3
    subst e4
    have b3 := bo.out.ext x3
    obtain ⟨⟨i0, i1, i2, i3, i4⟩, f0, f1, f2, f3, f4⟩ := b3.at5
    have b4 := b3.set 3 (.slice qa keep.length qb) (by simp)
    obtain ⟨⟨j0, j1, j2, j3, j4⟩, _⟩ := b4.at5
    have r1 := (r0.out.ext x3).other hne 3 (.slice qa keep.length qb)
    have D3 := D.out.ext ((((Ext.refl w2).alloc (.cells #[.slice ka' d.kept.length kb', .slice ca' d.cache.length cb', .int .i64 (max fuse (-1)), .slice pa' d.keep.length pb', .bool d.dead] 69)).trans x3).below.setCell (p := ⟨w2.heap.size, 3, none⟩) (Nat.le_refl _) (.slice qa keep.length qb))
    have O3 := ownsRow_under o3 w2.heap.size 3 (.slice qa keep.length qb) (by simp)
    have y3 := (y2.trans x3).below.setCell (p := ⟨w2.heap.size, 3, none⟩) (by show w.heap.size ≤ w2.heap.size; have := y2.size; simp at this; omega) (.slice qa keep.length qb)
    have hlt3 : w.heap.size + 1 < (w2.alloc (.cells #[.slice ka' d.kept.length kb', .slice ca' d.cache.length cb', .int .i64 (max fuse (-1)), .slice pa' d.keep.length pb', .bool d.dead] 69)).heap.size := by simp; omega
    replace D3 := Lib.hid D3; replace O3 := Lib.hid O3; replace b4 := Lib.hid b4; replace hmx := Lib.hid hmx; replace hmx2 := Lib.hid hmx2
    clear x3 y2 b3 o3
    obtain ⟨_, g0, g1, g2, g3, g4⟩ := r1.at5
    have r2 := (((((r1.set 0 (.slice ka' d.kept.length kb') (by simp)).set 1 (.slice ca' d.cache.length cb') (by simp)).set 2 (.int .i64 (max fuse (-1))) (by simp)).set 3 (.slice qa keep.length qb) (by simp)).set 4 (.bool d.dead) (by simp))
    obtain ⟨⟨m0, m1, m2, m3, m4⟩, _⟩ := r2.at5
    replace m0 := Lib.hid m0; replace m1 := Lib.hid m1; replace m2 := Lib.hid m2; replace m3 := Lib.hid m3; replace m4 := Lib.hid m4
    replace r1 := Lib.hid r1; replace r2 := Lib.hid r2
    go_wp2_with fail
    refine bodyPost_ret (v := diskV (.slice ka' d.kept.length kb') (.slice ca' d.cache.length cb') ((max fuse (-1))) (.slice qa keep.length qb) (d.dead)) ?_ rfl ⟨_, rfl, ?_, ?_⟩
    · simp [results, Try.results63, go_sem, m0.out, m1.out, m2.out, m3.out, m4.out, diskV]
    · have D4 := (((((D3.out.under _ 0 (.slice ka' d.kept.length kb') hlt).under _ 1 (.slice ca' d.cache.length cb') hlt).under _ 2 (.int .i64 (max fuse (-1))) hlt).under _ 3 (.slice qa keep.length qb) hlt).under _ 4 (.bool d.dead) hlt)
      have O4 := (ownsRow_under (ownsRow_under (ownsRow_under (ownsRow_under (ownsRow_under O3.out _ 0 (.slice ka' d.kept.length kb') hlt3) _ 1 (.slice ca' d.cache.length cb') hlt3) _ 2 (.int .i64 (max fuse (-1))) hlt3) _ 3 (.slice qa keep.length qb) hlt3) _ 4 (.bool d.dead) hlt3)
      exact ⟨_, _, _, rfl, Sl.owned D4.kept, (SlP.owned D4.cache).1, Sl.owned O4, nilOr_owned D4.kept, nilOr_owned D4.cache⟩
    · exact (((((Ext.mk y3).below.setCell (by simp) _).setCell (by simp) _).setCell (by simp) _).setCell (by simp) _).setCell (by simp) _

end Go.Proofs.Ytehidhcpdiameaa

/- The walks of layer 9, on: a disk that is flushed. -/
namespace Go.Proofs.Ytehidhcpdiameaa
open Go.RowKit

namespace Dev
theorem putAll_take (k : List ByteArray) (c : List Put) (i : Nat) (hi : i < c.length) : putAll k (c.take (i + 1)) = put1 (putAll k (c.take i)) c[i] := by
  rw [List.take_succ_eq_append_getElem hi, putAll_snoc]
end Dev

/-- what stands at the head of a round of a flush. -/
structure FlushRel (B B1 n0 m0 : Nat) (d : Dev.Disk) (i : Nat) (k c p : Value) (a0 wr : World) : Prop where
  kept : wr.ownsRow B 9 1 k d.kept.length ((Dev.putAll d.kept (d.cache.take i)).map strV)
  cache : wr.ownsRow B1 90 2 c d.cache.length (putCells d.cache)
  keep : wr.ownsRow B1 4 1 p d.keep.length (d.keep.map boolV)
  box : Box n0 (diskL k c d.fuse p false) wr
  res : Box (m0 + 1) zeroL wr
  ext : Ext a0 wr
theorem FlushRel.later {B B1 n0 m0 : Nat} {d : Dev.Disk} {i : Nat} {k c p : Value} {a0 wr w' : World} (h : FlushRel B B1 n0 m0 d i k c p a0 wr) (x : Ext wr w') : FlushRel B B1 n0 m0 d i k c p a0 w' :=
  ⟨ownsRow_ext h.kept x, ownsRow_ext h.cache x, ownsRow_ext h.keep x, h.box.ext x, h.res.ext x, h.ext.trans x⟩
theorem FlushRel.put {B B1 n0 m0 : Nat} {d : Dev.Disk} {g cap i : Nat} {c p : Value} {a0 wr : World} {x : Nat} {t : ByteArray} (h : FlushRel B B1 n0 m0 d i (.slice (some ⟨g, 0, none⟩) d.kept.length cap) c p a0 wr)
    (e : Dev.putAll d.kept (d.cache.take (i + 1)) = Dev.put1 (Dev.putAll d.kept (d.cache.take i)) ((x : Int), t)) (hBg : B ≤ g) (hgB : g < B1) (hB : a0.heap.size ≤ B) (hB1 : B1 ≤ n0) (hm : m0 + 1 < B) :
    FlushRel B B1 n0 m0 d (i + 1) (.slice (some ⟨g, 0, none⟩) d.kept.length cap) c p a0 (wr.setCell ⟨g, x, none⟩ (.string t)) :=
  ⟨by rw [e]; have := (h.kept.stored x (.string t)).1; rw [strV_set] at this; exact this, ownsRow_under h.cache g x _ hgB, ownsRow_under h.keep g x _ hgB, h.box.other (by omega) x _, h.res.other (by omega) x _,
   h.ext.below.setCell (by show a0.heap.size ≤ g; omega) _⟩

set_option maxRecDepth 100000 in
set_option maxHeartbeats 16000000 in
theorem flush9_any (d : Dev.Disk) (v : Value) (w : World) (h : DiskIn w v d) (h3 : d.keep.length ≤ 1000000) :
    Calls Try.prog 71 #[v] w fun e w' => ∃ r, e = .returned (.tuple #[r, .int .i64 (Dev.flush d).2]) ∧ DiskIn w' r (Dev.flush d).1 ∧ Ext w w' := by
  have hm := fun w h => may_any d v w h
  have hcp := fun w h h1 h2 => copy_any d v w h h1 h2 h3
  have hform := h.form
  obtain ⟨ka, kn, kc, ca, cn, cc, pa, pn, pc, rfl⟩ := hform
  have b0 := (Box.new w (diskL (.slice ka kn kc) (.slice ca cn cc) d.fuse (.slice pa pn pc) d.dead) 69).alloc (.cells #[.slice none 0 0, .slice none 0 0, .int .i64 0, .slice none 0 0, .bool false] 69)
  have r0 := Box.new (w.alloc (.cells #[.slice ka kn kc, .slice ca cn cc, .int .i64 d.fuse, .slice pa pn pc, .bool d.dead] 69)) zeroL 69
  rw [show (w.alloc (.cells #[.slice ka kn kc, .slice ca cn cc, .int .i64 d.fuse, .slice pa pn pc, .bool d.dead] 69)).heap.size = w.heap.size + 1 from by simp] at r0
  have y0 : Ext w ((w.alloc (.cells #[.slice ka kn kc, .slice ca cn cc, .int .i64 d.fuse, .slice pa pn pc, .bool d.dead] 69)).alloc (.cells #[.slice none 0 0, .slice none 0 0, .int .i64 0, .slice none 0 0, .bool false] 69)) := ((Ext.refl w).alloc _).alloc _
  have hz : ((w.alloc (.cells #[.slice ka kn kc, .slice ca cn cc, .int .i64 d.fuse, .slice pa pn pc, .bool d.dead] 69)).alloc (.cells #[.slice none 0 0, .slice none 0 0, .int .i64 0, .slice none 0 0, .bool false] 69)).heap.size = w.heap.size + 2 := by simp
  generalize hw0 : (w.alloc (.cells #[.slice ka kn kc, .slice ca cn cc, .int .i64 d.fuse, .slice pa pn pc, .bool d.dead] 69)).alloc (.cells #[.slice none 0 0, .slice none 0 0, .int .i64 0, .slice none 0 0, .bool false] 69) = w0 at *
  unfold diskV at hm hcp h ⊢
  obtain ⟨⟨i0, i1, i2, i3, i4⟩, f0, f1, f2, f3, f4⟩ := b0.at5
  replace hm := Lib.hid hm; replace hcp := Lib.hid hcp; replace h := Lib.hid h; replace b0 := Lib.hid b0; replace r0 := Lib.hid r0; replace hz := Lib.hid hz
  cases hmay : Dev.may d with
  | false =>
    rw [show Dev.flush d = (Dev.no, 1) from by unfold Dev.flush; rw [if_pos hmay]]
    replace hm := hm.out
    rw [hmay] at hm
    replace hm := Lib.hid hm
    clear hmay
    go_enter Try.func71, Try.ntmps71
    go_wp2_with fail
    refine (hm.out _ (h.out.ext y0)).mono ?_; rintro e w1 ⟨rfl, x1⟩
    clear i0 i1 i2 i3 i4 f0 f1 f2 f3 f4 hw0
    have r1 := r0.out.ext x1
    have y1 := y0.trans x1
    clear x1 y0
    obtain ⟨_, g0, g1, g2, g3, g4⟩ := r1.at5
    have r2 := (((((r1.set 0 (.slice none 0 0) (by simp)).set 1 (.slice none 0 0) (by simp)).set 2 (.int .i64 0) (by simp)).set 3 (.slice none 0 0) (by simp)).set 4 (.bool false) (by simp))
    obtain ⟨⟨m0, m1, m2, m3, m4⟩, _⟩ := r2.at5
    replace m0 := Lib.hid m0; replace m1 := Lib.hid m1; replace m2 := Lib.hid m2; replace m3 := Lib.hid m3; replace m4 := Lib.hid m4
    replace r1 := Lib.hid r1; replace r2 := Lib.hid r2
    go_wp2_with fail
    refine bodyPost_ret (v := .tuple #[diskV (.slice none 0 0) (.slice none 0 0) (0) (.slice none 0 0) (false), .int .i64 1]) ?_ rfl ⟨_, rfl, ?_, ?_⟩
    · simp [results, Try.results71, go_sem, m0.out, m1.out, m2.out, m3.out, m4.out, diskV]
    · exact diskIn_no _
    · exact (((((y1).below.setCell (by simp) _).setCell (by simp) _).setCell (by simp) _).setCell (by simp) _).setCell (by simp) _
  | true =>
    cases hdead : d.dead with
    | true =>
      replace hcp := hcp.out; replace h := h.out; replace b0 := b0.out; replace hm := hm.out
      rw [hdead] at hcp h b0 hw0 i4 hm
      replace hm := Lib.hid hm; replace hcp := Lib.hid hcp; replace h := Lib.hid h; replace b0 := Lib.hid b0; replace hdead := Lib.hid hdead
      rw [show Dev.flush d = (d, 90) from by unfold Dev.flush; rw [if_neg (by rw [hmay]; decide), if_pos hdead.out]]
      obtain ⟨q1, q2, q3⟩ := may_small hmay
      replace hm := hm.out
      rw [hmay] at hm
      replace hm := Lib.hid hm; replace q3 := Lib.hid q3
      clear hmay
      go_enter Try.func71, Try.ntmps71
      go_wp2_with fail
      refine (hm.out _ (h.out.ext y0)).mono ?_; rintro e w1 ⟨rfl, x1⟩
      clear i0 i1 i2 i3 i4 f0 f1 f2 f3 f4 hw0
      replace r0 := Lib.hid (r0.out.ext x1)
      replace b0 := Lib.hid (b0.out.ext x1)
      obtain ⟨⟨i0, i1, i2, i3, i4⟩, f0, f1, f2, f3, f4⟩ := b0.out.at5
      have y1 := y0.trans x1
      have hl1 := x1.size
      clear x1 y0
      go_wp2_with fail
      refine (hcp.out _ (h.out.ext y1) q1 q2).mono ?_; rintro e w2 ⟨k', c', p', B1, rfl, D, x2⟩
      clear i0 i1 i2 i3 i4 f0 f1 f2 f3 f4
      obtain ⟨ka', kb', e1⟩ := owned_slice D.kept
      subst e1
      obtain ⟨ca', cb', e2⟩ := owned_slice D.cache
      subst e2
      obtain ⟨pa', pb', e3⟩ := owned_slice D.keep
      subst e3
      have hlt : w.heap.size + 1 < w1.heap.size := by rw [hz.out] at hl1; omega
      replace D := Lib.hid D
      have bo := Box.new w2 (diskL (.slice ka' d.kept.length kb') (.slice ca' d.cache.length cb') d.fuse (.slice pa' d.keep.length pb') true) 69
      obtain ⟨⟨j0, j1, j2, j3, j4⟩, _⟩ := bo.at5
      obtain ⟨⟨i0, i1, i2, i3, i4⟩, f0, f1, f2, f3, f4⟩ := ((b0.out.ext x2).alloc (.cells #[.slice ka' d.kept.length kb', .slice ca' d.cache.length cb', .int .i64 d.fuse, .slice pa' d.keep.length pb', .bool true] 69)).at5
      have r1 := (r0.out.ext x2).alloc (.cells #[.slice ka' d.kept.length kb', .slice ca' d.cache.length cb', .int .i64 d.fuse, .slice pa' d.keep.length pb', .bool true] 69)
      have D2 := Lib.hid (D.out.ext ((Ext.refl w2).alloc (.cells #[.slice ka' d.kept.length kb', .slice ca' d.cache.length cb', .int .i64 d.fuse, .slice pa' d.keep.length pb', .bool true] 69)))
      have y2 := (y1.trans x2).alloc (.cells #[.slice ka' d.kept.length kb', .slice ca' d.cache.length cb', .int .i64 d.fuse, .slice pa' d.keep.length pb', .bool true] 69)
      replace bo := Lib.hid bo
      obtain ⟨_, g0, g1, g2, g3, g4⟩ := r1.at5
      have r2 := (((((r1.set 0 (.slice ka' d.kept.length kb') (by simp)).set 1 (.slice ca' d.cache.length cb') (by simp)).set 2 (.int .i64 d.fuse) (by simp)).set 3 (.slice pa' d.keep.length pb') (by simp)).set 4 (.bool true) (by simp))
      obtain ⟨⟨m0, m1, m2, m3, m4⟩, _⟩ := r2.at5
      replace m0 := Lib.hid m0; replace m1 := Lib.hid m1; replace m2 := Lib.hid m2; replace m3 := Lib.hid m3; replace m4 := Lib.hid m4
      replace r1 := Lib.hid r1; replace r2 := Lib.hid r2
      go_wp2_with fail
      refine bodyPost_ret (v := .tuple #[diskV (.slice ka' d.kept.length kb') (.slice ca' d.cache.length cb') (d.fuse) (.slice pa' d.keep.length pb') (true), .int .i64 90]) ?_ rfl ⟨_, rfl, ?_, ?_⟩
      · simp [results, Try.results71, go_sem, m0.out, m1.out, m2.out, m3.out, m4.out, diskV]
      · have D4 := (((((D2.out.under _ 0 (.slice ka' d.kept.length kb') hlt).under _ 1 (.slice ca' d.cache.length cb') hlt).under _ 2 (.int .i64 d.fuse) hlt).under _ 3 (.slice pa' d.keep.length pb') hlt).under _ 4 (.bool true) hlt)
        have := D4.disk
        rw [hdead.out] at this
        exact this
      · exact (((((y2).below.setCell (by simp) _).setCell (by simp) _).setCell (by simp) _).setCell (by simp) _).setCell (by simp) _
    | false =>
      replace hcp := hcp.out; replace h := h.out; replace b0 := b0.out; replace hm := hm.out
      rw [hdead] at hcp h b0 hw0 i4 hm
      replace hm := Lib.hid hm; replace hcp := Lib.hid hcp; replace h := Lib.hid h; replace b0 := Lib.hid b0; replace hdead := Lib.hid hdead
      rw [show Dev.flush d = (⟨Dev.putAll d.kept d.cache, [], d.fuse, d.keep, false⟩, 0) from by unfold Dev.flush; rw [if_neg (by rw [hmay]; decide), if_neg (by rw [hdead.out]; decide)]; simp only [hdead.out]]
      obtain ⟨q1, q2, q3⟩ := may_small hmay
      replace hm := hm.out
      rw [hmay] at hm
      replace hm := Lib.hid hm; replace q3 := Lib.hid q3
      clear hmay
      go_enter Try.func71, Try.ntmps71
      go_wp2_with fail
      refine (hm.out _ (h.out.ext y0)).mono ?_; rintro e w1 ⟨rfl, x1⟩
      clear i0 i1 i2 i3 i4 f0 f1 f2 f3 f4 hw0
      replace r0 := Lib.hid (r0.out.ext x1)
      replace b0 := Lib.hid (b0.out.ext x1)
      obtain ⟨⟨i0, i1, i2, i3, i4⟩, f0, f1, f2, f3, f4⟩ := b0.out.at5
      have y1 := y0.trans x1
      have hl1 := x1.size
      clear x1 y0
      go_wp2_with fail
      refine (hcp.out _ (h.out.ext y1) q1 q2).mono ?_; rintro e w2 ⟨k', c', p', B1, rfl, D, x2⟩
      clear i0 i1 i2 i3 i4 f0 f1 f2 f3 f4
      obtain ⟨ka', kb', e1⟩ := owned_slice D.kept
      subst e1
      obtain ⟨ca', cb', e2⟩ := owned_slice D.cache
      subst e2
      obtain ⟨pa', pb', e3⟩ := owned_slice D.keep
      subst e3
      have hlt : w.heap.size + 1 < w1.heap.size := by rw [hz.out] at hl1; omega
      replace D := Lib.hid D
      have bo := Box.new w2 (diskL (.slice ka' d.kept.length kb') (.slice ca' d.cache.length cb') d.fuse (.slice pa' d.keep.length pb') false) 69
      obtain ⟨⟨j0, j1, j2, j3, j4⟩, _⟩ := bo.at5
      obtain ⟨⟨i0, i1, i2, i3, i4⟩, f0, f1, f2, f3, f4⟩ := ((b0.out.ext x2).alloc (.cells #[.slice ka' d.kept.length kb', .slice ca' d.cache.length cb', .int .i64 d.fuse, .slice pa' d.keep.length pb', .bool false] 69)).at5
      have hl2 := x2.size
      have hle := D.out.le
      have htop := D.out.top
      have hkO := Lib.hid D.out.keptB
      have hpO := Lib.hid (fun g hg => (World.ownsRow.lt D.out.keep g hg).2)
      have D2 := D.out.ext ((Ext.refl w2).alloc (.cells #[.slice ka' d.kept.length kb', .slice ca' d.cache.length cb', .int .i64 d.fuse, .slice pa' d.keep.length pb', .bool false] 69))
      have hwB : w.heap.size ≤ w1.heap.size := by omega
      have R0 : FlushRel w1.heap.size B1 w2.heap.size w.heap.size d 0 (.slice ka' d.kept.length kb') (.slice ca' d.cache.length cb') (.slice pa' d.keep.length pb') w (w2.alloc (.cells #[.slice ka' d.kept.length kb', .slice ca' d.cache.length cb', .int .i64 d.fuse, .slice pa' d.keep.length pb', .bool false] 69)) :=
        ⟨D2.kept, D2.cache, D2.keep, bo, (r0.out.ext x2).alloc (.cells #[.slice ka' d.kept.length kb', .slice ca' d.cache.length cb', .int .i64 d.fuse, .slice pa' d.keep.length pb', .bool false] 69), (y1.trans x2).alloc (.cells #[.slice ka' d.kept.length kb', .slice ca' d.cache.length cb', .int .i64 d.fuse, .slice pa' d.keep.length pb', .bool false] 69)⟩
      replace R0 := Lib.hid R0
      have hM : (d.cache.length : Int) ≤ 1000000 := by omega
      have hN : (d.kept.length : Int) ≤ 1000000 := by omega
      obtain ⟨cq, ce, e5, hlc, hcb, _⟩ := slp_at (SlP.owned D.out.cache).1
      simp only [Value.slice.injEq, true_and] at e5
      obtain ⟨rfl, rfl⟩ := e5
      clear D2 bo D y1 x2 r0 b0
      go_wp2_with fail
      clear i0 i1 i2 i3 i4 f0 f1 f2 f3 f4 j0 j1 j2 j3 j4
      go_loopw [19] (fun i wr => ∃ n : Nat, n ≤ d.cache.length ∧ i = .int .i64 n ∧ FlushRel w1.heap.size B1 w2.heap.size w.heap.size d n (.slice ka' d.kept.length kb') (.slice ca' d.cache.length cb') (.slice pa' d.keep.length pb') w wr) (fun i _ => d.cache.length - (intOf i).toNat)
      case atStart => exact ⟨0, by omega, rfl, R0.out⟩
      case round =>
        obtain ⟨n, hn, rfl, hR⟩ := hrel
        clear R0
        by_cases hltM : n < d.cache.length
        · obtain ⟨ca2, cb2, e2, _, _, hpc⟩ := slp_at (SlP.owned hR.cache).1
          simp only [Value.slice.injEq, true_and] at e2
          obtain ⟨rfl, rfl⟩ := e2
          obtain ⟨b, o, rfl, hb, hc1, hc2⟩ := hpc n hltM
          clear hpc
          have hnx := Dev.putAll_take d.kept d.cache n hltM
          obtain ⟨hx0, hx1⟩ := q3.out _ (List.getElem_mem hltM)
          generalize d.cache[n] = q at *
          obtain ⟨x, t⟩ := q
          dsimp only at hc1 hc2 hx0 hx1 hnx
          obtain ⟨x, rfl⟩ := Int.eq_ofNat_of_zero_le hx0
          have hV : Ext wr (wr.alloc (.cells #[.int .i64 x, .string t] 90)) := (Ext.refl _).alloc _
          have hR2 := hR.later hV
          obtain ⟨⟨i0, i1, i2, i3, i4⟩, _⟩ := hR2.box.at5
          obtain ⟨g, cap, e4, hBg, hgw⟩ := owned_form hR2.kept (by omega)
          simp only [Value.slice.injEq, true_and] at e4
          obtain ⟨rfl, rfl⟩ := e4
          have hgB := hkO.out g rfl
          have hxN : x < d.kept.length := by omega
          have hcell := hR2.kept.cellAt x (by omega)
          have hfr := hR2.kept.frozenAt x
          have hll : (Dev.putAll d.kept (d.cache.take n)).length = d.kept.length := Dev.putAll_length _ _
          rw [List.getElem?_map, List.getElem?_eq_getElem (by rw [hll]; exact hxN)] at hcell
          have hR3 : FlushRel w1.heap.size B1 w2.heap.size w.heap.size d (n + 1) _ _ _ w _ := hR2.put hnx hBg hgB hwB htop hlt
          generalize (Dev.putAll d.kept (d.cache.take n))[x] = old at *
          simp only [Option.map_some, strV] at hcell
          have hxi : ((x : Nat) : Int) < d.kept.length := by omega
          replace hR := Lib.hid hR; replace hR2 := Lib.hid hR2; replace hR3 := Lib.hid hR3; replace hnx := Lib.hid hnx; replace hll := Lib.hid hll
          go_wp2_with fail
          go_roundw
          case rel => exact ⟨n + 1, by omega, by go_num, hR3.out⟩
          case measure => simp [intOf]; omega
        · obtain rfl : n = d.cache.length := by omega
          obtain ⟨hkr, hcr, hpr, hbr, hrr, hxr⟩ := hR
          rw [List.take_length] at hkr
          obtain ⟨⟨i0, i1, i2, i3, i4⟩, f0, f1, f2, f3, f4⟩ := hbr.at5
          have b5 := hbr.set 1 (.slice none 0 0) (by simp)
          obtain ⟨⟨j0, j1, j2, j3, j4⟩, _⟩ := b5.at5
          have hne : w2.heap.size ≠ w.heap.size + 1 := by omega
          have r1 := hrr.other hne 1 (.slice none 0 0)
          have ko := ownsRow_other hkr w2.heap.size 1 (.slice none 0 0) (by
            cases hv : (Value.slice ka' d.kept.length kb').ownBlock with
            | none => exact .inl rfl
            | some g' =>
              refine .inr fun e => ?_
              simp only [Option.some.injEq] at e
              have := hkO.out g' hv
              omega)
          have hpo := hpO.out
          have po := ownsRow_other hpr w2.heap.size 1 (.slice none 0 0) (by
            cases hv : (Value.slice pa' d.keep.length pb').ownBlock with
            | none => exact .inl rfl
            | some g' =>
              refine .inr fun e => ?_
              simp only [Option.some.injEq] at e
              have := hpo g' hv
              omega)
          have y3 := hxr.below.setCell (p := ⟨w2.heap.size, 1, none⟩) (by show w.heap.size ≤ w2.heap.size; omega) (.slice none 0 0)
          have hlB1 : w.heap.size + 1 < B1 := by omega
          replace ko := Lib.hid ko; replace po := Lib.hid po; replace b5 := Lib.hid b5
          clear hrr hbr
          obtain ⟨_, g0, g1, g2, g3, g4⟩ := r1.at5
          have r2 := (((((r1.set 0 (.slice ka' d.kept.length kb') (by simp)).set 1 (.slice none 0 0) (by simp)).set 2 (.int .i64 d.fuse) (by simp)).set 3 (.slice pa' d.keep.length pb') (by simp)).set 4 (.bool false) (by simp))
          obtain ⟨⟨m0, m1, m2, m3, m4⟩, _⟩ := r2.at5
          replace m0 := Lib.hid m0; replace m1 := Lib.hid m1; replace m2 := Lib.hid m2; replace m3 := Lib.hid m3; replace m4 := Lib.hid m4
          replace r1 := Lib.hid r1; replace r2 := Lib.hid r2
          go_wp2_with fail
          refine bodyPost_ret (v := .tuple #[diskV (.slice ka' d.kept.length kb') (.slice none 0 0) (d.fuse) (.slice pa' d.keep.length pb') (false), .int .i64 0]) ?_ rfl ⟨_, rfl, ?_, ?_⟩
          · simp [results, Try.results71, go_sem, m0.out, m1.out, m2.out, m3.out, m4.out, diskV]
          · have k4 := (ownsRow_under (ownsRow_under (ownsRow_under (ownsRow_under (ownsRow_under ko.out _ 0 (.slice ka' d.kept.length kb') hlt) _ 1 (.slice none 0 0) hlt) _ 2 (.int .i64 d.fuse) hlt) _ 3 (.slice pa' d.keep.length pb') hlt) _ 4 (.bool false) hlt)
            have p4 := (ownsRow_under (ownsRow_under (ownsRow_under (ownsRow_under (ownsRow_under po.out _ 0 (.slice ka' d.kept.length kb') hlB1) _ 1 (.slice none 0 0) hlB1) _ 2 (.int .i64 d.fuse) hlB1) _ 3 (.slice pa' d.keep.length pb') hlB1) _ 4 (.bool false) hlB1)
            exact ⟨_, _, _, rfl, by have := Dev.putAll_length d.cache d.kept; have h5 := Sl.owned k4; exact h5, SlP.nil _, Sl.owned p4, nilOr_owned k4, .inl rfl⟩
          · exact (((((Ext.mk y3).below.setCell (by simp) _).setCell (by simp) _).setCell (by simp) _).setCell (by simp) _).setCell (by simp) _

end Go.Proofs.Ytehidhcpdiameaa

/- The walks of layer 9, on: a write to a disk. -/
namespace Go.Proofs.Ytehidhcpdiameaa
open Go.RowKit

/-- a disk's value, in slices of its lengths. -/
theorem DiskIn.form2 {w : World} {v : Value} {d : Dev.Disk} (h : DiskIn w v d) : ∃ ka kc ca cc pa pc, v = diskV (.slice ka d.kept.length kc) (.slice ca d.cache.length cc) d.fuse (.slice pa d.keep.length pc) d.dead ∧ d.kept.length ≤ 9223372036854775807 := by
  obtain ⟨k, c, p, rfl, h1, h2, h3, _, _⟩ := h
  obtain ⟨ka, kc, rfl, hl, hm, _⟩ := sl_str_at h1
  obtain ⟨ca, cc, rfl, _⟩ := slp_at h2
  obtain ⟨pa, pc, rfl, _⟩ := sl_bool_at h3
  exact ⟨_, _, _, _, _, _, rfl, by omega⟩
theorem Box.grown {n : Nat} {vs : List Value} {w w' : World} {row : Option Nat} (h : Box n vs w) (hg : w.grownBy w' row) (hn : row ≠ some n) : Box n vs w' := by
  have hb := hg.block n h.size (fun e => hn e.symm)
  exact ⟨Nat.lt_of_lt_of_le h.size hg.size, fun i v hi => by rw [World.cell?_of_block (a := ⟨n, i, none⟩) hb]; exact h.cell i v hi, fun i hi => by rw [World.frozen?_of_block (a := ⟨n, i, none⟩) hb]; exact h.free i hi⟩
theorem row_not_box {w : World} {base : Nat} {e : TypeId} {size : Nat} {v : Value} {n : Nat} {xs : List Value} (h : w.ownsRow base e size v n xs) (b : Nat) (cs : Array Value) (T : TypeId) (fr : Nat × Nat) (hb : w.heap[b]? = some (.cells cs T fr)) (hT : T ≠ e) : v.ownBlock ≠ some b := by
  rcases h.2 with ⟨rfl, _⟩ | ⟨g, cap, cur, rfl, _, hg, _⟩
  · intro e; cases e
  · intro e
    simp only [Value.ownBlock, Option.some.injEq] at e
    subst e
    rw [hb] at hg
    simp only [Option.some.injEq, Obj.cells.injEq] at hg
    exact hT hg.2.1

set_option maxRecDepth 100000 in
set_option maxHeartbeats 16000000 in
theorem write9_any (d : Dev.Disk) (v : Value) (x : Int) (s : ByteArray) (w : World) (h : DiskIn w v d) (h3 : d.keep.length ≤ 1000000) (hf : d.fuse ≤ 9223372036854775807) :
    Calls Try.prog 64 #[v, .int .i64 x, .string s] w fun e w' => ∃ r, e = .returned (.tuple #[r, .int .i64 (Dev.write d x s).2]) ∧ DiskIn w' r (Dev.write d x s).1 ∧ Ext w w' := by
  have hm := fun w h => may_any d v w h
  have hcp := fun w h h1 h2 => copySep_any d v w h h1 h2 h3
  have hform := h.form2
  obtain ⟨ka, kc, ca, cc, pa, pc, rfl, hkn⟩ := hform
  have b0 := (Box.new w (diskL (.slice ka d.kept.length kc) (.slice ca d.cache.length cc) d.fuse (.slice pa d.keep.length pc) d.dead) 69).alloc (.cells #[.slice none 0 0, .slice none 0 0, .int .i64 0, .slice none 0 0, .bool false] 69)
  have r0 := Box.new (w.alloc (.cells #[.slice ka d.kept.length kc, .slice ca d.cache.length cc, .int .i64 d.fuse, .slice pa d.keep.length pc, .bool d.dead] 69)) zeroL 69
  rw [show (w.alloc (.cells #[.slice ka d.kept.length kc, .slice ca d.cache.length cc, .int .i64 d.fuse, .slice pa d.keep.length pc, .bool d.dead] 69)).heap.size = w.heap.size + 1 from by simp] at r0
  have y0 : Ext w ((w.alloc (.cells #[.slice ka d.kept.length kc, .slice ca d.cache.length cc, .int .i64 d.fuse, .slice pa d.keep.length pc, .bool d.dead] 69)).alloc (.cells #[.slice none 0 0, .slice none 0 0, .int .i64 0, .slice none 0 0, .bool false] 69)) := ((Ext.refl w).alloc _).alloc _
  have hz : ((w.alloc (.cells #[.slice ka d.kept.length kc, .slice ca d.cache.length cc, .int .i64 d.fuse, .slice pa d.keep.length pc, .bool d.dead] 69)).alloc (.cells #[.slice none 0 0, .slice none 0 0, .int .i64 0, .slice none 0 0, .bool false] 69)).heap.size = w.heap.size + 2 := by simp
  generalize hw0 : (w.alloc (.cells #[.slice ka d.kept.length kc, .slice ca d.cache.length cc, .int .i64 d.fuse, .slice pa d.keep.length pc, .bool d.dead] 69)).alloc (.cells #[.slice none 0 0, .slice none 0 0, .int .i64 0, .slice none 0 0, .bool false] 69) = w0 at *
  unfold diskV at hm hcp h ⊢
  obtain ⟨⟨i0, i1, i2, i3, i4⟩, f0, f1, f2, f3, f4⟩ := b0.at5
  replace hm := Lib.hid hm; replace hcp := Lib.hid hcp; replace h := Lib.hid h; replace b0 := Lib.hid b0; replace r0 := Lib.hid r0; replace hz := Lib.hid hz
  cases hmay : Dev.may d with
  | false =>
    rw [show Dev.write d x s = (Dev.no, 1) from by unfold Dev.write; rw [if_pos hmay]]
    replace hm := hm.out
    rw [hmay] at hm
    replace hm := Lib.hid hm
    clear hmay
    go_enter Try.func64, Try.ntmps64
    go_wp2_with fail
    refine (hm.out _ (h.out.ext y0)).mono ?_; rintro e w1 ⟨rfl, x1⟩
    clear i0 i1 i2 i3 i4 f0 f1 f2 f3 f4 hw0
    have r1 := r0.out.ext x1
    have y1 := y0.trans x1
    clear x1 y0
    obtain ⟨_, g0, g1, g2, g3, g4⟩ := r1.at5
    have r2 := (((((r1.set 0 (.slice none 0 0) (by simp)).set 1 (.slice none 0 0) (by simp)).set 2 (.int .i64 0) (by simp)).set 3 (.slice none 0 0) (by simp)).set 4 (.bool false) (by simp))
    obtain ⟨⟨m0, m1, m2, m3, m4⟩, _⟩ := r2.at5
    replace m0 := Lib.hid m0; replace m1 := Lib.hid m1; replace m2 := Lib.hid m2; replace m3 := Lib.hid m3; replace m4 := Lib.hid m4
    replace r1 := Lib.hid r1; replace r2 := Lib.hid r2
    go_wp2_with fail
    refine bodyPost_ret (v := .tuple #[diskV (.slice none 0 0) (.slice none 0 0) (0) (.slice none 0 0) (false), .int .i64 1]) ?_ rfl ⟨_, rfl, ?_, ?_⟩
    · simp [results, Try.results64, go_sem, m0.out, m1.out, m2.out, m3.out, m4.out, diskV]
    · exact diskIn_no _
    · exact (((((y1).below.setCell (by simp) _).setCell (by simp) _).setCell (by simp) _).setCell (by simp) _).setCell (by simp) _
  | true =>
    cases hdead : d.dead with
    | true =>
      replace hcp := hcp.out; replace h := h.out; replace b0 := b0.out; replace hm := hm.out
      rw [hdead] at hcp h b0 hw0 i4 hm
      replace hm := Lib.hid hm; replace hcp := Lib.hid hcp; replace h := Lib.hid h; replace b0 := Lib.hid b0; replace hdead := Lib.hid hdead
      rw [show Dev.write d x s = (d, 90) from by unfold Dev.write; rw [if_neg (by rw [hmay]; decide), if_pos hdead.out]]
      obtain ⟨q1, q2, q3⟩ := may_small hmay
      replace hm := hm.out
      rw [hmay] at hm
      replace hm := Lib.hid hm; replace q3 := Lib.hid q3
      clear hmay
      go_enter Try.func64, Try.ntmps64
      go_wp2_with fail
      refine (hm.out _ (h.out.ext y0)).mono ?_; rintro e w1 ⟨rfl, x1⟩
      clear i0 i1 i2 i3 i4 f0 f1 f2 f3 f4 hw0
      replace r0 := Lib.hid (r0.out.ext x1)
      replace b0 := Lib.hid (b0.out.ext x1)
      obtain ⟨⟨i0, i1, i2, i3, i4⟩, f0, f1, f2, f3, f4⟩ := b0.out.at5
      have y1 := y0.trans x1
      have hl1 := x1.size
      clear x1 y0
      go_wp2_with fail
      refine (hcp.out _ (h.out.ext y1) q1 q2).mono ?_; rintro e w2 ⟨k', c', p', B1, rfl, D, x2, hsep⟩
      clear i0 i1 i2 i3 i4 f0 f1 f2 f3 f4
      obtain ⟨ka', kb', e1⟩ := owned_slice D.kept
      subst e1
      obtain ⟨ca', cb', e2⟩ := owned_slice D.cache
      subst e2
      obtain ⟨pa', pb', e3⟩ := owned_slice D.keep
      subst e3
      have hlt : w.heap.size + 1 < w1.heap.size := by rw [hz.out] at hl1; omega
      replace D := Lib.hid D
      have bo := Box.new w2 (diskL (.slice ka' d.kept.length kb') (.slice ca' d.cache.length cb') d.fuse (.slice pa' d.keep.length pb') true) 69
      obtain ⟨⟨j0, j1, j2, j3, j4⟩, _⟩ := bo.at5
      obtain ⟨⟨i0, i1, i2, i3, i4⟩, f0, f1, f2, f3, f4⟩ := ((b0.out.ext x2).alloc (.cells #[.slice ka' d.kept.length kb', .slice ca' d.cache.length cb', .int .i64 d.fuse, .slice pa' d.keep.length pb', .bool true] 69)).at5
      have r1 := (r0.out.ext x2).alloc (.cells #[.slice ka' d.kept.length kb', .slice ca' d.cache.length cb', .int .i64 d.fuse, .slice pa' d.keep.length pb', .bool true] 69)
      have D2 := Lib.hid (D.out.ext ((Ext.refl w2).alloc (.cells #[.slice ka' d.kept.length kb', .slice ca' d.cache.length cb', .int .i64 d.fuse, .slice pa' d.keep.length pb', .bool true] 69)))
      have y2 := (y1.trans x2).alloc (.cells #[.slice ka' d.kept.length kb', .slice ca' d.cache.length cb', .int .i64 d.fuse, .slice pa' d.keep.length pb', .bool true] 69)
      replace bo := Lib.hid bo
      clear hsep
      obtain ⟨_, g0, g1, g2, g3, g4⟩ := r1.at5
      have r2 := (((((r1.set 0 (.slice ka' d.kept.length kb') (by simp)).set 1 (.slice ca' d.cache.length cb') (by simp)).set 2 (.int .i64 d.fuse) (by simp)).set 3 (.slice pa' d.keep.length pb') (by simp)).set 4 (.bool true) (by simp))
      obtain ⟨⟨m0, m1, m2, m3, m4⟩, _⟩ := r2.at5
      replace m0 := Lib.hid m0; replace m1 := Lib.hid m1; replace m2 := Lib.hid m2; replace m3 := Lib.hid m3; replace m4 := Lib.hid m4
      replace r1 := Lib.hid r1; replace r2 := Lib.hid r2
      go_wp2_with fail
      refine bodyPost_ret (v := .tuple #[diskV (.slice ka' d.kept.length kb') (.slice ca' d.cache.length cb') (d.fuse) (.slice pa' d.keep.length pb') (true), .int .i64 90]) ?_ rfl ⟨_, rfl, ?_, ?_⟩
      · simp [results, Try.results64, go_sem, m0.out, m1.out, m2.out, m3.out, m4.out, diskV]
      · have D4 := (((((D2.out.under _ 0 (.slice ka' d.kept.length kb') hlt).under _ 1 (.slice ca' d.cache.length cb') hlt).under _ 2 (.int .i64 d.fuse) hlt).under _ 3 (.slice pa' d.keep.length pb') hlt).under _ 4 (.bool true) hlt)
        have D5 := D4.disk
        rw [hdead.out] at D5
        exact D5
      · exact (((((y2).below.setCell (by simp) _).setCell (by simp) _).setCell (by simp) _).setCell (by simp) _).setCell (by simp) _
    | false =>
      replace hcp := hcp.out; replace h := h.out; replace b0 := b0.out; replace hm := hm.out
      rw [hdead] at hcp h b0 hw0 i4 hm
      replace hm := Lib.hid hm; replace hcp := Lib.hid hcp; replace h := Lib.hid h; replace b0 := Lib.hid b0; replace hdead := Lib.hid hdead
      have h99 := there_any ka d.kept.length kc (.slice ca d.cache.length cc) (.slice pa d.keep.length pc) d.fuse false x hkn
      unfold diskV at h99
      by_cases hin : 0 ≤ x ∧ x < (d.kept.length : Int)
      · rw [decide_eq_true hin] at h99
        by_cases hs : s.size = 32
        · have hs1 : ((s.size : Int) == 32) = true := by simp; omega
          have hs2 : ((s.size : Int) != 32) = false := by simp; omega
          by_cases hM : d.cache.length = 20000
          · have hM1 : ((d.cache.length : Int) == 20000) = true := by simp; omega
            have hspec : Dev.write d x s = (d, 1) := by unfold Dev.write; rw [if_neg (by rw [hmay]; decide), if_neg (by rw [hdead.out]; decide), if_pos (by omega)]
            replace h99 := Lib.hid h99; replace hs := Lib.hid hs; replace hM := Lib.hid hM
            rw [hspec]; clear hspec
            obtain ⟨q1, q2, q3⟩ := may_small hmay
            replace hm := hm.out
            rw [hmay] at hm
            replace hm := Lib.hid hm; replace q3 := Lib.hid q3
            clear hmay
            go_enter Try.func64, Try.ntmps64
            go_wp2_with fail
            refine (hm.out _ (h.out.ext y0)).mono ?_; rintro e w1 ⟨rfl, x1⟩
            clear i0 i1 i2 i3 i4 f0 f1 f2 f3 f4 hw0
            replace r0 := Lib.hid (r0.out.ext x1)
            replace b0 := Lib.hid (b0.out.ext x1)
            obtain ⟨⟨i0, i1, i2, i3, i4⟩, f0, f1, f2, f3, f4⟩ := b0.out.at5
            have y1 := y0.trans x1
            have hl1 := x1.size
            clear x1 y0
            go_wp2_with fail
            refine (hcp.out _ (h.out.ext y1) q1 q2).mono ?_; rintro e w2 ⟨k', c', p', B1, rfl, D, x2, hsep⟩
            clear i0 i1 i2 i3 i4 f0 f1 f2 f3 f4
            obtain ⟨ka', kb', e1⟩ := owned_slice D.kept
            subst e1
            obtain ⟨ca', cb', e2⟩ := owned_slice D.cache
            subst e2
            obtain ⟨pa', pb', e3⟩ := owned_slice D.keep
            subst e3
            have hlt : w.heap.size + 1 < w1.heap.size := by rw [hz.out] at hl1; omega
            replace D := Lib.hid D
            have hsepO := Lib.hid hsep
            have hkO := Lib.hid D.out.keptB
            have hcO := Lib.hid (fun g hg => World.ownsRow.lt D.out.cache g hg)
            have hpO := Lib.hid (fun g hg => (World.ownsRow.lt D.out.keep g hg).2)
            have hle := D.out.le
            have htop := D.out.top
            have hl2 := x2.size
            have bo := Box.new w2 (diskL (.slice ka' d.kept.length kb') (.slice ca' d.cache.length cb') d.fuse (.slice pa' d.keep.length pb') false) 69
            have hobj := heap_new w2 (.cells #[.slice ka' d.kept.length kb', .slice ca' d.cache.length cb', .int .i64 d.fuse, .slice pa' d.keep.length pb', .bool false] 69)
            obtain ⟨⟨j0, j1, j2, j3, j4⟩, _⟩ := bo.at5
            obtain ⟨⟨i0, i1, i2, i3, i4⟩, f0, f1, f2, f3, f4⟩ := ((b0.out.ext x2).alloc (.cells #[.slice ka' d.kept.length kb', .slice ca' d.cache.length cb', .int .i64 d.fuse, .slice pa' d.keep.length pb', .bool false] 69)).at5
            have D2 := Lib.hid (D.out.ext ((Ext.refl w2).alloc (.cells #[.slice ka' d.kept.length kb', .slice ca' d.cache.length cb', .int .i64 d.fuse, .slice pa' d.keep.length pb', .bool false] 69)))
            have z2 := x2.alloc (.cells #[.slice ka' d.kept.length kb', .slice ca' d.cache.length cb', .int .i64 d.fuse, .slice pa' d.keep.length pb', .bool false] 69)
            have hV2 : (w2.alloc (.cells #[.slice ka' d.kept.length kb', .slice ca' d.cache.length cb', .int .i64 d.fuse, .slice pa' d.keep.length pb', .bool false] 69)).heap.size = w2.heap.size + 1 := by simp
            replace bo := Lib.hid bo; replace hobj := Lib.hid hobj; replace hV2 := Lib.hid hV2
            clear hsep x2
            go_wp2_with fail
            refine (h99.out _).mono ?_; rintro e w3 ⟨rfl, x3⟩
            clear i0 i1 i2 i3 i4 f0 f1 f2 f3 f4 j0 j1 j2 j3 j4
            replace z2 := z2.trans x3
            obtain ⟨⟨j0, j1, j2, j3, j4⟩, g0', g1', g2', g3', g4'⟩ := (bo.out.ext x3).at5
            replace D2 := Lib.hid (D2.out.ext x3)
            have r1 := r0.out.ext z2
            have y2 := y1.trans z2
            obtain ⟨⟨i0, i1, i2, i3, i4⟩, _⟩ := (b0.out.ext z2).at5
            obtain ⟨_, g0, g1, g2, g3, g4⟩ := r1.at5
            have r2 := (((((r1.set 0 (.slice ka' d.kept.length kb') (by simp)).set 1 (.slice ca' d.cache.length cb') (by simp)).set 2 (.int .i64 d.fuse) (by simp)).set 3 (.slice pa' d.keep.length pb') (by simp)).set 4 (.bool false) (by simp))
            obtain ⟨⟨m0, m1, m2, m3, m4⟩, _⟩ := r2.at5
            replace m0 := Lib.hid m0; replace m1 := Lib.hid m1; replace m2 := Lib.hid m2; replace m3 := Lib.hid m3; replace m4 := Lib.hid m4
            replace r1 := Lib.hid r1; replace r2 := Lib.hid r2
            go_wp2_with fail
            refine bodyPost_ret (v := .tuple #[diskV (.slice ka' d.kept.length kb') (.slice ca' d.cache.length cb') (d.fuse) (.slice pa' d.keep.length pb') (false), .int .i64 1]) ?_ rfl ⟨_, rfl, ?_, ?_⟩
            · simp [results, Try.results64, go_sem, m0.out, m1.out, m2.out, m3.out, m4.out, diskV]
            · have D4 := (((((D2.out.under _ 0 (.slice ka' d.kept.length kb') hlt).under _ 1 (.slice ca' d.cache.length cb') hlt).under _ 2 (.int .i64 d.fuse) hlt).under _ 3 (.slice pa' d.keep.length pb') hlt).under _ 4 (.bool false) hlt)
              have D5 := D4.disk
              rw [hdead.out] at D5
              exact D5
            · exact (((((y2).below.setCell (by simp) _).setCell (by simp) _).setCell (by simp) _).setCell (by simp) _).setCell (by simp) _
          · have hM1 : ((d.cache.length : Int) == 20000) = false := by simp; omega
            have hmf := (Dev.may_iff d).1 hmay
            have hlt20 : d.cache.length < 20000 := by have := hmf.1.2.2.1; omega
            have hfm := hmf.1.2.2.2
            clear hmf
            have hspec : Dev.write d x s = if d.fuse = 0 then (⟨Dev.putSome d.kept (d.cache ++ [(x, s)]) d.keep, [], -1, [], true⟩, 90) else (⟨d.kept, d.cache ++ [(x, s)], if 0 < d.fuse then d.fuse - 1 else d.fuse, d.keep, false⟩, 0) := by
              unfold Dev.write; rw [if_neg (by rw [hmay]; decide), if_neg (by rw [hdead.out]; decide), if_neg (by omega)]; unfold Dev.more Dev.dieOf; simp only [hdead.out]
            replace h99 := Lib.hid h99; replace hs := Lib.hid hs; replace hM := Lib.hid hM; replace hin := Lib.hid hin
            by_cases hf0 : d.fuse = 0
            · rw [if_pos hf0] at hspec
              have u1 : decide (0 < d.fuse) = false := decide_eq_false (by omega)
              have u2 : (d.fuse == -1) = false := by simp; omega
              replace hf0 := Lib.hid hf0
              rw [hspec]; clear hspec
              obtain ⟨q1, q2, q3⟩ := may_small hmay
              replace hm := hm.out
              rw [hmay] at hm
              replace hm := Lib.hid hm; replace q3 := Lib.hid q3
              clear hmay
              go_enter Try.func64, Try.ntmps64
              go_wp2_with fail
              refine (hm.out _ (h.out.ext y0)).mono ?_; rintro e w1 ⟨rfl, x1⟩
              clear i0 i1 i2 i3 i4 f0 f1 f2 f3 f4 hw0
              replace r0 := Lib.hid (r0.out.ext x1)
              replace b0 := Lib.hid (b0.out.ext x1)
              obtain ⟨⟨i0, i1, i2, i3, i4⟩, f0, f1, f2, f3, f4⟩ := b0.out.at5
              have y1 := y0.trans x1
              have hl1 := x1.size
              clear x1 y0
              go_wp2_with fail
              refine (hcp.out _ (h.out.ext y1) q1 q2).mono ?_; rintro e w2 ⟨k', c', p', B1, rfl, D, x2, hsep⟩
              clear i0 i1 i2 i3 i4 f0 f1 f2 f3 f4
              obtain ⟨ka', kb', e1⟩ := owned_slice D.kept
              subst e1
              obtain ⟨ca', cb', e2⟩ := owned_slice D.cache
              subst e2
              obtain ⟨pa', pb', e3⟩ := owned_slice D.keep
              subst e3
              have hlt : w.heap.size + 1 < w1.heap.size := by rw [hz.out] at hl1; omega
              replace D := Lib.hid D
              have hsepO := Lib.hid hsep
              have hkO := Lib.hid D.out.keptB
              have hcO := Lib.hid (fun g hg => World.ownsRow.lt D.out.cache g hg)
              have hpO := Lib.hid (fun g hg => (World.ownsRow.lt D.out.keep g hg).2)
              have hle := D.out.le
              have htop := D.out.top
              have hl2 := x2.size
              have bo := Box.new w2 (diskL (.slice ka' d.kept.length kb') (.slice ca' d.cache.length cb') d.fuse (.slice pa' d.keep.length pb') false) 69
              have hobj := heap_new w2 (.cells #[.slice ka' d.kept.length kb', .slice ca' d.cache.length cb', .int .i64 d.fuse, .slice pa' d.keep.length pb', .bool false] 69)
              obtain ⟨⟨j0, j1, j2, j3, j4⟩, _⟩ := bo.at5
              obtain ⟨⟨i0, i1, i2, i3, i4⟩, f0, f1, f2, f3, f4⟩ := ((b0.out.ext x2).alloc (.cells #[.slice ka' d.kept.length kb', .slice ca' d.cache.length cb', .int .i64 d.fuse, .slice pa' d.keep.length pb', .bool false] 69)).at5
              have D2 := Lib.hid (D.out.ext ((Ext.refl w2).alloc (.cells #[.slice ka' d.kept.length kb', .slice ca' d.cache.length cb', .int .i64 d.fuse, .slice pa' d.keep.length pb', .bool false] 69)))
              have z2 := x2.alloc (.cells #[.slice ka' d.kept.length kb', .slice ca' d.cache.length cb', .int .i64 d.fuse, .slice pa' d.keep.length pb', .bool false] 69)
              have hV2 : (w2.alloc (.cells #[.slice ka' d.kept.length kb', .slice ca' d.cache.length cb', .int .i64 d.fuse, .slice pa' d.keep.length pb', .bool false] 69)).heap.size = w2.heap.size + 1 := by simp
              replace bo := Lib.hid bo; replace hobj := Lib.hid hobj; replace hV2 := Lib.hid hV2
              clear hsep x2
              go_wp2_with fail
              refine (h99.out _).mono ?_; rintro e w3 ⟨rfl, x3⟩
              clear i0 i1 i2 i3 i4 f0 f1 f2 f3 f4 j0 j1 j2 j3 j4
              replace z2 := z2.trans x3
              obtain ⟨⟨j0, j1, j2, j3, j4⟩, g0', g1', g2', g3', g4'⟩ := (bo.out.ext x3).at5
              replace D2 := Lib.hid (D2.out.ext x3)
              obtain ⟨⟨ii0, ii1, ii2, ii3, ii4⟩, _⟩ := (b0.out.ext z2).at5
              have bo3 := (bo.out.ext x3).alloc (.cells #[.int .i64 x, .string s] 90)
              have D3 := D2.out.ext ((Ext.refl w3).alloc (.cells #[.int .i64 x, .string s] 90))
              have z3 := z2.alloc (.cells #[.int .i64 x, .string s] 90)
              have hs3 : (w3.alloc (.cells #[.int .i64 x, .string s] 90)).heap.size = w3.heap.size + 1 := by simp
              have hnew := Box.new w3 [.int .i64 x, .string s] 90
              have hl3 := x3.size
              rw [hV2.out] at hl3
              have hobj3 : (w3.alloc (.cells #[.int .i64 x, .string s] 90)).heap[w2.heap.size]? = _ := ((x3.alloc (.cells #[.int .i64 x, .string s] 90)).below.block w2.heap.size (by rw [hV2.out]; omega)).trans hobj.out
              obtain ⟨i0w, hi, hz0, hz1, hz2⟩ := info_parts info90
              obtain ⟨⟨i0, i1, i2, i3, i4⟩, f0, f1, f2, f3, f4⟩ := bo3.at5
              generalize hW3 : w3.alloc (.cells #[.int .i64 x, .string s] 90) = V3 at *
              have hCk := D3.cache
              obtain ⟨hb3, hb2, hb1⟩ : B1 ≤ V3.heap.size ∧ (d.cache.length + 1) * 24 ≤ 140737488355328 ∧ d.cache.length + 1 ≤ maxLen := ⟨D3.top, by omega, by unfold maxLen; omega⟩
              replace D3 := Lib.hid D3; replace bo3 := Lib.hid bo3; replace hs3 := Lib.hid hs3; replace hnew := Lib.hid hnew; replace hobj3 := Lib.hid hobj3; replace hCk := Lib.hid hCk
              go_wp2_with (at_builtin; refine wpList_append_own V3 rfl _ _ 67 rfl B1 90 i0w zero90 2 24 Try.underlying67 hi hz0 hz1 hz2 rfl (by decide) _ d.cache.length (putCells d.cache) rfl hCk.out ⟨w3.heap.size, 0, none⟩ 1 1 [.int .i64 x, .string s] rfl rfl ?news ?one ?c1 ?c2 ?c3 ?_)
              case news =>
                intro j u hj
                have := hnew.out.cell j u hj
                unfold Addr.add
                split
                · rename_i hj0; subst hj0; exact this
                · rw [Nat.zero_add]; exact this
              case one =>
                intro y hy
                simp only [List.mem_cons, List.not_mem_nil, or_false] at hy
                rcases hy with rfl | rfl <;> rfl
              case c1 => exact hb1
              case c2 => exact hb2
              case c3 => exact hb3
              intro v' w4 hown4 hg4 _
              rw [show putCells d.cache ++ [.int .i64 x, .string s] = putCells (d.cache ++ [(x, s)]) from by rw [putCells_append]; rfl] at hown4
              obtain ⟨va, vb, e6⟩ := owned_slice hown4
              subst e6
              clear i0 i1 i2 i3 i4 f0 f1 f2 f3 f4 hW3 ii0 ii1 ii2 ii3 ii4 j0 j1 j2 j3 j4 g0' g1' g2' g3' g4'
              have hl4 := hg4.size
              have hs3' := hs3.out
              have hcB := fun g hg => (hcO.out g hg).1
              have hcL := fun g hg => (hcO.out g hg).2
              have k4 : w4.ownsRow w1.heap.size 9 1 (.slice ka' d.kept.length kb') d.kept.length (d.kept.map strV) := D3.out.kept.kept hg4 (by
                cases hv : (Value.slice ka' d.kept.length kb').ownBlock with
                | none => exact .inl rfl
                | some g =>
                  refine .inr fun e => ?_
                  have h6 := hkO.out g hv
                  have h7 := hcB g e.symm
                  omega)
              have p4 : w4.ownsRow B1 4 1 (.slice pa' d.keep.length pb') d.keep.length (d.keep.map boolV) := D3.out.keep.kept hg4 (by
                cases hv : (Value.slice pa' d.keep.length pb').ownBlock with
                | none => exact .inl rfl
                | some g => exact .inr fun e => hsepO.out g e.symm hv)
              have bo4 : Box w2.heap.size (diskL (.slice ka' d.kept.length kb') (.slice ca' d.cache.length cb') d.fuse (.slice pa' d.keep.length pb') false) w4 := bo3.out.grown hg4 (fun e => by have := hcL _ e; omega)
              have z4 : Ext w1 w4 := z3.grown hg4 (fun g hg => by have := hcB g hg; omega)
              have hobj4 := (hg4.block w2.heap.size (by omega) (fun e => by have := hcL _ e.symm; omega)).trans hobj3.out
              have hnb := row_not_box hown4 w2.heap.size _ 69 _ hobj4 (by decide)
              obtain ⟨⟨i0, i1, i2, i3, i4⟩, f0, f1, f2, f3, f4⟩ := bo4.at5
              have bo5 := bo4.set 1 (.slice va (d.cache.length + 1) vb) (by simp)
              obtain ⟨⟨m0, m1, m2, m3, m4⟩, n0, n1, n2, n3, n4⟩ := bo5.at5
              have k5 := ownsRow_other k4 w2.heap.size 1 (.slice va (d.cache.length + 1) vb) (by
                cases hv : (Value.slice ka' d.kept.length kb').ownBlock with
                | none => exact .inl rfl
                | some g => exact .inr fun e => by simp only [Option.some.injEq] at e; have := hkO.out g hv; omega)
              have p5 := ownsRow_other p4 w2.heap.size 1 (.slice va (d.cache.length + 1) vb) (by
                cases hv : (Value.slice pa' d.keep.length pb').ownBlock with
                | none => exact .inl rfl
                | some g => exact .inr fun e => by simp only [Option.some.injEq] at e; have := hpO.out g hv; omega)
              have v5 := ownsRow_other hown4 w2.heap.size 1 (.slice va (d.cache.length + 1) vb) (.inr hnb)
              have z5 := Ext.mk (z4.below.setCell (p := ⟨w2.heap.size, 1, none⟩) (by show w1.heap.size ≤ w2.heap.size; omega) (.slice va (d.cache.length + 1) vb))
              have hz5 : (w4.setCell ⟨w2.heap.size, 1, none⟩ (.slice va (d.cache.length + 1) vb)).heap.size = w4.heap.size := World.size_setCell w4 _ _
              generalize hW5 : w4.setCell ⟨w2.heap.size, 1, none⟩ (.slice va (d.cache.length + 1) vb) = W5 at *
              replace k5 := Lib.hid k5; replace p5 := Lib.hid p5; replace v5 := Lib.hid v5; replace bo5 := Lib.hid bo5; replace hz5 := Lib.hid hz5
              replace hnb := Lib.hid hnb; replace hobj4 := Lib.hid hobj4; replace bo4 := Lib.hid bo4; replace k4 := Lib.hid k4; replace p4 := Lib.hid p4; replace hown4 := Lib.hid hown4; replace hcB := Lib.hid hcB; replace hcL := Lib.hid hcL; replace hs3' := Lib.hid hs3'
              have hB5 : B1 ≤ W5.heap.size := by rw [hz5.out]; omega
              have D5 : OwnDisk w1.heap.size B1 W5 (.slice ka' d.kept.length kb') (.slice va (d.cache.length + 1) vb) (.slice pa' d.keep.length pb') (Dev.more d x s) :=
                ⟨k5.out, hkO.out, hle, by have := v5.out; rw [show (Dev.more d x s).cache.length = d.cache.length + 1 from by simp [Dev.more]]; exact this, p5.out, hB5⟩
              have hd : Calls Try.prog 100 #[.agg #[.slice ka' d.kept.length kb', .slice va (d.cache.length + 1) vb, .int .i64 d.fuse, .slice pa' d.keep.length pb', .bool false], .slice pa' d.keep.length pb'] W5 fun e w' => e = .returned (.agg #[.slice ka' d.kept.length kb', .slice none 0 0, .int .i64 (-1), .slice none 0 0, .bool true]) ∧
                  w'.ownsRow w1.heap.size 9 1 (.slice ka' d.kept.length kb') d.kept.length ((Dev.putSome d.kept (d.cache ++ [(x, s)]) d.keep).map strV) ∧ Ext w1 w' := by
                have := die_any (Dev.more d x s) (.slice ka' d.kept.length kb') (.slice va (d.cache.length + 1) vb) (.slice pa' d.keep.length pb') (.slice pa' d.keep.length pb') d.keep w1.heap.size B1 W5 w1 D5 (Nat.le_refl _) hB5 z5 (farSl_owned p5.out) (fun q hq => by
                  rcases List.mem_append.1 hq with h | h
                  · exact q3.out q h
                  · rw [List.mem_singleton] at h; subst h; exact hin.out) q1 (by simp [Dev.more]; omega)
                unfold diskV at this
                rw [show (Dev.more d x s).dead = false from hdead.out] at this
                exact this
              replace hd := Lib.hid hd
              clear D5
              go_wp2_with fail
              refine hd.out.mono ?_; rintro e w6 ⟨rfl, hown6, x6⟩
              have r1 := r0.out.ext x6
              have y6 := y1.trans x6
              replace hown6 := Lib.hid hown6
              clear x6 m0 m1 m2 m3 m4 n0 n1 n2 n3 n4
              obtain ⟨_, g0, g1, g2, g3, g4⟩ := r1.at5
              have r2 := (((((r1.set 0 (.slice ka' d.kept.length kb') (by simp)).set 1 (.slice none 0 0) (by simp)).set 2 (.int .i64 (-1)) (by simp)).set 3 (.slice none 0 0) (by simp)).set 4 (.bool true) (by simp))
              obtain ⟨⟨m0, m1, m2, m3, m4⟩, _⟩ := r2.at5
              replace m0 := Lib.hid m0; replace m1 := Lib.hid m1; replace m2 := Lib.hid m2; replace m3 := Lib.hid m3; replace m4 := Lib.hid m4
              replace r1 := Lib.hid r1; replace r2 := Lib.hid r2
              go_wp2_with fail
              refine bodyPost_ret (v := .tuple #[diskV (.slice ka' d.kept.length kb') (.slice none 0 0) ((-1)) (.slice none 0 0) (true), .int .i64 90]) ?_ rfl ⟨_, rfl, ?_, ?_⟩
              · simp [results, Try.results64, go_sem, m0.out, m1.out, m2.out, m3.out, m4.out, diskV]
              · have ho := (ownsRow_under (ownsRow_under (ownsRow_under (ownsRow_under (ownsRow_under hown6.out _ 0 (.slice ka' d.kept.length kb') hlt) _ 1 (.slice none 0 0) hlt) _ 2 (.int .i64 (-1)) hlt) _ 3 (.slice none 0 0) hlt) _ 4 (.bool true) hlt)
                exact ⟨_, _, _, rfl, Sl.owned ho, SlP.nil _, Sl.nil _, nilOr_owned ho, .inl rfl⟩
              · exact (((((y6).below.setCell (by simp) _).setCell (by simp) _).setCell (by simp) _).setCell (by simp) _).setCell (by simp) _
            · rw [if_neg hf0] at hspec
              by_cases hfp : 0 < d.fuse
              · rw [if_pos hfp] at hspec
                have u1 : decide (0 < d.fuse) = true := decide_eq_true hfp
                replace hf0 := Lib.hid hf0
                rw [hspec]; clear hspec
                obtain ⟨q1, q2, q3⟩ := may_small hmay
                replace hm := hm.out
                rw [hmay] at hm
                replace hm := Lib.hid hm; replace q3 := Lib.hid q3
                clear hmay
                go_enter Try.func64, Try.ntmps64
                go_wp2_with fail
                refine (hm.out _ (h.out.ext y0)).mono ?_; rintro e w1 ⟨rfl, x1⟩
                clear i0 i1 i2 i3 i4 f0 f1 f2 f3 f4 hw0
                replace r0 := Lib.hid (r0.out.ext x1)
                replace b0 := Lib.hid (b0.out.ext x1)
                obtain ⟨⟨i0, i1, i2, i3, i4⟩, f0, f1, f2, f3, f4⟩ := b0.out.at5
                have y1 := y0.trans x1
                have hl1 := x1.size
                clear x1 y0
                go_wp2_with fail
                refine (hcp.out _ (h.out.ext y1) q1 q2).mono ?_; rintro e w2 ⟨k', c', p', B1, rfl, D, x2, hsep⟩
                clear i0 i1 i2 i3 i4 f0 f1 f2 f3 f4
                obtain ⟨ka', kb', e1⟩ := owned_slice D.kept
                subst e1
                obtain ⟨ca', cb', e2⟩ := owned_slice D.cache
                subst e2
                obtain ⟨pa', pb', e3⟩ := owned_slice D.keep
                subst e3
                have hlt : w.heap.size + 1 < w1.heap.size := by rw [hz.out] at hl1; omega
                replace D := Lib.hid D
                have hsepO := Lib.hid hsep
                have hkO := Lib.hid D.out.keptB
                have hcO := Lib.hid (fun g hg => World.ownsRow.lt D.out.cache g hg)
                have hpO := Lib.hid (fun g hg => (World.ownsRow.lt D.out.keep g hg).2)
                have hle := D.out.le
                have htop := D.out.top
                have hl2 := x2.size
                have bo := Box.new w2 (diskL (.slice ka' d.kept.length kb') (.slice ca' d.cache.length cb') d.fuse (.slice pa' d.keep.length pb') false) 69
                have hobj := heap_new w2 (.cells #[.slice ka' d.kept.length kb', .slice ca' d.cache.length cb', .int .i64 d.fuse, .slice pa' d.keep.length pb', .bool false] 69)
                obtain ⟨⟨j0, j1, j2, j3, j4⟩, _⟩ := bo.at5
                obtain ⟨⟨i0, i1, i2, i3, i4⟩, f0, f1, f2, f3, f4⟩ := ((b0.out.ext x2).alloc (.cells #[.slice ka' d.kept.length kb', .slice ca' d.cache.length cb', .int .i64 d.fuse, .slice pa' d.keep.length pb', .bool false] 69)).at5
                have D2 := Lib.hid (D.out.ext ((Ext.refl w2).alloc (.cells #[.slice ka' d.kept.length kb', .slice ca' d.cache.length cb', .int .i64 d.fuse, .slice pa' d.keep.length pb', .bool false] 69)))
                have z2 := x2.alloc (.cells #[.slice ka' d.kept.length kb', .slice ca' d.cache.length cb', .int .i64 d.fuse, .slice pa' d.keep.length pb', .bool false] 69)
                have hV2 : (w2.alloc (.cells #[.slice ka' d.kept.length kb', .slice ca' d.cache.length cb', .int .i64 d.fuse, .slice pa' d.keep.length pb', .bool false] 69)).heap.size = w2.heap.size + 1 := by simp
                replace bo := Lib.hid bo; replace hobj := Lib.hid hobj; replace hV2 := Lib.hid hV2
                clear hsep x2
                go_wp2_with fail
                refine (h99.out _).mono ?_; rintro e w3 ⟨rfl, x3⟩
                clear i0 i1 i2 i3 i4 f0 f1 f2 f3 f4 j0 j1 j2 j3 j4
                replace z2 := z2.trans x3
                obtain ⟨⟨j0, j1, j2, j3, j4⟩, g0', g1', g2', g3', g4'⟩ := (bo.out.ext x3).at5
                replace D2 := Lib.hid (D2.out.ext x3)
                obtain ⟨⟨ii0, ii1, ii2, ii3, ii4⟩, _⟩ := (b0.out.ext z2).at5
                have bo3 := (bo.out.ext x3).alloc (.cells #[.int .i64 x, .string s] 90)
                have D3 := D2.out.ext ((Ext.refl w3).alloc (.cells #[.int .i64 x, .string s] 90))
                have z3 := z2.alloc (.cells #[.int .i64 x, .string s] 90)
                have hs3 : (w3.alloc (.cells #[.int .i64 x, .string s] 90)).heap.size = w3.heap.size + 1 := by simp
                have hnew := Box.new w3 [.int .i64 x, .string s] 90
                have hl3 := x3.size
                rw [hV2.out] at hl3
                have hobj3 : (w3.alloc (.cells #[.int .i64 x, .string s] 90)).heap[w2.heap.size]? = _ := ((x3.alloc (.cells #[.int .i64 x, .string s] 90)).below.block w2.heap.size (by rw [hV2.out]; omega)).trans hobj.out
                obtain ⟨i0w, hi, hz0, hz1, hz2⟩ := info_parts info90
                obtain ⟨⟨i0, i1, i2, i3, i4⟩, f0, f1, f2, f3, f4⟩ := bo3.at5
                generalize hW3 : w3.alloc (.cells #[.int .i64 x, .string s] 90) = V3 at *
                have hCk := D3.cache
                obtain ⟨hb3, hb2, hb1⟩ : B1 ≤ V3.heap.size ∧ (d.cache.length + 1) * 24 ≤ 140737488355328 ∧ d.cache.length + 1 ≤ maxLen := ⟨D3.top, by omega, by unfold maxLen; omega⟩
                replace D3 := Lib.hid D3; replace bo3 := Lib.hid bo3; replace hs3 := Lib.hid hs3; replace hnew := Lib.hid hnew; replace hobj3 := Lib.hid hobj3; replace hCk := Lib.hid hCk
                go_wp2_with (at_builtin; refine wpList_append_own V3 rfl _ _ 67 rfl B1 90 i0w zero90 2 24 Try.underlying67 hi hz0 hz1 hz2 rfl (by decide) _ d.cache.length (putCells d.cache) rfl hCk.out ⟨w3.heap.size, 0, none⟩ 1 1 [.int .i64 x, .string s] rfl rfl ?news ?one ?c1 ?c2 ?c3 ?_)
                case news =>
                  intro j u hj
                  have := hnew.out.cell j u hj
                  unfold Addr.add
                  split
                  · rename_i hj0; subst hj0; exact this
                  · rw [Nat.zero_add]; exact this
                case one =>
                  intro y hy
                  simp only [List.mem_cons, List.not_mem_nil, or_false] at hy
                  rcases hy with rfl | rfl <;> rfl
                case c1 => exact hb1
                case c2 => exact hb2
                case c3 => exact hb3
                intro v' w4 hown4 hg4 _
                rw [show putCells d.cache ++ [.int .i64 x, .string s] = putCells (d.cache ++ [(x, s)]) from by rw [putCells_append]; rfl] at hown4
                obtain ⟨va, vb, e6⟩ := owned_slice hown4
                subst e6
                clear i0 i1 i2 i3 i4 f0 f1 f2 f3 f4 hW3 ii0 ii1 ii2 ii3 ii4 j0 j1 j2 j3 j4 g0' g1' g2' g3' g4'
                have hl4 := hg4.size
                have hs3' := hs3.out
                have hcB := fun g hg => (hcO.out g hg).1
                have hcL := fun g hg => (hcO.out g hg).2
                have k4 : w4.ownsRow w1.heap.size 9 1 (.slice ka' d.kept.length kb') d.kept.length (d.kept.map strV) := D3.out.kept.kept hg4 (by
                  cases hv : (Value.slice ka' d.kept.length kb').ownBlock with
                  | none => exact .inl rfl
                  | some g =>
                    refine .inr fun e => ?_
                    have h6 := hkO.out g hv
                    have h7 := hcB g e.symm
                    omega)
                have p4 : w4.ownsRow B1 4 1 (.slice pa' d.keep.length pb') d.keep.length (d.keep.map boolV) := D3.out.keep.kept hg4 (by
                  cases hv : (Value.slice pa' d.keep.length pb').ownBlock with
                  | none => exact .inl rfl
                  | some g => exact .inr fun e => hsepO.out g e.symm hv)
                have bo4 : Box w2.heap.size (diskL (.slice ka' d.kept.length kb') (.slice ca' d.cache.length cb') d.fuse (.slice pa' d.keep.length pb') false) w4 := bo3.out.grown hg4 (fun e => by have := hcL _ e; omega)
                have z4 : Ext w1 w4 := z3.grown hg4 (fun g hg => by have := hcB g hg; omega)
                have hobj4 := (hg4.block w2.heap.size (by omega) (fun e => by have := hcL _ e.symm; omega)).trans hobj3.out
                have hnb := row_not_box hown4 w2.heap.size _ 69 _ hobj4 (by decide)
                obtain ⟨⟨i0, i1, i2, i3, i4⟩, f0, f1, f2, f3, f4⟩ := bo4.at5
                have bo5 := bo4.set 1 (.slice va (d.cache.length + 1) vb) (by simp)
                obtain ⟨⟨m0, m1, m2, m3, m4⟩, n0, n1, n2, n3, n4⟩ := bo5.at5
                have k5 := ownsRow_other k4 w2.heap.size 1 (.slice va (d.cache.length + 1) vb) (by
                  cases hv : (Value.slice ka' d.kept.length kb').ownBlock with
                  | none => exact .inl rfl
                  | some g => exact .inr fun e => by simp only [Option.some.injEq] at e; have := hkO.out g hv; omega)
                have p5 := ownsRow_other p4 w2.heap.size 1 (.slice va (d.cache.length + 1) vb) (by
                  cases hv : (Value.slice pa' d.keep.length pb').ownBlock with
                  | none => exact .inl rfl
                  | some g => exact .inr fun e => by simp only [Option.some.injEq] at e; have := hpO.out g hv; omega)
                have v5 := ownsRow_other hown4 w2.heap.size 1 (.slice va (d.cache.length + 1) vb) (.inr hnb)
                have z5 := Ext.mk (z4.below.setCell (p := ⟨w2.heap.size, 1, none⟩) (by show w1.heap.size ≤ w2.heap.size; omega) (.slice va (d.cache.length + 1) vb))
                have hz5 : (w4.setCell ⟨w2.heap.size, 1, none⟩ (.slice va (d.cache.length + 1) vb)).heap.size = w4.heap.size := World.size_setCell w4 _ _
                generalize hW5 : w4.setCell ⟨w2.heap.size, 1, none⟩ (.slice va (d.cache.length + 1) vb) = W5 at *
                replace k5 := Lib.hid k5; replace p5 := Lib.hid p5; replace v5 := Lib.hid v5; replace bo5 := Lib.hid bo5; replace hz5 := Lib.hid hz5
                replace hnb := Lib.hid hnb; replace hobj4 := Lib.hid hobj4; replace bo4 := Lib.hid bo4; replace k4 := Lib.hid k4; replace p4 := Lib.hid p4; replace hown4 := Lib.hid hown4; replace hcB := Lib.hid hcB; replace hcL := Lib.hid hcL; replace hs3' := Lib.hid hs3'
                have hlB1 : w.heap.size + 1 < B1 := by omega
                have y5 := y1.trans z5
                have r1 := r0.out.ext z5
                have hne : w2.heap.size ≠ w.heap.size + 1 := by omega
                replace r1 := r1.other hne 2 (.int .i64 (d.fuse - 1))
                have bo6 := bo5.out.set 2 (.int .i64 (d.fuse - 1)) (by simp)
                obtain ⟨⟨o0, o1, o2, o3, o4⟩, _⟩ := bo6.at5
                have kx := ownsRow_other k5.out w2.heap.size 2 (.int .i64 (d.fuse - 1)) (by
                  cases hv : (Value.slice ka' d.kept.length kb').ownBlock with
                  | none => exact .inl rfl
                  | some g => exact .inr fun e => by simp only [Option.some.injEq] at e; have := hkO.out g hv; omega)
                have px := ownsRow_other p5.out w2.heap.size 2 (.int .i64 (d.fuse - 1)) (by
                  cases hv : (Value.slice pa' d.keep.length pb').ownBlock with
                  | none => exact .inl rfl
                  | some g => exact .inr fun e => by simp only [Option.some.injEq] at e; have := hpO.out g hv; omega)
                have vx := ownsRow_other v5.out w2.heap.size 2 (.int .i64 (d.fuse - 1)) (.inr hnb.out)
                replace y5 := Ext.mk (y5.below.setCell (p := ⟨w2.heap.size, 2, none⟩) (by show w.heap.size ≤ w2.heap.size; omega) (.int .i64 (d.fuse - 1)))
                replace kx := Lib.hid kx; replace px := Lib.hid px; replace vx := Lib.hid vx; replace bo6 := Lib.hid bo6
                obtain ⟨_, g0, g1, g2, g3, g4⟩ := r1.at5
                have r2 := (((((r1.set 0 (.slice ka' d.kept.length kb') (by simp)).set 1 (.slice va (d.cache.length + 1) vb) (by simp)).set 2 (.int .i64 (d.fuse - 1)) (by simp)).set 3 (.slice pa' d.keep.length pb') (by simp)).set 4 (.bool false) (by simp))
                obtain ⟨⟨m0, m1, m2, m3, m4⟩, _⟩ := r2.at5
                replace m0 := Lib.hid m0; replace m1 := Lib.hid m1; replace m2 := Lib.hid m2; replace m3 := Lib.hid m3; replace m4 := Lib.hid m4
                replace r1 := Lib.hid r1; replace r2 := Lib.hid r2
                go_wp2_with fail
                refine bodyPost_ret (v := .tuple #[diskV (.slice ka' d.kept.length kb') (.slice va (d.cache.length + 1) vb) ((d.fuse - 1)) (.slice pa' d.keep.length pb') (false), .int .i64 0]) ?_ rfl ⟨_, rfl, ?_, ?_⟩
                · simp [results, Try.results64, go_sem, m0.out, m1.out, m2.out, m3.out, m4.out, diskV]
                · have k6 := (ownsRow_under (ownsRow_under (ownsRow_under (ownsRow_under (ownsRow_under kx.out _ 0 (.slice ka' d.kept.length kb') hlt) _ 1 (.slice va (d.cache.length + 1) vb) hlt) _ 2 (.int .i64 (d.fuse - 1)) hlt) _ 3 (.slice pa' d.keep.length pb') hlt) _ 4 (.bool false) hlt)
                  have v6 := (ownsRow_under (ownsRow_under (ownsRow_under (ownsRow_under (ownsRow_under vx.out _ 0 (.slice ka' d.kept.length kb') hlB1) _ 1 (.slice va (d.cache.length + 1) vb) hlB1) _ 2 (.int .i64 (d.fuse - 1)) hlB1) _ 3 (.slice pa' d.keep.length pb') hlB1) _ 4 (.bool false) hlB1)
                  have p6 := (ownsRow_under (ownsRow_under (ownsRow_under (ownsRow_under (ownsRow_under px.out _ 0 (.slice ka' d.kept.length kb') hlB1) _ 1 (.slice va (d.cache.length + 1) vb) hlB1) _ 2 (.int .i64 (d.fuse - 1)) hlB1) _ 3 (.slice pa' d.keep.length pb') hlB1) _ 4 (.bool false) hlB1)
                  refine ⟨_, _, _, rfl, Sl.owned k6, ?_, Sl.owned p6, nilOr_owned k6, nilOr_owned v6⟩
                  exact (SlP.owned v6).1
                · exact (((((y5).below.setCell (by simp) _).setCell (by simp) _).setCell (by simp) _).setCell (by simp) _).setCell (by simp) _
              · rw [if_neg hfp] at hspec
                have u1 : decide (0 < d.fuse) = false := decide_eq_false hfp
                have u2 : (d.fuse == -1) = true := by simp; omega
                replace hf0 := Lib.hid hf0
                rw [hspec]; clear hspec
                obtain ⟨q1, q2, q3⟩ := may_small hmay
                replace hm := hm.out
                rw [hmay] at hm
                replace hm := Lib.hid hm; replace q3 := Lib.hid q3
                clear hmay
                go_enter Try.func64, Try.ntmps64
                go_wp2_with fail
                refine (hm.out _ (h.out.ext y0)).mono ?_; rintro e w1 ⟨rfl, x1⟩
                clear i0 i1 i2 i3 i4 f0 f1 f2 f3 f4 hw0
                replace r0 := Lib.hid (r0.out.ext x1)
                replace b0 := Lib.hid (b0.out.ext x1)
                obtain ⟨⟨i0, i1, i2, i3, i4⟩, f0, f1, f2, f3, f4⟩ := b0.out.at5
                have y1 := y0.trans x1
                have hl1 := x1.size
                clear x1 y0
                go_wp2_with fail
                refine (hcp.out _ (h.out.ext y1) q1 q2).mono ?_; rintro e w2 ⟨k', c', p', B1, rfl, D, x2, hsep⟩
                clear i0 i1 i2 i3 i4 f0 f1 f2 f3 f4
                obtain ⟨ka', kb', e1⟩ := owned_slice D.kept
                subst e1
                obtain ⟨ca', cb', e2⟩ := owned_slice D.cache
                subst e2
                obtain ⟨pa', pb', e3⟩ := owned_slice D.keep
                subst e3
                have hlt : w.heap.size + 1 < w1.heap.size := by rw [hz.out] at hl1; omega
                replace D := Lib.hid D
                have hsepO := Lib.hid hsep
                have hkO := Lib.hid D.out.keptB
                have hcO := Lib.hid (fun g hg => World.ownsRow.lt D.out.cache g hg)
                have hpO := Lib.hid (fun g hg => (World.ownsRow.lt D.out.keep g hg).2)
                have hle := D.out.le
                have htop := D.out.top
                have hl2 := x2.size
                have bo := Box.new w2 (diskL (.slice ka' d.kept.length kb') (.slice ca' d.cache.length cb') d.fuse (.slice pa' d.keep.length pb') false) 69
                have hobj := heap_new w2 (.cells #[.slice ka' d.kept.length kb', .slice ca' d.cache.length cb', .int .i64 d.fuse, .slice pa' d.keep.length pb', .bool false] 69)
                obtain ⟨⟨j0, j1, j2, j3, j4⟩, _⟩ := bo.at5
                obtain ⟨⟨i0, i1, i2, i3, i4⟩, f0, f1, f2, f3, f4⟩ := ((b0.out.ext x2).alloc (.cells #[.slice ka' d.kept.length kb', .slice ca' d.cache.length cb', .int .i64 d.fuse, .slice pa' d.keep.length pb', .bool false] 69)).at5
                have D2 := Lib.hid (D.out.ext ((Ext.refl w2).alloc (.cells #[.slice ka' d.kept.length kb', .slice ca' d.cache.length cb', .int .i64 d.fuse, .slice pa' d.keep.length pb', .bool false] 69)))
                have z2 := x2.alloc (.cells #[.slice ka' d.kept.length kb', .slice ca' d.cache.length cb', .int .i64 d.fuse, .slice pa' d.keep.length pb', .bool false] 69)
                have hV2 : (w2.alloc (.cells #[.slice ka' d.kept.length kb', .slice ca' d.cache.length cb', .int .i64 d.fuse, .slice pa' d.keep.length pb', .bool false] 69)).heap.size = w2.heap.size + 1 := by simp
                replace bo := Lib.hid bo; replace hobj := Lib.hid hobj; replace hV2 := Lib.hid hV2
                clear hsep x2
                go_wp2_with fail
                refine (h99.out _).mono ?_; rintro e w3 ⟨rfl, x3⟩
                clear i0 i1 i2 i3 i4 f0 f1 f2 f3 f4 j0 j1 j2 j3 j4
                replace z2 := z2.trans x3
                obtain ⟨⟨j0, j1, j2, j3, j4⟩, g0', g1', g2', g3', g4'⟩ := (bo.out.ext x3).at5
                replace D2 := Lib.hid (D2.out.ext x3)
                obtain ⟨⟨ii0, ii1, ii2, ii3, ii4⟩, _⟩ := (b0.out.ext z2).at5
                have bo3 := (bo.out.ext x3).alloc (.cells #[.int .i64 x, .string s] 90)
                have D3 := D2.out.ext ((Ext.refl w3).alloc (.cells #[.int .i64 x, .string s] 90))
                have z3 := z2.alloc (.cells #[.int .i64 x, .string s] 90)
                have hs3 : (w3.alloc (.cells #[.int .i64 x, .string s] 90)).heap.size = w3.heap.size + 1 := by simp
                have hnew := Box.new w3 [.int .i64 x, .string s] 90
                have hl3 := x3.size
                rw [hV2.out] at hl3
                have hobj3 : (w3.alloc (.cells #[.int .i64 x, .string s] 90)).heap[w2.heap.size]? = _ := ((x3.alloc (.cells #[.int .i64 x, .string s] 90)).below.block w2.heap.size (by rw [hV2.out]; omega)).trans hobj.out
                obtain ⟨i0w, hi, hz0, hz1, hz2⟩ := info_parts info90
                obtain ⟨⟨i0, i1, i2, i3, i4⟩, f0, f1, f2, f3, f4⟩ := bo3.at5
                generalize hW3 : w3.alloc (.cells #[.int .i64 x, .string s] 90) = V3 at *
                have hCk := D3.cache
                obtain ⟨hb3, hb2, hb1⟩ : B1 ≤ V3.heap.size ∧ (d.cache.length + 1) * 24 ≤ 140737488355328 ∧ d.cache.length + 1 ≤ maxLen := ⟨D3.top, by omega, by unfold maxLen; omega⟩
                replace D3 := Lib.hid D3; replace bo3 := Lib.hid bo3; replace hs3 := Lib.hid hs3; replace hnew := Lib.hid hnew; replace hobj3 := Lib.hid hobj3; replace hCk := Lib.hid hCk
                go_wp2_with (at_builtin; refine wpList_append_own V3 rfl _ _ 67 rfl B1 90 i0w zero90 2 24 Try.underlying67 hi hz0 hz1 hz2 rfl (by decide) _ d.cache.length (putCells d.cache) rfl hCk.out ⟨w3.heap.size, 0, none⟩ 1 1 [.int .i64 x, .string s] rfl rfl ?news ?one ?c1 ?c2 ?c3 ?_)
                case news =>
                  intro j u hj
                  have := hnew.out.cell j u hj
                  unfold Addr.add
                  split
                  · rename_i hj0; subst hj0; exact this
                  · rw [Nat.zero_add]; exact this
                case one =>
                  intro y hy
                  simp only [List.mem_cons, List.not_mem_nil, or_false] at hy
                  rcases hy with rfl | rfl <;> rfl
                case c1 => exact hb1
                case c2 => exact hb2
                case c3 => exact hb3
                intro v' w4 hown4 hg4 _
                rw [show putCells d.cache ++ [.int .i64 x, .string s] = putCells (d.cache ++ [(x, s)]) from by rw [putCells_append]; rfl] at hown4
                obtain ⟨va, vb, e6⟩ := owned_slice hown4
                subst e6
                clear i0 i1 i2 i3 i4 f0 f1 f2 f3 f4 hW3 ii0 ii1 ii2 ii3 ii4 j0 j1 j2 j3 j4 g0' g1' g2' g3' g4'
                have hl4 := hg4.size
                have hs3' := hs3.out
                have hcB := fun g hg => (hcO.out g hg).1
                have hcL := fun g hg => (hcO.out g hg).2
                have k4 : w4.ownsRow w1.heap.size 9 1 (.slice ka' d.kept.length kb') d.kept.length (d.kept.map strV) := D3.out.kept.kept hg4 (by
                  cases hv : (Value.slice ka' d.kept.length kb').ownBlock with
                  | none => exact .inl rfl
                  | some g =>
                    refine .inr fun e => ?_
                    have h6 := hkO.out g hv
                    have h7 := hcB g e.symm
                    omega)
                have p4 : w4.ownsRow B1 4 1 (.slice pa' d.keep.length pb') d.keep.length (d.keep.map boolV) := D3.out.keep.kept hg4 (by
                  cases hv : (Value.slice pa' d.keep.length pb').ownBlock with
                  | none => exact .inl rfl
                  | some g => exact .inr fun e => hsepO.out g e.symm hv)
                have bo4 : Box w2.heap.size (diskL (.slice ka' d.kept.length kb') (.slice ca' d.cache.length cb') d.fuse (.slice pa' d.keep.length pb') false) w4 := bo3.out.grown hg4 (fun e => by have := hcL _ e; omega)
                have z4 : Ext w1 w4 := z3.grown hg4 (fun g hg => by have := hcB g hg; omega)
                have hobj4 := (hg4.block w2.heap.size (by omega) (fun e => by have := hcL _ e.symm; omega)).trans hobj3.out
                have hnb := row_not_box hown4 w2.heap.size _ 69 _ hobj4 (by decide)
                obtain ⟨⟨i0, i1, i2, i3, i4⟩, f0, f1, f2, f3, f4⟩ := bo4.at5
                have bo5 := bo4.set 1 (.slice va (d.cache.length + 1) vb) (by simp)
                obtain ⟨⟨m0, m1, m2, m3, m4⟩, n0, n1, n2, n3, n4⟩ := bo5.at5
                have k5 := ownsRow_other k4 w2.heap.size 1 (.slice va (d.cache.length + 1) vb) (by
                  cases hv : (Value.slice ka' d.kept.length kb').ownBlock with
                  | none => exact .inl rfl
                  | some g => exact .inr fun e => by simp only [Option.some.injEq] at e; have := hkO.out g hv; omega)
                have p5 := ownsRow_other p4 w2.heap.size 1 (.slice va (d.cache.length + 1) vb) (by
                  cases hv : (Value.slice pa' d.keep.length pb').ownBlock with
                  | none => exact .inl rfl
                  | some g => exact .inr fun e => by simp only [Option.some.injEq] at e; have := hpO.out g hv; omega)
                have v5 := ownsRow_other hown4 w2.heap.size 1 (.slice va (d.cache.length + 1) vb) (.inr hnb)
                have z5 := Ext.mk (z4.below.setCell (p := ⟨w2.heap.size, 1, none⟩) (by show w1.heap.size ≤ w2.heap.size; omega) (.slice va (d.cache.length + 1) vb))
                have hz5 : (w4.setCell ⟨w2.heap.size, 1, none⟩ (.slice va (d.cache.length + 1) vb)).heap.size = w4.heap.size := World.size_setCell w4 _ _
                generalize hW5 : w4.setCell ⟨w2.heap.size, 1, none⟩ (.slice va (d.cache.length + 1) vb) = W5 at *
                replace k5 := Lib.hid k5; replace p5 := Lib.hid p5; replace v5 := Lib.hid v5; replace bo5 := Lib.hid bo5; replace hz5 := Lib.hid hz5
                replace hnb := Lib.hid hnb; replace hobj4 := Lib.hid hobj4; replace bo4 := Lib.hid bo4; replace k4 := Lib.hid k4; replace p4 := Lib.hid p4; replace hown4 := Lib.hid hown4; replace hcB := Lib.hid hcB; replace hcL := Lib.hid hcL; replace hs3' := Lib.hid hs3'
                have hlB1 : w.heap.size + 1 < B1 := by omega
                have y5 := y1.trans z5
                have r1 := r0.out.ext z5
                obtain ⟨_, g0, g1, g2, g3, g4⟩ := r1.at5
                have r2 := (((((r1.set 0 (.slice ka' d.kept.length kb') (by simp)).set 1 (.slice va (d.cache.length + 1) vb) (by simp)).set 2 (.int .i64 d.fuse) (by simp)).set 3 (.slice pa' d.keep.length pb') (by simp)).set 4 (.bool false) (by simp))
                obtain ⟨⟨m0, m1, m2, m3, m4⟩, _⟩ := r2.at5
                replace m0 := Lib.hid m0; replace m1 := Lib.hid m1; replace m2 := Lib.hid m2; replace m3 := Lib.hid m3; replace m4 := Lib.hid m4
                replace r1 := Lib.hid r1; replace r2 := Lib.hid r2
                go_wp2_with fail
                refine bodyPost_ret (v := .tuple #[diskV (.slice ka' d.kept.length kb') (.slice va (d.cache.length + 1) vb) (d.fuse) (.slice pa' d.keep.length pb') (false), .int .i64 0]) ?_ rfl ⟨_, rfl, ?_, ?_⟩
                · simp [results, Try.results64, go_sem, m0.out, m1.out, m2.out, m3.out, m4.out, diskV]
                · have k6 := (ownsRow_under (ownsRow_under (ownsRow_under (ownsRow_under (ownsRow_under k5.out _ 0 (.slice ka' d.kept.length kb') hlt) _ 1 (.slice va (d.cache.length + 1) vb) hlt) _ 2 (.int .i64 d.fuse) hlt) _ 3 (.slice pa' d.keep.length pb') hlt) _ 4 (.bool false) hlt)
                  have v6 := (ownsRow_under (ownsRow_under (ownsRow_under (ownsRow_under (ownsRow_under v5.out _ 0 (.slice ka' d.kept.length kb') hlB1) _ 1 (.slice va (d.cache.length + 1) vb) hlB1) _ 2 (.int .i64 d.fuse) hlB1) _ 3 (.slice pa' d.keep.length pb') hlB1) _ 4 (.bool false) hlB1)
                  have p6 := (ownsRow_under (ownsRow_under (ownsRow_under (ownsRow_under (ownsRow_under p5.out _ 0 (.slice ka' d.kept.length kb') hlB1) _ 1 (.slice va (d.cache.length + 1) vb) hlB1) _ 2 (.int .i64 d.fuse) hlB1) _ 3 (.slice pa' d.keep.length pb') hlB1) _ 4 (.bool false) hlB1)
                  refine ⟨_, _, _, rfl, Sl.owned k6, ?_, Sl.owned p6, nilOr_owned k6, nilOr_owned v6⟩
                  exact (SlP.owned v6).1
                · exact (((((y5).below.setCell (by simp) _).setCell (by simp) _).setCell (by simp) _).setCell (by simp) _).setCell (by simp) _
        · have hs1 : ((s.size : Int) == 32) = false := by simp; omega
          have hs2 : ((s.size : Int) != 32) = true := by simp; omega
          have hspec : Dev.write d x s = (d, 1) := by unfold Dev.write; rw [if_neg (by rw [hmay]; decide), if_neg (by rw [hdead.out]; decide), if_pos (by omega)]
          replace h99 := Lib.hid h99; replace hs := Lib.hid hs
          rw [hspec]; clear hspec
          obtain ⟨q1, q2, q3⟩ := may_small hmay
          replace hm := hm.out
          rw [hmay] at hm
          replace hm := Lib.hid hm; replace q3 := Lib.hid q3
          clear hmay
          go_enter Try.func64, Try.ntmps64
          go_wp2_with fail
          refine (hm.out _ (h.out.ext y0)).mono ?_; rintro e w1 ⟨rfl, x1⟩
          clear i0 i1 i2 i3 i4 f0 f1 f2 f3 f4 hw0
          replace r0 := Lib.hid (r0.out.ext x1)
          replace b0 := Lib.hid (b0.out.ext x1)
          obtain ⟨⟨i0, i1, i2, i3, i4⟩, f0, f1, f2, f3, f4⟩ := b0.out.at5
          have y1 := y0.trans x1
          have hl1 := x1.size
          clear x1 y0
          go_wp2_with fail
          refine (hcp.out _ (h.out.ext y1) q1 q2).mono ?_; rintro e w2 ⟨k', c', p', B1, rfl, D, x2, hsep⟩
          clear i0 i1 i2 i3 i4 f0 f1 f2 f3 f4
          obtain ⟨ka', kb', e1⟩ := owned_slice D.kept
          subst e1
          obtain ⟨ca', cb', e2⟩ := owned_slice D.cache
          subst e2
          obtain ⟨pa', pb', e3⟩ := owned_slice D.keep
          subst e3
          have hlt : w.heap.size + 1 < w1.heap.size := by rw [hz.out] at hl1; omega
          replace D := Lib.hid D
          have hsepO := Lib.hid hsep
          have hkO := Lib.hid D.out.keptB
          have hcO := Lib.hid (fun g hg => World.ownsRow.lt D.out.cache g hg)
          have hpO := Lib.hid (fun g hg => (World.ownsRow.lt D.out.keep g hg).2)
          have hle := D.out.le
          have htop := D.out.top
          have hl2 := x2.size
          have bo := Box.new w2 (diskL (.slice ka' d.kept.length kb') (.slice ca' d.cache.length cb') d.fuse (.slice pa' d.keep.length pb') false) 69
          have hobj := heap_new w2 (.cells #[.slice ka' d.kept.length kb', .slice ca' d.cache.length cb', .int .i64 d.fuse, .slice pa' d.keep.length pb', .bool false] 69)
          obtain ⟨⟨j0, j1, j2, j3, j4⟩, _⟩ := bo.at5
          obtain ⟨⟨i0, i1, i2, i3, i4⟩, f0, f1, f2, f3, f4⟩ := ((b0.out.ext x2).alloc (.cells #[.slice ka' d.kept.length kb', .slice ca' d.cache.length cb', .int .i64 d.fuse, .slice pa' d.keep.length pb', .bool false] 69)).at5
          have D2 := Lib.hid (D.out.ext ((Ext.refl w2).alloc (.cells #[.slice ka' d.kept.length kb', .slice ca' d.cache.length cb', .int .i64 d.fuse, .slice pa' d.keep.length pb', .bool false] 69)))
          have z2 := x2.alloc (.cells #[.slice ka' d.kept.length kb', .slice ca' d.cache.length cb', .int .i64 d.fuse, .slice pa' d.keep.length pb', .bool false] 69)
          have hV2 : (w2.alloc (.cells #[.slice ka' d.kept.length kb', .slice ca' d.cache.length cb', .int .i64 d.fuse, .slice pa' d.keep.length pb', .bool false] 69)).heap.size = w2.heap.size + 1 := by simp
          replace bo := Lib.hid bo; replace hobj := Lib.hid hobj; replace hV2 := Lib.hid hV2
          clear hsep x2
          go_wp2_with fail
          refine (h99.out _).mono ?_; rintro e w3 ⟨rfl, x3⟩
          clear i0 i1 i2 i3 i4 f0 f1 f2 f3 f4 j0 j1 j2 j3 j4
          replace z2 := z2.trans x3
          obtain ⟨⟨j0, j1, j2, j3, j4⟩, g0', g1', g2', g3', g4'⟩ := (bo.out.ext x3).at5
          replace D2 := Lib.hid (D2.out.ext x3)
          have r1 := r0.out.ext z2
          have y2 := y1.trans z2
          obtain ⟨⟨i0, i1, i2, i3, i4⟩, _⟩ := (b0.out.ext z2).at5
          obtain ⟨_, g0, g1, g2, g3, g4⟩ := r1.at5
          have r2 := (((((r1.set 0 (.slice ka' d.kept.length kb') (by simp)).set 1 (.slice ca' d.cache.length cb') (by simp)).set 2 (.int .i64 d.fuse) (by simp)).set 3 (.slice pa' d.keep.length pb') (by simp)).set 4 (.bool false) (by simp))
          obtain ⟨⟨m0, m1, m2, m3, m4⟩, _⟩ := r2.at5
          replace m0 := Lib.hid m0; replace m1 := Lib.hid m1; replace m2 := Lib.hid m2; replace m3 := Lib.hid m3; replace m4 := Lib.hid m4
          replace r1 := Lib.hid r1; replace r2 := Lib.hid r2
          go_wp2_with fail
          refine bodyPost_ret (v := .tuple #[diskV (.slice ka' d.kept.length kb') (.slice ca' d.cache.length cb') (d.fuse) (.slice pa' d.keep.length pb') (false), .int .i64 1]) ?_ rfl ⟨_, rfl, ?_, ?_⟩
          · simp [results, Try.results64, go_sem, m0.out, m1.out, m2.out, m3.out, m4.out, diskV]
          · have D4 := (((((D2.out.under _ 0 (.slice ka' d.kept.length kb') hlt).under _ 1 (.slice ca' d.cache.length cb') hlt).under _ 2 (.int .i64 d.fuse) hlt).under _ 3 (.slice pa' d.keep.length pb') hlt).under _ 4 (.bool false) hlt)
            have D5 := D4.disk
            rw [hdead.out] at D5
            exact D5
          · exact (((((y2).below.setCell (by simp) _).setCell (by simp) _).setCell (by simp) _).setCell (by simp) _).setCell (by simp) _
      · rw [decide_eq_false hin] at h99
        have hspec : Dev.write d x s = (d, 1) := by unfold Dev.write; rw [if_neg (by rw [hmay]; decide), if_neg (by rw [hdead.out]; decide), if_pos (by omega)]
        replace h99 := Lib.hid h99; replace hin := Lib.hid hin
        rw [hspec]; clear hspec
        obtain ⟨q1, q2, q3⟩ := may_small hmay
        replace hm := hm.out
        rw [hmay] at hm
        replace hm := Lib.hid hm; replace q3 := Lib.hid q3
        clear hmay
        go_enter Try.func64, Try.ntmps64
        go_wp2_with fail
        refine (hm.out _ (h.out.ext y0)).mono ?_; rintro e w1 ⟨rfl, x1⟩
        clear i0 i1 i2 i3 i4 f0 f1 f2 f3 f4 hw0
        replace r0 := Lib.hid (r0.out.ext x1)
        replace b0 := Lib.hid (b0.out.ext x1)
        obtain ⟨⟨i0, i1, i2, i3, i4⟩, f0, f1, f2, f3, f4⟩ := b0.out.at5
        have y1 := y0.trans x1
        have hl1 := x1.size
        clear x1 y0
        go_wp2_with fail
        refine (hcp.out _ (h.out.ext y1) q1 q2).mono ?_; rintro e w2 ⟨k', c', p', B1, rfl, D, x2, hsep⟩
        clear i0 i1 i2 i3 i4 f0 f1 f2 f3 f4
        obtain ⟨ka', kb', e1⟩ := owned_slice D.kept
        subst e1
        obtain ⟨ca', cb', e2⟩ := owned_slice D.cache
        subst e2
        obtain ⟨pa', pb', e3⟩ := owned_slice D.keep
        subst e3
        have hlt : w.heap.size + 1 < w1.heap.size := by rw [hz.out] at hl1; omega
        replace D := Lib.hid D
        have hsepO := Lib.hid hsep
        have hkO := Lib.hid D.out.keptB
        have hcO := Lib.hid (fun g hg => World.ownsRow.lt D.out.cache g hg)
        have hpO := Lib.hid (fun g hg => (World.ownsRow.lt D.out.keep g hg).2)
        have hle := D.out.le
        have htop := D.out.top
        have hl2 := x2.size
        have bo := Box.new w2 (diskL (.slice ka' d.kept.length kb') (.slice ca' d.cache.length cb') d.fuse (.slice pa' d.keep.length pb') false) 69
        have hobj := heap_new w2 (.cells #[.slice ka' d.kept.length kb', .slice ca' d.cache.length cb', .int .i64 d.fuse, .slice pa' d.keep.length pb', .bool false] 69)
        obtain ⟨⟨j0, j1, j2, j3, j4⟩, _⟩ := bo.at5
        obtain ⟨⟨i0, i1, i2, i3, i4⟩, f0, f1, f2, f3, f4⟩ := ((b0.out.ext x2).alloc (.cells #[.slice ka' d.kept.length kb', .slice ca' d.cache.length cb', .int .i64 d.fuse, .slice pa' d.keep.length pb', .bool false] 69)).at5
        have D2 := Lib.hid (D.out.ext ((Ext.refl w2).alloc (.cells #[.slice ka' d.kept.length kb', .slice ca' d.cache.length cb', .int .i64 d.fuse, .slice pa' d.keep.length pb', .bool false] 69)))
        have z2 := x2.alloc (.cells #[.slice ka' d.kept.length kb', .slice ca' d.cache.length cb', .int .i64 d.fuse, .slice pa' d.keep.length pb', .bool false] 69)
        have hV2 : (w2.alloc (.cells #[.slice ka' d.kept.length kb', .slice ca' d.cache.length cb', .int .i64 d.fuse, .slice pa' d.keep.length pb', .bool false] 69)).heap.size = w2.heap.size + 1 := by simp
        replace bo := Lib.hid bo; replace hobj := Lib.hid hobj; replace hV2 := Lib.hid hV2
        clear hsep x2
        go_wp2_with fail
        refine (h99.out _).mono ?_; rintro e w3 ⟨rfl, x3⟩
        clear i0 i1 i2 i3 i4 f0 f1 f2 f3 f4 j0 j1 j2 j3 j4
        replace z2 := z2.trans x3
        obtain ⟨⟨j0, j1, j2, j3, j4⟩, g0', g1', g2', g3', g4'⟩ := (bo.out.ext x3).at5
        replace D2 := Lib.hid (D2.out.ext x3)
        have r1 := r0.out.ext z2
        have y2 := y1.trans z2
        obtain ⟨⟨i0, i1, i2, i3, i4⟩, _⟩ := (b0.out.ext z2).at5
        obtain ⟨_, g0, g1, g2, g3, g4⟩ := r1.at5
        have r2 := (((((r1.set 0 (.slice ka' d.kept.length kb') (by simp)).set 1 (.slice ca' d.cache.length cb') (by simp)).set 2 (.int .i64 d.fuse) (by simp)).set 3 (.slice pa' d.keep.length pb') (by simp)).set 4 (.bool false) (by simp))
        obtain ⟨⟨m0, m1, m2, m3, m4⟩, _⟩ := r2.at5
        replace m0 := Lib.hid m0; replace m1 := Lib.hid m1; replace m2 := Lib.hid m2; replace m3 := Lib.hid m3; replace m4 := Lib.hid m4
        replace r1 := Lib.hid r1; replace r2 := Lib.hid r2
        go_wp2_with fail
        refine bodyPost_ret (v := .tuple #[diskV (.slice ka' d.kept.length kb') (.slice ca' d.cache.length cb') (d.fuse) (.slice pa' d.keep.length pb') (false), .int .i64 1]) ?_ rfl ⟨_, rfl, ?_, ?_⟩
        · simp [results, Try.results64, go_sem, m0.out, m1.out, m2.out, m3.out, m4.out, diskV]
        · have D4 := (((((D2.out.under _ 0 (.slice ka' d.kept.length kb') hlt).under _ 1 (.slice ca' d.cache.length cb') hlt).under _ 2 (.int .i64 d.fuse) hlt).under _ 3 (.slice pa' d.keep.length pb') hlt).under _ 4 (.bool false) hlt)
          have D5 := D4.disk
          rw [hdead.out] at D5
          exact D5
        · exact (((((y2).below.setCell (by simp) _).setCell (by simp) _).setCell (by simp) _).setCell (by simp) _).setCell (by simp) _

end Go.Proofs.Ytehidhcpdiameaa
