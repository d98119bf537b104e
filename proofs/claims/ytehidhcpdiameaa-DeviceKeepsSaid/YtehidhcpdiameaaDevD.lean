import Derived.Test.YtehidhcpdiameaaDevB
import Derived.Test.YtehidhcpdiameaaDevA

/- The walks of layer 9, on: a disk that is armed and revived, of the reference; a list with one changed. -/
namespace Go.Proofs.Ytehidhcpdiameaa
open Go.RowKit

theorem DiskIn.parts {w : World} {ka ca pa : Option Addr} {kn kc cn cc pn pc : Nat} {d : Dev.Disk} {f : Int} {b : Bool} (h : DiskIn w (.agg #[.slice ka kn kc, .slice ca cn cc, .int .i64 f, .slice pa pn pc, .bool b]) d) :
    Sl w (.slice ka kn kc) (d.kept.map strV) ∧ SlP w (.slice ca cn cc) d.cache ∧ Sl w (.slice pa pn pc) (d.keep.map boolV) ∧ NilOr (.slice ka kn kc) ∧ NilOr (.slice ca cn cc) := by
  obtain ⟨k, c, p, e, h1, h2, h3, h4, h5⟩ := h
  simp only [diskV, Value.agg.injEq, Array.mk.injEq, List.cons.injEq, and_true] at e
  obtain ⟨rfl, rfl, _, rfl, _⟩ := e
  exact ⟨h1, h2, h3, h4, h5⟩

set_option maxRecDepth 100000 in
set_option maxHeartbeats 4000000 in
theorem refArm_any (d : Dev.Disk) (v : Value) (fuse : Int) (kp : Value) (keep : List Bool) (w : World) (h : DiskIn w v d) (hk : Sl w kp (keep.map boolV)) (hf : -9223372036854775808 ≤ fuse ∧ fuse ≤ 9223372036854775807) :
    Calls Try.prog 77 #[v, .int .i64 fuse, kp] w fun e w' => ∃ r, e = .returned r ∧ DiskIn w' r (Dev.arm d fuse keep) ∧ Ext w w' := by
  obtain ⟨la, ln, lc, rfl⟩ := hk.form
  replace hk := Lib.hid hk
  have hm := fun w h => refMay_any d v w h
  have hform := h.form
  obtain ⟨ka, kn, kc, ca, cn, cc, pa, pn, pc, rfl⟩ := hform
  have b0 := (Box.new w (diskL (.slice ka kn kc) (.slice ca cn cc) d.fuse (.slice pa pn pc) d.dead) 69).alloc (.cells #[.slice none 0 0, .slice none 0 0, .int .i64 0, .slice none 0 0, .bool false] 69)
  have r0 := Box.new (w.alloc (.cells #[.slice ka kn kc, .slice ca cn cc, .int .i64 d.fuse, .slice pa pn pc, .bool d.dead] 69)) zeroL 69
  rw [show (w.alloc (.cells #[.slice ka kn kc, .slice ca cn cc, .int .i64 d.fuse, .slice pa pn pc, .bool d.dead] 69)).heap.size = w.heap.size + 1 from by simp] at r0
  have y0 : Ext w ((w.alloc (.cells #[.slice ka kn kc, .slice ca cn cc, .int .i64 d.fuse, .slice pa pn pc, .bool d.dead] 69)).alloc (.cells #[.slice none 0 0, .slice none 0 0, .int .i64 0, .slice none 0 0, .bool false] 69)) := ((Ext.refl w).alloc _).alloc _
  have hz : ((w.alloc (.cells #[.slice ka kn kc, .slice ca cn cc, .int .i64 d.fuse, .slice pa pn pc, .bool d.dead] 69)).alloc (.cells #[.slice none 0 0, .slice none 0 0, .int .i64 0, .slice none 0 0, .bool false] 69)).heap.size = w.heap.size + 2 := by simp
  generalize hw0 : (w.alloc (.cells #[.slice ka kn kc, .slice ca cn cc, .int .i64 d.fuse, .slice pa pn pc, .bool d.dead] 69)).alloc (.cells #[.slice none 0 0, .slice none 0 0, .int .i64 0, .slice none 0 0, .bool false] 69) = w0 at *
  unfold diskV at hm h ⊢
  obtain ⟨⟨i0, i1, i2, i3, i4⟩, f0, f1, f2, f3, f4⟩ := b0.at5
  replace hm := Lib.hid hm; replace h := Lib.hid h; replace b0 := Lib.hid b0; replace r0 := Lib.hid r0; replace hz := Lib.hid hz
  cases hmay : Dev.may d with
  | false =>
    rw [show Dev.arm d fuse keep = Dev.no from by unfold Dev.arm; rw [if_pos hmay]]
    replace hm := hm.out
    rw [hmay] at hm
    replace hm := Lib.hid hm
    clear hmay
    go_enter Try.func77, Try.ntmps77
    go_wp2_with fail
    refine (hm.out _ (h.out.ext y0)).mono ?_; rintro e w1 ⟨rfl, x1⟩
    clear i0 i1 i2 i3 i4 f0 f1 f2 f3 f4 hw0
    have r1 := r0.out.ext x1
    have y1 := y0.trans x1
    clear x1 y0
    obtain ⟨_, g0, g1, g2, g3, g4⟩ := r1.at5
    have r2 := (((((r1.set 0 (.slice none 0 0) (by simp)).set 1 (.slice none 0 0) (by simp)).set 2 (.int .i64 0) (by simp)).set 3 (.slice none 0 0) (by simp)).set 4 (.bool false) (by simp))
    obtain ⟨⟨m0, m1, m2, m3, m4⟩, _⟩ := r2.at5
    replace m0 := Lib.hid m0; replace m1 := Lib.hid m1; replace m2 := Lib.hid m2; replace m3 := Lib.hid m3; replace m4 := Lib.hid m4
    replace r1 := Lib.hid r1; replace r2 := Lib.hid r2
    go_wp2_with fail
    refine bodyPost_ret (v := diskV (.slice none 0 0) (.slice none 0 0) (0) (.slice none 0 0) (false)) ?_ rfl ⟨_, rfl, ?_, ?_⟩
    · simp [results, Try.results77, go_sem, m0.out, m1.out, m2.out, m3.out, m4.out, diskV]
    · exact diskIn_no _
    · exact (((((y1).below.setCell (by simp) _).setCell (by simp) _).setCell (by simp) _).setCell (by simp) _).setCell (by simp) _
  | true =>
    rw [show Dev.arm d fuse keep = ⟨d.kept, d.cache, max fuse (-1), keep, d.dead⟩ from by unfold Dev.arm; rw [if_neg (by rw [hmay]; decide)]]
    replace hm := hm.out
    rw [hmay] at hm
    replace hm := Lib.hid hm
    clear hmay
    go_enter Try.func77, Try.ntmps77
    go_wp2_with fail
    refine (hm.out _ (h.out.ext y0)).mono ?_; rintro e w1 ⟨rfl, x1⟩
    clear i0 i1 i2 i3 i4 f0 f1 f2 f3 f4 hw0
    replace r0 := Lib.hid (r0.out.ext x1)
    replace b0 := Lib.hid (b0.out.ext x1)
    obtain ⟨⟨i0, i1, i2, i3, i4⟩, f0, f1, f2, f3, f4⟩ := b0.out.at5
    have y1 := y0.trans x1
    clear x1 y0
    have hmx : fuse ≤ -1 → max fuse (-1) = -1 := fun h => by omega
    have hmx2 : -1 ≤ fuse → max fuse (-1) = fuse := fun h => by omega
    have b2 := (b0.out.set 2 (.int .i64 (max fuse (-1))) (by simp)).set 3 (.slice la ln lc) (by simp)
    obtain ⟨⟨j0, j1, j2, j3, j4⟩, _⟩ := b2.at5
    have hne : w.heap.size ≠ w.heap.size + 1 := by omega
    have r1 := (r0.out.other hne 2 (.int .i64 (max fuse (-1)))).other hne 3 (.slice la ln lc)
    have y2 : Ext w ((w1.setCell ⟨w.heap.size, 2, none⟩ (.int .i64 (max fuse (-1)))).setCell ⟨w.heap.size, 3, none⟩ (.slice la ln lc)) := (y1.below.setCell (Nat.le_refl _) _).setCell (Nat.le_refl _) _
    replace b2 := Lib.hid b2; replace hmx := Lib.hid hmx; replace hmx2 := Lib.hid hmx2
    obtain ⟨_, g0, g1, g2, g3, g4⟩ := r1.at5
    have r2 := (((((r1.set 0 (.slice ka kn kc) (by simp)).set 1 (.slice ca cn cc) (by simp)).set 2 (.int .i64 (max fuse (-1))) (by simp)).set 3 (.slice la ln lc) (by simp)).set 4 (.bool d.dead) (by simp))
    obtain ⟨⟨m0, m1, m2, m3, m4⟩, _⟩ := r2.at5
    replace m0 := Lib.hid m0; replace m1 := Lib.hid m1; replace m2 := Lib.hid m2; replace m3 := Lib.hid m3; replace m4 := Lib.hid m4
    replace r1 := Lib.hid r1; replace r2 := Lib.hid r2
    go_wp2_with fail
    refine bodyPost_ret (v := diskV (.slice ka kn kc) (.slice ca cn cc) ((max fuse (-1))) (.slice la ln lc) (d.dead)) ?_ rfl ⟨_, rfl, ?_, ?_⟩
    · simp [results, Try.results77, go_sem, m0.out, m1.out, m2.out, m3.out, m4.out, diskV]
    · obtain ⟨p1, p2, p3, p4, p5⟩ := h.out.parts
      refine ⟨_, _, _, rfl, p1.ext ?_, p2.ext ?_, hk.out.ext ?_, p4, p5⟩ <;> exact (((((y2).below.setCell (by simp) _).setCell (by simp) _).setCell (by simp) _).setCell (by simp) _).setCell (by simp) _
    · exact (((((y2).below.setCell (by simp) _).setCell (by simp) _).setCell (by simp) _).setCell (by simp) _).setCell (by simp) _

set_option maxRecDepth 100000 in
set_option maxHeartbeats 4000000 in
theorem refRevive_any (d : Dev.Disk) (v : Value) (w : World) (h : DiskIn w v d) :
    Calls Try.prog 81 #[v] w fun e w' => ∃ r, e = .returned r ∧ DiskIn w' r (Dev.revive d) ∧ Ext w w' := by
  have hm := fun w h => refMay_any d v w h
  have hform := h.form
  obtain ⟨ka, kn, kc, ca, cn, cc, pa, pn, pc, rfl⟩ := hform
  have b0 := (Box.new w (diskL (.slice ka kn kc) (.slice ca cn cc) d.fuse (.slice pa pn pc) d.dead) 69).alloc (.cells #[.slice none 0 0, .slice none 0 0, .int .i64 0, .slice none 0 0, .bool false] 69)
  have r0 := Box.new (w.alloc (.cells #[.slice ka kn kc, .slice ca cn cc, .int .i64 d.fuse, .slice pa pn pc, .bool d.dead] 69)) zeroL 69
  rw [show (w.alloc (.cells #[.slice ka kn kc, .slice ca cn cc, .int .i64 d.fuse, .slice pa pn pc, .bool d.dead] 69)).heap.size = w.heap.size + 1 from by simp] at r0
  have y0 : Ext w ((w.alloc (.cells #[.slice ka kn kc, .slice ca cn cc, .int .i64 d.fuse, .slice pa pn pc, .bool d.dead] 69)).alloc (.cells #[.slice none 0 0, .slice none 0 0, .int .i64 0, .slice none 0 0, .bool false] 69)) := ((Ext.refl w).alloc _).alloc _
  have hz : ((w.alloc (.cells #[.slice ka kn kc, .slice ca cn cc, .int .i64 d.fuse, .slice pa pn pc, .bool d.dead] 69)).alloc (.cells #[.slice none 0 0, .slice none 0 0, .int .i64 0, .slice none 0 0, .bool false] 69)).heap.size = w.heap.size + 2 := by simp
  generalize hw0 : (w.alloc (.cells #[.slice ka kn kc, .slice ca cn cc, .int .i64 d.fuse, .slice pa pn pc, .bool d.dead] 69)).alloc (.cells #[.slice none 0 0, .slice none 0 0, .int .i64 0, .slice none 0 0, .bool false] 69) = w0 at *
  unfold diskV at hm h ⊢
  obtain ⟨⟨i0, i1, i2, i3, i4⟩, f0, f1, f2, f3, f4⟩ := b0.at5
  replace hm := Lib.hid hm; replace h := Lib.hid h; replace b0 := Lib.hid b0; replace r0 := Lib.hid r0; replace hz := Lib.hid hz
  cases hmay : Dev.may d with
  | false =>
    rw [show Dev.revive d = Dev.no from by unfold Dev.revive; rw [if_pos hmay]]
    replace hm := hm.out
    rw [hmay] at hm
    replace hm := Lib.hid hm
    clear hmay
    go_enter Try.func81, Try.ntmps81
    go_wp2_with fail
    refine (hm.out _ (h.out.ext y0)).mono ?_; rintro e w1 ⟨rfl, x1⟩
    clear i0 i1 i2 i3 i4 f0 f1 f2 f3 f4 hw0
    have r1 := r0.out.ext x1
    have y1 := y0.trans x1
    clear x1 y0
    obtain ⟨_, g0, g1, g2, g3, g4⟩ := r1.at5
    have r2 := (((((r1.set 0 (.slice none 0 0) (by simp)).set 1 (.slice none 0 0) (by simp)).set 2 (.int .i64 0) (by simp)).set 3 (.slice none 0 0) (by simp)).set 4 (.bool false) (by simp))
    obtain ⟨⟨m0, m1, m2, m3, m4⟩, _⟩ := r2.at5
    replace m0 := Lib.hid m0; replace m1 := Lib.hid m1; replace m2 := Lib.hid m2; replace m3 := Lib.hid m3; replace m4 := Lib.hid m4
    replace r1 := Lib.hid r1; replace r2 := Lib.hid r2
    go_wp2_with fail
    refine bodyPost_ret (v := diskV (.slice none 0 0) (.slice none 0 0) (0) (.slice none 0 0) (false)) ?_ rfl ⟨_, rfl, ?_, ?_⟩
    · simp [results, Try.results81, go_sem, m0.out, m1.out, m2.out, m3.out, m4.out, diskV]
    · exact diskIn_no _
    · exact (((((y1).below.setCell (by simp) _).setCell (by simp) _).setCell (by simp) _).setCell (by simp) _).setCell (by simp) _
  | true =>
    rw [show Dev.revive d = ⟨d.kept, [], -1, [], false⟩ from by unfold Dev.revive; rw [if_neg (by rw [hmay]; decide)]]
    replace hm := hm.out
    rw [hmay] at hm
    replace hm := Lib.hid hm
    clear hmay
    go_enter Try.func81, Try.ntmps81
    go_wp2_with fail
    refine (hm.out _ (h.out.ext y0)).mono ?_; rintro e w1 ⟨rfl, x1⟩
    clear i0 i1 i2 i3 i4 f0 f1 f2 f3 f4 hw0
    replace r0 := Lib.hid (r0.out.ext x1)
    replace b0 := Lib.hid (b0.out.ext x1)
    obtain ⟨⟨i0, i1, i2, i3, i4⟩, f0, f1, f2, f3, f4⟩ := b0.out.at5
    have y1 := y0.trans x1
    clear x1 y0
    have r1 := r0.out
    obtain ⟨_, g0, g1, g2, g3, g4⟩ := r1.at5
    have r2 := (((((r1.set 0 (.slice ka kn kc) (by simp)).set 1 (.slice none 0 0) (by simp)).set 2 (.int .i64 (-1)) (by simp)).set 3 (.slice none 0 0) (by simp)).set 4 (.bool false) (by simp))
    obtain ⟨⟨m0, m1, m2, m3, m4⟩, _⟩ := r2.at5
    replace m0 := Lib.hid m0; replace m1 := Lib.hid m1; replace m2 := Lib.hid m2; replace m3 := Lib.hid m3; replace m4 := Lib.hid m4
    replace r1 := Lib.hid r1; replace r2 := Lib.hid r2
    go_wp2_with fail
    refine bodyPost_ret (v := diskV (.slice ka kn kc) (.slice none 0 0) ((-1)) (.slice none 0 0) (false)) ?_ rfl ⟨_, rfl, ?_, ?_⟩
    · simp [results, Try.results81, go_sem, m0.out, m1.out, m2.out, m3.out, m4.out, diskV]
    · obtain ⟨p1, p2, p3, p4, p5⟩ := h.out.parts
      refine ⟨_, _, _, rfl, p1.ext ?_, SlP.nil _, Sl.nil _, p4, .inl rfl⟩; exact (((((y1).below.setCell (by simp) _).setCell (by simp) _).setCell (by simp) _).setCell (by simp) _).setCell (by simp) _
    · exact (((((y1).below.setCell (by simp) _).setCell (by simp) _).setCell (by simp) _).setCell (by simp) _).setCell (by simp) _

set_option maxHeartbeats 4000000 in
/-- a list of texts with one changed. -/
theorem with_any (l : List ByteArray) (v : Value) (x : Nat) (s : ByteArray) (w : World) (h : Sl w v (l.map strV)) (hv : NilOr v) (hx : x < l.length) (hn : l.length ≤ 1000000) :
    Calls Try.prog 102 #[v, .int .i64 x, .string s] w fun e w' => ∃ r, e = .returned r ∧ w'.ownsRow w.heap.size 9 1 r l.length ((l.set x s).map strV) ∧ Ext w w' := by
  obtain ⟨i0, hi, hz0, hz1, hz2⟩ := info_parts info9
  have hL : (l.map strV).length = l.length := List.length_map _
  have one1 : ∀ y ∈ l.map strV, y.oneCell' = true := fun y hy => by
    obtain ⟨z, _, rfl⟩ := List.mem_map.1 hy
    rfl
  have hs := strV_set l x s
  have hxi : (x : Int) < l.length := by omega
  replace one1 := Lib.hid one1; replace hs := Lib.hid hs; replace hL := Lib.hid hL
  have hcell : ∀ (W : World) (g cap : Nat), W.ownsRow w.heap.size 9 1 (.slice (some ⟨g, 0, none⟩) l.length cap) l.length (l.map strV) → W.cell? ⟨g, x, none⟩ = some (.string l[x]) := fun W g cap ho => by
    rw [ho.cellAt x (by omega), List.getElem?_map, List.getElem?_eq_getElem hx]; rfl
  replace hcell := Lib.hid hcell
  replace h := Lib.hid h; replace hv := Lib.hid hv
  go_enter Try.func102, Try.ntmps102
  go_wp2_with (at_builtin; refine wpList_append_sl (a0 := w) rfl _ _ 55 rfl w.heap.size 9 i0 (.string ByteArray.empty) 16 Try.underlying55 hi hz0 hz1 hz2 rfl _ 0 [] rfl (ownsRow_fresh _ _ _) _ (l.map strV) rfl (h.out.ext ((Ext.refl _).alloc _)) hv.out one1.out ?c1 ?c2 (Nat.le_refl _) ?c3 ((Ext.refl _).alloc _) ?_)
  case c1 => rw [hL.out]; unfold maxLen; omega
  case c2 => rw [hL.out]; omega
  case c3 => simp
  intro v' w1 hown x1
  obtain ⟨g, cap, rfl, hbg, hgw⟩ := owned_form hown (by omega)
  have hc := hcell.out w1 g cap hown
  have hf := hown.frozenAt x
  have hst := (hown.stored x (.string s)).1
  rw [hs.out] at hst
  have y1 : Ext w (w1.setCell ⟨g, x, none⟩ (.string s)) := x1.below.setCell hbg _
  generalize l[x] = old at *
  replace hst := Lib.hid hst; replace hown := Lib.hid hown
  clear hi hz0 hz1 hz2
  go_wp2_with fail
  go_ret
  exact ⟨_, rfl, hst.out, y1⟩
end Go.Proofs.Ytehidhcpdiameaa

/- The walks of layer 9, on: a sector that is read, of the reference. -/
namespace Go.Proofs.Ytehidhcpdiameaa
open Go.RowKit

namespace Dev
theorem fold_take (x : Int) (c : List Put) (s : ByteArray) (k : Nat) (hk : k < c.length) : (c.take (k + 1)).foldl (step x) s = if c[k].1 = x then c[k].2 else (c.take k).foldl (step x) s := by
  rw [List.take_succ_eq_append_getElem hk, List.foldl_append]
  rfl
end Dev

set_option maxRecDepth 100000 in
set_option maxHeartbeats 8000000 in
theorem refRead_any (d : Dev.Disk) (v : Value) (x : Int) (w : World) (h : DiskIn w v d) :
    Calls Try.prog 69 #[v, .int .i64 x] w fun e w' => e = .returned (.tuple #[.string (Dev.read d x).1, .int .i64 (Dev.read d x).2]) ∧ Ext w w' := by
  have hm := fun w h => refMay_any d v w h
  have hform := h.form2
  obtain ⟨ka, kc, ca, cc, pa, pc, rfl, hkn⟩ := hform
  have b0 := Box.new w (diskL (.slice ka d.kept.length kc) (.slice ca d.cache.length cc) d.fuse (.slice pa d.keep.length pc) d.dead) 69
  have y0 : Ext w (w.alloc (.cells #[.slice ka d.kept.length kc, .slice ca d.cache.length cc, .int .i64 d.fuse, .slice pa d.keep.length pc, .bool d.dead] 69)) := (Ext.refl w).alloc _
  unfold diskV at hm h ⊢
  obtain ⟨p1, p2, _, _, _⟩ := h.parts
  generalize hw0 : (w.alloc (.cells #[.slice ka d.kept.length kc, .slice ca d.cache.length cc, .int .i64 d.fuse, .slice pa d.keep.length pc, .bool d.dead] 69)) = w0 at *
  obtain ⟨⟨i0, i1, i2, i3, i4⟩, _⟩ := b0.at5
  replace hm := Lib.hid hm; replace h := Lib.hid h; replace b0 := Lib.hid b0
  obtain ⟨ka', kc', e1, _, _, hkc⟩ := sl_str_at p1
  simp only [Value.slice.injEq, true_and] at e1
  obtain ⟨rfl, rfl⟩ := e1
  obtain ⟨ca', cc', e1, hcl, hcm, hcc⟩ := slp_at p2
  simp only [Value.slice.injEq, true_and] at e1
  obtain ⟨rfl, rfl⟩ := e1
  clear p1 p2
  have hNi : (d.kept.length : Int) ≤ 9223372036854775807 := by omega
  have hMi : (d.cache.length : Int) ≤ 9223372036854775807 := by omega
  replace hkc := Lib.hid hkc; replace hcc := Lib.hid hcc
  cases hmay : Dev.may d with
  | false =>
    rw [show Dev.read d x = (Dev.empty, 1) from by unfold Dev.read; rw [if_pos hmay]]
    replace hm := hm.out
    rw [hmay] at hm
    replace hm := Lib.hid hm
    clear hmay
    go_enter Try.func69, Try.ntmps69
    go_wp2_with fail
    refine (hm.out _ (h.out.ext y0)).mono ?_; rintro e w1 ⟨rfl, x1⟩
    clear i0 i1 i2 i3 i4 hw0
    have b1 := b0.out.ext x1
    obtain ⟨⟨i0, i1, i2, i3, i4⟩, _⟩ := b1.at5
    have y1 := y0.trans x1
    clear x1 b1
    go_wp2_with fail
    go_ret2
    exact ⟨rfl, y1⟩
  | true =>
    replace hm := hm.out
    rw [hmay] at hm
    replace hm := Lib.hid hm
    cases hdead : d.dead with
    | true =>
      rw [show Dev.read d x = (Dev.empty, 90) from by unfold Dev.read; rw [if_neg (by rw [hmay]; decide), if_pos hdead]]
      clear hmay
      replace hm := hm.out; replace h := h.out; replace b0 := b0.out
      rw [hdead] at hm h b0 hw0 i4
      replace hm := Lib.hid hm; replace h := Lib.hid h; replace b0 := Lib.hid b0; replace hdead := Lib.hid hdead
      go_enter Try.func69, Try.ntmps69
      go_wp2_with fail
      refine (hm.out _ (h.out.ext y0)).mono ?_; rintro e w1 ⟨rfl, x1⟩
      clear i0 i1 i2 i3 i4 hw0
      have b1 := b0.out.ext x1
      obtain ⟨⟨i0, i1, i2, i3, i4⟩, _⟩ := b1.at5
      have y1 := y0.trans x1
      clear x1 b1
      go_wp2_with fail
      go_ret2
      exact ⟨rfl, y1⟩
    | false =>
      have hread : Dev.read d x = if x < 0 ∨ d.kept.length ≤ x then (Dev.empty, 1) else (Dev.cur d x.toNat, 0) := by unfold Dev.read; rw [if_neg (by rw [hmay]; decide), if_neg (by rw [hdead]; decide)]
      clear hmay
      replace hm := hm.out; replace h := h.out; replace b0 := b0.out
      rw [hdead] at hm h b0 hw0 i4
      replace hm := Lib.hid hm; replace h := Lib.hid h; replace b0 := Lib.hid b0; replace hdead := Lib.hid hdead
      by_cases hx0 : x < 0
      · rw [if_pos (by omega)] at hread
        rw [hread]
        have d1 : decide (x < 0) = true := decide_eq_true hx0
        replace hread := Lib.hid hread
        go_enter Try.func69, Try.ntmps69
        go_wp2_with fail
        refine (hm.out _ (h.out.ext y0)).mono ?_; rintro e w1 ⟨rfl, x1⟩
        clear i0 i1 i2 i3 i4 hw0
        have b1 := b0.out.ext x1
        obtain ⟨⟨i0, i1, i2, i3, i4⟩, _⟩ := b1.at5
        have y1 := y0.trans x1
        clear x1 b1
        go_wp2_with fail
        go_ret2
        exact ⟨rfl, y1⟩
      · have d1 : decide (x < 0) = false := decide_eq_false hx0
        by_cases hx1 : (d.kept.length : Int) ≤ x
        · rw [if_pos (by omega)] at hread
          rw [hread]
          have d2 : decide ((d.kept.length : Int) ≤ x) = true := decide_eq_true hx1
          replace hread := Lib.hid hread
          go_enter Try.func69, Try.ntmps69
          go_wp2_with fail
          refine (hm.out _ (h.out.ext y0)).mono ?_; rintro e w1 ⟨rfl, x1⟩
          clear i0 i1 i2 i3 i4 hw0
          have b1 := b0.out.ext x1
          obtain ⟨⟨i0, i1, i2, i3, i4⟩, _⟩ := b1.at5
          have y1 := y0.trans x1
          clear x1 b1
          go_wp2_with fail
          go_ret2
          exact ⟨rfl, y1⟩
        · have d2 : decide ((d.kept.length : Int) ≤ x) = false := decide_eq_false hx1
          rw [if_neg (by omega)] at hread
          rw [hread]
          obtain ⟨x, rfl⟩ := Int.eq_ofNat_of_zero_le (show 0 ≤ x by omega)
          rw [Int.toNat_natCast]
          have hxk : x < d.kept.length := by omega
          have hxi : (x : Int) < d.kept.length := by omega
          have hft := Dev.fold_take x d.cache d.kept[x]
          have hV : Dev.cur d x = (d.cache.take d.cache.length).foldl (Dev.step x) d.kept[x] := by
            unfold Dev.cur
            rw [List.take_length, List.getD_eq_getElem?_getD, List.getElem?_eq_getElem hxk]
            rfl
          obtain ⟨bk, ok, hka, hbk, hck⟩ := hkc.out x hxk
          subst hka
          generalize d.kept[x] = K at *
          rw [hV]
          replace hread := Lib.hid hread; replace hV := Lib.hid hV; replace hft := Lib.hid hft
          go_enter Try.func69, Try.ntmps69
          go_wp2_with fail
          refine (hm.out _ (h.out.ext y0)).mono ?_; rintro e w1 ⟨rfl, x1⟩
          clear i0 i1 i2 i3 i4 hw0
          have b1 := b0.out.ext x1
          obtain ⟨⟨i0, i1, i2, i3, i4⟩, _⟩ := b1.at5
          have y1 := y0.trans x1
          clear x1 b1
          have hcW := (y1.cell (p := ⟨bk, ok + x, none⟩) hbk).trans hck
          go_wp2_with fail
          go_loop [6, 7] (fun t i => ∃ k : Nat, k ≤ d.cache.length ∧ i = .int .i64 k ∧ t = .string ((d.cache.take k).foldl (Dev.step x) K)) (fun _ i => d.cache.length - (intOf i).toNat)
          case atStart => exact ⟨0, by omega, rfl, rfl⟩
          case round =>
            obtain ⟨k, hk, rfl, rfl⟩ := hrel
            by_cases hkl : k < d.cache.length
            · obtain ⟨b, o, rfl, hb, hc1, hc2⟩ := hcc.out k hkl
              have hf := hft.out k hkl
              have hc1' := (y1.cell (p := ⟨b, o + k * 2, none⟩) hb).trans hc1
              have hc2' := (y1.cell (p := ⟨b, o + k * 2 + 1, none⟩) hb).trans hc2
              have hki : (k : Int) < d.cache.length := by omega
              clear hc1 hc2
              generalize d.cache[k] = q at *
              by_cases hq : q.1 = (x : Int)
              · rw [if_pos hq] at hf
                have hqb : (q.1 == (x : Int)) = true := by simp [hq]
                replace hf := Lib.hid hf; replace hq := Lib.hid hq
                go_wp2_with fail
                go_round
                case rel => exact ⟨k + 1, by omega, by go_num, by rw [hf.out]⟩
                case measure => simp [intOf]; omega
              · rw [if_neg hq] at hf
                have hqb : (q.1 == (x : Int)) = false := by simp [hq]
                replace hf := Lib.hid hf; replace hq := Lib.hid hq
                go_wp2_with fail
                go_round
                case rel => exact ⟨k + 1, by omega, by go_num, by rw [hf.out]⟩
                case measure => simp [intOf]; omega
            · obtain rfl : k = d.cache.length := by omega
              go_wp2_with fail
              go_ret2
              exact ⟨rfl, y1⟩
end Go.Proofs.Ytehidhcpdiameaa

/- The walks of layer 9, on: a disk that dies, of the reference. -/
namespace Go.Proofs.Ytehidhcpdiameaa
open Go.RowKit

/-- a row of texts that a loud call makes. -/
def Soft.ownedRow (B n : Nat) (l : List ByteArray) : Soft.Loud where
  shape u := ∃ a c, u = .slice a n c
  fact u w := w.ownsRow B 9 1 u n (l.map strV)
  some_ := ⟨_, none, 0, rfl⟩
theorem Soft.ownedRow_stab {B n : Nat} {l : List ByteArray} {u : Value} {w w' : World} (hr : Ext w w') (h : (Soft.ownedRow B n l).fact u w) : (Soft.ownedRow B n l).fact u w' := ownsRow_ext h hr
theorem Soft.ownedRow_at {B n : Nat} {l : List ByteArray} {u : Value} {w : World} (h : (Soft.ownedRow B n l).fact u w) : w.ownsRow B 9 1 u n (l.map strV) := h

set_option maxRecDepth 100000 in
set_option maxHeartbeats 16000000 in
theorem refDie_any (d : Dev.Disk) (v kp : Value) (keep : List Bool) (w : World) (h : DiskIn w v d) (hk : Sl w kp (keep.map boolV)) :
    Calls Try.prog 79 #[v, kp] w fun e w' => ∃ r, e = .returned r ∧ DiskIn w' r (Dev.die d keep) ∧ Ext w w' := by
  obtain ⟨la, lc, rfl, hlk, hlb, hkc⟩ := sl_bool_at hk
  replace hkc := Lib.hid hkc
  have hLi : (keep.length : Int) ≤ 9223372036854775807 := by omega
  have hm := fun w h => refMay_any d v w h
  have hform := h.form2
  obtain ⟨ka, kc, ca, cc, pa, pc, rfl, hkn⟩ := hform
  have b0 := (Box.new w (diskL (.slice ka d.kept.length kc) (.slice ca d.cache.length cc) d.fuse (.slice pa d.keep.length pc) d.dead) 69).alloc (.cells #[.slice none 0 0, .slice none 0 0, .int .i64 0, .slice none 0 0, .bool false] 69)
  have r0 := Box.new (w.alloc (.cells #[.slice ka d.kept.length kc, .slice ca d.cache.length cc, .int .i64 d.fuse, .slice pa d.keep.length pc, .bool d.dead] 69)) zeroL 69
  rw [show (w.alloc (.cells #[.slice ka d.kept.length kc, .slice ca d.cache.length cc, .int .i64 d.fuse, .slice pa d.keep.length pc, .bool d.dead] 69)).heap.size = w.heap.size + 1 from by simp] at r0
  have y0 : Ext w ((w.alloc (.cells #[.slice ka d.kept.length kc, .slice ca d.cache.length cc, .int .i64 d.fuse, .slice pa d.keep.length pc, .bool d.dead] 69)).alloc (.cells #[.slice none 0 0, .slice none 0 0, .int .i64 0, .slice none 0 0, .bool false] 69)) := ((Ext.refl w).alloc _).alloc _
  have hz : ((w.alloc (.cells #[.slice ka d.kept.length kc, .slice ca d.cache.length cc, .int .i64 d.fuse, .slice pa d.keep.length pc, .bool d.dead] 69)).alloc (.cells #[.slice none 0 0, .slice none 0 0, .int .i64 0, .slice none 0 0, .bool false] 69)).heap.size = w.heap.size + 2 := by simp
  generalize hw0 : (w.alloc (.cells #[.slice ka d.kept.length kc, .slice ca d.cache.length cc, .int .i64 d.fuse, .slice pa d.keep.length pc, .bool d.dead] 69)).alloc (.cells #[.slice none 0 0, .slice none 0 0, .int .i64 0, .slice none 0 0, .bool false] 69) = w0 at *
  unfold diskV at hm h ⊢
  obtain ⟨⟨i0, i1, i2, i3, i4⟩, f0, f1, f2, f3, f4⟩ := b0.at5
  replace hm := Lib.hid hm; replace h := Lib.hid h; replace b0 := Lib.hid b0; replace r0 := Lib.hid r0; replace hz := Lib.hid hz
  cases hmay : Dev.may d with
  | false =>
    rw [show Dev.die d keep = Dev.no from by unfold Dev.die; rw [if_pos hmay]]
    replace hm := hm.out
    rw [hmay] at hm
    replace hm := Lib.hid hm
    clear hmay
    go_enter Try.func79, Try.ntmps79
    go_wp2_with fail
    refine (hm.out _ (h.out.ext y0)).mono ?_; rintro e w1 ⟨rfl, x1⟩
    clear i0 i1 i2 i3 i4 f0 f1 f2 f3 f4 hw0
    have r1 := r0.out.ext x1
    have y1 := y0.trans x1
    clear x1 y0
    obtain ⟨_, g0, g1, g2, g3, g4⟩ := r1.at5
    have r2 := (((((r1.set 0 (.slice none 0 0) (by simp)).set 1 (.slice none 0 0) (by simp)).set 2 (.int .i64 0) (by simp)).set 3 (.slice none 0 0) (by simp)).set 4 (.bool false) (by simp))
    obtain ⟨⟨m0, m1, m2, m3, m4⟩, _⟩ := r2.at5
    replace m0 := Lib.hid m0; replace m1 := Lib.hid m1; replace m2 := Lib.hid m2; replace m3 := Lib.hid m3; replace m4 := Lib.hid m4
    replace r1 := Lib.hid r1; replace r2 := Lib.hid r2
    go_wp2_with fail
    refine bodyPost_ret (v := diskV (.slice none 0 0) (.slice none 0 0) (0) (.slice none 0 0) (false)) ?_ rfl ⟨_, rfl, ?_, ?_⟩
    · simp [results, Try.results79, go_sem, m0.out, m1.out, m2.out, m3.out, m4.out, diskV]
    · exact diskIn_no _
    · exact (((((y1).below.setCell (by simp) _).setCell (by simp) _).setCell (by simp) _).setCell (by simp) _).setCell (by simp) _
  | true =>
    obtain ⟨p1, p2, p3, p4, p5⟩ := h.out.parts
    obtain ⟨ca', cc', e1, hcl, hcm, hcc⟩ := slp_at p2
    simp only [Value.slice.injEq, true_and] at e1
    obtain ⟨rfl, rfl⟩ := e1
    obtain ⟨q1, q2, q3⟩ := may_small hmay
    replace hcc := Lib.hid hcc; replace q3 := Lib.hid q3
    have hMi : (d.cache.length : Int) ≤ 1000000 := by omega
    rw [show Dev.die d keep = Dev.dieOf d keep from by unfold Dev.die; rw [if_neg (by rw [hmay]; decide)]]
    replace hm := hm.out
    rw [hmay] at hm
    replace hm := Lib.hid hm
    clear hmay
    go_enter Try.func79, Try.ntmps79
    go_wp2_with fail
    refine (hm.out _ (h.out.ext y0)).mono ?_; rintro e w1 ⟨rfl, x1⟩
    clear i0 i1 i2 i3 i4 f0 f1 f2 f3 f4 hw0
    replace r0 := Lib.hid (r0.out.ext x1)
    replace b0 := Lib.hid (b0.out.ext x1)
    obtain ⟨⟨i0, i1, i2, i3, i4⟩, f0, f1, f2, f3, f4⟩ := b0.out.at5
    have y1 := y0.trans x1
    have hl1 := x1.size
    clear x1 y0
    have hz1 : w.heap.size + 2 ≤ w1.heap.size := by have := hz.out; omega
    have R0 : ∃ ua uc, Box w.heap.size (diskL (.slice ua d.kept.length uc) (.slice ca d.cache.length cc) d.fuse (.slice pa d.keep.length pc) d.dead) w1 ∧ FarSl w.heap.size (w.heap.size + 2) w1 (.slice ua d.kept.length uc) ((Dev.putSome d.kept (d.cache.take 0) keep).map strV) ∧ NilOr (.slice ua d.kept.length uc) ∧ Box (w.heap.size + 1) zeroL w1 ∧ Ext w w1 ∧ w.heap.size + 2 ≤ w1.heap.size := ⟨ka, kc, b0.out, farSl_below p1 (Nat.le_refl _) y1, p4, r0.out, y1, hz1⟩
    replace R0 := Lib.hid R0
    clear b0 r0 p1 p2 p3
    go_wp2_with fail
    clear i0 i1 i2 i3 i4 f0 f1 f2 f3 f4
    go_loopw [5] (fun i wr => ∃ n : Nat, n ≤ d.cache.length ∧ i = .int .i64 n ∧ (∃ ua uc, Box w.heap.size (diskL (.slice ua d.kept.length uc) (.slice ca d.cache.length cc) d.fuse (.slice pa d.keep.length pc) d.dead) wr ∧ FarSl w.heap.size (w.heap.size + 2) wr (.slice ua d.kept.length uc) ((Dev.putSome d.kept (d.cache.take n) keep).map strV) ∧ NilOr (.slice ua d.kept.length uc) ∧ Box (w.heap.size + 1) zeroL wr ∧ Ext w wr ∧ w.heap.size + 2 ≤ wr.heap.size)) (fun i _ => d.cache.length - (intOf i).toNat)
    case atStart => exact ⟨0, by omega, rfl, R0.out⟩
    case round =>
      obtain ⟨n, hn, rfl, ua, uc, hbx, hS, hN, hrs, hx, hsz⟩ := hrel
      obtain ⟨⟨i0, i1, i2, i3, i4⟩, _⟩ := hbx.at5
      replace hbx := Lib.hid hbx; replace hrs := Lib.hid hrs; replace hsz := Lib.hid hsz
      by_cases hlt : n < d.cache.length
      · have hnx := Dev.putSome_take d.kept d.cache keep n hlt
        have c1 : decide ((n : Int) < d.cache.length) = true := decide_eq_true (by omega)
        by_cases hnL : n < keep.length
        · obtain ⟨bk, ok, rfl, hbk, hck⟩ := hkc.out n hnL
          have hckw := (hx.cell (p := ⟨bk, ok + n, none⟩) hbk).trans hck
          have hg : keep.getD n false = keep[n] := by rw [List.getD_eq_getElem?_getD, List.getElem?_eq_getElem hnL]; rfl
          rw [hg] at hnx
          have c2 : decide ((n : Int) < keep.length) = true := decide_eq_true (by omega)
          have c3 : (n : Int) < keep.length := by omega
          clear hck
          replace hg := Lib.hid hg
          generalize keep[n] = kb at *
          cases kb
          · rw [if_neg (by decide)] at hnx
            have hR3 : ∃ ua uc, Box w.heap.size (diskL (.slice ua d.kept.length uc) (.slice ca d.cache.length cc) d.fuse (.slice pa d.keep.length pc) d.dead) wr ∧ FarSl w.heap.size (w.heap.size + 2) wr (.slice ua d.kept.length uc) ((Dev.putSome d.kept (d.cache.take (n + 1)) keep).map strV) ∧ NilOr (.slice ua d.kept.length uc) ∧ Box (w.heap.size + 1) zeroL wr ∧ Ext w wr ∧ w.heap.size + 2 ≤ wr.heap.size := ⟨ua, uc, hbx.out, by rw [hnx]; exact hS, hN, hrs.out, hx, hsz.out⟩
            replace hR3 := Lib.hid hR3; replace hnx := Lib.hid hnx; replace hS := Lib.hid hS
            go_wp2_with fail
            go_roundw
            case rel => exact ⟨n + 1, by omega, by go_num, hR3.out⟩
            case measure => simp [intOf]; omega
          · rw [if_pos rfl] at hnx
            obtain ⟨b, o, rfl, hb, hc1, hc2⟩ := hcc.out n hlt
            have hc1 : ∀ wq, Ext wr wq → wq.cell? ⟨b, o + n * 2, none⟩ = some (.int .i64 d.cache[n].1) := fun wq xq => ((hx.trans xq).cell (p := ⟨b, o + n * 2, none⟩) hb).trans hc1
            have hc2 : ∀ wq, Ext wr wq → wq.cell? ⟨b, o + n * 2 + 1, none⟩ = some (.string d.cache[n].2) := fun wq xq => ((hx.trans xq).cell (p := ⟨b, o + n * 2 + 1, none⟩) hb).trans hc2
            have hir := q3.out _ (List.getElem_mem hlt)
            have hni : (n : Int) < d.cache.length := by omega
            generalize d.cache[n] = q at *
            obtain ⟨x, t⟩ := q
            dsimp only at hc1 hc2 hir hnx
            obtain ⟨x, rfl⟩ := Int.eq_ofNat_of_zero_le hir.1
            have hll : (Dev.putSome d.kept (d.cache.take n) keep).length = d.kept.length := Dev.putSome_length _ _ _
            have hwith : ∀ wq, Ext wr wq → Calls Try.prog 102 #[.slice ua d.kept.length uc, .int .i64 x, .string t] wq fun e w' => ∃ r, e = .returned r ∧ w'.ownsRow wq.heap.size 9 1 r d.kept.length ((Dev.put1 (Dev.putSome d.kept (d.cache.take n) keep) ((x : Int), t)).map strV) ∧ Ext wq w' := fun wq xq => by
              have := with_any (Dev.putSome d.kept (d.cache.take n) keep) (.slice ua d.kept.length uc) x t wq (hS.ext xq).1 hN (by rw [hll]; omega) (by rw [hll]; exact q1)
              rw [hll] at this
              exact this
            rw [← hnx] at hwith
            replace hwith := Lib.hid hwith; replace hc1 := Lib.hid hc1; replace hc2 := Lib.hid hc2; replace hll := Lib.hid hll; replace hnx := Lib.hid hnx; replace hS := Lib.hid hS
            go_wp2_with fail
            clear i0 i1 i2 i3 i4
            refine Soft.region_ext [(14, Soft.ownedRow (w.heap.size + 2) d.kept.length (Dev.putSome d.kept (d.cache.take (n + 1)) keep))] [0, 1, 2, 3, 4, 5, 6, 7, 8, 9, 10, 11, 12, 13, 14, 15] [16] (by kernel_rfl) (by kernel_rfl) (Soft.stab_one fun _ _ _ => Soft.ownedRow_stab) ?_
            repeat (first | (refine Soft.pure_n rfl rfl rfl rfl (fun K hK => ?_); go_simp; refine hK _ ?_; clear hK K) | (refine Soft.pure_g rfl rfl rfl rfl rfl (fun K hK => ?_); go_simp; refine hK _ ?_; clear hK K) | (refine Soft.shut rfl rfl rfl rfl (fun K hK => ?_); go_simp; refine hK _ ?_; clear hK K) | (refine Soft.shut0 rfl rfl rfl rfl (fun K hK => ?_); go_simp; refine hK _ ?_; clear hK K) | (refine Soft.quiet_n rfl rfl rfl rfl (fun K hK => ?_); go_simp; apply Exists.intro; refine ⟨fun wq hq => ?_, hK _ ?_⟩; (first | (obtain ⟨⟨gg0, gg1, gg2, gg3, gg4⟩, _⟩ := (hbx.out.ext hq).at5; go_simp; with_reducible rfl) | (have gg := hc1.out wq hq; go_simp; with_reducible rfl) | (have gg := hc2.out wq hq; go_simp; with_reducible rfl)); clear hK K) | (refine Soft.quiet_g rfl rfl rfl rfl rfl (fun K hK => ?_); go_simp; apply Exists.intro; refine ⟨fun wq hq => ?_, hK _ ?_⟩; (first | (obtain ⟨⟨gg0, gg1, gg2, gg3, gg4⟩, _⟩ := (hbx.out.ext hq).at5; go_simp; with_reducible rfl) | (have gg := hc1.out wq hq; go_simp; with_reducible rfl) | (have gg := hc2.out wq hq; go_simp; with_reducible rfl)); clear hK K))
            refine Soft.loud_step0 rfl rfl rfl rfl (fun K hK => ?_)
            refine ⟨fun wq hq => ?_, fun u ⟨ua, uc, hu⟩ => hK _ ?_⟩
            · go_simp
              refine (hwith.out wq hq).mono ?_
              rintro e w7 ⟨r, rfl, ho, x7⟩
              obtain ⟨ra, rc, e7⟩ := owned_slice ho
              exact ⟨r, rfl, x7, ⟨ra, rc, e7⟩, ho.mono (by have := hsz.out; have := hq.size; omega)⟩
            clear hK K
            subst hu
            repeat (refine Soft.pure_n rfl rfl rfl rfl (fun K hK => ?_); go_simp; refine hK _ ?_; clear hK K)
            refine Soft.tail_forced [_] (by kernel_rfl) rfl (fun w6 x6 k6 => ?_)
            have ho := Soft.ownedRow_at (k6.get 14 rfl rfl)
            have hb6 := hbx.out.ext x6
            obtain ⟨⟨i0, i1, i2, i3, i4⟩, f0, f1, f2, f3, f4⟩ := hb6.at5
            have hb7 := hb6.set 0 (.slice ua d.kept.length uc) (by simp)
            have ho7 := ownsRow_under ho w.heap.size 0 (.slice ua d.kept.length uc) (by omega)
            have hr7 := (hrs.out.ext x6).other (m := w.heap.size) (by omega) 0 (.slice ua d.kept.length uc)
            have y7 : Ext w (w6.setCell ⟨w.heap.size, 0, none⟩ (.slice ua d.kept.length uc)) := (hx.trans x6).below.setCell (Nat.le_refl _) _
            have hz7 : w.heap.size + 2 ≤ (w6.setCell ⟨w.heap.size, 0, none⟩ (.slice ua d.kept.length uc)).heap.size := by simp; have := hsz.out; have := x6.size; omega
            replace hb7 := Lib.hid hb7; replace ho7 := Lib.hid ho7; replace hr7 := Lib.hid hr7; replace ho := Lib.hid ho; replace hb6 := Lib.hid hb6
            go_wp2_with fail
            rw [Soft.NoP_normal]
            go_wp2_with fail
            go_roundw
            case rel => exact ⟨n + 1, by omega, by go_num, ua, uc, hb7.out, farSl_owned ho7.out, nilOr_owned ho7.out, hr7.out, y7, hz7⟩
            case measure => simp [intOf]; omega
        · have hg : keep.getD n false = false := by rw [List.getD_eq_getElem?_getD, List.getElem?_eq_none (by omega)]; rfl
          have c2 : decide ((n : Int) < keep.length) = false := decide_eq_false (by omega)
          have c3 : ¬ (n : Int) < keep.length := by omega
          have hend : Dev.putSome d.kept (d.cache.take n) keep = Dev.putSome d.kept d.cache keep := Dev.putSome_past d.kept d.cache keep n (by omega)
          rw [hend] at hS
          have r1 := hrs.out
          replace hg := Lib.hid hg; replace hnx := Lib.hid hnx; replace hend := Lib.hid hend
          replace hS := Lib.hid hS
          obtain ⟨_, g0, g1, g2, g3, g4⟩ := r1.at5
          have r2 := (((((r1.set 0 (.slice ua d.kept.length uc) (by simp)).set 1 (.slice none 0 0) (by simp)).set 2 (.int .i64 (-1)) (by simp)).set 3 (.slice none 0 0) (by simp)).set 4 (.bool true) (by simp))
          obtain ⟨⟨m0, m1, m2, m3, m4⟩, _⟩ := r2.at5
          replace m0 := Lib.hid m0; replace m1 := Lib.hid m1; replace m2 := Lib.hid m2; replace m3 := Lib.hid m3; replace m4 := Lib.hid m4
          replace r1 := Lib.hid r1; replace r2 := Lib.hid r2
          go_wp2_with fail
          refine bodyPost_ret (v := diskV (.slice ua d.kept.length uc) (.slice none 0 0) ((-1)) (.slice none 0 0) (true)) ?_ rfl ⟨_, rfl, ?_, ?_⟩
          · simp [results, Try.results79, go_sem, m0.out, m1.out, m2.out, m3.out, m4.out, diskV]
          · refine ⟨_, _, _, rfl, ?_, SlP.nil _, Sl.nil _, hN, .inl rfl⟩
            exact (((((hS.out.set (g := w.heap.size + 1) (by omega) (by omega) 0 _).set (g := w.heap.size + 1) (by omega) (by omega) 1 _).set (g := w.heap.size + 1) (by omega) (by omega) 2 _).set (g := w.heap.size + 1) (by omega) (by omega) 3 _).set (g := w.heap.size + 1) (by omega) (by omega) 4 _).1
          · exact (((((hx).below.setCell (by simp) _).setCell (by simp) _).setCell (by simp) _).setCell (by simp) _).setCell (by simp) _
      · obtain rfl : n = d.cache.length := by omega
        have c1 : decide ((d.cache.length : Int) < d.cache.length) = false := decide_eq_false (by omega)
        rw [List.take_length] at hS
        have r1 := hrs.out
        replace hS := Lib.hid hS
        obtain ⟨_, g0, g1, g2, g3, g4⟩ := r1.at5
        have r2 := (((((r1.set 0 (.slice ua d.kept.length uc) (by simp)).set 1 (.slice none 0 0) (by simp)).set 2 (.int .i64 (-1)) (by simp)).set 3 (.slice none 0 0) (by simp)).set 4 (.bool true) (by simp))
        obtain ⟨⟨m0, m1, m2, m3, m4⟩, _⟩ := r2.at5
        replace m0 := Lib.hid m0; replace m1 := Lib.hid m1; replace m2 := Lib.hid m2; replace m3 := Lib.hid m3; replace m4 := Lib.hid m4
        replace r1 := Lib.hid r1; replace r2 := Lib.hid r2
        go_wp2_with fail
        refine bodyPost_ret (v := diskV (.slice ua d.kept.length uc) (.slice none 0 0) ((-1)) (.slice none 0 0) (true)) ?_ rfl ⟨_, rfl, ?_, ?_⟩
        · simp [results, Try.results79, go_sem, m0.out, m1.out, m2.out, m3.out, m4.out, diskV]
        · refine ⟨_, _, _, rfl, ?_, SlP.nil _, Sl.nil _, hN, .inl rfl⟩
          exact (((((hS.out.set (g := w.heap.size + 1) (by omega) (by omega) 0 _).set (g := w.heap.size + 1) (by omega) (by omega) 1 _).set (g := w.heap.size + 1) (by omega) (by omega) 2 _).set (g := w.heap.size + 1) (by omega) (by omega) 3 _).set (g := w.heap.size + 1) (by omega) (by omega) 4 _).1
        · exact (((((hx).below.setCell (by simp) _).setCell (by simp) _).setCell (by simp) _).setCell (by simp) _).setCell (by simp) _

end Go.Proofs.Ytehidhcpdiameaa

/- The walks of layer 9, on: a disk that dies, of the reference: where its sectors do not lie. -/
namespace Go.Proofs.Ytehidhcpdiameaa
open Go.RowKit

/-- a slice that does not lie in this block. -/
def FarV (m : Nat) (v : Value) (l : List Value) : Prop := l ≠ [] → ∀ b o n c, v = .slice (some ⟨b, o, none⟩) n c → b ≠ m
theorem farV_owned {m B : Nat} {w : World} {v : Value} {vs : List Value} {e : TypeId} {n : Nat} (h : w.ownsRow B e 1 v n vs) (hm : m < B) : FarV m v vs := fun _ b o n' c' e' => by
  have := ownBlock_ge h b (by rw [e']; rfl)
  omega
/-- a dead disk's value. -/
def DieFar (m : Nat) (w : World) (r : Value) (l : List ByteArray) : Prop := ∃ k, r = diskV k (.slice none 0 0) (-1) (.slice none 0 0) true ∧ Sl w k (l.map strV) ∧ FarV m k (l.map strV) ∧ NilOr k

set_option maxRecDepth 100000 in
set_option maxHeartbeats 16000000 in
theorem refDieFar_any (m : Nat) (d : Dev.Disk) (v kp : Value) (keep : List Bool) (w : World) (h : DiskIn w v d) (hk : Sl w kp (keep.map boolV)) (hmay : Dev.may d = true) (hm2 : m < w.heap.size) (hfar : ∀ k c f p b, v = diskV k c f p b → FarV m k (d.kept.map strV)) :
    Calls Try.prog 79 #[v, kp] w fun e w' => ∃ r, e = .returned r ∧ DieFar m w' r (Dev.dieOf d keep).kept ∧ Ext w w' := by
  obtain ⟨la, lc, rfl, hlk, hlb, hkc⟩ := sl_bool_at hk
  replace hkc := Lib.hid hkc
  have hLi : (keep.length : Int) ≤ 9223372036854775807 := by omega
  have hm := fun w h => refMay_any d v w h
  have hform := h.form2
  obtain ⟨ka, kc, ca, cc, pa, pc, rfl, hkn⟩ := hform
  have hfk := hfar _ _ _ _ _ rfl
  clear hfar
  have b0 := (Box.new w (diskL (.slice ka d.kept.length kc) (.slice ca d.cache.length cc) d.fuse (.slice pa d.keep.length pc) d.dead) 69).alloc (.cells #[.slice none 0 0, .slice none 0 0, .int .i64 0, .slice none 0 0, .bool false] 69)
  have r0 := Box.new (w.alloc (.cells #[.slice ka d.kept.length kc, .slice ca d.cache.length cc, .int .i64 d.fuse, .slice pa d.keep.length pc, .bool d.dead] 69)) zeroL 69
  rw [show (w.alloc (.cells #[.slice ka d.kept.length kc, .slice ca d.cache.length cc, .int .i64 d.fuse, .slice pa d.keep.length pc, .bool d.dead] 69)).heap.size = w.heap.size + 1 from by simp] at r0
  have y0 : Ext w ((w.alloc (.cells #[.slice ka d.kept.length kc, .slice ca d.cache.length cc, .int .i64 d.fuse, .slice pa d.keep.length pc, .bool d.dead] 69)).alloc (.cells #[.slice none 0 0, .slice none 0 0, .int .i64 0, .slice none 0 0, .bool false] 69)) := ((Ext.refl w).alloc _).alloc _
  have hz : ((w.alloc (.cells #[.slice ka d.kept.length kc, .slice ca d.cache.length cc, .int .i64 d.fuse, .slice pa d.keep.length pc, .bool d.dead] 69)).alloc (.cells #[.slice none 0 0, .slice none 0 0, .int .i64 0, .slice none 0 0, .bool false] 69)).heap.size = w.heap.size + 2 := by simp
  generalize hw0 : (w.alloc (.cells #[.slice ka d.kept.length kc, .slice ca d.cache.length cc, .int .i64 d.fuse, .slice pa d.keep.length pc, .bool d.dead] 69)).alloc (.cells #[.slice none 0 0, .slice none 0 0, .int .i64 0, .slice none 0 0, .bool false] 69) = w0 at *
  unfold diskV at hm h ⊢
  obtain ⟨⟨i0, i1, i2, i3, i4⟩, f0, f1, f2, f3, f4⟩ := b0.at5
  replace hm := Lib.hid hm; replace h := Lib.hid h; replace b0 := Lib.hid b0; replace r0 := Lib.hid r0; replace hz := Lib.hid hz
  obtain ⟨p1, p2, p3, p4, p5⟩ := h.out.parts
  obtain ⟨ca', cc', e1, hcl, hcm, hcc⟩ := slp_at p2
  simp only [Value.slice.injEq, true_and] at e1
  obtain ⟨rfl, rfl⟩ := e1
  obtain ⟨q1, q2, q3⟩ := may_small hmay
  replace hcc := Lib.hid hcc; replace q3 := Lib.hid q3
  have hMi : (d.cache.length : Int) ≤ 1000000 := by omega
  replace hm := hm.out
  rw [hmay] at hm
  replace hm := Lib.hid hm
  clear hmay
  go_enter Try.func79, Try.ntmps79
  go_wp2_with fail
  refine (hm.out _ (h.out.ext y0)).mono ?_; rintro e w1 ⟨rfl, x1⟩
  clear i0 i1 i2 i3 i4 f0 f1 f2 f3 f4 hw0
  replace r0 := Lib.hid (r0.out.ext x1)
  replace b0 := Lib.hid (b0.out.ext x1)
  obtain ⟨⟨i0, i1, i2, i3, i4⟩, f0, f1, f2, f3, f4⟩ := b0.out.at5
  have y1 := y0.trans x1
  have hl1 := x1.size
  clear x1 y0
  have hz1 : w.heap.size + 2 ≤ w1.heap.size := by have := hz.out; omega
  have R0 : ∃ ua uc, FarV m (.slice ua d.kept.length uc) ((Dev.putSome d.kept (d.cache.take 0) keep).map strV) ∧ Box w.heap.size (diskL (.slice ua d.kept.length uc) (.slice ca d.cache.length cc) d.fuse (.slice pa d.keep.length pc) d.dead) w1 ∧ FarSl w.heap.size (w.heap.size + 2) w1 (.slice ua d.kept.length uc) ((Dev.putSome d.kept (d.cache.take 0) keep).map strV) ∧ NilOr (.slice ua d.kept.length uc) ∧ Box (w.heap.size + 1) zeroL w1 ∧ Ext w w1 ∧ w.heap.size + 2 ≤ w1.heap.size := ⟨ka, kc, hfk, b0.out, farSl_below p1 (Nat.le_refl _) y1, p4, r0.out, y1, hz1⟩
  replace R0 := Lib.hid R0
  clear b0 r0 p1 p2 p3
  go_wp2_with fail
  clear i0 i1 i2 i3 i4 f0 f1 f2 f3 f4
  go_loopw [5] (fun i wr => ∃ n : Nat, n ≤ d.cache.length ∧ i = .int .i64 n ∧ (∃ ua uc, FarV m (.slice ua d.kept.length uc) ((Dev.putSome d.kept (d.cache.take n) keep).map strV) ∧ Box w.heap.size (diskL (.slice ua d.kept.length uc) (.slice ca d.cache.length cc) d.fuse (.slice pa d.keep.length pc) d.dead) wr ∧ FarSl w.heap.size (w.heap.size + 2) wr (.slice ua d.kept.length uc) ((Dev.putSome d.kept (d.cache.take n) keep).map strV) ∧ NilOr (.slice ua d.kept.length uc) ∧ Box (w.heap.size + 1) zeroL wr ∧ Ext w wr ∧ w.heap.size + 2 ≤ wr.heap.size)) (fun i _ => d.cache.length - (intOf i).toNat)
  case atStart => exact ⟨0, by omega, rfl, R0.out⟩
  case round =>
    obtain ⟨n, hn, rfl, ua, uc, hfv, hbx, hS, hN, hrs, hx, hsz⟩ := hrel
    obtain ⟨⟨i0, i1, i2, i3, i4⟩, _⟩ := hbx.at5
    replace hbx := Lib.hid hbx; replace hrs := Lib.hid hrs; replace hsz := Lib.hid hsz
    by_cases hlt : n < d.cache.length
    · have hnx := Dev.putSome_take d.kept d.cache keep n hlt
      have c1 : decide ((n : Int) < d.cache.length) = true := decide_eq_true (by omega)
      by_cases hnL : n < keep.length
      · obtain ⟨bk, ok, rfl, hbk, hck⟩ := hkc.out n hnL
        have hckw := (hx.cell (p := ⟨bk, ok + n, none⟩) hbk).trans hck
        have hg : keep.getD n false = keep[n] := by rw [List.getD_eq_getElem?_getD, List.getElem?_eq_getElem hnL]; rfl
        rw [hg] at hnx
        have c2 : decide ((n : Int) < keep.length) = true := decide_eq_true (by omega)
        have c3 : (n : Int) < keep.length := by omega
        clear hck
        replace hg := Lib.hid hg
        generalize keep[n] = kb at *
        cases kb
        · rw [if_neg (by decide)] at hnx
          have hR3 : ∃ ua uc, FarV m (.slice ua d.kept.length uc) ((Dev.putSome d.kept (d.cache.take (n + 1)) keep).map strV) ∧ Box w.heap.size (diskL (.slice ua d.kept.length uc) (.slice ca d.cache.length cc) d.fuse (.slice pa d.keep.length pc) d.dead) wr ∧ FarSl w.heap.size (w.heap.size + 2) wr (.slice ua d.kept.length uc) ((Dev.putSome d.kept (d.cache.take (n + 1)) keep).map strV) ∧ NilOr (.slice ua d.kept.length uc) ∧ Box (w.heap.size + 1) zeroL wr ∧ Ext w wr ∧ w.heap.size + 2 ≤ wr.heap.size := ⟨ua, uc, by rw [hnx]; exact hfv, hbx.out, by rw [hnx]; exact hS, hN, hrs.out, hx, hsz.out⟩
          replace hR3 := Lib.hid hR3; replace hnx := Lib.hid hnx; replace hS := Lib.hid hS; replace hfv := Lib.hid hfv
          go_wp2_with fail
          go_roundw
          case rel => exact ⟨n + 1, by omega, by go_num, hR3.out⟩
          case measure => simp [intOf]; omega
        · rw [if_pos rfl] at hnx
          obtain ⟨b, o, rfl, hb, hc1, hc2⟩ := hcc.out n hlt
          have hc1 : ∀ wq, Ext wr wq → wq.cell? ⟨b, o + n * 2, none⟩ = some (.int .i64 d.cache[n].1) := fun wq xq => ((hx.trans xq).cell (p := ⟨b, o + n * 2, none⟩) hb).trans hc1
          have hc2 : ∀ wq, Ext wr wq → wq.cell? ⟨b, o + n * 2 + 1, none⟩ = some (.string d.cache[n].2) := fun wq xq => ((hx.trans xq).cell (p := ⟨b, o + n * 2 + 1, none⟩) hb).trans hc2
          have hir := q3.out _ (List.getElem_mem hlt)
          have hni : (n : Int) < d.cache.length := by omega
          generalize d.cache[n] = q at *
          obtain ⟨x, t⟩ := q
          dsimp only at hc1 hc2 hir hnx
          obtain ⟨x, rfl⟩ := Int.eq_ofNat_of_zero_le hir.1
          have hll : (Dev.putSome d.kept (d.cache.take n) keep).length = d.kept.length := Dev.putSome_length _ _ _
          have hwith : ∀ wq, Ext wr wq → Calls Try.prog 102 #[.slice ua d.kept.length uc, .int .i64 x, .string t] wq fun e w' => ∃ r, e = .returned r ∧ w'.ownsRow wq.heap.size 9 1 r d.kept.length ((Dev.put1 (Dev.putSome d.kept (d.cache.take n) keep) ((x : Int), t)).map strV) ∧ Ext wq w' := fun wq xq => by
            have := with_any (Dev.putSome d.kept (d.cache.take n) keep) (.slice ua d.kept.length uc) x t wq (hS.ext xq).1 hN (by rw [hll]; omega) (by rw [hll]; exact q1)
            rw [hll] at this
            exact this
          rw [← hnx] at hwith
          replace hwith := Lib.hid hwith; replace hc1 := Lib.hid hc1; replace hc2 := Lib.hid hc2; replace hll := Lib.hid hll; replace hnx := Lib.hid hnx; replace hS := Lib.hid hS; replace hfv := Lib.hid hfv
          go_wp2_with fail
          clear i0 i1 i2 i3 i4
          refine Soft.region_ext [(14, Soft.ownedRow (w.heap.size + 2) d.kept.length (Dev.putSome d.kept (d.cache.take (n + 1)) keep))] [0, 1, 2, 3, 4, 5, 6, 7, 8, 9, 10, 11, 12, 13, 14, 15] [16] (by kernel_rfl) (by kernel_rfl) (Soft.stab_one fun _ _ _ => Soft.ownedRow_stab) ?_
          repeat (first | (refine Soft.pure_n rfl rfl rfl rfl (fun K hK => ?_); go_simp; refine hK _ ?_; clear hK K) | (refine Soft.pure_g rfl rfl rfl rfl rfl (fun K hK => ?_); go_simp; refine hK _ ?_; clear hK K) | (refine Soft.shut rfl rfl rfl rfl (fun K hK => ?_); go_simp; refine hK _ ?_; clear hK K) | (refine Soft.shut0 rfl rfl rfl rfl (fun K hK => ?_); go_simp; refine hK _ ?_; clear hK K) | (refine Soft.quiet_n rfl rfl rfl rfl (fun K hK => ?_); go_simp; apply Exists.intro; refine ⟨fun wq hq => ?_, hK _ ?_⟩; (first | (obtain ⟨⟨gg0, gg1, gg2, gg3, gg4⟩, _⟩ := (hbx.out.ext hq).at5; go_simp; with_reducible rfl) | (have gg := hc1.out wq hq; go_simp; with_reducible rfl) | (have gg := hc2.out wq hq; go_simp; with_reducible rfl)); clear hK K) | (refine Soft.quiet_g rfl rfl rfl rfl rfl (fun K hK => ?_); go_simp; apply Exists.intro; refine ⟨fun wq hq => ?_, hK _ ?_⟩; (first | (obtain ⟨⟨gg0, gg1, gg2, gg3, gg4⟩, _⟩ := (hbx.out.ext hq).at5; go_simp; with_reducible rfl) | (have gg := hc1.out wq hq; go_simp; with_reducible rfl) | (have gg := hc2.out wq hq; go_simp; with_reducible rfl)); clear hK K))
          refine Soft.loud_step0 rfl rfl rfl rfl (fun K hK => ?_)
          refine ⟨fun wq hq => ?_, fun u ⟨ua, uc, hu⟩ => hK _ ?_⟩
          · go_simp
            refine (hwith.out wq hq).mono ?_
            rintro e w7 ⟨r, rfl, ho, x7⟩
            obtain ⟨ra, rc, e7⟩ := owned_slice ho
            exact ⟨r, rfl, x7, ⟨ra, rc, e7⟩, ho.mono (by have := hsz.out; have := hq.size; omega)⟩
          clear hK K
          subst hu
          repeat (refine Soft.pure_n rfl rfl rfl rfl (fun K hK => ?_); go_simp; refine hK _ ?_; clear hK K)
          refine Soft.tail_forced [_] (by kernel_rfl) rfl (fun w6 x6 k6 => ?_)
          have ho := Soft.ownedRow_at (k6.get 14 rfl rfl)
          have hb6 := hbx.out.ext x6
          obtain ⟨⟨i0, i1, i2, i3, i4⟩, f0, f1, f2, f3, f4⟩ := hb6.at5
          have hb7 := hb6.set 0 (.slice ua d.kept.length uc) (by simp)
          have ho7 := ownsRow_under ho w.heap.size 0 (.slice ua d.kept.length uc) (by omega)
          have hr7 := (hrs.out.ext x6).other (m := w.heap.size) (by omega) 0 (.slice ua d.kept.length uc)
          have y7 : Ext w (w6.setCell ⟨w.heap.size, 0, none⟩ (.slice ua d.kept.length uc)) := (hx.trans x6).below.setCell (Nat.le_refl _) _
          have hz7 : w.heap.size + 2 ≤ (w6.setCell ⟨w.heap.size, 0, none⟩ (.slice ua d.kept.length uc)).heap.size := by simp; have := hsz.out; have := x6.size; omega
          replace hb7 := Lib.hid hb7; replace ho7 := Lib.hid ho7; replace hr7 := Lib.hid hr7; replace ho := Lib.hid ho; replace hb6 := Lib.hid hb6
          go_wp2_with fail
          rw [Soft.NoP_normal]
          go_wp2_with fail
          go_roundw
          case rel => exact ⟨n + 1, by omega, by go_num, ua, uc, farV_owned ho7.out (by omega), hb7.out, farSl_owned ho7.out, nilOr_owned ho7.out, hr7.out, y7, hz7⟩
          case measure => simp [intOf]; omega
      · have hg : keep.getD n false = false := by rw [List.getD_eq_getElem?_getD, List.getElem?_eq_none (by omega)]; rfl
        have c2 : decide ((n : Int) < keep.length) = false := decide_eq_false (by omega)
        have c3 : ¬ (n : Int) < keep.length := by omega
        have hend : Dev.putSome d.kept (d.cache.take n) keep = Dev.putSome d.kept d.cache keep := Dev.putSome_past d.kept d.cache keep n (by omega)
        rw [hend] at hS hfv
        have r1 := hrs.out
        replace hg := Lib.hid hg; replace hnx := Lib.hid hnx; replace hend := Lib.hid hend
        replace hS := Lib.hid hS; replace hfv := Lib.hid hfv
        obtain ⟨_, g0, g1, g2, g3, g4⟩ := r1.at5
        have r2 := (((((r1.set 0 (.slice ua d.kept.length uc) (by simp)).set 1 (.slice none 0 0) (by simp)).set 2 (.int .i64 (-1)) (by simp)).set 3 (.slice none 0 0) (by simp)).set 4 (.bool true) (by simp))
        obtain ⟨⟨m0, m1, m2, m3, m4⟩, _⟩ := r2.at5
        replace m0 := Lib.hid m0; replace m1 := Lib.hid m1; replace m2 := Lib.hid m2; replace m3 := Lib.hid m3; replace m4 := Lib.hid m4
        replace r1 := Lib.hid r1; replace r2 := Lib.hid r2
        go_wp2_with fail
        refine bodyPost_ret (v := diskV (.slice ua d.kept.length uc) (.slice none 0 0) ((-1)) (.slice none 0 0) (true)) ?_ rfl ⟨_, rfl, ?_, ?_⟩
        · simp [results, Try.results79, go_sem, m0.out, m1.out, m2.out, m3.out, m4.out, diskV]
        · refine ⟨_, rfl, ?_, hfv.out, hN⟩
          exact (((((hS.out.set (g := w.heap.size + 1) (by omega) (by omega) 0 _).set (g := w.heap.size + 1) (by omega) (by omega) 1 _).set (g := w.heap.size + 1) (by omega) (by omega) 2 _).set (g := w.heap.size + 1) (by omega) (by omega) 3 _).set (g := w.heap.size + 1) (by omega) (by omega) 4 _).1
        · exact (((((hx).below.setCell (by simp) _).setCell (by simp) _).setCell (by simp) _).setCell (by simp) _).setCell (by simp) _
    · obtain rfl : n = d.cache.length := by omega
      have c1 : decide ((d.cache.length : Int) < d.cache.length) = false := decide_eq_false (by omega)
      rw [List.take_length] at hS hfv
      have r1 := hrs.out
      replace hS := Lib.hid hS; replace hfv := Lib.hid hfv
      obtain ⟨_, g0, g1, g2, g3, g4⟩ := r1.at5
      have r2 := (((((r1.set 0 (.slice ua d.kept.length uc) (by simp)).set 1 (.slice none 0 0) (by simp)).set 2 (.int .i64 (-1)) (by simp)).set 3 (.slice none 0 0) (by simp)).set 4 (.bool true) (by simp))
      obtain ⟨⟨m0, m1, m2, m3, m4⟩, _⟩ := r2.at5
      replace m0 := Lib.hid m0; replace m1 := Lib.hid m1; replace m2 := Lib.hid m2; replace m3 := Lib.hid m3; replace m4 := Lib.hid m4
      replace r1 := Lib.hid r1; replace r2 := Lib.hid r2
      go_wp2_with fail
      refine bodyPost_ret (v := diskV (.slice ua d.kept.length uc) (.slice none 0 0) ((-1)) (.slice none 0 0) (true)) ?_ rfl ⟨_, rfl, ?_, ?_⟩
      · simp [results, Try.results79, go_sem, m0.out, m1.out, m2.out, m3.out, m4.out, diskV]
      · refine ⟨_, rfl, ?_, hfv.out, hN⟩
        exact (((((hS.out.set (g := w.heap.size + 1) (by omega) (by omega) 0 _).set (g := w.heap.size + 1) (by omega) (by omega) 1 _).set (g := w.heap.size + 1) (by omega) (by omega) 2 _).set (g := w.heap.size + 1) (by omega) (by omega) 3 _).set (g := w.heap.size + 1) (by omega) (by omega) 4 _).1
      · exact (((((hx).below.setCell (by simp) _).setCell (by simp) _).setCell (by simp) _).setCell (by simp) _).setCell (by simp) _

end Go.Proofs.Ytehidhcpdiameaa

/- The walks of layer 9, on: a disk that is flushed, of the reference. -/
namespace Go.Proofs.Ytehidhcpdiameaa
open Go.RowKit

set_option maxRecDepth 100000 in
set_option maxHeartbeats 16000000 in
theorem refFlush_any (d : Dev.Disk) (v : Value) (w : World) (h : DiskIn w v d) :
    Calls Try.prog 72 #[v] w fun e w' => ∃ r, e = .returned (.tuple #[r, .int .i64 (Dev.flush d).2]) ∧ DiskIn w' r (Dev.flush d).1 ∧ Ext w w' := by
  have hm := fun w h => refMay_any d v w h
  have hform := h.form2
  obtain ⟨ka, kc, ca, cc, pa, pc, rfl, hkn⟩ := hform
  have b0 := (Box.new w (diskL (.slice ka d.kept.length kc) (.slice ca d.cache.length cc) d.fuse (.slice pa d.keep.length pc) d.dead) 69).alloc (.cells #[.slice none 0 0, .slice none 0 0, .int .i64 0, .slice none 0 0, .bool false] 69)
  have r0 := Box.new (w.alloc (.cells #[.slice ka d.kept.length kc, .slice ca d.cache.length cc, .int .i64 d.fuse, .slice pa d.keep.length pc, .bool d.dead] 69)) zeroL 69
  rw [show (w.alloc (.cells #[.slice ka d.kept.length kc, .slice ca d.cache.length cc, .int .i64 d.fuse, .slice pa d.keep.length pc, .bool d.dead] 69)).heap.size = w.heap.size + 1 from by simp] at r0
  have y0 : Ext w ((w.alloc (.cells #[.slice ka d.kept.length kc, .slice ca d.cache.length cc, .int .i64 d.fuse, .slice pa d.keep.length pc, .bool d.dead] 69)).alloc (.cells #[.slice none 0 0, .slice none 0 0, .int .i64 0, .slice none 0 0, .bool false] 69)) := ((Ext.refl w).alloc _).alloc _
  have hz : ((w.alloc (.cells #[.slice ka d.kept.length kc, .slice ca d.cache.length cc, .int .i64 d.fuse, .slice pa d.keep.length pc, .bool d.dead] 69)).alloc (.cells #[.slice none 0 0, .slice none 0 0, .int .i64 0, .slice none 0 0, .bool false] 69)).heap.size = w.heap.size + 2 := by simp
  generalize hw0 : (w.alloc (.cells #[.slice ka d.kept.length kc, .slice ca d.cache.length cc, .int .i64 d.fuse, .slice pa d.keep.length pc, .bool d.dead] 69)).alloc (.cells #[.slice none 0 0, .slice none 0 0, .int .i64 0, .slice none 0 0, .bool false] 69) = w0 at *
  unfold diskV at hm h ⊢
  obtain ⟨⟨i0, i1, i2, i3, i4⟩, f0, f1, f2, f3, f4⟩ := b0.at5
  replace hm := Lib.hid hm; replace h := Lib.hid h; replace b0 := Lib.hid b0; replace r0 := Lib.hid r0; replace hz := Lib.hid hz
  cases hmay : Dev.may d with
  | false =>
    rw [show Dev.flush d = (Dev.no, 1) from by unfold Dev.flush; rw [if_pos hmay]]
    replace hm := hm.out
    rw [hmay] at hm
    replace hm := Lib.hid hm
    clear hmay
    go_enter Try.func72, Try.ntmps72
    go_wp2_with fail
    refine (hm.out _ (h.out.ext y0)).mono ?_; rintro e w1 ⟨rfl, x1⟩
    clear i0 i1 i2 i3 i4 f0 f1 f2 f3 f4 hw0
    have r1 := r0.out.ext x1
    have y1 := y0.trans x1
    clear x1 y0
    obtain ⟨_, g0, g1, g2, g3, g4⟩ := r1.at5
    have r2 := (((((r1.set 0 (.slice none 0 0) (by simp)).set 1 (.slice none 0 0) (by simp)).set 2 (.int .i64 0) (by simp)).set 3 (.slice none 0 0) (by simp)).set 4 (.bool false) (by simp))
    obtain ⟨⟨m0, m1, m2, m3, m4⟩, _⟩ := r2.at5
    replace m0 := Lib.hid m0; replace m1 := Lib.hid m1; replace m2 := Lib.hid m2; replace m3 := Lib.hid m3; replace m4 := Lib.hid m4
    replace r1 := Lib.hid r1; replace r2 := Lib.hid r2
    go_wp2_with fail
    refine bodyPost_ret (v := .tuple #[diskV (.slice none 0 0) (.slice none 0 0) (0) (.slice none 0 0) (false), .int .i64 1]) ?_ rfl ⟨_, rfl, ?_, ?_⟩
    · simp [results, Try.results72, go_sem, m0.out, m1.out, m2.out, m3.out, m4.out, diskV]
    · exact diskIn_no _
    · exact (((((y1).below.setCell (by simp) _).setCell (by simp) _).setCell (by simp) _).setCell (by simp) _).setCell (by simp) _
  | true =>
    cases hdead : d.dead with
    | true =>
      replace hm := hm.out; replace h := h.out; replace b0 := b0.out
      rw [hdead] at hm h b0 hw0 i4
      replace hm := Lib.hid hm; replace h := Lib.hid h; replace b0 := Lib.hid b0; replace hdead := Lib.hid hdead
      obtain ⟨p1, p2, p3, p4, p5⟩ := h.out.parts
      obtain ⟨ca', cc', e1, hcl, hcm, hcc⟩ := slp_at p2
      simp only [Value.slice.injEq, true_and] at e1
      obtain ⟨rfl, rfl⟩ := e1
      obtain ⟨q1, q2, q3⟩ := may_small hmay
      replace hcc := Lib.hid hcc; replace q3 := Lib.hid q3
      have hMi : (d.cache.length : Int) ≤ 1000000 := by omega
      rw [show Dev.flush d = (d, 90) from by unfold Dev.flush; rw [if_neg (by rw [hmay]; decide), if_pos hdead.out]]
      replace hm := hm.out
      rw [hmay] at hm
      replace hm := Lib.hid hm
      clear hmay
      go_enter Try.func72, Try.ntmps72
      go_wp2_with fail
      refine (hm.out _ (h.out.ext y0)).mono ?_; rintro e w1 ⟨rfl, x1⟩
      clear i0 i1 i2 i3 i4 f0 f1 f2 f3 f4 hw0
      replace r0 := Lib.hid (r0.out.ext x1)
      replace b0 := Lib.hid (b0.out.ext x1)
      obtain ⟨⟨i0, i1, i2, i3, i4⟩, f0, f1, f2, f3, f4⟩ := b0.out.at5
      have y1 := y0.trans x1
      have hl1 := x1.size
      clear x1 y0
      have hz1 : w.heap.size + 2 ≤ w1.heap.size := by have := hz.out; omega
      have r1 := r0.out
      obtain ⟨_, g0, g1, g2, g3, g4⟩ := r1.at5
      have r2 := (((((r1.set 0 (.slice ka d.kept.length kc) (by simp)).set 1 (.slice ca d.cache.length cc) (by simp)).set 2 (.int .i64 d.fuse) (by simp)).set 3 (.slice pa d.keep.length pc) (by simp)).set 4 (.bool true) (by simp))
      obtain ⟨⟨m0, m1, m2, m3, m4⟩, _⟩ := r2.at5
      replace m0 := Lib.hid m0; replace m1 := Lib.hid m1; replace m2 := Lib.hid m2; replace m3 := Lib.hid m3; replace m4 := Lib.hid m4
      replace r1 := Lib.hid r1; replace r2 := Lib.hid r2
      go_wp2_with fail
      refine bodyPost_ret (v := .tuple #[diskV (.slice ka d.kept.length kc) (.slice ca d.cache.length cc) (d.fuse) (.slice pa d.keep.length pc) (true), .int .i64 90]) ?_ rfl ⟨_, rfl, ?_, ?_⟩
      · simp [results, Try.results72, go_sem, m0.out, m1.out, m2.out, m3.out, m4.out, diskV]
      · refine ⟨.slice ka d.kept.length kc, .slice ca d.cache.length cc, .slice pa d.keep.length pc, by rw [hdead.out], p1.ext ?_, p2.ext ?_, p3.ext ?_, p4, p5⟩ <;> exact ((((((y1).below.setCell (by simp) _).setCell (by simp) _).setCell (by simp) _).setCell (by simp) _).setCell (by simp) _)
      · exact (((((y1).below.setCell (by simp) _).setCell (by simp) _).setCell (by simp) _).setCell (by simp) _).setCell (by simp) _
    | false =>
      replace hm := hm.out; replace h := h.out; replace b0 := b0.out
      rw [hdead] at hm h b0 hw0 i4
      replace hm := Lib.hid hm; replace h := Lib.hid h; replace b0 := Lib.hid b0; replace hdead := Lib.hid hdead
      obtain ⟨p1, p2, p3, p4, p5⟩ := h.out.parts
      obtain ⟨ca', cc', e1, hcl, hcm, hcc⟩ := slp_at p2
      simp only [Value.slice.injEq, true_and] at e1
      obtain ⟨rfl, rfl⟩ := e1
      obtain ⟨q1, q2, q3⟩ := may_small hmay
      replace hcc := Lib.hid hcc; replace q3 := Lib.hid q3
      have hMi : (d.cache.length : Int) ≤ 1000000 := by omega
      rw [show Dev.flush d = (⟨Dev.putAll d.kept d.cache, [], d.fuse, d.keep, false⟩, 0) from by unfold Dev.flush; rw [if_neg (by rw [hmay]; decide), if_neg (by rw [hdead.out]; decide)]; simp only [hdead.out]]
      replace hm := hm.out
      rw [hmay] at hm
      replace hm := Lib.hid hm
      clear hmay
      go_enter Try.func72, Try.ntmps72
      go_wp2_with fail
      refine (hm.out _ (h.out.ext y0)).mono ?_; rintro e w1 ⟨rfl, x1⟩
      clear i0 i1 i2 i3 i4 f0 f1 f2 f3 f4 hw0
      replace r0 := Lib.hid (r0.out.ext x1)
      replace b0 := Lib.hid (b0.out.ext x1)
      obtain ⟨⟨i0, i1, i2, i3, i4⟩, f0, f1, f2, f3, f4⟩ := b0.out.at5
      have y1 := y0.trans x1
      have hl1 := x1.size
      clear x1 y0
      have hz1 : w.heap.size + 2 ≤ w1.heap.size := by have := hz.out; omega
      have R0 : ∃ ua uc, Box w.heap.size (diskL (.slice ua d.kept.length uc) (.slice ca d.cache.length cc) d.fuse (.slice pa d.keep.length pc) false) w1 ∧ FarSl w.heap.size (w.heap.size + 2) w1 (.slice ua d.kept.length uc) ((Dev.putAll d.kept (d.cache.take 0)).map strV) ∧ NilOr (.slice ua d.kept.length uc) ∧ Box (w.heap.size + 1) zeroL w1 ∧ Ext w w1 ∧ w.heap.size + 2 ≤ w1.heap.size := ⟨ka, kc, b0.out, farSl_below p1 (Nat.le_refl _) y1, p4, r0.out, y1, hz1⟩
      replace R0 := Lib.hid R0
      clear b0 r0 p1 p2
      go_wp2_with fail
      clear i0 i1 i2 i3 i4 f0 f1 f2 f3 f4
      go_loopw [4] (fun i wr => ∃ n : Nat, n ≤ d.cache.length ∧ i = .int .i64 n ∧ (∃ ua uc, Box w.heap.size (diskL (.slice ua d.kept.length uc) (.slice ca d.cache.length cc) d.fuse (.slice pa d.keep.length pc) false) wr ∧ FarSl w.heap.size (w.heap.size + 2) wr (.slice ua d.kept.length uc) ((Dev.putAll d.kept (d.cache.take n)).map strV) ∧ NilOr (.slice ua d.kept.length uc) ∧ Box (w.heap.size + 1) zeroL wr ∧ Ext w wr ∧ w.heap.size + 2 ≤ wr.heap.size)) (fun i _ => d.cache.length - (intOf i).toNat)
      case atStart => exact ⟨0, by omega, rfl, R0.out⟩
      case round =>
        obtain ⟨n, hn, rfl, ua, uc, hbx, hS, hN, hrs, hx, hsz⟩ := hrel
        by_cases hlt : n < d.cache.length
        · obtain ⟨⟨i0, i1, i2, i3, i4⟩, _⟩ := hbx.at5
          replace hbx := Lib.hid hbx; replace hrs := Lib.hid hrs; replace hsz := Lib.hid hsz
          have hnx := Dev.putAll_take d.kept d.cache n hlt
          obtain ⟨b, o, rfl, hb, hc1, hc2⟩ := hcc.out n hlt
          have hc1 : ∀ wq, Ext wr wq → wq.cell? ⟨b, o + n * 2, none⟩ = some (.int .i64 d.cache[n].1) := fun wq xq => ((hx.trans xq).cell (p := ⟨b, o + n * 2, none⟩) hb).trans hc1
          have hc2 : ∀ wq, Ext wr wq → wq.cell? ⟨b, o + n * 2 + 1, none⟩ = some (.string d.cache[n].2) := fun wq xq => ((hx.trans xq).cell (p := ⟨b, o + n * 2 + 1, none⟩) hb).trans hc2
          have hir := q3.out _ (List.getElem_mem hlt)
          have hni : (n : Int) < d.cache.length := by omega
          generalize d.cache[n] = q at *
          obtain ⟨x, t⟩ := q
          dsimp only at hc1 hc2 hir hnx
          obtain ⟨x, rfl⟩ := Int.eq_ofNat_of_zero_le hir.1
          have hll : (Dev.putAll d.kept (d.cache.take n)).length = d.kept.length := Dev.putAll_length _ _
          have hwith : ∀ wq, Ext wr wq → Calls Try.prog 102 #[.slice ua d.kept.length uc, .int .i64 x, .string t] wq fun e w' => ∃ r, e = .returned r ∧ w'.ownsRow wq.heap.size 9 1 r d.kept.length ((Dev.put1 (Dev.putAll d.kept (d.cache.take n)) ((x : Int), t)).map strV) ∧ Ext wq w' := fun wq xq => by
            have := with_any (Dev.putAll d.kept (d.cache.take n)) (.slice ua d.kept.length uc) x t wq (hS.ext xq).1 hN (by rw [hll]; omega) (by rw [hll]; exact q1)
            rw [hll] at this
            exact this
          rw [← hnx] at hwith
          replace hwith := Lib.hid hwith; replace hc1 := Lib.hid hc1; replace hc2 := Lib.hid hc2; replace hll := Lib.hid hll; replace hnx := Lib.hid hnx; replace hS := Lib.hid hS
          go_wp2_with fail
          clear i0 i1 i2 i3 i4
          refine Soft.region_ext [(14, Soft.ownedRow (w.heap.size + 2) d.kept.length (Dev.putAll d.kept (d.cache.take (n + 1))))] [0, 1, 2, 3, 4, 5, 6, 7, 8, 9, 10, 11, 12, 13, 14, 15] [16] (by kernel_rfl) (by kernel_rfl) (Soft.stab_one fun _ _ _ => Soft.ownedRow_stab) ?_
          repeat (first | (refine Soft.pure_n rfl rfl rfl rfl (fun K hK => ?_); go_simp; refine hK _ ?_; clear hK K) | (refine Soft.pure_g rfl rfl rfl rfl rfl (fun K hK => ?_); go_simp; refine hK _ ?_; clear hK K) | (refine Soft.shut rfl rfl rfl rfl (fun K hK => ?_); go_simp; refine hK _ ?_; clear hK K) | (refine Soft.shut0 rfl rfl rfl rfl (fun K hK => ?_); go_simp; refine hK _ ?_; clear hK K) | (refine Soft.quiet_n rfl rfl rfl rfl (fun K hK => ?_); go_simp; apply Exists.intro; refine ⟨fun wq hq => ?_, hK _ ?_⟩; (first | (obtain ⟨⟨gg0, gg1, gg2, gg3, gg4⟩, _⟩ := (hbx.out.ext hq).at5; go_simp; with_reducible rfl) | (have gg := hc1.out wq hq; go_simp; with_reducible rfl) | (have gg := hc2.out wq hq; go_simp; with_reducible rfl)); clear hK K) | (refine Soft.quiet_g rfl rfl rfl rfl rfl (fun K hK => ?_); go_simp; apply Exists.intro; refine ⟨fun wq hq => ?_, hK _ ?_⟩; (first | (obtain ⟨⟨gg0, gg1, gg2, gg3, gg4⟩, _⟩ := (hbx.out.ext hq).at5; go_simp; with_reducible rfl) | (have gg := hc1.out wq hq; go_simp; with_reducible rfl) | (have gg := hc2.out wq hq; go_simp; with_reducible rfl)); clear hK K))
          refine Soft.loud_step0 rfl rfl rfl rfl (fun K hK => ?_)
          refine ⟨fun wq hq => ?_, fun u ⟨ua, uc, hu⟩ => hK _ ?_⟩
          · go_simp
            refine (hwith.out wq hq).mono ?_
            rintro e w7 ⟨r, rfl, ho, x7⟩
            obtain ⟨ra, rc, e7⟩ := owned_slice ho
            exact ⟨r, rfl, x7, ⟨ra, rc, e7⟩, ho.mono (by have := hsz.out; have := hq.size; omega)⟩
          clear hK K
          subst hu
          repeat (refine Soft.pure_n rfl rfl rfl rfl (fun K hK => ?_); go_simp; refine hK _ ?_; clear hK K)
          refine Soft.tail_forced [_] (by kernel_rfl) rfl (fun w6 x6 k6 => ?_)
          have ho := Soft.ownedRow_at (k6.get 14 rfl rfl)
          have hb6 := hbx.out.ext x6
          obtain ⟨⟨i0, i1, i2, i3, i4⟩, f0, f1, f2, f3, f4⟩ := hb6.at5
          have hb7 := hb6.set 0 (.slice ua d.kept.length uc) (by simp)
          have ho7 := ownsRow_under ho w.heap.size 0 (.slice ua d.kept.length uc) (by omega)
          have hr7 := (hrs.out.ext x6).other (m := w.heap.size) (by omega) 0 (.slice ua d.kept.length uc)
          have y7 : Ext w (w6.setCell ⟨w.heap.size, 0, none⟩ (.slice ua d.kept.length uc)) := (hx.trans x6).below.setCell (Nat.le_refl _) _
          have hz7 : w.heap.size + 2 ≤ (w6.setCell ⟨w.heap.size, 0, none⟩ (.slice ua d.kept.length uc)).heap.size := by simp; have := hsz.out; have := x6.size; omega
          replace hb7 := Lib.hid hb7; replace ho7 := Lib.hid ho7; replace hr7 := Lib.hid hr7; replace ho := Lib.hid ho; replace hb6 := Lib.hid hb6
          go_wp2_with fail
          rw [Soft.NoP_normal]
          go_wp2_with fail
          go_roundw
          case rel => exact ⟨n + 1, by omega, by go_num, ua, uc, hb7.out, farSl_owned ho7.out, nilOr_owned ho7.out, hr7.out, y7, hz7⟩
          case measure => simp [intOf]; omega
        · obtain rfl : n = d.cache.length := by omega
          rw [List.take_length] at hS
          obtain ⟨⟨i0, i1, i2, i3, i4⟩, f0, f1, f2, f3, f4⟩ := hbx.at5
          have b5 := hbx.set 1 (.slice none 0 0) (by simp)
          obtain ⟨⟨j0, j1, j2, j3, j4⟩, _⟩ := b5.at5
          have r1 := hrs.other (m := w.heap.size) (by omega) 1 (.slice none 0 0)
          have hS5 := hS.set (g := w.heap.size) (Nat.le_refl _) (by omega) 1 (.slice none 0 0)
          have y5 : Ext w (wr.setCell ⟨w.heap.size, 1, none⟩ (.slice none 0 0)) := hx.below.setCell (Nat.le_refl _) _
          replace hS := Lib.hid hS; replace hS5 := Lib.hid hS5; replace b5 := Lib.hid b5; replace hbx := Lib.hid hbx; replace hrs := Lib.hid hrs
          obtain ⟨_, g0, g1, g2, g3, g4⟩ := r1.at5
          have r2 := (((((r1.set 0 (.slice ua d.kept.length uc) (by simp)).set 1 (.slice none 0 0) (by simp)).set 2 (.int .i64 d.fuse) (by simp)).set 3 (.slice pa d.keep.length pc) (by simp)).set 4 (.bool false) (by simp))
          obtain ⟨⟨m0, m1, m2, m3, m4⟩, _⟩ := r2.at5
          replace m0 := Lib.hid m0; replace m1 := Lib.hid m1; replace m2 := Lib.hid m2; replace m3 := Lib.hid m3; replace m4 := Lib.hid m4
          replace r1 := Lib.hid r1; replace r2 := Lib.hid r2
          go_wp2_with fail
          refine bodyPost_ret (v := .tuple #[diskV (.slice ua d.kept.length uc) (.slice none 0 0) (d.fuse) (.slice pa d.keep.length pc) (false), .int .i64 0]) ?_ rfl ⟨_, rfl, ?_, ?_⟩
          · simp [results, Try.results72, go_sem, m0.out, m1.out, m2.out, m3.out, m4.out, diskV]
          · refine ⟨_, _, _, rfl, (((((hS5.out.set (g := w.heap.size + 1) (by omega) (by omega) 0 _).set (g := w.heap.size + 1) (by omega) (by omega) 1 _).set (g := w.heap.size + 1) (by omega) (by omega) 2 _).set (g := w.heap.size + 1) (by omega) (by omega) 3 _).set (g := w.heap.size + 1) (by omega) (by omega) 4 _).1, SlP.nil _, p3.ext ?_, hN, .inl rfl⟩
            exact ((((((y5).below.setCell (by simp) _).setCell (by simp) _).setCell (by simp) _).setCell (by simp) _).setCell (by simp) _)
          · exact (((((y5).below.setCell (by simp) _).setCell (by simp) _).setCell (by simp) _).setCell (by simp) _).setCell (by simp) _

end Go.Proofs.Ytehidhcpdiameaa

/- The walks of layer 9, on: a write to a disk, of the reference. -/
namespace Go.Proofs.Ytehidhcpdiameaa
open Go.RowKit

theorem wpList_append_slp {ops : Array Oper} {rest : List Oper} {o : Oper} {a : Act} {Q : Exit → Act → World → Prop} {w a0 : World} (hgd : o.guard = none) (s x : Operand) (t : TypeId)
    (ho : o.op = .call { callee := .builtin .append, args := #[s, x], argTypes := #[t, t] })
    (base : Nat) (e : TypeId) (i : TypeInfo) (z : Value) (bytes : Nat) (ht : Try.prog.underlying t = some (.slice e)) (hi : Try.prog.info? e = some i) (hz : i.zero = some z)
    (hsize : i.size = 2) (hby : i.bytes = bytes) (hzs : z.cells.size = 2)
    (v : Value) (n : Nat) (xs : List Value) (hs : a.eval s = v) (hown : w.ownsRow base e 2 v n xs)
    (u : Value) (ps : List Dev.Put) (hx : a.eval x = u) (hu : SlP w u ps) (hnil : NilOr u)
    (h63 : n + ps.length ≤ maxLen) (hbytes : (n + ps.length) * bytes ≤ 140737488355328) (hb : a0.heap.size ≤ base) (hbase : base ≤ w.heap.size) (hx0 : Ext a0 w)
    (h : ∀ v' w', w'.ownsRow base e 2 v' (n + ps.length) (xs ++ putCells ps) → Ext a0 w' → wpList Try.prog ops Q rest (a.put o.dst v') w') : wpList Try.prog ops Q (o :: rest) a w := by
  rcases hnil with rfl | ⟨ad, m, c, rfl⟩
  · obtain ⟨a', c', e1, _, _, _⟩ := hu
    simp only [Value.slice.injEq] at e1
    have : ps = [] := List.eq_nil_of_length_eq_zero e1.2.1.symm
    subst this
    refine wpList_append_own_none hgd s x t ho base e i 2 ht hi v n xs hs hown hx ?_
    have := h v w (by rw [putCells_nil, List.append_nil]; exact hown) hx0
    exact this
  · have hc := hu.cells
    obtain ⟨a', c', e1, h2, _, _⟩ := hu
    simp only [Value.slice.injEq] at e1
    obtain ⟨_, rfl, rfl⟩ := e1
    exact wpList_append_slc hgd s x t ho base e i z 2 bytes ht hi hz hsize hby hzs (by decide) v n xs hs hown ad _ _ (putCells ps) hx hc (putCells_one ps) h63 hbytes hb hbase hx0 h

set_option maxRecDepth 100000 in
set_option maxHeartbeats 16000000 in
theorem refWrite_any (d : Dev.Disk) (v : Value) (x : Int) (s : ByteArray) (w : World) (h : DiskIn w v d) (hf : d.fuse ≤ 9223372036854775807) :
    Calls Try.prog 70 #[v, .int .i64 x, .string s] w fun e w' => ∃ r, e = .returned (.tuple #[r, .int .i64 (Dev.write d x s).2]) ∧ DiskIn w' r (Dev.write d x s).1 ∧ Ext w w' := by
  have hm := fun w h => refMay_any d v w h
  have hform := h.form2
  obtain ⟨ka, kc, ca, cc, pa, pc, rfl, hkn⟩ := hform
  have b0 := (Box.new w (diskL (.slice ka d.kept.length kc) (.slice ca d.cache.length cc) d.fuse (.slice pa d.keep.length pc) d.dead) 69).alloc (.cells #[.slice none 0 0, .slice none 0 0, .int .i64 0, .slice none 0 0, .bool false] 69)
  have r0 := Box.new (w.alloc (.cells #[.slice ka d.kept.length kc, .slice ca d.cache.length cc, .int .i64 d.fuse, .slice pa d.keep.length pc, .bool d.dead] 69)) zeroL 69
  rw [show (w.alloc (.cells #[.slice ka d.kept.length kc, .slice ca d.cache.length cc, .int .i64 d.fuse, .slice pa d.keep.length pc, .bool d.dead] 69)).heap.size = w.heap.size + 1 from by simp] at r0
  have y0 : Ext w ((w.alloc (.cells #[.slice ka d.kept.length kc, .slice ca d.cache.length cc, .int .i64 d.fuse, .slice pa d.keep.length pc, .bool d.dead] 69)).alloc (.cells #[.slice none 0 0, .slice none 0 0, .int .i64 0, .slice none 0 0, .bool false] 69)) := ((Ext.refl w).alloc _).alloc _
  have hz : ((w.alloc (.cells #[.slice ka d.kept.length kc, .slice ca d.cache.length cc, .int .i64 d.fuse, .slice pa d.keep.length pc, .bool d.dead] 69)).alloc (.cells #[.slice none 0 0, .slice none 0 0, .int .i64 0, .slice none 0 0, .bool false] 69)).heap.size = w.heap.size + 2 := by simp
  generalize hw0 : (w.alloc (.cells #[.slice ka d.kept.length kc, .slice ca d.cache.length cc, .int .i64 d.fuse, .slice pa d.keep.length pc, .bool d.dead] 69)).alloc (.cells #[.slice none 0 0, .slice none 0 0, .int .i64 0, .slice none 0 0, .bool false] 69) = w0 at *
  unfold diskV at hm h ⊢
  obtain ⟨⟨i0, i1, i2, i3, i4⟩, f0, f1, f2, f3, f4⟩ := b0.at5
  replace hm := Lib.hid hm; replace h := Lib.hid h; replace b0 := Lib.hid b0; replace r0 := Lib.hid r0; replace hz := Lib.hid hz
  have hNi : (d.kept.length : Int) ≤ 9223372036854775807 := by omega
  cases hmay : Dev.may d with
  | false =>
    rw [show Dev.write d x s = (Dev.no, 1) from by unfold Dev.write; rw [if_pos hmay]]
    replace hm := hm.out
    rw [hmay] at hm
    replace hm := Lib.hid hm
    clear hmay
    go_enter Try.func70, Try.ntmps70
    go_wp2_with fail
    refine (hm.out _ (h.out.ext y0)).mono ?_; rintro e w1 ⟨rfl, x1⟩
    clear i0 i1 i2 i3 i4 f0 f1 f2 f3 f4 hw0
    have r1 := r0.out.ext x1
    have y1 := y0.trans x1
    clear x1 y0
    obtain ⟨_, g0, g1, g2, g3, g4⟩ := r1.at5
    have r2 := (((((r1.set 0 (.slice none 0 0) (by simp)).set 1 (.slice none 0 0) (by simp)).set 2 (.int .i64 0) (by simp)).set 3 (.slice none 0 0) (by simp)).set 4 (.bool false) (by simp))
    obtain ⟨⟨m0, m1, m2, m3, m4⟩, _⟩ := r2.at5
    replace m0 := Lib.hid m0; replace m1 := Lib.hid m1; replace m2 := Lib.hid m2; replace m3 := Lib.hid m3; replace m4 := Lib.hid m4
    replace r1 := Lib.hid r1; replace r2 := Lib.hid r2
    go_wp2_with fail
    refine bodyPost_ret (v := .tuple #[diskV (.slice none 0 0) (.slice none 0 0) (0) (.slice none 0 0) (false), .int .i64 1]) ?_ rfl ⟨_, rfl, ?_, ?_⟩
    · simp [results, Try.results70, go_sem, m0.out, m1.out, m2.out, m3.out, m4.out, diskV]
    · exact diskIn_no _
    · exact (((((y1).below.setCell (by simp) _).setCell (by simp) _).setCell (by simp) _).setCell (by simp) _).setCell (by simp) _
  | true =>
    have hmd := (Dev.may_iff d).1 hmay
    have hMi : (d.cache.length : Int) ≤ 20000 := by have := hmd.1.2.2.1; omega
    have hfm := hmd.1.2.2.2
    have hmore0 := fun hx hs hc => Dev.may_more (d := d) (x := x) (s := s) hmay hx hs hc d.fuse hfm
    clear hmd
    replace hmore0 := Lib.hid hmore0
    cases hdead : d.dead with
    | true =>
      replace hm := hm.out; replace h := h.out; replace b0 := b0.out
      rw [hdead] at hm h b0 hw0 i4
      replace hm := Lib.hid hm; replace h := Lib.hid h; replace b0 := Lib.hid b0; replace hdead := Lib.hid hdead
      obtain ⟨p1, p2, p3, p4, p5⟩ := h.out.parts
      rw [show Dev.write d x s = (d, 90) from by unfold Dev.write; rw [if_neg (by rw [hmay]; decide), if_pos hdead.out]]
      replace hm := hm.out
      rw [hmay] at hm
      replace hm := Lib.hid hm
      clear hmay
      go_enter Try.func70, Try.ntmps70
      go_wp2_with fail
      refine (hm.out _ (h.out.ext y0)).mono ?_; rintro e w1 ⟨rfl, x1⟩
      clear i0 i1 i2 i3 i4 f0 f1 f2 f3 f4 hw0
      replace r0 := Lib.hid (r0.out.ext x1)
      replace b0 := Lib.hid (b0.out.ext x1)
      obtain ⟨⟨i0, i1, i2, i3, i4⟩, f0, f1, f2, f3, f4⟩ := b0.out.at5
      have y1 := y0.trans x1
      have hl1 := x1.size
      clear x1 y0
      have hz1 : w.heap.size + 2 ≤ w1.heap.size := by have := hz.out; omega
      have r1 := r0.out
      obtain ⟨_, g0, g1, g2, g3, g4⟩ := r1.at5
      have r2 := (((((r1.set 0 (.slice ka d.kept.length kc) (by simp)).set 1 (.slice ca d.cache.length cc) (by simp)).set 2 (.int .i64 d.fuse) (by simp)).set 3 (.slice pa d.keep.length pc) (by simp)).set 4 (.bool true) (by simp))
      obtain ⟨⟨m0, m1, m2, m3, m4⟩, _⟩ := r2.at5
      replace m0 := Lib.hid m0; replace m1 := Lib.hid m1; replace m2 := Lib.hid m2; replace m3 := Lib.hid m3; replace m4 := Lib.hid m4
      replace r1 := Lib.hid r1; replace r2 := Lib.hid r2
      go_wp2_with fail
      refine bodyPost_ret (v := .tuple #[diskV (.slice ka d.kept.length kc) (.slice ca d.cache.length cc) (d.fuse) (.slice pa d.keep.length pc) (true), .int .i64 90]) ?_ rfl ⟨_, rfl, ?_, ?_⟩
      · simp [results, Try.results70, go_sem, m0.out, m1.out, m2.out, m3.out, m4.out, diskV]
      · refine ⟨.slice ka d.kept.length kc, .slice ca d.cache.length cc, .slice pa d.keep.length pc, by rw [hdead.out], p1.ext ?_, p2.ext ?_, p3.ext ?_, p4, p5⟩ <;> exact ((((((y1).below.setCell (by simp) _).setCell (by simp) _).setCell (by simp) _).setCell (by simp) _).setCell (by simp) _)
      · exact (((((y1).below.setCell (by simp) _).setCell (by simp) _).setCell (by simp) _).setCell (by simp) _).setCell (by simp) _
    | false =>
      replace hm := hm.out; replace h := h.out; replace b0 := b0.out
      rw [hdead] at hm h b0 hw0 i4
      replace hm := Lib.hid hm; replace h := Lib.hid h; replace b0 := Lib.hid b0; replace hdead := Lib.hid hdead
      by_cases hx0 : x < 0
      · have c1 : decide (x < 0) = true := decide_eq_true hx0
        have hspec : Dev.write d x s = (d, 1) := by unfold Dev.write; rw [if_neg (by rw [hmay]; decide), if_neg (by rw [hdead.out]; decide), if_pos (by omega)]
        obtain ⟨p1, p2, p3, p4, p5⟩ := h.out.parts
        rw [hspec]; clear hspec
        replace hm := hm.out
        rw [hmay] at hm
        replace hm := Lib.hid hm
        clear hmay
        go_enter Try.func70, Try.ntmps70
        go_wp2_with fail
        refine (hm.out _ (h.out.ext y0)).mono ?_; rintro e w1 ⟨rfl, x1⟩
        clear i0 i1 i2 i3 i4 f0 f1 f2 f3 f4 hw0
        replace r0 := Lib.hid (r0.out.ext x1)
        replace b0 := Lib.hid (b0.out.ext x1)
        obtain ⟨⟨i0, i1, i2, i3, i4⟩, f0, f1, f2, f3, f4⟩ := b0.out.at5
        have y1 := y0.trans x1
        have hl1 := x1.size
        clear x1 y0
        have hz1 : w.heap.size + 2 ≤ w1.heap.size := by have := hz.out; omega
        have r1 := r0.out
        obtain ⟨_, g0, g1, g2, g3, g4⟩ := r1.at5
        have r2 := (((((r1.set 0 (.slice ka d.kept.length kc) (by simp)).set 1 (.slice ca d.cache.length cc) (by simp)).set 2 (.int .i64 d.fuse) (by simp)).set 3 (.slice pa d.keep.length pc) (by simp)).set 4 (.bool false) (by simp))
        obtain ⟨⟨m0, m1, m2, m3, m4⟩, _⟩ := r2.at5
        replace m0 := Lib.hid m0; replace m1 := Lib.hid m1; replace m2 := Lib.hid m2; replace m3 := Lib.hid m3; replace m4 := Lib.hid m4
        replace r1 := Lib.hid r1; replace r2 := Lib.hid r2
        go_wp2_with fail
        refine bodyPost_ret (v := .tuple #[diskV (.slice ka d.kept.length kc) (.slice ca d.cache.length cc) (d.fuse) (.slice pa d.keep.length pc) (false), .int .i64 1]) ?_ rfl ⟨_, rfl, ?_, ?_⟩
        · simp [results, Try.results70, go_sem, m0.out, m1.out, m2.out, m3.out, m4.out, diskV]
        · refine ⟨.slice ka d.kept.length kc, .slice ca d.cache.length cc, .slice pa d.keep.length pc, by rw [hdead.out], p1.ext ?_, p2.ext ?_, p3.ext ?_, p4, p5⟩ <;> exact ((((((y1).below.setCell (by simp) _).setCell (by simp) _).setCell (by simp) _).setCell (by simp) _).setCell (by simp) _)
        · exact (((((y1).below.setCell (by simp) _).setCell (by simp) _).setCell (by simp) _).setCell (by simp) _).setCell (by simp) _
      · have c1 : decide (x < 0) = false := decide_eq_false hx0
        by_cases hx1 : (d.kept.length : Int) ≤ x
        · have c2 : decide ((d.kept.length : Int) ≤ x) = true := decide_eq_true hx1
          have hspec : Dev.write d x s = (d, 1) := by unfold Dev.write; rw [if_neg (by rw [hmay]; decide), if_neg (by rw [hdead.out]; decide), if_pos (by omega)]
          obtain ⟨p1, p2, p3, p4, p5⟩ := h.out.parts
          rw [hspec]; clear hspec
          replace hm := hm.out
          rw [hmay] at hm
          replace hm := Lib.hid hm
          clear hmay
          go_enter Try.func70, Try.ntmps70
          go_wp2_with fail
          refine (hm.out _ (h.out.ext y0)).mono ?_; rintro e w1 ⟨rfl, x1⟩
          clear i0 i1 i2 i3 i4 f0 f1 f2 f3 f4 hw0
          replace r0 := Lib.hid (r0.out.ext x1)
          replace b0 := Lib.hid (b0.out.ext x1)
          obtain ⟨⟨i0, i1, i2, i3, i4⟩, f0, f1, f2, f3, f4⟩ := b0.out.at5
          have y1 := y0.trans x1
          have hl1 := x1.size
          clear x1 y0
          have hz1 : w.heap.size + 2 ≤ w1.heap.size := by have := hz.out; omega
          have r1 := r0.out
          obtain ⟨_, g0, g1, g2, g3, g4⟩ := r1.at5
          have r2 := (((((r1.set 0 (.slice ka d.kept.length kc) (by simp)).set 1 (.slice ca d.cache.length cc) (by simp)).set 2 (.int .i64 d.fuse) (by simp)).set 3 (.slice pa d.keep.length pc) (by simp)).set 4 (.bool false) (by simp))
          obtain ⟨⟨m0, m1, m2, m3, m4⟩, _⟩ := r2.at5
          replace m0 := Lib.hid m0; replace m1 := Lib.hid m1; replace m2 := Lib.hid m2; replace m3 := Lib.hid m3; replace m4 := Lib.hid m4
          replace r1 := Lib.hid r1; replace r2 := Lib.hid r2
          go_wp2_with fail
          refine bodyPost_ret (v := .tuple #[diskV (.slice ka d.kept.length kc) (.slice ca d.cache.length cc) (d.fuse) (.slice pa d.keep.length pc) (false), .int .i64 1]) ?_ rfl ⟨_, rfl, ?_, ?_⟩
          · simp [results, Try.results70, go_sem, m0.out, m1.out, m2.out, m3.out, m4.out, diskV]
          · refine ⟨.slice ka d.kept.length kc, .slice ca d.cache.length cc, .slice pa d.keep.length pc, by rw [hdead.out], p1.ext ?_, p2.ext ?_, p3.ext ?_, p4, p5⟩ <;> exact ((((((y1).below.setCell (by simp) _).setCell (by simp) _).setCell (by simp) _).setCell (by simp) _).setCell (by simp) _)
          · exact (((((y1).below.setCell (by simp) _).setCell (by simp) _).setCell (by simp) _).setCell (by simp) _).setCell (by simp) _
        · have c2 : decide ((d.kept.length : Int) ≤ x) = false := decide_eq_false hx1
          by_cases hs : s.size = 32
          · have hs1 : ((s.size : Int) == 32) = true := by simp; omega
            have hs2 : ((s.size : Int) != 32) = false := by simp; omega
            by_cases hM : d.cache.length = 20000
            · have c3 : decide (20000 ≤ (d.cache.length : Int)) = true := decide_eq_true (by omega)
              have hspec : Dev.write d x s = (d, 1) := by unfold Dev.write; rw [if_neg (by rw [hmay]; decide), if_neg (by rw [hdead.out]; decide), if_pos (by omega)]
              replace hs := Lib.hid hs; replace hM := Lib.hid hM
              obtain ⟨p1, p2, p3, p4, p5⟩ := h.out.parts
              rw [hspec]; clear hspec
              replace hm := hm.out
              rw [hmay] at hm
              replace hm := Lib.hid hm
              clear hmay
              go_enter Try.func70, Try.ntmps70
              go_wp2_with fail
              refine (hm.out _ (h.out.ext y0)).mono ?_; rintro e w1 ⟨rfl, x1⟩
              clear i0 i1 i2 i3 i4 f0 f1 f2 f3 f4 hw0
              replace r0 := Lib.hid (r0.out.ext x1)
              replace b0 := Lib.hid (b0.out.ext x1)
              obtain ⟨⟨i0, i1, i2, i3, i4⟩, f0, f1, f2, f3, f4⟩ := b0.out.at5
              have y1 := y0.trans x1
              have hl1 := x1.size
              clear x1 y0
              have hz1 : w.heap.size + 2 ≤ w1.heap.size := by have := hz.out; omega
              have r1 := r0.out
              obtain ⟨_, g0, g1, g2, g3, g4⟩ := r1.at5
              have r2 := (((((r1.set 0 (.slice ka d.kept.length kc) (by simp)).set 1 (.slice ca d.cache.length cc) (by simp)).set 2 (.int .i64 d.fuse) (by simp)).set 3 (.slice pa d.keep.length pc) (by simp)).set 4 (.bool false) (by simp))
              obtain ⟨⟨m0, m1, m2, m3, m4⟩, _⟩ := r2.at5
              replace m0 := Lib.hid m0; replace m1 := Lib.hid m1; replace m2 := Lib.hid m2; replace m3 := Lib.hid m3; replace m4 := Lib.hid m4
              replace r1 := Lib.hid r1; replace r2 := Lib.hid r2
              go_wp2_with fail
              refine bodyPost_ret (v := .tuple #[diskV (.slice ka d.kept.length kc) (.slice ca d.cache.length cc) (d.fuse) (.slice pa d.keep.length pc) (false), .int .i64 1]) ?_ rfl ⟨_, rfl, ?_, ?_⟩
              · simp [results, Try.results70, go_sem, m0.out, m1.out, m2.out, m3.out, m4.out, diskV]
              · refine ⟨.slice ka d.kept.length kc, .slice ca d.cache.length cc, .slice pa d.keep.length pc, by rw [hdead.out], p1.ext ?_, p2.ext ?_, p3.ext ?_, p4, p5⟩ <;> exact ((((((y1).below.setCell (by simp) _).setCell (by simp) _).setCell (by simp) _).setCell (by simp) _).setCell (by simp) _)
              · exact (((((y1).below.setCell (by simp) _).setCell (by simp) _).setCell (by simp) _).setCell (by simp) _).setCell (by simp) _
            · have c3 : decide (20000 ≤ (d.cache.length : Int)) = false := decide_eq_false (by omega)
              have hM20 : d.cache.length < 20000 := by omega
              have hmore := hmore0.out ⟨by omega, by omega⟩ hs hM20
              have hspec : Dev.write d x s = if d.fuse = 0 then (⟨(Dev.dieOf (Dev.more d x s) d.keep).kept, [], -1, [], true⟩, 90) else (⟨d.kept, d.cache ++ [(x, s)], if 0 < d.fuse then d.fuse - 1 else d.fuse, d.keep, false⟩, 0) := by
                unfold Dev.write; rw [if_neg (by rw [hmay]; decide), if_neg (by rw [hdead.out]; decide), if_neg (by omega)]; unfold Dev.more Dev.dieOf; simp only [hdead.out]
              replace hs := Lib.hid hs; replace hM := Lib.hid hM; replace hmore := Lib.hid hmore
              by_cases hf0 : d.fuse = 0
              · rw [if_pos hf0] at hspec
                have u0 : (d.fuse == 0) = true := by simp [hf0]
                replace hf0 := Lib.hid hf0
                obtain ⟨p1, p2, p3, p4, p5⟩ := h.out.parts
                rw [hspec]; clear hspec
                replace hm := hm.out
                rw [hmay] at hm
                replace hm := Lib.hid hm
                clear hmay
                go_enter Try.func70, Try.ntmps70
                go_wp2_with fail
                refine (hm.out _ (h.out.ext y0)).mono ?_; rintro e w1 ⟨rfl, x1⟩
                clear i0 i1 i2 i3 i4 f0 f1 f2 f3 f4 hw0
                replace r0 := Lib.hid (r0.out.ext x1)
                replace b0 := Lib.hid (b0.out.ext x1)
                obtain ⟨⟨i0, i1, i2, i3, i4⟩, f0, f1, f2, f3, f4⟩ := b0.out.at5
                have y1 := y0.trans x1
                have hl1 := x1.size
                clear x1 y0
                have hz1 : w.heap.size + 2 ≤ w1.heap.size := by have := hz.out; omega
                obtain ⟨i0w, hi, hz0, hz1', hz2⟩ := info_parts info90
                have hp2 := p2.ext y1
                replace hp2 := Lib.hid hp2
                obtain ⟨⟨ii0, ii1, ii2, ii3, ii4⟩, _⟩ := (b0.out.alloc (.cells #[] 90)).at5
                replace p1 := Lib.hid p1; replace p2 := Lib.hid p2; replace p3 := Lib.hid p3; replace p4 := Lib.hid p4; replace p5 := Lib.hid p5
                go_wp2_with (at_builtin; refine wpList_append_slp (a0 := w1) rfl _ _ 67 rfl w1.heap.size 90 i0w zero90 24 Try.underlying67 hi hz0 hz1' hz2 rfl _ 0 [] rfl (ownsRow_fresh _ _ _) _ d.cache rfl (hp2.out.ext ((Ext.refl _).alloc _)) p5.out ?c1 ?c2 (Nat.le_refl _) ?c3 ((Ext.refl _).alloc _) ?_)
                case c1 => unfold maxLen; omega
                case c2 => omega
                case c3 => simp
                intro v1 w2 hown2 x2
                replace hown2 : w2.ownsRow w1.heap.size 90 2 v1 d.cache.length (putCells d.cache) := by simpa using hown2
                clear i0 i1 i2 i3 i4 f0 f1 f2 f3 f4 ii0 ii1 ii2 ii3 ii4
                have hl2 := x2.size
                have hnew := Box.new w2 [.int .i64 x, .string s] 90
                have hown3 := hown2.alloc (.cells #[.int .i64 x, .string s] 90)
                have x3 := x2.alloc (.cells #[.int .i64 x, .string s] 90)
                have hsl : SlC 2 (w2.alloc (.cells #[.int .i64 x, .string s] 90)) (.slice (some ⟨w2.heap.size, 0, none⟩) 1 1) 1 [.int .i64 x, .string s] :=
                  ⟨_, _, rfl, by omega, by omega, rfl, fun _ => ⟨_, _, rfl, by simp, fun i y hy => by rw [Nat.zero_add]; exact hnew.cell i y hy⟩⟩
                obtain ⟨⟨i0, i1, i2, i3, i4⟩, f0, f1, f2, f3, f4⟩ := (b0.out.ext x3).at5
                obtain ⟨hb2, hb1⟩ : (d.cache.length + 1) * 24 ≤ 140737488355328 ∧ d.cache.length + 1 ≤ maxLen := ⟨by omega, by unfold maxLen; omega⟩
                replace hown3 := Lib.hid hown3; replace hsl := Lib.hid hsl; replace hnew := Lib.hid hnew; replace hown2 := Lib.hid hown2
                go_wp2_with (at_builtin; refine wpList_append_slc (a0 := w1) rfl _ _ 67 rfl w1.heap.size 90 i0w zero90 2 24 Try.underlying67 hi hz0 hz1' hz2 rfl (by decide) _ d.cache.length (putCells d.cache) rfl hown3.out ⟨w2.heap.size, 0, none⟩ 1 1 [.int .i64 x, .string s] rfl hsl.out ?o1 hb1 hb2 (Nat.le_refl _) ?o2 x3 ?_)
                case o1 =>
                  intro y hy
                  simp only [List.mem_cons, List.not_mem_nil, or_false] at hy
                  rcases hy with rfl | rfl <;> rfl
                case o2 => simp; omega
                intro v' w4 hown4 x4
                rw [show putCells d.cache ++ [.int .i64 x, .string s] = putCells (d.cache ++ [(x, s)]) from by rw [putCells_append]; rfl] at hown4
                obtain ⟨va, vb, e6⟩ := owned_slice hown4
                subst e6
                clear i0 i1 i2 i3 i4 f0 f1 f2 f3 f4
                have bo4 := b0.out.ext x4
                obtain ⟨⟨i0, i1, i2, i3, i4⟩, f0, f1, f2, f3, f4⟩ := bo4.at5
                have bo5 := bo4.set 1 (.slice va (d.cache.length + 1) vb) (by simp)
                obtain ⟨⟨m0, m1, m2, m3, m4⟩, n0, n1, n2, n3, n4⟩ := bo5.at5
                have v5 := ownsRow_under hown4 w.heap.size 1 (.slice va (d.cache.length + 1) vb) (by omega)
                have y5 : Ext w (w4.setCell ⟨w.heap.size, 1, none⟩ (.slice va (d.cache.length + 1) vb)) := (y1.trans x4).below.setCell (Nat.le_refl _) _
                have r5 := (r0.out.ext x4).other (m := w.heap.size) (by omega) 1 (.slice va (d.cache.length + 1) vb)
                have hz5 : (w4.setCell ⟨w.heap.size, 1, none⟩ (.slice va (d.cache.length + 1) vb)).heap.size = w4.heap.size := World.size_setCell w4 _ _
                have hl4 := x4.size
                generalize hW5 : w4.setCell ⟨w.heap.size, 1, none⟩ (.slice va (d.cache.length + 1) vb) = W5 at *
                replace v5 := Lib.hid v5; replace bo5 := Lib.hid bo5; replace r5 := Lib.hid r5; replace bo4 := Lib.hid bo4; replace hown4 := Lib.hid hown4; replace hz5 := Lib.hid hz5
                clear hi hz0 hz1' hz2
                have hmm : Dev.may (Dev.more d x s) = true := hmore.out
                have D5 : DiskIn W5 (diskV (.slice ka d.kept.length kc) (.slice va (d.cache.length + 1) vb) d.fuse (.slice pa d.keep.length pc) false) (Dev.more d x s) :=
                  ⟨_, _, _, by rw [show (Dev.more d x s).dead = false from hdead.out]; rfl, p1.out.ext y5, (SlP.owned v5.out).1, p3.out.ext y5, p4.out, nilOr_owned v5.out⟩
                have hfv : FarV (w.heap.size + 1) (.slice ka d.kept.length kc) (d.kept.map strV) := fun hne b o n' c' e' => by
                  obtain ⟨a6, c6, e7, _, _, hc7⟩ := p1.out
                  obtain ⟨b8, o8, h8, hb8, _⟩ := hc7 hne
                  rw [e7] at e'
                  simp only [Value.slice.injEq] at e'
                  rw [h8] at e'
                  simp only [Option.some.injEq, Addr.mk.injEq] at e'
                  omega
                have hd := refDieFar_any (w.heap.size + 1) (Dev.more d x s) _ (.slice pa d.keep.length pc) d.keep W5 D5 (p3.out.ext y5) hmm (by have := hz5.out; omega) (fun k c f p b e => by
                  simp only [diskV, Value.agg.injEq, Array.mk.injEq, List.cons.injEq, and_true] at e
                  rw [← e.1]
                  exact hfv)
                unfold diskV at hd
                replace hd := Lib.hid hd; replace hfv := Lib.hid hfv; replace D5 := Lib.hid D5
                clear hmm
                go_wp2_with fail
                refine hd.out.mono ?_; rintro e w6 ⟨r, rfl, ⟨k6, rfl, hS6, hF6, hN6⟩, x6⟩
                obtain ⟨ka', kn', kc', e8⟩ := hS6.form
                subst e8
                have r1 := r5.out.ext x6
                have y6 := y5.trans x6
                have hfar6 : FarSl (w.heap.size + 1) (w.heap.size + 2) w6 (.slice ka' kn' kc') ((Dev.dieOf (Dev.more d x s) d.keep).kept.map strV) := ⟨hS6, fun hne b o n c e => by have := hF6 hne b o n c e; omega⟩
                replace hS6 := Lib.hid hS6; replace hF6 := Lib.hid hF6; replace hN6 := Lib.hid hN6; replace hfar6 := Lib.hid hfar6
                unfold diskV
                clear x6 m0 m1 m2 m3 m4 n0 n1 n2 n3 n4
                obtain ⟨_, g0, g1, g2, g3, g4⟩ := r1.at5
                have r2 := (((((r1.set 0 (.slice ka' kn' kc') (by simp)).set 1 (.slice none 0 0) (by simp)).set 2 (.int .i64 (-1)) (by simp)).set 3 (.slice none 0 0) (by simp)).set 4 (.bool true) (by simp))
                obtain ⟨⟨m0, m1, m2, m3, m4⟩, _⟩ := r2.at5
                replace m0 := Lib.hid m0; replace m1 := Lib.hid m1; replace m2 := Lib.hid m2; replace m3 := Lib.hid m3; replace m4 := Lib.hid m4
                replace r1 := Lib.hid r1; replace r2 := Lib.hid r2
                go_wp2_with fail
                refine bodyPost_ret (v := .tuple #[diskV (.slice ka' kn' kc') (.slice none 0 0) ((-1)) (.slice none 0 0) (true), .int .i64 90]) ?_ rfl ⟨_, rfl, ?_, ?_⟩
                · simp [results, Try.results70, go_sem, m0.out, m1.out, m2.out, m3.out, m4.out, diskV]
                · exact ⟨_, _, _, rfl, (((((hfar6.out.set (g := w.heap.size + 1) (by omega) (by omega) 0 _).set (g := w.heap.size + 1) (by omega) (by omega) 1 _).set (g := w.heap.size + 1) (by omega) (by omega) 2 _).set (g := w.heap.size + 1) (by omega) (by omega) 3 _).set (g := w.heap.size + 1) (by omega) (by omega) 4 _).1, SlP.nil _, Sl.nil _, hN6.out, .inl rfl⟩
                · exact (((((y6).below.setCell (by simp) _).setCell (by simp) _).setCell (by simp) _).setCell (by simp) _).setCell (by simp) _
              · rw [if_neg hf0] at hspec
                have u0 : (d.fuse == 0) = false := by simp [hf0]
                replace hf0 := Lib.hid hf0
                by_cases hfp : 0 < d.fuse
                · rw [if_pos hfp] at hspec
                  have u1 : decide (0 < d.fuse) = true := decide_eq_true hfp
                  obtain ⟨p1, p2, p3, p4, p5⟩ := h.out.parts
                  rw [hspec]; clear hspec
                  replace hm := hm.out
                  rw [hmay] at hm
                  replace hm := Lib.hid hm
                  clear hmay
                  go_enter Try.func70, Try.ntmps70
                  go_wp2_with fail
                  refine (hm.out _ (h.out.ext y0)).mono ?_; rintro e w1 ⟨rfl, x1⟩
                  clear i0 i1 i2 i3 i4 f0 f1 f2 f3 f4 hw0
                  replace r0 := Lib.hid (r0.out.ext x1)
                  replace b0 := Lib.hid (b0.out.ext x1)
                  obtain ⟨⟨i0, i1, i2, i3, i4⟩, f0, f1, f2, f3, f4⟩ := b0.out.at5
                  have y1 := y0.trans x1
                  have hl1 := x1.size
                  clear x1 y0
                  have hz1 : w.heap.size + 2 ≤ w1.heap.size := by have := hz.out; omega
                  obtain ⟨i0w, hi, hz0, hz1', hz2⟩ := info_parts info90
                  have hp2 := p2.ext y1
                  replace hp2 := Lib.hid hp2
                  obtain ⟨⟨ii0, ii1, ii2, ii3, ii4⟩, _⟩ := (b0.out.alloc (.cells #[] 90)).at5
                  replace p1 := Lib.hid p1; replace p2 := Lib.hid p2; replace p3 := Lib.hid p3; replace p4 := Lib.hid p4; replace p5 := Lib.hid p5
                  go_wp2_with (at_builtin; refine wpList_append_slp (a0 := w1) rfl _ _ 67 rfl w1.heap.size 90 i0w zero90 24 Try.underlying67 hi hz0 hz1' hz2 rfl _ 0 [] rfl (ownsRow_fresh _ _ _) _ d.cache rfl (hp2.out.ext ((Ext.refl _).alloc _)) p5.out ?c1 ?c2 (Nat.le_refl _) ?c3 ((Ext.refl _).alloc _) ?_)
                  case c1 => unfold maxLen; omega
                  case c2 => omega
                  case c3 => simp
                  intro v1 w2 hown2 x2
                  replace hown2 : w2.ownsRow w1.heap.size 90 2 v1 d.cache.length (putCells d.cache) := by simpa using hown2
                  clear i0 i1 i2 i3 i4 f0 f1 f2 f3 f4 ii0 ii1 ii2 ii3 ii4
                  have hl2 := x2.size
                  have hnew := Box.new w2 [.int .i64 x, .string s] 90
                  have hown3 := hown2.alloc (.cells #[.int .i64 x, .string s] 90)
                  have x3 := x2.alloc (.cells #[.int .i64 x, .string s] 90)
                  have hsl : SlC 2 (w2.alloc (.cells #[.int .i64 x, .string s] 90)) (.slice (some ⟨w2.heap.size, 0, none⟩) 1 1) 1 [.int .i64 x, .string s] :=
                    ⟨_, _, rfl, by omega, by omega, rfl, fun _ => ⟨_, _, rfl, by simp, fun i y hy => by rw [Nat.zero_add]; exact hnew.cell i y hy⟩⟩
                  obtain ⟨⟨i0, i1, i2, i3, i4⟩, f0, f1, f2, f3, f4⟩ := (b0.out.ext x3).at5
                  obtain ⟨hb2, hb1⟩ : (d.cache.length + 1) * 24 ≤ 140737488355328 ∧ d.cache.length + 1 ≤ maxLen := ⟨by omega, by unfold maxLen; omega⟩
                  replace hown3 := Lib.hid hown3; replace hsl := Lib.hid hsl; replace hnew := Lib.hid hnew; replace hown2 := Lib.hid hown2
                  go_wp2_with (at_builtin; refine wpList_append_slc (a0 := w1) rfl _ _ 67 rfl w1.heap.size 90 i0w zero90 2 24 Try.underlying67 hi hz0 hz1' hz2 rfl (by decide) _ d.cache.length (putCells d.cache) rfl hown3.out ⟨w2.heap.size, 0, none⟩ 1 1 [.int .i64 x, .string s] rfl hsl.out ?o1 hb1 hb2 (Nat.le_refl _) ?o2 x3 ?_)
                  case o1 =>
                    intro y hy
                    simp only [List.mem_cons, List.not_mem_nil, or_false] at hy
                    rcases hy with rfl | rfl <;> rfl
                  case o2 => simp; omega
                  intro v' w4 hown4 x4
                  rw [show putCells d.cache ++ [.int .i64 x, .string s] = putCells (d.cache ++ [(x, s)]) from by rw [putCells_append]; rfl] at hown4
                  obtain ⟨va, vb, e6⟩ := owned_slice hown4
                  subst e6
                  clear i0 i1 i2 i3 i4 f0 f1 f2 f3 f4
                  have bo4 := b0.out.ext x4
                  obtain ⟨⟨i0, i1, i2, i3, i4⟩, f0, f1, f2, f3, f4⟩ := bo4.at5
                  have bo5 := bo4.set 1 (.slice va (d.cache.length + 1) vb) (by simp)
                  obtain ⟨⟨m0, m1, m2, m3, m4⟩, n0, n1, n2, n3, n4⟩ := bo5.at5
                  have v5 := ownsRow_under hown4 w.heap.size 1 (.slice va (d.cache.length + 1) vb) (by omega)
                  have y5 : Ext w (w4.setCell ⟨w.heap.size, 1, none⟩ (.slice va (d.cache.length + 1) vb)) := (y1.trans x4).below.setCell (Nat.le_refl _) _
                  have r5 := (r0.out.ext x4).other (m := w.heap.size) (by omega) 1 (.slice va (d.cache.length + 1) vb)
                  have hz5 : (w4.setCell ⟨w.heap.size, 1, none⟩ (.slice va (d.cache.length + 1) vb)).heap.size = w4.heap.size := World.size_setCell w4 _ _
                  have hl4 := x4.size
                  generalize hW5 : w4.setCell ⟨w.heap.size, 1, none⟩ (.slice va (d.cache.length + 1) vb) = W5 at *
                  replace v5 := Lib.hid v5; replace bo5 := Lib.hid bo5; replace r5 := Lib.hid r5; replace bo4 := Lib.hid bo4; replace hown4 := Lib.hid hown4; replace hz5 := Lib.hid hz5
                  clear hi hz0 hz1' hz2
                  have hlB : w.heap.size + 1 < w1.heap.size := by omega
                  have r1 := r5.out
                  have y6 := y5
                  have vx := v5
                  replace r1 := r1.other (m := w.heap.size) (by omega) 2 (.int .i64 (d.fuse - 1))
                  have bo6 := bo5.out.set 2 (.int .i64 (d.fuse - 1)) (by simp)
                  obtain ⟨⟨o0, o1, o2, o3, o4⟩, _⟩ := bo6.at5
                  replace vx := Lib.hid (ownsRow_under v5.out w.heap.size 2 (.int .i64 (d.fuse - 1)) (by omega))
                  replace y6 : Ext w (W5.setCell ⟨w.heap.size, 2, none⟩ (.int .i64 (d.fuse - 1))) := y5.below.setCell (Nat.le_refl _) _
                  replace bo6 := Lib.hid bo6
                  obtain ⟨_, g0, g1, g2, g3, g4⟩ := r1.at5
                  have r2 := (((((r1.set 0 (.slice ka d.kept.length kc) (by simp)).set 1 (.slice va (d.cache.length + 1) vb) (by simp)).set 2 (.int .i64 (d.fuse - 1)) (by simp)).set 3 (.slice pa d.keep.length pc) (by simp)).set 4 (.bool false) (by simp))
                  obtain ⟨⟨m0, m1, m2, m3, m4⟩, _⟩ := r2.at5
                  replace m0 := Lib.hid m0; replace m1 := Lib.hid m1; replace m2 := Lib.hid m2; replace m3 := Lib.hid m3; replace m4 := Lib.hid m4
                  replace r1 := Lib.hid r1; replace r2 := Lib.hid r2
                  go_wp2_with fail
                  refine bodyPost_ret (v := .tuple #[diskV (.slice ka d.kept.length kc) (.slice va (d.cache.length + 1) vb) ((d.fuse - 1)) (.slice pa d.keep.length pc) (false), .int .i64 0]) ?_ rfl ⟨_, rfl, ?_, ?_⟩
                  · simp [results, Try.results70, go_sem, m0.out, m1.out, m2.out, m3.out, m4.out, diskV]
                  · have v6 := (ownsRow_under (ownsRow_under (ownsRow_under (ownsRow_under (ownsRow_under vx.out _ 0 (.slice ka d.kept.length kc) hlB) _ 1 (.slice va (d.cache.length + 1) vb) hlB) _ 2 (.int .i64 (d.fuse - 1)) hlB) _ 3 (.slice pa d.keep.length pc) hlB) _ 4 (.bool false) hlB)
                    refine ⟨_, _, _, rfl, p1.out.ext ?_, (SlP.owned v6).1, p3.out.ext ?_, p4.out, nilOr_owned v6⟩ <;> exact ((((((y6).below.setCell (by simp) _).setCell (by simp) _).setCell (by simp) _).setCell (by simp) _).setCell (by simp) _)
                  · exact (((((y6).below.setCell (by simp) _).setCell (by simp) _).setCell (by simp) _).setCell (by simp) _).setCell (by simp) _
                · rw [if_neg hfp] at hspec
                  have u1 : decide (0 < d.fuse) = false := decide_eq_false hfp
                  obtain ⟨p1, p2, p3, p4, p5⟩ := h.out.parts
                  rw [hspec]; clear hspec
                  replace hm := hm.out
                  rw [hmay] at hm
                  replace hm := Lib.hid hm
                  clear hmay
                  go_enter Try.func70, Try.ntmps70
                  go_wp2_with fail
                  refine (hm.out _ (h.out.ext y0)).mono ?_; rintro e w1 ⟨rfl, x1⟩
                  clear i0 i1 i2 i3 i4 f0 f1 f2 f3 f4 hw0
                  replace r0 := Lib.hid (r0.out.ext x1)
                  replace b0 := Lib.hid (b0.out.ext x1)
                  obtain ⟨⟨i0, i1, i2, i3, i4⟩, f0, f1, f2, f3, f4⟩ := b0.out.at5
                  have y1 := y0.trans x1
                  have hl1 := x1.size
                  clear x1 y0
                  have hz1 : w.heap.size + 2 ≤ w1.heap.size := by have := hz.out; omega
                  obtain ⟨i0w, hi, hz0, hz1', hz2⟩ := info_parts info90
                  have hp2 := p2.ext y1
                  replace hp2 := Lib.hid hp2
                  obtain ⟨⟨ii0, ii1, ii2, ii3, ii4⟩, _⟩ := (b0.out.alloc (.cells #[] 90)).at5
                  replace p1 := Lib.hid p1; replace p2 := Lib.hid p2; replace p3 := Lib.hid p3; replace p4 := Lib.hid p4; replace p5 := Lib.hid p5
                  go_wp2_with (at_builtin; refine wpList_append_slp (a0 := w1) rfl _ _ 67 rfl w1.heap.size 90 i0w zero90 24 Try.underlying67 hi hz0 hz1' hz2 rfl _ 0 [] rfl (ownsRow_fresh _ _ _) _ d.cache rfl (hp2.out.ext ((Ext.refl _).alloc _)) p5.out ?c1 ?c2 (Nat.le_refl _) ?c3 ((Ext.refl _).alloc _) ?_)
                  case c1 => unfold maxLen; omega
                  case c2 => omega
                  case c3 => simp
                  intro v1 w2 hown2 x2
                  replace hown2 : w2.ownsRow w1.heap.size 90 2 v1 d.cache.length (putCells d.cache) := by simpa using hown2
                  clear i0 i1 i2 i3 i4 f0 f1 f2 f3 f4 ii0 ii1 ii2 ii3 ii4
                  have hl2 := x2.size
                  have hnew := Box.new w2 [.int .i64 x, .string s] 90
                  have hown3 := hown2.alloc (.cells #[.int .i64 x, .string s] 90)
                  have x3 := x2.alloc (.cells #[.int .i64 x, .string s] 90)
                  have hsl : SlC 2 (w2.alloc (.cells #[.int .i64 x, .string s] 90)) (.slice (some ⟨w2.heap.size, 0, none⟩) 1 1) 1 [.int .i64 x, .string s] :=
                    ⟨_, _, rfl, by omega, by omega, rfl, fun _ => ⟨_, _, rfl, by simp, fun i y hy => by rw [Nat.zero_add]; exact hnew.cell i y hy⟩⟩
                  obtain ⟨⟨i0, i1, i2, i3, i4⟩, f0, f1, f2, f3, f4⟩ := (b0.out.ext x3).at5
                  obtain ⟨hb2, hb1⟩ : (d.cache.length + 1) * 24 ≤ 140737488355328 ∧ d.cache.length + 1 ≤ maxLen := ⟨by omega, by unfold maxLen; omega⟩
                  replace hown3 := Lib.hid hown3; replace hsl := Lib.hid hsl; replace hnew := Lib.hid hnew; replace hown2 := Lib.hid hown2
                  go_wp2_with (at_builtin; refine wpList_append_slc (a0 := w1) rfl _ _ 67 rfl w1.heap.size 90 i0w zero90 2 24 Try.underlying67 hi hz0 hz1' hz2 rfl (by decide) _ d.cache.length (putCells d.cache) rfl hown3.out ⟨w2.heap.size, 0, none⟩ 1 1 [.int .i64 x, .string s] rfl hsl.out ?o1 hb1 hb2 (Nat.le_refl _) ?o2 x3 ?_)
                  case o1 =>
                    intro y hy
                    simp only [List.mem_cons, List.not_mem_nil, or_false] at hy
                    rcases hy with rfl | rfl <;> rfl
                  case o2 => simp; omega
                  intro v' w4 hown4 x4
                  rw [show putCells d.cache ++ [.int .i64 x, .string s] = putCells (d.cache ++ [(x, s)]) from by rw [putCells_append]; rfl] at hown4
                  obtain ⟨va, vb, e6⟩ := owned_slice hown4
                  subst e6
                  clear i0 i1 i2 i3 i4 f0 f1 f2 f3 f4
                  have bo4 := b0.out.ext x4
                  obtain ⟨⟨i0, i1, i2, i3, i4⟩, f0, f1, f2, f3, f4⟩ := bo4.at5
                  have bo5 := bo4.set 1 (.slice va (d.cache.length + 1) vb) (by simp)
                  obtain ⟨⟨m0, m1, m2, m3, m4⟩, n0, n1, n2, n3, n4⟩ := bo5.at5
                  have v5 := ownsRow_under hown4 w.heap.size 1 (.slice va (d.cache.length + 1) vb) (by omega)
                  have y5 : Ext w (w4.setCell ⟨w.heap.size, 1, none⟩ (.slice va (d.cache.length + 1) vb)) := (y1.trans x4).below.setCell (Nat.le_refl _) _
                  have r5 := (r0.out.ext x4).other (m := w.heap.size) (by omega) 1 (.slice va (d.cache.length + 1) vb)
                  have hz5 : (w4.setCell ⟨w.heap.size, 1, none⟩ (.slice va (d.cache.length + 1) vb)).heap.size = w4.heap.size := World.size_setCell w4 _ _
                  have hl4 := x4.size
                  generalize hW5 : w4.setCell ⟨w.heap.size, 1, none⟩ (.slice va (d.cache.length + 1) vb) = W5 at *
                  replace v5 := Lib.hid v5; replace bo5 := Lib.hid bo5; replace r5 := Lib.hid r5; replace bo4 := Lib.hid bo4; replace hown4 := Lib.hid hown4; replace hz5 := Lib.hid hz5
                  clear hi hz0 hz1' hz2
                  have hlB : w.heap.size + 1 < w1.heap.size := by omega
                  have r1 := r5.out
                  have y6 := y5
                  have vx := v5
                  obtain ⟨_, g0, g1, g2, g3, g4⟩ := r1.at5
                  have r2 := (((((r1.set 0 (.slice ka d.kept.length kc) (by simp)).set 1 (.slice va (d.cache.length + 1) vb) (by simp)).set 2 (.int .i64 d.fuse) (by simp)).set 3 (.slice pa d.keep.length pc) (by simp)).set 4 (.bool false) (by simp))
                  obtain ⟨⟨m0, m1, m2, m3, m4⟩, _⟩ := r2.at5
                  replace m0 := Lib.hid m0; replace m1 := Lib.hid m1; replace m2 := Lib.hid m2; replace m3 := Lib.hid m3; replace m4 := Lib.hid m4
                  replace r1 := Lib.hid r1; replace r2 := Lib.hid r2
                  go_wp2_with fail
                  refine bodyPost_ret (v := .tuple #[diskV (.slice ka d.kept.length kc) (.slice va (d.cache.length + 1) vb) (d.fuse) (.slice pa d.keep.length pc) (false), .int .i64 0]) ?_ rfl ⟨_, rfl, ?_, ?_⟩
                  · simp [results, Try.results70, go_sem, m0.out, m1.out, m2.out, m3.out, m4.out, diskV]
                  · have v6 := (ownsRow_under (ownsRow_under (ownsRow_under (ownsRow_under (ownsRow_under vx.out _ 0 (.slice ka d.kept.length kc) hlB) _ 1 (.slice va (d.cache.length + 1) vb) hlB) _ 2 (.int .i64 d.fuse) hlB) _ 3 (.slice pa d.keep.length pc) hlB) _ 4 (.bool false) hlB)
                    refine ⟨_, _, _, rfl, p1.out.ext ?_, (SlP.owned v6).1, p3.out.ext ?_, p4.out, nilOr_owned v6⟩ <;> exact ((((((y6).below.setCell (by simp) _).setCell (by simp) _).setCell (by simp) _).setCell (by simp) _).setCell (by simp) _)
                  · exact (((((y6).below.setCell (by simp) _).setCell (by simp) _).setCell (by simp) _).setCell (by simp) _).setCell (by simp) _
          · have hs1 : ((s.size : Int) == 32) = false := by simp; omega
            have hs2 : ((s.size : Int) != 32) = true := by simp; omega
            have hspec : Dev.write d x s = (d, 1) := by unfold Dev.write; rw [if_neg (by rw [hmay]; decide), if_neg (by rw [hdead.out]; decide), if_pos (by omega)]
            replace hs := Lib.hid hs
            obtain ⟨p1, p2, p3, p4, p5⟩ := h.out.parts
            rw [hspec]; clear hspec
            replace hm := hm.out
            rw [hmay] at hm
            replace hm := Lib.hid hm
            clear hmay
            go_enter Try.func70, Try.ntmps70
            go_wp2_with fail
            refine (hm.out _ (h.out.ext y0)).mono ?_; rintro e w1 ⟨rfl, x1⟩
            clear i0 i1 i2 i3 i4 f0 f1 f2 f3 f4 hw0
            replace r0 := Lib.hid (r0.out.ext x1)
            replace b0 := Lib.hid (b0.out.ext x1)
            obtain ⟨⟨i0, i1, i2, i3, i4⟩, f0, f1, f2, f3, f4⟩ := b0.out.at5
            have y1 := y0.trans x1
            have hl1 := x1.size
            clear x1 y0
            have hz1 : w.heap.size + 2 ≤ w1.heap.size := by have := hz.out; omega
            have r1 := r0.out
            obtain ⟨_, g0, g1, g2, g3, g4⟩ := r1.at5
            have r2 := (((((r1.set 0 (.slice ka d.kept.length kc) (by simp)).set 1 (.slice ca d.cache.length cc) (by simp)).set 2 (.int .i64 d.fuse) (by simp)).set 3 (.slice pa d.keep.length pc) (by simp)).set 4 (.bool false) (by simp))
            obtain ⟨⟨m0, m1, m2, m3, m4⟩, _⟩ := r2.at5
            replace m0 := Lib.hid m0; replace m1 := Lib.hid m1; replace m2 := Lib.hid m2; replace m3 := Lib.hid m3; replace m4 := Lib.hid m4
            replace r1 := Lib.hid r1; replace r2 := Lib.hid r2
            go_wp2_with fail
            refine bodyPost_ret (v := .tuple #[diskV (.slice ka d.kept.length kc) (.slice ca d.cache.length cc) (d.fuse) (.slice pa d.keep.length pc) (false), .int .i64 1]) ?_ rfl ⟨_, rfl, ?_, ?_⟩
            · simp [results, Try.results70, go_sem, m0.out, m1.out, m2.out, m3.out, m4.out, diskV]
            · refine ⟨.slice ka d.kept.length kc, .slice ca d.cache.length cc, .slice pa d.keep.length pc, by rw [hdead.out], p1.ext ?_, p2.ext ?_, p3.ext ?_, p4, p5⟩ <;> exact ((((((y1).below.setCell (by simp) _).setCell (by simp) _).setCell (by simp) _).setCell (by simp) _).setCell (by simp) _)
            · exact (((((y1).below.setCell (by simp) _).setCell (by simp) _).setCell (by simp) _).setCell (by simp) _).setCell (by simp) _

end Go.Proofs.Ytehidhcpdiameaa
