/- The statement DeviceWrites: the law's own walk. (Printed by wip/devwrites.py.) -/
import Derived.Test.YtehidhcpdiameaaDevLaw
namespace Go.Proofs.Ytehidhcpdiameaa
open Go.RowKit

set_option maxRecDepth 100000 in
set_option maxHeartbeats 8000000 in
theorem deviceWrites_no0 (w : World) (d : Dev.Disk) (v : Value) (x : PutIn) (o : Int) (D : DiskIn w v d) (hx : x.Ok w) (hs : Dev.small d = false) :
    Calls Try.prog 20 #[v, x.val, .int .i64 o] w fun e w' => e = .returned (.bool true) ∧ Ext w w' := by
  obtain ⟨xa, xs, xf, xkv, xk⟩ := x
  have h67 := fun v w h => small9_any d v w h
  rw [hs] at h67
  replace h67 := Lib.hid h67
  obtain ⟨_, _, hx⟩ := hx
  obtain ⟨xka, xkn, xkc, rfl⟩ := hx.form
  clear hx
  obtain ⟨ka, kc, ca, cc, pa, pc, rfl⟩ := D.form3
  unfold PutIn.val
  dsimp only
  have y : Ext w ((w.alloc (.cells #[.slice ka d.kept.length kc, .slice ca d.cache.length cc, .int .i64 d.fuse, .slice pa d.keep.length pc, .bool d.dead] 69)).alloc (.cells #[.int .i64 xa, .string xs, .int .i64 xf, .slice xka xkn xkc] 79)) := ((Ext.refl w).alloc _).alloc _
  have bd := Lib.hid ((Box.new w [.slice ka d.kept.length kc, .slice ca d.cache.length cc, .int .i64 d.fuse, .slice pa d.keep.length pc, .bool d.dead] 69).alloc (.cells #[.int .i64 xa, .string xs, .int .i64 xf, .slice xka xkn xkc] 79))
  have bx := Lib.hid (Box.new1 w (.cells #[.slice ka d.kept.length kc, .slice ca d.cache.length cc, .int .i64 d.fuse, .slice pa d.keep.length pc, .bool d.dead] 69) [.int .i64 xa, .string xs, .int .i64 xf, .slice xka xkn xkc] 79)
  replace D := Lib.hid (D.ext y); replace y := Lib.hid y
  go_enter Try.func20, Try.ntmps20
  go_wp2_with fail
  refine (fixed09 _).mono ?_; rintro e w1 ⟨rfl, x1⟩
  replace D := Lib.hid (D.out.ext x1); replace bd := Lib.hid (bd.out.ext x1); replace bx := Lib.hid (bx.out.ext x1)
  replace y := Lib.hid (y.out.trans x1)
  clear x1
  obtain ⟨⟨gbd0, gbd1, gbd2, gbd3, gbd4⟩, _⟩ := bd.out.at5
  go_wp2_with fail
  refine (h67.out _ _ D.out).mono ?_; rintro e w2 ⟨rfl, x2⟩
  clear gbd0 gbd1 gbd2 gbd3 gbd4
  replace D := Lib.hid (D.out.ext x2); replace bd := Lib.hid (bd.out.ext x2); replace bx := Lib.hid (bx.out.ext x2)
  replace y := Lib.hid (y.out.trans x2)
  clear x2
  go_wp2_with fail
  refine (fixed09 _).mono ?_; rintro e w3 ⟨rfl, x3⟩
  replace D := Lib.hid (D.out.ext x3); replace bd := Lib.hid (bd.out.ext x3); replace bx := Lib.hid (bx.out.ext x3)
  replace y := Lib.hid (y.out.trans x3)
  clear x3
  go_wp2_with fail
  go_ret
  exact ⟨rfl, y.out⟩

set_option maxRecDepth 100000 in
set_option maxHeartbeats 8000000 in
theorem deviceWrites_no1 (w : World) (d : Dev.Disk) (v : Value) (x : PutIn) (o : Int) (D : DiskIn w v d) (hx : x.Ok w) (hs : Dev.small d = true) (hm : Dev.may d = false) :
    Calls Try.prog 20 #[v, x.val, .int .i64 o] w fun e w' => e = .returned (.bool true) ∧ Ext w w' := by
  obtain ⟨xa, xs, xf, xkv, xk⟩ := x
  have h67 := fun v w h => small9_any d v w h
  rw [hs] at h67
  replace h67 := Lib.hid h67
  have h73 := fun v w h => may_any d v w h
  rw [hm] at h73
  replace h73 := Lib.hid h73
  obtain ⟨_, _, hx⟩ := hx
  obtain ⟨xka, xkn, xkc, rfl⟩ := hx.form
  clear hx
  obtain ⟨ka, kc, ca, cc, pa, pc, rfl⟩ := D.form3
  unfold PutIn.val
  dsimp only
  have y : Ext w ((w.alloc (.cells #[.slice ka d.kept.length kc, .slice ca d.cache.length cc, .int .i64 d.fuse, .slice pa d.keep.length pc, .bool d.dead] 69)).alloc (.cells #[.int .i64 xa, .string xs, .int .i64 xf, .slice xka xkn xkc] 79)) := ((Ext.refl w).alloc _).alloc _
  have bd := Lib.hid ((Box.new w [.slice ka d.kept.length kc, .slice ca d.cache.length cc, .int .i64 d.fuse, .slice pa d.keep.length pc, .bool d.dead] 69).alloc (.cells #[.int .i64 xa, .string xs, .int .i64 xf, .slice xka xkn xkc] 79))
  have bx := Lib.hid (Box.new1 w (.cells #[.slice ka d.kept.length kc, .slice ca d.cache.length cc, .int .i64 d.fuse, .slice pa d.keep.length pc, .bool d.dead] 69) [.int .i64 xa, .string xs, .int .i64 xf, .slice xka xkn xkc] 79)
  replace D := Lib.hid (D.ext y); replace y := Lib.hid y
  go_enter Try.func20, Try.ntmps20
  go_wp2_with fail
  refine (fixed09 _).mono ?_; rintro e w1 ⟨rfl, x1⟩
  replace D := Lib.hid (D.out.ext x1); replace bd := Lib.hid (bd.out.ext x1); replace bx := Lib.hid (bx.out.ext x1)
  replace y := Lib.hid (y.out.trans x1)
  clear x1
  obtain ⟨⟨gbd0, gbd1, gbd2, gbd3, gbd4⟩, _⟩ := bd.out.at5
  go_wp2_with fail
  refine (h67.out _ _ D.out).mono ?_; rintro e w2 ⟨rfl, x2⟩
  clear gbd0 gbd1 gbd2 gbd3 gbd4
  replace D := Lib.hid (D.out.ext x2); replace bd := Lib.hid (bd.out.ext x2); replace bx := Lib.hid (bx.out.ext x2)
  replace y := Lib.hid (y.out.trans x2)
  clear x2
  obtain ⟨⟨gbd0, gbd1, gbd2, gbd3, gbd4⟩, _⟩ := bd.out.at5
  go_wp2_with fail
  refine (h73.out _ _ D.out).mono ?_; rintro e w3 ⟨rfl, x3⟩
  clear gbd0 gbd1 gbd2 gbd3 gbd4
  replace D := Lib.hid (D.out.ext x3); replace bd := Lib.hid (bd.out.ext x3); replace bx := Lib.hid (bx.out.ext x3)
  replace y := Lib.hid (y.out.trans x3)
  clear x3
  go_wp2_with fail
  refine (fixed09 _).mono ?_; rintro e w4 ⟨rfl, x4⟩
  replace D := Lib.hid (D.out.ext x4); replace bd := Lib.hid (bd.out.ext x4); replace bx := Lib.hid (bx.out.ext x4)
  replace y := Lib.hid (y.out.trans x4)
  clear x4
  go_wp2_with fail
  go_ret
  exact ⟨rfl, y.out⟩

set_option maxRecDepth 100000 in
set_option maxHeartbeats 8000000 in
theorem deviceWrites_e1 (w : World) (d : Dev.Disk) (v : Value) (x : PutIn) (o : Int) (D : DiskIn w v d) (hx : x.Ok w) (hs : Dev.small d = true) (hm : Dev.may d = true) (hfu : d.fuse ≤ 9223372036854775807) (he : (Dev.write d x.at_ x.text).2 = 1) :
    Calls Try.prog 20 #[v, x.val, .int .i64 o] w fun e w' => e = .returned (.bool true) ∧ Ext w w' := by
  obtain ⟨xa, xs, xf, xkv, xk⟩ := x
  have hk0 := Dev.small_keep hs
  have kA := Dev.write_keep d xa xs
  have c1 := fun v w h => write9_any d v xa xs w h hk0 hfu
  have h67 := fun v w h => small9_any d v w h
  have h73 := fun v w h => may_any d v w h
  rw [hs] at h67; rw [hm] at h73
  obtain ⟨⟨A, n⟩, hA⟩ : ∃ p, Dev.write d xa xs = p := ⟨_, rfl⟩
  try dsimp only at *
  rw [hA] at c1 he kA
  dsimp only at he
  subst he
  dsimp only at kA
  obtain rfl := (Dev.write_arg hm hA).symm
  have c2 := fun u v w h h2 => same9_any d d u v w h h2
  rw [decide_eq_true rfl] at c2
  clear hA hs hm hfu kA hk0
  replace h67 := Lib.hid h67; replace h73 := Lib.hid h73; replace c1 := Lib.hid c1; replace c2 := Lib.hid c2
  obtain ⟨_, _, hx⟩ := hx
  obtain ⟨xka, xkn, xkc, rfl⟩ := hx.form
  clear hx
  obtain ⟨ka, kc, ca, cc, pa, pc, rfl⟩ := D.form3
  unfold PutIn.val
  dsimp only
  have y : Ext w ((w.alloc (.cells #[.slice ka d.kept.length kc, .slice ca d.cache.length cc, .int .i64 d.fuse, .slice pa d.keep.length pc, .bool d.dead] 69)).alloc (.cells #[.int .i64 xa, .string xs, .int .i64 xf, .slice xka xkn xkc] 79)) := ((Ext.refl w).alloc _).alloc _
  have bd := Lib.hid ((Box.new w [.slice ka d.kept.length kc, .slice ca d.cache.length cc, .int .i64 d.fuse, .slice pa d.keep.length pc, .bool d.dead] 69).alloc (.cells #[.int .i64 xa, .string xs, .int .i64 xf, .slice xka xkn xkc] 79))
  have bx := Lib.hid (Box.new1 w (.cells #[.slice ka d.kept.length kc, .slice ca d.cache.length cc, .int .i64 d.fuse, .slice pa d.keep.length pc, .bool d.dead] 69) [.int .i64 xa, .string xs, .int .i64 xf, .slice xka xkn xkc] 79)
  replace D := Lib.hid (D.ext y); replace y := Lib.hid y
  go_enter Try.func20, Try.ntmps20
  go_wp2_with fail
  refine (fixed09 _).mono ?_; rintro e w1 ⟨rfl, x1⟩
  replace D := Lib.hid (D.out.ext x1); replace bd := Lib.hid (bd.out.ext x1); replace bx := Lib.hid (bx.out.ext x1)
  replace y := Lib.hid (y.out.trans x1)
  clear x1
  obtain ⟨⟨gbd0, gbd1, gbd2, gbd3, gbd4⟩, _⟩ := bd.out.at5
  go_wp2_with fail
  refine (h67.out _ _ D.out).mono ?_; rintro e w2 ⟨rfl, x2⟩
  clear gbd0 gbd1 gbd2 gbd3 gbd4
  replace D := Lib.hid (D.out.ext x2); replace bd := Lib.hid (bd.out.ext x2); replace bx := Lib.hid (bx.out.ext x2)
  replace y := Lib.hid (y.out.trans x2)
  clear x2
  obtain ⟨⟨gbd0, gbd1, gbd2, gbd3, gbd4⟩, _⟩ := bd.out.at5
  go_wp2_with fail
  refine (h73.out _ _ D.out).mono ?_; rintro e w3 ⟨rfl, x3⟩
  clear gbd0 gbd1 gbd2 gbd3 gbd4
  replace D := Lib.hid (D.out.ext x3); replace bd := Lib.hid (bd.out.ext x3); replace bx := Lib.hid (bx.out.ext x3)
  replace y := Lib.hid (y.out.trans x3)
  clear x3
  obtain ⟨⟨gbd0, gbd1, gbd2, gbd3, gbd4⟩, _⟩ := bd.out.at5
  obtain ⟨⟨gbx0, gbx1, gbx2, gbx3⟩, _⟩ := bx.out.at4
  go_wp2_with fail
  refine (c1.out _ _ D.out).mono ?_; rintro e w4 ⟨r4, rfl, DA, x4⟩
  clear gbd0 gbd1 gbd2 gbd3 gbd4 gbx0 gbx1 gbx2 gbx3
  replace D := Lib.hid (D.out.ext x4); replace bd := Lib.hid (bd.out.ext x4); replace bx := Lib.hid (bx.out.ext x4)
  replace y := Lib.hid (y.out.trans x4)
  clear x4
  obtain ⟨ka4, kc4, ca4, cc4, pa4, pc4, rfl⟩ := DA.form3
  replace DA := Lib.hid DA
  have xb : Ext w4 (w4.alloc (.cells #[.slice ka4 d.kept.length kc4, .slice ca4 d.cache.length cc4, .int .i64 d.fuse, .slice pa4 d.keep.length pc4, .bool d.dead] 69)) := (Ext.refl _).alloc _
  replace D := Lib.hid (D.out.ext xb); replace bd := Lib.hid (bd.out.ext xb); replace bx := Lib.hid (bx.out.ext xb); replace DA := Lib.hid (DA.out.ext xb)
  replace y := Lib.hid (y.out.trans xb)
  clear xb
  have bA := Lib.hid (Box.new w4 [.slice ka4 d.kept.length kc4, .slice ca4 d.cache.length cc4, .int .i64 d.fuse, .slice pa4 d.keep.length pc4, .bool d.dead] 69)
  obtain ⟨⟨gbA0, gbA1, gbA2, gbA3, gbA4⟩, _⟩ := bA.out.at5
  obtain ⟨⟨gbd0, gbd1, gbd2, gbd3, gbd4⟩, _⟩ := bd.out.at5
  go_wp2_with fail
  refine (c2.out _ _ _ DA.out D.out).mono ?_; rintro e w5 ⟨rfl, x5⟩
  clear gbA0 gbA1 gbA2 gbA3 gbA4 gbd0 gbd1 gbd2 gbd3 gbd4
  replace D := Lib.hid (D.out.ext x5); replace bd := Lib.hid (bd.out.ext x5); replace bx := Lib.hid (bx.out.ext x5); replace DA := Lib.hid (DA.out.ext x5); replace bA := Lib.hid (bA.out.ext x5)
  replace y := Lib.hid (y.out.trans x5)
  clear x5
  go_wp2_with fail
  go_ret
  exact ⟨rfl, y.out⟩

set_option maxRecDepth 100000 in
set_option maxHeartbeats 8000000 in
theorem deviceWrites_e90 (w : World) (d : Dev.Disk) (v : Value) (x : PutIn) (o : Int) (D : DiskIn w v d) (hx : x.Ok w) (hs : Dev.small d = true) (hm : Dev.may d = true) (hfu : d.fuse ≤ 9223372036854775807) (he : (Dev.write d x.at_ x.text).2 = 90) :
    Calls Try.prog 20 #[v, x.val, .int .i64 o] w fun e w' => e = .returned (.bool true) ∧ Ext w w' := by
  obtain ⟨xa, xs, xf, xkv, xk⟩ := x
  have hk0 := Dev.small_keep hs
  have kA := Dev.write_keep d xa xs
  have c1 := fun v w h => write9_any d v xa xs w h hk0 hfu
  have h67 := fun v w h => small9_any d v w h
  have h73 := fun v w h => may_any d v w h
  rw [hs] at h67; rw [hm] at h73
  obtain ⟨⟨A, n⟩, hA⟩ : ∃ p, Dev.write d xa xs = p := ⟨_, rfl⟩
  try dsimp only at *
  rw [hA] at c1 he kA
  dsimp only at he
  subst he
  dsimp only at kA
  obtain ⟨dd, mA, lA⟩ := Dev.write_dead hm hA
  have c2 := fun v w h => read9_any A v xa w h
  rw [Dev.read_dead mA dd] at c2
  have n1 : ((A.kept.length : Int) == (d.kept.length : Int)) = true := by rw [lA]; simp
  clear lA mA
  clear hA hs hm hfu kA hk0
  replace h67 := Lib.hid h67; replace h73 := Lib.hid h73; replace c1 := Lib.hid c1; replace c2 := Lib.hid c2
  obtain ⟨_, _, hx⟩ := hx
  obtain ⟨xka, xkn, xkc, rfl⟩ := hx.form
  clear hx
  obtain ⟨ka, kc, ca, cc, pa, pc, rfl⟩ := D.form3
  unfold PutIn.val
  dsimp only
  have y : Ext w ((w.alloc (.cells #[.slice ka d.kept.length kc, .slice ca d.cache.length cc, .int .i64 d.fuse, .slice pa d.keep.length pc, .bool d.dead] 69)).alloc (.cells #[.int .i64 xa, .string xs, .int .i64 xf, .slice xka xkn xkc] 79)) := ((Ext.refl w).alloc _).alloc _
  have bd := Lib.hid ((Box.new w [.slice ka d.kept.length kc, .slice ca d.cache.length cc, .int .i64 d.fuse, .slice pa d.keep.length pc, .bool d.dead] 69).alloc (.cells #[.int .i64 xa, .string xs, .int .i64 xf, .slice xka xkn xkc] 79))
  have bx := Lib.hid (Box.new1 w (.cells #[.slice ka d.kept.length kc, .slice ca d.cache.length cc, .int .i64 d.fuse, .slice pa d.keep.length pc, .bool d.dead] 69) [.int .i64 xa, .string xs, .int .i64 xf, .slice xka xkn xkc] 79)
  replace D := Lib.hid (D.ext y); replace y := Lib.hid y
  go_enter Try.func20, Try.ntmps20
  go_wp2_with fail
  refine (fixed09 _).mono ?_; rintro e w1 ⟨rfl, x1⟩
  replace D := Lib.hid (D.out.ext x1); replace bd := Lib.hid (bd.out.ext x1); replace bx := Lib.hid (bx.out.ext x1)
  replace y := Lib.hid (y.out.trans x1)
  clear x1
  obtain ⟨⟨gbd0, gbd1, gbd2, gbd3, gbd4⟩, _⟩ := bd.out.at5
  go_wp2_with fail
  refine (h67.out _ _ D.out).mono ?_; rintro e w2 ⟨rfl, x2⟩
  clear gbd0 gbd1 gbd2 gbd3 gbd4
  replace D := Lib.hid (D.out.ext x2); replace bd := Lib.hid (bd.out.ext x2); replace bx := Lib.hid (bx.out.ext x2)
  replace y := Lib.hid (y.out.trans x2)
  clear x2
  obtain ⟨⟨gbd0, gbd1, gbd2, gbd3, gbd4⟩, _⟩ := bd.out.at5
  go_wp2_with fail
  refine (h73.out _ _ D.out).mono ?_; rintro e w3 ⟨rfl, x3⟩
  clear gbd0 gbd1 gbd2 gbd3 gbd4
  replace D := Lib.hid (D.out.ext x3); replace bd := Lib.hid (bd.out.ext x3); replace bx := Lib.hid (bx.out.ext x3)
  replace y := Lib.hid (y.out.trans x3)
  clear x3
  obtain ⟨⟨gbd0, gbd1, gbd2, gbd3, gbd4⟩, _⟩ := bd.out.at5
  obtain ⟨⟨gbx0, gbx1, gbx2, gbx3⟩, _⟩ := bx.out.at4
  go_wp2_with fail
  refine (c1.out _ _ D.out).mono ?_; rintro e w4 ⟨r4, rfl, DA, x4⟩
  clear gbd0 gbd1 gbd2 gbd3 gbd4 gbx0 gbx1 gbx2 gbx3
  replace D := Lib.hid (D.out.ext x4); replace bd := Lib.hid (bd.out.ext x4); replace bx := Lib.hid (bx.out.ext x4)
  replace y := Lib.hid (y.out.trans x4)
  clear x4
  obtain ⟨ka4, kc4, ca4, cc4, pa4, pc4, rfl⟩ := DA.form3
  rw [dd] at DA ⊢
  replace DA := Lib.hid DA
  have xb : Ext w4 (w4.alloc (.cells #[.slice ka4 A.kept.length kc4, .slice ca4 A.cache.length cc4, .int .i64 A.fuse, .slice pa4 A.keep.length pc4, .bool true] 69)) := (Ext.refl _).alloc _
  replace D := Lib.hid (D.out.ext xb); replace bd := Lib.hid (bd.out.ext xb); replace bx := Lib.hid (bx.out.ext xb); replace DA := Lib.hid (DA.out.ext xb)
  replace y := Lib.hid (y.out.trans xb)
  clear xb
  have bA := Lib.hid (Box.new w4 [.slice ka4 A.kept.length kc4, .slice ca4 A.cache.length cc4, .int .i64 A.fuse, .slice pa4 A.keep.length pc4, .bool true] 69)
  obtain ⟨⟨gbA0, gbA1, gbA2, gbA3, gbA4⟩, _⟩ := bA.out.at5
  obtain ⟨⟨gbx0, gbx1, gbx2, gbx3⟩, _⟩ := bx.out.at4
  go_wp2_with fail
  refine (c2.out _ _ DA.out).mono ?_; rintro e w5 ⟨rfl, x5⟩
  clear gbA0 gbA1 gbA2 gbA3 gbA4 gbx0 gbx1 gbx2 gbx3
  replace D := Lib.hid (D.out.ext x5); replace bd := Lib.hid (bd.out.ext x5); replace bx := Lib.hid (bx.out.ext x5); replace DA := Lib.hid (DA.out.ext x5); replace bA := Lib.hid (bA.out.ext x5)
  replace y := Lib.hid (y.out.trans x5)
  clear x5
  obtain ⟨⟨gbA0, gbA1, gbA2, gbA3, gbA4⟩, _⟩ := bA.out.at5
  obtain ⟨⟨gbd0, gbd1, gbd2, gbd3, gbd4⟩, _⟩ := bd.out.at5
  go_wp2_with fail
  go_ret
  exact ⟨rfl, y.out⟩

set_option maxRecDepth 100000 in
set_option maxHeartbeats 8000000 in
theorem deviceWrites_e0a (w : World) (d : Dev.Disk) (v : Value) (x : PutIn) (o : Int) (D : DiskIn w v d) (hx : x.Ok w) (hs : Dev.small d = true) (hm : Dev.may d = true) (hfu : d.fuse ≤ 9223372036854775807) (he : (Dev.write d x.at_ x.text).2 = 0) (hox : o = x.at_) :
    Calls Try.prog 20 #[v, x.val, .int .i64 o] w fun e w' => e = .returned (.bool true) ∧ Ext w w' := by
  obtain ⟨xa, xs, xf, xkv, xk⟩ := x
  have hk0 := Dev.small_keep hs
  have kA := Dev.write_keep d xa xs
  have c1 := fun v w h => write9_any d v xa xs w h hk0 hfu
  have h67 := fun v w h => small9_any d v w h
  have h73 := fun v w h => may_any d v w h
  rw [hs] at h67; rw [hm] at h73
  obtain ⟨⟨A, n⟩, hA⟩ : ∃ p, Dev.write d xa xs = p := ⟨_, rfl⟩
  try dsimp only at *
  rw [hA] at c1 he kA
  dsimp only at he
  subst he
  dsimp only at kA
  obtain ⟨l1, l2, l3, l4, mA, l5, l6⟩ := Dev.write_ok hm hA o
  have hkA : A.keep.length ≤ 1000000 := by omega
  have c2 := fun v w h => read9_any A v xa w h
  have c3 := fun v w h => read9_any d v o w h
  have c4 := fun v w h => read9_any A v o w h
  have c5 := fun v w h => flush9_any A v w h hkA
  obtain ⟨⟨P, pn⟩, hP⟩ : ∃ p, Dev.flush A = p := ⟨_, rfl⟩
  rw [hP] at l4 l5 l6 c5
  dsimp only at l5 l6
  obtain ⟨E, hE⟩ : ∃ p, Dev.die P [] = p := ⟨_, rfl⟩
  obtain ⟨F, hF⟩ : ∃ p, Dev.revive E = p := ⟨_, rfl⟩
  simp only [Prod.mk.injEq] at l4
  obtain ⟨hP2, rfl⟩ := l4
  have hkP : P.keep.length ≤ 1000000 := by rw [hP2]; exact hkA
  have hkE : E.keep.length ≤ 1000000 := by rw [← hE]; unfold Dev.die; split <;> exact Nat.zero_le _
  have c6 := fun v w h => die9_any P v (.slice none 0 0) [] w h (Sl.nil w) hkP
  have c7 := fun v w h => revive9_any E v w h hkE
  rw [hE] at l5 l6 c6
  rw [hF] at l6 c7
  have c8 := fun v w h => read9_any E v xa w h
  have c9 := fun v w h => read9_any F v xa w h
  rw [l1] at c2; rw [l5, show Dev.empty = ⟨#[]⟩ from rfl] at c8; rw [l6] at c9
  obtain ⟨⟨a, g⟩, hg⟩ : ∃ p, Dev.read d o = p := ⟨_, rfl⟩
  obtain ⟨⟨b, g2⟩, hg2⟩ : ∃ p, Dev.read A o = p := ⟨_, rfl⟩
  rw [hg, hg2] at l2 l3
  dsimp only at l2 l3
  subst l2
  rw [hg] at c3; rw [hg2] at c4
  dsimp only at c2 c3 c4 c5 c8 c9
  clear l1 l5 l6 hP hP2 hE hF hg hg2 hkA hkP hkE mA
  have n1 : (xs.toList == xs.toList) = true := beq_self_eq_true _
  have n2 : (g == g) = true := beq_self_eq_true _
  have hox := hox.symm
  subst hox
  have n3 : (xa == xa) = true := beq_self_eq_true _
  clear l3
  clear hA hs hm hfu kA hk0
  replace h67 := Lib.hid h67; replace h73 := Lib.hid h73; replace c1 := Lib.hid c1; replace c2 := Lib.hid c2; replace c3 := Lib.hid c3; replace c4 := Lib.hid c4; replace c5 := Lib.hid c5; replace c6 := Lib.hid c6; replace c7 := Lib.hid c7; replace c8 := Lib.hid c8; replace c9 := Lib.hid c9
  obtain ⟨_, _, hx⟩ := hx
  obtain ⟨xka, xkn, xkc, rfl⟩ := hx.form
  clear hx
  obtain ⟨ka, kc, ca, cc, pa, pc, rfl⟩ := D.form3
  unfold PutIn.val
  dsimp only
  have y : Ext w ((w.alloc (.cells #[.slice ka d.kept.length kc, .slice ca d.cache.length cc, .int .i64 d.fuse, .slice pa d.keep.length pc, .bool d.dead] 69)).alloc (.cells #[.int .i64 xa, .string xs, .int .i64 xf, .slice xka xkn xkc] 79)) := ((Ext.refl w).alloc _).alloc _
  have bd := Lib.hid ((Box.new w [.slice ka d.kept.length kc, .slice ca d.cache.length cc, .int .i64 d.fuse, .slice pa d.keep.length pc, .bool d.dead] 69).alloc (.cells #[.int .i64 xa, .string xs, .int .i64 xf, .slice xka xkn xkc] 79))
  have bx := Lib.hid (Box.new1 w (.cells #[.slice ka d.kept.length kc, .slice ca d.cache.length cc, .int .i64 d.fuse, .slice pa d.keep.length pc, .bool d.dead] 69) [.int .i64 xa, .string xs, .int .i64 xf, .slice xka xkn xkc] 79)
  replace D := Lib.hid (D.ext y); replace y := Lib.hid y
  go_enter Try.func20, Try.ntmps20
  go_wp2_with fail
  refine (fixed09 _).mono ?_; rintro e w1 ⟨rfl, x1⟩
  replace D := Lib.hid (D.out.ext x1); replace bd := Lib.hid (bd.out.ext x1); replace bx := Lib.hid (bx.out.ext x1)
  replace y := Lib.hid (y.out.trans x1)
  clear x1
  obtain ⟨⟨gbd0, gbd1, gbd2, gbd3, gbd4⟩, _⟩ := bd.out.at5
  go_wp2_with fail
  refine (h67.out _ _ D.out).mono ?_; rintro e w2 ⟨rfl, x2⟩
  clear gbd0 gbd1 gbd2 gbd3 gbd4
  replace D := Lib.hid (D.out.ext x2); replace bd := Lib.hid (bd.out.ext x2); replace bx := Lib.hid (bx.out.ext x2)
  replace y := Lib.hid (y.out.trans x2)
  clear x2
  obtain ⟨⟨gbd0, gbd1, gbd2, gbd3, gbd4⟩, _⟩ := bd.out.at5
  go_wp2_with fail
  refine (h73.out _ _ D.out).mono ?_; rintro e w3 ⟨rfl, x3⟩
  clear gbd0 gbd1 gbd2 gbd3 gbd4
  replace D := Lib.hid (D.out.ext x3); replace bd := Lib.hid (bd.out.ext x3); replace bx := Lib.hid (bx.out.ext x3)
  replace y := Lib.hid (y.out.trans x3)
  clear x3
  obtain ⟨⟨gbd0, gbd1, gbd2, gbd3, gbd4⟩, _⟩ := bd.out.at5
  obtain ⟨⟨gbx0, gbx1, gbx2, gbx3⟩, _⟩ := bx.out.at4
  go_wp2_with fail
  refine (c1.out _ _ D.out).mono ?_; rintro e w4 ⟨r4, rfl, DA, x4⟩
  clear gbd0 gbd1 gbd2 gbd3 gbd4 gbx0 gbx1 gbx2 gbx3
  replace D := Lib.hid (D.out.ext x4); replace bd := Lib.hid (bd.out.ext x4); replace bx := Lib.hid (bx.out.ext x4)
  replace y := Lib.hid (y.out.trans x4)
  clear x4
  obtain ⟨ka4, kc4, ca4, cc4, pa4, pc4, rfl⟩ := DA.form3
  replace DA := Lib.hid DA
  have xb : Ext w4 (w4.alloc (.cells #[.slice ka4 A.kept.length kc4, .slice ca4 A.cache.length cc4, .int .i64 A.fuse, .slice pa4 A.keep.length pc4, .bool A.dead] 69)) := (Ext.refl _).alloc _
  replace D := Lib.hid (D.out.ext xb); replace bd := Lib.hid (bd.out.ext xb); replace bx := Lib.hid (bx.out.ext xb); replace DA := Lib.hid (DA.out.ext xb)
  replace y := Lib.hid (y.out.trans xb)
  clear xb
  have bA := Lib.hid (Box.new w4 [.slice ka4 A.kept.length kc4, .slice ca4 A.cache.length cc4, .int .i64 A.fuse, .slice pa4 A.keep.length pc4, .bool A.dead] 69)
  obtain ⟨⟨gbA0, gbA1, gbA2, gbA3, gbA4⟩, _⟩ := bA.out.at5
  obtain ⟨⟨gbx0, gbx1, gbx2, gbx3⟩, _⟩ := bx.out.at4
  go_wp2_with fail
  refine (c2.out _ _ DA.out).mono ?_; rintro e w5 ⟨rfl, x5⟩
  clear gbA0 gbA1 gbA2 gbA3 gbA4 gbx0 gbx1 gbx2 gbx3
  replace D := Lib.hid (D.out.ext x5); replace bd := Lib.hid (bd.out.ext x5); replace bx := Lib.hid (bx.out.ext x5); replace DA := Lib.hid (DA.out.ext x5); replace bA := Lib.hid (bA.out.ext x5)
  replace y := Lib.hid (y.out.trans x5)
  clear x5
  obtain ⟨⟨gbd0, gbd1, gbd2, gbd3, gbd4⟩, _⟩ := bd.out.at5
  go_wp2_with fail
  refine (c3.out _ _ D.out).mono ?_; rintro e w6 ⟨rfl, x6⟩
  clear gbd0 gbd1 gbd2 gbd3 gbd4
  replace D := Lib.hid (D.out.ext x6); replace bd := Lib.hid (bd.out.ext x6); replace bx := Lib.hid (bx.out.ext x6); replace DA := Lib.hid (DA.out.ext x6); replace bA := Lib.hid (bA.out.ext x6)
  replace y := Lib.hid (y.out.trans x6)
  clear x6
  obtain ⟨⟨gbA0, gbA1, gbA2, gbA3, gbA4⟩, _⟩ := bA.out.at5
  go_wp2_with fail
  refine (c4.out _ _ DA.out).mono ?_; rintro e w7 ⟨rfl, x7⟩
  clear gbA0 gbA1 gbA2 gbA3 gbA4
  replace D := Lib.hid (D.out.ext x7); replace bd := Lib.hid (bd.out.ext x7); replace bx := Lib.hid (bx.out.ext x7); replace DA := Lib.hid (DA.out.ext x7); replace bA := Lib.hid (bA.out.ext x7)
  replace y := Lib.hid (y.out.trans x7)
  clear x7
  obtain ⟨⟨gbA0, gbA1, gbA2, gbA3, gbA4⟩, _⟩ := bA.out.at5
  go_wp2_with fail
  refine (c5.out _ _ DA.out).mono ?_; rintro e w8 ⟨r8, rfl, DP, x8⟩
  clear gbA0 gbA1 gbA2 gbA3 gbA4
  replace D := Lib.hid (D.out.ext x8); replace bd := Lib.hid (bd.out.ext x8); replace bx := Lib.hid (bx.out.ext x8); replace DA := Lib.hid (DA.out.ext x8); replace bA := Lib.hid (bA.out.ext x8)
  replace y := Lib.hid (y.out.trans x8)
  clear x8
  obtain ⟨ka8, kc8, ca8, cc8, pa8, pc8, rfl⟩ := DP.form3
  replace DP := Lib.hid DP
  have xb : Ext w8 (w8.alloc (.cells #[.slice ka8 P.kept.length kc8, .slice ca8 P.cache.length cc8, .int .i64 P.fuse, .slice pa8 P.keep.length pc8, .bool P.dead] 69)) := (Ext.refl _).alloc _
  replace D := Lib.hid (D.out.ext xb); replace bd := Lib.hid (bd.out.ext xb); replace bx := Lib.hid (bx.out.ext xb); replace DA := Lib.hid (DA.out.ext xb); replace bA := Lib.hid (bA.out.ext xb); replace DP := Lib.hid (DP.out.ext xb)
  replace y := Lib.hid (y.out.trans xb)
  clear xb
  have bP := Lib.hid (Box.new w8 [.slice ka8 P.kept.length kc8, .slice ca8 P.cache.length cc8, .int .i64 P.fuse, .slice pa8 P.keep.length pc8, .bool P.dead] 69)
  go_wp2_with fail
  refine Soft.region_ext [(1, Soft.disk1 E E.kept.length E.cache.length E.keep.length E.fuse E.dead)] [0, 1, 2, 3, 4, 5, 6, 7, 8, 9] [] (by kernel_rfl) (by kernel_rfl) (Soft.stab_one fun _ _ _ => Soft.disk1_stab) ?_
  (refine Soft.quiet_n rfl rfl rfl rfl (fun K hK => ?_); go_simp; apply Exists.intro; refine ⟨fun wq hq => ?_, hK _ ?_⟩; (obtain ⟨⟨gg0, gg1, gg2, gg3, gg4⟩, _⟩ := (bP.out.ext hq).at5; go_simp; with_reducible rfl); clear hK K)
  refine Soft.loud_step rfl rfl rfl rfl (fun K hK => ?_)
  refine ⟨fun wq hq kq => ?_, fun u ⟨ka91, kc91, ca91, cc91, pa91, pc91, hu⟩ => hK _ ?_⟩
  · go_simp
    refine (c6.out _ _ (DP.out.ext hq)).mono ?_
    rintro e w7 ⟨r, rfl, hD, x7⟩
    obtain ⟨ka2, kc2, ca2, cc2, pa2, pc2, rfl⟩ := hD.form3
    exact ⟨_, rfl, x7, ⟨_, _, _, _, _, _, rfl⟩, hD⟩
  clear hK K
  subst hu
  (refine Soft.pure_n rfl rfl rfl rfl (fun K hK => ?_); go_simp; refine hK _ ?_; clear hK K)
  (refine Soft.quiet_n rfl rfl rfl rfl (fun K hK => ?_); go_simp; apply Exists.intro; refine ⟨fun wq hq => ?_, hK _ ?_⟩; (obtain ⟨⟨gg0, gg1, gg2, gg3⟩, _⟩ := (bx.out.ext hq).at4; go_simp; with_reducible rfl); clear hK K)
  (refine Soft.quiet_k rfl rfl rfl rfl (fun K hK => ?_); go_simp; apply Exists.intro; refine ⟨fun wq hq kq => ?_, hK _ ?_⟩; exact c8.out _ _ (kq.get 1 (by kernel_rfl) rfl rfl); clear hK K)
  repeat (refine Soft.pure_n rfl rfl rfl rfl (fun K hK => ?_); go_simp; refine hK _ ?_; clear hK K)
  refine Soft.ends (by kernel_rfl) (fun w9 x9 _ => ?_)
  replace D := Lib.hid (D.out.ext x9); replace bd := Lib.hid (bd.out.ext x9); replace bx := Lib.hid (bx.out.ext x9); replace DA := Lib.hid (DA.out.ext x9); replace bA := Lib.hid (bA.out.ext x9); replace DP := Lib.hid (DP.out.ext x9); replace bP := Lib.hid (bP.out.ext x9)
  replace y := Lib.hid (y.out.trans x9)
  clear x9
  go_wp2_with fail
  refine Soft.region_ext [(1, Soft.disk1 E E.kept.length E.cache.length E.keep.length E.fuse E.dead), (2, Soft.disk1 F F.kept.length F.cache.length F.keep.length F.fuse F.dead)] [0, 1, 2, 3, 4, 5, 6, 7, 8, 9, 10] [] (by kernel_rfl) (by kernel_rfl) (Soft.stab_more (fun _ _ _ => Soft.disk1_stab) (Soft.stab_one fun _ _ _ => Soft.disk1_stab)) ?_
  (refine Soft.quiet_n rfl rfl rfl rfl (fun K hK => ?_); go_simp; apply Exists.intro; refine ⟨fun wq hq => ?_, hK _ ?_⟩; (obtain ⟨⟨gg0, gg1, gg2, gg3, gg4⟩, _⟩ := (bP.out.ext hq).at5; go_simp; with_reducible rfl); clear hK K)
  refine Soft.loud_step rfl rfl rfl rfl (fun K hK => ?_)
  refine ⟨fun wq hq kq => ?_, fun u ⟨ka92, kc92, ca92, cc92, pa92, pc92, hu⟩ => hK _ ?_⟩
  · go_simp
    refine (c6.out _ _ (DP.out.ext hq)).mono ?_
    rintro e w7 ⟨r, rfl, hD, x7⟩
    obtain ⟨ka2, kc2, ca2, cc2, pa2, pc2, rfl⟩ := hD.form3
    exact ⟨_, rfl, x7, ⟨_, _, _, _, _, _, rfl⟩, hD⟩
  clear hK K
  subst hu
  refine Soft.loud_step rfl rfl rfl rfl (fun K hK => ?_)
  refine ⟨fun wq hq kq => ?_, fun u ⟨ka93, kc93, ca93, cc93, pa93, pc93, hu⟩ => hK _ ?_⟩
  · go_simp
    refine (c7.out _ _ (kq.get 1 (by kernel_rfl) rfl rfl)).mono ?_
    rintro e w7 ⟨r, rfl, hD, x7⟩
    obtain ⟨ka2, kc2, ca2, cc2, pa2, pc2, rfl⟩ := hD.form3
    exact ⟨_, rfl, x7, ⟨_, _, _, _, _, _, rfl⟩, hD⟩
  clear hK K
  subst hu
  (refine Soft.pure_n rfl rfl rfl rfl (fun K hK => ?_); go_simp; refine hK _ ?_; clear hK K)
  (refine Soft.quiet_n rfl rfl rfl rfl (fun K hK => ?_); go_simp; apply Exists.intro; refine ⟨fun wq hq => ?_, hK _ ?_⟩; (obtain ⟨⟨gg0, gg1, gg2, gg3⟩, _⟩ := (bx.out.ext hq).at4; go_simp; with_reducible rfl); clear hK K)
  (refine Soft.quiet_k rfl rfl rfl rfl (fun K hK => ?_); go_simp; apply Exists.intro; refine ⟨fun wq hq kq => ?_, hK _ ?_⟩; exact c9.out _ _ (kq.get 2 (by kernel_rfl) rfl rfl); clear hK K)
  repeat (refine Soft.pure_n rfl rfl rfl rfl (fun K hK => ?_); go_simp; refine hK _ ?_; clear hK K)
  refine Soft.ends (by kernel_rfl) (fun w10 x10 _ => ?_)
  replace D := Lib.hid (D.out.ext x10); replace bd := Lib.hid (bd.out.ext x10); replace bx := Lib.hid (bx.out.ext x10); replace DA := Lib.hid (DA.out.ext x10); replace bA := Lib.hid (bA.out.ext x10); replace DP := Lib.hid (DP.out.ext x10); replace bP := Lib.hid (bP.out.ext x10)
  replace y := Lib.hid (y.out.trans x10)
  clear x10
  obtain ⟨⟨gbx0, gbx1, gbx2, gbx3⟩, _⟩ := bx.out.at4
  go_wp2_with fail
  go_ret
  exact ⟨rfl, y.out⟩

set_option maxRecDepth 100000 in
set_option maxHeartbeats 8000000 in
theorem deviceWrites_e0b (w : World) (d : Dev.Disk) (v : Value) (x : PutIn) (o : Int) (D : DiskIn w v d) (hx : x.Ok w) (hs : Dev.small d = true) (hm : Dev.may d = true) (hfu : d.fuse ≤ 9223372036854775807) (he : (Dev.write d x.at_ x.text).2 = 0) (hox : o ≠ x.at_) :
    Calls Try.prog 20 #[v, x.val, .int .i64 o] w fun e w' => e = .returned (.bool true) ∧ Ext w w' := by
  obtain ⟨xa, xs, xf, xkv, xk⟩ := x
  have hk0 := Dev.small_keep hs
  have kA := Dev.write_keep d xa xs
  have c1 := fun v w h => write9_any d v xa xs w h hk0 hfu
  have h67 := fun v w h => small9_any d v w h
  have h73 := fun v w h => may_any d v w h
  rw [hs] at h67; rw [hm] at h73
  obtain ⟨⟨A, n⟩, hA⟩ : ∃ p, Dev.write d xa xs = p := ⟨_, rfl⟩
  try dsimp only at *
  rw [hA] at c1 he kA
  dsimp only at he
  subst he
  dsimp only at kA
  obtain ⟨l1, l2, l3, l4, mA, l5, l6⟩ := Dev.write_ok hm hA o
  have hkA : A.keep.length ≤ 1000000 := by omega
  have c2 := fun v w h => read9_any A v xa w h
  have c3 := fun v w h => read9_any d v o w h
  have c4 := fun v w h => read9_any A v o w h
  have c5 := fun v w h => flush9_any A v w h hkA
  obtain ⟨⟨P, pn⟩, hP⟩ : ∃ p, Dev.flush A = p := ⟨_, rfl⟩
  rw [hP] at l4 l5 l6 c5
  dsimp only at l5 l6
  obtain ⟨E, hE⟩ : ∃ p, Dev.die P [] = p := ⟨_, rfl⟩
  obtain ⟨F, hF⟩ : ∃ p, Dev.revive E = p := ⟨_, rfl⟩
  simp only [Prod.mk.injEq] at l4
  obtain ⟨hP2, rfl⟩ := l4
  have hkP : P.keep.length ≤ 1000000 := by rw [hP2]; exact hkA
  have hkE : E.keep.length ≤ 1000000 := by rw [← hE]; unfold Dev.die; split <;> exact Nat.zero_le _
  have c6 := fun v w h => die9_any P v (.slice none 0 0) [] w h (Sl.nil w) hkP
  have c7 := fun v w h => revive9_any E v w h hkE
  rw [hE] at l5 l6 c6
  rw [hF] at l6 c7
  have c8 := fun v w h => read9_any E v xa w h
  have c9 := fun v w h => read9_any F v xa w h
  rw [l1] at c2; rw [l5, show Dev.empty = ⟨#[]⟩ from rfl] at c8; rw [l6] at c9
  obtain ⟨⟨a, g⟩, hg⟩ : ∃ p, Dev.read d o = p := ⟨_, rfl⟩
  obtain ⟨⟨b, g2⟩, hg2⟩ : ∃ p, Dev.read A o = p := ⟨_, rfl⟩
  rw [hg, hg2] at l2 l3
  dsimp only at l2 l3
  subst l2
  rw [hg] at c3; rw [hg2] at c4
  dsimp only at c2 c3 c4 c5 c8 c9
  clear l1 l5 l6 hP hP2 hE hF hg hg2 hkA hkP hkE mA
  have n1 : (xs.toList == xs.toList) = true := beq_self_eq_true _
  have n2 : (g == g) = true := beq_self_eq_true _
  have n3 : (o == xa) = false := by simpa using hox
  obtain rfl := l3 hox
  have n4 : (a.toList == a.toList) = true := beq_self_eq_true _
  clear l3 hox
  clear hA hs hm hfu kA hk0
  replace h67 := Lib.hid h67; replace h73 := Lib.hid h73; replace c1 := Lib.hid c1; replace c2 := Lib.hid c2; replace c3 := Lib.hid c3; replace c4 := Lib.hid c4; replace c5 := Lib.hid c5; replace c6 := Lib.hid c6; replace c7 := Lib.hid c7; replace c8 := Lib.hid c8; replace c9 := Lib.hid c9
  obtain ⟨_, _, hx⟩ := hx
  obtain ⟨xka, xkn, xkc, rfl⟩ := hx.form
  clear hx
  obtain ⟨ka, kc, ca, cc, pa, pc, rfl⟩ := D.form3
  unfold PutIn.val
  dsimp only
  have y : Ext w ((w.alloc (.cells #[.slice ka d.kept.length kc, .slice ca d.cache.length cc, .int .i64 d.fuse, .slice pa d.keep.length pc, .bool d.dead] 69)).alloc (.cells #[.int .i64 xa, .string xs, .int .i64 xf, .slice xka xkn xkc] 79)) := ((Ext.refl w).alloc _).alloc _
  have bd := Lib.hid ((Box.new w [.slice ka d.kept.length kc, .slice ca d.cache.length cc, .int .i64 d.fuse, .slice pa d.keep.length pc, .bool d.dead] 69).alloc (.cells #[.int .i64 xa, .string xs, .int .i64 xf, .slice xka xkn xkc] 79))
  have bx := Lib.hid (Box.new1 w (.cells #[.slice ka d.kept.length kc, .slice ca d.cache.length cc, .int .i64 d.fuse, .slice pa d.keep.length pc, .bool d.dead] 69) [.int .i64 xa, .string xs, .int .i64 xf, .slice xka xkn xkc] 79)
  replace D := Lib.hid (D.ext y); replace y := Lib.hid y
  go_enter Try.func20, Try.ntmps20
  go_wp2_with fail
  refine (fixed09 _).mono ?_; rintro e w1 ⟨rfl, x1⟩
  replace D := Lib.hid (D.out.ext x1); replace bd := Lib.hid (bd.out.ext x1); replace bx := Lib.hid (bx.out.ext x1)
  replace y := Lib.hid (y.out.trans x1)
  clear x1
  obtain ⟨⟨gbd0, gbd1, gbd2, gbd3, gbd4⟩, _⟩ := bd.out.at5
  go_wp2_with fail
  refine (h67.out _ _ D.out).mono ?_; rintro e w2 ⟨rfl, x2⟩
  clear gbd0 gbd1 gbd2 gbd3 gbd4
  replace D := Lib.hid (D.out.ext x2); replace bd := Lib.hid (bd.out.ext x2); replace bx := Lib.hid (bx.out.ext x2)
  replace y := Lib.hid (y.out.trans x2)
  clear x2
  obtain ⟨⟨gbd0, gbd1, gbd2, gbd3, gbd4⟩, _⟩ := bd.out.at5
  go_wp2_with fail
  refine (h73.out _ _ D.out).mono ?_; rintro e w3 ⟨rfl, x3⟩
  clear gbd0 gbd1 gbd2 gbd3 gbd4
  replace D := Lib.hid (D.out.ext x3); replace bd := Lib.hid (bd.out.ext x3); replace bx := Lib.hid (bx.out.ext x3)
  replace y := Lib.hid (y.out.trans x3)
  clear x3
  obtain ⟨⟨gbd0, gbd1, gbd2, gbd3, gbd4⟩, _⟩ := bd.out.at5
  obtain ⟨⟨gbx0, gbx1, gbx2, gbx3⟩, _⟩ := bx.out.at4
  go_wp2_with fail
  refine (c1.out _ _ D.out).mono ?_; rintro e w4 ⟨r4, rfl, DA, x4⟩
  clear gbd0 gbd1 gbd2 gbd3 gbd4 gbx0 gbx1 gbx2 gbx3
  replace D := Lib.hid (D.out.ext x4); replace bd := Lib.hid (bd.out.ext x4); replace bx := Lib.hid (bx.out.ext x4)
  replace y := Lib.hid (y.out.trans x4)
  clear x4
  obtain ⟨ka4, kc4, ca4, cc4, pa4, pc4, rfl⟩ := DA.form3
  replace DA := Lib.hid DA
  have xb : Ext w4 (w4.alloc (.cells #[.slice ka4 A.kept.length kc4, .slice ca4 A.cache.length cc4, .int .i64 A.fuse, .slice pa4 A.keep.length pc4, .bool A.dead] 69)) := (Ext.refl _).alloc _
  replace D := Lib.hid (D.out.ext xb); replace bd := Lib.hid (bd.out.ext xb); replace bx := Lib.hid (bx.out.ext xb); replace DA := Lib.hid (DA.out.ext xb)
  replace y := Lib.hid (y.out.trans xb)
  clear xb
  have bA := Lib.hid (Box.new w4 [.slice ka4 A.kept.length kc4, .slice ca4 A.cache.length cc4, .int .i64 A.fuse, .slice pa4 A.keep.length pc4, .bool A.dead] 69)
  obtain ⟨⟨gbA0, gbA1, gbA2, gbA3, gbA4⟩, _⟩ := bA.out.at5
  obtain ⟨⟨gbx0, gbx1, gbx2, gbx3⟩, _⟩ := bx.out.at4
  go_wp2_with fail
  refine (c2.out _ _ DA.out).mono ?_; rintro e w5 ⟨rfl, x5⟩
  clear gbA0 gbA1 gbA2 gbA3 gbA4 gbx0 gbx1 gbx2 gbx3
  replace D := Lib.hid (D.out.ext x5); replace bd := Lib.hid (bd.out.ext x5); replace bx := Lib.hid (bx.out.ext x5); replace DA := Lib.hid (DA.out.ext x5); replace bA := Lib.hid (bA.out.ext x5)
  replace y := Lib.hid (y.out.trans x5)
  clear x5
  obtain ⟨⟨gbd0, gbd1, gbd2, gbd3, gbd4⟩, _⟩ := bd.out.at5
  go_wp2_with fail
  refine (c3.out _ _ D.out).mono ?_; rintro e w6 ⟨rfl, x6⟩
  clear gbd0 gbd1 gbd2 gbd3 gbd4
  replace D := Lib.hid (D.out.ext x6); replace bd := Lib.hid (bd.out.ext x6); replace bx := Lib.hid (bx.out.ext x6); replace DA := Lib.hid (DA.out.ext x6); replace bA := Lib.hid (bA.out.ext x6)
  replace y := Lib.hid (y.out.trans x6)
  clear x6
  obtain ⟨⟨gbA0, gbA1, gbA2, gbA3, gbA4⟩, _⟩ := bA.out.at5
  go_wp2_with fail
  refine (c4.out _ _ DA.out).mono ?_; rintro e w7 ⟨rfl, x7⟩
  clear gbA0 gbA1 gbA2 gbA3 gbA4
  replace D := Lib.hid (D.out.ext x7); replace bd := Lib.hid (bd.out.ext x7); replace bx := Lib.hid (bx.out.ext x7); replace DA := Lib.hid (DA.out.ext x7); replace bA := Lib.hid (bA.out.ext x7)
  replace y := Lib.hid (y.out.trans x7)
  clear x7
  obtain ⟨⟨gbA0, gbA1, gbA2, gbA3, gbA4⟩, _⟩ := bA.out.at5
  go_wp2_with fail
  refine (c5.out _ _ DA.out).mono ?_; rintro e w8 ⟨r8, rfl, DP, x8⟩
  clear gbA0 gbA1 gbA2 gbA3 gbA4
  replace D := Lib.hid (D.out.ext x8); replace bd := Lib.hid (bd.out.ext x8); replace bx := Lib.hid (bx.out.ext x8); replace DA := Lib.hid (DA.out.ext x8); replace bA := Lib.hid (bA.out.ext x8)
  replace y := Lib.hid (y.out.trans x8)
  clear x8
  obtain ⟨ka8, kc8, ca8, cc8, pa8, pc8, rfl⟩ := DP.form3
  replace DP := Lib.hid DP
  have xb : Ext w8 (w8.alloc (.cells #[.slice ka8 P.kept.length kc8, .slice ca8 P.cache.length cc8, .int .i64 P.fuse, .slice pa8 P.keep.length pc8, .bool P.dead] 69)) := (Ext.refl _).alloc _
  replace D := Lib.hid (D.out.ext xb); replace bd := Lib.hid (bd.out.ext xb); replace bx := Lib.hid (bx.out.ext xb); replace DA := Lib.hid (DA.out.ext xb); replace bA := Lib.hid (bA.out.ext xb); replace DP := Lib.hid (DP.out.ext xb)
  replace y := Lib.hid (y.out.trans xb)
  clear xb
  have bP := Lib.hid (Box.new w8 [.slice ka8 P.kept.length kc8, .slice ca8 P.cache.length cc8, .int .i64 P.fuse, .slice pa8 P.keep.length pc8, .bool P.dead] 69)
  go_wp2_with fail
  refine Soft.region_ext [(1, Soft.disk1 E E.kept.length E.cache.length E.keep.length E.fuse E.dead)] [0, 1, 2, 3, 4, 5, 6, 7, 8, 9] [] (by kernel_rfl) (by kernel_rfl) (Soft.stab_one fun _ _ _ => Soft.disk1_stab) ?_
  (refine Soft.quiet_n rfl rfl rfl rfl (fun K hK => ?_); go_simp; apply Exists.intro; refine ⟨fun wq hq => ?_, hK _ ?_⟩; (obtain ⟨⟨gg0, gg1, gg2, gg3, gg4⟩, _⟩ := (bP.out.ext hq).at5; go_simp; with_reducible rfl); clear hK K)
  refine Soft.loud_step rfl rfl rfl rfl (fun K hK => ?_)
  refine ⟨fun wq hq kq => ?_, fun u ⟨ka91, kc91, ca91, cc91, pa91, pc91, hu⟩ => hK _ ?_⟩
  · go_simp
    refine (c6.out _ _ (DP.out.ext hq)).mono ?_
    rintro e w7 ⟨r, rfl, hD, x7⟩
    obtain ⟨ka2, kc2, ca2, cc2, pa2, pc2, rfl⟩ := hD.form3
    exact ⟨_, rfl, x7, ⟨_, _, _, _, _, _, rfl⟩, hD⟩
  clear hK K
  subst hu
  (refine Soft.pure_n rfl rfl rfl rfl (fun K hK => ?_); go_simp; refine hK _ ?_; clear hK K)
  (refine Soft.quiet_n rfl rfl rfl rfl (fun K hK => ?_); go_simp; apply Exists.intro; refine ⟨fun wq hq => ?_, hK _ ?_⟩; (obtain ⟨⟨gg0, gg1, gg2, gg3⟩, _⟩ := (bx.out.ext hq).at4; go_simp; with_reducible rfl); clear hK K)
  (refine Soft.quiet_k rfl rfl rfl rfl (fun K hK => ?_); go_simp; apply Exists.intro; refine ⟨fun wq hq kq => ?_, hK _ ?_⟩; exact c8.out _ _ (kq.get 1 (by kernel_rfl) rfl rfl); clear hK K)
  repeat (refine Soft.pure_n rfl rfl rfl rfl (fun K hK => ?_); go_simp; refine hK _ ?_; clear hK K)
  refine Soft.ends (by kernel_rfl) (fun w9 x9 _ => ?_)
  replace D := Lib.hid (D.out.ext x9); replace bd := Lib.hid (bd.out.ext x9); replace bx := Lib.hid (bx.out.ext x9); replace DA := Lib.hid (DA.out.ext x9); replace bA := Lib.hid (bA.out.ext x9); replace DP := Lib.hid (DP.out.ext x9); replace bP := Lib.hid (bP.out.ext x9)
  replace y := Lib.hid (y.out.trans x9)
  clear x9
  go_wp2_with fail
  refine Soft.region_ext [(1, Soft.disk1 E E.kept.length E.cache.length E.keep.length E.fuse E.dead), (2, Soft.disk1 F F.kept.length F.cache.length F.keep.length F.fuse F.dead)] [0, 1, 2, 3, 4, 5, 6, 7, 8, 9, 10] [] (by kernel_rfl) (by kernel_rfl) (Soft.stab_more (fun _ _ _ => Soft.disk1_stab) (Soft.stab_one fun _ _ _ => Soft.disk1_stab)) ?_
  (refine Soft.quiet_n rfl rfl rfl rfl (fun K hK => ?_); go_simp; apply Exists.intro; refine ⟨fun wq hq => ?_, hK _ ?_⟩; (obtain ⟨⟨gg0, gg1, gg2, gg3, gg4⟩, _⟩ := (bP.out.ext hq).at5; go_simp; with_reducible rfl); clear hK K)
  refine Soft.loud_step rfl rfl rfl rfl (fun K hK => ?_)
  refine ⟨fun wq hq kq => ?_, fun u ⟨ka92, kc92, ca92, cc92, pa92, pc92, hu⟩ => hK _ ?_⟩
  · go_simp
    refine (c6.out _ _ (DP.out.ext hq)).mono ?_
    rintro e w7 ⟨r, rfl, hD, x7⟩
    obtain ⟨ka2, kc2, ca2, cc2, pa2, pc2, rfl⟩ := hD.form3
    exact ⟨_, rfl, x7, ⟨_, _, _, _, _, _, rfl⟩, hD⟩
  clear hK K
  subst hu
  refine Soft.loud_step rfl rfl rfl rfl (fun K hK => ?_)
  refine ⟨fun wq hq kq => ?_, fun u ⟨ka93, kc93, ca93, cc93, pa93, pc93, hu⟩ => hK _ ?_⟩
  · go_simp
    refine (c7.out _ _ (kq.get 1 (by kernel_rfl) rfl rfl)).mono ?_
    rintro e w7 ⟨r, rfl, hD, x7⟩
    obtain ⟨ka2, kc2, ca2, cc2, pa2, pc2, rfl⟩ := hD.form3
    exact ⟨_, rfl, x7, ⟨_, _, _, _, _, _, rfl⟩, hD⟩
  clear hK K
  subst hu
  (refine Soft.pure_n rfl rfl rfl rfl (fun K hK => ?_); go_simp; refine hK _ ?_; clear hK K)
  (refine Soft.quiet_n rfl rfl rfl rfl (fun K hK => ?_); go_simp; apply Exists.intro; refine ⟨fun wq hq => ?_, hK _ ?_⟩; (obtain ⟨⟨gg0, gg1, gg2, gg3⟩, _⟩ := (bx.out.ext hq).at4; go_simp; with_reducible rfl); clear hK K)
  (refine Soft.quiet_k rfl rfl rfl rfl (fun K hK => ?_); go_simp; apply Exists.intro; refine ⟨fun wq hq kq => ?_, hK _ ?_⟩; exact c9.out _ _ (kq.get 2 (by kernel_rfl) rfl rfl); clear hK K)
  repeat (refine Soft.pure_n rfl rfl rfl rfl (fun K hK => ?_); go_simp; refine hK _ ?_; clear hK K)
  refine Soft.ends (by kernel_rfl) (fun w10 x10 _ => ?_)
  replace D := Lib.hid (D.out.ext x10); replace bd := Lib.hid (bd.out.ext x10); replace bx := Lib.hid (bx.out.ext x10); replace DA := Lib.hid (DA.out.ext x10); replace bA := Lib.hid (bA.out.ext x10); replace DP := Lib.hid (DP.out.ext x10); replace bP := Lib.hid (bP.out.ext x10)
  replace y := Lib.hid (y.out.trans x10)
  clear x10
  obtain ⟨⟨gbx0, gbx1, gbx2, gbx3⟩, _⟩ := bx.out.at4
  go_wp2_with fail
  go_ret
  exact ⟨rfl, y.out⟩

theorem deviceWrites_walk (w : World) (d : Dev.Disk) (v : Value) (x : PutIn) (o : Int) (hD : DiskIn w v d ∧ d.fuse ≤ 9223372036854775807) (hx : x.Ok w) (_ho : In64 o) :
    Calls Try.prog 20 #[v, x.val, .int .i64 o] w fun e w' => e = .returned (.bool true) ∧ Ext w w' := by
  obtain ⟨D, hfu⟩ := hD
  cases hs : Dev.small d with
  | false => exact deviceWrites_no0 w d v x o D hx hs
  | true =>
    cases hm : Dev.may d with
    | false => exact deviceWrites_no1 w d v x o D hx hs hm
    | true =>
      rcases Dev.write_errno d x.at_ x.text with he | he | he
      · by_cases hox : o = x.at_
        · exact deviceWrites_e0a w d v x o D hx hs hm hfu he hox
        · exact deviceWrites_e0b w d v x o D hx hs hm hfu he hox
      · exact deviceWrites_e1 w d v x o D hx hs hm hfu he
      · exact deviceWrites_e90 w d v x o D hx hs hm hfu he
end Go.Proofs.Ytehidhcpdiameaa
