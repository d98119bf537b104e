/- The statement DeviceApart: the law's own walk. (Printed by wip/devapart.py.) -/
import Derived.Test.YtehidhcpdiameaaDevLaw
namespace Go.Proofs.Ytehidhcpdiameaa
open Go.RowKit

set_option maxRecDepth 100000 in
set_option maxHeartbeats 8000000 in
theorem deviceApart_no0 (w : World) (v : Value) (d : Dev.Disk) (D : DiskIn w v d) (x y : PutIn) (hx : x.Ok w) (hy : y.Ok w) (hs : Dev.small d = false) :
    Calls Try.prog 22 #[v, x.val, y.val] w fun e w' => e = .returned (.bool true) ∧ Ext w w' := by
  have h67 := fun v w h => small9_any d v w h
  have h74 := fun v w h => refMay_any d v w h
  rw [hs] at h67
  replace h67 := Lib.hid h67; replace h74 := Lib.hid h74
  obtain ⟨xa, xs, xf, xkv, xk⟩ := x
  obtain ⟨ya, ys, yf, ykv, yk⟩ := y
  obtain ⟨_, _, hx⟩ := hx
  obtain ⟨_, _, hy⟩ := hy
  obtain ⟨xka, xkn, xkc, rfl⟩ := hx.form
  obtain ⟨yka, ykn, ykc, rfl⟩ := hy.form
  clear hx hy
  obtain ⟨ka, kc, ca, cc, pa, pc, rfl⟩ := D.form3
  unfold PutIn.val
  dsimp only at *
  have y : Ext w (((w.alloc (.cells #[.slice ka d.kept.length kc, .slice ca d.cache.length cc, .int .i64 d.fuse, .slice pa d.keep.length pc, .bool d.dead] 69)).alloc (.cells #[.int .i64 xa, .string xs, .int .i64 xf, .slice xka xkn xkc] 79)).alloc (.cells #[.int .i64 ya, .string ys, .int .i64 yf, .slice yka ykn ykc] 79)) := (((Ext.refl w).alloc _).alloc _).alloc _
  have bd := Lib.hid (((Box.new w [.slice ka d.kept.length kc, .slice ca d.cache.length cc, .int .i64 d.fuse, .slice pa d.keep.length pc, .bool d.dead] 69).alloc (.cells #[.int .i64 xa, .string xs, .int .i64 xf, .slice xka xkn xkc] 79)).alloc (.cells #[.int .i64 ya, .string ys, .int .i64 yf, .slice yka ykn ykc] 79))
  have bx := Lib.hid ((Box.new1 w (.cells #[.slice ka d.kept.length kc, .slice ca d.cache.length cc, .int .i64 d.fuse, .slice pa d.keep.length pc, .bool d.dead] 69) [.int .i64 xa, .string xs, .int .i64 xf, .slice xka xkn xkc] 79).alloc (.cells #[.int .i64 ya, .string ys, .int .i64 yf, .slice yka ykn ykc] 79))
  have by_ := Lib.hid (Box.new2 w (.cells #[.slice ka d.kept.length kc, .slice ca d.cache.length cc, .int .i64 d.fuse, .slice pa d.keep.length pc, .bool d.dead] 69) (.cells #[.int .i64 xa, .string xs, .int .i64 xf, .slice xka xkn xkc] 79) [.int .i64 ya, .string ys, .int .i64 yf, .slice yka ykn ykc] 79)
  replace D := Lib.hid (D.ext y); replace y := Lib.hid y
  go_enter Try.func22, Try.ntmps22
  go_wp2_with fail
  refine (fixed09 _).mono ?_; rintro e w1 ⟨rfl, x1⟩
  replace D := Lib.hid (D.out.ext x1); replace bd := Lib.hid (bd.out.ext x1); replace bx := Lib.hid (bx.out.ext x1); replace by_ := Lib.hid (by_.out.ext x1)
  replace y := Lib.hid (y.out.trans x1)
  clear x1
  obtain ⟨⟨gbd0, gbd1, gbd2, gbd3, gbd4⟩, _⟩ := bd.out.at5
  go_wp2_with fail
  refine (h67.out _ _ D.out).mono ?_; rintro e w2 ⟨rfl, x2⟩
  clear gbd0 gbd1 gbd2 gbd3 gbd4
  replace D := Lib.hid (D.out.ext x2); replace bd := Lib.hid (bd.out.ext x2); replace bx := Lib.hid (bx.out.ext x2); replace by_ := Lib.hid (by_.out.ext x2)
  replace y := Lib.hid (y.out.trans x2)
  clear x2
  obtain ⟨⟨gbd0, gbd1, gbd2, gbd3, gbd4⟩, _⟩ := bd.out.at5
  obtain ⟨⟨gbx0, gbx1, gbx2, gbx3⟩, _⟩ := bx.out.at4
  obtain ⟨⟨gby_0, gby_1, gby_2, gby_3⟩, _⟩ := by_.out.at4
  go_wp2_with fail
  refine (fixed09 _).mono ?_; rintro e w3 ⟨rfl, x3⟩
  clear gbd0 gbd1 gbd2 gbd3 gbd4 gbx0 gbx1 gbx2 gbx3 gby_0 gby_1 gby_2 gby_3
  replace D := Lib.hid (D.out.ext x3); replace bd := Lib.hid (bd.out.ext x3); replace bx := Lib.hid (bx.out.ext x3); replace by_ := Lib.hid (by_.out.ext x3)
  replace y := Lib.hid (y.out.trans x3)
  clear x3
  go_wp2_with fail
  go_ret
  exact ⟨rfl, y.out⟩

set_option maxRecDepth 100000 in
set_option maxHeartbeats 8000000 in
theorem deviceApart_no1 (w : World) (v : Value) (d : Dev.Disk) (D : DiskIn w v d) (x y : PutIn) (hx : x.Ok w) (hy : y.Ok w) (hs : Dev.small d = true) (hm : Dev.may d = false) :
    Calls Try.prog 22 #[v, x.val, y.val] w fun e w' => e = .returned (.bool true) ∧ Ext w w' := by
  have h67 := fun v w h => small9_any d v w h
  have h74 := fun v w h => refMay_any d v w h
  rw [hs] at h67
  rw [hm] at h74
  replace h67 := Lib.hid h67; replace h74 := Lib.hid h74
  obtain ⟨xa, xs, xf, xkv, xk⟩ := x
  obtain ⟨ya, ys, yf, ykv, yk⟩ := y
  obtain ⟨_, _, hx⟩ := hx
  obtain ⟨_, _, hy⟩ := hy
  obtain ⟨xka, xkn, xkc, rfl⟩ := hx.form
  obtain ⟨yka, ykn, ykc, rfl⟩ := hy.form
  clear hx hy
  obtain ⟨ka, kc, ca, cc, pa, pc, rfl⟩ := D.form3
  unfold PutIn.val
  dsimp only at *
  have y : Ext w (((w.alloc (.cells #[.slice ka d.kept.length kc, .slice ca d.cache.length cc, .int .i64 d.fuse, .slice pa d.keep.length pc, .bool d.dead] 69)).alloc (.cells #[.int .i64 xa, .string xs, .int .i64 xf, .slice xka xkn xkc] 79)).alloc (.cells #[.int .i64 ya, .string ys, .int .i64 yf, .slice yka ykn ykc] 79)) := (((Ext.refl w).alloc _).alloc _).alloc _
  have bd := Lib.hid (((Box.new w [.slice ka d.kept.length kc, .slice ca d.cache.length cc, .int .i64 d.fuse, .slice pa d.keep.length pc, .bool d.dead] 69).alloc (.cells #[.int .i64 xa, .string xs, .int .i64 xf, .slice xka xkn xkc] 79)).alloc (.cells #[.int .i64 ya, .string ys, .int .i64 yf, .slice yka ykn ykc] 79))
  have bx := Lib.hid ((Box.new1 w (.cells #[.slice ka d.kept.length kc, .slice ca d.cache.length cc, .int .i64 d.fuse, .slice pa d.keep.length pc, .bool d.dead] 69) [.int .i64 xa, .string xs, .int .i64 xf, .slice xka xkn xkc] 79).alloc (.cells #[.int .i64 ya, .string ys, .int .i64 yf, .slice yka ykn ykc] 79))
  have by_ := Lib.hid (Box.new2 w (.cells #[.slice ka d.kept.length kc, .slice ca d.cache.length cc, .int .i64 d.fuse, .slice pa d.keep.length pc, .bool d.dead] 69) (.cells #[.int .i64 xa, .string xs, .int .i64 xf, .slice xka xkn xkc] 79) [.int .i64 ya, .string ys, .int .i64 yf, .slice yka ykn ykc] 79)
  replace D := Lib.hid (D.ext y); replace y := Lib.hid y
  go_enter Try.func22, Try.ntmps22
  go_wp2_with fail
  refine (fixed09 _).mono ?_; rintro e w1 ⟨rfl, x1⟩
  replace D := Lib.hid (D.out.ext x1); replace bd := Lib.hid (bd.out.ext x1); replace bx := Lib.hid (bx.out.ext x1); replace by_ := Lib.hid (by_.out.ext x1)
  replace y := Lib.hid (y.out.trans x1)
  clear x1
  obtain ⟨⟨gbd0, gbd1, gbd2, gbd3, gbd4⟩, _⟩ := bd.out.at5
  go_wp2_with fail
  refine (h67.out _ _ D.out).mono ?_; rintro e w2 ⟨rfl, x2⟩
  clear gbd0 gbd1 gbd2 gbd3 gbd4
  replace D := Lib.hid (D.out.ext x2); replace bd := Lib.hid (bd.out.ext x2); replace bx := Lib.hid (bx.out.ext x2); replace by_ := Lib.hid (by_.out.ext x2)
  replace y := Lib.hid (y.out.trans x2)
  clear x2
  obtain ⟨⟨gbd0, gbd1, gbd2, gbd3, gbd4⟩, _⟩ := bd.out.at5
  go_wp2_with fail
  refine (h74.out _ _ D.out).mono ?_; rintro e w3 ⟨rfl, x3⟩
  clear gbd0 gbd1 gbd2 gbd3 gbd4
  replace D := Lib.hid (D.out.ext x3); replace bd := Lib.hid (bd.out.ext x3); replace bx := Lib.hid (bx.out.ext x3); replace by_ := Lib.hid (by_.out.ext x3)
  replace y := Lib.hid (y.out.trans x3)
  clear x3
  obtain ⟨⟨gbd0, gbd1, gbd2, gbd3, gbd4⟩, _⟩ := bd.out.at5
  obtain ⟨⟨gbx0, gbx1, gbx2, gbx3⟩, _⟩ := bx.out.at4
  obtain ⟨⟨gby_0, gby_1, gby_2, gby_3⟩, _⟩ := by_.out.at4
  go_wp2_with fail
  refine (fixed09 _).mono ?_; rintro e w4 ⟨rfl, x4⟩
  clear gbd0 gbd1 gbd2 gbd3 gbd4 gbx0 gbx1 gbx2 gbx3 gby_0 gby_1 gby_2 gby_3
  replace D := Lib.hid (D.out.ext x4); replace bd := Lib.hid (bd.out.ext x4); replace bx := Lib.hid (bx.out.ext x4); replace by_ := Lib.hid (by_.out.ext x4)
  replace y := Lib.hid (y.out.trans x4)
  clear x4
  go_wp2_with fail
  go_ret
  exact ⟨rfl, y.out⟩

set_option maxRecDepth 100000 in
set_option maxHeartbeats 8000000 in
theorem deviceApart_no2 (w : World) (v : Value) (d : Dev.Disk) (D : DiskIn w v d) (x y : PutIn) (hx : x.Ok w) (hy : y.Ok w) (hs : Dev.small d = true) (hm : Dev.may d = true) (hd : d.dead = true) :
    Calls Try.prog 22 #[v, x.val, y.val] w fun e w' => e = .returned (.bool true) ∧ Ext w w' := by
  have h67 := fun v w h => small9_any d v w h
  have h74 := fun v w h => refMay_any d v w h
  rw [hs] at h67
  rw [hm] at h74
  replace h67 := Lib.hid h67; replace h74 := Lib.hid h74
  obtain ⟨xa, xs, xf, xkv, xk⟩ := x
  obtain ⟨ya, ys, yf, ykv, yk⟩ := y
  obtain ⟨_, _, hx⟩ := hx
  obtain ⟨_, _, hy⟩ := hy
  obtain ⟨xka, xkn, xkc, rfl⟩ := hx.form
  obtain ⟨yka, ykn, ykc, rfl⟩ := hy.form
  clear hx hy
  obtain ⟨ka, kc, ca, cc, pa, pc, rfl⟩ := D.form3
  rw [hd] at D ⊢
  clear hd
  unfold PutIn.val
  dsimp only at *
  have y : Ext w (((w.alloc (.cells #[.slice ka d.kept.length kc, .slice ca d.cache.length cc, .int .i64 d.fuse, .slice pa d.keep.length pc, .bool true] 69)).alloc (.cells #[.int .i64 xa, .string xs, .int .i64 xf, .slice xka xkn xkc] 79)).alloc (.cells #[.int .i64 ya, .string ys, .int .i64 yf, .slice yka ykn ykc] 79)) := (((Ext.refl w).alloc _).alloc _).alloc _
  have bd := Lib.hid (((Box.new w [.slice ka d.kept.length kc, .slice ca d.cache.length cc, .int .i64 d.fuse, .slice pa d.keep.length pc, .bool true] 69).alloc (.cells #[.int .i64 xa, .string xs, .int .i64 xf, .slice xka xkn xkc] 79)).alloc (.cells #[.int .i64 ya, .string ys, .int .i64 yf, .slice yka ykn ykc] 79))
  have bx := Lib.hid ((Box.new1 w (.cells #[.slice ka d.kept.length kc, .slice ca d.cache.length cc, .int .i64 d.fuse, .slice pa d.keep.length pc, .bool true] 69) [.int .i64 xa, .string xs, .int .i64 xf, .slice xka xkn xkc] 79).alloc (.cells #[.int .i64 ya, .string ys, .int .i64 yf, .slice yka ykn ykc] 79))
  have by_ := Lib.hid (Box.new2 w (.cells #[.slice ka d.kept.length kc, .slice ca d.cache.length cc, .int .i64 d.fuse, .slice pa d.keep.length pc, .bool true] 69) (.cells #[.int .i64 xa, .string xs, .int .i64 xf, .slice xka xkn xkc] 79) [.int .i64 ya, .string ys, .int .i64 yf, .slice yka ykn ykc] 79)
  replace D := Lib.hid (D.ext y); replace y := Lib.hid y
  go_enter Try.func22, Try.ntmps22
  go_wp2_with fail
  refine (fixed09 _).mono ?_; rintro e w1 ⟨rfl, x1⟩
  replace D := Lib.hid (D.out.ext x1); replace bd := Lib.hid (bd.out.ext x1); replace bx := Lib.hid (bx.out.ext x1); replace by_ := Lib.hid (by_.out.ext x1)
  replace y := Lib.hid (y.out.trans x1)
  clear x1
  obtain ⟨⟨gbd0, gbd1, gbd2, gbd3, gbd4⟩, _⟩ := bd.out.at5
  go_wp2_with fail
  refine (h67.out _ _ D.out).mono ?_; rintro e w2 ⟨rfl, x2⟩
  clear gbd0 gbd1 gbd2 gbd3 gbd4
  replace D := Lib.hid (D.out.ext x2); replace bd := Lib.hid (bd.out.ext x2); replace bx := Lib.hid (bx.out.ext x2); replace by_ := Lib.hid (by_.out.ext x2)
  replace y := Lib.hid (y.out.trans x2)
  clear x2
  obtain ⟨⟨gbd0, gbd1, gbd2, gbd3, gbd4⟩, _⟩ := bd.out.at5
  go_wp2_with fail
  refine (h74.out _ _ D.out).mono ?_; rintro e w3 ⟨rfl, x3⟩
  clear gbd0 gbd1 gbd2 gbd3 gbd4
  replace D := Lib.hid (D.out.ext x3); replace bd := Lib.hid (bd.out.ext x3); replace bx := Lib.hid (bx.out.ext x3); replace by_ := Lib.hid (by_.out.ext x3)
  replace y := Lib.hid (y.out.trans x3)
  clear x3
  obtain ⟨⟨gbd0, gbd1, gbd2, gbd3, gbd4⟩, _⟩ := bd.out.at5
  obtain ⟨⟨gbx0, gbx1, gbx2, gbx3⟩, _⟩ := bx.out.at4
  obtain ⟨⟨gby_0, gby_1, gby_2, gby_3⟩, _⟩ := by_.out.at4
  go_wp2_with fail
  refine (fixed09 _).mono ?_; rintro e w4 ⟨rfl, x4⟩
  clear gbd0 gbd1 gbd2 gbd3 gbd4 gbx0 gbx1 gbx2 gbx3 gby_0 gby_1 gby_2 gby_3
  replace D := Lib.hid (D.out.ext x4); replace bd := Lib.hid (bd.out.ext x4); replace bx := Lib.hid (bx.out.ext x4); replace by_ := Lib.hid (by_.out.ext x4)
  replace y := Lib.hid (y.out.trans x4)
  clear x4
  go_wp2_with fail
  go_ret
  exact ⟨rfl, y.out⟩

set_option maxRecDepth 100000 in
set_option maxHeartbeats 8000000 in
theorem deviceApart_no3 (w : World) (v : Value) (d : Dev.Disk) (D : DiskIn w v d) (x y : PutIn) (hx : x.Ok w) (hy : y.Ok w) (hs : Dev.small d = true) (hm : Dev.may d = true) (hd : d.dead = false) (hf : ¬ (d.fuse < 0)) :
    Calls Try.prog 22 #[v, x.val, y.val] w fun e w' => e = .returned (.bool true) ∧ Ext w w' := by
  have h67 := fun v w h => small9_any d v w h
  have h74 := fun v w h => refMay_any d v w h
  rw [hs] at h67
  rw [hm] at h74
  have hf1 : decide (d.fuse ≥ 0) = true := by simp; omega
  replace h67 := Lib.hid h67; replace h74 := Lib.hid h74
  obtain ⟨xa, xs, xf, xkv, xk⟩ := x
  obtain ⟨ya, ys, yf, ykv, yk⟩ := y
  obtain ⟨_, _, hx⟩ := hx
  obtain ⟨_, _, hy⟩ := hy
  obtain ⟨xka, xkn, xkc, rfl⟩ := hx.form
  obtain ⟨yka, ykn, ykc, rfl⟩ := hy.form
  clear hx hy
  obtain ⟨ka, kc, ca, cc, pa, pc, rfl⟩ := D.form3
  rw [hd] at D ⊢
  clear hd
  unfold PutIn.val
  dsimp only at *
  have y : Ext w (((w.alloc (.cells #[.slice ka d.kept.length kc, .slice ca d.cache.length cc, .int .i64 d.fuse, .slice pa d.keep.length pc, .bool false] 69)).alloc (.cells #[.int .i64 xa, .string xs, .int .i64 xf, .slice xka xkn xkc] 79)).alloc (.cells #[.int .i64 ya, .string ys, .int .i64 yf, .slice yka ykn ykc] 79)) := (((Ext.refl w).alloc _).alloc _).alloc _
  have bd := Lib.hid (((Box.new w [.slice ka d.kept.length kc, .slice ca d.cache.length cc, .int .i64 d.fuse, .slice pa d.keep.length pc, .bool false] 69).alloc (.cells #[.int .i64 xa, .string xs, .int .i64 xf, .slice xka xkn xkc] 79)).alloc (.cells #[.int .i64 ya, .string ys, .int .i64 yf, .slice yka ykn ykc] 79))
  have bx := Lib.hid ((Box.new1 w (.cells #[.slice ka d.kept.length kc, .slice ca d.cache.length cc, .int .i64 d.fuse, .slice pa d.keep.length pc, .bool false] 69) [.int .i64 xa, .string xs, .int .i64 xf, .slice xka xkn xkc] 79).alloc (.cells #[.int .i64 ya, .string ys, .int .i64 yf, .slice yka ykn ykc] 79))
  have by_ := Lib.hid (Box.new2 w (.cells #[.slice ka d.kept.length kc, .slice ca d.cache.length cc, .int .i64 d.fuse, .slice pa d.keep.length pc, .bool false] 69) (.cells #[.int .i64 xa, .string xs, .int .i64 xf, .slice xka xkn xkc] 79) [.int .i64 ya, .string ys, .int .i64 yf, .slice yka ykn ykc] 79)
  replace D := Lib.hid (D.ext y); replace y := Lib.hid y
  go_enter Try.func22, Try.ntmps22
  go_wp2_with fail
  refine (fixed09 _).mono ?_; rintro e w1 ⟨rfl, x1⟩
  replace D := Lib.hid (D.out.ext x1); replace bd := Lib.hid (bd.out.ext x1); replace bx := Lib.hid (bx.out.ext x1); replace by_ := Lib.hid (by_.out.ext x1)
  replace y := Lib.hid (y.out.trans x1)
  clear x1
  obtain ⟨⟨gbd0, gbd1, gbd2, gbd3, gbd4⟩, _⟩ := bd.out.at5
  go_wp2_with fail
  refine (h67.out _ _ D.out).mono ?_; rintro e w2 ⟨rfl, x2⟩
  clear gbd0 gbd1 gbd2 gbd3 gbd4
  replace D := Lib.hid (D.out.ext x2); replace bd := Lib.hid (bd.out.ext x2); replace bx := Lib.hid (bx.out.ext x2); replace by_ := Lib.hid (by_.out.ext x2)
  replace y := Lib.hid (y.out.trans x2)
  clear x2
  obtain ⟨⟨gbd0, gbd1, gbd2, gbd3, gbd4⟩, _⟩ := bd.out.at5
  go_wp2_with fail
  refine (h74.out _ _ D.out).mono ?_; rintro e w3 ⟨rfl, x3⟩
  clear gbd0 gbd1 gbd2 gbd3 gbd4
  replace D := Lib.hid (D.out.ext x3); replace bd := Lib.hid (bd.out.ext x3); replace bx := Lib.hid (bx.out.ext x3); replace by_ := Lib.hid (by_.out.ext x3)
  replace y := Lib.hid (y.out.trans x3)
  clear x3
  obtain ⟨⟨gbd0, gbd1, gbd2, gbd3, gbd4⟩, _⟩ := bd.out.at5
  obtain ⟨⟨gbx0, gbx1, gbx2, gbx3⟩, _⟩ := bx.out.at4
  obtain ⟨⟨gby_0, gby_1, gby_2, gby_3⟩, _⟩ := by_.out.at4
  go_wp2_with fail
  refine (fixed09 _).mono ?_; rintro e w4 ⟨rfl, x4⟩
  clear gbd0 gbd1 gbd2 gbd3 gbd4 gbx0 gbx1 gbx2 gbx3 gby_0 gby_1 gby_2 gby_3
  replace D := Lib.hid (D.out.ext x4); replace bd := Lib.hid (bd.out.ext x4); replace bx := Lib.hid (bx.out.ext x4); replace by_ := Lib.hid (by_.out.ext x4)
  replace y := Lib.hid (y.out.trans x4)
  clear x4
  go_wp2_with fail
  go_ret
  exact ⟨rfl, y.out⟩

set_option maxRecDepth 100000 in
set_option maxHeartbeats 8000000 in
theorem deviceApart_no4 (w : World) (v : Value) (d : Dev.Disk) (D : DiskIn w v d) (x y : PutIn) (hx : x.Ok w) (hy : y.Ok w) (hs : Dev.small d = true) (hm : Dev.may d = true) (hd : d.dead = false) (hf :  (d.fuse < 0)) (hxy : ¬ (x.at_ ≠ y.at_)) :
    Calls Try.prog 22 #[v, x.val, y.val] w fun e w' => e = .returned (.bool true) ∧ Ext w w' := by
  have h67 := fun v w h => small9_any d v w h
  have h74 := fun v w h => refMay_any d v w h
  rw [hs] at h67
  rw [hm] at h74
  have hf1 : decide (d.fuse ≥ 0) = false := by simp; omega
  have hq : (x.at_ == y.at_) = true := by simp; omega
  replace h67 := Lib.hid h67; replace h74 := Lib.hid h74
  obtain ⟨xa, xs, xf, xkv, xk⟩ := x
  obtain ⟨ya, ys, yf, ykv, yk⟩ := y
  obtain ⟨_, _, hx⟩ := hx
  obtain ⟨_, _, hy⟩ := hy
  obtain ⟨xka, xkn, xkc, rfl⟩ := hx.form
  obtain ⟨yka, ykn, ykc, rfl⟩ := hy.form
  clear hx hy
  obtain ⟨ka, kc, ca, cc, pa, pc, rfl⟩ := D.form3
  rw [hd] at D ⊢
  clear hd
  unfold PutIn.val
  dsimp only at *
  have y : Ext w (((w.alloc (.cells #[.slice ka d.kept.length kc, .slice ca d.cache.length cc, .int .i64 d.fuse, .slice pa d.keep.length pc, .bool false] 69)).alloc (.cells #[.int .i64 xa, .string xs, .int .i64 xf, .slice xka xkn xkc] 79)).alloc (.cells #[.int .i64 ya, .string ys, .int .i64 yf, .slice yka ykn ykc] 79)) := (((Ext.refl w).alloc _).alloc _).alloc _
  have bd := Lib.hid (((Box.new w [.slice ka d.kept.length kc, .slice ca d.cache.length cc, .int .i64 d.fuse, .slice pa d.keep.length pc, .bool false] 69).alloc (.cells #[.int .i64 xa, .string xs, .int .i64 xf, .slice xka xkn xkc] 79)).alloc (.cells #[.int .i64 ya, .string ys, .int .i64 yf, .slice yka ykn ykc] 79))
  have bx := Lib.hid ((Box.new1 w (.cells #[.slice ka d.kept.length kc, .slice ca d.cache.length cc, .int .i64 d.fuse, .slice pa d.keep.length pc, .bool false] 69) [.int .i64 xa, .string xs, .int .i64 xf, .slice xka xkn xkc] 79).alloc (.cells #[.int .i64 ya, .string ys, .int .i64 yf, .slice yka ykn ykc] 79))
  have by_ := Lib.hid (Box.new2 w (.cells #[.slice ka d.kept.length kc, .slice ca d.cache.length cc, .int .i64 d.fuse, .slice pa d.keep.length pc, .bool false] 69) (.cells #[.int .i64 xa, .string xs, .int .i64 xf, .slice xka xkn xkc] 79) [.int .i64 ya, .string ys, .int .i64 yf, .slice yka ykn ykc] 79)
  replace D := Lib.hid (D.ext y); replace y := Lib.hid y
  go_enter Try.func22, Try.ntmps22
  go_wp2_with fail
  refine (fixed09 _).mono ?_; rintro e w1 ⟨rfl, x1⟩
  replace D := Lib.hid (D.out.ext x1); replace bd := Lib.hid (bd.out.ext x1); replace bx := Lib.hid (bx.out.ext x1); replace by_ := Lib.hid (by_.out.ext x1)
  replace y := Lib.hid (y.out.trans x1)
  clear x1
  obtain ⟨⟨gbd0, gbd1, gbd2, gbd3, gbd4⟩, _⟩ := bd.out.at5
  go_wp2_with fail
  refine (h67.out _ _ D.out).mono ?_; rintro e w2 ⟨rfl, x2⟩
  clear gbd0 gbd1 gbd2 gbd3 gbd4
  replace D := Lib.hid (D.out.ext x2); replace bd := Lib.hid (bd.out.ext x2); replace bx := Lib.hid (bx.out.ext x2); replace by_ := Lib.hid (by_.out.ext x2)
  replace y := Lib.hid (y.out.trans x2)
  clear x2
  obtain ⟨⟨gbd0, gbd1, gbd2, gbd3, gbd4⟩, _⟩ := bd.out.at5
  go_wp2_with fail
  refine (h74.out _ _ D.out).mono ?_; rintro e w3 ⟨rfl, x3⟩
  clear gbd0 gbd1 gbd2 gbd3 gbd4
  replace D := Lib.hid (D.out.ext x3); replace bd := Lib.hid (bd.out.ext x3); replace bx := Lib.hid (bx.out.ext x3); replace by_ := Lib.hid (by_.out.ext x3)
  replace y := Lib.hid (y.out.trans x3)
  clear x3
  obtain ⟨⟨gbd0, gbd1, gbd2, gbd3, gbd4⟩, _⟩ := bd.out.at5
  obtain ⟨⟨gbx0, gbx1, gbx2, gbx3⟩, _⟩ := bx.out.at4
  obtain ⟨⟨gby_0, gby_1, gby_2, gby_3⟩, _⟩ := by_.out.at4
  go_wp2_with fail
  refine (fixed09 _).mono ?_; rintro e w4 ⟨rfl, x4⟩
  clear gbd0 gbd1 gbd2 gbd3 gbd4 gbx0 gbx1 gbx2 gbx3 gby_0 gby_1 gby_2 gby_3
  replace D := Lib.hid (D.out.ext x4); replace bd := Lib.hid (bd.out.ext x4); replace bx := Lib.hid (bx.out.ext x4); replace by_ := Lib.hid (by_.out.ext x4)
  replace y := Lib.hid (y.out.trans x4)
  clear x4
  go_wp2_with fail
  go_ret
  exact ⟨rfl, y.out⟩

end Go.Proofs.Ytehidhcpdiameaa
