/- The statement DeviceTells: the law's own walk. (Printed by wip/devtells.py.) -/
import Derived.Test.YtehidhcpdiameaaDevLaw
namespace Go.Proofs.Ytehidhcpdiameaa
open Go.RowKit

set_option maxRecDepth 100000 in
set_option maxHeartbeats 16000000 in
theorem deviceTells_no0 (w : World) (d : Dev.Disk) (v : Value) (x : PutIn) (D : DiskIn w v d) (hx : x.Ok w) (hs : Dev.small d = false) :
    Calls Try.prog 19 #[v, x.val] w fun e w' => e = .returned (.bool true) ∧ Ext w w' := by
  obtain ⟨xa, xs, xf, xkv, xk⟩ := x
  obtain ⟨_, _, hxk⟩ := hx
  try dsimp only at *
  have h67 := fun v w h => small9_any d v w h
  rw [hs] at h67
  replace h67 := Lib.hid h67
  obtain ⟨xka, xkc, rfl, _, hxc, _⟩ := sl_bool_at hxk
  have hxl : xk.length ≤ 9223372036854775807 := by omega
  obtain ⟨ka, kc, ca, cc, pa, pc, rfl⟩ := D.form3
  unfold PutIn.val
  dsimp only
  have y : Ext w ((w.alloc (.cells #[.slice ka d.kept.length kc, .slice ca d.cache.length cc, .int .i64 d.fuse, .slice pa d.keep.length pc, .bool d.dead] 69)).alloc (.cells #[.int .i64 xa, .string xs, .int .i64 xf, .slice xka xk.length xkc] 79)) := ((Ext.refl w).alloc _).alloc _
  have bd := Lib.hid ((Box.new w [.slice ka d.kept.length kc, .slice ca d.cache.length cc, .int .i64 d.fuse, .slice pa d.keep.length pc, .bool d.dead] 69).alloc (.cells #[.int .i64 xa, .string xs, .int .i64 xf, .slice xka xk.length xkc] 79))
  have bx := Lib.hid (Box.new1 w (.cells #[.slice ka d.kept.length kc, .slice ca d.cache.length cc, .int .i64 d.fuse, .slice pa d.keep.length pc, .bool d.dead] 69) [.int .i64 xa, .string xs, .int .i64 xf, .slice xka xk.length xkc] 79)
  replace D := Lib.hid (D.ext y); replace hxk := Lib.hid (hxk.ext y); replace y := Lib.hid y
  go_enter Try.func19, Try.ntmps19
  obtain ⟨⟨gbd0, gbd1, gbd2, gbd3, gbd4⟩, _⟩ := bd.out.at5
  go_wp2_with fail
  refine (h67.out _ _ D.out).mono ?_; rintro e w1 ⟨rfl, x1⟩
  clear gbd0 gbd1 gbd2 gbd3 gbd4
  replace D := Lib.hid (D.out.ext x1); replace hxk := Lib.hid (hxk.out.ext x1); replace bd := Lib.hid (bd.out.ext x1); replace bx := Lib.hid (bx.out.ext x1)
  replace y := Lib.hid (y.out.trans x1)
  clear x1
  go_wp2_with fail
  refine (fixed09 _).mono ?_; rintro e w2 ⟨rfl, x2⟩
  replace D := Lib.hid (D.out.ext x2); replace hxk := Lib.hid (hxk.out.ext x2); replace bd := Lib.hid (bd.out.ext x2); replace bx := Lib.hid (bx.out.ext x2)
  replace y := Lib.hid (y.out.trans x2)
  clear x2
  go_wp2_with fail
  go_ret
  exact ⟨rfl, y.out⟩

set_option maxRecDepth 100000 in
set_option maxHeartbeats 16000000 in
theorem deviceTells_no1 (w : World) (d : Dev.Disk) (v : Value) (x : PutIn) (D : DiskIn w v d) (hx : x.Ok w) (hs : Dev.small d = true) (h4 : 400 < x.keep.length) :
    Calls Try.prog 19 #[v, x.val] w fun e w' => e = .returned (.bool true) ∧ Ext w w' := by
  obtain ⟨xa, xs, xf, xkv, xk⟩ := x
  obtain ⟨_, _, hxk⟩ := hx
  try dsimp only at *
  have h67 := fun v w h => small9_any d v w h
  rw [hs] at h67
  replace h67 := Lib.hid h67
  have hl : decide ((xk.length : Int) > 400) = true := decide_eq_true (by omega)
  obtain ⟨xka, xkc, rfl, _, hxc, _⟩ := sl_bool_at hxk
  have hxl : xk.length ≤ 9223372036854775807 := by omega
  obtain ⟨ka, kc, ca, cc, pa, pc, rfl⟩ := D.form3
  unfold PutIn.val
  dsimp only
  have y : Ext w ((w.alloc (.cells #[.slice ka d.kept.length kc, .slice ca d.cache.length cc, .int .i64 d.fuse, .slice pa d.keep.length pc, .bool d.dead] 69)).alloc (.cells #[.int .i64 xa, .string xs, .int .i64 xf, .slice xka xk.length xkc] 79)) := ((Ext.refl w).alloc _).alloc _
  have bd := Lib.hid ((Box.new w [.slice ka d.kept.length kc, .slice ca d.cache.length cc, .int .i64 d.fuse, .slice pa d.keep.length pc, .bool d.dead] 69).alloc (.cells #[.int .i64 xa, .string xs, .int .i64 xf, .slice xka xk.length xkc] 79))
  have bx := Lib.hid (Box.new1 w (.cells #[.slice ka d.kept.length kc, .slice ca d.cache.length cc, .int .i64 d.fuse, .slice pa d.keep.length pc, .bool d.dead] 69) [.int .i64 xa, .string xs, .int .i64 xf, .slice xka xk.length xkc] 79)
  replace D := Lib.hid (D.ext y); replace hxk := Lib.hid (hxk.ext y); replace y := Lib.hid y
  go_enter Try.func19, Try.ntmps19
  obtain ⟨⟨gbd0, gbd1, gbd2, gbd3, gbd4⟩, _⟩ := bd.out.at5
  go_wp2_with fail
  refine (h67.out _ _ D.out).mono ?_; rintro e w1 ⟨rfl, x1⟩
  clear gbd0 gbd1 gbd2 gbd3 gbd4
  replace D := Lib.hid (D.out.ext x1); replace hxk := Lib.hid (hxk.out.ext x1); replace bd := Lib.hid (bd.out.ext x1); replace bx := Lib.hid (bx.out.ext x1)
  replace y := Lib.hid (y.out.trans x1)
  clear x1
  obtain ⟨⟨gbx0, gbx1, gbx2, gbx3⟩, _⟩ := bx.out.at4
  go_wp2_with fail
  refine (fixed09 _).mono ?_; rintro e w2 ⟨rfl, x2⟩
  clear gbx0 gbx1 gbx2 gbx3
  replace D := Lib.hid (D.out.ext x2); replace hxk := Lib.hid (hxk.out.ext x2); replace bd := Lib.hid (bd.out.ext x2); replace bx := Lib.hid (bx.out.ext x2)
  replace y := Lib.hid (y.out.trans x2)
  clear x2
  go_wp2_with fail
  go_ret
  exact ⟨rfl, y.out⟩

set_option maxRecDepth 100000 in
set_option maxHeartbeats 16000000 in
theorem deviceTells_far (w : World) (d : Dev.Disk) (v : Value) (x : PutIn) (D : DiskIn w v d) (hx : x.Ok w) (hs : Dev.small d = true) (h4 : x.keep.length ≤ 400) (hfu : d.fuse ≤ 9223372036854775807) (hf : 300 < x.fuse) :
    Calls Try.prog 19 #[v, x.val] w fun e w' => e = .returned (.bool true) ∧ Ext w w' := by
  obtain ⟨xa, xs, xf, xkv, xk⟩ := x
  obtain ⟨_, hxf, hxk⟩ := hx
  try dsimp only at *
  have hk0 := Dev.small_keep hs
  have hl : decide ((xk.length : Int) > 400) = false := decide_eq_false (by omega)
  have h67 := fun v w h => small9_any d v w h
  rw [hs] at h67
  have c1 := fun v w h => read9_any d v xa w h
  have c2 := fun v w h => refRead_any d v xa w h
  have c3 := fun v w h => write9_any d v xa xs w h hk0 hfu
  have c4 := fun v w h => refWrite_any d v xa xs w h hfu
  have c5 := fun v w h => flush9_any d v w h hk0
  have c6 := fun v w h => refFlush_any d v w h
  have c7 := fun v w h => may_any d v w h
  have c8 := fun v w h => refMay_any d v w h
  have c9 := fun w => new9_any xf w
  have c10 := fun w => refNew_any xf w
  have c11 := fun v kp w h hk => arm9_any d v xf kp xk w h hk hk0 (by omega) hxf
  have c12 := fun v kp w h hk => refArm_any d v xf kp xk w h hk hxf
  have c13 := fun v kp w h hk => die9_any d v kp xk w h hk hk0
  have c14 := fun v kp w h hk => refDie_any d v kp xk w h hk
  have c15 := fun v w h => revive9_any d v w h hk0
  have c16 := fun v w h => refRevive_any d v w h
  obtain ⟨⟨S, e⟩, hp⟩ : ∃ p, Dev.read d xa = p := ⟨_, rfl⟩
  rw [hp] at c1 c2
  clear hp
  obtain ⟨⟨A, f⟩, hp⟩ : ∃ p, Dev.write d xa xs = p := ⟨_, rfl⟩
  rw [hp] at c3 c4
  clear hp
  obtain ⟨⟨P, g⟩, hp⟩ : ∃ p, Dev.flush d = p := ⟨_, rfl⟩
  rw [hp] at c5 c6
  clear hp
  obtain ⟨⟨N, i⟩, hp⟩ : ∃ p, Dev.new xf = p := ⟨_, rfl⟩
  rw [hp] at c9 c10
  clear hp
  generalize Dev.may d = m at c7 c8
  generalize Dev.arm d xf xk = E at c11 c12
  generalize Dev.die d xk = F at c13 c14
  generalize Dev.revive d = G at c15 c16
  dsimp only at c1 c2 c3 c4 c5 c6 c9 c10
  have same : ∀ (A : Dev.Disk) u v w, DiskIn w u A → DiskIn w v A → Calls Try.prog 75 #[u, v] w fun e w' => e = .returned (.bool true) ∧ Ext w w' := fun A u v w h h2 => by
    have := same9_any A A u v w h h2
    rwa [decide_eq_true rfl] at this
  have n1 : (m != m) = false := by simp
  have n2 : (S.toList == S.toList) = true := beq_self_eq_true _
  have n3 : (e != e) = false := by simp
  have n4 : (f != f) = false := by simp
  have n5 : (g != g) = false := by simp
  have n6 : (i == i) = true := beq_self_eq_true _
  have n7 : decide (xf > 300) = true := decide_eq_true (by omega)
  clear hs h4 hfu hk0 hf hxf
  replace h67 := Lib.hid h67; replace same := Lib.hid same; replace c1 := Lib.hid c1; replace c2 := Lib.hid c2; replace c3 := Lib.hid c3; replace c4 := Lib.hid c4; replace c5 := Lib.hid c5; replace c6 := Lib.hid c6; replace c7 := Lib.hid c7; replace c8 := Lib.hid c8; replace c9 := Lib.hid c9; replace c10 := Lib.hid c10; replace c11 := Lib.hid c11; replace c12 := Lib.hid c12; replace c13 := Lib.hid c13; replace c14 := Lib.hid c14; replace c15 := Lib.hid c15; replace c16 := Lib.hid c16
  obtain ⟨xka, xkc, rfl, _, hxc, _⟩ := sl_bool_at hxk
  have hxl : xk.length ≤ 9223372036854775807 := by omega
  obtain ⟨ka, kc, ca, cc, pa, pc, rfl⟩ := D.form3
  unfold PutIn.val
  dsimp only
  have y : Ext w ((w.alloc (.cells #[.slice ka d.kept.length kc, .slice ca d.cache.length cc, .int .i64 d.fuse, .slice pa d.keep.length pc, .bool d.dead] 69)).alloc (.cells #[.int .i64 xa, .string xs, .int .i64 xf, .slice xka xk.length xkc] 79)) := ((Ext.refl w).alloc _).alloc _
  have bd := Lib.hid ((Box.new w [.slice ka d.kept.length kc, .slice ca d.cache.length cc, .int .i64 d.fuse, .slice pa d.keep.length pc, .bool d.dead] 69).alloc (.cells #[.int .i64 xa, .string xs, .int .i64 xf, .slice xka xk.length xkc] 79))
  have bx := Lib.hid (Box.new1 w (.cells #[.slice ka d.kept.length kc, .slice ca d.cache.length cc, .int .i64 d.fuse, .slice pa d.keep.length pc, .bool d.dead] 69) [.int .i64 xa, .string xs, .int .i64 xf, .slice xka xk.length xkc] 79)
  replace D := Lib.hid (D.ext y); replace hxk := Lib.hid (hxk.ext y); replace y := Lib.hid y
  go_enter Try.func19, Try.ntmps19
  obtain ⟨⟨gbd0, gbd1, gbd2, gbd3, gbd4⟩, _⟩ := bd.out.at5
  go_wp2_with fail
  refine (h67.out _ _ D.out).mono ?_; rintro e w1 ⟨rfl, x1⟩
  clear gbd0 gbd1 gbd2 gbd3 gbd4
  replace D := Lib.hid (D.out.ext x1); replace hxk := Lib.hid (hxk.out.ext x1); replace bd := Lib.hid (bd.out.ext x1); replace bx := Lib.hid (bx.out.ext x1)
  replace y := Lib.hid (y.out.trans x1)
  clear x1
  obtain ⟨⟨gbd0, gbd1, gbd2, gbd3, gbd4⟩, _⟩ := bd.out.at5
  obtain ⟨⟨gbx0, gbx1, gbx2, gbx3⟩, _⟩ := bx.out.at4
  go_wp2_with fail
  refine (c1.out _ _ D.out).mono ?_; rintro e w2 ⟨rfl, x2⟩
  clear gbd0 gbd1 gbd2 gbd3 gbd4 gbx0 gbx1 gbx2 gbx3
  replace D := Lib.hid (D.out.ext x2); replace hxk := Lib.hid (hxk.out.ext x2); replace bd := Lib.hid (bd.out.ext x2); replace bx := Lib.hid (bx.out.ext x2)
  replace y := Lib.hid (y.out.trans x2)
  clear x2
  obtain ⟨⟨gbd0, gbd1, gbd2, gbd3, gbd4⟩, _⟩ := bd.out.at5
  obtain ⟨⟨gbx0, gbx1, gbx2, gbx3⟩, _⟩ := bx.out.at4
  go_wp2_with fail
  refine (c2.out _ _ D.out).mono ?_; rintro e w3 ⟨rfl, x3⟩
  clear gbd0 gbd1 gbd2 gbd3 gbd4 gbx0 gbx1 gbx2 gbx3
  replace D := Lib.hid (D.out.ext x3); replace hxk := Lib.hid (hxk.out.ext x3); replace bd := Lib.hid (bd.out.ext x3); replace bx := Lib.hid (bx.out.ext x3)
  replace y := Lib.hid (y.out.trans x3)
  clear x3
  obtain ⟨⟨gbd0, gbd1, gbd2, gbd3, gbd4⟩, _⟩ := bd.out.at5
  obtain ⟨⟨gbx0, gbx1, gbx2, gbx3⟩, _⟩ := bx.out.at4
  go_wp2_with fail
  refine (c3.out _ _ D.out).mono ?_; rintro e w4 ⟨r4, rfl, DA, x4⟩
  clear gbd0 gbd1 gbd2 gbd3 gbd4 gbx0 gbx1 gbx2 gbx3
  replace D := Lib.hid (D.out.ext x4); replace hxk := Lib.hid (hxk.out.ext x4); replace bd := Lib.hid (bd.out.ext x4); replace bx := Lib.hid (bx.out.ext x4)
  replace y := Lib.hid (y.out.trans x4)
  clear x4
  obtain ⟨ka4, kc4, ca4, cc4, pa4, pc4, rfl⟩ := DA.form3
  replace DA := Lib.hid DA
  have xb : Ext w4 (w4.alloc (.cells #[.slice ka4 A.kept.length kc4, .slice ca4 A.cache.length cc4, .int .i64 A.fuse, .slice pa4 A.keep.length pc4, .bool A.dead] 69)) := (Ext.refl _).alloc _
  replace D := Lib.hid (D.out.ext xb); replace hxk := Lib.hid (hxk.out.ext xb); replace bd := Lib.hid (bd.out.ext xb); replace bx := Lib.hid (bx.out.ext xb); replace DA := Lib.hid (DA.out.ext xb)
  replace y := Lib.hid (y.out.trans xb)
  clear xb
  have bA := Lib.hid (Box.new w4 [.slice ka4 A.kept.length kc4, .slice ca4 A.cache.length cc4, .int .i64 A.fuse, .slice pa4 A.keep.length pc4, .bool A.dead] 69)
  have DA1 := DA
  clear DA
  obtain ⟨⟨gbd0, gbd1, gbd2, gbd3, gbd4⟩, _⟩ := bd.out.at5
  obtain ⟨⟨gbx0, gbx1, gbx2, gbx3⟩, _⟩ := bx.out.at4
  go_wp2_with fail
  refine (c4.out _ _ D.out).mono ?_; rintro e w5 ⟨r5, rfl, DA, x5⟩
  clear gbd0 gbd1 gbd2 gbd3 gbd4 gbx0 gbx1 gbx2 gbx3
  replace D := Lib.hid (D.out.ext x5); replace hxk := Lib.hid (hxk.out.ext x5); replace bd := Lib.hid (bd.out.ext x5); replace bx := Lib.hid (bx.out.ext x5); replace DA1 := Lib.hid (DA1.out.ext x5); replace bA := Lib.hid (bA.out.ext x5)
  replace y := Lib.hid (y.out.trans x5)
  clear x5
  obtain ⟨ka5, kc5, ca5, cc5, pa5, pc5, rfl⟩ := DA.form3
  replace DA := Lib.hid DA
  have xb : Ext w5 (w5.alloc (.cells #[.slice ka5 A.kept.length kc5, .slice ca5 A.cache.length cc5, .int .i64 A.fuse, .slice pa5 A.keep.length pc5, .bool A.dead] 69)) := (Ext.refl _).alloc _
  replace D := Lib.hid (D.out.ext xb); replace hxk := Lib.hid (hxk.out.ext xb); replace bd := Lib.hid (bd.out.ext xb); replace bx := Lib.hid (bx.out.ext xb); replace DA1 := Lib.hid (DA1.out.ext xb); replace bA := Lib.hid (bA.out.ext xb); replace DA := Lib.hid (DA.out.ext xb)
  replace y := Lib.hid (y.out.trans xb)
  clear xb
  have bA2 := Lib.hid (Box.new w5 [.slice ka5 A.kept.length kc5, .slice ca5 A.cache.length cc5, .int .i64 A.fuse, .slice pa5 A.keep.length pc5, .bool A.dead] 69)
  obtain ⟨⟨gbd0, gbd1, gbd2, gbd3, gbd4⟩, _⟩ := bd.out.at5
  go_wp2_with fail
  refine (c5.out _ _ D.out).mono ?_; rintro e w6 ⟨r6, rfl, DP, x6⟩
  clear gbd0 gbd1 gbd2 gbd3 gbd4
  replace D := Lib.hid (D.out.ext x6); replace hxk := Lib.hid (hxk.out.ext x6); replace bd := Lib.hid (bd.out.ext x6); replace bx := Lib.hid (bx.out.ext x6); replace DA1 := Lib.hid (DA1.out.ext x6); replace bA := Lib.hid (bA.out.ext x6); replace DA := Lib.hid (DA.out.ext x6); replace bA2 := Lib.hid (bA2.out.ext x6)
  replace y := Lib.hid (y.out.trans x6)
  clear x6
  obtain ⟨ka6, kc6, ca6, cc6, pa6, pc6, rfl⟩ := DP.form3
  replace DP := Lib.hid DP
  have xb : Ext w6 (w6.alloc (.cells #[.slice ka6 P.kept.length kc6, .slice ca6 P.cache.length cc6, .int .i64 P.fuse, .slice pa6 P.keep.length pc6, .bool P.dead] 69)) := (Ext.refl _).alloc _
  replace D := Lib.hid (D.out.ext xb); replace hxk := Lib.hid (hxk.out.ext xb); replace bd := Lib.hid (bd.out.ext xb); replace bx := Lib.hid (bx.out.ext xb); replace DA1 := Lib.hid (DA1.out.ext xb); replace bA := Lib.hid (bA.out.ext xb); replace DA := Lib.hid (DA.out.ext xb); replace bA2 := Lib.hid (bA2.out.ext xb); replace DP := Lib.hid (DP.out.ext xb)
  replace y := Lib.hid (y.out.trans xb)
  clear xb
  have bP := Lib.hid (Box.new w6 [.slice ka6 P.kept.length kc6, .slice ca6 P.cache.length cc6, .int .i64 P.fuse, .slice pa6 P.keep.length pc6, .bool P.dead] 69)
  have DP1 := DP
  clear DP
  obtain ⟨⟨gbd0, gbd1, gbd2, gbd3, gbd4⟩, _⟩ := bd.out.at5
  go_wp2_with fail
  refine (c6.out _ _ D.out).mono ?_; rintro e w7 ⟨r7, rfl, DP, x7⟩
  clear gbd0 gbd1 gbd2 gbd3 gbd4
  replace D := Lib.hid (D.out.ext x7); replace hxk := Lib.hid (hxk.out.ext x7); replace bd := Lib.hid (bd.out.ext x7); replace bx := Lib.hid (bx.out.ext x7); replace DA1 := Lib.hid (DA1.out.ext x7); replace bA := Lib.hid (bA.out.ext x7); replace DA := Lib.hid (DA.out.ext x7); replace bA2 := Lib.hid (bA2.out.ext x7); replace DP1 := Lib.hid (DP1.out.ext x7); replace bP := Lib.hid (bP.out.ext x7)
  replace y := Lib.hid (y.out.trans x7)
  clear x7
  obtain ⟨ka7, kc7, ca7, cc7, pa7, pc7, rfl⟩ := DP.form3
  replace DP := Lib.hid DP
  have xb : Ext w7 (w7.alloc (.cells #[.slice ka7 P.kept.length kc7, .slice ca7 P.cache.length cc7, .int .i64 P.fuse, .slice pa7 P.keep.length pc7, .bool P.dead] 69)) := (Ext.refl _).alloc _
  replace D := Lib.hid (D.out.ext xb); replace hxk := Lib.hid (hxk.out.ext xb); replace bd := Lib.hid (bd.out.ext xb); replace bx := Lib.hid (bx.out.ext xb); replace DA1 := Lib.hid (DA1.out.ext xb); replace bA := Lib.hid (bA.out.ext xb); replace DA := Lib.hid (DA.out.ext xb); replace bA2 := Lib.hid (bA2.out.ext xb); replace DP1 := Lib.hid (DP1.out.ext xb); replace bP := Lib.hid (bP.out.ext xb); replace DP := Lib.hid (DP.out.ext xb)
  replace y := Lib.hid (y.out.trans xb)
  clear xb
  have bP2 := Lib.hid (Box.new w7 [.slice ka7 P.kept.length kc7, .slice ca7 P.cache.length cc7, .int .i64 P.fuse, .slice pa7 P.keep.length pc7, .bool P.dead] 69)
  go_wp2_with fail
  refine Soft.region_ext [] [0, 1, 2, 3, 4, 5, 6, 7, 8, 9, 10, 11, 12, 13, 14, 15, 16, 17, 18, 19, 20, 21, 22, 23, 24, 25, 26, 27, 28, 29, 30, 31, 32, 33, 34, 35, 36] [] (by kernel_rfl) (by kernel_rfl) Soft.stab_none ?_
  repeat (first | (refine Soft.pure_n rfl rfl rfl rfl (fun K hK => ?_); go_simp; refine hK _ ?_; clear hK K) | (refine Soft.pure_g rfl rfl rfl rfl rfl (fun K hK => ?_); go_simp; refine hK _ ?_; clear hK K) | (refine Soft.shut rfl rfl rfl rfl (fun K hK => ?_); go_simp; refine hK _ ?_; clear hK K) | (refine Soft.shut0 rfl rfl rfl rfl (fun K hK => ?_); go_simp; refine hK _ ?_; clear hK K) | (refine Soft.quiet_n rfl rfl rfl rfl (fun K hK => ?_); go_simp; apply Exists.intro; refine ⟨fun wq hq => ?_, hK _ ?_⟩; (first | (with_reducible exact c7.out _ _ (D.out.ext hq)) | (with_reducible exact c8.out _ _ (D.out.ext hq)) | (with_reducible exact same.out A _ _ _ (DA1.out.ext hq) (DA.out.ext hq)) | (with_reducible exact same.out P _ _ _ (DP1.out.ext hq) (DP.out.ext hq)) | (obtain ⟨⟨gg0, gg1, gg2, gg3, gg4⟩, _⟩ := (bd.out.ext hq).at5; go_simp; with_reducible rfl) | (obtain ⟨⟨gg0, gg1, gg2, gg3, gg4⟩, _⟩ := (bA.out.ext hq).at5; go_simp; with_reducible rfl) | (obtain ⟨⟨gg0, gg1, gg2, gg3, gg4⟩, _⟩ := (bA2.out.ext hq).at5; go_simp; with_reducible rfl) | (obtain ⟨⟨gg0, gg1, gg2, gg3, gg4⟩, _⟩ := (bP.out.ext hq).at5; go_simp; with_reducible rfl) | (obtain ⟨⟨gg0, gg1, gg2, gg3, gg4⟩, _⟩ := (bP2.out.ext hq).at5; go_simp; with_reducible rfl)); clear hK K) | (refine Soft.quiet_g rfl rfl rfl rfl rfl (fun K hK => ?_); go_simp; apply Exists.intro; refine ⟨fun wq hq => ?_, hK _ ?_⟩; (first | (with_reducible exact c7.out _ _ (D.out.ext hq)) | (with_reducible exact c8.out _ _ (D.out.ext hq)) | (with_reducible exact same.out A _ _ _ (DA1.out.ext hq) (DA.out.ext hq)) | (with_reducible exact same.out P _ _ _ (DP1.out.ext hq) (DP.out.ext hq)) | (obtain ⟨⟨gg0, gg1, gg2, gg3, gg4⟩, _⟩ := (bd.out.ext hq).at5; go_simp; with_reducible rfl) | (obtain ⟨⟨gg0, gg1, gg2, gg3, gg4⟩, _⟩ := (bA.out.ext hq).at5; go_simp; with_reducible rfl) | (obtain ⟨⟨gg0, gg1, gg2, gg3, gg4⟩, _⟩ := (bA2.out.ext hq).at5; go_simp; with_reducible rfl) | (obtain ⟨⟨gg0, gg1, gg2, gg3, gg4⟩, _⟩ := (bP.out.ext hq).at5; go_simp; with_reducible rfl) | (obtain ⟨⟨gg0, gg1, gg2, gg3, gg4⟩, _⟩ := (bP2.out.ext hq).at5; go_simp; with_reducible rfl)); clear hK K))
  refine Soft.ends (by kernel_rfl) (fun w8 x8 _ => ?_)
  replace D := Lib.hid (D.out.ext x8); replace hxk := Lib.hid (hxk.out.ext x8); replace bd := Lib.hid (bd.out.ext x8); replace bx := Lib.hid (bx.out.ext x8); replace DA1 := Lib.hid (DA1.out.ext x8); replace bA := Lib.hid (bA.out.ext x8); replace DA := Lib.hid (DA.out.ext x8); replace bA2 := Lib.hid (bA2.out.ext x8); replace DP1 := Lib.hid (DP1.out.ext x8); replace bP := Lib.hid (bP.out.ext x8); replace DP := Lib.hid (DP.out.ext x8); replace bP2 := Lib.hid (bP2.out.ext x8)
  replace y := Lib.hid (y.out.trans x8)
  clear x8
  obtain ⟨⟨gbx0, gbx1, gbx2, gbx3⟩, _⟩ := bx.out.at4
  go_wp2_with fail
  refine (c9.out _).mono ?_; rintro e w9 ⟨r9, rfl, DN, x9⟩
  clear gbx0 gbx1 gbx2 gbx3
  replace D := Lib.hid (D.out.ext x9); replace hxk := Lib.hid (hxk.out.ext x9); replace bd := Lib.hid (bd.out.ext x9); replace bx := Lib.hid (bx.out.ext x9); replace DA1 := Lib.hid (DA1.out.ext x9); replace bA := Lib.hid (bA.out.ext x9); replace DA := Lib.hid (DA.out.ext x9); replace bA2 := Lib.hid (bA2.out.ext x9); replace DP1 := Lib.hid (DP1.out.ext x9); replace bP := Lib.hid (bP.out.ext x9); replace DP := Lib.hid (DP.out.ext x9); replace bP2 := Lib.hid (bP2.out.ext x9)
  replace y := Lib.hid (y.out.trans x9)
  clear x9
  obtain ⟨ka9, kc9, ca9, cc9, pa9, pc9, rfl⟩ := DN.form3
  replace DN := Lib.hid DN
  have xb : Ext w9 (w9.alloc (.cells #[.slice ka9 N.kept.length kc9, .slice ca9 N.cache.length cc9, .int .i64 N.fuse, .slice pa9 N.keep.length pc9, .bool N.dead] 69)) := (Ext.refl _).alloc _
  replace D := Lib.hid (D.out.ext xb); replace hxk := Lib.hid (hxk.out.ext xb); replace bd := Lib.hid (bd.out.ext xb); replace bx := Lib.hid (bx.out.ext xb); replace DA1 := Lib.hid (DA1.out.ext xb); replace bA := Lib.hid (bA.out.ext xb); replace DA := Lib.hid (DA.out.ext xb); replace bA2 := Lib.hid (bA2.out.ext xb); replace DP1 := Lib.hid (DP1.out.ext xb); replace bP := Lib.hid (bP.out.ext xb); replace DP := Lib.hid (DP.out.ext xb); replace bP2 := Lib.hid (bP2.out.ext xb); replace DN := Lib.hid (DN.out.ext xb)
  replace y := Lib.hid (y.out.trans xb)
  clear xb
  have bN := Lib.hid (Box.new w9 [.slice ka9 N.kept.length kc9, .slice ca9 N.cache.length cc9, .int .i64 N.fuse, .slice pa9 N.keep.length pc9, .bool N.dead] 69)
  have DN1 := DN
  clear DN
  obtain ⟨⟨gbx0, gbx1, gbx2, gbx3⟩, _⟩ := bx.out.at4
  go_wp2_with fail
  refine (c10.out _).mono ?_; rintro e w10 ⟨r10, rfl, DN, x10⟩
  clear gbx0 gbx1 gbx2 gbx3
  replace D := Lib.hid (D.out.ext x10); replace hxk := Lib.hid (hxk.out.ext x10); replace bd := Lib.hid (bd.out.ext x10); replace bx := Lib.hid (bx.out.ext x10); replace DA1 := Lib.hid (DA1.out.ext x10); replace bA := Lib.hid (bA.out.ext x10); replace DA := Lib.hid (DA.out.ext x10); replace bA2 := Lib.hid (bA2.out.ext x10); replace DP1 := Lib.hid (DP1.out.ext x10); replace bP := Lib.hid (bP.out.ext x10); replace DP := Lib.hid (DP.out.ext x10); replace bP2 := Lib.hid (bP2.out.ext x10); replace DN1 := Lib.hid (DN1.out.ext x10); replace bN := Lib.hid (bN.out.ext x10)
  replace y := Lib.hid (y.out.trans x10)
  clear x10
  obtain ⟨ka10, kc10, ca10, cc10, pa10, pc10, rfl⟩ := DN.form3
  replace DN := Lib.hid DN
  have xb : Ext w10 (w10.alloc (.cells #[.slice ka10 N.kept.length kc10, .slice ca10 N.cache.length cc10, .int .i64 N.fuse, .slice pa10 N.keep.length pc10, .bool N.dead] 69)) := (Ext.refl _).alloc _
  replace D := Lib.hid (D.out.ext xb); replace hxk := Lib.hid (hxk.out.ext xb); replace bd := Lib.hid (bd.out.ext xb); replace bx := Lib.hid (bx.out.ext xb); replace DA1 := Lib.hid (DA1.out.ext xb); replace bA := Lib.hid (bA.out.ext xb); replace DA := Lib.hid (DA.out.ext xb); replace bA2 := Lib.hid (bA2.out.ext xb); replace DP1 := Lib.hid (DP1.out.ext xb); replace bP := Lib.hid (bP.out.ext xb); replace DP := Lib.hid (DP.out.ext xb); replace bP2 := Lib.hid (bP2.out.ext xb); replace DN1 := Lib.hid (DN1.out.ext xb); replace bN := Lib.hid (bN.out.ext xb); replace DN := Lib.hid (DN.out.ext xb)
  replace y := Lib.hid (y.out.trans xb)
  clear xb
  have bN2 := Lib.hid (Box.new w10 [.slice ka10 N.kept.length kc10, .slice ca10 N.cache.length cc10, .int .i64 N.fuse, .slice pa10 N.keep.length pc10, .bool N.dead] 69)
  go_wp2_with fail
  refine Soft.region_ext [(7, Soft.disk1 E E.kept.length E.cache.length E.keep.length E.fuse E.dead), (13, Soft.disk1 E E.kept.length E.cache.length E.keep.length E.fuse E.dead), (20, Soft.disk1 F F.kept.length F.cache.length F.keep.length F.fuse F.dead), (24, Soft.disk1 F F.kept.length F.cache.length F.keep.length F.fuse F.dead), (29, Soft.disk1 G G.kept.length G.cache.length G.keep.length G.fuse G.dead), (31, Soft.disk1 G G.kept.length G.cache.length G.keep.length G.fuse G.dead)] [0, 1, 2, 3, 4, 5, 6, 7, 8, 9, 10, 11, 12, 13, 14, 15, 16, 17, 18, 19, 20, 21, 22, 23, 24, 25, 26, 27, 28, 29, 30, 31, 32, 33, 34, 35, 36, 37, 38, 39, 40, 41, 42, 43, 44, 45, 46, 47, 48, 49] [] (by kernel_rfl) (by kernel_rfl) (Soft.stab_more (fun _ _ _ => Soft.disk1_stab) (Soft.stab_more (fun _ _ _ => Soft.disk1_stab) (Soft.stab_more (fun _ _ _ => Soft.disk1_stab) (Soft.stab_more (fun _ _ _ => Soft.disk1_stab) (Soft.stab_more (fun _ _ _ => Soft.disk1_stab) (Soft.stab_one fun _ _ _ => Soft.disk1_stab)))))) ?_
  iterate 7 (first | (refine Soft.pure_n rfl rfl rfl rfl (fun K hK => ?_); go_simp; refine hK _ ?_; clear hK K) | (refine Soft.pure_g rfl rfl rfl rfl rfl (fun K hK => ?_); go_simp; refine hK _ ?_; clear hK K) | (refine Soft.shut rfl rfl rfl rfl (fun K hK => ?_); go_simp; refine hK _ ?_; clear hK K) | (refine Soft.shut0 rfl rfl rfl rfl (fun K hK => ?_); go_simp; refine hK _ ?_; clear hK K) | (refine Soft.quiet_n rfl rfl rfl rfl (fun K hK => ?_); go_simp; apply Exists.intro; refine ⟨fun wq hq => ?_, hK _ ?_⟩; (first | (with_reducible exact fixed09 _) | (with_reducible exact same.out N _ _ _ (DN1.out.ext hq) (DN.out.ext hq)) | (obtain ⟨⟨gg0, gg1, gg2, gg3, gg4⟩, _⟩ := (bd.out.ext hq).at5; go_simp; with_reducible rfl) | (obtain ⟨⟨gg0, gg1, gg2, gg3⟩, _⟩ := (bx.out.ext hq).at4; go_simp; with_reducible rfl) | (obtain ⟨⟨gg0, gg1, gg2, gg3, gg4⟩, _⟩ := (bN.out.ext hq).at5; go_simp; with_reducible rfl) | (obtain ⟨⟨gg0, gg1, gg2, gg3, gg4⟩, _⟩ := (bN2.out.ext hq).at5; go_simp; with_reducible rfl)); clear hK K) | (refine Soft.quiet_g rfl rfl rfl rfl rfl (fun K hK => ?_); go_simp; apply Exists.intro; refine ⟨fun wq hq => ?_, hK _ ?_⟩; (first | (with_reducible exact fixed09 _) | (with_reducible exact same.out N _ _ _ (DN1.out.ext hq) (DN.out.ext hq)) | (obtain ⟨⟨gg0, gg1, gg2, gg3, gg4⟩, _⟩ := (bd.out.ext hq).at5; go_simp; with_reducible rfl) | (obtain ⟨⟨gg0, gg1, gg2, gg3⟩, _⟩ := (bx.out.ext hq).at4; go_simp; with_reducible rfl) | (obtain ⟨⟨gg0, gg1, gg2, gg3, gg4⟩, _⟩ := (bN.out.ext hq).at5; go_simp; with_reducible rfl) | (obtain ⟨⟨gg0, gg1, gg2, gg3, gg4⟩, _⟩ := (bN2.out.ext hq).at5; go_simp; with_reducible rfl)); clear hK K))
  refine Soft.loud_g rfl rfl rfl rfl rfl (fun K hK => ?_)
  refine ⟨fun wq hq kq => ?_, fun u ⟨ka91, kc91, ca91, cc91, pa91, pc91, hu⟩ => hK _ ?_⟩
  · go_simp
    refine (c11.out _ _ _ (D.out.ext hq) (hxk.out.ext hq)).mono ?_
    rintro e w7 ⟨r, rfl, hD, x7⟩
    obtain ⟨ka2, kc2, ca2, cc2, pa2, pc2, rfl⟩ := hD.form3
    exact ⟨_, rfl, x7, ⟨_, _, _, _, _, _, rfl⟩, hD⟩
  clear hK K
  subst hu
  iterate 5 (first | (refine Soft.pure_n rfl rfl rfl rfl (fun K hK => ?_); go_simp; refine hK _ ?_; clear hK K) | (refine Soft.pure_g rfl rfl rfl rfl rfl (fun K hK => ?_); go_simp; refine hK _ ?_; clear hK K) | (refine Soft.shut rfl rfl rfl rfl (fun K hK => ?_); go_simp; refine hK _ ?_; clear hK K) | (refine Soft.shut0 rfl rfl rfl rfl (fun K hK => ?_); go_simp; refine hK _ ?_; clear hK K) | (refine Soft.quiet_n rfl rfl rfl rfl (fun K hK => ?_); go_simp; apply Exists.intro; refine ⟨fun wq hq => ?_, hK _ ?_⟩; (first | (with_reducible exact fixed09 _) | (with_reducible exact same.out N _ _ _ (DN1.out.ext hq) (DN.out.ext hq)) | (obtain ⟨⟨gg0, gg1, gg2, gg3, gg4⟩, _⟩ := (bd.out.ext hq).at5; go_simp; with_reducible rfl) | (obtain ⟨⟨gg0, gg1, gg2, gg3⟩, _⟩ := (bx.out.ext hq).at4; go_simp; with_reducible rfl) | (obtain ⟨⟨gg0, gg1, gg2, gg3, gg4⟩, _⟩ := (bN.out.ext hq).at5; go_simp; with_reducible rfl) | (obtain ⟨⟨gg0, gg1, gg2, gg3, gg4⟩, _⟩ := (bN2.out.ext hq).at5; go_simp; with_reducible rfl)); clear hK K) | (refine Soft.quiet_g rfl rfl rfl rfl rfl (fun K hK => ?_); go_simp; apply Exists.intro; refine ⟨fun wq hq => ?_, hK _ ?_⟩; (first | (with_reducible exact fixed09 _) | (with_reducible exact same.out N _ _ _ (DN1.out.ext hq) (DN.out.ext hq)) | (obtain ⟨⟨gg0, gg1, gg2, gg3, gg4⟩, _⟩ := (bd.out.ext hq).at5; go_simp; with_reducible rfl) | (obtain ⟨⟨gg0, gg1, gg2, gg3⟩, _⟩ := (bx.out.ext hq).at4; go_simp; with_reducible rfl) | (obtain ⟨⟨gg0, gg1, gg2, gg3, gg4⟩, _⟩ := (bN.out.ext hq).at5; go_simp; with_reducible rfl) | (obtain ⟨⟨gg0, gg1, gg2, gg3, gg4⟩, _⟩ := (bN2.out.ext hq).at5; go_simp; with_reducible rfl)); clear hK K))
  refine Soft.loud_g rfl rfl rfl rfl rfl (fun K hK => ?_)
  refine ⟨fun wq hq kq => ?_, fun u ⟨ka92, kc92, ca92, cc92, pa92, pc92, hu⟩ => hK _ ?_⟩
  · go_simp
    refine (c12.out _ _ _ (D.out.ext hq) (hxk.out.ext hq)).mono ?_
    rintro e w7 ⟨r, rfl, hD, x7⟩
    obtain ⟨ka2, kc2, ca2, cc2, pa2, pc2, rfl⟩ := hD.form3
    exact ⟨_, rfl, x7, ⟨_, _, _, _, _, _, rfl⟩, hD⟩
  clear hK K
  subst hu
  (refine Soft.quiet_gk rfl rfl rfl rfl rfl (fun K hK => ?_); go_simp; apply Exists.intro; refine ⟨fun wq hq kq => ?_, hK _ ?_⟩; exact same.out E _ _ _ (kq.get 7 (by kernel_rfl) rfl rfl) (kq.get 13 (by kernel_rfl) rfl rfl); clear hK K)
  iterate 5 (first | (refine Soft.pure_n rfl rfl rfl rfl (fun K hK => ?_); go_simp; refine hK _ ?_; clear hK K) | (refine Soft.pure_g rfl rfl rfl rfl rfl (fun K hK => ?_); go_simp; refine hK _ ?_; clear hK K) | (refine Soft.shut rfl rfl rfl rfl (fun K hK => ?_); go_simp; refine hK _ ?_; clear hK K) | (refine Soft.shut0 rfl rfl rfl rfl (fun K hK => ?_); go_simp; refine hK _ ?_; clear hK K) | (refine Soft.quiet_n rfl rfl rfl rfl (fun K hK => ?_); go_simp; apply Exists.intro; refine ⟨fun wq hq => ?_, hK _ ?_⟩; (first | (with_reducible exact fixed09 _) | (with_reducible exact same.out N _ _ _ (DN1.out.ext hq) (DN.out.ext hq)) | (obtain ⟨⟨gg0, gg1, gg2, gg3, gg4⟩, _⟩ := (bd.out.ext hq).at5; go_simp; with_reducible rfl) | (obtain ⟨⟨gg0, gg1, gg2, gg3⟩, _⟩ := (bx.out.ext hq).at4; go_simp; with_reducible rfl) | (obtain ⟨⟨gg0, gg1, gg2, gg3, gg4⟩, _⟩ := (bN.out.ext hq).at5; go_simp; with_reducible rfl) | (obtain ⟨⟨gg0, gg1, gg2, gg3, gg4⟩, _⟩ := (bN2.out.ext hq).at5; go_simp; with_reducible rfl)); clear hK K) | (refine Soft.quiet_g rfl rfl rfl rfl rfl (fun K hK => ?_); go_simp; apply Exists.intro; refine ⟨fun wq hq => ?_, hK _ ?_⟩; (first | (with_reducible exact fixed09 _) | (with_reducible exact same.out N _ _ _ (DN1.out.ext hq) (DN.out.ext hq)) | (obtain ⟨⟨gg0, gg1, gg2, gg3, gg4⟩, _⟩ := (bd.out.ext hq).at5; go_simp; with_reducible rfl) | (obtain ⟨⟨gg0, gg1, gg2, gg3⟩, _⟩ := (bx.out.ext hq).at4; go_simp; with_reducible rfl) | (obtain ⟨⟨gg0, gg1, gg2, gg3, gg4⟩, _⟩ := (bN.out.ext hq).at5; go_simp; with_reducible rfl) | (obtain ⟨⟨gg0, gg1, gg2, gg3, gg4⟩, _⟩ := (bN2.out.ext hq).at5; go_simp; with_reducible rfl)); clear hK K))
  refine Soft.loud_g rfl rfl rfl rfl rfl (fun K hK => ?_)
  refine ⟨fun wq hq kq => ?_, fun u ⟨ka93, kc93, ca93, cc93, pa93, pc93, hu⟩ => hK _ ?_⟩
  · go_simp
    refine (c13.out _ _ _ (D.out.ext hq) (hxk.out.ext hq)).mono ?_
    rintro e w7 ⟨r, rfl, hD, x7⟩
    obtain ⟨ka2, kc2, ca2, cc2, pa2, pc2, rfl⟩ := hD.form3
    exact ⟨_, rfl, x7, ⟨_, _, _, _, _, _, rfl⟩, hD⟩
  clear hK K
  subst hu
  iterate 3 (first | (refine Soft.pure_n rfl rfl rfl rfl (fun K hK => ?_); go_simp; refine hK _ ?_; clear hK K) | (refine Soft.pure_g rfl rfl rfl rfl rfl (fun K hK => ?_); go_simp; refine hK _ ?_; clear hK K) | (refine Soft.shut rfl rfl rfl rfl (fun K hK => ?_); go_simp; refine hK _ ?_; clear hK K) | (refine Soft.shut0 rfl rfl rfl rfl (fun K hK => ?_); go_simp; refine hK _ ?_; clear hK K) | (refine Soft.quiet_n rfl rfl rfl rfl (fun K hK => ?_); go_simp; apply Exists.intro; refine ⟨fun wq hq => ?_, hK _ ?_⟩; (first | (with_reducible exact fixed09 _) | (with_reducible exact same.out N _ _ _ (DN1.out.ext hq) (DN.out.ext hq)) | (obtain ⟨⟨gg0, gg1, gg2, gg3, gg4⟩, _⟩ := (bd.out.ext hq).at5; go_simp; with_reducible rfl) | (obtain ⟨⟨gg0, gg1, gg2, gg3⟩, _⟩ := (bx.out.ext hq).at4; go_simp; with_reducible rfl) | (obtain ⟨⟨gg0, gg1, gg2, gg3, gg4⟩, _⟩ := (bN.out.ext hq).at5; go_simp; with_reducible rfl) | (obtain ⟨⟨gg0, gg1, gg2, gg3, gg4⟩, _⟩ := (bN2.out.ext hq).at5; go_simp; with_reducible rfl)); clear hK K) | (refine Soft.quiet_g rfl rfl rfl rfl rfl (fun K hK => ?_); go_simp; apply Exists.intro; refine ⟨fun wq hq => ?_, hK _ ?_⟩; (first | (with_reducible exact fixed09 _) | (with_reducible exact same.out N _ _ _ (DN1.out.ext hq) (DN.out.ext hq)) | (obtain ⟨⟨gg0, gg1, gg2, gg3, gg4⟩, _⟩ := (bd.out.ext hq).at5; go_simp; with_reducible rfl) | (obtain ⟨⟨gg0, gg1, gg2, gg3⟩, _⟩ := (bx.out.ext hq).at4; go_simp; with_reducible rfl) | (obtain ⟨⟨gg0, gg1, gg2, gg3, gg4⟩, _⟩ := (bN.out.ext hq).at5; go_simp; with_reducible rfl) | (obtain ⟨⟨gg0, gg1, gg2, gg3, gg4⟩, _⟩ := (bN2.out.ext hq).at5; go_simp; with_reducible rfl)); clear hK K))
  refine Soft.loud_g rfl rfl rfl rfl rfl (fun K hK => ?_)
  refine ⟨fun wq hq kq => ?_, fun u ⟨ka94, kc94, ca94, cc94, pa94, pc94, hu⟩ => hK _ ?_⟩
  · go_simp
    refine (c14.out _ _ _ (D.out.ext hq) (hxk.out.ext hq)).mono ?_
    rintro e w7 ⟨r, rfl, hD, x7⟩
    obtain ⟨ka2, kc2, ca2, cc2, pa2, pc2, rfl⟩ := hD.form3
    exact ⟨_, rfl, x7, ⟨_, _, _, _, _, _, rfl⟩, hD⟩
  clear hK K
  subst hu
  (refine Soft.quiet_gk rfl rfl rfl rfl rfl (fun K hK => ?_); go_simp; apply Exists.intro; refine ⟨fun wq hq kq => ?_, hK _ ?_⟩; exact same.out F _ _ _ (kq.get 20 (by kernel_rfl) rfl rfl) (kq.get 24 (by kernel_rfl) rfl rfl); clear hK K)
  iterate 3 (first | (refine Soft.pure_n rfl rfl rfl rfl (fun K hK => ?_); go_simp; refine hK _ ?_; clear hK K) | (refine Soft.pure_g rfl rfl rfl rfl rfl (fun K hK => ?_); go_simp; refine hK _ ?_; clear hK K) | (refine Soft.shut rfl rfl rfl rfl (fun K hK => ?_); go_simp; refine hK _ ?_; clear hK K) | (refine Soft.shut0 rfl rfl rfl rfl (fun K hK => ?_); go_simp; refine hK _ ?_; clear hK K) | (refine Soft.quiet_n rfl rfl rfl rfl (fun K hK => ?_); go_simp; apply Exists.intro; refine ⟨fun wq hq => ?_, hK _ ?_⟩; (first | (with_reducible exact fixed09 _) | (with_reducible exact same.out N _ _ _ (DN1.out.ext hq) (DN.out.ext hq)) | (obtain ⟨⟨gg0, gg1, gg2, gg3, gg4⟩, _⟩ := (bd.out.ext hq).at5; go_simp; with_reducible rfl) | (obtain ⟨⟨gg0, gg1, gg2, gg3⟩, _⟩ := (bx.out.ext hq).at4; go_simp; with_reducible rfl) | (obtain ⟨⟨gg0, gg1, gg2, gg3, gg4⟩, _⟩ := (bN.out.ext hq).at5; go_simp; with_reducible rfl) | (obtain ⟨⟨gg0, gg1, gg2, gg3, gg4⟩, _⟩ := (bN2.out.ext hq).at5; go_simp; with_reducible rfl)); clear hK K) | (refine Soft.quiet_g rfl rfl rfl rfl rfl (fun K hK => ?_); go_simp; apply Exists.intro; refine ⟨fun wq hq => ?_, hK _ ?_⟩; (first | (with_reducible exact fixed09 _) | (with_reducible exact same.out N _ _ _ (DN1.out.ext hq) (DN.out.ext hq)) | (obtain ⟨⟨gg0, gg1, gg2, gg3, gg4⟩, _⟩ := (bd.out.ext hq).at5; go_simp; with_reducible rfl) | (obtain ⟨⟨gg0, gg1, gg2, gg3⟩, _⟩ := (bx.out.ext hq).at4; go_simp; with_reducible rfl) | (obtain ⟨⟨gg0, gg1, gg2, gg3, gg4⟩, _⟩ := (bN.out.ext hq).at5; go_simp; with_reducible rfl) | (obtain ⟨⟨gg0, gg1, gg2, gg3, gg4⟩, _⟩ := (bN2.out.ext hq).at5; go_simp; with_reducible rfl)); clear hK K))
  refine Soft.loud_g rfl rfl rfl rfl rfl (fun K hK => ?_)
  refine ⟨fun wq hq kq => ?_, fun u ⟨ka95, kc95, ca95, cc95, pa95, pc95, hu⟩ => hK _ ?_⟩
  · go_simp
    refine (c15.out _ _ (D.out.ext hq)).mono ?_
    rintro e w7 ⟨r, rfl, hD, x7⟩
    obtain ⟨ka2, kc2, ca2, cc2, pa2, pc2, rfl⟩ := hD.form3
    exact ⟨_, rfl, x7, ⟨_, _, _, _, _, _, rfl⟩, hD⟩
  clear hK K
  subst hu
  iterate 1 (first | (refine Soft.pure_n rfl rfl rfl rfl (fun K hK => ?_); go_simp; refine hK _ ?_; clear hK K) | (refine Soft.pure_g rfl rfl rfl rfl rfl (fun K hK => ?_); go_simp; refine hK _ ?_; clear hK K) | (refine Soft.shut rfl rfl rfl rfl (fun K hK => ?_); go_simp; refine hK _ ?_; clear hK K) | (refine Soft.shut0 rfl rfl rfl rfl (fun K hK => ?_); go_simp; refine hK _ ?_; clear hK K) | (refine Soft.quiet_n rfl rfl rfl rfl (fun K hK => ?_); go_simp; apply Exists.intro; refine ⟨fun wq hq => ?_, hK _ ?_⟩; (first | (with_reducible exact fixed09 _) | (with_reducible exact same.out N _ _ _ (DN1.out.ext hq) (DN.out.ext hq)) | (obtain ⟨⟨gg0, gg1, gg2, gg3, gg4⟩, _⟩ := (bd.out.ext hq).at5; go_simp; with_reducible rfl) | (obtain ⟨⟨gg0, gg1, gg2, gg3⟩, _⟩ := (bx.out.ext hq).at4; go_simp; with_reducible rfl) | (obtain ⟨⟨gg0, gg1, gg2, gg3, gg4⟩, _⟩ := (bN.out.ext hq).at5; go_simp; with_reducible rfl) | (obtain ⟨⟨gg0, gg1, gg2, gg3, gg4⟩, _⟩ := (bN2.out.ext hq).at5; go_simp; with_reducible rfl)); clear hK K) | (refine Soft.quiet_g rfl rfl rfl rfl rfl (fun K hK => ?_); go_simp; apply Exists.intro; refine ⟨fun wq hq => ?_, hK _ ?_⟩; (first | (with_reducible exact fixed09 _) | (with_reducible exact same.out N _ _ _ (DN1.out.ext hq) (DN.out.ext hq)) | (obtain ⟨⟨gg0, gg1, gg2, gg3, gg4⟩, _⟩ := (bd.out.ext hq).at5; go_simp; with_reducible rfl) | (obtain ⟨⟨gg0, gg1, gg2, gg3⟩, _⟩ := (bx.out.ext hq).at4; go_simp; with_reducible rfl) | (obtain ⟨⟨gg0, gg1, gg2, gg3, gg4⟩, _⟩ := (bN.out.ext hq).at5; go_simp; with_reducible rfl) | (obtain ⟨⟨gg0, gg1, gg2, gg3, gg4⟩, _⟩ := (bN2.out.ext hq).at5; go_simp; with_reducible rfl)); clear hK K))
  refine Soft.loud_g rfl rfl rfl rfl rfl (fun K hK => ?_)
  refine ⟨fun wq hq kq => ?_, fun u ⟨ka96, kc96, ca96, cc96, pa96, pc96, hu⟩ => hK _ ?_⟩
  · go_simp
    refine (c16.out _ _ (D.out.ext hq)).mono ?_
    rintro e w7 ⟨r, rfl, hD, x7⟩
    obtain ⟨ka2, kc2, ca2, cc2, pa2, pc2, rfl⟩ := hD.form3
    exact ⟨_, rfl, x7, ⟨_, _, _, _, _, _, rfl⟩, hD⟩
  clear hK K
  subst hu
  (refine Soft.quiet_gk rfl rfl rfl rfl rfl (fun K hK => ?_); go_simp; apply Exists.intro; refine ⟨fun wq hq kq => ?_, hK _ ?_⟩; exact same.out G _ _ _ (kq.get 29 (by kernel_rfl) rfl rfl) (kq.get 31 (by kernel_rfl) rfl rfl); clear hK K)
  iterate 17 (first | (refine Soft.pure_n rfl rfl rfl rfl (fun K hK => ?_); go_simp; refine hK _ ?_; clear hK K) | (refine Soft.pure_g rfl rfl rfl rfl rfl (fun K hK => ?_); go_simp; refine hK _ ?_; clear hK K) | (refine Soft.shut rfl rfl rfl rfl (fun K hK => ?_); go_simp; refine hK _ ?_; clear hK K) | (refine Soft.shut0 rfl rfl rfl rfl (fun K hK => ?_); go_simp; refine hK _ ?_; clear hK K) | (refine Soft.quiet_n rfl rfl rfl rfl (fun K hK => ?_); go_simp; apply Exists.intro; refine ⟨fun wq hq => ?_, hK _ ?_⟩; (first | (with_reducible exact fixed09 _) | (with_reducible exact same.out N _ _ _ (DN1.out.ext hq) (DN.out.ext hq)) | (obtain ⟨⟨gg0, gg1, gg2, gg3, gg4⟩, _⟩ := (bd.out.ext hq).at5; go_simp; with_reducible rfl) | (obtain ⟨⟨gg0, gg1, gg2, gg3⟩, _⟩ := (bx.out.ext hq).at4; go_simp; with_reducible rfl) | (obtain ⟨⟨gg0, gg1, gg2, gg3, gg4⟩, _⟩ := (bN.out.ext hq).at5; go_simp; with_reducible rfl) | (obtain ⟨⟨gg0, gg1, gg2, gg3, gg4⟩, _⟩ := (bN2.out.ext hq).at5; go_simp; with_reducible rfl)); clear hK K) | (refine Soft.quiet_g rfl rfl rfl rfl rfl (fun K hK => ?_); go_simp; apply Exists.intro; refine ⟨fun wq hq => ?_, hK _ ?_⟩; (first | (with_reducible exact fixed09 _) | (with_reducible exact same.out N _ _ _ (DN1.out.ext hq) (DN.out.ext hq)) | (obtain ⟨⟨gg0, gg1, gg2, gg3, gg4⟩, _⟩ := (bd.out.ext hq).at5; go_simp; with_reducible rfl) | (obtain ⟨⟨gg0, gg1, gg2, gg3⟩, _⟩ := (bx.out.ext hq).at4; go_simp; with_reducible rfl) | (obtain ⟨⟨gg0, gg1, gg2, gg3, gg4⟩, _⟩ := (bN.out.ext hq).at5; go_simp; with_reducible rfl) | (obtain ⟨⟨gg0, gg1, gg2, gg3, gg4⟩, _⟩ := (bN2.out.ext hq).at5; go_simp; with_reducible rfl)); clear hK K))
  refine Soft.ends (by kernel_rfl) (fun w11 x11 _ => ?_)
  replace D := Lib.hid (D.out.ext x11); replace hxk := Lib.hid (hxk.out.ext x11); replace bd := Lib.hid (bd.out.ext x11); replace bx := Lib.hid (bx.out.ext x11); replace DA1 := Lib.hid (DA1.out.ext x11); replace bA := Lib.hid (bA.out.ext x11); replace DA := Lib.hid (DA.out.ext x11); replace bA2 := Lib.hid (bA2.out.ext x11); replace DP1 := Lib.hid (DP1.out.ext x11); replace bP := Lib.hid (bP.out.ext x11); replace DP := Lib.hid (DP.out.ext x11); replace bP2 := Lib.hid (bP2.out.ext x11); replace DN1 := Lib.hid (DN1.out.ext x11); replace bN := Lib.hid (bN.out.ext x11); replace DN := Lib.hid (DN.out.ext x11); replace bN2 := Lib.hid (bN2.out.ext x11)
  replace y := Lib.hid (y.out.trans x11)
  clear x11
  go_wp2_with fail
  go_ret
  exact ⟨rfl, y.out⟩

set_option maxRecDepth 100000 in
set_option maxHeartbeats 16000000 in
theorem deviceTells_near (w : World) (d : Dev.Disk) (v : Value) (x : PutIn) (D : DiskIn w v d) (hx : x.Ok w) (hs : Dev.small d = true) (h4 : x.keep.length ≤ 400) (hfu : d.fuse ≤ 9223372036854775807) (hf : x.fuse ≤ 300) :
    Calls Try.prog 19 #[v, x.val] w fun e w' => e = .returned (.bool true) ∧ Ext w w' := by
  obtain ⟨xa, xs, xf, xkv, xk⟩ := x
  obtain ⟨_, hxf, hxk⟩ := hx
  try dsimp only at *
  have hk0 := Dev.small_keep hs
  have hl : decide ((xk.length : Int) > 400) = false := decide_eq_false (by omega)
  have h67 := fun v w h => small9_any d v w h
  rw [hs] at h67
  have c1 := fun v w h => read9_any d v xa w h
  have c2 := fun v w h => refRead_any d v xa w h
  have c3 := fun v w h => write9_any d v xa xs w h hk0 hfu
  have c4 := fun v w h => refWrite_any d v xa xs w h hfu
  have c5 := fun v w h => flush9_any d v w h hk0
  have c6 := fun v w h => refFlush_any d v w h
  have c7 := fun v w h => may_any d v w h
  have c8 := fun v w h => refMay_any d v w h
  have c9 := fun w => new9_any xf w
  have c10 := fun w => refNew_any xf w
  have c11 := fun v kp w h hk => arm9_any d v xf kp xk w h hk hk0 (by omega) hxf
  have c12 := fun v kp w h hk => refArm_any d v xf kp xk w h hk hxf
  have c13 := fun v kp w h hk => die9_any d v kp xk w h hk hk0
  have c14 := fun v kp w h hk => refDie_any d v kp xk w h hk
  have c15 := fun v w h => revive9_any d v w h hk0
  have c16 := fun v w h => refRevive_any d v w h
  obtain ⟨⟨S, e⟩, hp⟩ : ∃ p, Dev.read d xa = p := ⟨_, rfl⟩
  rw [hp] at c1 c2
  clear hp
  obtain ⟨⟨A, f⟩, hp⟩ : ∃ p, Dev.write d xa xs = p := ⟨_, rfl⟩
  rw [hp] at c3 c4
  clear hp
  obtain ⟨⟨P, g⟩, hp⟩ : ∃ p, Dev.flush d = p := ⟨_, rfl⟩
  rw [hp] at c5 c6
  clear hp
  obtain ⟨⟨N, i⟩, hp⟩ : ∃ p, Dev.new xf = p := ⟨_, rfl⟩
  rw [hp] at c9 c10
  clear hp
  generalize Dev.may d = m at c7 c8
  generalize Dev.arm d xf xk = E at c11 c12
  generalize Dev.die d xk = F at c13 c14
  generalize Dev.revive d = G at c15 c16
  dsimp only at c1 c2 c3 c4 c5 c6 c9 c10
  have same : ∀ (A : Dev.Disk) u v w, DiskIn w u A → DiskIn w v A → Calls Try.prog 75 #[u, v] w fun e w' => e = .returned (.bool true) ∧ Ext w w' := fun A u v w h h2 => by
    have := same9_any A A u v w h h2
    rwa [decide_eq_true rfl] at this
  have n1 : (m != m) = false := by simp
  have n2 : (S.toList == S.toList) = true := beq_self_eq_true _
  have n3 : (e != e) = false := by simp
  have n4 : (f != f) = false := by simp
  have n5 : (g != g) = false := by simp
  have n6 : (i == i) = true := beq_self_eq_true _
  have n7 : decide (xf > 300) = false := decide_eq_false (by omega)
  clear hs h4 hfu hk0 hf hxf
  replace h67 := Lib.hid h67; replace same := Lib.hid same; replace c1 := Lib.hid c1; replace c2 := Lib.hid c2; replace c3 := Lib.hid c3; replace c4 := Lib.hid c4; replace c5 := Lib.hid c5; replace c6 := Lib.hid c6; replace c7 := Lib.hid c7; replace c8 := Lib.hid c8; replace c9 := Lib.hid c9; replace c10 := Lib.hid c10; replace c11 := Lib.hid c11; replace c12 := Lib.hid c12; replace c13 := Lib.hid c13; replace c14 := Lib.hid c14; replace c15 := Lib.hid c15; replace c16 := Lib.hid c16
  obtain ⟨xka, xkc, rfl, _, hxc, _⟩ := sl_bool_at hxk
  have hxl : xk.length ≤ 9223372036854775807 := by omega
  obtain ⟨ka, kc, ca, cc, pa, pc, rfl⟩ := D.form3
  unfold PutIn.val
  dsimp only
  have y : Ext w ((w.alloc (.cells #[.slice ka d.kept.length kc, .slice ca d.cache.length cc, .int .i64 d.fuse, .slice pa d.keep.length pc, .bool d.dead] 69)).alloc (.cells #[.int .i64 xa, .string xs, .int .i64 xf, .slice xka xk.length xkc] 79)) := ((Ext.refl w).alloc _).alloc _
  have bd := Lib.hid ((Box.new w [.slice ka d.kept.length kc, .slice ca d.cache.length cc, .int .i64 d.fuse, .slice pa d.keep.length pc, .bool d.dead] 69).alloc (.cells #[.int .i64 xa, .string xs, .int .i64 xf, .slice xka xk.length xkc] 79))
  have bx := Lib.hid (Box.new1 w (.cells #[.slice ka d.kept.length kc, .slice ca d.cache.length cc, .int .i64 d.fuse, .slice pa d.keep.length pc, .bool d.dead] 69) [.int .i64 xa, .string xs, .int .i64 xf, .slice xka xk.length xkc] 79)
  replace D := Lib.hid (D.ext y); replace hxk := Lib.hid (hxk.ext y); replace y := Lib.hid y
  go_enter Try.func19, Try.ntmps19
  obtain ⟨⟨gbd0, gbd1, gbd2, gbd3, gbd4⟩, _⟩ := bd.out.at5
  go_wp2_with fail
  refine (h67.out _ _ D.out).mono ?_; rintro e w1 ⟨rfl, x1⟩
  clear gbd0 gbd1 gbd2 gbd3 gbd4
  replace D := Lib.hid (D.out.ext x1); replace hxk := Lib.hid (hxk.out.ext x1); replace bd := Lib.hid (bd.out.ext x1); replace bx := Lib.hid (bx.out.ext x1)
  replace y := Lib.hid (y.out.trans x1)
  clear x1
  obtain ⟨⟨gbd0, gbd1, gbd2, gbd3, gbd4⟩, _⟩ := bd.out.at5
  obtain ⟨⟨gbx0, gbx1, gbx2, gbx3⟩, _⟩ := bx.out.at4
  go_wp2_with fail
  refine (c1.out _ _ D.out).mono ?_; rintro e w2 ⟨rfl, x2⟩
  clear gbd0 gbd1 gbd2 gbd3 gbd4 gbx0 gbx1 gbx2 gbx3
  replace D := Lib.hid (D.out.ext x2); replace hxk := Lib.hid (hxk.out.ext x2); replace bd := Lib.hid (bd.out.ext x2); replace bx := Lib.hid (bx.out.ext x2)
  replace y := Lib.hid (y.out.trans x2)
  clear x2
  obtain ⟨⟨gbd0, gbd1, gbd2, gbd3, gbd4⟩, _⟩ := bd.out.at5
  obtain ⟨⟨gbx0, gbx1, gbx2, gbx3⟩, _⟩ := bx.out.at4
  go_wp2_with fail
  refine (c2.out _ _ D.out).mono ?_; rintro e w3 ⟨rfl, x3⟩
  clear gbd0 gbd1 gbd2 gbd3 gbd4 gbx0 gbx1 gbx2 gbx3
  replace D := Lib.hid (D.out.ext x3); replace hxk := Lib.hid (hxk.out.ext x3); replace bd := Lib.hid (bd.out.ext x3); replace bx := Lib.hid (bx.out.ext x3)
  replace y := Lib.hid (y.out.trans x3)
  clear x3
  obtain ⟨⟨gbd0, gbd1, gbd2, gbd3, gbd4⟩, _⟩ := bd.out.at5
  obtain ⟨⟨gbx0, gbx1, gbx2, gbx3⟩, _⟩ := bx.out.at4
  go_wp2_with fail
  refine (c3.out _ _ D.out).mono ?_; rintro e w4 ⟨r4, rfl, DA, x4⟩
  clear gbd0 gbd1 gbd2 gbd3 gbd4 gbx0 gbx1 gbx2 gbx3
  replace D := Lib.hid (D.out.ext x4); replace hxk := Lib.hid (hxk.out.ext x4); replace bd := Lib.hid (bd.out.ext x4); replace bx := Lib.hid (bx.out.ext x4)
  replace y := Lib.hid (y.out.trans x4)
  clear x4
  obtain ⟨ka4, kc4, ca4, cc4, pa4, pc4, rfl⟩ := DA.form3
  replace DA := Lib.hid DA
  have xb : Ext w4 (w4.alloc (.cells #[.slice ka4 A.kept.length kc4, .slice ca4 A.cache.length cc4, .int .i64 A.fuse, .slice pa4 A.keep.length pc4, .bool A.dead] 69)) := (Ext.refl _).alloc _
  replace D := Lib.hid (D.out.ext xb); replace hxk := Lib.hid (hxk.out.ext xb); replace bd := Lib.hid (bd.out.ext xb); replace bx := Lib.hid (bx.out.ext xb); replace DA := Lib.hid (DA.out.ext xb)
  replace y := Lib.hid (y.out.trans xb)
  clear xb
  have bA := Lib.hid (Box.new w4 [.slice ka4 A.kept.length kc4, .slice ca4 A.cache.length cc4, .int .i64 A.fuse, .slice pa4 A.keep.length pc4, .bool A.dead] 69)
  have DA1 := DA
  clear DA
  obtain ⟨⟨gbd0, gbd1, gbd2, gbd3, gbd4⟩, _⟩ := bd.out.at5
  obtain ⟨⟨gbx0, gbx1, gbx2, gbx3⟩, _⟩ := bx.out.at4
  go_wp2_with fail
  refine (c4.out _ _ D.out).mono ?_; rintro e w5 ⟨r5, rfl, DA, x5⟩
  clear gbd0 gbd1 gbd2 gbd3 gbd4 gbx0 gbx1 gbx2 gbx3
  replace D := Lib.hid (D.out.ext x5); replace hxk := Lib.hid (hxk.out.ext x5); replace bd := Lib.hid (bd.out.ext x5); replace bx := Lib.hid (bx.out.ext x5); replace DA1 := Lib.hid (DA1.out.ext x5); replace bA := Lib.hid (bA.out.ext x5)
  replace y := Lib.hid (y.out.trans x5)
  clear x5
  obtain ⟨ka5, kc5, ca5, cc5, pa5, pc5, rfl⟩ := DA.form3
  replace DA := Lib.hid DA
  have xb : Ext w5 (w5.alloc (.cells #[.slice ka5 A.kept.length kc5, .slice ca5 A.cache.length cc5, .int .i64 A.fuse, .slice pa5 A.keep.length pc5, .bool A.dead] 69)) := (Ext.refl _).alloc _
  replace D := Lib.hid (D.out.ext xb); replace hxk := Lib.hid (hxk.out.ext xb); replace bd := Lib.hid (bd.out.ext xb); replace bx := Lib.hid (bx.out.ext xb); replace DA1 := Lib.hid (DA1.out.ext xb); replace bA := Lib.hid (bA.out.ext xb); replace DA := Lib.hid (DA.out.ext xb)
  replace y := Lib.hid (y.out.trans xb)
  clear xb
  have bA2 := Lib.hid (Box.new w5 [.slice ka5 A.kept.length kc5, .slice ca5 A.cache.length cc5, .int .i64 A.fuse, .slice pa5 A.keep.length pc5, .bool A.dead] 69)
  obtain ⟨⟨gbd0, gbd1, gbd2, gbd3, gbd4⟩, _⟩ := bd.out.at5
  go_wp2_with fail
  refine (c5.out _ _ D.out).mono ?_; rintro e w6 ⟨r6, rfl, DP, x6⟩
  clear gbd0 gbd1 gbd2 gbd3 gbd4
  replace D := Lib.hid (D.out.ext x6); replace hxk := Lib.hid (hxk.out.ext x6); replace bd := Lib.hid (bd.out.ext x6); replace bx := Lib.hid (bx.out.ext x6); replace DA1 := Lib.hid (DA1.out.ext x6); replace bA := Lib.hid (bA.out.ext x6); replace DA := Lib.hid (DA.out.ext x6); replace bA2 := Lib.hid (bA2.out.ext x6)
  replace y := Lib.hid (y.out.trans x6)
  clear x6
  obtain ⟨ka6, kc6, ca6, cc6, pa6, pc6, rfl⟩ := DP.form3
  replace DP := Lib.hid DP
  have xb : Ext w6 (w6.alloc (.cells #[.slice ka6 P.kept.length kc6, .slice ca6 P.cache.length cc6, .int .i64 P.fuse, .slice pa6 P.keep.length pc6, .bool P.dead] 69)) := (Ext.refl _).alloc _
  replace D := Lib.hid (D.out.ext xb); replace hxk := Lib.hid (hxk.out.ext xb); replace bd := Lib.hid (bd.out.ext xb); replace bx := Lib.hid (bx.out.ext xb); replace DA1 := Lib.hid (DA1.out.ext xb); replace bA := Lib.hid (bA.out.ext xb); replace DA := Lib.hid (DA.out.ext xb); replace bA2 := Lib.hid (bA2.out.ext xb); replace DP := Lib.hid (DP.out.ext xb)
  replace y := Lib.hid (y.out.trans xb)
  clear xb
  have bP := Lib.hid (Box.new w6 [.slice ka6 P.kept.length kc6, .slice ca6 P.cache.length cc6, .int .i64 P.fuse, .slice pa6 P.keep.length pc6, .bool P.dead] 69)
  have DP1 := DP
  clear DP
  obtain ⟨⟨gbd0, gbd1, gbd2, gbd3, gbd4⟩, _⟩ := bd.out.at5
  go_wp2_with fail
  refine (c6.out _ _ D.out).mono ?_; rintro e w7 ⟨r7, rfl, DP, x7⟩
  clear gbd0 gbd1 gbd2 gbd3 gbd4
  replace D := Lib.hid (D.out.ext x7); replace hxk := Lib.hid (hxk.out.ext x7); replace bd := Lib.hid (bd.out.ext x7); replace bx := Lib.hid (bx.out.ext x7); replace DA1 := Lib.hid (DA1.out.ext x7); replace bA := Lib.hid (bA.out.ext x7); replace DA := Lib.hid (DA.out.ext x7); replace bA2 := Lib.hid (bA2.out.ext x7); replace DP1 := Lib.hid (DP1.out.ext x7); replace bP := Lib.hid (bP.out.ext x7)
  replace y := Lib.hid (y.out.trans x7)
  clear x7
  obtain ⟨ka7, kc7, ca7, cc7, pa7, pc7, rfl⟩ := DP.form3
  replace DP := Lib.hid DP
  have xb : Ext w7 (w7.alloc (.cells #[.slice ka7 P.kept.length kc7, .slice ca7 P.cache.length cc7, .int .i64 P.fuse, .slice pa7 P.keep.length pc7, .bool P.dead] 69)) := (Ext.refl _).alloc _
  replace D := Lib.hid (D.out.ext xb); replace hxk := Lib.hid (hxk.out.ext xb); replace bd := Lib.hid (bd.out.ext xb); replace bx := Lib.hid (bx.out.ext xb); replace DA1 := Lib.hid (DA1.out.ext xb); replace bA := Lib.hid (bA.out.ext xb); replace DA := Lib.hid (DA.out.ext xb); replace bA2 := Lib.hid (bA2.out.ext xb); replace DP1 := Lib.hid (DP1.out.ext xb); replace bP := Lib.hid (bP.out.ext xb); replace DP := Lib.hid (DP.out.ext xb)
  replace y := Lib.hid (y.out.trans xb)
  clear xb
  have bP2 := Lib.hid (Box.new w7 [.slice ka7 P.kept.length kc7, .slice ca7 P.cache.length cc7, .int .i64 P.fuse, .slice pa7 P.keep.length pc7, .bool P.dead] 69)
  go_wp2_with fail
  refine Soft.region_ext [] [0, 1, 2, 3, 4, 5, 6, 7, 8, 9, 10, 11, 12, 13, 14, 15, 16, 17, 18, 19, 20, 21, 22, 23, 24, 25, 26, 27, 28, 29, 30, 31, 32, 33, 34, 35, 36] [] (by kernel_rfl) (by kernel_rfl) Soft.stab_none ?_
  repeat (first | (refine Soft.pure_n rfl rfl rfl rfl (fun K hK => ?_); go_simp; refine hK _ ?_; clear hK K) | (refine Soft.pure_g rfl rfl rfl rfl rfl (fun K hK => ?_); go_simp; refine hK _ ?_; clear hK K) | (refine Soft.shut rfl rfl rfl rfl (fun K hK => ?_); go_simp; refine hK _ ?_; clear hK K) | (refine Soft.shut0 rfl rfl rfl rfl (fun K hK => ?_); go_simp; refine hK _ ?_; clear hK K) | (refine Soft.quiet_n rfl rfl rfl rfl (fun K hK => ?_); go_simp; apply Exists.intro; refine ⟨fun wq hq => ?_, hK _ ?_⟩; (first | (with_reducible exact c7.out _ _ (D.out.ext hq)) | (with_reducible exact c8.out _ _ (D.out.ext hq)) | (with_reducible exact same.out A _ _ _ (DA1.out.ext hq) (DA.out.ext hq)) | (with_reducible exact same.out P _ _ _ (DP1.out.ext hq) (DP.out.ext hq)) | (obtain ⟨⟨gg0, gg1, gg2, gg3, gg4⟩, _⟩ := (bd.out.ext hq).at5; go_simp; with_reducible rfl) | (obtain ⟨⟨gg0, gg1, gg2, gg3, gg4⟩, _⟩ := (bA.out.ext hq).at5; go_simp; with_reducible rfl) | (obtain ⟨⟨gg0, gg1, gg2, gg3, gg4⟩, _⟩ := (bA2.out.ext hq).at5; go_simp; with_reducible rfl) | (obtain ⟨⟨gg0, gg1, gg2, gg3, gg4⟩, _⟩ := (bP.out.ext hq).at5; go_simp; with_reducible rfl) | (obtain ⟨⟨gg0, gg1, gg2, gg3, gg4⟩, _⟩ := (bP2.out.ext hq).at5; go_simp; with_reducible rfl)); clear hK K) | (refine Soft.quiet_g rfl rfl rfl rfl rfl (fun K hK => ?_); go_simp; apply Exists.intro; refine ⟨fun wq hq => ?_, hK _ ?_⟩; (first | (with_reducible exact c7.out _ _ (D.out.ext hq)) | (with_reducible exact c8.out _ _ (D.out.ext hq)) | (with_reducible exact same.out A _ _ _ (DA1.out.ext hq) (DA.out.ext hq)) | (with_reducible exact same.out P _ _ _ (DP1.out.ext hq) (DP.out.ext hq)) | (obtain ⟨⟨gg0, gg1, gg2, gg3, gg4⟩, _⟩ := (bd.out.ext hq).at5; go_simp; with_reducible rfl) | (obtain ⟨⟨gg0, gg1, gg2, gg3, gg4⟩, _⟩ := (bA.out.ext hq).at5; go_simp; with_reducible rfl) | (obtain ⟨⟨gg0, gg1, gg2, gg3, gg4⟩, _⟩ := (bA2.out.ext hq).at5; go_simp; with_reducible rfl) | (obtain ⟨⟨gg0, gg1, gg2, gg3, gg4⟩, _⟩ := (bP.out.ext hq).at5; go_simp; with_reducible rfl) | (obtain ⟨⟨gg0, gg1, gg2, gg3, gg4⟩, _⟩ := (bP2.out.ext hq).at5; go_simp; with_reducible rfl)); clear hK K))
  refine Soft.ends (by kernel_rfl) (fun w8 x8 _ => ?_)
  replace D := Lib.hid (D.out.ext x8); replace hxk := Lib.hid (hxk.out.ext x8); replace bd := Lib.hid (bd.out.ext x8); replace bx := Lib.hid (bx.out.ext x8); replace DA1 := Lib.hid (DA1.out.ext x8); replace bA := Lib.hid (bA.out.ext x8); replace DA := Lib.hid (DA.out.ext x8); replace bA2 := Lib.hid (bA2.out.ext x8); replace DP1 := Lib.hid (DP1.out.ext x8); replace bP := Lib.hid (bP.out.ext x8); replace DP := Lib.hid (DP.out.ext x8); replace bP2 := Lib.hid (bP2.out.ext x8)
  replace y := Lib.hid (y.out.trans x8)
  clear x8
  obtain ⟨⟨gbx0, gbx1, gbx2, gbx3⟩, _⟩ := bx.out.at4
  go_wp2_with fail
  refine (c9.out _).mono ?_; rintro e w9 ⟨r9, rfl, DN, x9⟩
  clear gbx0 gbx1 gbx2 gbx3
  replace D := Lib.hid (D.out.ext x9); replace hxk := Lib.hid (hxk.out.ext x9); replace bd := Lib.hid (bd.out.ext x9); replace bx := Lib.hid (bx.out.ext x9); replace DA1 := Lib.hid (DA1.out.ext x9); replace bA := Lib.hid (bA.out.ext x9); replace DA := Lib.hid (DA.out.ext x9); replace bA2 := Lib.hid (bA2.out.ext x9); replace DP1 := Lib.hid (DP1.out.ext x9); replace bP := Lib.hid (bP.out.ext x9); replace DP := Lib.hid (DP.out.ext x9); replace bP2 := Lib.hid (bP2.out.ext x9)
  replace y := Lib.hid (y.out.trans x9)
  clear x9
  obtain ⟨ka9, kc9, ca9, cc9, pa9, pc9, rfl⟩ := DN.form3
  replace DN := Lib.hid DN
  have xb : Ext w9 (w9.alloc (.cells #[.slice ka9 N.kept.length kc9, .slice ca9 N.cache.length cc9, .int .i64 N.fuse, .slice pa9 N.keep.length pc9, .bool N.dead] 69)) := (Ext.refl _).alloc _
  replace D := Lib.hid (D.out.ext xb); replace hxk := Lib.hid (hxk.out.ext xb); replace bd := Lib.hid (bd.out.ext xb); replace bx := Lib.hid (bx.out.ext xb); replace DA1 := Lib.hid (DA1.out.ext xb); replace bA := Lib.hid (bA.out.ext xb); replace DA := Lib.hid (DA.out.ext xb); replace bA2 := Lib.hid (bA2.out.ext xb); replace DP1 := Lib.hid (DP1.out.ext xb); replace bP := Lib.hid (bP.out.ext xb); replace DP := Lib.hid (DP.out.ext xb); replace bP2 := Lib.hid (bP2.out.ext xb); replace DN := Lib.hid (DN.out.ext xb)
  replace y := Lib.hid (y.out.trans xb)
  clear xb
  have bN := Lib.hid (Box.new w9 [.slice ka9 N.kept.length kc9, .slice ca9 N.cache.length cc9, .int .i64 N.fuse, .slice pa9 N.keep.length pc9, .bool N.dead] 69)
  have DN1 := DN
  clear DN
  obtain ⟨⟨gbx0, gbx1, gbx2, gbx3⟩, _⟩ := bx.out.at4
  go_wp2_with fail
  refine (c10.out _).mono ?_; rintro e w10 ⟨r10, rfl, DN, x10⟩
  clear gbx0 gbx1 gbx2 gbx3
  replace D := Lib.hid (D.out.ext x10); replace hxk := Lib.hid (hxk.out.ext x10); replace bd := Lib.hid (bd.out.ext x10); replace bx := Lib.hid (bx.out.ext x10); replace DA1 := Lib.hid (DA1.out.ext x10); replace bA := Lib.hid (bA.out.ext x10); replace DA := Lib.hid (DA.out.ext x10); replace bA2 := Lib.hid (bA2.out.ext x10); replace DP1 := Lib.hid (DP1.out.ext x10); replace bP := Lib.hid (bP.out.ext x10); replace DP := Lib.hid (DP.out.ext x10); replace bP2 := Lib.hid (bP2.out.ext x10); replace DN1 := Lib.hid (DN1.out.ext x10); replace bN := Lib.hid (bN.out.ext x10)
  replace y := Lib.hid (y.out.trans x10)
  clear x10
  obtain ⟨ka10, kc10, ca10, cc10, pa10, pc10, rfl⟩ := DN.form3
  replace DN := Lib.hid DN
  have xb : Ext w10 (w10.alloc (.cells #[.slice ka10 N.kept.length kc10, .slice ca10 N.cache.length cc10, .int .i64 N.fuse, .slice pa10 N.keep.length pc10, .bool N.dead] 69)) := (Ext.refl _).alloc _
  replace D := Lib.hid (D.out.ext xb); replace hxk := Lib.hid (hxk.out.ext xb); replace bd := Lib.hid (bd.out.ext xb); replace bx := Lib.hid (bx.out.ext xb); replace DA1 := Lib.hid (DA1.out.ext xb); replace bA := Lib.hid (bA.out.ext xb); replace DA := Lib.hid (DA.out.ext xb); replace bA2 := Lib.hid (bA2.out.ext xb); replace DP1 := Lib.hid (DP1.out.ext xb); replace bP := Lib.hid (bP.out.ext xb); replace DP := Lib.hid (DP.out.ext xb); replace bP2 := Lib.hid (bP2.out.ext xb); replace DN1 := Lib.hid (DN1.out.ext xb); replace bN := Lib.hid (bN.out.ext xb); replace DN := Lib.hid (DN.out.ext xb)
  replace y := Lib.hid (y.out.trans xb)
  clear xb
  have bN2 := Lib.hid (Box.new w10 [.slice ka10 N.kept.length kc10, .slice ca10 N.cache.length cc10, .int .i64 N.fuse, .slice pa10 N.keep.length pc10, .bool N.dead] 69)
  go_wp2_with fail
  refine Soft.region_ext [(7, Soft.disk1 E E.kept.length E.cache.length E.keep.length E.fuse E.dead), (13, Soft.disk1 E E.kept.length E.cache.length E.keep.length E.fuse E.dead), (20, Soft.disk1 F F.kept.length F.cache.length F.keep.length F.fuse F.dead), (24, Soft.disk1 F F.kept.length F.cache.length F.keep.length F.fuse F.dead), (29, Soft.disk1 G G.kept.length G.cache.length G.keep.length G.fuse G.dead), (31, Soft.disk1 G G.kept.length G.cache.length G.keep.length G.fuse G.dead)] [0, 1, 2, 3, 4, 5, 6, 7, 8, 9, 10, 11, 12, 13, 14, 15, 16, 17, 18, 19, 20, 21, 22, 23, 24, 25, 26, 27, 28, 29, 30, 31, 32, 33, 34, 35, 36, 37, 38, 39, 40, 41, 42, 43, 44, 45, 46, 47, 48, 49] [] (by kernel_rfl) (by kernel_rfl) (Soft.stab_more (fun _ _ _ => Soft.disk1_stab) (Soft.stab_more (fun _ _ _ => Soft.disk1_stab) (Soft.stab_more (fun _ _ _ => Soft.disk1_stab) (Soft.stab_more (fun _ _ _ => Soft.disk1_stab) (Soft.stab_more (fun _ _ _ => Soft.disk1_stab) (Soft.stab_one fun _ _ _ => Soft.disk1_stab)))))) ?_
  iterate 7 (first | (refine Soft.pure_n rfl rfl rfl rfl (fun K hK => ?_); go_simp; refine hK _ ?_; clear hK K) | (refine Soft.pure_g rfl rfl rfl rfl rfl (fun K hK => ?_); go_simp; refine hK _ ?_; clear hK K) | (refine Soft.shut rfl rfl rfl rfl (fun K hK => ?_); go_simp; refine hK _ ?_; clear hK K) | (refine Soft.shut0 rfl rfl rfl rfl (fun K hK => ?_); go_simp; refine hK _ ?_; clear hK K) | (refine Soft.quiet_n rfl rfl rfl rfl (fun K hK => ?_); go_simp; apply Exists.intro; refine ⟨fun wq hq => ?_, hK _ ?_⟩; (first | (with_reducible exact fixed09 _) | (with_reducible exact same.out N _ _ _ (DN1.out.ext hq) (DN.out.ext hq)) | (obtain ⟨⟨gg0, gg1, gg2, gg3, gg4⟩, _⟩ := (bd.out.ext hq).at5; go_simp; with_reducible rfl) | (obtain ⟨⟨gg0, gg1, gg2, gg3⟩, _⟩ := (bx.out.ext hq).at4; go_simp; with_reducible rfl) | (obtain ⟨⟨gg0, gg1, gg2, gg3, gg4⟩, _⟩ := (bN.out.ext hq).at5; go_simp; with_reducible rfl) | (obtain ⟨⟨gg0, gg1, gg2, gg3, gg4⟩, _⟩ := (bN2.out.ext hq).at5; go_simp; with_reducible rfl)); clear hK K) | (refine Soft.quiet_g rfl rfl rfl rfl rfl (fun K hK => ?_); go_simp; apply Exists.intro; refine ⟨fun wq hq => ?_, hK _ ?_⟩; (first | (with_reducible exact fixed09 _) | (with_reducible exact same.out N _ _ _ (DN1.out.ext hq) (DN.out.ext hq)) | (obtain ⟨⟨gg0, gg1, gg2, gg3, gg4⟩, _⟩ := (bd.out.ext hq).at5; go_simp; with_reducible rfl) | (obtain ⟨⟨gg0, gg1, gg2, gg3⟩, _⟩ := (bx.out.ext hq).at4; go_simp; with_reducible rfl) | (obtain ⟨⟨gg0, gg1, gg2, gg3, gg4⟩, _⟩ := (bN.out.ext hq).at5; go_simp; with_reducible rfl) | (obtain ⟨⟨gg0, gg1, gg2, gg3, gg4⟩, _⟩ := (bN2.out.ext hq).at5; go_simp; with_reducible rfl)); clear hK K))
  refine Soft.loud_g rfl rfl rfl rfl rfl (fun K hK => ?_)
  refine ⟨fun wq hq kq => ?_, fun u ⟨ka91, kc91, ca91, cc91, pa91, pc91, hu⟩ => hK _ ?_⟩
  · go_simp
    refine (c11.out _ _ _ (D.out.ext hq) (hxk.out.ext hq)).mono ?_
    rintro e w7 ⟨r, rfl, hD, x7⟩
    obtain ⟨ka2, kc2, ca2, cc2, pa2, pc2, rfl⟩ := hD.form3
    exact ⟨_, rfl, x7, ⟨_, _, _, _, _, _, rfl⟩, hD⟩
  clear hK K
  subst hu
  iterate 5 (first | (refine Soft.pure_n rfl rfl rfl rfl (fun K hK => ?_); go_simp; refine hK _ ?_; clear hK K) | (refine Soft.pure_g rfl rfl rfl rfl rfl (fun K hK => ?_); go_simp; refine hK _ ?_; clear hK K) | (refine Soft.shut rfl rfl rfl rfl (fun K hK => ?_); go_simp; refine hK _ ?_; clear hK K) | (refine Soft.shut0 rfl rfl rfl rfl (fun K hK => ?_); go_simp; refine hK _ ?_; clear hK K) | (refine Soft.quiet_n rfl rfl rfl rfl (fun K hK => ?_); go_simp; apply Exists.intro; refine ⟨fun wq hq => ?_, hK _ ?_⟩; (first | (with_reducible exact fixed09 _) | (with_reducible exact same.out N _ _ _ (DN1.out.ext hq) (DN.out.ext hq)) | (obtain ⟨⟨gg0, gg1, gg2, gg3, gg4⟩, _⟩ := (bd.out.ext hq).at5; go_simp; with_reducible rfl) | (obtain ⟨⟨gg0, gg1, gg2, gg3⟩, _⟩ := (bx.out.ext hq).at4; go_simp; with_reducible rfl) | (obtain ⟨⟨gg0, gg1, gg2, gg3, gg4⟩, _⟩ := (bN.out.ext hq).at5; go_simp; with_reducible rfl) | (obtain ⟨⟨gg0, gg1, gg2, gg3, gg4⟩, _⟩ := (bN2.out.ext hq).at5; go_simp; with_reducible rfl)); clear hK K) | (refine Soft.quiet_g rfl rfl rfl rfl rfl (fun K hK => ?_); go_simp; apply Exists.intro; refine ⟨fun wq hq => ?_, hK _ ?_⟩; (first | (with_reducible exact fixed09 _) | (with_reducible exact same.out N _ _ _ (DN1.out.ext hq) (DN.out.ext hq)) | (obtain ⟨⟨gg0, gg1, gg2, gg3, gg4⟩, _⟩ := (bd.out.ext hq).at5; go_simp; with_reducible rfl) | (obtain ⟨⟨gg0, gg1, gg2, gg3⟩, _⟩ := (bx.out.ext hq).at4; go_simp; with_reducible rfl) | (obtain ⟨⟨gg0, gg1, gg2, gg3, gg4⟩, _⟩ := (bN.out.ext hq).at5; go_simp; with_reducible rfl) | (obtain ⟨⟨gg0, gg1, gg2, gg3, gg4⟩, _⟩ := (bN2.out.ext hq).at5; go_simp; with_reducible rfl)); clear hK K))
  refine Soft.loud_g rfl rfl rfl rfl rfl (fun K hK => ?_)
  refine ⟨fun wq hq kq => ?_, fun u ⟨ka92, kc92, ca92, cc92, pa92, pc92, hu⟩ => hK _ ?_⟩
  · go_simp
    refine (c12.out _ _ _ (D.out.ext hq) (hxk.out.ext hq)).mono ?_
    rintro e w7 ⟨r, rfl, hD, x7⟩
    obtain ⟨ka2, kc2, ca2, cc2, pa2, pc2, rfl⟩ := hD.form3
    exact ⟨_, rfl, x7, ⟨_, _, _, _, _, _, rfl⟩, hD⟩
  clear hK K
  subst hu
  (refine Soft.quiet_gk rfl rfl rfl rfl rfl (fun K hK => ?_); go_simp; apply Exists.intro; refine ⟨fun wq hq kq => ?_, hK _ ?_⟩; exact same.out E _ _ _ (kq.get 7 (by kernel_rfl) rfl rfl) (kq.get 13 (by kernel_rfl) rfl rfl); clear hK K)
  iterate 5 (first | (refine Soft.pure_n rfl rfl rfl rfl (fun K hK => ?_); go_simp; refine hK _ ?_; clear hK K) | (refine Soft.pure_g rfl rfl rfl rfl rfl (fun K hK => ?_); go_simp; refine hK _ ?_; clear hK K) | (refine Soft.shut rfl rfl rfl rfl (fun K hK => ?_); go_simp; refine hK _ ?_; clear hK K) | (refine Soft.shut0 rfl rfl rfl rfl (fun K hK => ?_); go_simp; refine hK _ ?_; clear hK K) | (refine Soft.quiet_n rfl rfl rfl rfl (fun K hK => ?_); go_simp; apply Exists.intro; refine ⟨fun wq hq => ?_, hK _ ?_⟩; (first | (with_reducible exact fixed09 _) | (with_reducible exact same.out N _ _ _ (DN1.out.ext hq) (DN.out.ext hq)) | (obtain ⟨⟨gg0, gg1, gg2, gg3, gg4⟩, _⟩ := (bd.out.ext hq).at5; go_simp; with_reducible rfl) | (obtain ⟨⟨gg0, gg1, gg2, gg3⟩, _⟩ := (bx.out.ext hq).at4; go_simp; with_reducible rfl) | (obtain ⟨⟨gg0, gg1, gg2, gg3, gg4⟩, _⟩ := (bN.out.ext hq).at5; go_simp; with_reducible rfl) | (obtain ⟨⟨gg0, gg1, gg2, gg3, gg4⟩, _⟩ := (bN2.out.ext hq).at5; go_simp; with_reducible rfl)); clear hK K) | (refine Soft.quiet_g rfl rfl rfl rfl rfl (fun K hK => ?_); go_simp; apply Exists.intro; refine ⟨fun wq hq => ?_, hK _ ?_⟩; (first | (with_reducible exact fixed09 _) | (with_reducible exact same.out N _ _ _ (DN1.out.ext hq) (DN.out.ext hq)) | (obtain ⟨⟨gg0, gg1, gg2, gg3, gg4⟩, _⟩ := (bd.out.ext hq).at5; go_simp; with_reducible rfl) | (obtain ⟨⟨gg0, gg1, gg2, gg3⟩, _⟩ := (bx.out.ext hq).at4; go_simp; with_reducible rfl) | (obtain ⟨⟨gg0, gg1, gg2, gg3, gg4⟩, _⟩ := (bN.out.ext hq).at5; go_simp; with_reducible rfl) | (obtain ⟨⟨gg0, gg1, gg2, gg3, gg4⟩, _⟩ := (bN2.out.ext hq).at5; go_simp; with_reducible rfl)); clear hK K))
  refine Soft.loud_g rfl rfl rfl rfl rfl (fun K hK => ?_)
  refine ⟨fun wq hq kq => ?_, fun u ⟨ka93, kc93, ca93, cc93, pa93, pc93, hu⟩ => hK _ ?_⟩
  · go_simp
    refine (c13.out _ _ _ (D.out.ext hq) (hxk.out.ext hq)).mono ?_
    rintro e w7 ⟨r, rfl, hD, x7⟩
    obtain ⟨ka2, kc2, ca2, cc2, pa2, pc2, rfl⟩ := hD.form3
    exact ⟨_, rfl, x7, ⟨_, _, _, _, _, _, rfl⟩, hD⟩
  clear hK K
  subst hu
  iterate 3 (first | (refine Soft.pure_n rfl rfl rfl rfl (fun K hK => ?_); go_simp; refine hK _ ?_; clear hK K) | (refine Soft.pure_g rfl rfl rfl rfl rfl (fun K hK => ?_); go_simp; refine hK _ ?_; clear hK K) | (refine Soft.shut rfl rfl rfl rfl (fun K hK => ?_); go_simp; refine hK _ ?_; clear hK K) | (refine Soft.shut0 rfl rfl rfl rfl (fun K hK => ?_); go_simp; refine hK _ ?_; clear hK K) | (refine Soft.quiet_n rfl rfl rfl rfl (fun K hK => ?_); go_simp; apply Exists.intro; refine ⟨fun wq hq => ?_, hK _ ?_⟩; (first | (with_reducible exact fixed09 _) | (with_reducible exact same.out N _ _ _ (DN1.out.ext hq) (DN.out.ext hq)) | (obtain ⟨⟨gg0, gg1, gg2, gg3, gg4⟩, _⟩ := (bd.out.ext hq).at5; go_simp; with_reducible rfl) | (obtain ⟨⟨gg0, gg1, gg2, gg3⟩, _⟩ := (bx.out.ext hq).at4; go_simp; with_reducible rfl) | (obtain ⟨⟨gg0, gg1, gg2, gg3, gg4⟩, _⟩ := (bN.out.ext hq).at5; go_simp; with_reducible rfl) | (obtain ⟨⟨gg0, gg1, gg2, gg3, gg4⟩, _⟩ := (bN2.out.ext hq).at5; go_simp; with_reducible rfl)); clear hK K) | (refine Soft.quiet_g rfl rfl rfl rfl rfl (fun K hK => ?_); go_simp; apply Exists.intro; refine ⟨fun wq hq => ?_, hK _ ?_⟩; (first | (with_reducible exact fixed09 _) | (with_reducible exact same.out N _ _ _ (DN1.out.ext hq) (DN.out.ext hq)) | (obtain ⟨⟨gg0, gg1, gg2, gg3, gg4⟩, _⟩ := (bd.out.ext hq).at5; go_simp; with_reducible rfl) | (obtain ⟨⟨gg0, gg1, gg2, gg3⟩, _⟩ := (bx.out.ext hq).at4; go_simp; with_reducible rfl) | (obtain ⟨⟨gg0, gg1, gg2, gg3, gg4⟩, _⟩ := (bN.out.ext hq).at5; go_simp; with_reducible rfl) | (obtain ⟨⟨gg0, gg1, gg2, gg3, gg4⟩, _⟩ := (bN2.out.ext hq).at5; go_simp; with_reducible rfl)); clear hK K))
  refine Soft.loud_g rfl rfl rfl rfl rfl (fun K hK => ?_)
  refine ⟨fun wq hq kq => ?_, fun u ⟨ka94, kc94, ca94, cc94, pa94, pc94, hu⟩ => hK _ ?_⟩
  · go_simp
    refine (c14.out _ _ _ (D.out.ext hq) (hxk.out.ext hq)).mono ?_
    rintro e w7 ⟨r, rfl, hD, x7⟩
    obtain ⟨ka2, kc2, ca2, cc2, pa2, pc2, rfl⟩ := hD.form3
    exact ⟨_, rfl, x7, ⟨_, _, _, _, _, _, rfl⟩, hD⟩
  clear hK K
  subst hu
  (refine Soft.quiet_gk rfl rfl rfl rfl rfl (fun K hK => ?_); go_simp; apply Exists.intro; refine ⟨fun wq hq kq => ?_, hK _ ?_⟩; exact same.out F _ _ _ (kq.get 20 (by kernel_rfl) rfl rfl) (kq.get 24 (by kernel_rfl) rfl rfl); clear hK K)
  iterate 3 (first | (refine Soft.pure_n rfl rfl rfl rfl (fun K hK => ?_); go_simp; refine hK _ ?_; clear hK K) | (refine Soft.pure_g rfl rfl rfl rfl rfl (fun K hK => ?_); go_simp; refine hK _ ?_; clear hK K) | (refine Soft.shut rfl rfl rfl rfl (fun K hK => ?_); go_simp; refine hK _ ?_; clear hK K) | (refine Soft.shut0 rfl rfl rfl rfl (fun K hK => ?_); go_simp; refine hK _ ?_; clear hK K) | (refine Soft.quiet_n rfl rfl rfl rfl (fun K hK => ?_); go_simp; apply Exists.intro; refine ⟨fun wq hq => ?_, hK _ ?_⟩; (first | (with_reducible exact fixed09 _) | (with_reducible exact same.out N _ _ _ (DN1.out.ext hq) (DN.out.ext hq)) | (obtain ⟨⟨gg0, gg1, gg2, gg3, gg4⟩, _⟩ := (bd.out.ext hq).at5; go_simp; with_reducible rfl) | (obtain ⟨⟨gg0, gg1, gg2, gg3⟩, _⟩ := (bx.out.ext hq).at4; go_simp; with_reducible rfl) | (obtain ⟨⟨gg0, gg1, gg2, gg3, gg4⟩, _⟩ := (bN.out.ext hq).at5; go_simp; with_reducible rfl) | (obtain ⟨⟨gg0, gg1, gg2, gg3, gg4⟩, _⟩ := (bN2.out.ext hq).at5; go_simp; with_reducible rfl)); clear hK K) | (refine Soft.quiet_g rfl rfl rfl rfl rfl (fun K hK => ?_); go_simp; apply Exists.intro; refine ⟨fun wq hq => ?_, hK _ ?_⟩; (first | (with_reducible exact fixed09 _) | (with_reducible exact same.out N _ _ _ (DN1.out.ext hq) (DN.out.ext hq)) | (obtain ⟨⟨gg0, gg1, gg2, gg3, gg4⟩, _⟩ := (bd.out.ext hq).at5; go_simp; with_reducible rfl) | (obtain ⟨⟨gg0, gg1, gg2, gg3⟩, _⟩ := (bx.out.ext hq).at4; go_simp; with_reducible rfl) | (obtain ⟨⟨gg0, gg1, gg2, gg3, gg4⟩, _⟩ := (bN.out.ext hq).at5; go_simp; with_reducible rfl) | (obtain ⟨⟨gg0, gg1, gg2, gg3, gg4⟩, _⟩ := (bN2.out.ext hq).at5; go_simp; with_reducible rfl)); clear hK K))
  refine Soft.loud_g rfl rfl rfl rfl rfl (fun K hK => ?_)
  refine ⟨fun wq hq kq => ?_, fun u ⟨ka95, kc95, ca95, cc95, pa95, pc95, hu⟩ => hK _ ?_⟩
  · go_simp
    refine (c15.out _ _ (D.out.ext hq)).mono ?_
    rintro e w7 ⟨r, rfl, hD, x7⟩
    obtain ⟨ka2, kc2, ca2, cc2, pa2, pc2, rfl⟩ := hD.form3
    exact ⟨_, rfl, x7, ⟨_, _, _, _, _, _, rfl⟩, hD⟩
  clear hK K
  subst hu
  iterate 1 (first | (refine Soft.pure_n rfl rfl rfl rfl (fun K hK => ?_); go_simp; refine hK _ ?_; clear hK K) | (refine Soft.pure_g rfl rfl rfl rfl rfl (fun K hK => ?_); go_simp; refine hK _ ?_; clear hK K) | (refine Soft.shut rfl rfl rfl rfl (fun K hK => ?_); go_simp; refine hK _ ?_; clear hK K) | (refine Soft.shut0 rfl rfl rfl rfl (fun K hK => ?_); go_simp; refine hK _ ?_; clear hK K) | (refine Soft.quiet_n rfl rfl rfl rfl (fun K hK => ?_); go_simp; apply Exists.intro; refine ⟨fun wq hq => ?_, hK _ ?_⟩; (first | (with_reducible exact fixed09 _) | (with_reducible exact same.out N _ _ _ (DN1.out.ext hq) (DN.out.ext hq)) | (obtain ⟨⟨gg0, gg1, gg2, gg3, gg4⟩, _⟩ := (bd.out.ext hq).at5; go_simp; with_reducible rfl) | (obtain ⟨⟨gg0, gg1, gg2, gg3⟩, _⟩ := (bx.out.ext hq).at4; go_simp; with_reducible rfl) | (obtain ⟨⟨gg0, gg1, gg2, gg3, gg4⟩, _⟩ := (bN.out.ext hq).at5; go_simp; with_reducible rfl) | (obtain ⟨⟨gg0, gg1, gg2, gg3, gg4⟩, _⟩ := (bN2.out.ext hq).at5; go_simp; with_reducible rfl)); clear hK K) | (refine Soft.quiet_g rfl rfl rfl rfl rfl (fun K hK => ?_); go_simp; apply Exists.intro; refine ⟨fun wq hq => ?_, hK _ ?_⟩; (first | (with_reducible exact fixed09 _) | (with_reducible exact same.out N _ _ _ (DN1.out.ext hq) (DN.out.ext hq)) | (obtain ⟨⟨gg0, gg1, gg2, gg3, gg4⟩, _⟩ := (bd.out.ext hq).at5; go_simp; with_reducible rfl) | (obtain ⟨⟨gg0, gg1, gg2, gg3⟩, _⟩ := (bx.out.ext hq).at4; go_simp; with_reducible rfl) | (obtain ⟨⟨gg0, gg1, gg2, gg3, gg4⟩, _⟩ := (bN.out.ext hq).at5; go_simp; with_reducible rfl) | (obtain ⟨⟨gg0, gg1, gg2, gg3, gg4⟩, _⟩ := (bN2.out.ext hq).at5; go_simp; with_reducible rfl)); clear hK K))
  refine Soft.loud_g rfl rfl rfl rfl rfl (fun K hK => ?_)
  refine ⟨fun wq hq kq => ?_, fun u ⟨ka96, kc96, ca96, cc96, pa96, pc96, hu⟩ => hK _ ?_⟩
  · go_simp
    refine (c16.out _ _ (D.out.ext hq)).mono ?_
    rintro e w7 ⟨r, rfl, hD, x7⟩
    obtain ⟨ka2, kc2, ca2, cc2, pa2, pc2, rfl⟩ := hD.form3
    exact ⟨_, rfl, x7, ⟨_, _, _, _, _, _, rfl⟩, hD⟩
  clear hK K
  subst hu
  (refine Soft.quiet_gk rfl rfl rfl rfl rfl (fun K hK => ?_); go_simp; apply Exists.intro; refine ⟨fun wq hq kq => ?_, hK _ ?_⟩; exact same.out G _ _ _ (kq.get 29 (by kernel_rfl) rfl rfl) (kq.get 31 (by kernel_rfl) rfl rfl); clear hK K)
  iterate 17 (first | (refine Soft.pure_n rfl rfl rfl rfl (fun K hK => ?_); go_simp; refine hK _ ?_; clear hK K) | (refine Soft.pure_g rfl rfl rfl rfl rfl (fun K hK => ?_); go_simp; refine hK _ ?_; clear hK K) | (refine Soft.shut rfl rfl rfl rfl (fun K hK => ?_); go_simp; refine hK _ ?_; clear hK K) | (refine Soft.shut0 rfl rfl rfl rfl (fun K hK => ?_); go_simp; refine hK _ ?_; clear hK K) | (refine Soft.quiet_n rfl rfl rfl rfl (fun K hK => ?_); go_simp; apply Exists.intro; refine ⟨fun wq hq => ?_, hK _ ?_⟩; (first | (with_reducible exact fixed09 _) | (with_reducible exact same.out N _ _ _ (DN1.out.ext hq) (DN.out.ext hq)) | (obtain ⟨⟨gg0, gg1, gg2, gg3, gg4⟩, _⟩ := (bd.out.ext hq).at5; go_simp; with_reducible rfl) | (obtain ⟨⟨gg0, gg1, gg2, gg3⟩, _⟩ := (bx.out.ext hq).at4; go_simp; with_reducible rfl) | (obtain ⟨⟨gg0, gg1, gg2, gg3, gg4⟩, _⟩ := (bN.out.ext hq).at5; go_simp; with_reducible rfl) | (obtain ⟨⟨gg0, gg1, gg2, gg3, gg4⟩, _⟩ := (bN2.out.ext hq).at5; go_simp; with_reducible rfl)); clear hK K) | (refine Soft.quiet_g rfl rfl rfl rfl rfl (fun K hK => ?_); go_simp; apply Exists.intro; refine ⟨fun wq hq => ?_, hK _ ?_⟩; (first | (with_reducible exact fixed09 _) | (with_reducible exact same.out N _ _ _ (DN1.out.ext hq) (DN.out.ext hq)) | (obtain ⟨⟨gg0, gg1, gg2, gg3, gg4⟩, _⟩ := (bd.out.ext hq).at5; go_simp; with_reducible rfl) | (obtain ⟨⟨gg0, gg1, gg2, gg3⟩, _⟩ := (bx.out.ext hq).at4; go_simp; with_reducible rfl) | (obtain ⟨⟨gg0, gg1, gg2, gg3, gg4⟩, _⟩ := (bN.out.ext hq).at5; go_simp; with_reducible rfl) | (obtain ⟨⟨gg0, gg1, gg2, gg3, gg4⟩, _⟩ := (bN2.out.ext hq).at5; go_simp; with_reducible rfl)); clear hK K))
  refine Soft.ends (by kernel_rfl) (fun w11 x11 _ => ?_)
  replace D := Lib.hid (D.out.ext x11); replace hxk := Lib.hid (hxk.out.ext x11); replace bd := Lib.hid (bd.out.ext x11); replace bx := Lib.hid (bx.out.ext x11); replace DA1 := Lib.hid (DA1.out.ext x11); replace bA := Lib.hid (bA.out.ext x11); replace DA := Lib.hid (DA.out.ext x11); replace bA2 := Lib.hid (bA2.out.ext x11); replace DP1 := Lib.hid (DP1.out.ext x11); replace bP := Lib.hid (bP.out.ext x11); replace DP := Lib.hid (DP.out.ext x11); replace bP2 := Lib.hid (bP2.out.ext x11); replace DN1 := Lib.hid (DN1.out.ext x11); replace bN := Lib.hid (bN.out.ext x11); replace DN := Lib.hid (DN.out.ext x11); replace bN2 := Lib.hid (bN2.out.ext x11)
  replace y := Lib.hid (y.out.trans x11)
  clear x11
  go_wp2_with fail
  go_ret
  exact ⟨rfl, y.out⟩

theorem deviceTells_walk (w : World) (d : Dev.Disk) (v : Value) (x : PutIn) (hD : DiskIn w v d ∧ d.fuse ≤ 9223372036854775807) (hx : x.Ok w) :
    Calls Try.prog 19 #[v, x.val] w fun e w' => e = .returned (.bool true) ∧ Ext w w' := by
  obtain ⟨D, hfu⟩ := hD
  cases hs : Dev.small d with
  | false => exact deviceTells_no0 w d v x D hx hs
  | true =>
    by_cases h4 : x.keep.length ≤ 400
    · by_cases hf : x.fuse ≤ 300
      · exact deviceTells_near w d v x D hx hs h4 hfu hf
      · exact deviceTells_far w d v x D hx hs h4 hfu (by omega)
    · exact deviceTells_no1 w d v x D hx hs (by omega)
end Go.Proofs.Ytehidhcpdiameaa
