/- The statement DeviceApart: the law's own walk. (Printed by wip/devapart.py.) -/
import Derived.Test.YtehidhcpdiameaaDeviceApart0
namespace Go.Proofs.Ytehidhcpdiameaa
open Go.RowKit

set_option maxRecDepth 100000 in
set_option maxHeartbeats 8000000 in
theorem deviceApart_live0 (w : World) (v : Value) (d : Dev.Disk) (D : DiskIn w v d) (x y : PutIn) (hx : x.Ok w) (hy : y.Ok w) (hs : Dev.small d = true) (hm : Dev.may d = true) (hd : d.dead = false) (hf :  (d.fuse < 0)) (hxy :  (x.at_ ≠ y.at_)) (hfu : d.fuse ≤ 9223372036854775807) (he : (Dev.write d x.at_ x.text).2 ≠ 0) :
    Calls Try.prog 22 #[v, x.val, y.val] w fun e w' => e = .returned (.bool true) ∧ Ext w w' := by
  have hk0 := Dev.small_keep hs
  obtain ⟨xa, xs, xf, xkv, xk⟩ := x
  obtain ⟨ya, ys, yf, ykv, yk⟩ := y
  try dsimp only at *
  obtain ⟨⟨A, e⟩, hA⟩ : ∃ p, Dev.write d xa xs = p := ⟨_, rfl⟩
  obtain ⟨⟨B, f⟩, hB⟩ : ∃ p, Dev.write A ya ys = p := ⟨_, rfl⟩
  obtain ⟨⟨C, g⟩, hC⟩ : ∃ p, Dev.write d ya ys = p := ⟨_, rfl⟩
  obtain ⟨⟨K, i⟩, hK⟩ : ∃ p, Dev.write C xa xs = p := ⟨_, rfl⟩
  obtain ⟨⟨M, l⟩, hM⟩ : ∃ p, Dev.write B xa ys = p := ⟨_, rfl⟩
  obtain ⟨⟨R, rn⟩, hR⟩ : ∃ p, Dev.read M xa = p := ⟨_, rfl⟩
  obtain ⟨⟨P, pn⟩, hP⟩ : ∃ p, Dev.flush B = p := ⟨_, rfl⟩
  obtain ⟨⟨Q, qn⟩, hQ⟩ : ∃ p, Dev.flush K = p := ⟨_, rfl⟩
  rw [hA] at he
  try dsimp only at *
  have kA := Dev.write_keep d xa xs; have kB := Dev.write_keep A ya ys; have kC := Dev.write_keep d ya ys; have kK := Dev.write_keep C xa xs
  have fA := Dev.write_fuse d xa xs hfu; have fC := Dev.write_fuse d ya ys hfu
  rw [hA] at kA fA; rw [hB] at kB; rw [hC] at kC fC; rw [hK] at kK
  dsimp only at kA kB kC kK fA fC
  have fB := Dev.write_fuse A ya ys fA
  rw [hB] at fB
  dsimp only at fB
  have law := Dev.apart hm hs hd hf xs ys hxy hA hB hC hK hM
  rw [hP, hQ, hR] at law
  dsimp only at law
  obtain ⟨rfl, rfl, rfl, l4⟩ := law
  have c1 := fun v w h => write9_any d v xa xs w h hk0 hfu
  have c2 := fun v w h => write9_any A v ya ys w h (by omega) fA
  have c3 := fun v w h => write9_any d v ya ys w h hk0 hfu
  have c4 := fun v w h => write9_any C v xa xs w h (by omega) fC
  have c5 := fun v w h => flush9_any B v w h (by omega)
  have c6 := fun v w h => flush9_any K v w h (by omega)
  have c7 := fun v w h => write9_any B v xa ys w h (by omega) fB
  have c8 := fun v w h => read9_any M v xa w h
  have c9 := fun u v w h h2 => same9_any P P u v w h h2
  rw [hA] at c1; rw [hB] at c2; rw [hC] at c3; rw [hK] at c4; rw [hP] at c5; rw [hQ] at c6; rw [hM] at c7; rw [hR] at c8; rw [decide_eq_true rfl] at c9
  clear hA hB hC hK hM hR hP hQ kA kB kC kK fA fB fC hk0 hfu
  have h67 := fun v w h => small9_any d v w h
  have h74 := fun v w h => refMay_any d v w h
  rw [hs] at h67; rw [hm] at h74
  have hf1 : decide (d.fuse ≥ 0) = false := by simp; omega
  have hq : (xa == ya) = false := by simp; omega
  have n1 : (e != e) = false := by simp
  have n2 : (f != f) = false := by simp
  clear l4
  have n3 : (e != 0) = true := by simp; omega
  clear hf hxy hm hs
  clear he
  replace h67 := Lib.hid h67; replace h74 := Lib.hid h74; replace c1 := Lib.hid c1; replace c2 := Lib.hid c2; replace c3 := Lib.hid c3; replace c4 := Lib.hid c4; replace c5 := Lib.hid c5; replace c6 := Lib.hid c6; replace c7 := Lib.hid c7; replace c8 := Lib.hid c8; replace c9 := Lib.hid c9
  obtain ⟨_, _, hx⟩ := hx
  obtain ⟨_, _, hy⟩ := hy
  obtain ⟨xka, xkn, xkc, rfl⟩ := hx.form
  obtain ⟨yka, ykn, ykc, rfl⟩ := hy.form
  clear hx hy
  obtain ⟨ka, kc, ca, cc, pa, pc, rfl⟩ := D.form3
  rw [hd] at D ⊢
  clear hd
  unfold PutIn.val
  dsimp only
  have y : Ext w (((w.alloc (.cells #[.slice ka d.kept.length kc, .slice ca d.cache.length cc, .int .i64 d.fuse, .slice pa d.keep.length pc, .bool false] 69)).alloc (.cells #[.int .i64 xa, .string xs, .int .i64 xf, .slice xka xkn xkc] 79)).alloc (.cells #[.int .i64 ya, .string ys, .int .i64 yf, .slice yka ykn ykc] 79)) := (((Ext.refl w).alloc _).alloc _).alloc _
  have bd := Lib.hid (((Box.new w [.slice ka d.kept.length kc, .slice ca d.cache.length cc, .int .i64 d.fuse, .slice pa d.keep.length pc, .bool false] 69).alloc (.cells #[.int .i64 xa, .string xs, .int .i64 xf, .slice xka xkn xkc] 79)).alloc (.cells #[.int .i64 ya, .string ys, .int .i64 yf, .slice yka ykn ykc] 79))
  have bx := Lib.hid ((Box.new1 w (.cells #[.slice ka d.kept.length kc, .slice ca d.cache.length cc, .int .i64 d.fuse, .slice pa d.keep.length pc, .bool false] 69) [.int .i64 xa, .string xs, .int .i64 xf, .slice xka xkn xkc] 79).alloc (.cells #[.int .i64 ya, .string ys, .int .i64 yf, .slice yka ykn ykc] 79))
  have by_ := Lib.hid (Box.new2 w (.cells #[.slice ka d.kept.length kc, .slice ca d.cache.length cc, .int .i64 d.fuse, .slice pa d.keep.length pc, .bool false] 69) (.cells #[.int .i64 xa, .string xs, .int .i64 xf, .slice xka xkn xkc] 79) [.int .i64 ya, .string ys, .int .i64 yf, .slice yka ykn ykc] 79)
  replace D := Lib.hid (D.ext y); replace y := Lib.hid y
  go_enter Try.func22, Try.ntmps22
  go_wp2_with fail
  refine (fixed09 _).mono ?_; rintro e w1 ⟨rfl, x1⟩
  replace D := Lib.hid (D.out.ext x1); replace bd := Lib.hid (bd.out.ext x1); replace bx := Lib.hid (bx.out.ext x1); replace by_ := Lib.hid (by_.out.ext x1)
  replace y := Lib.hid (y.out.trans x1)
  clear x1
  obtain ⟨⟨gbd0, gbd1, gbd2, gbd3, gbd4⟩, _⟩ := bd.out.at5
  go_wp2_with fail
  refine (h67.out _ _ D.out).mono ?_; rintro e w2 ⟨rfl, x2⟩
  clear gbd0 gbd1 gbd2 gbd3 gbd4
  replace D := Lib.hid (D.out.ext x2); replace bd := Lib.hid (bd.out.ext x2); replace bx := Lib.hid (bx.out.ext x2); replace by_ := Lib.hid (by_.out.ext x2)
  replace y := Lib.hid (y.out.trans x2)
  clear x2
  obtain ⟨⟨gbd0, gbd1, gbd2, gbd3, gbd4⟩, _⟩ := bd.out.at5
  go_wp2_with fail
  refine (h74.out _ _ D.out).mono ?_; rintro e w3 ⟨rfl, x3⟩
  clear gbd0 gbd1 gbd2 gbd3 gbd4
  replace D := Lib.hid (D.out.ext x3); replace bd := Lib.hid (bd.out.ext x3); replace bx := Lib.hid (bx.out.ext x3); replace by_ := Lib.hid (by_.out.ext x3)
  replace y := Lib.hid (y.out.trans x3)
  clear x3
  obtain ⟨⟨gbd0, gbd1, gbd2, gbd3, gbd4⟩, _⟩ := bd.out.at5
  obtain ⟨⟨gbx0, gbx1, gbx2, gbx3⟩, _⟩ := bx.out.at4
  obtain ⟨⟨gby_0, gby_1, gby_2, gby_3⟩, _⟩ := by_.out.at4
  go_wp2_with fail
  refine (c1.out _ _ D.out).mono ?_; rintro e w4 ⟨r4, rfl, DA, x4⟩
  clear gbd0 gbd1 gbd2 gbd3 gbd4 gbx0 gbx1 gbx2 gbx3 gby_0 gby_1 gby_2 gby_3
  replace D := Lib.hid (D.out.ext x4); replace bd := Lib.hid (bd.out.ext x4); replace bx := Lib.hid (bx.out.ext x4); replace by_ := Lib.hid (by_.out.ext x4)
  replace y := Lib.hid (y.out.trans x4)
  clear x4
  obtain ⟨ka4, kc4, ca4, cc4, pa4, pc4, rfl⟩ := DA.form3
  replace DA := Lib.hid DA
  have xb : Ext w4 (w4.alloc (.cells #[.slice ka4 A.kept.length kc4, .slice ca4 A.cache.length cc4, .int .i64 A.fuse, .slice pa4 A.keep.length pc4, .bool A.dead] 69)) := (Ext.refl _).alloc _
  replace D := Lib.hid (D.out.ext xb); replace bd := Lib.hid (bd.out.ext xb); replace bx := Lib.hid (bx.out.ext xb); replace by_ := Lib.hid (by_.out.ext xb); replace DA := Lib.hid (DA.out.ext xb)
  replace y := Lib.hid (y.out.trans xb)
  clear xb
  have bA := Lib.hid (Box.new w4 [.slice ka4 A.kept.length kc4, .slice ca4 A.cache.length cc4, .int .i64 A.fuse, .slice pa4 A.keep.length pc4, .bool A.dead] 69)
  obtain ⟨⟨gbA0, gbA1, gbA2, gbA3, gbA4⟩, _⟩ := bA.out.at5
  obtain ⟨⟨gby_0, gby_1, gby_2, gby_3⟩, _⟩ := by_.out.at4
  go_wp2_with fail
  refine (c2.out _ _ DA.out).mono ?_; rintro e w5 ⟨r5, rfl, DB, x5⟩
  clear gbA0 gbA1 gbA2 gbA3 gbA4 gby_0 gby_1 gby_2 gby_3
  replace D := Lib.hid (D.out.ext x5); replace bd := Lib.hid (bd.out.ext x5); replace bx := Lib.hid (bx.out.ext x5); replace by_ := Lib.hid (by_.out.ext x5); replace DA := Lib.hid (DA.out.ext x5); replace bA := Lib.hid (bA.out.ext x5)
  replace y := Lib.hid (y.out.trans x5)
  clear x5
  obtain ⟨ka5, kc5, ca5, cc5, pa5, pc5, rfl⟩ := DB.form3
  replace DB := Lib.hid DB
  have xb : Ext w5 (w5.alloc (.cells #[.slice ka5 B.kept.length kc5, .slice ca5 B.cache.length cc5, .int .i64 B.fuse, .slice pa5 B.keep.length pc5, .bool B.dead] 69)) := (Ext.refl _).alloc _
  replace D := Lib.hid (D.out.ext xb); replace bd := Lib.hid (bd.out.ext xb); replace bx := Lib.hid (bx.out.ext xb); replace by_ := Lib.hid (by_.out.ext xb); replace DA := Lib.hid (DA.out.ext xb); replace bA := Lib.hid (bA.out.ext xb); replace DB := Lib.hid (DB.out.ext xb)
  replace y := Lib.hid (y.out.trans xb)
  clear xb
  have bB := Lib.hid (Box.new w5 [.slice ka5 B.kept.length kc5, .slice ca5 B.cache.length cc5, .int .i64 B.fuse, .slice pa5 B.keep.length pc5, .bool B.dead] 69)
  obtain ⟨⟨gbd0, gbd1, gbd2, gbd3, gbd4⟩, _⟩ := bd.out.at5
  obtain ⟨⟨gby_0, gby_1, gby_2, gby_3⟩, _⟩ := by_.out.at4
  go_wp2_with fail
  refine (c3.out _ _ D.out).mono ?_; rintro e w6 ⟨r6, rfl, DC, x6⟩
  clear gbd0 gbd1 gbd2 gbd3 gbd4 gby_0 gby_1 gby_2 gby_3
  replace D := Lib.hid (D.out.ext x6); replace bd := Lib.hid (bd.out.ext x6); replace bx := Lib.hid (bx.out.ext x6); replace by_ := Lib.hid (by_.out.ext x6); replace DA := Lib.hid (DA.out.ext x6); replace bA := Lib.hid (bA.out.ext x6); replace DB := Lib.hid (DB.out.ext x6); replace bB := Lib.hid (bB.out.ext x6)
  replace y := Lib.hid (y.out.trans x6)
  clear x6
  obtain ⟨ka6, kc6, ca6, cc6, pa6, pc6, rfl⟩ := DC.form3
  replace DC := Lib.hid DC
  have xb : Ext w6 (w6.alloc (.cells #[.slice ka6 C.kept.length kc6, .slice ca6 C.cache.length cc6, .int .i64 C.fuse, .slice pa6 C.keep.length pc6, .bool C.dead] 69)) := (Ext.refl _).alloc _
  replace D := Lib.hid (D.out.ext xb); replace bd := Lib.hid (bd.out.ext xb); replace bx := Lib.hid (bx.out.ext xb); replace by_ := Lib.hid (by_.out.ext xb); replace DA := Lib.hid (DA.out.ext xb); replace bA := Lib.hid (bA.out.ext xb); replace DB := Lib.hid (DB.out.ext xb); replace bB := Lib.hid (bB.out.ext xb); replace DC := Lib.hid (DC.out.ext xb)
  replace y := Lib.hid (y.out.trans xb)
  clear xb
  have bC := Lib.hid (Box.new w6 [.slice ka6 C.kept.length kc6, .slice ca6 C.cache.length cc6, .int .i64 C.fuse, .slice pa6 C.keep.length pc6, .bool C.dead] 69)
  obtain ⟨⟨gbC0, gbC1, gbC2, gbC3, gbC4⟩, _⟩ := bC.out.at5
  obtain ⟨⟨gbx0, gbx1, gbx2, gbx3⟩, _⟩ := bx.out.at4
  go_wp2_with fail
  refine (c4.out _ _ DC.out).mono ?_; rintro e w7 ⟨r7, rfl, DK, x7⟩
  clear gbC0 gbC1 gbC2 gbC3 gbC4 gbx0 gbx1 gbx2 gbx3
  replace D := Lib.hid (D.out.ext x7); replace bd := Lib.hid (bd.out.ext x7); replace bx := Lib.hid (bx.out.ext x7); replace by_ := Lib.hid (by_.out.ext x7); replace DA := Lib.hid (DA.out.ext x7); replace bA := Lib.hid (bA.out.ext x7); replace DB := Lib.hid (DB.out.ext x7); replace bB := Lib.hid (bB.out.ext x7); replace DC := Lib.hid (DC.out.ext x7); replace bC := Lib.hid (bC.out.ext x7)
  replace y := Lib.hid (y.out.trans x7)
  clear x7
  obtain ⟨ka7, kc7, ca7, cc7, pa7, pc7, rfl⟩ := DK.form3
  replace DK := Lib.hid DK
  have xb : Ext w7 (w7.alloc (.cells #[.slice ka7 K.kept.length kc7, .slice ca7 K.cache.length cc7, .int .i64 K.fuse, .slice pa7 K.keep.length pc7, .bool K.dead] 69)) := (Ext.refl _).alloc _
  replace D := Lib.hid (D.out.ext xb); replace bd := Lib.hid (bd.out.ext xb); replace bx := Lib.hid (bx.out.ext xb); replace by_ := Lib.hid (by_.out.ext xb); replace DA := Lib.hid (DA.out.ext xb); replace bA := Lib.hid (bA.out.ext xb); replace DB := Lib.hid (DB.out.ext xb); replace bB := Lib.hid (bB.out.ext xb); replace DC := Lib.hid (DC.out.ext xb); replace bC := Lib.hid (bC.out.ext xb); replace DK := Lib.hid (DK.out.ext xb)
  replace y := Lib.hid (y.out.trans xb)
  clear xb
  have bK := Lib.hid (Box.new w7 [.slice ka7 K.kept.length kc7, .slice ca7 K.cache.length cc7, .int .i64 K.fuse, .slice pa7 K.keep.length pc7, .bool K.dead] 69)
  obtain ⟨⟨gbB0, gbB1, gbB2, gbB3, gbB4⟩, _⟩ := bB.out.at5
  go_wp2_with fail
  refine (c5.out _ _ DB.out).mono ?_; rintro e w8 ⟨r8, rfl, DP, x8⟩
  clear gbB0 gbB1 gbB2 gbB3 gbB4
  replace D := Lib.hid (D.out.ext x8); replace bd := Lib.hid (bd.out.ext x8); replace bx := Lib.hid (bx.out.ext x8); replace by_ := Lib.hid (by_.out.ext x8); replace DA := Lib.hid (DA.out.ext x8); replace bA := Lib.hid (bA.out.ext x8); replace DB := Lib.hid (DB.out.ext x8); replace bB := Lib.hid (bB.out.ext x8); replace DC := Lib.hid (DC.out.ext x8); replace bC := Lib.hid (bC.out.ext x8); replace DK := Lib.hid (DK.out.ext x8); replace bK := Lib.hid (bK.out.ext x8)
  replace y := Lib.hid (y.out.trans x8)
  clear x8
  obtain ⟨ka8, kc8, ca8, cc8, pa8, pc8, rfl⟩ := DP.form3
  replace DP := Lib.hid DP
  have xb : Ext w8 (w8.alloc (.cells #[.slice ka8 P.kept.length kc8, .slice ca8 P.cache.length cc8, .int .i64 P.fuse, .slice pa8 P.keep.length pc8, .bool P.dead] 69)) := (Ext.refl _).alloc _
  replace D := Lib.hid (D.out.ext xb); replace bd := Lib.hid (bd.out.ext xb); replace bx := Lib.hid (bx.out.ext xb); replace by_ := Lib.hid (by_.out.ext xb); replace DA := Lib.hid (DA.out.ext xb); replace bA := Lib.hid (bA.out.ext xb); replace DB := Lib.hid (DB.out.ext xb); replace bB := Lib.hid (bB.out.ext xb); replace DC := Lib.hid (DC.out.ext xb); replace bC := Lib.hid (bC.out.ext xb); replace DK := Lib.hid (DK.out.ext xb); replace bK := Lib.hid (bK.out.ext xb); replace DP := Lib.hid (DP.out.ext xb)
  replace y := Lib.hid (y.out.trans xb)
  clear xb
  have bP := Lib.hid (Box.new w8 [.slice ka8 P.kept.length kc8, .slice ca8 P.cache.length cc8, .int .i64 P.fuse, .slice pa8 P.keep.length pc8, .bool P.dead] 69)
  have DP1 := DP
  clear DP
  obtain ⟨⟨gbK0, gbK1, gbK2, gbK3, gbK4⟩, _⟩ := bK.out.at5
  go_wp2_with fail
  refine (c6.out _ _ DK.out).mono ?_; rintro e w9 ⟨r9, rfl, DP, x9⟩
  clear gbK0 gbK1 gbK2 gbK3 gbK4
  replace D := Lib.hid (D.out.ext x9); replace bd := Lib.hid (bd.out.ext x9); replace bx := Lib.hid (bx.out.ext x9); replace by_ := Lib.hid (by_.out.ext x9); replace DA := Lib.hid (DA.out.ext x9); replace bA := Lib.hid (bA.out.ext x9); replace DB := Lib.hid (DB.out.ext x9); replace bB := Lib.hid (bB.out.ext x9); replace DC := Lib.hid (DC.out.ext x9); replace bC := Lib.hid (bC.out.ext x9); replace DK := Lib.hid (DK.out.ext x9); replace bK := Lib.hid (bK.out.ext x9); replace DP1 := Lib.hid (DP1.out.ext x9); replace bP := Lib.hid (bP.out.ext x9)
  replace y := Lib.hid (y.out.trans x9)
  clear x9
  obtain ⟨ka9, kc9, ca9, cc9, pa9, pc9, rfl⟩ := DP.form3
  replace DP := Lib.hid DP
  have xb : Ext w9 (w9.alloc (.cells #[.slice ka9 P.kept.length kc9, .slice ca9 P.cache.length cc9, .int .i64 P.fuse, .slice pa9 P.keep.length pc9, .bool P.dead] 69)) := (Ext.refl _).alloc _
  replace D := Lib.hid (D.out.ext xb); replace bd := Lib.hid (bd.out.ext xb); replace bx := Lib.hid (bx.out.ext xb); replace by_ := Lib.hid (by_.out.ext xb); replace DA := Lib.hid (DA.out.ext xb); replace bA := Lib.hid (bA.out.ext xb); replace DB := Lib.hid (DB.out.ext xb); replace bB := Lib.hid (bB.out.ext xb); replace DC := Lib.hid (DC.out.ext xb); replace bC := Lib.hid (bC.out.ext xb); replace DK := Lib.hid (DK.out.ext xb); replace bK := Lib.hid (bK.out.ext xb); replace DP1 := Lib.hid (DP1.out.ext xb); replace bP := Lib.hid (bP.out.ext xb); replace DP := Lib.hid (DP.out.ext xb)
  replace y := Lib.hid (y.out.trans xb)
  clear xb
  have bQ := Lib.hid (Box.new w9 [.slice ka9 P.kept.length kc9, .slice ca9 P.cache.length cc9, .int .i64 P.fuse, .slice pa9 P.keep.length pc9, .bool P.dead] 69)
  obtain ⟨⟨gbB0, gbB1, gbB2, gbB3, gbB4⟩, _⟩ := bB.out.at5
  obtain ⟨⟨gbx0, gbx1, gbx2, gbx3⟩, _⟩ := bx.out.at4
  obtain ⟨⟨gby_0, gby_1, gby_2, gby_3⟩, _⟩ := by_.out.at4
  go_wp2_with fail
  refine (c7.out _ _ DB.out).mono ?_; rintro e w10 ⟨r10, rfl, DM, x10⟩
  clear gbB0 gbB1 gbB2 gbB3 gbB4 gbx0 gbx1 gbx2 gbx3 gby_0 gby_1 gby_2 gby_3
  replace D := Lib.hid (D.out.ext x10); replace bd := Lib.hid (bd.out.ext x10); replace bx := Lib.hid (bx.out.ext x10); replace by_ := Lib.hid (by_.out.ext x10); replace DA := Lib.hid (DA.out.ext x10); replace bA := Lib.hid (bA.out.ext x10); replace DB := Lib.hid (DB.out.ext x10); replace bB := Lib.hid (bB.out.ext x10); replace DC := Lib.hid (DC.out.ext x10); replace bC := Lib.hid (bC.out.ext x10); replace DK := Lib.hid (DK.out.ext x10); replace bK := Lib.hid (bK.out.ext x10); replace DP1 := Lib.hid (DP1.out.ext x10); replace bP := Lib.hid (bP.out.ext x10); replace DP := Lib.hid (DP.out.ext x10); replace bQ := Lib.hid (bQ.out.ext x10)
  replace y := Lib.hid (y.out.trans x10)
  clear x10
  obtain ⟨ka10, kc10, ca10, cc10, pa10, pc10, rfl⟩ := DM.form3
  replace DM := Lib.hid DM
  have xb : Ext w10 (w10.alloc (.cells #[.slice ka10 M.kept.length kc10, .slice ca10 M.cache.length cc10, .int .i64 M.fuse, .slice pa10 M.keep.length pc10, .bool M.dead] 69)) := (Ext.refl _).alloc _
  replace D := Lib.hid (D.out.ext xb); replace bd := Lib.hid (bd.out.ext xb); replace bx := Lib.hid (bx.out.ext xb); replace by_ := Lib.hid (by_.out.ext xb); replace DA := Lib.hid (DA.out.ext xb); replace bA := Lib.hid (bA.out.ext xb); replace DB := Lib.hid (DB.out.ext xb); replace bB := Lib.hid (bB.out.ext xb); replace DC := Lib.hid (DC.out.ext xb); replace bC := Lib.hid (bC.out.ext xb); replace DK := Lib.hid (DK.out.ext xb); replace bK := Lib.hid (bK.out.ext xb); replace DP1 := Lib.hid (DP1.out.ext xb); replace bP := Lib.hid (bP.out.ext xb); replace DP := Lib.hid (DP.out.ext xb); replace bQ := Lib.hid (bQ.out.ext xb); replace DM := Lib.hid (DM.out.ext xb)
  replace y := Lib.hid (y.out.trans xb)
  clear xb
  have bM := Lib.hid (Box.new w10 [.slice ka10 M.kept.length kc10, .slice ca10 M.cache.length cc10, .int .i64 M.fuse, .slice pa10 M.keep.length pc10, .bool M.dead] 69)
  obtain ⟨⟨gbM0, gbM1, gbM2, gbM3, gbM4⟩, _⟩ := bM.out.at5
  obtain ⟨⟨gbx0, gbx1, gbx2, gbx3⟩, _⟩ := bx.out.at4
  go_wp2_with fail
  refine (c8.out _ _ DM.out).mono ?_; rintro e w11 ⟨rfl, x11⟩
  clear gbM0 gbM1 gbM2 gbM3 gbM4 gbx0 gbx1 gbx2 gbx3
  replace D := Lib.hid (D.out.ext x11); replace bd := Lib.hid (bd.out.ext x11); replace bx := Lib.hid (bx.out.ext x11); replace by_ := Lib.hid (by_.out.ext x11); replace DA := Lib.hid (DA.out.ext x11); replace bA := Lib.hid (bA.out.ext x11); replace DB := Lib.hid (DB.out.ext x11); replace bB := Lib.hid (bB.out.ext x11); replace DC := Lib.hid (DC.out.ext x11); replace bC := Lib.hid (bC.out.ext x11); replace DK := Lib.hid (DK.out.ext x11); replace bK := Lib.hid (bK.out.ext x11); replace DP1 := Lib.hid (DP1.out.ext x11); replace bP := Lib.hid (bP.out.ext x11); replace DP := Lib.hid (DP.out.ext x11); replace bQ := Lib.hid (bQ.out.ext x11); replace DM := Lib.hid (DM.out.ext x11); replace bM := Lib.hid (bM.out.ext x11)
  replace y := Lib.hid (y.out.trans x11)
  clear x11
  obtain ⟨⟨gbP0, gbP1, gbP2, gbP3, gbP4⟩, _⟩ := bP.out.at5
  obtain ⟨⟨gbQ0, gbQ1, gbQ2, gbQ3, gbQ4⟩, _⟩ := bQ.out.at5
  go_wp2_with fail
  refine (c9.out _ _ _ DP1.out DP.out).mono ?_; rintro e w12 ⟨rfl, x12⟩
  clear gbP0 gbP1 gbP2 gbP3 gbP4 gbQ0 gbQ1 gbQ2 gbQ3 gbQ4
  replace D := Lib.hid (D.out.ext x12); replace bd := Lib.hid (bd.out.ext x12); replace bx := Lib.hid (bx.out.ext x12); replace by_ := Lib.hid (by_.out.ext x12); replace DA := Lib.hid (DA.out.ext x12); replace bA := Lib.hid (bA.out.ext x12); replace DB := Lib.hid (DB.out.ext x12); replace bB := Lib.hid (bB.out.ext x12); replace DC := Lib.hid (DC.out.ext x12); replace bC := Lib.hid (bC.out.ext x12); replace DK := Lib.hid (DK.out.ext x12); replace bK := Lib.hid (bK.out.ext x12); replace DP1 := Lib.hid (DP1.out.ext x12); replace bP := Lib.hid (bP.out.ext x12); replace DP := Lib.hid (DP.out.ext x12); replace bQ := Lib.hid (bQ.out.ext x12); replace DM := Lib.hid (DM.out.ext x12); replace bM := Lib.hid (bM.out.ext x12)
  replace y := Lib.hid (y.out.trans x12)
  clear x12
  go_wp2_with fail
  go_ret
  exact ⟨rfl, y.out⟩

set_option maxRecDepth 100000 in
set_option maxHeartbeats 8000000 in
theorem deviceApart_live1 (w : World) (v : Value) (d : Dev.Disk) (D : DiskIn w v d) (x y : PutIn) (hx : x.Ok w) (hy : y.Ok w) (hs : Dev.small d = true) (hm : Dev.may d = true) (hd : d.dead = false) (hf :  (d.fuse < 0)) (hxy :  (x.at_ ≠ y.at_)) (hfu : d.fuse ≤ 9223372036854775807) (he : (Dev.write d x.at_ x.text).2 = 0) (hf0 : (Dev.write (Dev.write d x.at_ x.text).1 y.at_ y.text).2 ≠ 0) :
    Calls Try.prog 22 #[v, x.val, y.val] w fun e w' => e = .returned (.bool true) ∧ Ext w w' := by
  have hk0 := Dev.small_keep hs
  obtain ⟨xa, xs, xf, xkv, xk⟩ := x
  obtain ⟨ya, ys, yf, ykv, yk⟩ := y
  try dsimp only at *
  obtain ⟨⟨A, e⟩, hA⟩ : ∃ p, Dev.write d xa xs = p := ⟨_, rfl⟩
  obtain ⟨⟨B, f⟩, hB⟩ : ∃ p, Dev.write A ya ys = p := ⟨_, rfl⟩
  obtain ⟨⟨C, g⟩, hC⟩ : ∃ p, Dev.write d ya ys = p := ⟨_, rfl⟩
  obtain ⟨⟨K, i⟩, hK⟩ : ∃ p, Dev.write C xa xs = p := ⟨_, rfl⟩
  obtain ⟨⟨M, l⟩, hM⟩ : ∃ p, Dev.write B xa ys = p := ⟨_, rfl⟩
  obtain ⟨⟨R, rn⟩, hR⟩ : ∃ p, Dev.read M xa = p := ⟨_, rfl⟩
  obtain ⟨⟨P, pn⟩, hP⟩ : ∃ p, Dev.flush B = p := ⟨_, rfl⟩
  obtain ⟨⟨Q, qn⟩, hQ⟩ : ∃ p, Dev.flush K = p := ⟨_, rfl⟩
  rw [hA] at he
  rw [hA] at hf0; dsimp only at hf0; rw [hB] at hf0
  try dsimp only at *
  have kA := Dev.write_keep d xa xs; have kB := Dev.write_keep A ya ys; have kC := Dev.write_keep d ya ys; have kK := Dev.write_keep C xa xs
  have fA := Dev.write_fuse d xa xs hfu; have fC := Dev.write_fuse d ya ys hfu
  rw [hA] at kA fA; rw [hB] at kB; rw [hC] at kC fC; rw [hK] at kK
  dsimp only at kA kB kC kK fA fC
  have fB := Dev.write_fuse A ya ys fA
  rw [hB] at fB
  dsimp only at fB
  have law := Dev.apart hm hs hd hf xs ys hxy hA hB hC hK hM
  rw [hP, hQ, hR] at law
  dsimp only at law
  obtain ⟨rfl, rfl, rfl, l4⟩ := law
  have c1 := fun v w h => write9_any d v xa xs w h hk0 hfu
  have c2 := fun v w h => write9_any A v ya ys w h (by omega) fA
  have c3 := fun v w h => write9_any d v ya ys w h hk0 hfu
  have c4 := fun v w h => write9_any C v xa xs w h (by omega) fC
  have c5 := fun v w h => flush9_any B v w h (by omega)
  have c6 := fun v w h => flush9_any K v w h (by omega)
  have c7 := fun v w h => write9_any B v xa ys w h (by omega) fB
  have c8 := fun v w h => read9_any M v xa w h
  have c9 := fun u v w h h2 => same9_any P P u v w h h2
  rw [hA] at c1; rw [hB] at c2; rw [hC] at c3; rw [hK] at c4; rw [hP] at c5; rw [hQ] at c6; rw [hM] at c7; rw [hR] at c8; rw [decide_eq_true rfl] at c9
  clear hA hB hC hK hM hR hP hQ kA kB kC kK fA fB fC hk0 hfu
  have h67 := fun v w h => small9_any d v w h
  have h74 := fun v w h => refMay_any d v w h
  rw [hs] at h67; rw [hm] at h74
  have hf1 : decide (d.fuse ≥ 0) = false := by simp; omega
  have hq : (xa == ya) = false := by simp; omega
  have n1 : (e != e) = false := by simp
  have n2 : (f != f) = false := by simp
  clear l4
  subst he
  have n3 : (f != 0) = true := by simp; omega
  clear n1
  clear hf hxy hm hs
  clear hf0
  replace h67 := Lib.hid h67; replace h74 := Lib.hid h74; replace c1 := Lib.hid c1; replace c2 := Lib.hid c2; replace c3 := Lib.hid c3; replace c4 := Lib.hid c4; replace c5 := Lib.hid c5; replace c6 := Lib.hid c6; replace c7 := Lib.hid c7; replace c8 := Lib.hid c8; replace c9 := Lib.hid c9
  obtain ⟨_, _, hx⟩ := hx
  obtain ⟨_, _, hy⟩ := hy
  obtain ⟨xka, xkn, xkc, rfl⟩ := hx.form
  obtain ⟨yka, ykn, ykc, rfl⟩ := hy.form
  clear hx hy
  obtain ⟨ka, kc, ca, cc, pa, pc, rfl⟩ := D.form3
  rw [hd] at D ⊢
  clear hd
  unfold PutIn.val
  dsimp only
  have y : Ext w (((w.alloc (.cells #[.slice ka d.kept.length kc, .slice ca d.cache.length cc, .int .i64 d.fuse, .slice pa d.keep.length pc, .bool false] 69)).alloc (.cells #[.int .i64 xa, .string xs, .int .i64 xf, .slice xka xkn xkc] 79)).alloc (.cells #[.int .i64 ya, .string ys, .int .i64 yf, .slice yka ykn ykc] 79)) := (((Ext.refl w).alloc _).alloc _).alloc _
  have bd := Lib.hid (((Box.new w [.slice ka d.kept.length kc, .slice ca d.cache.length cc, .int .i64 d.fuse, .slice pa d.keep.length pc, .bool false] 69).alloc (.cells #[.int .i64 xa, .string xs, .int .i64 xf, .slice xka xkn xkc] 79)).alloc (.cells #[.int .i64 ya, .string ys, .int .i64 yf, .slice yka ykn ykc] 79))
  have bx := Lib.hid ((Box.new1 w (.cells #[.slice ka d.kept.length kc, .slice ca d.cache.length cc, .int .i64 d.fuse, .slice pa d.keep.length pc, .bool false] 69) [.int .i64 xa, .string xs, .int .i64 xf, .slice xka xkn xkc] 79).alloc (.cells #[.int .i64 ya, .string ys, .int .i64 yf, .slice yka ykn ykc] 79))
  have by_ := Lib.hid (Box.new2 w (.cells #[.slice ka d.kept.length kc, .slice ca d.cache.length cc, .int .i64 d.fuse, .slice pa d.keep.length pc, .bool false] 69) (.cells #[.int .i64 xa, .string xs, .int .i64 xf, .slice xka xkn xkc] 79) [.int .i64 ya, .string ys, .int .i64 yf, .slice yka ykn ykc] 79)
  replace D := Lib.hid (D.ext y); replace y := Lib.hid y
  go_enter Try.func22, Try.ntmps22
  go_wp2_with fail
  refine (fixed09 _).mono ?_; rintro e w1 ⟨rfl, x1⟩
  replace D := Lib.hid (D.out.ext x1); replace bd := Lib.hid (bd.out.ext x1); replace bx := Lib.hid (bx.out.ext x1); replace by_ := Lib.hid (by_.out.ext x1)
  replace y := Lib.hid (y.out.trans x1)
  clear x1
  obtain ⟨⟨gbd0, gbd1, gbd2, gbd3, gbd4⟩, _⟩ := bd.out.at5
  go_wp2_with fail
  refine (h67.out _ _ D.out).mono ?_; rintro e w2 ⟨rfl, x2⟩
  clear gbd0 gbd1 gbd2 gbd3 gbd4
  replace D := Lib.hid (D.out.ext x2); replace bd := Lib.hid (bd.out.ext x2); replace bx := Lib.hid (bx.out.ext x2); replace by_ := Lib.hid (by_.out.ext x2)
  replace y := Lib.hid (y.out.trans x2)
  clear x2
  obtain ⟨⟨gbd0, gbd1, gbd2, gbd3, gbd4⟩, _⟩ := bd.out.at5
  go_wp2_with fail
  refine (h74.out _ _ D.out).mono ?_; rintro e w3 ⟨rfl, x3⟩
  clear gbd0 gbd1 gbd2 gbd3 gbd4
  replace D := Lib.hid (D.out.ext x3); replace bd := Lib.hid (bd.out.ext x3); replace bx := Lib.hid (bx.out.ext x3); replace by_ := Lib.hid (by_.out.ext x3)
  replace y := Lib.hid (y.out.trans x3)
  clear x3
  obtain ⟨⟨gbd0, gbd1, gbd2, gbd3, gbd4⟩, _⟩ := bd.out.at5
  obtain ⟨⟨gbx0, gbx1, gbx2, gbx3⟩, _⟩ := bx.out.at4
  obtain ⟨⟨gby_0, gby_1, gby_2, gby_3⟩, _⟩ := by_.out.at4
  go_wp2_with fail
  refine (c1.out _ _ D.out).mono ?_; rintro e w4 ⟨r4, rfl, DA, x4⟩
  clear gbd0 gbd1 gbd2 gbd3 gbd4 gbx0 gbx1 gbx2 gbx3 gby_0 gby_1 gby_2 gby_3
  replace D := Lib.hid (D.out.ext x4); replace bd := Lib.hid (bd.out.ext x4); replace bx := Lib.hid (bx.out.ext x4); replace by_ := Lib.hid (by_.out.ext x4)
  replace y := Lib.hid (y.out.trans x4)
  clear x4
  obtain ⟨ka4, kc4, ca4, cc4, pa4, pc4, rfl⟩ := DA.form3
  replace DA := Lib.hid DA
  have xb : Ext w4 (w4.alloc (.cells #[.slice ka4 A.kept.length kc4, .slice ca4 A.cache.length cc4, .int .i64 A.fuse, .slice pa4 A.keep.length pc4, .bool A.dead] 69)) := (Ext.refl _).alloc _
  replace D := Lib.hid (D.out.ext xb); replace bd := Lib.hid (bd.out.ext xb); replace bx := Lib.hid (bx.out.ext xb); replace by_ := Lib.hid (by_.out.ext xb); replace DA := Lib.hid (DA.out.ext xb)
  replace y := Lib.hid (y.out.trans xb)
  clear xb
  have bA := Lib.hid (Box.new w4 [.slice ka4 A.kept.length kc4, .slice ca4 A.cache.length cc4, .int .i64 A.fuse, .slice pa4 A.keep.length pc4, .bool A.dead] 69)
  obtain ⟨⟨gbA0, gbA1, gbA2, gbA3, gbA4⟩, _⟩ := bA.out.at5
  obtain ⟨⟨gby_0, gby_1, gby_2, gby_3⟩, _⟩ := by_.out.at4
  go_wp2_with fail
  refine (c2.out _ _ DA.out).mono ?_; rintro e w5 ⟨r5, rfl, DB, x5⟩
  clear gbA0 gbA1 gbA2 gbA3 gbA4 gby_0 gby_1 gby_2 gby_3
  replace D := Lib.hid (D.out.ext x5); replace bd := Lib.hid (bd.out.ext x5); replace bx := Lib.hid (bx.out.ext x5); replace by_ := Lib.hid (by_.out.ext x5); replace DA := Lib.hid (DA.out.ext x5); replace bA := Lib.hid (bA.out.ext x5)
  replace y := Lib.hid (y.out.trans x5)
  clear x5
  obtain ⟨ka5, kc5, ca5, cc5, pa5, pc5, rfl⟩ := DB.form3
  replace DB := Lib.hid DB
  have xb : Ext w5 (w5.alloc (.cells #[.slice ka5 B.kept.length kc5, .slice ca5 B.cache.length cc5, .int .i64 B.fuse, .slice pa5 B.keep.length pc5, .bool B.dead] 69)) := (Ext.refl _).alloc _
  replace D := Lib.hid (D.out.ext xb); replace bd := Lib.hid (bd.out.ext xb); replace bx := Lib.hid (bx.out.ext xb); replace by_ := Lib.hid (by_.out.ext xb); replace DA := Lib.hid (DA.out.ext xb); replace bA := Lib.hid (bA.out.ext xb); replace DB := Lib.hid (DB.out.ext xb)
  replace y := Lib.hid (y.out.trans xb)
  clear xb
  have bB := Lib.hid (Box.new w5 [.slice ka5 B.kept.length kc5, .slice ca5 B.cache.length cc5, .int .i64 B.fuse, .slice pa5 B.keep.length pc5, .bool B.dead] 69)
  obtain ⟨⟨gbd0, gbd1, gbd2, gbd3, gbd4⟩, _⟩ := bd.out.at5
  obtain ⟨⟨gby_0, gby_1, gby_2, gby_3⟩, _⟩ := by_.out.at4
  go_wp2_with fail
  refine (c3.out _ _ D.out).mono ?_; rintro e w6 ⟨r6, rfl, DC, x6⟩
  clear gbd0 gbd1 gbd2 gbd3 gbd4 gby_0 gby_1 gby_2 gby_3
  replace D := Lib.hid (D.out.ext x6); replace bd := Lib.hid (bd.out.ext x6); replace bx := Lib.hid (bx.out.ext x6); replace by_ := Lib.hid (by_.out.ext x6); replace DA := Lib.hid (DA.out.ext x6); replace bA := Lib.hid (bA.out.ext x6); replace DB := Lib.hid (DB.out.ext x6); replace bB := Lib.hid (bB.out.ext x6)
  replace y := Lib.hid (y.out.trans x6)
  clear x6
  obtain ⟨ka6, kc6, ca6, cc6, pa6, pc6, rfl⟩ := DC.form3
  replace DC := Lib.hid DC
  have xb : Ext w6 (w6.alloc (.cells #[.slice ka6 C.kept.length kc6, .slice ca6 C.cache.length cc6, .int .i64 C.fuse, .slice pa6 C.keep.length pc6, .bool C.dead] 69)) := (Ext.refl _).alloc _
  replace D := Lib.hid (D.out.ext xb); replace bd := Lib.hid (bd.out.ext xb); replace bx := Lib.hid (bx.out.ext xb); replace by_ := Lib.hid (by_.out.ext xb); replace DA := Lib.hid (DA.out.ext xb); replace bA := Lib.hid (bA.out.ext xb); replace DB := Lib.hid (DB.out.ext xb); replace bB := Lib.hid (bB.out.ext xb); replace DC := Lib.hid (DC.out.ext xb)
  replace y := Lib.hid (y.out.trans xb)
  clear xb
  have bC := Lib.hid (Box.new w6 [.slice ka6 C.kept.length kc6, .slice ca6 C.cache.length cc6, .int .i64 C.fuse, .slice pa6 C.keep.length pc6, .bool C.dead] 69)
  obtain ⟨⟨gbC0, gbC1, gbC2, gbC3, gbC4⟩, _⟩ := bC.out.at5
  obtain ⟨⟨gbx0, gbx1, gbx2, gbx3⟩, _⟩ := bx.out.at4
  go_wp2_with fail
  refine (c4.out _ _ DC.out).mono ?_; rintro e w7 ⟨r7, rfl, DK, x7⟩
  clear gbC0 gbC1 gbC2 gbC3 gbC4 gbx0 gbx1 gbx2 gbx3
  replace D := Lib.hid (D.out.ext x7); replace bd := Lib.hid (bd.out.ext x7); replace bx := Lib.hid (bx.out.ext x7); replace by_ := Lib.hid (by_.out.ext x7); replace DA := Lib.hid (DA.out.ext x7); replace bA := Lib.hid (bA.out.ext x7); replace DB := Lib.hid (DB.out.ext x7); replace bB := Lib.hid (bB.out.ext x7); replace DC := Lib.hid (DC.out.ext x7); replace bC := Lib.hid (bC.out.ext x7)
  replace y := Lib.hid (y.out.trans x7)
  clear x7
  obtain ⟨ka7, kc7, ca7, cc7, pa7, pc7, rfl⟩ := DK.form3
  replace DK := Lib.hid DK
  have xb : Ext w7 (w7.alloc (.cells #[.slice ka7 K.kept.length kc7, .slice ca7 K.cache.length cc7, .int .i64 K.fuse, .slice pa7 K.keep.length pc7, .bool K.dead] 69)) := (Ext.refl _).alloc _
  replace D := Lib.hid (D.out.ext xb); replace bd := Lib.hid (bd.out.ext xb); replace bx := Lib.hid (bx.out.ext xb); replace by_ := Lib.hid (by_.out.ext xb); replace DA := Lib.hid (DA.out.ext xb); replace bA := Lib.hid (bA.out.ext xb); replace DB := Lib.hid (DB.out.ext xb); replace bB := Lib.hid (bB.out.ext xb); replace DC := Lib.hid (DC.out.ext xb); replace bC := Lib.hid (bC.out.ext xb); replace DK := Lib.hid (DK.out.ext xb)
  replace y := Lib.hid (y.out.trans xb)
  clear xb
  have bK := Lib.hid (Box.new w7 [.slice ka7 K.kept.length kc7, .slice ca7 K.cache.length cc7, .int .i64 K.fuse, .slice pa7 K.keep.length pc7, .bool K.dead] 69)
  obtain ⟨⟨gbB0, gbB1, gbB2, gbB3, gbB4⟩, _⟩ := bB.out.at5
  go_wp2_with fail
  refine (c5.out _ _ DB.out).mono ?_; rintro e w8 ⟨r8, rfl, DP, x8⟩
  clear gbB0 gbB1 gbB2 gbB3 gbB4
  replace D := Lib.hid (D.out.ext x8); replace bd := Lib.hid (bd.out.ext x8); replace bx := Lib.hid (bx.out.ext x8); replace by_ := Lib.hid (by_.out.ext x8); replace DA := Lib.hid (DA.out.ext x8); replace bA := Lib.hid (bA.out.ext x8); replace DB := Lib.hid (DB.out.ext x8); replace bB := Lib.hid (bB.out.ext x8); replace DC := Lib.hid (DC.out.ext x8); replace bC := Lib.hid (bC.out.ext x8); replace DK := Lib.hid (DK.out.ext x8); replace bK := Lib.hid (bK.out.ext x8)
  replace y := Lib.hid (y.out.trans x8)
  clear x8
  obtain ⟨ka8, kc8, ca8, cc8, pa8, pc8, rfl⟩ := DP.form3
  replace DP := Lib.hid DP
  have xb : Ext w8 (w8.alloc (.cells #[.slice ka8 P.kept.length kc8, .slice ca8 P.cache.length cc8, .int .i64 P.fuse, .slice pa8 P.keep.length pc8, .bool P.dead] 69)) := (Ext.refl _).alloc _
  replace D := Lib.hid (D.out.ext xb); replace bd := Lib.hid (bd.out.ext xb); replace bx := Lib.hid (bx.out.ext xb); replace by_ := Lib.hid (by_.out.ext xb); replace DA := Lib.hid (DA.out.ext xb); replace bA := Lib.hid (bA.out.ext xb); replace DB := Lib.hid (DB.out.ext xb); replace bB := Lib.hid (bB.out.ext xb); replace DC := Lib.hid (DC.out.ext xb); replace bC := Lib.hid (bC.out.ext xb); replace DK := Lib.hid (DK.out.ext xb); replace bK := Lib.hid (bK.out.ext xb); replace DP := Lib.hid (DP.out.ext xb)
  replace y := Lib.hid (y.out.trans xb)
  clear xb
  have bP := Lib.hid (Box.new w8 [.slice ka8 P.kept.length kc8, .slice ca8 P.cache.length cc8, .int .i64 P.fuse, .slice pa8 P.keep.length pc8, .bool P.dead] 69)
  have DP1 := DP
  clear DP
  obtain ⟨⟨gbK0, gbK1, gbK2, gbK3, gbK4⟩, _⟩ := bK.out.at5
  go_wp2_with fail
  refine (c6.out _ _ DK.out).mono ?_; rintro e w9 ⟨r9, rfl, DP, x9⟩
  clear gbK0 gbK1 gbK2 gbK3 gbK4
  replace D := Lib.hid (D.out.ext x9); replace bd := Lib.hid (bd.out.ext x9); replace bx := Lib.hid (bx.out.ext x9); replace by_ := Lib.hid (by_.out.ext x9); replace DA := Lib.hid (DA.out.ext x9); replace bA := Lib.hid (bA.out.ext x9); replace DB := Lib.hid (DB.out.ext x9); replace bB := Lib.hid (bB.out.ext x9); replace DC := Lib.hid (DC.out.ext x9); replace bC := Lib.hid (bC.out.ext x9); replace DK := Lib.hid (DK.out.ext x9); replace bK := Lib.hid (bK.out.ext x9); replace DP1 := Lib.hid (DP1.out.ext x9); replace bP := Lib.hid (bP.out.ext x9)
  replace y := Lib.hid (y.out.trans x9)
  clear x9
  obtain ⟨ka9, kc9, ca9, cc9, pa9, pc9, rfl⟩ := DP.form3
  replace DP := Lib.hid DP
  have xb : Ext w9 (w9.alloc (.cells #[.slice ka9 P.kept.length kc9, .slice ca9 P.cache.length cc9, .int .i64 P.fuse, .slice pa9 P.keep.length pc9, .bool P.dead] 69)) := (Ext.refl _).alloc _
  replace D := Lib.hid (D.out.ext xb); replace bd := Lib.hid (bd.out.ext xb); replace bx := Lib.hid (bx.out.ext xb); replace by_ := Lib.hid (by_.out.ext xb); replace DA := Lib.hid (DA.out.ext xb); replace bA := Lib.hid (bA.out.ext xb); replace DB := Lib.hid (DB.out.ext xb); replace bB := Lib.hid (bB.out.ext xb); replace DC := Lib.hid (DC.out.ext xb); replace bC := Lib.hid (bC.out.ext xb); replace DK := Lib.hid (DK.out.ext xb); replace bK := Lib.hid (bK.out.ext xb); replace DP1 := Lib.hid (DP1.out.ext xb); replace bP := Lib.hid (bP.out.ext xb); replace DP := Lib.hid (DP.out.ext xb)
  replace y := Lib.hid (y.out.trans xb)
  clear xb
  have bQ := Lib.hid (Box.new w9 [.slice ka9 P.kept.length kc9, .slice ca9 P.cache.length cc9, .int .i64 P.fuse, .slice pa9 P.keep.length pc9, .bool P.dead] 69)
  obtain ⟨⟨gbB0, gbB1, gbB2, gbB3, gbB4⟩, _⟩ := bB.out.at5
  obtain ⟨⟨gbx0, gbx1, gbx2, gbx3⟩, _⟩ := bx.out.at4
  obtain ⟨⟨gby_0, gby_1, gby_2, gby_3⟩, _⟩ := by_.out.at4
  go_wp2_with fail
  refine (c7.out _ _ DB.out).mono ?_; rintro e w10 ⟨r10, rfl, DM, x10⟩
  clear gbB0 gbB1 gbB2 gbB3 gbB4 gbx0 gbx1 gbx2 gbx3 gby_0 gby_1 gby_2 gby_3
  replace D := Lib.hid (D.out.ext x10); replace bd := Lib.hid (bd.out.ext x10); replace bx := Lib.hid (bx.out.ext x10); replace by_ := Lib.hid (by_.out.ext x10); replace DA := Lib.hid (DA.out.ext x10); replace bA := Lib.hid (bA.out.ext x10); replace DB := Lib.hid (DB.out.ext x10); replace bB := Lib.hid (bB.out.ext x10); replace DC := Lib.hid (DC.out.ext x10); replace bC := Lib.hid (bC.out.ext x10); replace DK := Lib.hid (DK.out.ext x10); replace bK := Lib.hid (bK.out.ext x10); replace DP1 := Lib.hid (DP1.out.ext x10); replace bP := Lib.hid (bP.out.ext x10); replace DP := Lib.hid (DP.out.ext x10); replace bQ := Lib.hid (bQ.out.ext x10)
  replace y := Lib.hid (y.out.trans x10)
  clear x10
  obtain ⟨ka10, kc10, ca10, cc10, pa10, pc10, rfl⟩ := DM.form3
  replace DM := Lib.hid DM
  have xb : Ext w10 (w10.alloc (.cells #[.slice ka10 M.kept.length kc10, .slice ca10 M.cache.length cc10, .int .i64 M.fuse, .slice pa10 M.keep.length pc10, .bool M.dead] 69)) := (Ext.refl _).alloc _
  replace D := Lib.hid (D.out.ext xb); replace bd := Lib.hid (bd.out.ext xb); replace bx := Lib.hid (bx.out.ext xb); replace by_ := Lib.hid (by_.out.ext xb); replace DA := Lib.hid (DA.out.ext xb); replace bA := Lib.hid (bA.out.ext xb); replace DB := Lib.hid (DB.out.ext xb); replace bB := Lib.hid (bB.out.ext xb); replace DC := Lib.hid (DC.out.ext xb); replace bC := Lib.hid (bC.out.ext xb); replace DK := Lib.hid (DK.out.ext xb); replace bK := Lib.hid (bK.out.ext xb); replace DP1 := Lib.hid (DP1.out.ext xb); replace bP := Lib.hid (bP.out.ext xb); replace DP := Lib.hid (DP.out.ext xb); replace bQ := Lib.hid (bQ.out.ext xb); replace DM := Lib.hid (DM.out.ext xb)
  replace y := Lib.hid (y.out.trans xb)
  clear xb
  have bM := Lib.hid (Box.new w10 [.slice ka10 M.kept.length kc10, .slice ca10 M.cache.length cc10, .int .i64 M.fuse, .slice pa10 M.keep.length pc10, .bool M.dead] 69)
  obtain ⟨⟨gbM0, gbM1, gbM2, gbM3, gbM4⟩, _⟩ := bM.out.at5
  obtain ⟨⟨gbx0, gbx1, gbx2, gbx3⟩, _⟩ := bx.out.at4
  go_wp2_with fail
  refine (c8.out _ _ DM.out).mono ?_; rintro e w11 ⟨rfl, x11⟩
  clear gbM0 gbM1 gbM2 gbM3 gbM4 gbx0 gbx1 gbx2 gbx3
  replace D := Lib.hid (D.out.ext x11); replace bd := Lib.hid (bd.out.ext x11); replace bx := Lib.hid (bx.out.ext x11); replace by_ := Lib.hid (by_.out.ext x11); replace DA := Lib.hid (DA.out.ext x11); replace bA := Lib.hid (bA.out.ext x11); replace DB := Lib.hid (DB.out.ext x11); replace bB := Lib.hid (bB.out.ext x11); replace DC := Lib.hid (DC.out.ext x11); replace bC := Lib.hid (bC.out.ext x11); replace DK := Lib.hid (DK.out.ext x11); replace bK := Lib.hid (bK.out.ext x11); replace DP1 := Lib.hid (DP1.out.ext x11); replace bP := Lib.hid (bP.out.ext x11); replace DP := Lib.hid (DP.out.ext x11); replace bQ := Lib.hid (bQ.out.ext x11); replace DM := Lib.hid (DM.out.ext x11); replace bM := Lib.hid (bM.out.ext x11)
  replace y := Lib.hid (y.out.trans x11)
  clear x11
  obtain ⟨⟨gbP0, gbP1, gbP2, gbP3, gbP4⟩, _⟩ := bP.out.at5
  obtain ⟨⟨gbQ0, gbQ1, gbQ2, gbQ3, gbQ4⟩, _⟩ := bQ.out.at5
  go_wp2_with fail
  refine (c9.out _ _ _ DP1.out DP.out).mono ?_; rintro e w12 ⟨rfl, x12⟩
  clear gbP0 gbP1 gbP2 gbP3 gbP4 gbQ0 gbQ1 gbQ2 gbQ3 gbQ4
  replace D := Lib.hid (D.out.ext x12); replace bd := Lib.hid (bd.out.ext x12); replace bx := Lib.hid (bx.out.ext x12); replace by_ := Lib.hid (by_.out.ext x12); replace DA := Lib.hid (DA.out.ext x12); replace bA := Lib.hid (bA.out.ext x12); replace DB := Lib.hid (DB.out.ext x12); replace bB := Lib.hid (bB.out.ext x12); replace DC := Lib.hid (DC.out.ext x12); replace bC := Lib.hid (bC.out.ext x12); replace DK := Lib.hid (DK.out.ext x12); replace bK := Lib.hid (bK.out.ext x12); replace DP1 := Lib.hid (DP1.out.ext x12); replace bP := Lib.hid (bP.out.ext x12); replace DP := Lib.hid (DP.out.ext x12); replace bQ := Lib.hid (bQ.out.ext x12); replace DM := Lib.hid (DM.out.ext x12); replace bM := Lib.hid (bM.out.ext x12)
  replace y := Lib.hid (y.out.trans x12)
  clear x12
  go_wp2_with fail
  go_ret
  exact ⟨rfl, y.out⟩

set_option maxRecDepth 100000 in
set_option maxHeartbeats 8000000 in
theorem deviceApart_live2 (w : World) (v : Value) (d : Dev.Disk) (D : DiskIn w v d) (x y : PutIn) (hx : x.Ok w) (hy : y.Ok w) (hs : Dev.small d = true) (hm : Dev.may d = true) (hd : d.dead = false) (hf :  (d.fuse < 0)) (hxy :  (x.at_ ≠ y.at_)) (hfu : d.fuse ≤ 9223372036854775807) (he : (Dev.write d x.at_ x.text).2 = 0) (hf0 : (Dev.write (Dev.write d x.at_ x.text).1 y.at_ y.text).2 = 0) :
    Calls Try.prog 22 #[v, x.val, y.val] w fun e w' => e = .returned (.bool true) ∧ Ext w w' := by
  have hk0 := Dev.small_keep hs
  obtain ⟨xa, xs, xf, xkv, xk⟩ := x
  obtain ⟨ya, ys, yf, ykv, yk⟩ := y
  try dsimp only at *
  obtain ⟨⟨A, e⟩, hA⟩ : ∃ p, Dev.write d xa xs = p := ⟨_, rfl⟩
  obtain ⟨⟨B, f⟩, hB⟩ : ∃ p, Dev.write A ya ys = p := ⟨_, rfl⟩
  obtain ⟨⟨C, g⟩, hC⟩ : ∃ p, Dev.write d ya ys = p := ⟨_, rfl⟩
  obtain ⟨⟨K, i⟩, hK⟩ : ∃ p, Dev.write C xa xs = p := ⟨_, rfl⟩
  obtain ⟨⟨M, l⟩, hM⟩ : ∃ p, Dev.write B xa ys = p := ⟨_, rfl⟩
  obtain ⟨⟨R, rn⟩, hR⟩ : ∃ p, Dev.read M xa = p := ⟨_, rfl⟩
  obtain ⟨⟨P, pn⟩, hP⟩ : ∃ p, Dev.flush B = p := ⟨_, rfl⟩
  obtain ⟨⟨Q, qn⟩, hQ⟩ : ∃ p, Dev.flush K = p := ⟨_, rfl⟩
  rw [hA] at he
  rw [hA] at hf0; dsimp only at hf0; rw [hB] at hf0
  try dsimp only at *
  have kA := Dev.write_keep d xa xs; have kB := Dev.write_keep A ya ys; have kC := Dev.write_keep d ya ys; have kK := Dev.write_keep C xa xs
  have fA := Dev.write_fuse d xa xs hfu; have fC := Dev.write_fuse d ya ys hfu
  rw [hA] at kA fA; rw [hB] at kB; rw [hC] at kC fC; rw [hK] at kK
  dsimp only at kA kB kC kK fA fC
  have fB := Dev.write_fuse A ya ys fA
  rw [hB] at fB
  dsimp only at fB
  have law := Dev.apart hm hs hd hf xs ys hxy hA hB hC hK hM
  rw [hP, hQ, hR] at law
  dsimp only at law
  obtain ⟨rfl, rfl, rfl, l4⟩ := law
  have c1 := fun v w h => write9_any d v xa xs w h hk0 hfu
  have c2 := fun v w h => write9_any A v ya ys w h (by omega) fA
  have c3 := fun v w h => write9_any d v ya ys w h hk0 hfu
  have c4 := fun v w h => write9_any C v xa xs w h (by omega) fC
  have c5 := fun v w h => flush9_any B v w h (by omega)
  have c6 := fun v w h => flush9_any K v w h (by omega)
  have c7 := fun v w h => write9_any B v xa ys w h (by omega) fB
  have c8 := fun v w h => read9_any M v xa w h
  have c9 := fun u v w h h2 => same9_any P P u v w h h2
  rw [hA] at c1; rw [hB] at c2; rw [hC] at c3; rw [hK] at c4; rw [hP] at c5; rw [hQ] at c6; rw [hM] at c7; rw [hR] at c8; rw [decide_eq_true rfl] at c9
  clear hA hB hC hK hM hR hP hQ kA kB kC kK fA fB fC hk0 hfu
  have h67 := fun v w h => small9_any d v w h
  have h74 := fun v w h => refMay_any d v w h
  rw [hs] at h67; rw [hm] at h74
  have hf1 : decide (d.fuse ≥ 0) = false := by simp; omega
  have hq : (xa == ya) = false := by simp; omega
  have n1 : (e != e) = false := by simp
  have n2 : (f != f) = false := by simp
  subst he hf0
  obtain ⟨rfl, rfl⟩ : ys = R ∧ rn = 0 := by have := l4 rfl rfl; simp only [Prod.mk.injEq] at this; exact ⟨this.1.symm, this.2⟩
  clear l4 n1 n2
  have n4 : (ys.toList == ys.toList) = true := beq_self_eq_true _
  clear hf hxy hm hs
  replace h67 := Lib.hid h67; replace h74 := Lib.hid h74; replace c1 := Lib.hid c1; replace c2 := Lib.hid c2; replace c3 := Lib.hid c3; replace c4 := Lib.hid c4; replace c5 := Lib.hid c5; replace c6 := Lib.hid c6; replace c7 := Lib.hid c7; replace c8 := Lib.hid c8; replace c9 := Lib.hid c9
  obtain ⟨_, _, hx⟩ := hx
  obtain ⟨_, _, hy⟩ := hy
  obtain ⟨xka, xkn, xkc, rfl⟩ := hx.form
  obtain ⟨yka, ykn, ykc, rfl⟩ := hy.form
  clear hx hy
  obtain ⟨ka, kc, ca, cc, pa, pc, rfl⟩ := D.form3
  rw [hd] at D ⊢
  clear hd
  unfold PutIn.val
  dsimp only
  have y : Ext w (((w.alloc (.cells #[.slice ka d.kept.length kc, .slice ca d.cache.length cc, .int .i64 d.fuse, .slice pa d.keep.length pc, .bool false] 69)).alloc (.cells #[.int .i64 xa, .string xs, .int .i64 xf, .slice xka xkn xkc] 79)).alloc (.cells #[.int .i64 ya, .string ys, .int .i64 yf, .slice yka ykn ykc] 79)) := (((Ext.refl w).alloc _).alloc _).alloc _
  have bd := Lib.hid (((Box.new w [.slice ka d.kept.length kc, .slice ca d.cache.length cc, .int .i64 d.fuse, .slice pa d.keep.length pc, .bool false] 69).alloc (.cells #[.int .i64 xa, .string xs, .int .i64 xf, .slice xka xkn xkc] 79)).alloc (.cells #[.int .i64 ya, .string ys, .int .i64 yf, .slice yka ykn ykc] 79))
  have bx := Lib.hid ((Box.new1 w (.cells #[.slice ka d.kept.length kc, .slice ca d.cache.length cc, .int .i64 d.fuse, .slice pa d.keep.length pc, .bool false] 69) [.int .i64 xa, .string xs, .int .i64 xf, .slice xka xkn xkc] 79).alloc (.cells #[.int .i64 ya, .string ys, .int .i64 yf, .slice yka ykn ykc] 79))
  have by_ := Lib.hid (Box.new2 w (.cells #[.slice ka d.kept.length kc, .slice ca d.cache.length cc, .int .i64 d.fuse, .slice pa d.keep.length pc, .bool false] 69) (.cells #[.int .i64 xa, .string xs, .int .i64 xf, .slice xka xkn xkc] 79) [.int .i64 ya, .string ys, .int .i64 yf, .slice yka ykn ykc] 79)
  replace D := Lib.hid (D.ext y); replace y := Lib.hid y
  go_enter Try.func22, Try.ntmps22
  go_wp2_with fail
  refine (fixed09 _).mono ?_; rintro e w1 ⟨rfl, x1⟩
  replace D := Lib.hid (D.out.ext x1); replace bd := Lib.hid (bd.out.ext x1); replace bx := Lib.hid (bx.out.ext x1); replace by_ := Lib.hid (by_.out.ext x1)
  replace y := Lib.hid (y.out.trans x1)
  clear x1
  obtain ⟨⟨gbd0, gbd1, gbd2, gbd3, gbd4⟩, _⟩ := bd.out.at5
  go_wp2_with fail
  refine (h67.out _ _ D.out).mono ?_; rintro e w2 ⟨rfl, x2⟩
  clear gbd0 gbd1 gbd2 gbd3 gbd4
  replace D := Lib.hid (D.out.ext x2); replace bd := Lib.hid (bd.out.ext x2); replace bx := Lib.hid (bx.out.ext x2); replace by_ := Lib.hid (by_.out.ext x2)
  replace y := Lib.hid (y.out.trans x2)
  clear x2
  obtain ⟨⟨gbd0, gbd1, gbd2, gbd3, gbd4⟩, _⟩ := bd.out.at5
  go_wp2_with fail
  refine (h74.out _ _ D.out).mono ?_; rintro e w3 ⟨rfl, x3⟩
  clear gbd0 gbd1 gbd2 gbd3 gbd4
  replace D := Lib.hid (D.out.ext x3); replace bd := Lib.hid (bd.out.ext x3); replace bx := Lib.hid (bx.out.ext x3); replace by_ := Lib.hid (by_.out.ext x3)
  replace y := Lib.hid (y.out.trans x3)
  clear x3
  obtain ⟨⟨gbd0, gbd1, gbd2, gbd3, gbd4⟩, _⟩ := bd.out.at5
  obtain ⟨⟨gbx0, gbx1, gbx2, gbx3⟩, _⟩ := bx.out.at4
  obtain ⟨⟨gby_0, gby_1, gby_2, gby_3⟩, _⟩ := by_.out.at4
  go_wp2_with fail
  refine (c1.out _ _ D.out).mono ?_; rintro e w4 ⟨r4, rfl, DA, x4⟩
  clear gbd0 gbd1 gbd2 gbd3 gbd4 gbx0 gbx1 gbx2 gbx3 gby_0 gby_1 gby_2 gby_3
  replace D := Lib.hid (D.out.ext x4); replace bd := Lib.hid (bd.out.ext x4); replace bx := Lib.hid (bx.out.ext x4); replace by_ := Lib.hid (by_.out.ext x4)
  replace y := Lib.hid (y.out.trans x4)
  clear x4
  obtain ⟨ka4, kc4, ca4, cc4, pa4, pc4, rfl⟩ := DA.form3
  replace DA := Lib.hid DA
  have xb : Ext w4 (w4.alloc (.cells #[.slice ka4 A.kept.length kc4, .slice ca4 A.cache.length cc4, .int .i64 A.fuse, .slice pa4 A.keep.length pc4, .bool A.dead] 69)) := (Ext.refl _).alloc _
  replace D := Lib.hid (D.out.ext xb); replace bd := Lib.hid (bd.out.ext xb); replace bx := Lib.hid (bx.out.ext xb); replace by_ := Lib.hid (by_.out.ext xb); replace DA := Lib.hid (DA.out.ext xb)
  replace y := Lib.hid (y.out.trans xb)
  clear xb
  have bA := Lib.hid (Box.new w4 [.slice ka4 A.kept.length kc4, .slice ca4 A.cache.length cc4, .int .i64 A.fuse, .slice pa4 A.keep.length pc4, .bool A.dead] 69)
  obtain ⟨⟨gbA0, gbA1, gbA2, gbA3, gbA4⟩, _⟩ := bA.out.at5
  obtain ⟨⟨gby_0, gby_1, gby_2, gby_3⟩, _⟩ := by_.out.at4
  go_wp2_with fail
  refine (c2.out _ _ DA.out).mono ?_; rintro e w5 ⟨r5, rfl, DB, x5⟩
  clear gbA0 gbA1 gbA2 gbA3 gbA4 gby_0 gby_1 gby_2 gby_3
  replace D := Lib.hid (D.out.ext x5); replace bd := Lib.hid (bd.out.ext x5); replace bx := Lib.hid (bx.out.ext x5); replace by_ := Lib.hid (by_.out.ext x5); replace DA := Lib.hid (DA.out.ext x5); replace bA := Lib.hid (bA.out.ext x5)
  replace y := Lib.hid (y.out.trans x5)
  clear x5
  obtain ⟨ka5, kc5, ca5, cc5, pa5, pc5, rfl⟩ := DB.form3
  replace DB := Lib.hid DB
  have xb : Ext w5 (w5.alloc (.cells #[.slice ka5 B.kept.length kc5, .slice ca5 B.cache.length cc5, .int .i64 B.fuse, .slice pa5 B.keep.length pc5, .bool B.dead] 69)) := (Ext.refl _).alloc _
  replace D := Lib.hid (D.out.ext xb); replace bd := Lib.hid (bd.out.ext xb); replace bx := Lib.hid (bx.out.ext xb); replace by_ := Lib.hid (by_.out.ext xb); replace DA := Lib.hid (DA.out.ext xb); replace bA := Lib.hid (bA.out.ext xb); replace DB := Lib.hid (DB.out.ext xb)
  replace y := Lib.hid (y.out.trans xb)
  clear xb
  have bB := Lib.hid (Box.new w5 [.slice ka5 B.kept.length kc5, .slice ca5 B.cache.length cc5, .int .i64 B.fuse, .slice pa5 B.keep.length pc5, .bool B.dead] 69)
  obtain ⟨⟨gbd0, gbd1, gbd2, gbd3, gbd4⟩, _⟩ := bd.out.at5
  obtain ⟨⟨gby_0, gby_1, gby_2, gby_3⟩, _⟩ := by_.out.at4
  go_wp2_with fail
  refine (c3.out _ _ D.out).mono ?_; rintro e w6 ⟨r6, rfl, DC, x6⟩
  clear gbd0 gbd1 gbd2 gbd3 gbd4 gby_0 gby_1 gby_2 gby_3
  replace D := Lib.hid (D.out.ext x6); replace bd := Lib.hid (bd.out.ext x6); replace bx := Lib.hid (bx.out.ext x6); replace by_ := Lib.hid (by_.out.ext x6); replace DA := Lib.hid (DA.out.ext x6); replace bA := Lib.hid (bA.out.ext x6); replace DB := Lib.hid (DB.out.ext x6); replace bB := Lib.hid (bB.out.ext x6)
  replace y := Lib.hid (y.out.trans x6)
  clear x6
  obtain ⟨ka6, kc6, ca6, cc6, pa6, pc6, rfl⟩ := DC.form3
  replace DC := Lib.hid DC
  have xb : Ext w6 (w6.alloc (.cells #[.slice ka6 C.kept.length kc6, .slice ca6 C.cache.length cc6, .int .i64 C.fuse, .slice pa6 C.keep.length pc6, .bool C.dead] 69)) := (Ext.refl _).alloc _
  replace D := Lib.hid (D.out.ext xb); replace bd := Lib.hid (bd.out.ext xb); replace bx := Lib.hid (bx.out.ext xb); replace by_ := Lib.hid (by_.out.ext xb); replace DA := Lib.hid (DA.out.ext xb); replace bA := Lib.hid (bA.out.ext xb); replace DB := Lib.hid (DB.out.ext xb); replace bB := Lib.hid (bB.out.ext xb); replace DC := Lib.hid (DC.out.ext xb)
  replace y := Lib.hid (y.out.trans xb)
  clear xb
  have bC := Lib.hid (Box.new w6 [.slice ka6 C.kept.length kc6, .slice ca6 C.cache.length cc6, .int .i64 C.fuse, .slice pa6 C.keep.length pc6, .bool C.dead] 69)
  obtain ⟨⟨gbC0, gbC1, gbC2, gbC3, gbC4⟩, _⟩ := bC.out.at5
  obtain ⟨⟨gbx0, gbx1, gbx2, gbx3⟩, _⟩ := bx.out.at4
  go_wp2_with fail
  refine (c4.out _ _ DC.out).mono ?_; rintro e w7 ⟨r7, rfl, DK, x7⟩
  clear gbC0 gbC1 gbC2 gbC3 gbC4 gbx0 gbx1 gbx2 gbx3
  replace D := Lib.hid (D.out.ext x7); replace bd := Lib.hid (bd.out.ext x7); replace bx := Lib.hid (bx.out.ext x7); replace by_ := Lib.hid (by_.out.ext x7); replace DA := Lib.hid (DA.out.ext x7); replace bA := Lib.hid (bA.out.ext x7); replace DB := Lib.hid (DB.out.ext x7); replace bB := Lib.hid (bB.out.ext x7); replace DC := Lib.hid (DC.out.ext x7); replace bC := Lib.hid (bC.out.ext x7)
  replace y := Lib.hid (y.out.trans x7)
  clear x7
  obtain ⟨ka7, kc7, ca7, cc7, pa7, pc7, rfl⟩ := DK.form3
  replace DK := Lib.hid DK
  have xb : Ext w7 (w7.alloc (.cells #[.slice ka7 K.kept.length kc7, .slice ca7 K.cache.length cc7, .int .i64 K.fuse, .slice pa7 K.keep.length pc7, .bool K.dead] 69)) := (Ext.refl _).alloc _
  replace D := Lib.hid (D.out.ext xb); replace bd := Lib.hid (bd.out.ext xb); replace bx := Lib.hid (bx.out.ext xb); replace by_ := Lib.hid (by_.out.ext xb); replace DA := Lib.hid (DA.out.ext xb); replace bA := Lib.hid (bA.out.ext xb); replace DB := Lib.hid (DB.out.ext xb); replace bB := Lib.hid (bB.out.ext xb); replace DC := Lib.hid (DC.out.ext xb); replace bC := Lib.hid (bC.out.ext xb); replace DK := Lib.hid (DK.out.ext xb)
  replace y := Lib.hid (y.out.trans xb)
  clear xb
  have bK := Lib.hid (Box.new w7 [.slice ka7 K.kept.length kc7, .slice ca7 K.cache.length cc7, .int .i64 K.fuse, .slice pa7 K.keep.length pc7, .bool K.dead] 69)
  obtain ⟨⟨gbB0, gbB1, gbB2, gbB3, gbB4⟩, _⟩ := bB.out.at5
  go_wp2_with fail
  refine (c5.out _ _ DB.out).mono ?_; rintro e w8 ⟨r8, rfl, DP, x8⟩
  clear gbB0 gbB1 gbB2 gbB3 gbB4
  replace D := Lib.hid (D.out.ext x8); replace bd := Lib.hid (bd.out.ext x8); replace bx := Lib.hid (bx.out.ext x8); replace by_ := Lib.hid (by_.out.ext x8); replace DA := Lib.hid (DA.out.ext x8); replace bA := Lib.hid (bA.out.ext x8); replace DB := Lib.hid (DB.out.ext x8); replace bB := Lib.hid (bB.out.ext x8); replace DC := Lib.hid (DC.out.ext x8); replace bC := Lib.hid (bC.out.ext x8); replace DK := Lib.hid (DK.out.ext x8); replace bK := Lib.hid (bK.out.ext x8)
  replace y := Lib.hid (y.out.trans x8)
  clear x8
  obtain ⟨ka8, kc8, ca8, cc8, pa8, pc8, rfl⟩ := DP.form3
  replace DP := Lib.hid DP
  have xb : Ext w8 (w8.alloc (.cells #[.slice ka8 P.kept.length kc8, .slice ca8 P.cache.length cc8, .int .i64 P.fuse, .slice pa8 P.keep.length pc8, .bool P.dead] 69)) := (Ext.refl _).alloc _
  replace D := Lib.hid (D.out.ext xb); replace bd := Lib.hid (bd.out.ext xb); replace bx := Lib.hid (bx.out.ext xb); replace by_ := Lib.hid (by_.out.ext xb); replace DA := Lib.hid (DA.out.ext xb); replace bA := Lib.hid (bA.out.ext xb); replace DB := Lib.hid (DB.out.ext xb); replace bB := Lib.hid (bB.out.ext xb); replace DC := Lib.hid (DC.out.ext xb); replace bC := Lib.hid (bC.out.ext xb); replace DK := Lib.hid (DK.out.ext xb); replace bK := Lib.hid (bK.out.ext xb); replace DP := Lib.hid (DP.out.ext xb)
  replace y := Lib.hid (y.out.trans xb)
  clear xb
  have bP := Lib.hid (Box.new w8 [.slice ka8 P.kept.length kc8, .slice ca8 P.cache.length cc8, .int .i64 P.fuse, .slice pa8 P.keep.length pc8, .bool P.dead] 69)
  have DP1 := DP
  clear DP
  obtain ⟨⟨gbK0, gbK1, gbK2, gbK3, gbK4⟩, _⟩ := bK.out.at5
  go_wp2_with fail
  refine (c6.out _ _ DK.out).mono ?_; rintro e w9 ⟨r9, rfl, DP, x9⟩
  clear gbK0 gbK1 gbK2 gbK3 gbK4
  replace D := Lib.hid (D.out.ext x9); replace bd := Lib.hid (bd.out.ext x9); replace bx := Lib.hid (bx.out.ext x9); replace by_ := Lib.hid (by_.out.ext x9); replace DA := Lib.hid (DA.out.ext x9); replace bA := Lib.hid (bA.out.ext x9); replace DB := Lib.hid (DB.out.ext x9); replace bB := Lib.hid (bB.out.ext x9); replace DC := Lib.hid (DC.out.ext x9); replace bC := Lib.hid (bC.out.ext x9); replace DK := Lib.hid (DK.out.ext x9); replace bK := Lib.hid (bK.out.ext x9); replace DP1 := Lib.hid (DP1.out.ext x9); replace bP := Lib.hid (bP.out.ext x9)
  replace y := Lib.hid (y.out.trans x9)
  clear x9
  obtain ⟨ka9, kc9, ca9, cc9, pa9, pc9, rfl⟩ := DP.form3
  replace DP := Lib.hid DP
  have xb : Ext w9 (w9.alloc (.cells #[.slice ka9 P.kept.length kc9, .slice ca9 P.cache.length cc9, .int .i64 P.fuse, .slice pa9 P.keep.length pc9, .bool P.dead] 69)) := (Ext.refl _).alloc _
  replace D := Lib.hid (D.out.ext xb); replace bd := Lib.hid (bd.out.ext xb); replace bx := Lib.hid (bx.out.ext xb); replace by_ := Lib.hid (by_.out.ext xb); replace DA := Lib.hid (DA.out.ext xb); replace bA := Lib.hid (bA.out.ext xb); replace DB := Lib.hid (DB.out.ext xb); replace bB := Lib.hid (bB.out.ext xb); replace DC := Lib.hid (DC.out.ext xb); replace bC := Lib.hid (bC.out.ext xb); replace DK := Lib.hid (DK.out.ext xb); replace bK := Lib.hid (bK.out.ext xb); replace DP1 := Lib.hid (DP1.out.ext xb); replace bP := Lib.hid (bP.out.ext xb); replace DP := Lib.hid (DP.out.ext xb)
  replace y := Lib.hid (y.out.trans xb)
  clear xb
  have bQ := Lib.hid (Box.new w9 [.slice ka9 P.kept.length kc9, .slice ca9 P.cache.length cc9, .int .i64 P.fuse, .slice pa9 P.keep.length pc9, .bool P.dead] 69)
  obtain ⟨⟨gbB0, gbB1, gbB2, gbB3, gbB4⟩, _⟩ := bB.out.at5
  obtain ⟨⟨gbx0, gbx1, gbx2, gbx3⟩, _⟩ := bx.out.at4
  obtain ⟨⟨gby_0, gby_1, gby_2, gby_3⟩, _⟩ := by_.out.at4
  go_wp2_with fail
  refine (c7.out _ _ DB.out).mono ?_; rintro e w10 ⟨r10, rfl, DM, x10⟩
  clear gbB0 gbB1 gbB2 gbB3 gbB4 gbx0 gbx1 gbx2 gbx3 gby_0 gby_1 gby_2 gby_3
  replace D := Lib.hid (D.out.ext x10); replace bd := Lib.hid (bd.out.ext x10); replace bx := Lib.hid (bx.out.ext x10); replace by_ := Lib.hid (by_.out.ext x10); replace DA := Lib.hid (DA.out.ext x10); replace bA := Lib.hid (bA.out.ext x10); replace DB := Lib.hid (DB.out.ext x10); replace bB := Lib.hid (bB.out.ext x10); replace DC := Lib.hid (DC.out.ext x10); replace bC := Lib.hid (bC.out.ext x10); replace DK := Lib.hid (DK.out.ext x10); replace bK := Lib.hid (bK.out.ext x10); replace DP1 := Lib.hid (DP1.out.ext x10); replace bP := Lib.hid (bP.out.ext x10); replace DP := Lib.hid (DP.out.ext x10); replace bQ := Lib.hid (bQ.out.ext x10)
  replace y := Lib.hid (y.out.trans x10)
  clear x10
  obtain ⟨ka10, kc10, ca10, cc10, pa10, pc10, rfl⟩ := DM.form3
  replace DM := Lib.hid DM
  have xb : Ext w10 (w10.alloc (.cells #[.slice ka10 M.kept.length kc10, .slice ca10 M.cache.length cc10, .int .i64 M.fuse, .slice pa10 M.keep.length pc10, .bool M.dead] 69)) := (Ext.refl _).alloc _
  replace D := Lib.hid (D.out.ext xb); replace bd := Lib.hid (bd.out.ext xb); replace bx := Lib.hid (bx.out.ext xb); replace by_ := Lib.hid (by_.out.ext xb); replace DA := Lib.hid (DA.out.ext xb); replace bA := Lib.hid (bA.out.ext xb); replace DB := Lib.hid (DB.out.ext xb); replace bB := Lib.hid (bB.out.ext xb); replace DC := Lib.hid (DC.out.ext xb); replace bC := Lib.hid (bC.out.ext xb); replace DK := Lib.hid (DK.out.ext xb); replace bK := Lib.hid (bK.out.ext xb); replace DP1 := Lib.hid (DP1.out.ext xb); replace bP := Lib.hid (bP.out.ext xb); replace DP := Lib.hid (DP.out.ext xb); replace bQ := Lib.hid (bQ.out.ext xb); replace DM := Lib.hid (DM.out.ext xb)
  replace y := Lib.hid (y.out.trans xb)
  clear xb
  have bM := Lib.hid (Box.new w10 [.slice ka10 M.kept.length kc10, .slice ca10 M.cache.length cc10, .int .i64 M.fuse, .slice pa10 M.keep.length pc10, .bool M.dead] 69)
  obtain ⟨⟨gbM0, gbM1, gbM2, gbM3, gbM4⟩, _⟩ := bM.out.at5
  obtain ⟨⟨gbx0, gbx1, gbx2, gbx3⟩, _⟩ := bx.out.at4
  go_wp2_with fail
  refine (c8.out _ _ DM.out).mono ?_; rintro e w11 ⟨rfl, x11⟩
  clear gbM0 gbM1 gbM2 gbM3 gbM4 gbx0 gbx1 gbx2 gbx3
  replace D := Lib.hid (D.out.ext x11); replace bd := Lib.hid (bd.out.ext x11); replace bx := Lib.hid (bx.out.ext x11); replace by_ := Lib.hid (by_.out.ext x11); replace DA := Lib.hid (DA.out.ext x11); replace bA := Lib.hid (bA.out.ext x11); replace DB := Lib.hid (DB.out.ext x11); replace bB := Lib.hid (bB.out.ext x11); replace DC := Lib.hid (DC.out.ext x11); replace bC := Lib.hid (bC.out.ext x11); replace DK := Lib.hid (DK.out.ext x11); replace bK := Lib.hid (bK.out.ext x11); replace DP1 := Lib.hid (DP1.out.ext x11); replace bP := Lib.hid (bP.out.ext x11); replace DP := Lib.hid (DP.out.ext x11); replace bQ := Lib.hid (bQ.out.ext x11); replace DM := Lib.hid (DM.out.ext x11); replace bM := Lib.hid (bM.out.ext x11)
  replace y := Lib.hid (y.out.trans x11)
  clear x11
  obtain ⟨⟨gbP0, gbP1, gbP2, gbP3, gbP4⟩, _⟩ := bP.out.at5
  obtain ⟨⟨gbQ0, gbQ1, gbQ2, gbQ3, gbQ4⟩, _⟩ := bQ.out.at5
  go_wp2_with fail
  refine (c9.out _ _ _ DP1.out DP.out).mono ?_; rintro e w12 ⟨rfl, x12⟩
  clear gbP0 gbP1 gbP2 gbP3 gbP4 gbQ0 gbQ1 gbQ2 gbQ3 gbQ4
  replace D := Lib.hid (D.out.ext x12); replace bd := Lib.hid (bd.out.ext x12); replace bx := Lib.hid (bx.out.ext x12); replace by_ := Lib.hid (by_.out.ext x12); replace DA := Lib.hid (DA.out.ext x12); replace bA := Lib.hid (bA.out.ext x12); replace DB := Lib.hid (DB.out.ext x12); replace bB := Lib.hid (bB.out.ext x12); replace DC := Lib.hid (DC.out.ext x12); replace bC := Lib.hid (bC.out.ext x12); replace DK := Lib.hid (DK.out.ext x12); replace bK := Lib.hid (bK.out.ext x12); replace DP1 := Lib.hid (DP1.out.ext x12); replace bP := Lib.hid (bP.out.ext x12); replace DP := Lib.hid (DP.out.ext x12); replace bQ := Lib.hid (bQ.out.ext x12); replace DM := Lib.hid (DM.out.ext x12); replace bM := Lib.hid (bM.out.ext x12)
  replace y := Lib.hid (y.out.trans x12)
  clear x12
  obtain ⟨⟨gby_0, gby_1, gby_2, gby_3⟩, _⟩ := by_.out.at4
  go_wp2_with fail
  go_ret
  exact ⟨rfl, y.out⟩

end Go.Proofs.Ytehidhcpdiameaa
