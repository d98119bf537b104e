/- The statement DeviceKeeps: the law's own walk. (Printed by wip/devkeeps.py.) -/
import Derived.Test.YtehidhcpdiameaaDevLaw
namespace Go.Proofs.Ytehidhcpdiameaa
open Go.RowKit

namespace Dev
/-- what the inner loop asks, step by step. -/
theorem keeps_steps (d : Disk) (l : List Bool) (s : ByteArray) (x : Nat) : ∃ ok : Nat → Bool, ok = okUpto d l s x ∧ ok 0 = decide (s = d.kept.getD x empty) ∧ ∀ i (hi : i < d.cache.length),
    (ok i = true → ok (i + 1) = true) ∧ (ok i = false → (¬ d.cache[i].1 = (x : Int) → ok (i + 1) = false) ∧ (d.cache[i].1 = (x : Int) →
      (¬ d.cache[i].2 = s → ok (i + 1) = false) ∧ (d.cache[i].2 = s → (¬ i < l.length → ok (i + 1) = false) ∧ ∀ h : i < l.length, ok (i + 1) = l[i]))) := by
  refine ⟨okUpto d l s x, rfl, rfl, fun i hi => ?_⟩
  have hg : d.cache.getD i (0, empty) = d.cache[i] := by rw [List.getD_eq_getElem?_getD, List.getElem?_eq_getElem hi]; rfl
  have hu : okUpto d l s x (i + 1) = (okUpto d l s x i || (decide (d.cache[i].1 = x) && (decide (d.cache[i].2 = s) && (decide (i < l.length) && l.getD i false)))) := by
    conv => lhs; unfold okUpto
    rw [hg]
  rw [hu]
  generalize okUpto d l s x i = o
  generalize d.cache[i] = q
  obtain ⟨q1, q2⟩ := q
  dsimp only
  refine ⟨fun h => by rw [h]; rfl, fun h => ⟨fun h1 => by rw [h, decide_eq_false h1]; rfl, fun h1 => ⟨fun h2 => by rw [h, decide_eq_false h2]; simp, fun h2 => ⟨fun h3 => by rw [h, decide_eq_false h3]; simp, fun h3 => ?_⟩⟩⟩⟩
  rw [h, decide_eq_true h1, decide_eq_true h2, decide_eq_true h3, List.getD_eq_getElem?_getD, List.getElem?_eq_getElem h3]
  rfl
end Dev
theorem field69 (k c p : Value) (f : Int) (b : Bool) (w : World) : (Instr.field 69 (.agg #[k, c, .int .i64 f, p, .bool b]) 0).run Try.prog w = .ok k w := by kernel_rfl

set_option maxRecDepth 100000 in
set_option maxHeartbeats 16000000 in
theorem deviceKeeps_no0 (w : World) (d : Dev.Disk) (v : Value) (l : List Bool) (kv : Value) (D : DiskIn w v d) (hl : Sl w kv (l.map boolV)) (hs : Dev.small d = false) :
    Calls Try.prog 21 #[v, kv] w fun e w' => e = .returned (.bool true) ∧ Ext w w' := by
  have h67 := fun v w h => small9_any d v w h
  rw [hs] at h67
  replace h67 := Lib.hid h67
  obtain ⟨K, C, f, p, b⟩ := d
  try dsimp only at *
  obtain ⟨la, lc, rfl, hlc, hlm, hkc⟩ := sl_bool_at hl
  replace hlc := Lib.hid hlc; replace hlm := Lib.hid hlm; replace hkc := Lib.hid hkc
  obtain ⟨ka, kc, ca, cc, pa, pc, rfl⟩ := D.form3
  dsimp only at D ⊢
  have y : Ext w (w.alloc (.cells #[.slice ka K.length kc, .slice ca C.length cc, .int .i64 f, .slice pa p.length pc, .bool b] 69)) := (Ext.refl w).alloc _
  have bd := Lib.hid (Box.new w [.slice ka K.length kc, .slice ca C.length cc, .int .i64 f, .slice pa p.length pc, .bool b] 69)
  replace D := Lib.hid (D.ext y); replace hl := Lib.hid (hl.ext y); replace y := Lib.hid y
  go_enter Try.func21, Try.ntmps21
  go_wp2_with fail
  refine (fixed09 _).mono ?_; rintro e w1 ⟨rfl, x1⟩
  replace D := Lib.hid (D.out.ext x1); replace hl := Lib.hid (hl.out.ext x1); replace bd := Lib.hid (bd.out.ext x1)
  replace y := Lib.hid (y.out.trans x1)
  clear x1
  obtain ⟨⟨gbd0, gbd1, gbd2, gbd3, gbd4⟩, _⟩ := bd.out.at5
  go_wp2_with fail
  refine (h67.out _ _ D.out).mono ?_; rintro e w2 ⟨rfl, x2⟩
  clear gbd0 gbd1 gbd2 gbd3 gbd4
  replace D := Lib.hid (D.out.ext x2); replace hl := Lib.hid (hl.out.ext x2); replace bd := Lib.hid (bd.out.ext x2)
  replace y := Lib.hid (y.out.trans x2)
  clear x2
  go_wp2_with fail
  refine (fixed09 _).mono ?_; rintro e w3 ⟨rfl, x3⟩
  replace D := Lib.hid (D.out.ext x3); replace hl := Lib.hid (hl.out.ext x3); replace bd := Lib.hid (bd.out.ext x3)
  replace y := Lib.hid (y.out.trans x3)
  clear x3
  go_wp2_with fail
  go_ret
  exact ⟨rfl, y.out⟩

set_option maxRecDepth 100000 in
set_option maxHeartbeats 16000000 in
theorem deviceKeeps_no1 (w : World) (d : Dev.Disk) (v : Value) (l : List Bool) (kv : Value) (D : DiskIn w v d) (hl : Sl w kv (l.map boolV)) (hs : Dev.small d = true) (hm : Dev.may d = false) :
    Calls Try.prog 21 #[v, kv] w fun e w' => e = .returned (.bool true) ∧ Ext w w' := by
  have h67 := fun v w h => small9_any d v w h
  rw [hs] at h67
  replace h67 := Lib.hid h67
  have h73 := fun v w h => may_any d v w h
  rw [hm] at h73
  replace h73 := Lib.hid h73
  obtain ⟨K, C, f, p, b⟩ := d
  try dsimp only at *
  obtain ⟨la, lc, rfl, hlc, hlm, hkc⟩ := sl_bool_at hl
  replace hlc := Lib.hid hlc; replace hlm := Lib.hid hlm; replace hkc := Lib.hid hkc
  obtain ⟨ka, kc, ca, cc, pa, pc, rfl⟩ := D.form3
  dsimp only at D ⊢
  have y : Ext w (w.alloc (.cells #[.slice ka K.length kc, .slice ca C.length cc, .int .i64 f, .slice pa p.length pc, .bool b] 69)) := (Ext.refl w).alloc _
  have bd := Lib.hid (Box.new w [.slice ka K.length kc, .slice ca C.length cc, .int .i64 f, .slice pa p.length pc, .bool b] 69)
  replace D := Lib.hid (D.ext y); replace hl := Lib.hid (hl.ext y); replace y := Lib.hid y
  go_enter Try.func21, Try.ntmps21
  go_wp2_with fail
  refine (fixed09 _).mono ?_; rintro e w1 ⟨rfl, x1⟩
  replace D := Lib.hid (D.out.ext x1); replace hl := Lib.hid (hl.out.ext x1); replace bd := Lib.hid (bd.out.ext x1)
  replace y := Lib.hid (y.out.trans x1)
  clear x1
  obtain ⟨⟨gbd0, gbd1, gbd2, gbd3, gbd4⟩, _⟩ := bd.out.at5
  go_wp2_with fail
  refine (h67.out _ _ D.out).mono ?_; rintro e w2 ⟨rfl, x2⟩
  clear gbd0 gbd1 gbd2 gbd3 gbd4
  replace D := Lib.hid (D.out.ext x2); replace hl := Lib.hid (hl.out.ext x2); replace bd := Lib.hid (bd.out.ext x2)
  replace y := Lib.hid (y.out.trans x2)
  clear x2
  obtain ⟨⟨gbd0, gbd1, gbd2, gbd3, gbd4⟩, _⟩ := bd.out.at5
  go_wp2_with fail
  refine (h73.out _ _ D.out).mono ?_; rintro e w3 ⟨rfl, x3⟩
  clear gbd0 gbd1 gbd2 gbd3 gbd4
  replace D := Lib.hid (D.out.ext x3); replace hl := Lib.hid (hl.out.ext x3); replace bd := Lib.hid (bd.out.ext x3)
  replace y := Lib.hid (y.out.trans x3)
  clear x3
  go_wp2_with fail
  refine (fixed09 _).mono ?_; rintro e w4 ⟨rfl, x4⟩
  replace D := Lib.hid (D.out.ext x4); replace hl := Lib.hid (hl.out.ext x4); replace bd := Lib.hid (bd.out.ext x4)
  replace y := Lib.hid (y.out.trans x4)
  clear x4
  go_wp2_with fail
  go_ret
  exact ⟨rfl, y.out⟩

set_option maxRecDepth 100000 in
set_option maxHeartbeats 16000000 in
theorem deviceKeeps_no2 (w : World) (d : Dev.Disk) (v : Value) (l : List Bool) (kv : Value) (D : DiskIn w v d) (hl : Sl w kv (l.map boolV)) (hs : Dev.small d = true) (hm : Dev.may d = true) (hd : d.dead = true) :
    Calls Try.prog 21 #[v, kv] w fun e w' => e = .returned (.bool true) ∧ Ext w w' := by
  have h67 := fun v w h => small9_any d v w h
  rw [hs] at h67
  replace h67 := Lib.hid h67
  have h73 := fun v w h => may_any d v w h
  rw [hm] at h73
  replace h73 := Lib.hid h73
  obtain ⟨K, C, f, p, b⟩ := d
  try dsimp only at *
  subst hd
  obtain ⟨la, lc, rfl, hlc, hlm, hkc⟩ := sl_bool_at hl
  replace hlc := Lib.hid hlc; replace hlm := Lib.hid hlm; replace hkc := Lib.hid hkc
  obtain ⟨ka, kc, ca, cc, pa, pc, rfl⟩ := D.form3
  dsimp only at D ⊢
  have y : Ext w (w.alloc (.cells #[.slice ka K.length kc, .slice ca C.length cc, .int .i64 f, .slice pa p.length pc, .bool true] 69)) := (Ext.refl w).alloc _
  have bd := Lib.hid (Box.new w [.slice ka K.length kc, .slice ca C.length cc, .int .i64 f, .slice pa p.length pc, .bool true] 69)
  replace D := Lib.hid (D.ext y); replace hl := Lib.hid (hl.ext y); replace y := Lib.hid y
  go_enter Try.func21, Try.ntmps21
  go_wp2_with fail
  refine (fixed09 _).mono ?_; rintro e w1 ⟨rfl, x1⟩
  replace D := Lib.hid (D.out.ext x1); replace hl := Lib.hid (hl.out.ext x1); replace bd := Lib.hid (bd.out.ext x1)
  replace y := Lib.hid (y.out.trans x1)
  clear x1
  obtain ⟨⟨gbd0, gbd1, gbd2, gbd3, gbd4⟩, _⟩ := bd.out.at5
  go_wp2_with fail
  refine (h67.out _ _ D.out).mono ?_; rintro e w2 ⟨rfl, x2⟩
  clear gbd0 gbd1 gbd2 gbd3 gbd4
  replace D := Lib.hid (D.out.ext x2); replace hl := Lib.hid (hl.out.ext x2); replace bd := Lib.hid (bd.out.ext x2)
  replace y := Lib.hid (y.out.trans x2)
  clear x2
  obtain ⟨⟨gbd0, gbd1, gbd2, gbd3, gbd4⟩, _⟩ := bd.out.at5
  go_wp2_with fail
  refine (h73.out _ _ D.out).mono ?_; rintro e w3 ⟨rfl, x3⟩
  clear gbd0 gbd1 gbd2 gbd3 gbd4
  replace D := Lib.hid (D.out.ext x3); replace hl := Lib.hid (hl.out.ext x3); replace bd := Lib.hid (bd.out.ext x3)
  replace y := Lib.hid (y.out.trans x3)
  clear x3
  obtain ⟨⟨gbd0, gbd1, gbd2, gbd3, gbd4⟩, _⟩ := bd.out.at5
  go_wp2_with fail
  refine (fixed09 _).mono ?_; rintro e w4 ⟨rfl, x4⟩
  clear gbd0 gbd1 gbd2 gbd3 gbd4
  replace D := Lib.hid (D.out.ext x4); replace hl := Lib.hid (hl.out.ext x4); replace bd := Lib.hid (bd.out.ext x4)
  replace y := Lib.hid (y.out.trans x4)
  clear x4
  go_wp2_with fail
  go_ret
  exact ⟨rfl, y.out⟩

set_option maxRecDepth 100000 in
set_option maxHeartbeats 16000000 in
theorem deviceKeeps_no3 (w : World) (d : Dev.Disk) (v : Value) (l : List Bool) (kv : Value) (D : DiskIn w v d) (hl : Sl w kv (l.map boolV)) (hs : Dev.small d = true) (hm : Dev.may d = true) (hd : d.dead = false) (h4 : 400 < l.length) :
    Calls Try.prog 21 #[v, kv] w fun e w' => e = .returned (.bool true) ∧ Ext w w' := by
  have h67 := fun v w h => small9_any d v w h
  rw [hs] at h67
  replace h67 := Lib.hid h67
  have h73 := fun v w h => may_any d v w h
  rw [hm] at h73
  replace h73 := Lib.hid h73
  obtain ⟨K, C, f, p, b⟩ := d
  try dsimp only at *
  subst hd
  have hlen : decide ((l.length : Int) > 400) = true := decide_eq_true (by omega)
  obtain ⟨la, lc, rfl, hlc, hlm, hkc⟩ := sl_bool_at hl
  replace hlc := Lib.hid hlc; replace hlm := Lib.hid hlm; replace hkc := Lib.hid hkc
  obtain ⟨ka, kc, ca, cc, pa, pc, rfl⟩ := D.form3
  dsimp only at D ⊢
  have y : Ext w (w.alloc (.cells #[.slice ka K.length kc, .slice ca C.length cc, .int .i64 f, .slice pa p.length pc, .bool false] 69)) := (Ext.refl w).alloc _
  have bd := Lib.hid (Box.new w [.slice ka K.length kc, .slice ca C.length cc, .int .i64 f, .slice pa p.length pc, .bool false] 69)
  replace D := Lib.hid (D.ext y); replace hl := Lib.hid (hl.ext y); replace y := Lib.hid y
  go_enter Try.func21, Try.ntmps21
  go_wp2_with fail
  refine (fixed09 _).mono ?_; rintro e w1 ⟨rfl, x1⟩
  replace D := Lib.hid (D.out.ext x1); replace hl := Lib.hid (hl.out.ext x1); replace bd := Lib.hid (bd.out.ext x1)
  replace y := Lib.hid (y.out.trans x1)
  clear x1
  obtain ⟨⟨gbd0, gbd1, gbd2, gbd3, gbd4⟩, _⟩ := bd.out.at5
  go_wp2_with fail
  refine (h67.out _ _ D.out).mono ?_; rintro e w2 ⟨rfl, x2⟩
  clear gbd0 gbd1 gbd2 gbd3 gbd4
  replace D := Lib.hid (D.out.ext x2); replace hl := Lib.hid (hl.out.ext x2); replace bd := Lib.hid (bd.out.ext x2)
  replace y := Lib.hid (y.out.trans x2)
  clear x2
  obtain ⟨⟨gbd0, gbd1, gbd2, gbd3, gbd4⟩, _⟩ := bd.out.at5
  go_wp2_with fail
  refine (h73.out _ _ D.out).mono ?_; rintro e w3 ⟨rfl, x3⟩
  clear gbd0 gbd1 gbd2 gbd3 gbd4
  replace D := Lib.hid (D.out.ext x3); replace hl := Lib.hid (hl.out.ext x3); replace bd := Lib.hid (bd.out.ext x3)
  replace y := Lib.hid (y.out.trans x3)
  clear x3
  obtain ⟨⟨gbd0, gbd1, gbd2, gbd3, gbd4⟩, _⟩ := bd.out.at5
  go_wp2_with fail
  refine (fixed09 _).mono ?_; rintro e w4 ⟨rfl, x4⟩
  clear gbd0 gbd1 gbd2 gbd3 gbd4
  replace D := Lib.hid (D.out.ext x4); replace hl := Lib.hid (hl.out.ext x4); replace bd := Lib.hid (bd.out.ext x4)
  replace y := Lib.hid (y.out.trans x4)
  clear x4
  go_wp2_with fail
  go_ret
  exact ⟨rfl, y.out⟩

set_option maxRecDepth 100000 in
set_option maxHeartbeats 16000000 in
theorem deviceKeeps_live (w : World) (d : Dev.Disk) (v : Value) (l : List Bool) (kv : Value) (D : DiskIn w v d) (hl : Sl w kv (l.map boolV)) (hs : Dev.small d = true) (hm : Dev.may d = true) (hd : d.dead = false) (h4 : l.length ≤ 400) :
    Calls Try.prog 21 #[v, kv] w fun e w' => e = .returned (.bool true) ∧ Ext w w' := by
  have h67 := fun v w h => small9_any d v w h
  rw [hs] at h67
  replace h67 := Lib.hid h67
  have h73 := fun v w h => may_any d v w h
  rw [hm] at h73
  replace h73 := Lib.hid h73
  have hk0 := Dev.small_keep hs
  have hsm : d.kept.length ≤ 200 ∧ d.cache.length ≤ 200 := by unfold Dev.small at hs; have := of_decide_eq_true hs; exact ⟨this.1, this.2.1⟩
  obtain ⟨PS, hPS⟩ : ∃ PS, Dev.putSome d.kept d.cache l = PS := ⟨_, rfl⟩
  obtain ⟨PA, hPA⟩ : ∃ PA, Dev.putAll d.kept d.cache = PA := ⟨_, rfl⟩
  have e1 : Dev.die d l = ⟨PS, [], -1, [], true⟩ := by unfold Dev.die Dev.dieOf; rw [if_neg (by rw [hm]; decide), hPS]
  have e3 : Dev.die d (List.replicate d.cache.length true) = ⟨PA, [], -1, [], true⟩ := by unfold Dev.die Dev.dieOf; rw [if_neg (by rw [hm]; decide), Dev.putSome_all, hPA]
  have e4 : Dev.flush d = (⟨PA, [], d.fuse, d.keep, false⟩, 0) := by unfold Dev.flush; rw [if_neg (by rw [hm]; decide), if_neg (by rw [hd]; decide), hPA, hd]
  have e5 : Dev.die d [] = ⟨d.kept, [], -1, [], true⟩ := by unfold Dev.die Dev.dieOf; rw [if_neg (by rw [hm]; decide), Dev.putSome_nil]
  have e6 : Dev.revive d = ⟨d.kept, [], -1, [], false⟩ := by unfold Dev.revive; rw [if_neg (by rw [hm]; decide)]
  have mE : Dev.may ⟨PS, [], -1, [], true⟩ = true := by have := Dev.may_die hm l; unfold Dev.dieOf at this; rwa [hPS] at this
  have lS : PS.length = d.kept.length := by rw [← hPS]; exact Dev.putSome_length _ _ _
  have hok := fun x hx => Dev.keeps d hm l x hx
  unfold Dev.dieOf at hok
  rw [hPS] at hok
  dsimp only at hok
  have c1 := fun v kp w h hk => die9_any d v kp l w h hk hk0
  rw [e1] at c1
  have c2 := fun v w h => may_any ⟨PS, [], -1, [], true⟩ v w h
  rw [mE] at c2
  have c3 := fun v kp w h hk => die9_any d v kp (List.replicate d.cache.length true) w h hk hk0
  rw [e3] at c3
  have c4 := fun v w h => flush9_any d v w h hk0
  rw [e4] at c4
  have c5 := fun v w h => die9_any d v (.slice none 0 0) [] w h (Sl.nil w) hk0
  rw [e5] at c5
  have c6 := fun v w h => revive9_any d v w h hk0
  rw [e6] at c6
  have c7 : ∀ (L : List ByteArray) u v w, Sl w u (L.map strV) → Sl w v (L.map strV) → Calls Try.prog 56 #[u, v] w fun e w' => e = .returned (.bool true) ∧ Ext w w' := fun L u v w h h2 => by
    have := sameTexts_any L L u v w h h2
    rwa [decide_eq_true rfl] at this
  have steps := fun s x => Dev.keeps_steps d l s x
  clear hs hm hPS hPA e1 e3 e4 e5 e6 mE hk0
  dsimp only at c4
  obtain ⟨K, C, f, p, b⟩ := d
  dsimp only at *
  subst hd
  have n0 : ((K.length : Int) != (K.length : Int)) = false := by simp
  have n1 : decide ((l.length : Int) > 400) = false := decide_eq_false (by omega)
  have hK : (K.length : Int) ≤ 200 := by omega
  have hC : (C.length : Int) ≤ 200 := by omega
  have hCn : C.length ≤ 200 := by omega
  clear hsm
  replace c1 := Lib.hid c1; replace c2 := Lib.hid c2; replace c3 := Lib.hid c3; replace c4 := Lib.hid c4; replace c5 := Lib.hid c5; replace c6 := Lib.hid c6; replace c7 := Lib.hid c7; replace steps := Lib.hid steps; replace hok := Lib.hid hok; replace lS := Lib.hid lS
  obtain ⟨la, lc, rfl, hlc, hlm, hkc⟩ := sl_bool_at hl
  replace hlc := Lib.hid hlc; replace hlm := Lib.hid hlm; replace hkc := Lib.hid hkc
  obtain ⟨ka, kc, ca, cc, pa, pc, rfl⟩ := D.form3
  dsimp only at D ⊢
  have y : Ext w (w.alloc (.cells #[.slice ka K.length kc, .slice ca C.length cc, .int .i64 f, .slice pa p.length pc, .bool false] 69)) := (Ext.refl w).alloc _
  have bd := Lib.hid (Box.new w [.slice ka K.length kc, .slice ca C.length cc, .int .i64 f, .slice pa p.length pc, .bool false] 69)
  replace D := Lib.hid (D.ext y); replace hl := Lib.hid (hl.ext y); replace y := Lib.hid y
  go_enter Try.func21, Try.ntmps21
  go_wp2_with fail
  refine (fixed09 _).mono ?_; rintro e w1 ⟨rfl, x1⟩
  replace D := Lib.hid (D.out.ext x1); replace hl := Lib.hid (hl.out.ext x1); replace bd := Lib.hid (bd.out.ext x1)
  replace y := Lib.hid (y.out.trans x1)
  clear x1
  obtain ⟨⟨gbd0, gbd1, gbd2, gbd3, gbd4⟩, _⟩ := bd.out.at5
  go_wp2_with fail
  refine (h67.out _ _ D.out).mono ?_; rintro e w2 ⟨rfl, x2⟩
  clear gbd0 gbd1 gbd2 gbd3 gbd4
  replace D := Lib.hid (D.out.ext x2); replace hl := Lib.hid (hl.out.ext x2); replace bd := Lib.hid (bd.out.ext x2)
  replace y := Lib.hid (y.out.trans x2)
  clear x2
  obtain ⟨⟨gbd0, gbd1, gbd2, gbd3, gbd4⟩, _⟩ := bd.out.at5
  go_wp2_with fail
  refine (h73.out _ _ D.out).mono ?_; rintro e w3 ⟨rfl, x3⟩
  clear gbd0 gbd1 gbd2 gbd3 gbd4
  replace D := Lib.hid (D.out.ext x3); replace hl := Lib.hid (hl.out.ext x3); replace bd := Lib.hid (bd.out.ext x3)
  replace y := Lib.hid (y.out.trans x3)
  clear x3
  obtain ⟨⟨gbd0, gbd1, gbd2, gbd3, gbd4⟩, _⟩ := bd.out.at5
  go_wp2_with fail
  refine (c1.out _ _ _ D.out hl.out).mono ?_; rintro e w4 ⟨r4, rfl, DE, x4⟩
  clear gbd0 gbd1 gbd2 gbd3 gbd4
  replace D := Lib.hid (D.out.ext x4); replace hl := Lib.hid (hl.out.ext x4); replace bd := Lib.hid (bd.out.ext x4)
  replace y := Lib.hid (y.out.trans x4)
  clear x4
  obtain ⟨ea, ec, ga, gc, qa, qc, rfl⟩ := DE.formN (N := K.length) (M := 0) (f := -1) (L := 0) (b := true) lS.out rfl rfl rfl rfl
  replace DE := Lib.hid DE
  have xb : Ext w4 (w4.alloc (.cells #[.slice ea K.length ec, .slice ga 0 gc, .int .i64 (-1), .slice qa 0 qc, .bool true] 69)) := (Ext.refl _).alloc _
  replace D := Lib.hid (D.out.ext xb); replace hl := Lib.hid (hl.out.ext xb); replace bd := Lib.hid (bd.out.ext xb); replace DE := Lib.hid (DE.out.ext xb)
  replace y := Lib.hid (y.out.trans xb)
  clear xb
  have bE := Lib.hid (Box.new w4 [.slice ea K.length ec, .slice ga 0 gc, .int .i64 (-1), .slice qa 0 qc, .bool true] 69)
  obtain ⟨⟨gbd0, gbd1, gbd2, gbd3, gbd4⟩, _⟩ := bd.out.at5
  obtain ⟨⟨gbE0, gbE1, gbE2, gbE3, gbE4⟩, _⟩ := bE.out.at5
  go_wp2_with fail
  refine (c2.out _ _ DE.out).mono ?_; rintro e w5 ⟨rfl, x5⟩
  clear gbd0 gbd1 gbd2 gbd3 gbd4 gbE0 gbE1 gbE2 gbE3 gbE4
  replace D := Lib.hid (D.out.ext x5); replace hl := Lib.hid (hl.out.ext x5); replace bd := Lib.hid (bd.out.ext x5); replace DE := Lib.hid (DE.out.ext x5); replace bE := Lib.hid (bE.out.ext x5)
  replace y := Lib.hid (y.out.trans x5)
  clear x5
  have hPc := (sl_str_at DE.out.parts.1)
  have hKc := (sl_str_at D.out.parts.1)
  have hCc := (slp_at D.out.parts.2.1)
  have hLc := (sl_bool_at hl.out)
  obtain ⟨a', c', z1, z2, z3, hPc⟩ := hPc
  simp only [Value.slice.injEq] at z1; obtain ⟨rfl, z4, rfl⟩ := z1; clear z2 z3 z4
  obtain ⟨a', c', z1, z2, z3, hKc⟩ := hKc
  simp only [Value.slice.injEq] at z1; obtain ⟨rfl, z4, rfl⟩ := z1; clear z2 z3 z4
  obtain ⟨a', c', z1, z2, z3, hCc⟩ := hCc
  simp only [Value.slice.injEq] at z1; obtain ⟨rfl, z4, rfl⟩ := z1; clear z2 z3 z4
  obtain ⟨a', c', z1, z2, z3, hLc⟩ := hLc
  simp only [Value.slice.injEq] at z1; obtain ⟨rfl, z4, rfl⟩ := z1; clear z2 z3 z4
  replace hPc := Lib.hid hPc; replace hKc := Lib.hid hKc; replace hCc := Lib.hid hCc; replace hLc := Lib.hid hLc
  clear hkc
  obtain ⟨⟨gbd0, gbd1, gbd2, gbd3, gbd4⟩, _⟩ := bd.out.at5
  obtain ⟨⟨gbE0, gbE1, gbE2, gbE3, gbE4⟩, _⟩ := bE.out.at5
  go_wp2_with fail
  clear gbd0 gbd1 gbd2 gbd3 gbd4 gbE0 gbE1 gbE2 gbE3 gbE4
  go_loopw [6] (fun i wr => ∃ n : Nat, n ≤ K.length ∧ i = .int .i64 n ∧ Ext w5 wr) (fun i _ => K.length - (intOf i).toNat)
  case atStart => exact ⟨0, by omega, rfl, Ext.refl _⟩
  case round =>
    obtain ⟨n, hn, rfl, hx⟩ := hrel
    obtain ⟨wo, hwo⟩ : ∃ wo : World, wo = wr := ⟨_, rfl⟩
    subst hwo
    have bd1 := Lib.hid (bd.out.ext hx); have bE1 := Lib.hid (bE.out.ext hx)
    obtain ⟨⟨i0, i1, i2, i3, i4⟩, _⟩ := bd1.out.at5
    obtain ⟨⟨j0, j1, j2, j3, j4⟩, _⟩ := bE1.out.at5
    by_cases hlt : n < K.length
    · have hltP : n < PS.length := by rw [lS.out]; exact hlt
      have t1 : decide ((n : Int) < K.length) = true := decide_eq_true (by omega)
      have hnK : (n : Int) < K.length := by omega
      obtain ⟨bp, op, hp1, hp2, hp3⟩ := hPc.out n hltP
      obtain ⟨bk, ok_, hk1, hk2, hk3⟩ := hKc.out n hlt
      have gP : ∀ wq, Ext wo wq → wq.cell? ⟨bp, op + n, none⟩ = some (.string PS[n]) := fun wq xq => ((hx.trans xq).cell (p := ⟨bp, op + n, none⟩) hp2).trans hp3
      have gK : ∀ wq, Ext wo wq → wq.cell? ⟨bk, ok_ + n, none⟩ = some (.string K[n]) := fun wq xq => ((hx.trans xq).cell (p := ⟨bk, ok_ + n, none⟩) hk2).trans hk3
      have hfin := hok.out n hlt
      have hgP : PS.getD n Dev.empty = PS[n] := by rw [List.getD_eq_getElem?_getD, List.getElem?_eq_getElem hltP]; rfl
      rw [hgP] at hfin
      obtain ⟨OK, hO, hO0, hOs⟩ := steps.out PS[n] n
      rw [← hO] at hfin
      have hgK : K.getD n Dev.empty = K[n] := by rw [List.getD_eq_getElem?_getD, List.getElem?_eq_getElem hlt]; rfl
      try dsimp only at hO0 hOs
      rw [hgK] at hO0
      have hq : (PS[n].toList == K[n].toList) = OK 0 := by
        rw [hO0]
        by_cases h : PS[n] = K[n]
        · rw [decide_eq_true h, h]; exact beq_self_eq_true _
        · rw [decide_eq_false h]; exact beq_false fun e => h (str_inj e)
      subst hp1 hk1
      generalize PS[n] = s at *
      generalize K[n] = t at *
      clear hgP hgK hO hO0 hp2 hp3 hk2 hk3 hltP
      replace hfin := Lib.hid hfin; replace hOs := Lib.hid hOs; replace gP := Lib.hid gP; replace gK := Lib.hid gK
      go_wp2_with fail
      refine Soft.region_ext [] [0, 1, 2, 3, 4, 5, 6, 7, 8, 9, 10, 11] [] (by kernel_rfl) (by kernel_rfl) Soft.stab_none ?_
      repeat (first | (refine Soft.pure_n rfl rfl rfl rfl (fun K hK => ?_); go_simp; refine hK _ ?_; clear hK K) | (refine Soft.quiet_n rfl rfl rfl rfl (fun K hK => ?_); go_simp; apply Exists.intro; refine ⟨fun wq hq => ?_, hK _ ?_⟩; (first | (obtain ⟨⟨gg0, gg1, gg2, gg3, gg4⟩, _⟩ := (bd1.out.ext hq).at5; go_simp; with_reducible rfl) | (obtain ⟨⟨gg0, gg1, gg2, gg3, gg4⟩, _⟩ := (bE1.out.ext hq).at5; go_simp; with_reducible rfl) | (have gg := gP.out wq hq; go_simp; with_reducible rfl) | (have gg := gK.out wq hq; go_simp; with_reducible rfl)); clear hK K))
      refine Soft.ends (by kernel_rfl) (fun W1 X1 _ => ?_)
      have hx1 := Lib.hid (hx.trans X1)
      have bd2 := Lib.hid (bd1.out.ext X1); have bE2 := Lib.hid (bE1.out.ext X1)
      clear i0 i1 i2 i3 i4 j0 j1 j2 j3 j4
      go_wp2_with fail
      go_loopw [7, 8] (fun o i wr => ∃ m : Nat, m ≤ C.length ∧ i = .int .i64 m ∧ o = .bool (OK m) ∧ Ext W1 wr) (fun _ i _ => C.length - (intOf i).toNat)
      case atStart => exact ⟨0, by omega, rfl, rfl, Ext.refl _⟩
      case round =>
        obtain ⟨m, hm, rfl, rfl, hx2⟩ := hrel
        have bd3 := Lib.hid (bd2.out.ext hx2); have bE3 := Lib.hid (bE2.out.ext hx2)
        obtain ⟨⟨i0, i1, i2, i3, i4⟩, _⟩ := bd3.out.at5
        obtain ⟨⟨j0, j1, j2, j3, j4⟩, _⟩ := bE3.out.at5
        by_cases hlt2 : m < C.length
        · have t2 : decide ((m : Int) < C.length) = true := decide_eq_true (by omega)
          have hmC : (m : Int) < C.length := by omega
          obtain ⟨bc, oc, hc1, hc2, hc3, hc4⟩ := hCc.out m hlt2
          have gA : ∀ wq, Ext wr wq → wq.cell? ⟨bc, oc + m * 2, none⟩ = some (.int .i64 C[m].1) := fun wq xq => (((hx1.out.trans hx2).trans xq).cell (p := ⟨bc, oc + m * 2, none⟩) hc2).trans hc3
          have gT : ∀ wq, Ext wr wq → wq.cell? ⟨bc, oc + m * 2 + 1, none⟩ = some (.string C[m].2) := fun wq xq => (((hx1.out.trans hx2).trans xq).cell (p := ⟨bc, oc + m * 2 + 1, none⟩) hc2).trans hc4
          have gP2 : ∀ wq, Ext wr wq → wq.cell? ⟨bp, op + n, none⟩ = some (.string s) := fun wq xq => gP.out wq ((X1.trans hx2).trans xq)
          obtain ⟨s1, s2⟩ := hOs.out m hlt2
          have gL : ∀ hL : m < l.length, ∃ bl ol, la = some ⟨bl, ol, none⟩ ∧ ∀ wq, Ext wr wq → wq.cell? ⟨bl, ol + m, none⟩ = some (.bool l[m]) := fun hL => by
            obtain ⟨bl, ol, q1, q2, q3⟩ := hLc.out m hL
            exact ⟨bl, ol, q1, fun wq xq => (((hx1.out.trans hx2).trans xq).cell (p := ⟨bl, ol + m, none⟩) q2).trans q3⟩
          subst hc1
          generalize C[m] = q at *
          obtain ⟨x, u⟩ := q
          dsimp only at gA gT s2
          clear hc2 hc3 hc4
          replace gA := Lib.hid gA; replace gT := Lib.hid gT; replace gP2 := Lib.hid gP2
          obtain ⟨on, hon⟩ : ∃ on, OK (m + 1) = on := ⟨_, rfl⟩
          rw [hon] at s1 s2
          replace hon := Lib.hid hon
          cases ho : OK m with
          | true =>
            obtain rfl := s1 ho
            clear s1 s2 gL ho
            go_wp2_with fail
            refine Soft.region_ext [] [0, 1, 2, 3, 4, 5, 6, 7, 8, 9, 10, 11, 12, 13, 14, 15, 16, 17, 18, 19, 20, 21, 22, 23, 24, 25, 26, 27, 28, 29, 30, 31, 32, 33, 34, 35, 36, 37] [] (by kernel_rfl) (by kernel_rfl) Soft.stab_none ?_
            repeat (first | (refine Soft.pure_n rfl rfl rfl rfl (fun K hK => ?_); go_simp; refine hK _ ?_; clear hK K) | (refine Soft.pure_g rfl rfl rfl rfl rfl (fun K hK => ?_); go_simp; refine hK _ ?_; clear hK K) | (refine Soft.shut rfl rfl rfl rfl (fun K hK => ?_); go_simp; refine hK _ ?_; clear hK K) | (refine Soft.shut0 rfl rfl rfl rfl (fun K hK => ?_); go_simp; refine hK _ ?_; clear hK K) | (refine Soft.quiet_n rfl rfl rfl rfl (fun K hK => ?_); go_simp; apply Exists.intro; refine ⟨fun wq hq => ?_, hK _ ?_⟩; (first | (obtain ⟨⟨gg0, gg1, gg2, gg3, gg4⟩, _⟩ := (bd3.out.ext hq).at5; go_simp; with_reducible rfl) | (obtain ⟨⟨gg0, gg1, gg2, gg3, gg4⟩, _⟩ := (bE3.out.ext hq).at5; go_simp; with_reducible rfl) | (have gg := gP2.out wq hq; go_simp; with_reducible rfl) | (have gg := gA.out wq hq; go_simp; with_reducible rfl) | (have gg := gT.out wq hq; go_simp; with_reducible rfl)); clear hK K) | (refine Soft.quiet_g rfl rfl rfl rfl rfl (fun K hK => ?_); go_simp; apply Exists.intro; refine ⟨fun wq hq => ?_, hK _ ?_⟩; (first | (obtain ⟨⟨gg0, gg1, gg2, gg3, gg4⟩, _⟩ := (bd3.out.ext hq).at5; go_simp; with_reducible rfl) | (obtain ⟨⟨gg0, gg1, gg2, gg3, gg4⟩, _⟩ := (bE3.out.ext hq).at5; go_simp; with_reducible rfl) | (have gg := gP2.out wq hq; go_simp; with_reducible rfl) | (have gg := gA.out wq hq; go_simp; with_reducible rfl) | (have gg := gT.out wq hq; go_simp; with_reducible rfl)); clear hK K))
            refine Soft.ends (by kernel_rfl) (fun W2 X2 _ => ?_)
            clear i0 i1 i2 i3 i4 j0 j1 j2 j3 j4
            go_wp2_with fail
            go_roundw
            case rel => exact ⟨m + 1, by omega, by go_num, by rw [hon.out], hx2.trans X2⟩
            case measure => simp [intOf]; omega
          | false =>
            replace s2 := s2 ho
            obtain ⟨s2, s3⟩ := s2
            by_cases hA : x = (n : Int)
            · have h1 : (x == (n : Int)) = true := by simpa using hA
              replace s3 := s3 hA
              obtain ⟨s2', s3⟩ := s3
              by_cases hT : u = s
              · have h2 : (u.toList == s.toList) = true := by rw [hT]; exact beq_self_eq_true _
                replace s3 := s3 hT
                obtain ⟨s3, s4⟩ := s3
                by_cases hL : m < l.length
                · replace gL := gL hL
                  obtain ⟨bl, ol, hla, gL⟩ := gL
                  obtain rfl := s4 hL
                  subst hla
                  have h3 : decide ((m : Int) < l.length) = true := decide_eq_true (by omega)
                  have hmL : (m : Int) < l.length := by omega
                  replace gL := Lib.hid gL
                  clear s1 s2 s2' s3 s4 ho
                  generalize l[m] = lm at *
                  cases lm
                  · go_wp2_with fail
                    refine Soft.region_ext [] [0, 1, 2, 3, 4, 5, 6, 7, 8, 9, 10, 11, 12, 13, 14, 15, 16, 17, 18, 19, 20, 21, 22, 23, 24, 25, 26, 27, 28, 29, 30, 31, 32, 33, 34, 35, 36, 37] [] (by kernel_rfl) (by kernel_rfl) Soft.stab_none ?_
                    repeat (first | (refine Soft.pure_n rfl rfl rfl rfl (fun K hK => ?_); go_simp; refine hK _ ?_; clear hK K) | (refine Soft.pure_g rfl rfl rfl rfl rfl (fun K hK => ?_); go_simp; refine hK _ ?_; clear hK K) | (refine Soft.shut rfl rfl rfl rfl (fun K hK => ?_); go_simp; refine hK _ ?_; clear hK K) | (refine Soft.shut0 rfl rfl rfl rfl (fun K hK => ?_); go_simp; refine hK _ ?_; clear hK K) | (refine Soft.quiet_n rfl rfl rfl rfl (fun K hK => ?_); go_simp; apply Exists.intro; refine ⟨fun wq hq => ?_, hK _ ?_⟩; (first | (obtain ⟨⟨gg0, gg1, gg2, gg3, gg4⟩, _⟩ := (bd3.out.ext hq).at5; go_simp; with_reducible rfl) | (obtain ⟨⟨gg0, gg1, gg2, gg3, gg4⟩, _⟩ := (bE3.out.ext hq).at5; go_simp; with_reducible rfl) | (have gg := gP2.out wq hq; go_simp; with_reducible rfl) | (have gg := gA.out wq hq; go_simp; with_reducible rfl) | (have gg := gT.out wq hq; go_simp; with_reducible rfl) | (have gg := gL.out wq hq; go_simp; with_reducible rfl)); clear hK K) | (refine Soft.quiet_g rfl rfl rfl rfl rfl (fun K hK => ?_); go_simp; apply Exists.intro; refine ⟨fun wq hq => ?_, hK _ ?_⟩; (first | (obtain ⟨⟨gg0, gg1, gg2, gg3, gg4⟩, _⟩ := (bd3.out.ext hq).at5; go_simp; with_reducible rfl) | (obtain ⟨⟨gg0, gg1, gg2, gg3, gg4⟩, _⟩ := (bE3.out.ext hq).at5; go_simp; with_reducible rfl) | (have gg := gP2.out wq hq; go_simp; with_reducible rfl) | (have gg := gA.out wq hq; go_simp; with_reducible rfl) | (have gg := gT.out wq hq; go_simp; with_reducible rfl) | (have gg := gL.out wq hq; go_simp; with_reducible rfl)); clear hK K))
                    refine Soft.ends (by kernel_rfl) (fun W2 X2 _ => ?_)
                    clear i0 i1 i2 i3 i4 j0 j1 j2 j3 j4
                    go_wp2_with fail
                    go_roundw
                    case rel => exact ⟨m + 1, by omega, by go_num, by rw [hon.out], hx2.trans X2⟩
                    case measure => simp [intOf]; omega
                  · go_wp2_with fail
                    refine Soft.region_ext [] [0, 1, 2, 3, 4, 5, 6, 7, 8, 9, 10, 11, 12, 13, 14, 15, 16, 17, 18, 19, 20, 21, 22, 23, 24, 25, 26, 27, 28, 29, 30, 31, 32, 33, 34, 35, 36, 37] [] (by kernel_rfl) (by kernel_rfl) Soft.stab_none ?_
                    repeat (first | (refine Soft.pure_n rfl rfl rfl rfl (fun K hK => ?_); go_simp; refine hK _ ?_; clear hK K) | (refine Soft.pure_g rfl rfl rfl rfl rfl (fun K hK => ?_); go_simp; refine hK _ ?_; clear hK K) | (refine Soft.shut rfl rfl rfl rfl (fun K hK => ?_); go_simp; refine hK _ ?_; clear hK K) | (refine Soft.shut0 rfl rfl rfl rfl (fun K hK => ?_); go_simp; refine hK _ ?_; clear hK K) | (refine Soft.quiet_n rfl rfl rfl rfl (fun K hK => ?_); go_simp; apply Exists.intro; refine ⟨fun wq hq => ?_, hK _ ?_⟩; (first | (obtain ⟨⟨gg0, gg1, gg2, gg3, gg4⟩, _⟩ := (bd3.out.ext hq).at5; go_simp; with_reducible rfl) | (obtain ⟨⟨gg0, gg1, gg2, gg3, gg4⟩, _⟩ := (bE3.out.ext hq).at5; go_simp; with_reducible rfl) | (have gg := gP2.out wq hq; go_simp; with_reducible rfl) | (have gg := gA.out wq hq; go_simp; with_reducible rfl) | (have gg := gT.out wq hq; go_simp; with_reducible rfl) | (have gg := gL.out wq hq; go_simp; with_reducible rfl)); clear hK K) | (refine Soft.quiet_g rfl rfl rfl rfl rfl (fun K hK => ?_); go_simp; apply Exists.intro; refine ⟨fun wq hq => ?_, hK _ ?_⟩; (first | (obtain ⟨⟨gg0, gg1, gg2, gg3, gg4⟩, _⟩ := (bd3.out.ext hq).at5; go_simp; with_reducible rfl) | (obtain ⟨⟨gg0, gg1, gg2, gg3, gg4⟩, _⟩ := (bE3.out.ext hq).at5; go_simp; with_reducible rfl) | (have gg := gP2.out wq hq; go_simp; with_reducible rfl) | (have gg := gA.out wq hq; go_simp; with_reducible rfl) | (have gg := gT.out wq hq; go_simp; with_reducible rfl) | (have gg := gL.out wq hq; go_simp; with_reducible rfl)); clear hK K))
                    refine Soft.ends (by kernel_rfl) (fun W2 X2 _ => ?_)
                    clear i0 i1 i2 i3 i4 j0 j1 j2 j3 j4
                    go_wp2_with fail
                    go_roundw
                    case rel => exact ⟨m + 1, by omega, by go_num, by rw [hon.out], hx2.trans X2⟩
                    case measure => simp [intOf]; omega
                · obtain rfl := s3 hL
                  have h3 : decide ((m : Int) < l.length) = false := decide_eq_false (by omega)
                  clear s1 s2 s2' s4 gL ho
                  go_wp2_with fail
                  refine Soft.region_ext [] [0, 1, 2, 3, 4, 5, 6, 7, 8, 9, 10, 11, 12, 13, 14, 15, 16, 17, 18, 19, 20, 21, 22, 23, 24, 25, 26, 27, 28, 29, 30, 31, 32, 33, 34, 35, 36, 37] [] (by kernel_rfl) (by kernel_rfl) Soft.stab_none ?_
                  repeat (first | (refine Soft.pure_n rfl rfl rfl rfl (fun K hK => ?_); go_simp; refine hK _ ?_; clear hK K) | (refine Soft.pure_g rfl rfl rfl rfl rfl (fun K hK => ?_); go_simp; refine hK _ ?_; clear hK K) | (refine Soft.shut rfl rfl rfl rfl (fun K hK => ?_); go_simp; refine hK _ ?_; clear hK K) | (refine Soft.shut0 rfl rfl rfl rfl (fun K hK => ?_); go_simp; refine hK _ ?_; clear hK K) | (refine Soft.quiet_n rfl rfl rfl rfl (fun K hK => ?_); go_simp; apply Exists.intro; refine ⟨fun wq hq => ?_, hK _ ?_⟩; (first | (obtain ⟨⟨gg0, gg1, gg2, gg3, gg4⟩, _⟩ := (bd3.out.ext hq).at5; go_simp; with_reducible rfl) | (obtain ⟨⟨gg0, gg1, gg2, gg3, gg4⟩, _⟩ := (bE3.out.ext hq).at5; go_simp; with_reducible rfl) | (have gg := gP2.out wq hq; go_simp; with_reducible rfl) | (have gg := gA.out wq hq; go_simp; with_reducible rfl) | (have gg := gT.out wq hq; go_simp; with_reducible rfl)); clear hK K) | (refine Soft.quiet_g rfl rfl rfl rfl rfl (fun K hK => ?_); go_simp; apply Exists.intro; refine ⟨fun wq hq => ?_, hK _ ?_⟩; (first | (obtain ⟨⟨gg0, gg1, gg2, gg3, gg4⟩, _⟩ := (bd3.out.ext hq).at5; go_simp; with_reducible rfl) | (obtain ⟨⟨gg0, gg1, gg2, gg3, gg4⟩, _⟩ := (bE3.out.ext hq).at5; go_simp; with_reducible rfl) | (have gg := gP2.out wq hq; go_simp; with_reducible rfl) | (have gg := gA.out wq hq; go_simp; with_reducible rfl) | (have gg := gT.out wq hq; go_simp; with_reducible rfl)); clear hK K))
                  refine Soft.ends (by kernel_rfl) (fun W2 X2 _ => ?_)
                  clear i0 i1 i2 i3 i4 j0 j1 j2 j3 j4
                  go_wp2_with fail
                  go_roundw
                  case rel => exact ⟨m + 1, by omega, by go_num, by rw [hon.out], hx2.trans X2⟩
                  case measure => simp [intOf]; omega
              · obtain rfl := s2' hT
                have h2 : (u.toList == s.toList) = false := beq_false fun h => hT (str_inj h)
                clear s1 s2 s3 gL ho
                go_wp2_with fail
                refine Soft.region_ext [] [0, 1, 2, 3, 4, 5, 6, 7, 8, 9, 10, 11, 12, 13, 14, 15, 16, 17, 18, 19, 20, 21, 22, 23, 24, 25, 26, 27, 28, 29, 30, 31, 32, 33, 34, 35, 36, 37] [] (by kernel_rfl) (by kernel_rfl) Soft.stab_none ?_
                repeat (first | (refine Soft.pure_n rfl rfl rfl rfl (fun K hK => ?_); go_simp; refine hK _ ?_; clear hK K) | (refine Soft.pure_g rfl rfl rfl rfl rfl (fun K hK => ?_); go_simp; refine hK _ ?_; clear hK K) | (refine Soft.shut rfl rfl rfl rfl (fun K hK => ?_); go_simp; refine hK _ ?_; clear hK K) | (refine Soft.shut0 rfl rfl rfl rfl (fun K hK => ?_); go_simp; refine hK _ ?_; clear hK K) | (refine Soft.quiet_n rfl rfl rfl rfl (fun K hK => ?_); go_simp; apply Exists.intro; refine ⟨fun wq hq => ?_, hK _ ?_⟩; (first | (obtain ⟨⟨gg0, gg1, gg2, gg3, gg4⟩, _⟩ := (bd3.out.ext hq).at5; go_simp; with_reducible rfl) | (obtain ⟨⟨gg0, gg1, gg2, gg3, gg4⟩, _⟩ := (bE3.out.ext hq).at5; go_simp; with_reducible rfl) | (have gg := gP2.out wq hq; go_simp; with_reducible rfl) | (have gg := gA.out wq hq; go_simp; with_reducible rfl) | (have gg := gT.out wq hq; go_simp; with_reducible rfl)); clear hK K) | (refine Soft.quiet_g rfl rfl rfl rfl rfl (fun K hK => ?_); go_simp; apply Exists.intro; refine ⟨fun wq hq => ?_, hK _ ?_⟩; (first | (obtain ⟨⟨gg0, gg1, gg2, gg3, gg4⟩, _⟩ := (bd3.out.ext hq).at5; go_simp; with_reducible rfl) | (obtain ⟨⟨gg0, gg1, gg2, gg3, gg4⟩, _⟩ := (bE3.out.ext hq).at5; go_simp; with_reducible rfl) | (have gg := gP2.out wq hq; go_simp; with_reducible rfl) | (have gg := gA.out wq hq; go_simp; with_reducible rfl) | (have gg := gT.out wq hq; go_simp; with_reducible rfl)); clear hK K))
                refine Soft.ends (by kernel_rfl) (fun W2 X2 _ => ?_)
                clear i0 i1 i2 i3 i4 j0 j1 j2 j3 j4
                go_wp2_with fail
                go_roundw
                case rel => exact ⟨m + 1, by omega, by go_num, by rw [hon.out], hx2.trans X2⟩
                case measure => simp [intOf]; omega
            · obtain rfl := s2 hA
              have h1 : (x == (n : Int)) = false := by simpa using hA
              clear s1 s3 gL ho
              go_wp2_with fail
              refine Soft.region_ext [] [0, 1, 2, 3, 4, 5, 6, 7, 8, 9, 10, 11, 12, 13, 14, 15, 16, 17, 18, 19, 20, 21, 22, 23, 24, 25, 26, 27, 28, 29, 30, 31, 32, 33, 34, 35, 36, 37] [] (by kernel_rfl) (by kernel_rfl) Soft.stab_none ?_
              repeat (first | (refine Soft.pure_n rfl rfl rfl rfl (fun K hK => ?_); go_simp; refine hK _ ?_; clear hK K) | (refine Soft.pure_g rfl rfl rfl rfl rfl (fun K hK => ?_); go_simp; refine hK _ ?_; clear hK K) | (refine Soft.shut rfl rfl rfl rfl (fun K hK => ?_); go_simp; refine hK _ ?_; clear hK K) | (refine Soft.shut0 rfl rfl rfl rfl (fun K hK => ?_); go_simp; refine hK _ ?_; clear hK K) | (refine Soft.quiet_n rfl rfl rfl rfl (fun K hK => ?_); go_simp; apply Exists.intro; refine ⟨fun wq hq => ?_, hK _ ?_⟩; (first | (obtain ⟨⟨gg0, gg1, gg2, gg3, gg4⟩, _⟩ := (bd3.out.ext hq).at5; go_simp; with_reducible rfl) | (obtain ⟨⟨gg0, gg1, gg2, gg3, gg4⟩, _⟩ := (bE3.out.ext hq).at5; go_simp; with_reducible rfl) | (have gg := gP2.out wq hq; go_simp; with_reducible rfl) | (have gg := gA.out wq hq; go_simp; with_reducible rfl) | (have gg := gT.out wq hq; go_simp; with_reducible rfl)); clear hK K) | (refine Soft.quiet_g rfl rfl rfl rfl rfl (fun K hK => ?_); go_simp; apply Exists.intro; refine ⟨fun wq hq => ?_, hK _ ?_⟩; (first | (obtain ⟨⟨gg0, gg1, gg2, gg3, gg4⟩, _⟩ := (bd3.out.ext hq).at5; go_simp; with_reducible rfl) | (obtain ⟨⟨gg0, gg1, gg2, gg3, gg4⟩, _⟩ := (bE3.out.ext hq).at5; go_simp; with_reducible rfl) | (have gg := gP2.out wq hq; go_simp; with_reducible rfl) | (have gg := gA.out wq hq; go_simp; with_reducible rfl) | (have gg := gT.out wq hq; go_simp; with_reducible rfl)); clear hK K))
              refine Soft.ends (by kernel_rfl) (fun W2 X2 _ => ?_)
              clear i0 i1 i2 i3 i4 j0 j1 j2 j3 j4
              go_wp2_with fail
              go_roundw
              case rel => exact ⟨m + 1, by omega, by go_num, by rw [hon.out], hx2.trans X2⟩
              case measure => simp [intOf]; omega
        · obtain rfl : m = C.length := by omega
          have t2 : decide ((C.length : Int) < C.length) = false := decide_eq_false (by omega)
          rw [hfin.out]
          have hx3 := Lib.hid (hx1.out.trans hx2)
          go_wp2_with fail
          go_roundw
          case rel => exact ⟨n + 1, by omega, by go_num, hx3.out⟩
          case measure => simp [intOf]; omega
    · obtain rfl : n = K.length := by omega
      have t1 : decide ((K.length : Int) < K.length) = false := decide_eq_false (by omega)
      replace D := Lib.hid (D.out.ext hx); replace hl := Lib.hid (hl.out.ext hx); replace bd := Lib.hid (bd.out.ext hx); replace DE := Lib.hid (DE.out.ext hx); replace bE := Lib.hid (bE.out.ext hx)
      replace y := Lib.hid (y.out.trans hx)
      clear bd1 bE1 hn hlt hPc hKc hCc hLc hok steps lS
      go_wp2_with fail
      clear i0 i1 i2 i3 i4 j0 j1 j2 j3 j4
      have hrow := ownsRow_fresh wo 4 1
      obtain ⟨i0, hi, hz0, hz1, hz2⟩ := info_parts info4
      go_loopw [9, 10] (fun o i wr => ∃ m : Nat, m ≤ C.length ∧ i = .int .i64 m ∧ (∃ ra rc, o = .slice ra m rc ∧ wr.ownsRow wo.heap.size 4 1 (.slice ra m rc) m (List.replicate m (boolV true))) ∧ Ext wo wr) (fun _ i _ => C.length - (intOf i).toNat)
      case atStart => exact ⟨0, by omega, rfl, ⟨_, _, rfl, hrow⟩, (Ext.refl _).alloc _⟩
      case round =>
        obtain ⟨m, hm, rfl, ⟨ra, rc, rfl, hown⟩, hx2⟩ := hrel
        have bd3 := Lib.hid (bd.out.ext hx2)
        obtain ⟨⟨i0, i1, i2, i3, i4⟩, _⟩ := bd3.out.at5
        by_cases hlt2 : m < C.length
        · have t2 : decide ((m : Int) < C.length) = true := decide_eq_true (by omega)
          have hrep : List.replicate m (boolV true) ++ [.bool true] = List.replicate (m + 1) (boolV true) := by rw [List.replicate_succ']; rfl
          have xa : Ext wr (wr.alloc (.cells #[.bool true] 4)) := (Ext.refl _).alloc _
          have hnew := Box.new wr [.bool true] 4
          have hown2 := ownsRow_ext hown xa
          have hx3 := hx2.trans xa
          have hb1 : wo.heap.size ≤ (wr.alloc (.cells #[.bool true] 4)).heap.size := by have := hx3.size; omega
          generalize hWa : wr.alloc (.cells #[.bool true] 4) = Va at *
          replace hown2 := Lib.hid hown2; replace hnew := Lib.hid hnew; replace hrep := Lib.hid hrep; replace hx3 := Lib.hid hx3
          clear hown xa
          go_wp2_with (at_builtin; refine wpList_append_own Va rfl _ _ 66 rfl wo.heap.size 4 _ (.bool false) 1 1 Try.underlying66 hi hz0 hz1 hz2 rfl (by decide) _ m _ rfl hown2.out ⟨wr.heap.size, 0, none⟩ 1 1 [.bool true] rfl rfl (one_news (hnew.out.cell 0 _ rfl)) ?one ?c1 ?c2 hb1 ?_)
          case one => intro u hu; rw [List.mem_singleton] at hu; subst hu; rfl
          case c1 => unfold maxLen; omega
          case c2 => omega
          intro v' w4 hown4 hgrow _
          rw [hrep.out] at hown4
          obtain ⟨va', vb', e1⟩ := owned_slice hown4
          subst e1
          have x4 : Ext wo w4 := hx3.out.grown hgrow (ownBlock_ge hown2.out)
          clear hgrow i0 i1 i2 i3 i4
          replace hown4 := Lib.hid hown4
          go_wp2_with fail
          go_roundw
          case rel =>
            refine ⟨m + 1, by omega, by go_num, ⟨_, _, rfl, ?_⟩, ?_⟩
            · with_reducible exact hown4.out
            · with_reducible exact x4
          case measure => simp [intOf]; omega
        · obtain rfl : m = C.length := by omega
          have t2 : decide ((C.length : Int) < C.length) = false := decide_eq_false (by omega)
          clear bE DE
          have hall : Sl wr (.slice ra C.length rc) ((List.replicate C.length true).map boolV) := by rw [List.map_replicate]; exact Sl.owned hown
          replace hall := Lib.hid hall
          clear hown bd3
          replace D := Lib.hid (D.out.ext hx2); replace hl := Lib.hid (hl.out.ext hx2); replace bd := Lib.hid (bd.out.ext hx2)
          replace y := Lib.hid (y.out.trans hx2)
          clear hx2
          go_wp2_with fail
          clear i0 i1 i2 i3 i4
          refine (c4.out _ _ D.out).mono ?_; rintro e w6 ⟨r6, rfl, DP, x6⟩
          replace D := Lib.hid (D.out.ext x6); replace hl := Lib.hid (hl.out.ext x6); replace bd := Lib.hid (bd.out.ext x6); replace hall := Lib.hid (hall.out.ext x6)
          replace y := Lib.hid (y.out.trans x6)
          clear x6
          obtain ⟨ka6, kc6, ca6, cc6, pa6, pc6, rfl⟩ := DP.form3
          dsimp only at DP ⊢
          replace DP := Lib.hid DP
          have xb : Ext w6 (w6.alloc (.cells #[.slice ka6 PA.length kc6, .slice ca6 0 cc6, .int .i64 f, .slice pa6 p.length pc6, .bool false] 69)) := (Ext.refl _).alloc _
          replace D := Lib.hid (D.out.ext xb); replace hl := Lib.hid (hl.out.ext xb); replace bd := Lib.hid (bd.out.ext xb); replace hall := Lib.hid (hall.out.ext xb); replace DP := Lib.hid (DP.out.ext xb)
          replace y := Lib.hid (y.out.trans xb)
          clear xb
          have bP := Lib.hid (Box.new w6 [.slice ka6 PA.length kc6, .slice ca6 0 cc6, .int .i64 f, .slice pa6 p.length pc6, .bool false] 69)
          go_wp2_with fail
          have hfd := field69
          refine Soft.region_ext [(2, Soft.disk1 ⟨PA, [], -1, [], true⟩ PA.length 0 0 (-1) true), (9, Soft.disk1 ⟨K, [], -1, [], true⟩ K.length 0 0 (-1) true), (17, Soft.disk1 ⟨K, [], -1, [], false⟩ K.length 0 0 (-1) false)] [0, 1, 2, 3, 4, 5, 6, 7, 8, 9, 10, 11, 12, 13, 14, 15, 16, 17, 18, 19, 20, 21, 22, 23] [] (by kernel_rfl) (by kernel_rfl) (Soft.stab_more (fun _ _ _ => Soft.disk1_stab) (Soft.stab_more (fun _ _ _ => Soft.disk1_stab) (Soft.stab_one fun _ _ _ => Soft.disk1_stab))) ?_
          iterate 2 (first | (refine Soft.pure_n rfl rfl rfl rfl (fun K hK => ?_); go_simp; refine hK _ ?_; clear hK K) | (refine Soft.pure_g rfl rfl rfl rfl rfl (fun K hK => ?_); go_simp; refine hK _ ?_; clear hK K) | (refine Soft.shut rfl rfl rfl rfl (fun K hK => ?_); go_simp; refine hK _ ?_; clear hK K) | (refine Soft.shut0 rfl rfl rfl rfl (fun K hK => ?_); go_simp; refine hK _ ?_; clear hK K) | (refine Soft.quiet_n rfl rfl rfl rfl (fun K hK => ?_); go_simp; apply Exists.intro; refine ⟨fun wq hq => ?_, hK _ ?_⟩; (first | (obtain ⟨⟨gg0, gg1, gg2, gg3, gg4⟩, _⟩ := (bd.out.ext hq).at5; go_simp; with_reducible rfl) | (obtain ⟨⟨gg0, gg1, gg2, gg3, gg4⟩, _⟩ := (bP.out.ext hq).at5; go_simp; with_reducible rfl)); clear hK K) | (refine Soft.quiet_g rfl rfl rfl rfl rfl (fun K hK => ?_); go_simp; apply Exists.intro; refine ⟨fun wq hq => ?_, hK _ ?_⟩; (first | (obtain ⟨⟨gg0, gg1, gg2, gg3, gg4⟩, _⟩ := (bd.out.ext hq).at5; go_simp; with_reducible rfl) | (obtain ⟨⟨gg0, gg1, gg2, gg3, gg4⟩, _⟩ := (bP.out.ext hq).at5; go_simp; with_reducible rfl)); clear hK K))
          refine Soft.loud_step rfl rfl rfl rfl (fun K hK => ?_)
          refine ⟨fun wq hq kq => ?_, fun u ⟨ka91, kc91, ca91, cc91, pa91, pc91, hu⟩ => hK _ ?_⟩
          · go_simp
            refine (c3.out _ _ _ (D.out.ext hq) (hall.out.ext hq)).mono ?_
            rintro e w7 ⟨r, rfl, hD, x7⟩
            obtain ⟨ka2, kc2, ca2, cc2, pa2, pc2, rfl⟩ := hD.form3
            exact ⟨_, rfl, x7, ⟨_, _, _, _, _, _, rfl⟩, hD⟩
          clear hK K
          subst hu
          iterate 3 (first | (refine Soft.pure_n rfl rfl rfl rfl (fun K hK => ?_); go_simp; refine hK _ ?_; clear hK K) | (refine Soft.pure_g rfl rfl rfl rfl rfl (fun K hK => ?_); go_simp; refine hK _ ?_; clear hK K) | (refine Soft.shut rfl rfl rfl rfl (fun K hK => ?_); go_simp; refine hK _ ?_; clear hK K) | (refine Soft.shut0 rfl rfl rfl rfl (fun K hK => ?_); go_simp; refine hK _ ?_; clear hK K) | (refine Soft.quiet_n rfl rfl rfl rfl (fun K hK => ?_); go_simp; apply Exists.intro; refine ⟨fun wq hq => ?_, hK _ ?_⟩; (first | (obtain ⟨⟨gg0, gg1, gg2, gg3, gg4⟩, _⟩ := (bd.out.ext hq).at5; go_simp; with_reducible rfl) | (obtain ⟨⟨gg0, gg1, gg2, gg3, gg4⟩, _⟩ := (bP.out.ext hq).at5; go_simp; with_reducible rfl)); clear hK K) | (refine Soft.quiet_g rfl rfl rfl rfl rfl (fun K hK => ?_); go_simp; apply Exists.intro; refine ⟨fun wq hq => ?_, hK _ ?_⟩; (first | (obtain ⟨⟨gg0, gg1, gg2, gg3, gg4⟩, _⟩ := (bd.out.ext hq).at5; go_simp; with_reducible rfl) | (obtain ⟨⟨gg0, gg1, gg2, gg3, gg4⟩, _⟩ := (bP.out.ext hq).at5; go_simp; with_reducible rfl)); clear hK K))
          (refine Soft.quiet_k rfl rfl rfl rfl (fun K hK => ?_); go_simp; apply Exists.intro; refine ⟨fun wq hq kq => ?_, hK _ ?_⟩; exact c7.out PA _ _ _ (DiskIn.parts (kq.get 2 (by kernel_rfl) rfl rfl)).1 (DP.out.ext hq).parts.1; clear hK K)
          iterate 2 (first | (refine Soft.pure_n rfl rfl rfl rfl (fun K hK => ?_); go_simp; refine hK _ ?_; clear hK K) | (refine Soft.pure_g rfl rfl rfl rfl rfl (fun K hK => ?_); go_simp; refine hK _ ?_; clear hK K) | (refine Soft.shut rfl rfl rfl rfl (fun K hK => ?_); go_simp; refine hK _ ?_; clear hK K) | (refine Soft.shut0 rfl rfl rfl rfl (fun K hK => ?_); go_simp; refine hK _ ?_; clear hK K) | (refine Soft.quiet_n rfl rfl rfl rfl (fun K hK => ?_); go_simp; apply Exists.intro; refine ⟨fun wq hq => ?_, hK _ ?_⟩; (first | (obtain ⟨⟨gg0, gg1, gg2, gg3, gg4⟩, _⟩ := (bd.out.ext hq).at5; go_simp; with_reducible rfl) | (obtain ⟨⟨gg0, gg1, gg2, gg3, gg4⟩, _⟩ := (bP.out.ext hq).at5; go_simp; with_reducible rfl)); clear hK K) | (refine Soft.quiet_g rfl rfl rfl rfl rfl (fun K hK => ?_); go_simp; apply Exists.intro; refine ⟨fun wq hq => ?_, hK _ ?_⟩; (first | (obtain ⟨⟨gg0, gg1, gg2, gg3, gg4⟩, _⟩ := (bd.out.ext hq).at5; go_simp; with_reducible rfl) | (obtain ⟨⟨gg0, gg1, gg2, gg3, gg4⟩, _⟩ := (bP.out.ext hq).at5; go_simp; with_reducible rfl)); clear hK K))
          refine Soft.loud_g rfl rfl rfl rfl rfl (fun K hK => ?_)
          refine ⟨fun wq hq kq => ?_, fun u ⟨ka92, kc92, ca92, cc92, pa92, pc92, hu⟩ => hK _ ?_⟩
          · go_simp
            refine (c5.out _ _ (D.out.ext hq)).mono ?_
            rintro e w7 ⟨r, rfl, hD, x7⟩
            obtain ⟨ka2, kc2, ca2, cc2, pa2, pc2, rfl⟩ := hD.form3
            exact ⟨_, rfl, x7, ⟨_, _, _, _, _, _, rfl⟩, hD⟩
          clear hK K
          subst hu
          iterate 3 (first | (refine Soft.pure_n rfl rfl rfl rfl (fun K hK => ?_); go_simp; refine hK _ ?_; clear hK K) | (refine Soft.pure_g rfl rfl rfl rfl rfl (fun K hK => ?_); go_simp; refine hK _ ?_; clear hK K) | (refine Soft.shut rfl rfl rfl rfl (fun K hK => ?_); go_simp; refine hK _ ?_; clear hK K) | (refine Soft.shut0 rfl rfl rfl rfl (fun K hK => ?_); go_simp; refine hK _ ?_; clear hK K) | (refine Soft.quiet_n rfl rfl rfl rfl (fun K hK => ?_); go_simp; apply Exists.intro; refine ⟨fun wq hq => ?_, hK _ ?_⟩; (first | (obtain ⟨⟨gg0, gg1, gg2, gg3, gg4⟩, _⟩ := (bd.out.ext hq).at5; go_simp; with_reducible rfl) | (obtain ⟨⟨gg0, gg1, gg2, gg3, gg4⟩, _⟩ := (bP.out.ext hq).at5; go_simp; with_reducible rfl)); clear hK K) | (refine Soft.quiet_g rfl rfl rfl rfl rfl (fun K hK => ?_); go_simp; apply Exists.intro; refine ⟨fun wq hq => ?_, hK _ ?_⟩; (first | (obtain ⟨⟨gg0, gg1, gg2, gg3, gg4⟩, _⟩ := (bd.out.ext hq).at5; go_simp; with_reducible rfl) | (obtain ⟨⟨gg0, gg1, gg2, gg3, gg4⟩, _⟩ := (bP.out.ext hq).at5; go_simp; with_reducible rfl)); clear hK K))
          (refine Soft.quiet_gk rfl rfl rfl rfl rfl (fun K hK => ?_); go_simp; apply Exists.intro; refine ⟨fun wq hq kq => ?_, hK _ ?_⟩; exact c7.out _ _ _ _ (DiskIn.parts (kq.get 9 (by kernel_rfl) rfl rfl)).1 (D.out.ext hq).parts.1; clear hK K)
          iterate 3 (first | (refine Soft.pure_n rfl rfl rfl rfl (fun K hK => ?_); go_simp; refine hK _ ?_; clear hK K) | (refine Soft.pure_g rfl rfl rfl rfl rfl (fun K hK => ?_); go_simp; refine hK _ ?_; clear hK K) | (refine Soft.shut rfl rfl rfl rfl (fun K hK => ?_); go_simp; refine hK _ ?_; clear hK K) | (refine Soft.shut0 rfl rfl rfl rfl (fun K hK => ?_); go_simp; refine hK _ ?_; clear hK K) | (refine Soft.quiet_n rfl rfl rfl rfl (fun K hK => ?_); go_simp; apply Exists.intro; refine ⟨fun wq hq => ?_, hK _ ?_⟩; (first | (obtain ⟨⟨gg0, gg1, gg2, gg3, gg4⟩, _⟩ := (bd.out.ext hq).at5; go_simp; with_reducible rfl) | (obtain ⟨⟨gg0, gg1, gg2, gg3, gg4⟩, _⟩ := (bP.out.ext hq).at5; go_simp; with_reducible rfl)); clear hK K) | (refine Soft.quiet_g rfl rfl rfl rfl rfl (fun K hK => ?_); go_simp; apply Exists.intro; refine ⟨fun wq hq => ?_, hK _ ?_⟩; (first | (obtain ⟨⟨gg0, gg1, gg2, gg3, gg4⟩, _⟩ := (bd.out.ext hq).at5; go_simp; with_reducible rfl) | (obtain ⟨⟨gg0, gg1, gg2, gg3, gg4⟩, _⟩ := (bP.out.ext hq).at5; go_simp; with_reducible rfl)); clear hK K))
          refine Soft.loud_g rfl rfl rfl rfl rfl (fun K hK => ?_)
          refine ⟨fun wq hq kq => ?_, fun u ⟨ka93, kc93, ca93, cc93, pa93, pc93, hu⟩ => hK _ ?_⟩
          · go_simp
            refine (c6.out _ _ (D.out.ext hq)).mono ?_
            rintro e w7 ⟨r, rfl, hD, x7⟩
            obtain ⟨ka2, kc2, ca2, cc2, pa2, pc2, rfl⟩ := hD.form3
            exact ⟨_, rfl, x7, ⟨_, _, _, _, _, _, rfl⟩, hD⟩
          clear hK K
          subst hu
          iterate 3 (first | (refine Soft.pure_n rfl rfl rfl rfl (fun K hK => ?_); go_simp; refine hK _ ?_; clear hK K) | (refine Soft.pure_g rfl rfl rfl rfl rfl (fun K hK => ?_); go_simp; refine hK _ ?_; clear hK K) | (refine Soft.shut rfl rfl rfl rfl (fun K hK => ?_); go_simp; refine hK _ ?_; clear hK K) | (refine Soft.shut0 rfl rfl rfl rfl (fun K hK => ?_); go_simp; refine hK _ ?_; clear hK K) | (refine Soft.quiet_n rfl rfl rfl rfl (fun K hK => ?_); go_simp; apply Exists.intro; refine ⟨fun wq hq => ?_, hK _ ?_⟩; (first | (obtain ⟨⟨gg0, gg1, gg2, gg3, gg4⟩, _⟩ := (bd.out.ext hq).at5; go_simp; with_reducible rfl) | (obtain ⟨⟨gg0, gg1, gg2, gg3, gg4⟩, _⟩ := (bP.out.ext hq).at5; go_simp; with_reducible rfl)); clear hK K) | (refine Soft.quiet_g rfl rfl rfl rfl rfl (fun K hK => ?_); go_simp; apply Exists.intro; refine ⟨fun wq hq => ?_, hK _ ?_⟩; (first | (obtain ⟨⟨gg0, gg1, gg2, gg3, gg4⟩, _⟩ := (bd.out.ext hq).at5; go_simp; with_reducible rfl) | (obtain ⟨⟨gg0, gg1, gg2, gg3, gg4⟩, _⟩ := (bP.out.ext hq).at5; go_simp; with_reducible rfl)); clear hK K))
          (refine Soft.quiet_gk rfl rfl rfl rfl rfl (fun K hK => ?_); go_simp; apply Exists.intro; refine ⟨fun wq hq kq => ?_, hK _ ?_⟩; exact c7.out _ _ _ _ (DiskIn.parts (kq.get 17 (by kernel_rfl) rfl rfl)).1 (D.out.ext hq).parts.1; clear hK K)
          iterate 2 (first | (refine Soft.pure_n rfl rfl rfl rfl (fun K hK => ?_); go_simp; refine hK _ ?_; clear hK K) | (refine Soft.pure_g rfl rfl rfl rfl rfl (fun K hK => ?_); go_simp; refine hK _ ?_; clear hK K) | (refine Soft.shut rfl rfl rfl rfl (fun K hK => ?_); go_simp; refine hK _ ?_; clear hK K) | (refine Soft.shut0 rfl rfl rfl rfl (fun K hK => ?_); go_simp; refine hK _ ?_; clear hK K) | (refine Soft.quiet_n rfl rfl rfl rfl (fun K hK => ?_); go_simp; apply Exists.intro; refine ⟨fun wq hq => ?_, hK _ ?_⟩; (first | (obtain ⟨⟨gg0, gg1, gg2, gg3, gg4⟩, _⟩ := (bd.out.ext hq).at5; go_simp; with_reducible rfl) | (obtain ⟨⟨gg0, gg1, gg2, gg3, gg4⟩, _⟩ := (bP.out.ext hq).at5; go_simp; with_reducible rfl)); clear hK K) | (refine Soft.quiet_g rfl rfl rfl rfl rfl (fun K hK => ?_); go_simp; apply Exists.intro; refine ⟨fun wq hq => ?_, hK _ ?_⟩; (first | (obtain ⟨⟨gg0, gg1, gg2, gg3, gg4⟩, _⟩ := (bd.out.ext hq).at5; go_simp; with_reducible rfl) | (obtain ⟨⟨gg0, gg1, gg2, gg3, gg4⟩, _⟩ := (bP.out.ext hq).at5; go_simp; with_reducible rfl)); clear hK K))
          refine Soft.ends (by kernel_rfl) (fun w7 x7 _ => ?_)
          replace D := Lib.hid (D.out.ext x7); replace hl := Lib.hid (hl.out.ext x7); replace bd := Lib.hid (bd.out.ext x7); replace hall := Lib.hid (hall.out.ext x7); replace DP := Lib.hid (DP.out.ext x7); replace bP := Lib.hid (bP.out.ext x7)
          replace y := Lib.hid (y.out.trans x7)
          clear x7
          go_wp2_with fail
          go_ret
          exact ⟨rfl, y.out⟩

theorem deviceKeeps_walk (w : World) (d : Dev.Disk) (v : Value) (l : List Bool) (kv : Value) (hD : DiskIn w v d ∧ d.fuse ≤ 9223372036854775807) (hl : Sl w kv (l.map boolV) ∧ NilOr kv) :
    Calls Try.prog 21 #[v, kv] w fun e w' => e = .returned (.bool true) ∧ Ext w w' := by
  obtain ⟨D, _⟩ := hD
  obtain ⟨hl, _⟩ := hl
  cases hs : Dev.small d with
  | false => exact deviceKeeps_no0 w d v l kv D hl hs
  | true =>
    cases hm : Dev.may d with
    | false => exact deviceKeeps_no1 w d v l kv D hl hs hm
    | true =>
      cases hd : d.dead with
      | true => exact deviceKeeps_no2 w d v l kv D hl hs hm hd
      | false =>
        by_cases h4 : l.length ≤ 400
        · exact deviceKeeps_live w d v l kv D hl hs hm hd h4
        · exact deviceKeeps_no3 w d v l kv D hl hs hm hd (by omega)
end Go.Proofs.Ytehidhcpdiameaa
