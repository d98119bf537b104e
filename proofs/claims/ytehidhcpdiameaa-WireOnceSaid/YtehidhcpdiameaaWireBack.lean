/- The statement WireBack: the law's own walk. -/
import Derived.Test.YtehidhcpdiameaaWireTells
namespace Go.Proofs.Ytehidhcpdiameaa
open Go.RowKit

theorem app_list (a b : ByteArray) : (a ++ b).data.toList = a.data.toList ++ b.data.toList := by
  rw [ByteArray.data_append, Array.toList_append]
theorem app_size (a b : ByteArray) : (a ++ b).size = a.size + b.size := ByteArray.size_append

theorem wireBack_long (w : World) (A B : ByteArray) (N p : Int) (a : Option Addr) (n c : Nat) (h : 1000 < A.size ∨ 1000 < B.size ∨ 1000 < n) (hA : A.size ≤ maxLen) (hB : B.size ≤ maxLen) (hn : n ≤ 9223372036854775807) :
    Calls Try.prog 9 #[.agg #[.string A, .string B], .agg #[.int .i64 N, .int .i64 p], .slice a n c] w fun e w' => e = .returned (.bool true) ∧ Ext w w' := by
  unfold maxLen at hA hB
  have hbox := Box2.new w (.string A) (.string B) 51
  replace hbox := hbox.ext (((Ext.refl _).alloc (.cells #[.int .i64 N, .int .i64 p] 38)))
  have y0 : Ext w ((w.alloc (.cells #[.string A, .string B] 51)).alloc (.cells #[.int .i64 N, .int .i64 p] 38)) := ((Ext.refl w).alloc _).alloc _
  by_cases h1 : (1000 : Int) < A.size
  · clear h
    go_enter Try.func9, Try.ntmps9
    go_wp2_with fail
    refine Soft.region_ext [] [0, 1, 2, 3, 4, 5] [] (by kernel_rfl) (by kernel_rfl) Soft.stab_none ?_
    repeat (refine Soft.pure_step rfl rfl rfl (fun K hK => ?_); go_simp; refine hK _ ?_; clear hK K)
    (refine Soft.quiet_step0 rfl rfl rfl (fun K hK => ?_); go_simp; apply Exists.intro; refine ⟨fun wq hq => ?_, hK _ ?_⟩; (have g := (hbox.ext hq).2.1; go_simp; rfl); clear hK K)
    repeat (refine Soft.pure_step rfl rfl rfl (fun K hK => ?_); go_simp; refine hK _ ?_; clear hK K)
    (refine Soft.quiet_step0 rfl rfl rfl (fun K hK => ?_); go_simp; apply Exists.intro; refine ⟨fun wq hq => ?_, hK _ ?_⟩; (have g := (hbox.ext hq).2.2; go_simp; rfl); clear hK K)
    repeat (refine Soft.pure_step rfl rfl rfl (fun K hK => ?_); go_simp; refine hK _ ?_; clear hK K)
    refine Soft.ends (by kernel_rfl) (fun w1 x1 _ => ?_)
    go_wp2_with fail
    refine (fixed10 _).mono ?_; rintro e w2 ⟨rfl, x2⟩
    go_wp2_with fail
    refine (fixed10 _).mono ?_; rintro e w3 ⟨rfl, x3⟩
    go_wp2_with fail
    go_ret
    exact ⟨rfl, ((y0.trans x1).trans x2).trans x3⟩
  · have hd1 : decide ((1000 : Int) < A.size) = false := decide_eq_false h1
    by_cases h2 : (1000 : Int) < B.size
    · clear h
      go_enter Try.func9, Try.ntmps9
      go_wp2_with fail
      refine Soft.region_ext [] [0, 1, 2, 3, 4, 5] [] (by kernel_rfl) (by kernel_rfl) Soft.stab_none ?_
      repeat (refine Soft.pure_step rfl rfl rfl (fun K hK => ?_); go_simp; refine hK _ ?_; clear hK K)
      (refine Soft.quiet_step0 rfl rfl rfl (fun K hK => ?_); go_simp; apply Exists.intro; refine ⟨fun wq hq => ?_, hK _ ?_⟩; (have g := (hbox.ext hq).2.1; go_simp; rfl); clear hK K)
      repeat (refine Soft.pure_step rfl rfl rfl (fun K hK => ?_); go_simp; refine hK _ ?_; clear hK K)
      (refine Soft.quiet_step0 rfl rfl rfl (fun K hK => ?_); go_simp; apply Exists.intro; refine ⟨fun wq hq => ?_, hK _ ?_⟩; (have g := (hbox.ext hq).2.2; go_simp; rfl); clear hK K)
      repeat (refine Soft.pure_step rfl rfl rfl (fun K hK => ?_); go_simp; refine hK _ ?_; clear hK K)
      refine Soft.ends (by kernel_rfl) (fun w1 x1 _ => ?_)
      go_wp2_with fail
      refine (fixed10 _).mono ?_; rintro e w2 ⟨rfl, x2⟩
      go_wp2_with fail
      refine (fixed10 _).mono ?_; rintro e w3 ⟨rfl, x3⟩
      go_wp2_with fail
      go_ret
      exact ⟨rfl, ((y0.trans x1).trans x2).trans x3⟩
    · have hd2 : decide ((1000 : Int) < B.size) = false := decide_eq_false h2
      have h3 : (1000 : Int) < n := by omega
      clear h
      go_enter Try.func9, Try.ntmps9
      go_wp2_with fail
      refine Soft.region_ext [] [0, 1, 2, 3, 4, 5] [] (by kernel_rfl) (by kernel_rfl) Soft.stab_none ?_
      repeat (refine Soft.pure_step rfl rfl rfl (fun K hK => ?_); go_simp; refine hK _ ?_; clear hK K)
      (refine Soft.quiet_step0 rfl rfl rfl (fun K hK => ?_); go_simp; apply Exists.intro; refine ⟨fun wq hq => ?_, hK _ ?_⟩; (have g := (hbox.ext hq).2.1; go_simp; rfl); clear hK K)
      repeat (refine Soft.pure_step rfl rfl rfl (fun K hK => ?_); go_simp; refine hK _ ?_; clear hK K)
      (refine Soft.quiet_step0 rfl rfl rfl (fun K hK => ?_); go_simp; apply Exists.intro; refine ⟨fun wq hq => ?_, hK _ ?_⟩; (have g := (hbox.ext hq).2.2; go_simp; rfl); clear hK K)
      repeat (refine Soft.pure_step rfl rfl rfl (fun K hK => ?_); go_simp; refine hK _ ?_; clear hK K)
      refine Soft.ends (by kernel_rfl) (fun w1 x1 _ => ?_)
      go_wp2_with fail
      refine (fixed10 _).mono ?_; rintro e w2 ⟨rfl, x2⟩
      go_wp2_with fail
      refine (fixed10 _).mono ?_; rintro e w3 ⟨rfl, x3⟩
      go_wp2_with fail
      go_ret
      exact ⟨rfl, ((y0.trans x1).trans x2).trans x3⟩

set_option maxRecDepth 100000 in
set_option maxHeartbeats 4000000 in
theorem wireBack_core (w : World) (A B TN TB TI : ByteArray) (N p n1 q1 q3 : Int) (b1 b3 bN bI : Bool) (l ns : List Int) (a : Option Addr) (c : Nat) (hA : A.size ≤ 1000) (hB : B.size ≤ 1000) (hn : l.length ≤ 1000) (hl : Sl w (.slice a l.length c) (l.map intV))
    (s1 : TN.size ≤ 6) (s2 : TB.size ≤ 1006) (s3 : TI.size ≤ 6006)
    (h45 : ∀ w, Calls Try.prog 45 #[.int .i64 N] w fun e w' => e = .returned (.string TN) ∧ Ext w w')
    (h39 : ∀ w, Calls Try.prog 39 #[.string (A ++ TN ++ B), .int .i64 A.size] w fun e w' => e = .returned (.tuple #[.int .i64 n1, .int .i64 q1, .bool b1]) ∧ Ext w w')
    (h48 : ∀ w, Calls Try.prog 48 #[.string B] w fun e w' => e = .returned (.string TB) ∧ Ext w w')
    (h41 : ∀ w, Calls Try.prog 41 #[.string (A ++ TB ++ A), .int .i64 A.size] w fun e w' => e = .returned (.tuple #[.string B, .int .i64 ((A.size : Int) + TB.size), .bool true]) ∧ Ext w w')
    (h50 : ∀ w, Sl w (.slice a l.length c) (l.map intV) → Calls Try.prog 50 #[.slice a l.length c] w fun e w' => e = .returned (.string TI) ∧ Ext w w')
    (h43 : ∀ w, Calls Try.prog 43 #[.string (A ++ TI ++ B), .int .i64 A.size] w (TookInts w (ns, q3, b3)))
    (eN : TN.toList.isEmpty = bN) (eI : TI.toList.isEmpty = bI) (fN : bN = false → n1 = N ∧ q1 = (A.size : Int) + TN.size ∧ b1 = true) (fI : bI = false → ns = l ∧ q3 = (A.size : Int) + TI.size ∧ b3 = true) :
    Calls Try.prog 9 #[.agg #[.string A, .string B], .agg #[.int .i64 N, .int .i64 p], .slice a l.length c] w fun e w' => e = .returned (.bool true) ∧ Ext w w' := by
  have t1 : (A ++ TN).size ≤ 1006 := by rw [app_size]; omega
  have t2 : (A ++ TB).size ≤ 2006 := by rw [app_size]; omega
  have t3 : (A ++ TI).size ≤ 7006 := by rw [app_size]; omega
  have h47 := sameInts_any l l
  rw [decide_eq_true rfl] at h47
  have hbox := Box2.new w (.string A) (.string B) 51
  have hbox2 := Box2.new (w.alloc (.cells #[.string A, .string B] 51)) (.int .i64 N) (.int .i64 p) 38
  replace hbox := hbox.ext (((Ext.refl _).alloc (.cells #[.int .i64 N, .int .i64 p] 38)))
  have y0 : Ext w ((w.alloc (.cells #[.string A, .string B] 51)).alloc (.cells #[.int .i64 N, .int .i64 p] 38)) := ((Ext.refl w).alloc _).alloc _
  have hd1 : decide ((1000 : Int) < A.size) = false := decide_eq_false (by omega)
  have hd2 : decide ((1000 : Int) < B.size) = false := decide_eq_false (by omega)
  have hd3 : decide ((1000 : Int) < l.length) = false := decide_eq_false (by omega)
  have e4 : (B.toList == B.toList) = true := beq_self_eq_true _
  have e5 : (B.toList != B.toList) = false := by simp
  rw [show (w.alloc (.cells #[.string A, .string B] 51)).heap.size = w.heap.size + 1 from by simp] at hbox2
  replace h39 := Lib.hid h39; replace h41 := Lib.hid h41; replace h43 := Lib.hid h43; replace h45 := Lib.hid h45; replace h47 := Lib.hid h47; replace h48 := Lib.hid h48; replace h50 := Lib.hid h50; replace hl := Lib.hid hl
  have key : ∀ (bN' : Bool), bN = bN' → ∀ (bI' : Bool), bI = bI' → Calls Try.prog 9 #[.agg #[.string A, .string B], .agg #[.int .i64 N, .int .i64 p], .slice a l.length c] w fun e w' => e = .returned (.bool true) ∧ Ext w w' := by
    intro bN' hbN bI' hbI
    cases bN' <;> cases bI'
    all_goals
      subst hbN hbI
      first
      | (obtain ⟨rfl, rfl, rfl⟩ := fN rfl)
      | clear fN
      first
      | (obtain ⟨rfl, rfl, rfl⟩ := fI rfl)
      | clear fI
      go_enter Try.func9, Try.ntmps9
      go_wp2_with fail
      refine Soft.region_ext [] [0, 1, 2, 3, 4, 5] [] (by kernel_rfl) (by kernel_rfl) Soft.stab_none ?_
      repeat (refine Soft.pure_step rfl rfl rfl (fun K hK => ?_); go_simp; refine hK _ ?_; clear hK K)
      (refine Soft.quiet_step0 rfl rfl rfl (fun K hK => ?_); go_simp; apply Exists.intro; refine ⟨fun wq hq => ?_, hK _ ?_⟩; (have g := (hbox.ext hq).2.1; go_simp; rfl); clear hK K)
      repeat (refine Soft.pure_step rfl rfl rfl (fun K hK => ?_); go_simp; refine hK _ ?_; clear hK K)
      (refine Soft.quiet_step0 rfl rfl rfl (fun K hK => ?_); go_simp; apply Exists.intro; refine ⟨fun wq hq => ?_, hK _ ?_⟩; (have g := (hbox.ext hq).2.2; go_simp; rfl); clear hK K)
      repeat (refine Soft.pure_step rfl rfl rfl (fun K hK => ?_); go_simp; refine hK _ ?_; clear hK K)
      refine Soft.ends (by kernel_rfl) (fun w1 x1 _ => ?_)
      go_wp2_with fail
      refine (fixed10 _).mono ?_; rintro e w2 ⟨rfl, x2⟩
      have y2 := (y0.trans x1).trans x2
      have k2 := (hbox2.ext x1).ext x2
      clear x1 x2 hbox
      obtain ⟨g1, g2, g3⟩ := id k2
      go_wp2_with fail
      refine (h45.out _).mono ?_; rintro e w3 ⟨rfl, x3⟩
      have y3 := y2.trans x3
      have k3 := k2.ext x3
      clear x3 k2 g1 g2 g3
      obtain ⟨g1, g2, g3⟩ := id k3
      go_wp2_with fail
      refine (h39.out _).mono ?_; rintro e w4 ⟨rfl, x4⟩
      have y4 := y3.trans x4
      have k4 := k3.ext x4
      clear x4 k3 g1 g2 g3
      obtain ⟨g1, g2, g3⟩ := id k4
      go_wp2_with fail
      refine (h45.out _).mono ?_; rintro e w5 ⟨rfl, x5⟩
      have y5 := y4.trans x5
      have k5 := k4.ext x5
      clear x5 k4 g1 g2 g3
      obtain ⟨g1, g2, g3⟩ := id k5
      go_wp2_with fail
      try (refine (h45.out _).mono ?_; rintro e w5 ⟨rfl, x5⟩; replace y5 := y5.trans x5; replace k5 := k5.ext x5; clear g1 g2 g3; obtain ⟨g1, g2, g3⟩ := id k5; go_wp2_with fail)
      refine (h48.out _).mono ?_; rintro e w6 ⟨rfl, x6⟩
      go_wp2_with fail
      refine (h41.out _).mono ?_; rintro e w7 ⟨rfl, x7⟩
      go_wp2_with fail
      refine (h48.out _).mono ?_; rintro e w8 ⟨rfl, x8⟩
      have y8 := Lib.hid (((y5.trans x6).trans x7).trans x8)
      go_wp2_with fail
      refine (h50.out _ (hl.out.ext y8.out)).mono ?_; rintro e w9 ⟨rfl, x9⟩
      have y9 := Lib.hid (y8.out.trans x9)
      go_wp2_with fail
      refine (h43.out _).mono ?_; rintro e w10 ⟨v, rfl, l10, x10⟩
      have y10 := Lib.hid (y9.out.trans x10)
      replace l10 := Lib.hid l10
      go_wp2_with fail
      refine (h50.out _ (hl.out.ext y10.out)).mono ?_; rintro e w11 ⟨rfl, x11⟩
      have y11 := Lib.hid (y10.out.trans x11)
      go_wp2_with fail
      first
      | (go_ret; exact ⟨rfl, y11.out⟩)
      | (refine (h47.out _ _ _ (hl.out.ext y11.out) (l10.out.ext x11)).mono ?_; rintro e w12 ⟨rfl, x12⟩
         have y12 := Lib.hid (y11.out.trans x12)
         go_wp2_with fail
         refine (h50.out _ (hl.out.ext y12.out)).mono ?_; rintro e w13 ⟨rfl, x13⟩
         go_wp2_with fail
         go_ret
         exact ⟨rfl, y12.out.trans x13⟩)
  exact key bN rfl bI rfl

theorem isEmpty_str (l : List UInt8) : (str l).toList.isEmpty = decide (l = []) := by
  rw [toList_str]; cases l <;> rfl

theorem wireBack_walk (w : World) (z : ByteArray × ByteArray) (x : Int × Int) (l : List Int) (v : Value) (hz : z.1.size ≤ maxLen ∧ z.2.size ≤ maxLen)
    (_hx : (-9223372036854775808 ≤ x.1 ∧ x.1 ≤ 9223372036854775807) ∧ (-9223372036854775808 ≤ x.2 ∧ x.2 ≤ 9223372036854775807))
    (hl : Sl w v (l.map intV) ∧ 8 * l.length ≤ 140737488351232 ∧ ∀ n ∈ l, -9223372036854775808 ≤ n ∧ n ≤ 9223372036854775807) :
    Calls Try.prog 9 #[.agg #[.string z.1, .string z.2], .agg #[.int .i64 x.1, .int .i64 x.2], v] w fun e w' => e = .returned (.bool true) ∧ Ext w w' := by
  obtain ⟨A, B⟩ := z
  obtain ⟨N, p⟩ := x
  obtain ⟨a, c, rfl, h1, h2, h3⟩ := id hl.1
  have hl0 := hl.1
  rw [List.length_map] at h1 hl0 ⊢
  dsimp only at hz ⊢
  by_cases h : 1000 < A.size ∨ 1000 < B.size ∨ 1000 < l.length
  · exact wireBack_long w A B N p a _ c h hz.1 hz.2 (by omega)
  · have s1 := num_size N
    have s3 := Wire.ints_size l
    have s2 : (Wire.text B.data.toList).length ≤ 1006 := by
      unfold Wire.text; rw [List.length_append, size_list]; have := num_size (B.size : Int); omega
    have hlim : (1099511627776 : Nat) = Wire.lim := rfl
    have r1 : (A ++ str (Wire.num N) ++ B).data.toList = A.data.toList ++ Wire.num N ++ B.data.toList := by rw [app_list, app_list, list_str]
    have r2 : (A ++ str (Wire.text B.data.toList) ++ A).data.toList = A.data.toList ++ Wire.text B.data.toList ++ A.data.toList := by rw [app_list, app_list, list_str]
    have r3 : (A ++ str (Wire.ints l) ++ B).data.toList = A.data.toList ++ Wire.ints l ++ B.data.toList := by rw [app_list, app_list, list_str]
    have z1 : (A ++ str (Wire.num N) ++ B).size ≤ 2006 := by rw [app_size, app_size, str_size]; omega
    have z2 : (A ++ str (Wire.text B.data.toList) ++ A).size ≤ 3006 := by rw [app_size, app_size, str_size]; omega
    have z3 : (A ++ str (Wire.ints l) ++ B).size ≤ 8006 := by rw [app_size, app_size, str_size]; omega
    have c1 := fun w => Soft_same (take_any (A ++ str (Wire.num N) ++ B) A.size (by unfold maxLen; omega) w)
    have c2 := takeText_any (A ++ str (Wire.text B.data.toList) ++ A) A.size (by omega)
    have c3 := takeInts_any (A ++ str (Wire.ints l) ++ B) A.size (by omega)
    have u2 := Wire.takeText_told B.data.toList A.data.toList A.data.toList (by rw [size_list, ← hlim]; omega)
    rw [size_list] at u2
    rw [r1] at c1
    rw [r2, u2] at c2
    rw [r3] at c3
    unfold took at c1
    rw [str_list, ← str_size] at c2
    have u3 := fun hne => Wire.takeInts_told l A.data.toList B.data.toList (by rw [← hlim]; omega) hne
    rw [size_list] at u3
    obtain ⟨⟨ns, q3, b3⟩, hT⟩ : ∃ x, x = Wire.takeIntsAt (A.data.toList ++ Wire.ints l ++ B.data.toList) A.size := ⟨_, rfl⟩
    rw [← hT] at c3 u3
    refine wireBack_core w A B (str (Wire.num N)) (str (Wire.text B.data.toList)) (str (Wire.ints l)) N p _ _ _ _ _ (decide (Wire.num N = [])) (decide (Wire.ints l = [])) l _ a c (by omega) (by omega) (by omega) hl0
      (by rw [str_size]; omega) (by rw [str_size]; omega) (by rw [str_size]; omega) (num_any N) c1 (text_any B (by omega)) c2 (fun w h => ints_any l _ w h (by omega)) c3
      (isEmpty_str _) (isEmpty_str _) (fun hd => ?_) (fun hd => ?_)
    · have hne := of_decide_eq_false hd
      have u1 := Wire.take_told N A.data.toList B.data.toList hne
      rw [size_list] at u1
      rw [u1, str_size]
      rw [Wire.num_none] at hne
      exact ⟨by dsimp only; omega, rfl, rfl⟩
    · have hne := of_decide_eq_false hd
      have u4 := u3 hne
      simp only [Prod.mk.injEq] at u4
      obtain ⟨rfl, rfl, rfl⟩ := u4
      exact ⟨rfl, by rw [str_size], rfl⟩

end Go.Proofs.Ytehidhcpdiameaa
