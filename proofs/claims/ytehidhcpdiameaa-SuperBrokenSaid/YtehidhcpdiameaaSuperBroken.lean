/- The statement SuperBroken: the law's own walk. -/
import Derived.Test.YtehidhcpdiameaaSuperFixed
import Derived.Test.YtehidhcpdiameaaTurned
import Derived.Test.YtehidhcpdiameaaOpen4
namespace Go.Proofs.Ytehidhcpdiameaa
open Go.RowKit

set_option maxRecDepth 100000 in
set_option maxHeartbeats 8000000 in
theorem superBroken_out (w : World) (x0 x1 x2 p : Int) (b0 b1 b2 b3 : UInt8) (A : ByteArray)
    (h87 : ∀ w, Calls Try.prog 87 #[.agg #[.int .i64 x0, .int .i64 x1, .int .i64 x2]] w fun e w' => e = .returned (.string A) ∧ Ext w w')
    (h : (∃ (_ : A.toList = []), A.toList.isEmpty = true) ∨ (∃ (_ : A.toList.isEmpty = false) (_ : ((A.size : Int) == 32) = true), decide (p < 1) = true) ∨ (∃ (_ : A.toList.isEmpty = false) (_ : ((A.size : Int) == 32) = true) (_ : decide (p < 1) = false), decide (28 < p) = true)) :
    Calls Try.prog 27 #[.agg #[.int .i64 x0, .int .i64 x1, .int .i64 x2], .int .i64 p, .agg #[byteV b0, byteV b1, byteV b2, byteV b3]] w fun e w' => e = .returned (.bool true) ∧ Ext w w' := by
  have c0 := Lib.hid ((Box.new w [.int .i64 x0, .int .i64 x1, .int .i64 x2] 94).alloc (.cells #[byteV b0, byteV b1, byteV b2, byteV b3] 30))
  have y0 : Ext w ((w.alloc (.cells #[.int .i64 x0, .int .i64 x1, .int .i64 x2] 94)).alloc (.cells #[byteV b0, byteV b1, byteV b2, byteV b3] 30)) := ((Ext.refl w).alloc _).alloc _
  replace h87 := Lib.hid h87
  rcases h with ⟨q1, q2⟩ | ⟨q1, q2, q3⟩ | ⟨q1, q2, q3, q4⟩
  all_goals
    go_enter Try.func27, Try.ntmps27
    obtain ⟨i0, i1, i2, _, _, _⟩ := c0.out.at3
    go_wp2_with fail
    refine (h87.out _).mono ?_; rintro e w1 ⟨rfl, r1⟩
    clear i0 i1 i2
    go_wp2_with fail
    refine (fixed12 _).mono ?_; rintro e w2 ⟨rfl, r2⟩
    go_wp2_with fail
    refine (fixed12 _).mono ?_; rintro e w3 ⟨rfl, r3⟩
    go_wp2_with fail
    go_ret
    exact ⟨rfl, ((y0.trans r1).trans r2).trans r3⟩

set_option maxRecDepth 100000 in
set_option maxHeartbeats 8000000 in
theorem superBroken_main (w : World) (x0 x1 x2 : Int) (p : Nat) (b0 b1 b2 b3 : UInt8) (hp1 : 1 ≤ p) (hp : p ≤ 28) (hok : Super.ok (x0, x1, x2) = true) :
    Calls Try.prog 27 #[.agg #[.int .i64 x0, .int .i64 x1, .int .i64 x2], .int .i64 p, .agg #[byteV b0, byteV b1, byteV b2, byteV b3]] w fun e w' => e = .returned (.bool true) ∧ Ext w w' := by
  have c0 := Lib.hid ((Box.new w [.int .i64 x0, .int .i64 x1, .int .i64 x2] 94).alloc (.cells #[byteV b0, byteV b1, byteV b2, byteV b3] 30))
  have y0 : Ext w ((w.alloc (.cells #[.int .i64 x0, .int .i64 x1, .int .i64 x2] 94)).alloc (.cells #[byteV b0, byteV b1, byteV b2, byteV b3] 30)) := ((Ext.refl w).alloc _).alloc _
  have hbox4 := Sup.Box4.new (w.alloc (.cells #[.int .i64 x0, .int .i64 x1, .int .i64 x2] 94)) b0 b1 b2 b3 30
  rw [show (w.alloc (.cells #[.int .i64 x0, .int .i64 x1, .int .i64 x2] 94)).heap.size = w.heap.size + 1 from by simp] at hbox4
  have d1 : decide ((p : Int) < 1) = false := decide_eq_false (by omega)
  have d2 : decide ((28 : Int) < p) = false := decide_eq_false (by omega)
  have h87 := superLay_any (x0, x1, x2)
  have hbr := Super.broken (x0, x1, x2) hok p [b0, b1, b2, b3] hp1 hp
  have hXl := Super.lay_length _ hok
  have hne := Super.lay_ne _ hok
  have hstep : ∀ k, k < 4 → turnTo (Super.lay (x0, x1, x2)) p [b0, b1, b2, b3] (k + 1) = turn (turnTo (Super.lay (x0, x1, x2)) p [b0, b1, b2, b3] k) (p + k) ([b0, b1, b2, b3].getD k 0) := fun k hk => turnTo_step _ _ _ k (by omega)
  have hlen : ∀ k, (turnTo (Super.lay (x0, x1, x2)) p [b0, b1, b2, b3] k).length = 32 := fun k => by rw [turnTo_length, hXl]
  have hz : turnTo (Super.lay (x0, x1, x2)) p [b0, b1, b2, b3] 0 = Super.lay (x0, x1, x2) := rfl
  have hXs : (str (Super.lay (x0, x1, x2))).size = 32 := by rw [str_size, hXl]
  have q1 : (str (Super.lay (x0, x1, x2))).toList.isEmpty = false := by
    rw [isEmpty_str]
    cases h : Super.lay (x0, x1, x2) with
    | nil => exact absurd h hne
    | cons _ _ => rfl
  generalize turnTo (Super.lay (x0, x1, x2)) p [b0, b1, b2, b3] = TT at *
  have h83 := superOpen_any (str (TT 4))
  rw [list_str, hbr] at h83
  unfold supV at h83
  have hcase : (∃ (_ : ((str (TT 4)).toList == (str (Super.lay (x0, x1, x2))).toList) = true), ∀ w, Calls Try.prog 83 #[.string (str (TT 4))] w fun e w' => e = .returned (.tuple #[.agg #[.int .i64 x0, .int .i64 x1, .int .i64 x2], .bool true]) ∧ Ext w w') ∨
      (∃ (_ : ((str (TT 4)).toList == (str (Super.lay (x0, x1, x2))).toList) = false), ∀ w, Calls Try.prog 83 #[.string (str (TT 4))] w fun e w' => e = .returned (.tuple #[.agg #[.int .i64 0, .int .i64 0, .int .i64 0], .bool false]) ∧ Ext w w') := by
    by_cases h : TT 4 = Super.lay (x0, x1, x2)
    · rw [if_pos h] at h83
      exact .inl ⟨beq_true h, h83⟩
    · rw [if_neg h] at h83
      exact .inr ⟨beq_false h, h83⟩
  clear h83 hbr hne
  have hXd : (str (Super.lay (x0, x1, x2))).data.toList = Super.lay (x0, x1, x2) := rfl
  dsimp only at h87
  generalize hXg : Super.lay (x0, x1, x2) = X at *
  have e0 : ∀ n : Int, (n == n) = true := fun n => beq_self_eq_true _
  have ex0 := e0 x0; have ex1 := e0 x1; have ex2 := e0 x2
  clear e0
  have q2 : (((str X).size : Int) == 32) = true := by simp; omega
  have q3 : (((str X).size : Int) != 32) = false := by rw [bne, q2]; rfl
  replace h87 := Lib.hid h87; replace hstep := Lib.hid hstep; replace hlen := Lib.hid hlen; replace hz := Lib.hid hz; replace hXl := Lib.hid hXl; replace hXs := Lib.hid hXs; replace hXd := Lib.hid hXd; replace hXg := Lib.hid hXg
  replace hcase := Lib.hid hcase
  go_enter Try.func27, Try.ntmps27
  obtain ⟨i0, i1, i2, _, _, _⟩ := c0.out.at3
  go_wp2_with fail
  refine (h87.out _).mono ?_; rintro e w1 ⟨rfl, r1⟩
  clear i0 i1 i2
  go_wp2_with fail
  refine (fixed12 _).mono ?_; rintro e w2 ⟨rfl, r2⟩
  go_wp2_with fail
  replace c0 := Lib.hid ((c0.out.ext r1).ext r2)
  have k1 := (hbox4.ext r1).ext r2
  have y1 := (y0.trans r1).trans r2
  clear hbox4 y0 r1 r2
  obtain ⟨w5, M, hconv, x5, hsz5, hcb, hfb⟩ := bytes_of (str X) w2
  have ht0 : Sup.Turned w2.heap.size (TT 0) w5 := by
    refine ⟨hsz5, fun j hj => ?_, fun j hj => ?_⟩
    · rw [hlen.out] at hj
      have hj2 : j < (str X).size := by rw [hXs.out]; exact hj
      rw [hcb j hj2]
      have : (str X)[j] = (TT 0).getD j 0 := by
        rw [hz.out]
        have hjx : j < X.length := by rw [hXl.out]; exact hj
        rw [List.getD_eq_getElem?_getD, List.getElem?_eq_getElem hjx]
        rfl
      rw [this]
    · rw [hlen.out] at hj
      exact hfb j (by rw [hXs.out]; exact hj)
  rw [hXs.out] at hconv
  clear hcb hfb
  replace ht0 := Lib.hid ht0; replace k1 := Lib.hid k1
  go_wp2_with fail
  rw [hconv]
  go_wp2_with fail
  go_loopw [9] (fun ii wr => ∃ k : Nat, k ≤ 4 ∧ ii = .int .i64 k ∧ Sup.Turned w2.heap.size (TT k) wr ∧ Ext w2 wr) (fun ii _ => 4 - (intOf ii).toNat)
  case atStart => exact ⟨0, by omega, rfl, ht0.out, x5⟩
  case round =>
    obtain ⟨k, hk, rfl, ht, hx⟩ := hrel
    by_cases hk4 : k < 4
    · have hC : ∀ wq, Ext wr wq → wq.cell? ⟨w2.heap.size, p + k, none⟩ = some (.int .u8 (((TT k).getD (p + k) 0).toNat : Int)) := fun wq xq => (ht.ext xq).cell (p + k) (by rw [hlen.out]; omega)
      have hF : ∀ wq, Ext wr wq → wq.frozen? ⟨w2.heap.size, p + k, none⟩ = false := fun wq xq => (ht.ext xq).free (p + k) (by rw [hlen.out]; omega)
      have hB : ∀ wq, Ext wr wq → wq.cell? ⟨w.heap.size + 1, k, none⟩ = some (.int .u8 (([b0, b1, b2, b3].getD k 0).toNat : Int)) := fun wq xq => (k1.out.ext (hx.trans xq)).2 k hk4
      have hnext : ∀ wq, Ext wr wq → Sup.Turned w2.heap.size (TT (k + 1)) (wq.setCell ⟨w2.heap.size, p + k, none⟩ (byteV ((TT k).getD (p + k) 0 ^^^ [b0, b1, b2, b3].getD k 0))) := fun wq xq => by
        rw [hstep.out k hk4]
        exact (ht.ext xq).set (p + k) (by rw [hlen.out]; omega) _
      generalize (TT k).getD (p + k) 0 = C at *
      generalize [b0, b1, b2, b3].getD k 0 = B at *
      have hxor := u8_xor_nat C.toNat B.toNat C.toNat_lt B.toNat_lt
      have hbv : byteV (C ^^^ B) = .int .u8 ((C.toNat ^^^ B.toNat : Nat) : Int) := by unfold byteV; rw [UInt8.toNat_xor]
      rw [hbv] at hnext
      have f1 : IntKind.i64.wrap ((p : Int) + k) = p + k := IntWalk.i64_in _ (by omega)
      have f2 : ((p : Int) + k).toNat = p + k := by omega
      have f3 : (0 : Int) ≤ p + k := by omega
      have f4 : (p : Int) + k < 32 := by omega
      have f5 : (k : Int) < 4 := by omega
      replace hC := Lib.hid hC; replace hF := Lib.hid hF; replace hB := Lib.hid hB; replace hnext := Lib.hid hnext; replace hbv := Lib.hid hbv; replace ht := Lib.hid ht
      go_wp2_with fail
      refine Soft.region_ext [] [0, 1, 2, 3, 4, 5, 6, 7, 8, 9, 10, 11, 12, 13, 14] [15] (by kernel_rfl) (by kernel_rfl) Soft.stab_none ?_
      repeat (first | (refine Soft.pure_n rfl rfl rfl rfl (fun K hK => ?_); go_simp; refine hK _ ?_; clear hK K) | (refine Soft.quiet_n rfl rfl rfl rfl (fun K hK => ?_); go_simp; apply Exists.intro; refine ⟨fun wq hq => ?_, hK _ ?_⟩; (first | (have g := hC.out wq hq; go_simp; with_reducible rfl) | (have g := hB.out wq hq; go_simp; with_reducible rfl)); clear hK K))
      refine Soft.tail_forced [_] (by kernel_rfl) rfl (fun w6 x6 _ => ?_)
      have g1 := hC.out w6 x6
      have g2 := hF.out w6 x6
      go_wp2
      try apply_assumption
      try go_wp2
      go_roundw
      case rel => exact ⟨k + 1, by omega, by go_num, hnext.out w6 x6, (hx.trans x6).below.setCell (Nat.le_refl _) _⟩
      case measure => simp [intOf]; omega
    · obtain rfl : k = 4 := by omega
      have hcv := Sup.run_turned (N := M) ht (hlen.out 4)
      replace ht := Lib.hid ht
      rcases hcase.out with ⟨heq, h83⟩ | ⟨heq, h83⟩
      · replace h83 := Lib.hid h83
        go_wp2_with fail
        refine (h83.out _).mono ?_; rintro e w6 ⟨rfl, x6⟩
        have hcv2 := Sup.run_turned (N := M) ((ht.out.ext x6).ext ((Ext.refl _).alloc (.cells #[.int .i64 x0, .int .i64 x1, .int .i64 x2] 94))) (hlen.out 4)
        obtain ⟨i0, i1, i2, _, _, _⟩ := (((c0.out.ext hx).ext x6).alloc (.cells #[.int .i64 x0, .int .i64 x1, .int .i64 x2] 94)).at3
        obtain ⟨j0, j1, j2, _, _, _⟩ := (Box.new w6 [.int .i64 x0, .int .i64 x1, .int .i64 x2] 94).at3
        have y6 := Lib.hid (((y1.trans hx).trans x6).alloc (.cells #[.int .i64 x0, .int .i64 x1, .int .i64 x2] 94))
        clear x6
        go_wp2_with fail
        go_ret
        exact ⟨rfl, y6.out⟩
      · replace h83 := Lib.hid h83
        go_wp2_with fail
        refine (h83.out _).mono ?_; rintro e w6 ⟨rfl, x6⟩
        have hcv2 := Sup.run_turned (N := M) ((ht.out.ext x6).ext ((Ext.refl _).alloc (.cells #[.int .i64 0, .int .i64 0, .int .i64 0] 94))) (hlen.out 4)
        obtain ⟨i0, i1, i2, _, _, _⟩ := (((c0.out.ext hx).ext x6).alloc (.cells #[.int .i64 0, .int .i64 0, .int .i64 0] 94)).at3
        obtain ⟨j0, j1, j2, _, _, _⟩ := (Box.new w6 [.int .i64 0, .int .i64 0, .int .i64 0] 94).at3
        have y6 := Lib.hid (((y1.trans hx).trans x6).alloc (.cells #[.int .i64 0, .int .i64 0, .int .i64 0] 94))
        clear x6
        go_wp2_with fail
        go_ret
        exact ⟨rfl, y6.out⟩

theorem superBroken_walk (x : Int × Int × Int) (p : Int) (b : UInt8 × UInt8 × UInt8 × UInt8) (_hx : In64 x.1 ∧ In64 x.2.1 ∧ In64 x.2.2) (_hp : -9223372036854775808 ≤ p ∧ p ≤ 9223372036854775807) (_hb : True) (w : World) :
    Calls Try.prog 27 #[.agg #[.int .i64 x.1, .int .i64 x.2.1, .int .i64 x.2.2], .int .i64 p, .agg #[byteV b.1, byteV b.2.1, byteV b.2.2.1, byteV b.2.2.2]] w fun e w' => e = .returned (.bool true) ∧ Ext w w' := by
  have h87 := superLay_any x
  cases ok : Super.ok x with
  | false => exact superBroken_out w _ _ _ p _ _ _ _ _ h87 (.inl ⟨by rw [toList_str, Super.lay_no x ok], by rw [isEmpty_str, Super.lay_no x ok]; rfl⟩)
  | true =>
    have q1 : (str (Super.lay x)).toList.isEmpty = false := by
      rw [isEmpty_str]
      cases h : Super.lay x with
      | nil => exact absurd h (Super.lay_ne x ok)
      | cons _ _ => rfl
    have q2 : (((str (Super.lay x)).size : Int) == 32) = true := by rw [str_size, Super.lay_length x ok]; rfl
    by_cases h1 : p < 1
    · exact superBroken_out w _ _ _ p _ _ _ _ _ h87 (.inr (.inl ⟨q1, q2, decide_eq_true h1⟩))
    · by_cases h2 : 28 < p
      · exact superBroken_out w _ _ _ p _ _ _ _ _ h87 (.inr (.inr ⟨q1, q2, decide_eq_false h1, decide_eq_true h2⟩))
      · obtain ⟨p, rfl⟩ := Int.eq_ofNat_of_zero_le (show 0 ≤ p by omega)
        exact superBroken_main w _ _ _ p _ _ _ _ (by omega) (by omega) ok
end Go.Proofs.Ytehidhcpdiameaa

