/- The statement PageTorn: the law's own walk. -/
import Derived.Test.YtehidhcpdiameaaPageTells
import Derived.Test.YtehidhcpdiameaaPageTornMath
import Derived.Test.YtehidhcpdiameaaWireTells
namespace Go.Proofs.Ytehidhcpdiameaa
open Go.RowKit

theorem pageTorn_out (w : World) (s : ByteArray) (a p : Int) (B : Array Value) (hs : s.size ≤ maxLen) (h : 1000 < (s.size : Int) ∨ a < 0 ∨ p < 0 ∨ 28 < p) :
    Calls Try.prog 16 #[.string s, .agg #[.int .i64 a, .int .i64 p], .agg B] w fun e w' => e = .returned (.bool true) ∧ Ext w w' := by
  unfold maxLen at hs
  have y0 : Ext w ((w.alloc (.cells #[.int .i64 a, .int .i64 p] 63)).alloc (.cells B 30)) := ((Ext.refl w).alloc _).alloc _
  have hbox := (Box2.new w (.int .i64 a) (.int .i64 p) 63).ext ((Ext.refl _).alloc (.cells B 30))
  by_cases h1 : 1000 < (s.size : Int)
  · clear h
    go_enter Try.func16, Try.ntmps16
    go_wp2_with fail
    refine Soft.region_ext [] [0, 1, 2, 3, 4, 5] [] (by kernel_rfl) (by kernel_rfl) Soft.stab_none ?_
    repeat (first | (refine Soft.pure_n rfl rfl rfl rfl (fun K hK => ?_); go_simp; refine hK _ ?_; clear hK K) | (refine Soft.pure_g rfl rfl rfl rfl rfl (fun K hK => ?_); go_simp; refine hK _ ?_; clear hK K) | (refine Soft.shut rfl rfl rfl rfl (fun K hK => ?_); go_simp; refine hK _ ?_; clear hK K) | (refine Soft.shut0 rfl rfl rfl rfl (fun K hK => ?_); go_simp; refine hK _ ?_; clear hK K) | (refine Soft.quiet_n rfl rfl rfl rfl (fun K hK => ?_); go_simp; apply Exists.intro; refine ⟨fun wq hq => ?_, hK _ ?_⟩; (first | (go_simp; with_reducible rfl) | (have g := (hbox.ext hq).2.1; go_simp; with_reducible rfl) | (have g := (hbox.ext hq).2.2; go_simp; with_reducible rfl)); clear hK K) | (refine Soft.quiet_g rfl rfl rfl rfl rfl (fun K hK => ?_); go_simp; apply Exists.intro; refine ⟨fun wq hq => ?_, hK _ ?_⟩; (first | (go_simp; with_reducible rfl) | (have g := (hbox.ext hq).2.1; go_simp; with_reducible rfl) | (have g := (hbox.ext hq).2.2; go_simp; with_reducible rfl)); clear hK K))
    refine Soft.ends (by kernel_rfl) (fun w1 x1 _ => ?_)
    go_wp2_with fail
    refine (fixed11 _).mono ?_; rintro e w2 ⟨rfl, x2⟩
    go_wp2_with fail
    refine (fixed11 _).mono ?_; rintro e w3 ⟨rfl, x3⟩
    go_wp2_with fail
    go_ret
    exact ⟨rfl, ((y0.trans x1).trans x2).trans x3⟩
  · have d1 : decide ((1000 : Int) < s.size) = false := decide_eq_false h1
    by_cases h2 : a < 0
    · clear h
      go_enter Try.func16, Try.ntmps16
      go_wp2_with fail
      refine Soft.region_ext [] [0, 1, 2, 3, 4, 5] [] (by kernel_rfl) (by kernel_rfl) Soft.stab_none ?_
      repeat (first | (refine Soft.pure_n rfl rfl rfl rfl (fun K hK => ?_); go_simp; refine hK _ ?_; clear hK K) | (refine Soft.pure_g rfl rfl rfl rfl rfl (fun K hK => ?_); go_simp; refine hK _ ?_; clear hK K) | (refine Soft.shut rfl rfl rfl rfl (fun K hK => ?_); go_simp; refine hK _ ?_; clear hK K) | (refine Soft.shut0 rfl rfl rfl rfl (fun K hK => ?_); go_simp; refine hK _ ?_; clear hK K) | (refine Soft.quiet_n rfl rfl rfl rfl (fun K hK => ?_); go_simp; apply Exists.intro; refine ⟨fun wq hq => ?_, hK _ ?_⟩; (first | (go_simp; with_reducible rfl) | (have g := (hbox.ext hq).2.1; go_simp; with_reducible rfl) | (have g := (hbox.ext hq).2.2; go_simp; with_reducible rfl)); clear hK K) | (refine Soft.quiet_g rfl rfl rfl rfl rfl (fun K hK => ?_); go_simp; apply Exists.intro; refine ⟨fun wq hq => ?_, hK _ ?_⟩; (first | (go_simp; with_reducible rfl) | (have g := (hbox.ext hq).2.1; go_simp; with_reducible rfl) | (have g := (hbox.ext hq).2.2; go_simp; with_reducible rfl)); clear hK K))
      refine Soft.ends (by kernel_rfl) (fun w1 x1 _ => ?_)
      go_wp2_with fail
      refine (fixed11 _).mono ?_; rintro e w2 ⟨rfl, x2⟩
      go_wp2_with fail
      refine (fixed11 _).mono ?_; rintro e w3 ⟨rfl, x3⟩
      go_wp2_with fail
      go_ret
      exact ⟨rfl, ((y0.trans x1).trans x2).trans x3⟩
    · have d2 : decide (a < 0) = false := decide_eq_false h2
      by_cases h3 : p < 0
      · clear h
        go_enter Try.func16, Try.ntmps16
        go_wp2_with fail
        refine Soft.region_ext [] [0, 1, 2, 3, 4, 5] [] (by kernel_rfl) (by kernel_rfl) Soft.stab_none ?_
        repeat (first | (refine Soft.pure_n rfl rfl rfl rfl (fun K hK => ?_); go_simp; refine hK _ ?_; clear hK K) | (refine Soft.pure_g rfl rfl rfl rfl rfl (fun K hK => ?_); go_simp; refine hK _ ?_; clear hK K) | (refine Soft.shut rfl rfl rfl rfl (fun K hK => ?_); go_simp; refine hK _ ?_; clear hK K) | (refine Soft.shut0 rfl rfl rfl rfl (fun K hK => ?_); go_simp; refine hK _ ?_; clear hK K) | (refine Soft.quiet_n rfl rfl rfl rfl (fun K hK => ?_); go_simp; apply Exists.intro; refine ⟨fun wq hq => ?_, hK _ ?_⟩; (first | (go_simp; with_reducible rfl) | (have g := (hbox.ext hq).2.1; go_simp; with_reducible rfl) | (have g := (hbox.ext hq).2.2; go_simp; with_reducible rfl)); clear hK K) | (refine Soft.quiet_g rfl rfl rfl rfl rfl (fun K hK => ?_); go_simp; apply Exists.intro; refine ⟨fun wq hq => ?_, hK _ ?_⟩; (first | (go_simp; with_reducible rfl) | (have g := (hbox.ext hq).2.1; go_simp; with_reducible rfl) | (have g := (hbox.ext hq).2.2; go_simp; with_reducible rfl)); clear hK K))
        refine Soft.ends (by kernel_rfl) (fun w1 x1 _ => ?_)
        go_wp2_with fail
        refine (fixed11 _).mono ?_; rintro e w2 ⟨rfl, x2⟩
        go_wp2_with fail
        refine (fixed11 _).mono ?_; rintro e w3 ⟨rfl, x3⟩
        go_wp2_with fail
        go_ret
        exact ⟨rfl, ((y0.trans x1).trans x2).trans x3⟩
      · have d3 : decide (p < 0) = false := decide_eq_false h3
        have h4 : 28 < p := by omega
        clear h
        go_enter Try.func16, Try.ntmps16
        go_wp2_with fail
        refine Soft.region_ext [] [0, 1, 2, 3, 4, 5] [] (by kernel_rfl) (by kernel_rfl) Soft.stab_none ?_
        repeat (first | (refine Soft.pure_n rfl rfl rfl rfl (fun K hK => ?_); go_simp; refine hK _ ?_; clear hK K) | (refine Soft.pure_g rfl rfl rfl rfl rfl (fun K hK => ?_); go_simp; refine hK _ ?_; clear hK K) | (refine Soft.shut rfl rfl rfl rfl (fun K hK => ?_); go_simp; refine hK _ ?_; clear hK K) | (refine Soft.shut0 rfl rfl rfl rfl (fun K hK => ?_); go_simp; refine hK _ ?_; clear hK K) | (refine Soft.quiet_n rfl rfl rfl rfl (fun K hK => ?_); go_simp; apply Exists.intro; refine ⟨fun wq hq => ?_, hK _ ?_⟩; (first | (go_simp; with_reducible rfl) | (have g := (hbox.ext hq).2.1; go_simp; with_reducible rfl) | (have g := (hbox.ext hq).2.2; go_simp; with_reducible rfl)); clear hK K) | (refine Soft.quiet_g rfl rfl rfl rfl rfl (fun K hK => ?_); go_simp; apply Exists.intro; refine ⟨fun wq hq => ?_, hK _ ?_⟩; (first | (go_simp; with_reducible rfl) | (have g := (hbox.ext hq).2.1; go_simp; with_reducible rfl) | (have g := (hbox.ext hq).2.2; go_simp; with_reducible rfl)); clear hK K))
        refine Soft.ends (by kernel_rfl) (fun w1 x1 _ => ?_)
        go_wp2_with fail
        refine (fixed11 _).mono ?_; rintro e w2 ⟨rfl, x2⟩
        go_wp2_with fail
        refine (fixed11 _).mono ?_; rintro e w3 ⟨rfl, x3⟩
        go_wp2_with fail
        go_ret
        exact ⟨rfl, ((y0.trans x1).trans x2).trans x3⟩

set_option maxRecDepth 100000 in
set_option maxHeartbeats 4000000 in
theorem pageTorn_past (w : World) (s : ByteArray) (i p : Nat) (B : Array Value) (hs : s.size ≤ 1000) (hp : p ≤ 28) (h : (Page.lay s.data.toList).length ≤ i ∨ (i = 0 ∧ p < 3)) :
    Calls Try.prog 16 #[.string s, .agg #[.int .i64 i, .int .i64 p], .agg B] w fun e w' => e = .returned (.bool true) ∧ Ext w w' := by
  have y0 : Ext w ((w.alloc (.cells #[.int .i64 i, .int .i64 p] 63)).alloc (.cells B 30)) := ((Ext.refl w).alloc _).alloc _
  have hbox := (Box2.new w (.int .i64 i) (.int .i64 p) 63).ext ((Ext.refl _).alloc (.cells B 30))
  have d1 : decide ((1000 : Int) < s.size) = false := decide_eq_false (by omega)
  have d2 : decide ((i : Int) < 0) = false := decide_eq_false (by omega)
  have d3 : decide ((p : Int) < 0) = false := decide_eq_false (by omega)
  have d4 : decide ((28 : Int) < p) = false := decide_eq_false (by omega)
  have h57 := lay_any s (by omega)
  have hsl := strs_length (Page.lay s.data.toList)
  have hpos := Page.lay_pos s.data.toList
  generalize Page.lay s.data.toList = L at *
  generalize L.length = M at *
  replace h57 := Lib.hid h57; replace hsl := Lib.hid hsl
  by_cases h1 : M ≤ i
  · have d5 : decide ((M : Int) ≤ i) = true := decide_eq_true (by omega)
    have d5' : (M : Int) ≤ i := by omega
    clear h
    go_enter Try.func16, Try.ntmps16
    go_wp2_with fail
    refine Soft.region_ext [] [0, 1, 2, 3, 4, 5] [] (by kernel_rfl) (by kernel_rfl) Soft.stab_none ?_
    repeat (first | (refine Soft.pure_n rfl rfl rfl rfl (fun K hK => ?_); go_simp; refine hK _ ?_; clear hK K) | (refine Soft.pure_g rfl rfl rfl rfl rfl (fun K hK => ?_); go_simp; refine hK _ ?_; clear hK K) | (refine Soft.shut rfl rfl rfl rfl (fun K hK => ?_); go_simp; refine hK _ ?_; clear hK K) | (refine Soft.shut0 rfl rfl rfl rfl (fun K hK => ?_); go_simp; refine hK _ ?_; clear hK K) | (refine Soft.quiet_n rfl rfl rfl rfl (fun K hK => ?_); go_simp; apply Exists.intro; refine ⟨fun wq hq => ?_, hK _ ?_⟩; (first | (go_simp; with_reducible rfl) | (have g := (hbox.ext hq).2.1; go_simp; with_reducible rfl) | (have g := (hbox.ext hq).2.2; go_simp; with_reducible rfl)); clear hK K) | (refine Soft.quiet_g rfl rfl rfl rfl rfl (fun K hK => ?_); go_simp; apply Exists.intro; refine ⟨fun wq hq => ?_, hK _ ?_⟩; (first | (go_simp; with_reducible rfl) | (have g := (hbox.ext hq).2.1; go_simp; with_reducible rfl) | (have g := (hbox.ext hq).2.2; go_simp; with_reducible rfl)); clear hK K))
    refine Soft.ends (by kernel_rfl) (fun w1 x1 _ => ?_)
    go_wp2_with fail
    refine (fixed11 _).mono ?_; rintro e w2 ⟨rfl, x2⟩
    go_wp2_with fail
    refine (h57.out _).mono ?_; rintro e w3 ⟨v3, rfl, l3, x3⟩
    obtain ⟨a3, c3, e3, _, hc3, _⟩ := l3
    rw [hsl.out] at e3
    subst e3
    go_wp2_with fail
    go_ret
    exact ⟨rfl, ((y0.trans x1).trans x2).trans x3⟩
  · obtain ⟨rfl, h3⟩ : i = 0 ∧ p < 3 := by rcases h with h | h; exact absurd h h1; exact h
    have d5 : ¬ (M : Int) ≤ 0 := by omega
    have d6 : (p : Int) < 3 := by omega
    have d7 : ¬ M ≤ 0 := h1
    clear h
    go_enter Try.func16, Try.ntmps16
    go_wp2_with fail
    refine Soft.region_ext [] [0, 1, 2, 3, 4, 5] [] (by kernel_rfl) (by kernel_rfl) Soft.stab_none ?_
    repeat (first | (refine Soft.pure_n rfl rfl rfl rfl (fun K hK => ?_); go_simp; refine hK _ ?_; clear hK K) | (refine Soft.pure_g rfl rfl rfl rfl rfl (fun K hK => ?_); go_simp; refine hK _ ?_; clear hK K) | (refine Soft.shut rfl rfl rfl rfl (fun K hK => ?_); go_simp; refine hK _ ?_; clear hK K) | (refine Soft.shut0 rfl rfl rfl rfl (fun K hK => ?_); go_simp; refine hK _ ?_; clear hK K) | (refine Soft.quiet_n rfl rfl rfl rfl (fun K hK => ?_); go_simp; apply Exists.intro; refine ⟨fun wq hq => ?_, hK _ ?_⟩; (first | (go_simp; with_reducible rfl) | (have g := (hbox.ext hq).2.1; go_simp; with_reducible rfl) | (have g := (hbox.ext hq).2.2; go_simp; with_reducible rfl)); clear hK K) | (refine Soft.quiet_g rfl rfl rfl rfl rfl (fun K hK => ?_); go_simp; apply Exists.intro; refine ⟨fun wq hq => ?_, hK _ ?_⟩; (first | (go_simp; with_reducible rfl) | (have g := (hbox.ext hq).2.1; go_simp; with_reducible rfl) | (have g := (hbox.ext hq).2.2; go_simp; with_reducible rfl)); clear hK K))
    refine Soft.ends (by kernel_rfl) (fun w1 x1 _ => ?_)
    go_wp2_with fail
    refine (fixed11 _).mono ?_; rintro e w2 ⟨rfl, x2⟩
    go_wp2_with fail
    refine (h57.out _).mono ?_; rintro e w3 ⟨v3, rfl, l3, x3⟩
    obtain ⟨a3, c3, e3, _, hc3, _⟩ := l3
    rw [hsl.out] at e3
    subst e3
    go_wp2_with fail
    go_ret
    exact ⟨rfl, ((y0.trans x1).trans x2).trans x3⟩

/-- four bytes that lie boxed. -/
def Box4 (n : Nat) (b0 b1 b2 b3 : UInt8) (w : World) : Prop := n < w.heap.size ∧ ∀ k, k < 4 → w.cell? ⟨n, k, none⟩ = some (byteV ([b0, b1, b2, b3].getD k 0))
theorem Box4.ext {n : Nat} {b0 b1 b2 b3 : UInt8} {w w' : World} (h : Box4 n b0 b1 b2 b3 w) (x : Ext w w') : Box4 n b0 b1 b2 b3 w' :=
  ⟨Nat.lt_of_lt_of_le h.1 x.size, fun k hk => by rw [x.cell (p := ⟨n, k, none⟩) h.1]; exact h.2 k hk⟩
theorem Box4.new (w : World) (b0 b1 b2 b3 : UInt8) (T : TypeId) : Box4 w.heap.size b0 b1 b2 b3 (w.alloc (.cells #[byteV b0, byteV b1, byteV b2, byteV b3] T)) :=
  ⟨by simp, fun k hk => by
    rw [World.cell?_alloc_mark]
    match k, hk with
    | 0, _ => rfl
    | 1, _ => rfl
    | 2, _ => rfl
    | 3, _ => rfl⟩

/-- a row of bytes that is being turned. -/
structure Turned (cb : Nat) (l : List UInt8) (w : World) : Prop where
  size : cb < w.heap.size
  cell : ∀ j, j < l.length → w.cell? ⟨cb, j, none⟩ = some (byteV (l.getD j 0))
  free : ∀ j, j < l.length → w.frozen? ⟨cb, j, none⟩ = false
theorem Turned.ext {cb : Nat} {l : List UInt8} {w w' : World} (h : Turned cb l w) (x : Ext w w') : Turned cb l w' :=
  ⟨Nat.lt_of_lt_of_le h.size x.size, fun j hj => by rw [x.cell (p := ⟨cb, j, none⟩) h.size]; exact h.cell j hj, fun j hj => by rw [x.frozen (p := ⟨cb, j, none⟩) h.size]; exact h.free j hj⟩
theorem Turned.set {cb : Nat} {l : List UInt8} {w : World} (h : Turned cb l w) (k : Nat) (hk : k < l.length) (b : UInt8) : Turned cb (turn l k b) (w.setCell ⟨cb, k, none⟩ (byteV (l.getD k 0 ^^^ b))) := by
  refine ⟨by have := h.size; simpa [World.setCell] using this, fun j hj => ?_, fun j hj => ?_⟩
  · rw [turn_length] at hj
    by_cases hjk : j = k
    · subst hjk
      rw [World.cell?_setCell_same _ _ _ (h.cell j hj)]
      unfold turn
      rw [List.getD_eq_getElem?_getD (l := l.set _ _), List.getElem?_set_self hj, Option.getD_some]
    · rw [World.cell?_setCell_other _ _ _ _ (by intro e; injection e with _ e2 _; exact hjk e2.symm), h.cell j hj]
      unfold turn
      rw [List.getD_eq_getElem?_getD, List.getD_eq_getElem?_getD, List.getElem?_set_ne (Ne.symm hjk)]
  · rw [turn_length] at hj
    rw [World.frozen?_setCell]
    exact h.free j hj

end Go.Proofs.Ytehidhcpdiameaa
