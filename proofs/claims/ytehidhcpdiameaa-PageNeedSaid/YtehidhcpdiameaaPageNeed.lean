/- The statement PageNeed: the law's own walk. -/
import Derived.Test.YtehidhcpdiameaaPageBack
namespace Go.Proofs.Ytehidhcpdiameaa
open Go.RowKit

namespace Page
theorem secs_mono {a b : Nat} (h : a ≤ b) : secs a ≤ secs b := by unfold secs; omega
theorem need_mono (n m : Int) (h0 : 0 ≤ n) (h : n ≤ m) (hm : m ≤ 1000000) : need n ≤ need m ∧ n + 4 < 32 * need n ∧ need n ≤ 100000 ∧ 0 ≤ need n := by
  have hn := Wire.num_mono n m h0 h (by rw [Wire.lim_eq]; omega)
  unfold need
  rw [if_neg (by omega), if_neg (by omega)]
  have h1 := secs_mono (a := (Wire.num n).length + n.toNat + 4) (b := (Wire.num m).length + m.toNat + 4) (by omega)
  have h2 := secs_le ((Wire.num n).length + n.toNat + 4)
  have h3 : secs ((Wire.num n).length + n.toNat + 4) ≤ 100000 := by unfold secs; omega
  omega
end Page

theorem pageNeed_long (w : World) (s : ByteArray) (n m : Int) (hs : s.size ≤ maxLen) (h : 1000 < (s.size : Int) ∨ n < 0 ∨ m < n ∨ 1000000 < m) :
    Calls Try.prog 17 #[.string s, .int .i64 n, .int .i64 m] w fun e w' => e = .returned (.bool true) ∧ Ext w w' := by
  unfold maxLen at hs
  by_cases h1 : 1000 < (s.size : Int)
  · clear h
    go_enter Try.func17, Try.ntmps17
    go_wp2_with fail
    refine (fixed11 _).mono ?_; rintro e w1 ⟨rfl, x1⟩
    go_wp2_with fail
    refine (fixed11 _).mono ?_; rintro e w2 ⟨rfl, x2⟩
    go_wp2_with fail
    go_ret
    exact ⟨rfl, x1.trans x2⟩
  · have d1 : decide ((1000 : Int) < s.size) = false := decide_eq_false h1
    by_cases h2 : n < 0
    · clear h
      go_enter Try.func17, Try.ntmps17
      go_wp2_with fail
      refine (fixed11 _).mono ?_; rintro e w1 ⟨rfl, x1⟩
      go_wp2_with fail
      refine (fixed11 _).mono ?_; rintro e w2 ⟨rfl, x2⟩
      go_wp2_with fail
      go_ret
      exact ⟨rfl, x1.trans x2⟩
    · have d2 : decide (n < 0) = false := decide_eq_false h2
      by_cases h3 : m < n
      · clear h
        go_enter Try.func17, Try.ntmps17
        go_wp2_with fail
        refine (fixed11 _).mono ?_; rintro e w1 ⟨rfl, x1⟩
        go_wp2_with fail
        refine (fixed11 _).mono ?_; rintro e w2 ⟨rfl, x2⟩
        go_wp2_with fail
        go_ret
        exact ⟨rfl, x1.trans x2⟩
      · have d3 : decide (m < n) = false := decide_eq_false h3
        have h4 : 1000000 < m := by omega
        clear h
        go_enter Try.func17, Try.ntmps17
        go_wp2_with fail
        refine (fixed11 _).mono ?_; rintro e w1 ⟨rfl, x1⟩
        go_wp2_with fail
        refine (fixed11 _).mono ?_; rintro e w2 ⟨rfl, x2⟩
        go_wp2_with fail
        go_ret
        exact ⟨rfl, x1.trans x2⟩

set_option maxRecDepth 100000 in
set_option maxHeartbeats 4000000 in
theorem pageNeed_short (w : World) (s : ByteArray) (n m : Int) (hs : s.size ≤ 1000) (h1 : 0 ≤ n) (h2 : n ≤ m) (h3 : m ≤ 1000000) :
    Calls Try.prog 17 #[.string s, .int .i64 n, .int .i64 m] w fun e w' => e = .returned (.bool true) ∧ Ext w w' := by
  have h57 := lay_any s (by omega)
  have heach := Page.lay_each s.data.toList
  have hneed := Page.lay_need s (by omega)
  have h59 := need_any n
  have h59' := need_any m
  have h59s := need_any (s.size : Int)
  rw [hneed] at h59s
  obtain ⟨f1, f2, f3, f4⟩ := Page.need_mono n m h1 h2 h3
  have hsl := strs_length (Page.lay s.data.toList)
  have hML : (Page.lay s.data.toList).length ≤ 1000 := by
    rw [Page.lay_length]; have := Page.sealed_size s; unfold Page.secs; omega
  generalize Page.lay s.data.toList = L at *
  generalize Page.need n = N at *
  generalize Page.need m = N' at *
  generalize hM : L.length = M at *
  have d1 : decide ((1000 : Int) < s.size) = false := decide_eq_false (by omega)
  have d2 : decide (n < 0) = false := decide_eq_false (by omega)
  have d3 : decide (m < n) = false := decide_eq_false (by omega)
  have d4 : decide (1000000 < m) = false := decide_eq_false (by omega)
  replace h57 := Lib.hid h57; replace h59 := Lib.hid h59; replace h59' := Lib.hid h59'; replace h59s := Lib.hid h59s; replace heach := Lib.hid heach; replace hsl := Lib.hid hsl; replace hM := Lib.hid hM; replace hneed := Lib.hid hneed
  have hMi : (M : Int) ≤ 1000 := by omega
  go_enter Try.func17, Try.ntmps17
  go_wp2_with fail
  refine (fixed11 _).mono ?_; rintro e w1 ⟨rfl, x1⟩
  go_wp2_with fail
  refine (h57.out _).mono ?_; rintro e w2 ⟨v2, rfl, l2, x2⟩
  have hcell : ∀ k, k < M → ∃ (b o : Nat) (c : Nat) (X : ByteArray), v2 = .slice (some ⟨b, o, none⟩) M c ∧ X.size = 32 ∧ b < w2.heap.size ∧ w2.cell? ⟨b, o + k, none⟩ = some (.string X) := fun k hk => by
    obtain ⟨a, c, e, h1, h2, h3⟩ := sl_str_at (l := L.map str) l2
    rw [List.length_map, hM.out] at e
    obtain ⟨b, o, rfl, hb, hc⟩ := h3 k (by rw [List.length_map, hM.out]; exact hk)
    refine ⟨b, o, c, _, e, ?_, hb, hc⟩
    rw [List.getElem_map, str_size]
    exact heach.out _ (List.getElem_mem _)
  obtain ⟨a2, c2, e2, _, _, _⟩ := id l2
  rw [hsl.out] at e2
  subst e2
  have y2 := x1.trans x2
  clear x1 x2 l2
  replace hcell := Lib.hid hcell
  go_wp2_with fail
  go_loopw [8] (fun i wr => ∃ k : Nat, k ≤ M ∧ i = .int .i64 k ∧ Ext w2 wr) (fun i _ => M - (intOf i).toNat)
  case atStart => exact ⟨0, by omega, rfl, Ext.refl _⟩
  case round =>
    obtain ⟨k, hk, rfl, hx⟩ := hrel
    by_cases hkM : k < M
    · obtain ⟨b, o, c, X, e, hX, hb, hc⟩ := hcell.out k hkM
      simp only [Value.slice.injEq, true_and] at e
      obtain ⟨rfl, rfl⟩ := e
      have hc2 := (hx.cell (p := ⟨b, o + k, none⟩) hb).trans hc
      have hXi : ((X.size : Int) == 32) = true := by simp; omega
      clear hc
      replace hX := Lib.hid hX
      go_wp2_with fail
      go_roundw
      case rel => exact ⟨k + 1, by omega, by go_num, hx⟩
      case measure => simp [intOf]; omega
    · obtain rfl : k = M := by omega
      go_wp2_with fail
      refine (h59.out _).mono ?_; rintro e w3 ⟨rfl, x3⟩
      go_wp2_with fail
      refine (h59'.out _).mono ?_; rintro e w4 ⟨rfl, x4⟩
      go_wp2_with fail
      refine (h59.out _).mono ?_; rintro e w5 ⟨rfl, x5⟩
      go_wp2_with fail
      refine (h59s.out _).mono ?_; rintro e w6 ⟨rfl, x6⟩
      go_wp2_with fail
      go_ret
      exact ⟨rfl, ((((y2.trans hx).trans x3).trans x4).trans x5).trans x6⟩

theorem pageNeed_walk (s : ByteArray) (n m : Int) (hs : s.size ≤ maxLen) (_hz : s.size ≤ 140737488351232) (_hn : -9223372036854775808 ≤ n ∧ n ≤ 9223372036854775807) (_hm : -9223372036854775808 ≤ m ∧ m ≤ 9223372036854775807) (w : World) :
    Calls Try.prog 17 #[.string s, .int .i64 n, .int .i64 m] w fun e w' => e = .returned (.bool true) ∧ Ext w w' := by
  by_cases h : 1000 < (s.size : Int) ∨ n < 0 ∨ m < n ∨ 1000000 < m
  · exact pageNeed_long w s n m hs h
  · exact pageNeed_short w s n m (by omega) (by omega) (by omega) (by omega)

end Go.Proofs.Ytehidhcpdiameaa
