/- The statement PageTells: the law's own walk. -/
import Derived.Test.YtehidhcpdiameaaPageFixed
import Derived.Test.YtehidhcpdiameaaSlAppend
namespace Go.Proofs.Ytehidhcpdiameaa
open Go.RowKit

/-- what is known of a list of texts that came in. -/
def TextsIn (w : World) (v : Value) (xs : List ByteArray) : Prop := Sl w v (xs.map strV) ∧ 16 * xs.length ≤ 140737488351232 ∧ (∀ x ∈ xs, x.size ≤ maxLen) ∧ NilOr v

theorem flat_small : ∀ (l : List (List UInt8)), (∀ x ∈ l, x.length ≤ 200) → l.flatten.length ≤ 200 * l.length
  | [], _ => by simp
  | x :: l, h => by
    rw [List.flatten_cons, List.length_append, List.length_cons]
    have h1 := flat_small l (fun y hy => h y (List.mem_cons_of_mem _ hy))
    have h2 := h x (by simp)
    omega
theorem small_of {xs : List ByteArray} (h : Page.small xs = true) : xs.length ≤ 60 ∧ (bts xs).flatten.length ≤ 12000 ∧ ∀ x ∈ xs, x.size ≤ 200 := by
  unfold Page.small at h
  simp only [Bool.and_eq_true, decide_eq_true_eq, List.all_eq_true] at h
  refine ⟨h.2, ?_, h.1⟩
  have := flat_small (bts xs) (fun x hx => by
    obtain ⟨y, hy, rfl⟩ := List.mem_map.1 hx
    rw [size_list]
    exact h.1 y hy)
  rw [bts_length] at this
  omega

theorem pageTells_long (w : World) (s : ByteArray) (xs : List ByteArray) (v : Value) (n : Int) (hl : Sl w v (xs.map strV)) (h : 2000 < (s.size : Int) ∨ Page.small xs = false) :
    Calls Try.prog 13 #[.string s, v, .int .i64 n] w fun e w' => e = .returned (.bool true) ∧ Ext w w' := by
  by_cases h1 : 2000 < (s.size : Int)
  · clear h
    go_enter Try.func13, Try.ntmps13
    go_wp2_with fail
    refine (fixed11 _).mono ?_; rintro e w1 ⟨rfl, x1⟩
    go_wp2_with fail
    go_ret
    exact ⟨rfl, x1⟩
  · have hd1 : decide ((2000 : Int) < s.size) = false := decide_eq_false h1
    have h2 : Page.small xs = false := by rcases h with h | h; exact absurd h h1; exact h
    have h52 := small_any xs v w hl
    rw [h2] at h52
    replace h52 := Lib.hid h52
    clear h h2
    go_enter Try.func13, Try.ntmps13
    go_wp2_with fail
    refine h52.out.mono ?_; rintro e w0 ⟨rfl, x0⟩
    go_wp2_with fail
    refine (fixed11 _).mono ?_; rintro e w1 ⟨rfl, x1⟩
    go_wp2_with fail
    go_ret
    exact ⟨rfl, x0.trans x1⟩

set_option maxRecDepth 100000 in
set_option maxHeartbeats 4000000 in
theorem pageTells_short (w : World) (s : ByteArray) (xs : List ByteArray) (v : Value) (n : Int) (hs : s.size ≤ 2000) (hl : Sl w v (xs.map strV)) (h : Page.small xs = true) :
    Calls Try.prog 13 #[.string s, v, .int .i64 n] w fun e w' => e = .returned (.bool true) ∧ Ext w w' := by
  obtain ⟨g1, g2, _⟩ := small_of h
  have h52 := small_any xs v w hl
  have h54 := fun w h => pageOpen_any xs v w h (by omega)
  have h55 := fun w h => refPageOpen_any xs v w h (by omega) (by omega)
  have h57 := lay_any s (by omega)
  have h58 := refLay_any s (by omega)
  have h56 := sameTexts_any ((Page.lay s.data.toList).map str) ((Page.lay s.data.toList).map str)
  have h59 := need_any n
  have h60 := refNeed_any n
  rw [show ((Page.lay s.data.toList).map str).map strV = strs (Page.lay s.data.toList) from rfl, decide_eq_true rfl] at h56
  rw [h] at h52
  unfold opened at h54 h55
  generalize Page.opn (bts xs) = t at *
  obtain ⟨T, b⟩ := t
  dsimp only at h54 h55
  have e1 : (b == b) = true := beq_self_eq_true _
  have e2 : ((str T).toList == (str T).toList) = true := beq_self_eq_true _
  generalize str T = S at *
  generalize Page.lay s.data.toList = L at *
  generalize Page.need n = N at *
  have hd1 : decide ((2000 : Int) < s.size) = false := decide_eq_false (by omega)
  replace h52 := Lib.hid h52; replace h54 := Lib.hid h54; replace h55 := Lib.hid h55; replace h56 := Lib.hid h56; replace h57 := Lib.hid h57; replace h58 := Lib.hid h58; replace h59 := Lib.hid h59; replace h60 := Lib.hid h60; replace hl := Lib.hid hl; replace h := Lib.hid h
  go_enter Try.func13, Try.ntmps13
  go_wp2_with fail
  refine h52.out.mono ?_; rintro e w0 ⟨rfl, x0⟩
  go_wp2_with fail
  refine (h54.out _ (hl.out.ext x0)).mono ?_; rintro e w1 ⟨rfl, x1⟩
  go_wp2_with fail
  refine (h55.out _ (hl.out.ext (x0.trans x1))).mono ?_; rintro e w2 ⟨rfl, x2⟩
  go_wp2_with fail
  refine (fixed11 _).mono ?_; rintro e w3 ⟨rfl, x3⟩
  go_wp2_with fail
  refine (h57.out _).mono ?_; rintro e w4 ⟨v4, rfl, l4, x4⟩
  replace l4 := Lib.hid l4
  go_wp2_with fail
  refine (h58.out _).mono ?_; rintro e w5 ⟨v5, rfl, l5, x5⟩
  replace l5 := Lib.hid l5
  go_wp2_with fail
  refine (h56.out _ _ _ (l4.out.ext x5) l5.out).mono ?_; rintro e w6 ⟨rfl, x6⟩
  go_wp2_with fail
  refine (h59.out _).mono ?_; rintro e w7 ⟨rfl, x7⟩
  go_wp2_with fail
  refine (h60.out _).mono ?_; rintro e w8 ⟨rfl, x8⟩
  go_wp2_with fail
  go_ret
  exact ⟨rfl, (((((((x0.trans x1).trans x2).trans x3).trans x4).trans x5).trans x6).trans x7).trans x8⟩

theorem pageTells_walk (w : World) (s : ByteArray) (xs : List ByteArray) (v : Value) (n : Int) (_hs : s.size ≤ maxLen) (_hz : s.size ≤ 140737488351232) (hl : TextsIn w v xs) (_hn : -9223372036854775808 ≤ n ∧ n ≤ 9223372036854775807) :
    Calls Try.prog 13 #[.string s, v, .int .i64 n] w fun e w' => e = .returned (.bool true) ∧ Ext w w' := by
  by_cases h : 2000 < (s.size : Int) ∨ Page.small xs = false
  · exact pageTells_long w s xs v n hl.1 h
  · exact pageTells_short w s xs v n (by omega) hl.1 (by
      cases hb : Page.small xs with
      | true => rfl
      | false => exact absurd (.inr hb) h)

end Go.Proofs.Ytehidhcpdiameaa
