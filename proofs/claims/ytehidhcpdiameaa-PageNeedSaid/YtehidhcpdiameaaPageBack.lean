/- The statement PageBack: the law's own walk. -/
import Derived.Test.YtehidhcpdiameaaPageTells
namespace Go.Proofs.Ytehidhcpdiameaa
open Go.RowKit

namespace Page
/-- with a sector less it is not opened. -/
theorem opn_less (s : List UInt8) (m : Nat) (hs : s.length < Wire.lim) (hm : m < (lay s).length) : opn ((lay s).take m) = ([], false) :=
  opn_false _ fun s' hs' hp => by
    have h1 : lay s' <+: lay s := hp.trans (List.take_prefix _ _)
    have h2 := opn_prefix s' (lay s) hs' h1
    have h3 := opn_prefix s (lay s) hs (List.prefix_refl _)
    rw [h2] at h3
    simp only [Prod.mk.injEq, and_true] at h3
    subst h3
    have := hp.length_le
    rw [List.length_take] at this
    omega
theorem lay_need (s : ByteArray) (h : s.size ≤ 1000000) : need (s.size : Int) = ((lay s.data.toList).length : Int) := by
  unfold need
  rw [if_neg (by omega), lay_length, sealed_length, size_list, Int.toNat_natCast]
end Page

theorem pageBack_long (w : World) (s : ByteArray) (ys : List ByteArray) (v : Value) (hl : Sl w v (ys.map strV)) (h : 2000 < (s.size : Int) ∨ Page.small ys = false) :
    Calls Try.prog 14 #[.string s, v] w fun e w' => e = .returned (.bool true) ∧ Ext w w' := by
  by_cases h1 : 2000 < (s.size : Int)
  · clear h
    go_enter Try.func14, Try.ntmps14
    go_wp2_with fail
    refine (fixed11 _).mono ?_; rintro e w1 ⟨rfl, x1⟩
    go_wp2_with fail
    refine (fixed11 _).mono ?_; rintro e w2 ⟨rfl, x2⟩
    go_wp2_with fail
    go_ret
    exact ⟨rfl, x1.trans x2⟩
  · have hd1 : decide ((2000 : Int) < s.size) = false := decide_eq_false h1
    have h2 : Page.small ys = false := by rcases h with h | h; exact absurd h h1; exact h
    have h52 := fun w h => small_any ys v w h
    rw [h2] at h52
    replace h52 := Lib.hid h52; replace hl := Lib.hid hl
    clear h h2
    go_enter Try.func14, Try.ntmps14
    go_wp2_with fail
    refine (fixed11 _).mono ?_; rintro e w1 ⟨rfl, x1⟩
    go_wp2_with fail
    refine (h52.out _ (hl.out.ext x1)).mono ?_; rintro e w0 ⟨rfl, x0⟩
    go_wp2_with fail
    refine (fixed11 _).mono ?_; rintro e w2 ⟨rfl, x2⟩
    go_wp2_with fail
    go_ret
    exact ⟨rfl, (x1.trans x0).trans x2⟩

set_option maxRecDepth 100000 in
set_option maxHeartbeats 4000000 in
theorem pageBack_short (w : World) (s : ByteArray) (ys : List ByteArray) (v : Value) (hs : s.size ≤ 2000) (hl : Sl w v (ys.map strV)) (hv : NilOr v) (h : Page.small ys = true) :
    Calls Try.prog 14 #[.string s, v] w fun e w' => e = .returned (.bool true) ∧ Ext w w' := by
  obtain ⟨g1, g2, _⟩ := small_of h
  have h52 := fun w h => small_any ys v w h
  rw [h] at h52
  have h57 := lay_any s (by omega)
  have hL := Page.lay_pos s.data.toList
  have hlim : (1099511627776 : Nat) = Wire.lim := rfl
  have hop := Page.opn_lay s.data.toList (bts ys) (by rw [size_list, ← hlim]; omega)
  have hless := Page.opn_less s.data.toList ((Page.lay s.data.toList).length - 1) (by rw [size_list, ← hlim]; omega) (by omega)
  have hneed := Page.lay_need s (by omega)
  have h59 := need_any (s.size : Int)
  rw [hneed] at h59
  have hbig : (Page.lay s.data.toList).length ≤ 100 := by
    rw [Page.lay_length]; have := Page.sealed_size s; unfold Page.secs; omega
  generalize Page.lay s.data.toList = L at *
  obtain ⟨m, hm⟩ : ∃ m, L.length = m + 1 := ⟨L.length - 1, by omega⟩
  rw [hm, Nat.add_sub_cancel] at hless
  have h54 := fun v w h => pageOpen_any (L.map str ++ ys) v w h (by rw [List.length_append, List.length_map]; omega)
  have h54' := fun v w h => pageOpen_any ((L.take m).map str) v w h (by rw [List.length_map, List.length_take]; omega)
  have e1 : bts (L.map str ++ ys) = L ++ bts ys := by
    have := bts_str L
    unfold bts at this ⊢
    rw [List.map_append, this]
  rw [e1, hop] at h54
  rw [bts_str, hless, opened_no] at h54'
  rw [show opened (s.data.toList, true) = .tuple #[.string s, .bool true] from by unfold opened; rw [str_list]] at h54
  have e2 : (L.map str ++ ys).map strV = strs L ++ ys.map strV := by rw [List.map_append]; rfl
  have e3 : ((L.take m).map str).map strV = (strs L).take m := by unfold strs; rw [List.map_take, List.map_take]
  rw [e2] at h54
  rw [e3] at h54'
  have hsl : (strs L).length = m + 1 := by rw [strs_length, hm]
  rw [hm] at h59
  have hyl : (ys.map strV).length = ys.length := List.length_map _
  have eq1 : (s.toList == s.toList) = true := beq_self_eq_true _
  have hd1 : decide ((2000 : Int) < s.size) = false := decide_eq_false (by omega)
  obtain ⟨i0, hi, hz0, hz1, hz2⟩ := info_parts info9
  have one1 : ∀ y ∈ strs L, y.oneCell' = true := fun y hy => by
    unfold strs at hy
    obtain ⟨z, _, rfl⟩ := List.mem_map.1 hy
    rfl
  have one2 : ∀ y ∈ ys.map strV, y.oneCell' = true := fun y hy => by
    obtain ⟨z, _, rfl⟩ := List.mem_map.1 hy
    rfl
  replace h52 := Lib.hid h52; replace h54 := Lib.hid h54; replace h54' := Lib.hid h54'; replace h57 := Lib.hid h57; replace h59 := Lib.hid h59; replace hl := Lib.hid hl; replace h := Lib.hid h; replace hsl := Lib.hid hsl
  replace one1 := Lib.hid one1; replace one2 := Lib.hid one2; replace hyl := Lib.hid hyl; replace hm := Lib.hid hm; replace e1 := Lib.hid e1; replace e2 := Lib.hid e2; replace e3 := Lib.hid e3; replace hop := Lib.hid hop; replace hless := Lib.hid hless; replace hneed := Lib.hid hneed
  have hmb : m ≤ 100 := by have := hm.out; omega
  replace hv := Lib.hid hv
  go_enter Try.func14, Try.ntmps14
  go_wp2_with fail
  refine (fixed11 _).mono ?_; rintro e w1 ⟨rfl, x1⟩
  go_wp2_with fail
  refine (h52.out _ (hl.out.ext x1)).mono ?_; rintro e w2 ⟨rfl, x2⟩
  go_wp2_with fail
  refine (h57.out _).mono ?_; rintro e w3 ⟨v3, rfl, l3, x3⟩
  have n3 : NilOr v3 := l3.nilOr (by intro e; have := hsl.out; rw [e] at this; simp at this)
  have y3 := (x1.trans x2).trans x3
  obtain ⟨a3, c3, e3', hlc3, hc3, _⟩ := id l3
  rw [hsl.out] at e3' hlc3
  subst e3'
  replace l3 := Lib.hid l3; replace n3 := Lib.hid n3
  clear x1 x2 x3
  go_wp2_with (at_builtin; refine wpList_append_sl (a0 := w3) rfl _ _ 55 rfl w3.heap.size 9 i0 (.string ByteArray.empty) 16 Try.underlying55 hi hz0 hz1 hz2 rfl _ 0 [] rfl (ownsRow_fresh _ _ _) _ (strs L) rfl (l3.out.ext ((Ext.refl _).alloc _)) n3.out one1.out ?c1 ?c2 (Nat.le_refl _) ?c3 ((Ext.refl _).alloc _) ?_)
  case c1 => rw [hsl.out]; unfold maxLen; omega
  case c2 => rw [hsl.out]; omega
  case c3 => simp
  intro v4 w4 hown4 y4
  rw [hsl.out] at hown4
  go_wp2_with (at_builtin; refine wpList_append_sl (a0 := w3) rfl _ _ 55 rfl w3.heap.size 9 i0 (.string ByteArray.empty) 16 Try.underlying55 hi hz0 hz1 hz2 rfl _ (m + 1) (strs L) rfl hown4 _ (ys.map strV) rfl (hl.out.ext (y3.trans y4)) hv.out one2.out ?d1 ?d2 (Nat.le_refl _) y4.size y4 ?_)
  case d1 => rw [hyl.out]; unfold maxLen; omega
  case d2 => rw [hyl.out]; omega
  intro v5 w5 hown5 y5
  have l5 := Lib.hid (Sl.owned hown5)
  clear hown4 hown5 y4
  go_wp2_with fail
  refine (h54.out _ _ l5.out).mono ?_; rintro e w6 ⟨rfl, x6⟩
  have y6 := y5.trans x6
  clear y5 x6
  go_wp2_with fail
  have l7 : Sl w6 (.slice a3 m c3) ((strs L).take m) := Sl.take (l3.out.ext y6) (by omega)
  replace l7 := Lib.hid l7
  refine (h54'.out _ _ l7.out).mono ?_; rintro e w7 ⟨rfl, x7⟩
  go_wp2_with fail
  refine (h59.out _).mono ?_; rintro e w8 ⟨rfl, x8⟩
  go_wp2_with fail
  go_ret
  exact ⟨rfl, ((y3.trans y6).trans x7).trans x8⟩

theorem pageBack_walk (w : World) (s : ByteArray) (ys : List ByteArray) (v : Value) (_hs : s.size ≤ maxLen) (_hz : s.size ≤ 140737488351232) (hl : TextsIn w v ys) :
    Calls Try.prog 14 #[.string s, v] w fun e w' => e = .returned (.bool true) ∧ Ext w w' := by
  by_cases h : 2000 < (s.size : Int) ∨ Page.small ys = false
  · exact pageBack_long w s ys v hl.1 h
  · exact pageBack_short w s ys v (by omega) hl.1 hl.2.2.2 (by
      cases hb : Page.small ys with
      | true => rfl
      | false => exact absurd (.inr hb) h)

end Go.Proofs.Ytehidhcpdiameaa
