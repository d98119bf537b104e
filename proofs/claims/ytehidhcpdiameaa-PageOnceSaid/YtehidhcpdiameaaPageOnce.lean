/- The statement PageOnce: the law's own walk. -/
import Derived.Test.YtehidhcpdiameaaPageTells
namespace Go.Proofs.Ytehidhcpdiameaa
open Go.RowKit

theorem pageOnce_long (w : World) (xs ys : List ByteArray) (u v : Value) (hu : Sl w u (xs.map strV)) (hv : Sl w v (ys.map strV)) (h : Page.small xs = false ∨ Page.small ys = false) :
    Calls Try.prog 15 #[u, v] w fun e w' => e = .returned (.bool true) ∧ Ext w w' := by
  have h52 := fun w h => small_any xs u w h
  have h52' := fun w h => small_any ys v w h
  replace hu := Lib.hid hu; replace hv := Lib.hid hv
  cases h1 : Page.small xs with
  | false =>
    rw [h1] at h52
    replace h52 := Lib.hid h52; replace h52' := Lib.hid h52'
    clear h h1
    go_enter Try.func15, Try.ntmps15
    go_wp2_with fail
    refine (fixed11 _).mono ?_; rintro e w1 ⟨rfl, x1⟩
    go_wp2_with fail
    refine (h52.out _ (hu.out.ext x1)).mono ?_; rintro e w2 ⟨rfl, x2⟩
    go_wp2_with fail
    refine (fixed11 _).mono ?_; rintro e w3 ⟨rfl, x3⟩
    go_wp2_with fail
    go_ret
    exact ⟨rfl, (x1.trans x2).trans x3⟩
  | true =>
    have h2 : Page.small ys = false := by rcases h with h | h; rw [h1] at h; cases h; exact h
    rw [h1] at h52
    rw [h2] at h52'
    replace h52 := Lib.hid h52; replace h52' := Lib.hid h52'
    clear h h1 h2
    go_enter Try.func15, Try.ntmps15
    go_wp2_with fail
    refine (fixed11 _).mono ?_; rintro e w1 ⟨rfl, x1⟩
    go_wp2_with fail
    refine (h52.out _ (hu.out.ext x1)).mono ?_; rintro e w2 ⟨rfl, x2⟩
    go_wp2_with fail
    refine (h52'.out _ (hv.out.ext (x1.trans x2))).mono ?_; rintro e w3 ⟨rfl, x3⟩
    go_wp2_with fail
    refine (fixed11 _).mono ?_; rintro e w4 ⟨rfl, x4⟩
    go_wp2_with fail
    go_ret
    exact ⟨rfl, ((x1.trans x2).trans x3).trans x4⟩

set_option maxRecDepth 100000 in
set_option maxHeartbeats 8000000 in
theorem pageOnce_short (w : World) (xs ys : List ByteArray) (u v : Value) (hu : Sl w u (xs.map strV)) (hv : Sl w v (ys.map strV)) (h1 : Page.small xs = true) (h2 : Page.small ys = true) :
    Calls Try.prog 15 #[u, v] w fun e w' => e = .returned (.bool true) ∧ Ext w w' := by
  obtain ⟨g1, g2, _⟩ := small_of h1
  obtain ⟨g3, g4, _⟩ := small_of h2
  have h52 := fun w h => small_any xs u w h
  have h52' := fun w h => small_any ys v w h
  rw [h1] at h52
  rw [h2] at h52'
  have h54 := fun w h => pageOpen_any xs u w h (by omega)
  have h54' := fun w h => pageOpen_any ys v w h (by omega)
  have o1 := Page.opn_spec (bts xs)
  have o2 := Page.opn_spec (bts ys)
  obtain ⟨a, c, rfl, hc1, hc2, _⟩ := id hu
  obtain ⟨a2, c2, rfl, hc3, hc4, _⟩ := id hv
  rw [List.length_map] at hu hv hc1 hc3 h52 h52' h54 h54' ⊢
  rw [List.length_map]
  have hb := bts_length xs
  have hb2 := bts_length ys
  replace h52 := Lib.hid h52; replace h52' := Lib.hid h52'; replace hu := Lib.hid hu; replace hv := Lib.hid hv
  clear h1 h2
  rcases o1 with ⟨o1, _⟩ | ⟨T1, o1, p1, q1⟩
  · rw [o1, opened_no] at h54
    unfold opened at h54'
    generalize Page.opn (bts ys) = t at *
    obtain ⟨T2, b2⟩ := t
    dsimp only at h54'
    replace h54 := Lib.hid h54; replace h54' := Lib.hid h54'
    clear o1 o2
    go_enter Try.func15, Try.ntmps15
    go_wp2_with fail
    refine (fixed11 _).mono ?_; rintro e w1 ⟨rfl, x1⟩
    go_wp2_with fail
    refine (h52.out _ (hu.out.ext x1)).mono ?_; rintro e w2 ⟨rfl, x2⟩
    go_wp2_with fail
    refine (h52'.out _ (hv.out.ext (x1.trans x2))).mono ?_; rintro e w3 ⟨rfl, x3⟩
    have y3 := Lib.hid ((x1.trans x2).trans x3)
    go_wp2_with fail
    refine (h54.out _ (hu.out.ext y3.out)).mono ?_; rintro e w4 ⟨rfl, x4⟩
    have y4 := Lib.hid (y3.out.trans x4)
    go_wp2_with fail
    refine (h54'.out _ (hv.out.ext y4.out)).mono ?_; rintro e w5 ⟨rfl, x5⟩
    go_wp2_with fail
    go_ret
    exact ⟨rfl, y4.out.trans x5⟩
  · rw [o1, opened_yes] at h54
    have hT1 : (str T1).size ≤ 12000 := by
      rw [str_size]
      have hb := Page.body_of T1 (bts xs) p1
      have hl := congrArg List.length hb
      rw [List.length_take, List.length_drop] at hl
      have h3 := (List.take_append_drop (Page.lay T1).length (bts xs))
      have h4 : ((bts xs).take (Page.lay T1).length).flatten.length ≤ (bts xs).flatten.length := by
        conv => rhs; rw [← h3, List.flatten_append, List.length_append]
        omega
      omega
    have h57 := lay_any (str T1) (by omega)
    rw [list_str] at h57
    have hM : (Page.lay T1).length ≤ xs.length := by have := p1.length_le; omega
    have htk : (Page.lay T1).map str = xs.take (Page.lay T1).length := by
      rw [map_str_eq, bts_take]; exact List.prefix_iff_eq_take.1 p1
    have h56 := sameTexts_any ((Page.lay T1).map str) (xs.take (Page.lay T1).length)
    rw [decide_eq_true htk] at h56
    have h56' := sameTexts_any ((Page.lay T1).map str) (ys.take (Page.lay T1).length)
    have hpy : decide ((Page.lay T1).map str = ys.take (Page.lay T1).length) = decide (Page.lay T1 <+: bts ys) := by
      rw [decide_eq_decide, map_str_eq, bts_take, List.prefix_iff_eq_take]
    rw [hpy] at h56'
    have hst : ((Page.lay T1).map str).map strV = strs (Page.lay T1) := rfl
    rw [hst] at h56 h56'
    have hsl := strs_length (Page.lay T1)
    have hMi : ((Page.lay T1).length : Int) ≤ xs.length := by omega
    have hpl : Page.lay T1 <+: bts ys → (Page.lay T1).length ≤ ys.length := fun hp => by have := hp.length_le; omega
    have hsame : ∀ T2, Page.opn (bts ys) = (T2, true) → Page.lay T2 <+: bts ys → (Page.lay T1 <+: bts ys ↔ T1 = T2) := fun T2 e hp => by
      constructor
      · intro h
        rw [Page.opn_prefix T1 _ q1 h] at e
        simpa using e
      · intro h; rw [h]; exact hp
    have hts : ∀ w', Ext w w' → Sl w' (.slice a (Page.lay T1).length c) ((xs.take (Page.lay T1).length).map strV) := fun w' xw => by
      rw [List.map_take]; exact Sl.take (hu.out.ext xw) hM
    generalize hL : Page.lay T1 = L at *
    generalize hm : L.length = M at *
    replace h56 := Lib.hid h56; replace h57 := Lib.hid h57; replace h54 := Lib.hid h54; replace hL := Lib.hid hL; replace hm := Lib.hid hm; replace hsl := Lib.hid hsl; replace hts := Lib.hid hts; replace hst := Lib.hid hst; replace htk := Lib.hid htk; replace hpy := Lib.hid hpy
    have hMc : M ≤ c := by omega
    rcases o2 with ⟨o2, _⟩ | ⟨T2, o2, p2, q2⟩
    · rw [o2, opened_no] at h54'
      replace h54' := Lib.hid h54'
      clear hsame hpl h56' o1 o2 p1
      go_enter Try.func15, Try.ntmps15
      go_wp2_with fail
      refine (fixed11 _).mono ?_; rintro e w1 ⟨rfl, x1⟩
      go_wp2_with fail
      refine (h52.out _ (hu.out.ext x1)).mono ?_; rintro e w2 ⟨rfl, x2⟩
      go_wp2_with fail
      refine (h52'.out _ (hv.out.ext (x1.trans x2))).mono ?_; rintro e w3 ⟨rfl, x3⟩
      have y3 := Lib.hid ((x1.trans x2).trans x3)
      go_wp2_with fail
      refine (h54.out _ (hu.out.ext y3.out)).mono ?_; rintro e w4 ⟨rfl, x4⟩
      have y4 := Lib.hid (y3.out.trans x4)
      go_wp2_with fail
      refine (h54'.out _ (hv.out.ext y4.out)).mono ?_; rintro e w5 ⟨rfl, x5⟩
      have y5 := Lib.hid (y4.out.trans x5)
      go_wp2_with fail
      refine (h57.out _).mono ?_; rintro e w6 ⟨v6, rfl, l6, x6⟩
      obtain ⟨a6, c6, e6, _, hc6, _⟩ := id l6
      rw [hsl.out] at e6
      subst e6
      replace l6 := Lib.hid l6
      have y6 := Lib.hid (y5.out.trans x6)
      go_wp2_with fail
      refine (h56.out _ _ _ l6.out (hts.out _ y6.out)).mono ?_; rintro e w7 ⟨rfl, x7⟩
      go_wp2_with fail
      go_ret
      exact ⟨rfl, y6.out.trans x7⟩
    · rw [o2, opened_yes] at h54'
      have hiff := hsame T2 o2 p2
      have hS : ((str T1).toList == (str T2).toList) = decide (L <+: bts ys) := by
        rw [toList_str, toList_str, Bool.eq_iff_iff, beq_iff_eq, decide_eq_true_iff]
        exact hiff.symm
      replace h54' := Lib.hid h54'
      clear hsame o1 o2 p1 hiff
      by_cases hMy : M ≤ ys.length
      · have hmin : min (M : Int) ys.length = M := by omega
        have hMyi : (M : Int) ≤ ys.length := by omega
        have hMc2 : M ≤ c2 := by omega
        have hty : ∀ w', Ext w w' → Sl w' (.slice a2 M c2) ((ys.take M).map strV) := fun w' xw => by
          rw [List.map_take]; exact Sl.take (hv.out.ext xw) hMy
        generalize decide (L <+: bts ys) = bd at *
        have hbb : (bd == bd) = true := beq_self_eq_true _
        replace h56' := Lib.hid h56'; replace hty := Lib.hid hty
        clear hpl
        go_enter Try.func15, Try.ntmps15
        go_wp2_with fail
        refine (fixed11 _).mono ?_; rintro e w1 ⟨rfl, x1⟩
        go_wp2_with fail
        refine (h52.out _ (hu.out.ext x1)).mono ?_; rintro e w2 ⟨rfl, x2⟩
        go_wp2_with fail
        refine (h52'.out _ (hv.out.ext (x1.trans x2))).mono ?_; rintro e w3 ⟨rfl, x3⟩
        have y3 := Lib.hid ((x1.trans x2).trans x3)
        go_wp2_with fail
        refine (h54.out _ (hu.out.ext y3.out)).mono ?_; rintro e w4 ⟨rfl, x4⟩
        have y4 := Lib.hid (y3.out.trans x4)
        go_wp2_with fail
        refine (h54'.out _ (hv.out.ext y4.out)).mono ?_; rintro e w5 ⟨rfl, x5⟩
        have y5 := Lib.hid (y4.out.trans x5)
        go_wp2_with fail
        refine (h57.out _).mono ?_; rintro e w6 ⟨v6, rfl, l6, x6⟩
        obtain ⟨a6, c6, e6, _, hc6, _⟩ := id l6
        rw [hsl.out] at e6
        subst e6
        replace l6 := Lib.hid l6
        have y6 := Lib.hid (y5.out.trans x6)
        go_wp2_with fail
        refine (h56.out _ _ _ l6.out (hts.out _ y6.out)).mono ?_; rintro e w7 ⟨rfl, x7⟩
        have y7 := Lib.hid (y6.out.trans x7)
        go_wp2_with fail
        refine (h56'.out _ _ _ (l6.out.ext x7) (hty.out _ y7.out)).mono ?_; rintro e w8 ⟨rfl, x8⟩
        go_wp2_with fail
        go_ret
        exact ⟨rfl, y7.out.trans x8⟩
      · have hno : decide (L <+: bts ys) = false := decide_eq_false fun hp => hMy (hpl hp)
        rw [hno] at hS
        have hMyi : ¬ (M : Int) ≤ ys.length := by omega
        clear hpl h56' hno
        go_enter Try.func15, Try.ntmps15
        go_wp2_with fail
        refine (fixed11 _).mono ?_; rintro e w1 ⟨rfl, x1⟩
        go_wp2_with fail
        refine (h52.out _ (hu.out.ext x1)).mono ?_; rintro e w2 ⟨rfl, x2⟩
        go_wp2_with fail
        refine (h52'.out _ (hv.out.ext (x1.trans x2))).mono ?_; rintro e w3 ⟨rfl, x3⟩
        have y3 := Lib.hid ((x1.trans x2).trans x3)
        go_wp2_with fail
        refine (h54.out _ (hu.out.ext y3.out)).mono ?_; rintro e w4 ⟨rfl, x4⟩
        have y4 := Lib.hid (y3.out.trans x4)
        go_wp2_with fail
        refine (h54'.out _ (hv.out.ext y4.out)).mono ?_; rintro e w5 ⟨rfl, x5⟩
        have y5 := Lib.hid (y4.out.trans x5)
        go_wp2_with fail
        refine (h57.out _).mono ?_; rintro e w6 ⟨v6, rfl, l6, x6⟩
        obtain ⟨a6, c6, e6, _, hc6, _⟩ := id l6
        rw [hsl.out] at e6
        subst e6
        replace l6 := Lib.hid l6
        have y6 := Lib.hid (y5.out.trans x6)
        go_wp2_with fail
        refine (h56.out _ _ _ l6.out (hts.out _ y6.out)).mono ?_; rintro e w7 ⟨rfl, x7⟩
        go_wp2_with fail
        go_ret
        exact ⟨rfl, y6.out.trans x7⟩

theorem pageOnce_walk (w : World) (xs : List ByteArray) (u : Value) (ys : List ByteArray) (v : Value) (hu : TextsIn w u xs) (hv : TextsIn w v ys) :
    Calls Try.prog 15 #[u, v] w fun e w' => e = .returned (.bool true) ∧ Ext w w' := by
  cases h1 : Page.small xs with
  | false => exact pageOnce_long w xs ys u v hu.1 hv.1 (.inl h1)
  | true =>
    cases h2 : Page.small ys with
    | false => exact pageOnce_long w xs ys u v hu.1 hv.1 (.inr h2)
    | true => exact pageOnce_short w xs ys u v hu.1 hv.1 h1 h2

end Go.Proofs.Ytehidhcpdiameaa
