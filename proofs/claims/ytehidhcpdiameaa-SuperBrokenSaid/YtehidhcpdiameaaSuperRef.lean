/- The walks of layer 12, on: what a sector opens to, of the reference. -/
import Derived.Test.YtehidhcpdiameaaSuperOpen
namespace Go.Proofs.Ytehidhcpdiameaa
open Go.RowKit

set_option maxRecDepth 100000 in
/-- nothing is read in it, or no list, or not of three. -/
theorem refSuperOpen_list (s T : ByteArray) (pb : Bool) (l : List Int) (q : Int) (bb : Bool) (w : World) (h54 : ∀ v w, Sl w v ([s].map strV) → Calls Try.prog 55 #[v] w fun e w' => e = .returned (.tuple #[.string T, .bool pb]) ∧ Ext w w')
    (h43 : ∀ w, Calls Try.prog 44 #[.string T, .int .i64 0] w (TookInts w (l, q, bb))) (hb : pb = false ∨ pb = true ∧ bb = false ∨ pb = true ∧ bb = true ∧ l.length ≠ 3) :
    Calls Try.prog 84 #[.string s] w fun e w' => e = .returned (.tuple #[.agg #[.int .i64 0, .int .i64 0, .int .i64 0], .bool false]) ∧ Ext w w' := by
  have hs1 := sl_one (w.alloc (.cells #[.int .i64 0, .int .i64 0, .int .i64 0] 94)) s 9
  rw [show (w.alloc (.cells #[.int .i64 0, .int .i64 0, .int .i64 0] 94)).heap.size = w.heap.size + 1 from by simp] at hs1
  have hbox := (Box3.new w (.int .i64 0) (.int .i64 0) (.int .i64 0) 94).ext ((Ext.refl _).alloc (.cells #[.string s] 9))
  have y0 : Ext w ((w.alloc (.cells #[.int .i64 0, .int .i64 0, .int .i64 0] 94)).alloc (.cells #[.string s] 9)) := ((Ext.refl w).alloc _).alloc _
  replace h54 := Lib.hid h54; replace hs1 := Lib.hid hs1; replace h43 := Lib.hid h43
  have hcase : (∃ _ : pb = false, True) ∨ (∃ (_ : pb = true), bb = false) ∨ (∃ (_ : pb = true) (_ : bb = true), ((l.length : Int) != 3) = true) := by
    rcases hb with h | ⟨h, h2⟩ | ⟨h, h2, h3⟩
    · exact .inl ⟨h, trivial⟩
    · exact .inr (.inl ⟨h, h2⟩)
    · exact .inr (.inr ⟨h, h2, by simp; omega⟩)
  rcases hcase with ⟨rfl, _⟩ | ⟨rfl, rfl⟩ | ⟨rfl, rfl, hli⟩
  all_goals
    go_enter Try.func84, Try.ntmps84
    go_wp2_with fail
    refine (h54.out _ _ hs1.out).mono ?_; rintro e w1 ⟨rfl, x1⟩
    replace hbox := Lib.hid (hbox.ext x1)
    have y1 := Lib.hid (y0.trans x1)
    clear y0 x1
    go_wp2_with fail
    refine (h43.out _).mono ?_; rintro e w2 ⟨v2, rfl, l2, x2⟩
    obtain ⟨k0, k1, k2, k3, k4, k5, k6⟩ := hbox.out.ext x2
    replace y1 := Lib.hid (y1.out.trans x2)
    obtain ⟨a2, c2, e2, hlc, hc2, _⟩ := l2
    dsimp only at e2
    rw [List.length_map] at e2
    subst e2
    clear hbox x2 hlc
    go_wp2_with fail
    refine bodyPost_ret (v := .tuple #[.agg #[.int .i64 0, .int .i64 0, .int .i64 0], .bool false]) ?_ rfl ⟨rfl, ?_⟩
    · simp [results, Try.results84, go_sem, k1, k2, k3]
    · exact ((y1.out.below.setCell (Nat.le_refl _) _).setCell (Nat.le_refl _) _).setCell (Nat.le_refl _) _

set_option maxRecDepth 100000 in
set_option maxHeartbeats 8000000 in
/-- three numbers are read in it. -/
theorem refSuperOpen_three (s T L : ByteArray) (g a z q : Int) (w : World) (h54 : ∀ v w, Sl w v ([s].map strV) → Calls Try.prog 55 #[v] w fun e w' => e = .returned (.tuple #[.string T, .bool true]) ∧ Ext w w')
    (h43 : ∀ w, Calls Try.prog 44 #[.string T, .int .i64 0] w (TookInts w ([g, a, z], q, true)))
    (h87 : ∀ w, Calls Try.prog 88 #[.agg #[.int .i64 g, .int .i64 a, .int .i64 z]] w fun e w' => e = .returned (.string L) ∧ Ext w w') :
    Calls Try.prog 84 #[.string s] w fun e w' => e = .returned (supV (if L.data.toList = [] ∨ ¬ L = s then ((0, 0, 0), false) else ((g, a, z), true))) ∧ Ext w w' := by
  have hs1 := sl_one (w.alloc (.cells #[.int .i64 0, .int .i64 0, .int .i64 0] 94)) s 9
  rw [show (w.alloc (.cells #[.int .i64 0, .int .i64 0, .int .i64 0] 94)).heap.size = w.heap.size + 1 from by simp] at hs1
  have hbox := (Box3.new w (.int .i64 0) (.int .i64 0) (.int .i64 0) 94).ext ((Ext.refl _).alloc (.cells #[.string s] 9))
  have y0 : Ext w ((w.alloc (.cells #[.int .i64 0, .int .i64 0, .int .i64 0] 94)).alloc (.cells #[.string s] 9)) := ((Ext.refl w).alloc _).alloc _
  replace h54 := Lib.hid h54; replace hs1 := Lib.hid hs1; replace h43 := Lib.hid h43; replace h87 := Lib.hid h87
  have hcase : (∃ (_ : L.toList = []), (L.toList.isEmpty = true) ∧ (if L.data.toList = [] ∨ ¬ L = s then ((0, 0, 0), false) else ((g, a, z), true) : Super.S3 × Bool) = ((0, 0, 0), false)) ∨
      (∃ bb : Bool, (L.toList.isEmpty = false) ∧ ((!(L.toList == s.toList)) = bb) ∧ (if L.data.toList = [] ∨ ¬ L = s then ((0, 0, 0), false) else ((g, a, z), true) : Super.S3 × Bool) = (if bb then ((0, 0, 0), false) else ((g, a, z), true))) := by
    by_cases h0 : L.data.toList = []
    · exact .inl ⟨by rw [toList_data]; exact h0, by rw [toList_data, h0]; rfl, by rw [if_pos (.inl h0)]⟩
    · refine .inr ?_
      have h1 : L.toList.isEmpty = false := by rw [toList_data]; cases hh : L.data.toList with
        | nil => exact absurd hh h0
        | cons _ _ => rfl
      by_cases h : L = s
      · exact ⟨false, h1, by rw [h]; simp, by rw [if_neg (by rintro (h2 | h2); exact h0 h2; exact h2 h)]; rfl⟩
      · exact ⟨true, h1, by rw [beq_false fun e => h (str_inj e)]; rfl, by rw [if_pos (.inr h)]; rfl⟩
  generalize (if L.data.toList = [] ∨ ¬ L = s then ((0, 0, 0), false) else ((g, a, z), true) : Super.S3 × Bool) = R at *
  go_enter Try.func84, Try.ntmps84
  go_wp2_with fail
  refine (h54.out _ _ hs1.out).mono ?_; rintro e w1 ⟨rfl, x1⟩
  replace hbox := Lib.hid (hbox.ext x1)
  have y1 := Lib.hid (y0.trans x1)
  clear y0 x1
  go_wp2_with fail
  refine (h43.out _).mono ?_; rintro e w2 ⟨v2, rfl, l2, x2⟩
  replace hbox := Lib.hid (hbox.out.ext x2)
  replace y1 := Lib.hid (y1.out.trans x2)
  obtain ⟨a2, c2, rfl, hlc, hc2, hcell⟩ := sl_int_at l2
  obtain ⟨b, o, rfl, hb, hc0⟩ := hcell 0 (by simp)
  obtain ⟨b', o', e1, _, hc1⟩ := hcell 1 (by simp)
  simp only [Option.some.injEq, Addr.mk.injEq, and_true] at e1
  obtain ⟨rfl, rfl⟩ := e1
  obtain ⟨b', o', e1, _, hc2'⟩ := hcell 2 (by simp)
  simp only [Option.some.injEq, Addr.mk.injEq, and_true] at e1
  obtain ⟨rfl, rfl⟩ := e1
  dsimp only at hc0 hc1 hc2'
  simp only [List.length_cons, List.length_nil, Nat.zero_add, Nat.reduceAdd, List.getElem_cons_zero, List.getElem_cons_succ, Nat.add_zero] at hc0 hc1 hc2' hlc
  clear x2 hcell l2
  have g0 : ∀ wq, Ext w2 wq → wq.cell? ⟨b, o, none⟩ = some (.int .i64 g) := fun wq xq => (xq.cell (p := ⟨b, o, none⟩) hb).trans hc0
  have g1 : ∀ wq, Ext w2 wq → wq.cell? ⟨b, o + 1, none⟩ = some (.int .i64 a) := fun wq xq => (xq.cell (p := ⟨b, o + 1, none⟩) hb).trans hc1
  have g2 : ∀ wq, Ext w2 wq → wq.cell? ⟨b, o + 2, none⟩ = some (.int .i64 z) := fun wq xq => (xq.cell (p := ⟨b, o + 2, none⟩) hb).trans hc2'
  replace g0 := Lib.hid g0; replace g1 := Lib.hid g1; replace g2 := Lib.hid g2
  clear hc0 hc1 hc2'
  replace hcase := Lib.hid hcase
  go_wp2_with fail
  refine Soft.region_ext [(10, Soft.box3 w2.heap.size)] [0, 1, 2, 3, 4, 5, 6, 7, 8, 9, 10] [11] (by kernel_rfl) (by kernel_rfl) (Soft.stab_one fun _ _ _ => Soft.box3_stab) ?_
  repeat (first | (refine Soft.pure_n rfl rfl rfl rfl (fun K hK => ?_); go_simp; refine hK _ ?_; clear hK K) | (refine Soft.quiet_n rfl rfl rfl rfl (fun K hK => ?_); go_simp; apply Exists.intro; refine ⟨fun wq hq => ?_, hK _ ?_⟩; (first | (have gg := g0.out wq hq; go_simp; with_reducible rfl) | (have gg := g1.out wq hq; go_simp; with_reducible rfl) | (have gg := g2.out wq hq; go_simp; with_reducible rfl)); clear hK K))
  refine Soft.loud_step0 rfl rfl rfl rfl (fun K hK => ?_)
  refine ⟨fun wq hq => ?_, fun u ⟨nb, hu⟩ => hK _ ?_⟩
  · go_simp
    exact ⟨(Ext.refl _).alloc _, ⟨_, rfl⟩, Soft.box3_new hq.size⟩
  clear hK K
  subst hu
  refine Soft.tail_forced [_] (by kernel_rfl) rfl (fun w3 x3 k3 => ?_)
  obtain ⟨hnb, k3⟩ := Soft.box3_at (k3.get 10 rfl rfl) rfl
  have hbx : Box nb [.int .i64 g, .int .i64 a, .int .i64 z] (((w3.setCell ⟨nb, 0, none⟩ (.int .i64 g)).setCell ⟨nb, 1, none⟩ (.int .i64 a)).setCell ⟨nb, 2, none⟩ (.int .i64 z)) :=
    ((k3.box.set 0 (.int .i64 g) (by simp)).set 1 (.int .i64 a) (by simp)).set 2 (.int .i64 z) (by simp)
  have x4 : Ext w2 (((w3.setCell ⟨nb, 0, none⟩ (.int .i64 g)).setCell ⟨nb, 1, none⟩ (.int .i64 a)).setCell ⟨nb, 2, none⟩ (.int .i64 z)) :=
    ((x3.below.setCell hnb _).setCell hnb _).setCell hnb _
  obtain ⟨j0, j1, j2, j3, j4, j5, j6⟩ := id k3
  replace k3 := Lib.hid k3; replace hbx := Lib.hid hbx
  replace y1 := Lib.hid (y1.out.trans x4)
  replace hbox := Lib.hid (hbox.out.ext x4)
  clear x3 x4 g0 g1 g2
  go_wp2_with fail
  try apply_assumption
  go_wp2_with fail
  refine (h87.out _).mono ?_; rintro e w5 ⟨rfl, x5⟩
  clear j0 j1 j2 j3 j4 j5 j6
  replace hbx := hbx.out.ext x5
  replace hbox := hbox.out.ext x5
  replace y1 := Lib.hid (y1.out.trans x5)
  clear x5
  rcases hcase.out with ⟨q1, q2, q3⟩ | ⟨bb, q2, q4, q3⟩
  · subst q3
    clear hcase
    obtain ⟨k0, k1, k2, k3, k4, k5, k6⟩ := id hbox
    replace hbox := Lib.hid hbox.box
    clear hbx
    go_wp2_with fail
    have hz := ((hbox.out.set 0 (.int .i64 0) (by simp)).set 1 (.int .i64 0) (by simp)).set 2 (.int .i64 0) (by simp)
    obtain ⟨m1, m2, m3, _, _, _⟩ := hz.at3
    refine bodyPost_ret (v := supV ((0, 0, 0), false)) ?_ rfl ⟨rfl, ?_⟩
    · simp [results, Try.results84, go_sem, m1, m2, m3, supV]
    · exact ((y1.out.below.setCell (Nat.le_refl _) _).setCell (Nat.le_refl _) _).setCell (Nat.le_refl _) _
  · subst q3
    clear hcase
    obtain ⟨i1, i2, i3, i4, i5, i6⟩ := hbx.at3
    replace hbx := Lib.hid hbx
    replace hbox := Lib.hid hbox
    go_wp2_with fail
    refine (h87.out _).mono ?_; rintro e w6 ⟨rfl, x6⟩
    clear i1 i2 i3 i4 i5 i6
    obtain ⟨i1, i2, i3, i4, i5, i6⟩ := (hbx.out.ext x6).at3
    obtain ⟨k0, k1, k2, k3, k4, k5, k6⟩ := hbox.out.ext x6
    replace hbox := Lib.hid (hbox.out.ext x6).box
    replace y1 := Lib.hid (y1.out.trans x6)
    clear hbx x6
    cases bb
    · go_wp2_with fail
      have hz := ((hbox.out.set 0 (.int .i64 g) (by simp)).set 1 (.int .i64 a) (by simp)).set 2 (.int .i64 z) (by simp)
      obtain ⟨m1, m2, m3, _, _, _⟩ := hz.at3
      refine bodyPost_ret (v := supV ((g, a, z), true)) ?_ rfl ⟨rfl, ?_⟩
      · simp [results, Try.results84, go_sem, m1, m2, m3, supV]
      · exact ((y1.out.below.setCell (Nat.le_refl _) _).setCell (Nat.le_refl _) _).setCell (Nat.le_refl _) _
    · go_wp2_with fail
      have hz := ((hbox.out.set 0 (.int .i64 0) (by simp)).set 1 (.int .i64 0) (by simp)).set 2 (.int .i64 0) (by simp)
      obtain ⟨m1, m2, m3, _, _, _⟩ := hz.at3
      refine bodyPost_ret (v := supV ((0, 0, 0), false)) ?_ rfl ⟨rfl, ?_⟩
      · simp [results, Try.results84, go_sem, m1, m2, m3, supV]
      · exact ((y1.out.below.setCell (Nat.le_refl _) _).setCell (Nat.le_refl _) _).setCell (Nat.le_refl _) _

theorem refSuperOpen_any (s : ByteArray) (hs : s.size ≤ 1000000) (w : World) : Calls Try.prog 84 #[.string s] w fun e w' => e = .returned (supV (Super.opn s.data.toList)) ∧ Ext w w' := by
  have h54 := fun v w h => refPageOpen_any [s] v w h (by simp) (by rw [show bts [s] = [s.data.toList] from rfl]; simp [size_list]; omega)
  rw [show bts [s] = [s.data.toList] from rfl] at h54
  obtain ⟨⟨T, pb⟩, hp⟩ : ∃ t, t = Page.opn [s.data.toList] := ⟨_, rfl⟩
  rw [← hp] at h54
  unfold opened at h54
  dsimp only at h54
  have hT : T.length ≤ 32 := by
    cases pb with
    | true => exact Super.text_small _ _ hp.symm
    | false =>
      rcases Page.opn_spec [s.data.toList] with ⟨h1, _⟩ | ⟨T', h1, _⟩
      · rw [h1, Prod.mk.injEq] at hp
        obtain ⟨rfl, _⟩ := hp
        simp
      · rw [h1] at hp; simp at hp
  have h43 := refTakeInts_any (str T) 0 (by rw [str_size]; omega)
  rw [list_str] at h43
  obtain ⟨⟨l, q, bb⟩, ht⟩ : ∃ t, t = Wire.takeIntsAt T 0 := ⟨_, rfl⟩
  rw [← ht] at h43
  by_cases hb : pb = false ∨ pb = true ∧ bb = false ∨ pb = true ∧ bb = true ∧ l.length ≠ 3
  · have hn : Super.opn s.data.toList = ((0, 0, 0), false) := by
      rcases hb with h | ⟨_, h⟩ | ⟨_, _, h⟩
      · exact Super.opn_no1 _ (by rw [← hp]; exact h)
      · exact Super.opn_no2 _ (by rw [← hp]; dsimp only; rw [← ht]; exact .inl h)
      · exact Super.opn_no2 _ (by rw [← hp]; dsimp only; rw [← ht]; exact .inr h)
    rw [hn, supV_no]
    exact refSuperOpen_list s (str T) pb l q bb w h54 h43 hb
  · have hp1 : pb = true := by cases pb; exact absurd (.inl rfl) hb; rfl
    subst hp1
    have hb1 : bb = true := by cases bb; exact absurd (.inr (.inl ⟨rfl, rfl⟩)) hb; rfl
    subst hb1
    have hl : l.length = 3 := Classical.byContradiction fun h => hb (.inr (.inr ⟨rfl, rfl, h⟩))
    match l, hl with
    | [g, a, z], _ =>
      have hop := Super.opn_yes _ T g a z q hp.symm ht.symm
      have h87 := refSuperLay_any (g, a, z)
      have := refSuperOpen_three s (str T) (str (Super.lay (g, a, z))) g a z q w h54 h43 h87
      rw [hop]
      by_cases hh : Super.lay (g, a, z) = s.data.toList
      · have hne : ¬ (str (Super.lay (g, a, z))).data.toList = [] := by
          rw [list_str]
          intro e
          have h1 := Super.opn_no1 s.data.toList (by rw [← hh, e]; exact congrArg Prod.snd (Page.opn_first [] [] (by decide)))
          rw [hop, if_pos hh] at h1
          simp at h1
        rw [if_neg (by rintro (h | h); exact hne h; exact h (by rw [hh, str_list]))] at this
        rw [if_pos hh]
        exact this
      · rw [if_pos (.inr fun e => hh (by rw [← e]; rfl))] at this
        rw [if_neg hh]
        exact this
end Go.Proofs.Ytehidhcpdiameaa
