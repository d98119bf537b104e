/- The walks of layer 12, on: what a sector opens to. -/
import Derived.Test.YtehidhcpdiameaaSuperBox
import Derived.Test.YtehidhcpdiameaaSoft2
import Derived.Test.YtehidhcpdiameaaBox
namespace Go.Proofs.Ytehidhcpdiameaa
open Go.RowKit

/-- what a sector opens to, as a value. -/
def supV (t : Super.S3 × Bool) : Value := .tuple #[.agg #[.int .i64 t.1.1, .int .i64 t.1.2.1, .int .i64 t.1.2.2], .bool t.2]
theorem supV_no : supV ((0, 0, 0), false) = .tuple #[.agg #[.int .i64 0, .int .i64 0, .int .i64 0], .bool false] := rfl
theorem Box3.three {n : Nat} {a b c : Value} {w : World} (h : Box3 n a b c w) : w.cell? ⟨n, 0, none⟩ = some a ∧ w.cell? ⟨n, 1, none⟩ = some b ∧ w.cell? ⟨n, 2, none⟩ = some c ∧ w.frozen? ⟨n, 0, none⟩ = false ∧ w.frozen? ⟨n, 1, none⟩ = false ∧ w.frozen? ⟨n, 2, none⟩ = false :=
  ⟨h.c0, h.c1, h.c2, h.f0, h.f1, h.f2⟩

theorem Box3.box {n : Nat} {a b c : Value} {w : World} (h : Box3 n a b c w) : Box n [a, b, c] w :=
  ⟨h.size, fun i v hi => by
    match i, hi with
    | 0, hi => cases hi; exact h.c0
    | 1, hi => cases hi; exact h.c1
    | 2, hi => cases hi; exact h.c2, fun i hi => by
    match i, hi with
    | 0, _ => exact h.f0
    | 1, _ => exact h.f1
    | 2, _ => exact h.f2⟩
/-- a box of three zeros, just made. -/
def Soft.box3 (B : Nat) : Soft.Loud where
  shape u := ∃ n, u = .pointer (some ⟨n, 0, none⟩)
  fact u w := ∃ n, u = .pointer (some ⟨n, 0, none⟩) ∧ B ≤ n ∧ Box3 n (.int .i64 0) (.int .i64 0) (.int .i64 0) w
  some_ := ⟨_, 0, rfl⟩
theorem Soft.box3_stab {B : Nat} {u : Value} {w w' : World} (hr : Ext w w') (h : (Soft.box3 B).fact u w) : (Soft.box3 B).fact u w' := by
  obtain ⟨n, rfl, hB, h1⟩ := h
  exact ⟨n, rfl, hB, h1.ext hr⟩
theorem Soft.box3_new {B : Nat} {w : World} {T : TypeId} (h : B ≤ w.heap.size) : (Soft.box3 B).fact (.pointer (some ⟨w.heap.size, 0, none⟩)) (w.alloc (.cells #[.int .i64 0, .int .i64 0, .int .i64 0] T)) := ⟨_, rfl, h, Box3.new w _ _ _ T⟩
theorem Soft.box3_at {B n : Nat} {u : Value} {w : World} (h : (Soft.box3 B).fact u w) (e : u = .pointer (some ⟨n, 0, none⟩)) : B ≤ n ∧ Box3 n (.int .i64 0) (.int .i64 0) (.int .i64 0) w := by
  obtain ⟨m, hm, hB, h1⟩ := h
  subst hm
  simp only [Value.pointer.injEq, Option.some.injEq, Addr.mk.injEq, and_true] at e
  obtain rfl := e
  exact ⟨hB, h1⟩

set_option maxRecDepth 100000 in
/-- no list is read in it, or not of three. -/
theorem superOpen_list (s T : ByteArray) (l : List Int) (q : Int) (bb : Bool) (w : World) (h54 : ∀ v w, Sl w v ([s].map strV) → Calls Try.prog 54 #[v] w fun e w' => e = .returned (.tuple #[.string T, .bool true]) ∧ Ext w w')
    (h43 : ∀ w, Calls Try.prog 43 #[.string T, .int .i64 0] w (TookInts w (l, q, bb))) (hb : bb = false ∨ bb = true ∧ l.length ≠ 3) :
    Calls Try.prog 83 #[.string s] w fun e w' => e = .returned (.tuple #[.agg #[.int .i64 0, .int .i64 0, .int .i64 0], .bool false]) ∧ Ext w w' := by
  have hs1 := sl_one (w.alloc (.cells #[.int .i64 0, .int .i64 0, .int .i64 0] 94)) s 9
  rw [show (w.alloc (.cells #[.int .i64 0, .int .i64 0, .int .i64 0] 94)).heap.size = w.heap.size + 1 from by simp] at hs1
  have hbox := (Box3.new w (.int .i64 0) (.int .i64 0) (.int .i64 0) 94).ext ((Ext.refl _).alloc (.cells #[.string s] 9))
  have y0 : Ext w ((w.alloc (.cells #[.int .i64 0, .int .i64 0, .int .i64 0] 94)).alloc (.cells #[.string s] 9)) := ((Ext.refl w).alloc _).alloc _
  replace h54 := Lib.hid h54; replace hs1 := Lib.hid hs1; replace h43 := Lib.hid h43
  rcases hb with rfl | ⟨rfl, hl⟩
  · go_enter Try.func83, Try.ntmps83
    go_wp2_with fail
    refine (h54.out _ _ hs1.out).mono ?_; rintro e w1 ⟨rfl, x1⟩
    replace hbox := Lib.hid (hbox.ext x1)
    have y1 := Lib.hid (y0.trans x1)
    clear y0 x1
    go_wp2_with fail
    refine (h43.out _).mono ?_; rintro e w2 ⟨v2, rfl, l2, x2⟩
    obtain ⟨k0, k1, k2, k3, k4, k5, k6⟩ := hbox.out.ext x2
    replace y1 := Lib.hid (y1.out.trans x2)
    clear hbox x2 l2
    go_wp2_with fail
    refine bodyPost_ret (v := .tuple #[.agg #[.int .i64 0, .int .i64 0, .int .i64 0], .bool false]) ?_ rfl ⟨rfl, ?_⟩
    · simp [results, Try.results83, go_sem, k1, k2, k3]
    · exact ((y1.out.below.setCell (Nat.le_refl _) _).setCell (Nat.le_refl _) _).setCell (Nat.le_refl _) _
  · have hli : ((l.length : Int) != 3) = true := by simp; omega
    go_enter Try.func83, Try.ntmps83
    go_wp2_with fail
    refine (h54.out _ _ hs1.out).mono ?_; rintro e w1 ⟨rfl, x1⟩
    replace hbox := Lib.hid (hbox.ext x1)
    have y1 := Lib.hid (y0.trans x1)
    clear y0 x1
    go_wp2_with fail
    refine (h43.out _).mono ?_; rintro e w2 ⟨v2, rfl, l2, x2⟩
    obtain ⟨k0, k1, k2, k3, k4, k5, k6⟩ := hbox.out.ext x2
    replace y1 := Lib.hid (y1.out.trans x2)
    obtain ⟨a2, c2, e2, hlc, hc2, _⟩ := l2
    dsimp only at e2
    rw [List.length_map] at e2
    subst e2
    clear hbox x2 hlc
    go_wp2_with fail
    refine bodyPost_ret (v := .tuple #[.agg #[.int .i64 0, .int .i64 0, .int .i64 0], .bool false]) ?_ rfl ⟨rfl, ?_⟩
    · simp [results, Try.results83, go_sem, k1, k2, k3]
    · exact ((y1.out.below.setCell (Nat.le_refl _) _).setCell (Nat.le_refl _) _).setCell (Nat.le_refl _) _

set_option maxRecDepth 100000 in
set_option maxHeartbeats 4000000 in
/-- three numbers are read in it. -/
theorem superOpen_three (s T L : ByteArray) (g a z q : Int) (w : World) (h54 : ∀ v w, Sl w v ([s].map strV) → Calls Try.prog 54 #[v] w fun e w' => e = .returned (.tuple #[.string T, .bool true]) ∧ Ext w w')
    (h43 : ∀ w, Calls Try.prog 43 #[.string T, .int .i64 0] w (TookInts w ([g, a, z], q, true)))
    (h87 : ∀ w, Calls Try.prog 87 #[.agg #[.int .i64 g, .int .i64 a, .int .i64 z]] w fun e w' => e = .returned (.string L) ∧ Ext w w') :
    Calls Try.prog 83 #[.string s] w fun e w' => e = .returned (supV (if L = s then ((g, a, z), true) else ((0, 0, 0), false))) ∧ Ext w w' := by
  have hs1 := sl_one (w.alloc (.cells #[.int .i64 0, .int .i64 0, .int .i64 0] 94)) s 9
  rw [show (w.alloc (.cells #[.int .i64 0, .int .i64 0, .int .i64 0] 94)).heap.size = w.heap.size + 1 from by simp] at hs1
  have hbox := (Box3.new w (.int .i64 0) (.int .i64 0) (.int .i64 0) 94).ext ((Ext.refl _).alloc (.cells #[.string s] 9))
  have y0 : Ext w ((w.alloc (.cells #[.int .i64 0, .int .i64 0, .int .i64 0] 94)).alloc (.cells #[.string s] 9)) := ((Ext.refl w).alloc _).alloc _
  replace h54 := Lib.hid h54; replace hs1 := Lib.hid hs1; replace h43 := Lib.hid h43; replace h87 := Lib.hid h87
  have hcase : ∃ bb : Bool, ((!(L.toList == s.toList)) = bb) ∧ (if L = s then ((g, a, z), true) else ((0, 0, 0), false) : Super.S3 × Bool) = (if bb then ((0, 0, 0), false) else ((g, a, z), true)) := by
    by_cases h : L = s
    · exact ⟨false, by rw [h]; simp, by rw [if_pos h]; rfl⟩
    · exact ⟨true, by rw [beq_false fun e => h (str_inj e)]; rfl, by rw [if_neg h]; rfl⟩
  obtain ⟨bb, hq, hr⟩ := hcase
  rw [hr]
  clear hr
  go_enter Try.func83, Try.ntmps83
  go_wp2_with fail
  refine (h54.out _ _ hs1.out).mono ?_; rintro e w1 ⟨rfl, x1⟩
  replace hbox := Lib.hid (hbox.ext x1)
  have y1 := Lib.hid (y0.trans x1)
  clear y0 x1
  go_wp2_with fail
  refine (h43.out _).mono ?_; rintro e w2 ⟨v2, rfl, l2, x2⟩
  replace hbox := Lib.hid (hbox.out.ext x2)
  replace y1 := Lib.hid (y1.out.trans x2)
  obtain ⟨a2, c2, rfl, hlc, hc2, hcell⟩ := sl_int_at l2
  obtain ⟨b, o, rfl, hb, hc0⟩ := hcell 0 (by simp)
  obtain ⟨b', o', e1, _, hc1⟩ := hcell 1 (by simp)
  simp only [Option.some.injEq, Addr.mk.injEq, and_true] at e1
  obtain ⟨rfl, rfl⟩ := e1
  obtain ⟨b', o', e1, _, hc2'⟩ := hcell 2 (by simp)
  simp only [Option.some.injEq, Addr.mk.injEq, and_true] at e1
  obtain ⟨rfl, rfl⟩ := e1
  dsimp only at hc0 hc1 hc2'
  simp only [List.length_cons, List.length_nil, Nat.zero_add, Nat.reduceAdd, List.getElem_cons_zero, List.getElem_cons_succ, Nat.add_zero] at hc0 hc1 hc2' hlc
  clear x2 hcell l2
  have g0 : ∀ wq, Ext w2 wq → wq.cell? ⟨b, o, none⟩ = some (.int .i64 g) := fun wq xq => (xq.cell (p := ⟨b, o, none⟩) hb).trans hc0
  have g1 : ∀ wq, Ext w2 wq → wq.cell? ⟨b, o + 1, none⟩ = some (.int .i64 a) := fun wq xq => (xq.cell (p := ⟨b, o + 1, none⟩) hb).trans hc1
  have g2 : ∀ wq, Ext w2 wq → wq.cell? ⟨b, o + 2, none⟩ = some (.int .i64 z) := fun wq xq => (xq.cell (p := ⟨b, o + 2, none⟩) hb).trans hc2'
  replace g0 := Lib.hid g0; replace g1 := Lib.hid g1; replace g2 := Lib.hid g2
  clear hc0 hc1 hc2'
  go_wp2_with fail
  refine Soft.region_ext [(10, Soft.box3 w2.heap.size)] [0, 1, 2, 3, 4, 5, 6, 7, 8, 9, 10] [11] (by kernel_rfl) (by kernel_rfl) (Soft.stab_one fun _ _ _ => Soft.box3_stab) ?_
  repeat (first | (refine Soft.pure_n rfl rfl rfl rfl (fun K hK => ?_); go_simp; refine hK _ ?_; clear hK K) | (refine Soft.quiet_n rfl rfl rfl rfl (fun K hK => ?_); go_simp; apply Exists.intro; refine ⟨fun wq hq => ?_, hK _ ?_⟩; (first | (have gg := g0.out wq hq; go_simp; with_reducible rfl) | (have gg := g1.out wq hq; go_simp; with_reducible rfl) | (have gg := g2.out wq hq; go_simp; with_reducible rfl)); clear hK K))
  refine Soft.loud_step0 rfl rfl rfl rfl (fun K hK => ?_)
  refine ⟨fun wq hq => ?_, fun u ⟨nb, hu⟩ => hK _ ?_⟩
  · go_simp
    exact ⟨(Ext.refl _).alloc _, ⟨_, rfl⟩, Soft.box3_new hq.size⟩
  clear hK K
  subst hu
  refine Soft.tail_forced [_] (by kernel_rfl) rfl (fun w3 x3 k3 => ?_)
  obtain ⟨hnb, k3⟩ := Soft.box3_at (k3.get 10 rfl rfl) rfl
  have hbx : Box nb [.int .i64 g, .int .i64 a, .int .i64 z] (((w3.setCell ⟨nb, 0, none⟩ (.int .i64 g)).setCell ⟨nb, 1, none⟩ (.int .i64 a)).setCell ⟨nb, 2, none⟩ (.int .i64 z)) :=
    ((k3.box.set 0 (.int .i64 g) (by simp)).set 1 (.int .i64 a) (by simp)).set 2 (.int .i64 z) (by simp)
  have x4 : Ext w2 (((w3.setCell ⟨nb, 0, none⟩ (.int .i64 g)).setCell ⟨nb, 1, none⟩ (.int .i64 a)).setCell ⟨nb, 2, none⟩ (.int .i64 z)) :=
    ((x3.below.setCell hnb _).setCell hnb _).setCell hnb _
  obtain ⟨j0, j1, j2, j3, j4, j5, j6⟩ := id k3
  replace k3 := Lib.hid k3; replace hbx := Lib.hid hbx
  replace y1 := Lib.hid (y1.out.trans x4)
  replace hbox := Lib.hid (hbox.out.ext x4)
  clear x3 x4 g0 g1 g2
  go_wp2_with fail
  try apply_assumption
  go_wp2_with fail
  refine (h87.out _).mono ?_; rintro e w5 ⟨rfl, x5⟩
  clear j0 j1 j2 j3 j4 j5 j6
  replace hbx := hbx.out.ext x5
  replace hbox := hbox.out.ext x5
  replace y1 := Lib.hid (y1.out.trans x5)
  obtain ⟨i1, i2, i3, i4, i5, i6⟩ := hbx.at3
  obtain ⟨k0, k1, k2, k3, k4, k5, k6⟩ := id hbox
  replace hbox := Lib.hid hbox.box
  replace hbx := Lib.hid hbx
  clear x5
  cases bb
  · go_wp2_with fail
    have hz := ((hbox.out.set 0 (.int .i64 g) (by simp)).set 1 (.int .i64 a) (by simp)).set 2 (.int .i64 z) (by simp)
    obtain ⟨m1, m2, m3, _, _, _⟩ := hz.at3
    refine bodyPost_ret (v := supV ((g, a, z), true)) ?_ rfl ⟨rfl, ?_⟩
    · simp [results, Try.results83, go_sem, m1, m2, m3, supV]
    · exact ((y1.out.below.setCell (Nat.le_refl _) _).setCell (Nat.le_refl _) _).setCell (Nat.le_refl _) _
  · go_wp2_with fail
    have hz := ((hbox.out.set 0 (.int .i64 0) (by simp)).set 1 (.int .i64 0) (by simp)).set 2 (.int .i64 0) (by simp)
    obtain ⟨m1, m2, m3, _, _, _⟩ := hz.at3
    refine bodyPost_ret (v := supV ((0, 0, 0), false)) ?_ rfl ⟨rfl, ?_⟩
    · simp [results, Try.results83, go_sem, m1, m2, m3, supV]
    · exact ((y1.out.below.setCell (Nat.le_refl _) _).setCell (Nat.le_refl _) _).setCell (Nat.le_refl _) _

namespace Super
theorem text_small (s T : List UInt8) (h : Page.opn [s] = (T, true)) : T.length ≤ 32 := by
  rcases Page.opn_spec [s] with ⟨h1, _⟩ | ⟨T', h1, hp, _⟩
  · rw [h1] at h; simp at h
  · rw [h1, Prod.mk.injEq] at h
    obtain ⟨rfl, _⟩ := h
    have := hp.length_le
    rw [Page.lay_length, Page.sealed_length, List.length_singleton] at this
    unfold Page.secs at this
    omega
theorem three_none (l : List Int) (h : l.length ≠ 3) : three l = none := by
  match l, h with
  | [], _ => rfl
  | [_], _ => rfl
  | [_, _], _ => rfl
  | [_, _, _], h => exact absurd rfl h
  | _ :: _ :: _ :: _ :: _, _ => rfl
theorem opn_no1 (s : List UInt8) (h : (Page.opn [s]).2 = false) : opn s = ((0, 0, 0), false) := by unfold opn; rw [h]; rfl
theorem opn_no2 (s : List UInt8) (h : (Wire.takeIntsAt (Page.opn [s]).1 0).2.2 = false ∨ (Wire.takeIntsAt (Page.opn [s]).1 0).1.length ≠ 3) : opn s = ((0, 0, 0), false) := by
  unfold opn
  split
  · rename_i hc
    rcases h with h | h
    · rw [h, Bool.and_false] at hc; cases hc
    · rw [three_none _ h]
  · rfl
theorem opn_yes (s T : List UInt8) (g a z q : Int) (h : Page.opn [s] = (T, true)) (ht : Wire.takeIntsAt T 0 = ([g, a, z], q, true)) : opn s = if lay (g, a, z) = s then ((g, a, z), true) else ((0, 0, 0), false) := by
  unfold opn
  rw [h]
  dsimp only
  rw [ht]
  rfl
end Super

theorem superOpen_any (s : ByteArray) (w : World) : Calls Try.prog 83 #[.string s] w fun e w' => e = .returned (supV (Super.opn s.data.toList)) ∧ Ext w w' := by
  have h54 := fun v w h => pageOpen_any [s] v w h (by simp)
  rw [show bts [s] = [s.data.toList] from rfl] at h54
  obtain ⟨⟨T, pb⟩, hp⟩ : ∃ t, t = Page.opn [s.data.toList] := ⟨_, rfl⟩
  rw [← hp] at h54
  unfold opened at h54
  dsimp only at h54
  cases pb with
  | false =>
    rw [Super.opn_no1 _ (by rw [← hp]), supV_no]
    rcases Page.opn_spec [s.data.toList] with ⟨h1, _⟩ | ⟨T', h1, _⟩
    · rw [h1, Prod.mk.injEq] at hp
      obtain ⟨rfl, _⟩ := hp
      exact superOpen_no s w h54
    · rw [h1] at hp; simp at hp
  | true =>
    have hT := Super.text_small _ _ hp.symm
    have h43 := takeInts_any (str T) 0 (by rw [str_size]; omega)
    rw [list_str] at h43
    obtain ⟨⟨l, q, bb⟩, ht⟩ : ∃ t, t = Wire.takeIntsAt T 0 := ⟨_, rfl⟩
    rw [← ht] at h43
    by_cases hb : bb = false ∨ bb = true ∧ l.length ≠ 3
    · rw [Super.opn_no2 _ (by rw [← hp]; dsimp only; rw [← ht]; rcases hb with h | h; exact .inl h; exact .inr h.2), supV_no]
      exact superOpen_list s (str T) l q bb w h54 h43 hb
    · have hb1 : bb = true := by cases bb; exact absurd (.inl rfl) hb; rfl
      subst hb1
      have hl : l.length = 3 := Classical.byContradiction fun h => hb (.inr ⟨rfl, h⟩)
      match l, hl with
      | [g, a, z], _ =>
        rw [Super.opn_yes _ T g a z q hp.symm ht.symm]
        have h87 := superLay_any (g, a, z)
        have := superOpen_three s (str T) (str (Super.lay (g, a, z))) g a z q w h54 h43 h87
        by_cases hh : Super.lay (g, a, z) = s.data.toList
        · rw [if_pos (by rw [hh, str_list])] at this
          rw [if_pos hh]
          exact this
        · rw [if_neg (fun e => hh (by rw [← e]; rfl))] at this
          rw [if_neg hh]
          exact this
end Go.Proofs.Ytehidhcpdiameaa
