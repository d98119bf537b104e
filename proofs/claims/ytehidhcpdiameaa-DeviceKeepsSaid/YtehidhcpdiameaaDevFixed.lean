/- The walks of layer 9, on: the fixed calls. -/
import Derived.Test.YtehidhcpdiameaaDevE
import Derived.Test.YtehidhcpdiameaaDevC
import Derived.Test.YtehidhcpdiameaaDevB
import Derived.Test.YtehidhcpdiameaaDevD
import Derived.Test.YtehidhcpdiameaaSoft3
namespace Go.Proofs.Ytehidhcpdiameaa
open Go.RowKit

/-- a disk's value where its numbers are known. -/
theorem DiskIn.formN {w : World} {v : Value} {d : Dev.Disk} (h : DiskIn w v d) {N M L : Nat} {f : Int} {b : Bool} (h1 : d.kept.length = N) (h2 : d.cache.length = M) (h3 : d.fuse = f) (h4 : d.keep.length = L) (h5 : d.dead = b) :
    ∃ ka kc ca cc pa pc, v = .agg #[.slice ka N kc, .slice ca M cc, .int .i64 f, .slice pa L pc, .bool b] := by
  obtain ⟨ka, kc, ca, cc, pa, pc, e, _⟩ := h.form2
  subst h1 h2 h3 h4 h5
  exact ⟨_, _, _, _, _, _, e⟩

/-- a loud call that gives a disk, with a number. -/
def Soft.disk2 (d : Dev.Disk) (N M L : Nat) (f : Int) (b : Bool) (e : Int) : Soft.Loud where
  shape u := ∃ ka kc ca cc pa pc, u = .tuple #[.agg #[.slice ka N kc, .slice ca M cc, .int .i64 f, .slice pa L pc, .bool b], .int .i64 e]
  fact u w := ∃ r, u = .tuple #[r, .int .i64 e] ∧ DiskIn w r d
  some_ := ⟨_, none, 0, none, 0, none, 0, rfl⟩
theorem Soft.disk2_stab {d : Dev.Disk} {N M L : Nat} {f : Int} {b : Bool} {e : Int} {u : Value} {w w' : World} (hr : Ext w w') (h : (Soft.disk2 d N M L f b e).fact u w) : (Soft.disk2 d N M L f b e).fact u w' := by
  obtain ⟨r, h1, h2⟩ := h
  exact ⟨r, h1, h2.ext hr⟩
theorem Soft.disk2_at {d : Dev.Disk} {N M L : Nat} {f : Int} {b : Bool} {e : Int} {r : Value} {w : World} (h : (Soft.disk2 d N M L f b e).fact (.tuple #[r, .int .i64 e]) w) : DiskIn w r d := by
  obtain ⟨r', h1, h2⟩ := h
  simp only [Value.tuple.injEq, Array.mk.injEq, List.cons.injEq, and_true] at h1
  obtain rfl := h1
  exact h2
/-- .. alone. -/
def Soft.disk1 (d : Dev.Disk) (N M L : Nat) (f : Int) (b : Bool) : Soft.Loud where
  shape u := ∃ ka kc ca cc pa pc, u = .agg #[.slice ka N kc, .slice ca M cc, .int .i64 f, .slice pa L pc, .bool b]
  fact u w := DiskIn w u d
  some_ := ⟨_, none, 0, none, 0, none, 0, rfl⟩
theorem Soft.disk1_stab {d : Dev.Disk} {N M L : Nat} {f : Int} {b : Bool} {u : Value} {w w' : World} (hr : Ext w w') (h : (Soft.disk1 d N M L f b).fact u w) : (Soft.disk1 d N M L f b).fact u w' := DiskIn.ext h hr
/-- a box of five zeros, just made. -/
def Soft.box5 (B : Nat) : Soft.Loud where
  shape u := ∃ n, u = .pointer (some ⟨n, 0, none⟩)
  fact u w := ∃ n, u = .pointer (some ⟨n, 0, none⟩) ∧ B ≤ n ∧ Box n zeroL w
  some_ := ⟨_, 0, rfl⟩
theorem Soft.box5_stab {B : Nat} {u : Value} {w w' : World} (hr : Ext w w') (h : (Soft.box5 B).fact u w) : (Soft.box5 B).fact u w' := by
  obtain ⟨n, rfl, hB, h1⟩ := h
  exact ⟨n, rfl, hB, h1.ext hr⟩
theorem Soft.box5_new {B : Nat} {w : World} {T : TypeId} (h : B ≤ w.heap.size) : (Soft.box5 B).fact (.pointer (some ⟨w.heap.size, 0, none⟩)) (w.alloc (.cells #[.slice none 0 0, .slice none 0 0, .int .i64 0, .slice none 0 0, .bool false] T)) := ⟨_, rfl, h, Box.new w _ T⟩
theorem Soft.box5_at {B n : Nat} {u : Value} {w : World} (h : (Soft.box5 B).fact u w) (e : u = .pointer (some ⟨n, 0, none⟩)) : B ≤ n ∧ Box n zeroL w := by
  obtain ⟨m, hm, hB, h1⟩ := h
  subst hm
  simp only [Value.pointer.injEq, Option.some.injEq, Addr.mk.injEq, and_true] at e
  obtain rfl := e
  exact ⟨hB, h1⟩

/-- a disk's five cells, written into a box. -/
def putBox (n : Nat) (k c : Value) (f : Int) (p : Value) (b : Bool) (w : World) : World :=
  ((((w.setCell ⟨n, 0, none⟩ k).setCell ⟨n, 1, none⟩ c).setCell ⟨n, 2, none⟩ (.int .i64 f)).setCell ⟨n, 3, none⟩ p).setCell ⟨n, 4, none⟩ (.bool b)
theorem putBox_size (n : Nat) (k c : Value) (f : Int) (p : Value) (b : Bool) (w : World) : (putBox n k c f p b w).heap.size = w.heap.size := by unfold putBox; simp
theorem putBox_far {n : Nat} {k c : Value} {f : Int} {p : Value} {b : Bool} {w : World} {m j : Nat} (h : m ≠ n ∨ 5 ≤ j) : (putBox n k c f p b w).cell? ⟨m, j, none⟩ = w.cell? ⟨m, j, none⟩ := by
  unfold putBox
  have hne : ∀ i, i < 5 → (⟨n, i, none⟩ : Addr) ≠ ⟨m, j, none⟩ := fun i hi e => by
    simp only [Addr.mk.injEq, and_true] at e
    omega
  rw [World.cell?_setCell_other _ _ _ _ (hne 4 (by omega)), World.cell?_setCell_other _ _ _ _ (hne 3 (by omega)), World.cell?_setCell_other _ _ _ _ (hne 2 (by omega)), World.cell?_setCell_other _ _ _ _ (hne 1 (by omega)), World.cell?_setCell_other _ _ _ _ (hne 0 (by omega))]
theorem putBox_ext {n : Nat} {k c : Value} {f : Int} {p : Value} {b : Bool} {w0 w : World} (h : Ext w0 w) (hn : w0.heap.size ≤ n) : Ext w0 (putBox n k c f p b w) :=
  ((((h.below.setCell hn _).setCell hn _).setCell hn _).setCell hn _).setCell hn _
theorem putBox_box {n : Nat} {k c : Value} {f : Int} {p : Value} {b : Bool} {w : World} (h : Box n zeroL w) : Box n (diskL k c f p b) (putBox n k c f p b w) :=
  ((((h.set 0 k (by simp)).set 1 c (by simp)).set 2 (.int .i64 f) (by simp)).set 3 p (by simp)).set 4 (.bool b) (by simp)
theorem putBox_other {n m : Nat} {k c : Value} {f : Int} {p : Value} {b : Bool} {w : World} {vs : List Value} (h : Box n vs w) (hm : m ≠ n) : Box n vs (putBox m k c f p b w) :=
  ((((h.other hm 0 k).other hm 1 c).other hm 2 _).other hm 3 p).other hm 4 _
theorem zeroL_cell {n : Nat} {w : World} (h : Box n zeroL w) {j : Nat} (hj : j < 5) {x : Value} (hx : w.cell? ⟨n, j, none⟩ = some x) : x = .slice none 0 0 ∧ j ≠ 2 ∧ j ≠ 4 ∨ x = .int .i64 0 ∧ j = 2 ∨ x = .bool false ∧ j = 4 := by
  match j, hj with
  | 0, _ => rw [h.cell 0 _ rfl] at hx; cases hx; exact .inl ⟨rfl, by decide, by decide⟩
  | 1, _ => rw [h.cell 1 _ rfl] at hx; cases hx; exact .inl ⟨rfl, by decide, by decide⟩
  | 2, _ => rw [h.cell 2 _ rfl] at hx; cases hx; exact .inr (.inl ⟨rfl, rfl⟩)
  | 3, _ => rw [h.cell 3 _ rfl] at hx; cases hx; exact .inl ⟨rfl, by decide, by decide⟩
  | 4, _ => rw [h.cell 4 _ rfl] at hx; cases hx; exact .inr (.inr ⟨rfl, rfl⟩)
/-- a disk that is written into a box of zeros lies as it lay. -/
theorem DiskIn.boxed {n : Nat} {k c : Value} {f : Int} {p : Value} {b : Bool} {w : World} {v : Value} {d : Dev.Disk} (hz : Box n zeroL w) (h : DiskIn w v d) (hk : d.keep = [] ∨ b = false) : DiskIn (putBox n k c f p b w) v d := by
  obtain ⟨k', c', p', e, h1, h2, h3, h4, h5⟩ := h
  refine ⟨k', c', p', e, ?_, ?_, ?_, h4, h5⟩
  · obtain ⟨a, cc, e1, hl, hm, hc⟩ := h1
    refine ⟨a, cc, e1, hl, hm, fun hne => ?_⟩
    obtain ⟨m, o, e2, hb, hcell⟩ := hc hne
    refine ⟨m, o, e2, by rw [putBox_size]; exact hb, fun i x hi => ?_⟩
    have hx := hcell i x hi
    by_cases hh : m ≠ n ∨ 5 ≤ o + i
    · rw [putBox_far hh]; exact hx
    · exfalso
      have hmn : m = n := Classical.byContradiction fun h => hh (.inl h)
      subst hmn
      rw [List.getElem?_map] at hi
      obtain ⟨s, _, rfl⟩ := Option.map_eq_some_iff.1 hi
      rcases zeroL_cell hz (by omega) hx with ⟨h, _⟩ | ⟨h, _⟩ | ⟨h, _⟩ <;> cases h
  · obtain ⟨a, cc, e1, hl, hm, hc⟩ := h2
    refine ⟨a, cc, e1, hl, hm, fun hne => ?_⟩
    obtain ⟨m, o, e2, hb, hcell⟩ := hc hne
    refine ⟨m, o, e2, by rw [putBox_size]; exact hb, fun i x hi => ?_⟩
    have hx := hcell i x hi
    by_cases hh : m ≠ n ∨ 5 ≤ o + i
    · rw [putBox_far hh]; exact hx
    · exfalso
      have hmn : m = n := Classical.byContradiction fun h => hh (.inl h)
      subst hmn
      have hlt : i < (putCells d.cache).length := (List.getElem?_eq_some_iff.1 hi).1
      rw [putCells_length] at hlt
      have hj : i / 2 < d.cache.length := by omega
      have hp := putCells_at d.cache (i / 2) hj
      rcases Nat.mod_two_eq_zero_or_one i with hr | hr
      · rw [show i / 2 * 2 = i from by omega] at hp
        rw [hp.1, Option.some.injEq] at hi
        subst hi
        rcases zeroL_cell hz (by omega) hx with ⟨h, _⟩ | ⟨_, h2⟩ | ⟨h, _⟩
        · cases h
        · have hx2 := hcell (i + 1) _ hp.2
          rcases zeroL_cell hz (by omega) hx2 with ⟨h, _⟩ | ⟨h, _⟩ | ⟨h, _⟩ <;> cases h
        · cases h
      · rw [show i / 2 * 2 + 1 = i from by omega] at hp
        rw [hp.2, Option.some.injEq] at hi
        subst hi
        rcases zeroL_cell hz (by omega) hx with ⟨h, _⟩ | ⟨h, _⟩ | ⟨h, _⟩ <;> cases h
  · obtain ⟨a, cc, e1, hl, hm, hc⟩ := h3
    refine ⟨a, cc, e1, hl, hm, fun hne => ?_⟩
    obtain ⟨m, o, e2, hb, hcell⟩ := hc hne
    refine ⟨m, o, e2, by rw [putBox_size]; exact hb, fun i x hi => ?_⟩
    have hx := hcell i x hi
    by_cases hh : m ≠ n ∨ 5 ≤ o + i
    · rw [putBox_far hh]; exact hx
    · have hmn : m = n := Classical.byContradiction fun h => hh (.inl h)
      subst hmn
      rcases hk with hk | hk
      · rw [hk] at hne; exact absurd rfl hne
      · subst hk
        rw [List.getElem?_map] at hi
        obtain ⟨s, _, rfl⟩ := Option.map_eq_some_iff.1 hi
        rcases zeroL_cell hz (by omega) hx with ⟨h, _⟩ | ⟨h, _⟩ | ⟨h, h2⟩
        · cases h
        · cases h
        · rw [h2, h]
          exact (putBox_box (k := k) (c := c) (f := f) (p := p) (b := false) hz).cell 4 _ rfl

theorem Sl.one {n : Nat} {v : Value} {w : World} (h : n < w.heap.size ∧ ∀ j x, [v][j]? = some x → w.cell? ⟨n, j, none⟩ = some x) : Sl w (.slice (some ⟨n, 0, none⟩) 1 1) [v] :=
  ⟨_, _, rfl, by simp, by omega, fun _ => ⟨n, 0, rfl, h.1, fun i x hi => by rw [Nat.zero_add]; exact h.2 i x hi⟩⟩

set_option maxRecDepth 100000 in
set_option maxHeartbeats 8000000 in
theorem fixed09 (w : World) : Calls Try.prog 61 #[] w fun e w' => e = .returned (.bool true) ∧ Ext w w' := by
  have h62 := new9_any 2
  rw [Dev.f_new] at h62
  have h64 := fun v w h => write9_any Dev.d0 v 1 (Dev.sect 7) w h (by decide) (by decide)
  rw [Dev.f_write] at h64
  have h68 := fun v w h => read9_any Dev.d1 v 1 w h
  rw [Dev.f_read] at h68
  have h78a := fun v kp w h hk => die9_any Dev.d1 v kp [true] w h hk (by decide)
  have h78b := fun v kp w h hk => die9_any Dev.d1 v kp [] w h hk (by decide)
  rw [Dev.f_dieA] at h78a
  rw [Dev.f_dieB] at h78b
  have h65 : ∀ w, Calls Try.prog 65 #[.int .u8 7] w fun e w' => e = .returned (.string (Dev.sect 7)) ∧ Ext w w' := sector_any 7
  have h63 := fun v w h => arm9_any Dev.d0 v 0 (.slice none 0 0) [] w h (Sl.nil _) (by decide) (by decide) (by decide)
  have h65a : ∀ w, Calls Try.prog 65 #[.int .u8 1] w fun e w' => e = .returned (.string (Dev.sect 1)) ∧ Ext w w' := sector_any 1
  have h64a := fun v w h => write9_any (Dev.arm Dev.d0 0 []) v 0 (Dev.sect 1) w h (by decide) (by decide)
  rw [Dev.f_arm] at h64a
  have h80a := fun v w h => revive9_any Dev.dA v w h (by decide)
  have h80b := fun v w h => revive9_any Dev.dB v w h (by decide)
  have h68a := fun v w h => read9_any (Dev.revive Dev.dA) v 1 w h
  rw [Dev.f_revA] at h68a
  have h68b := fun v w h => read9_any (Dev.revive Dev.dB) v 1 w h
  rw [Dev.f_revB] at h68b
  have h68c := fun v w h => read9_any Dev.dA v 1 w h
  rw [Dev.f_readA] at h68c
  have h62a := new9_any 0
  rw [Dev.f_new0] at h62a
  have h73 := fun v w h => may_any Dev.d0 v w h
  rw [Dev.f_may] at h73
  have h66 : ∀ w, Calls Try.prog 66 #[] w fun e w' => e = .returned (.string Dev.zero) ∧ Ext w w' := fun w => zeros_any w
  generalize Dev.zero = Z at h68b h66
  generalize Dev.sect 1 = S1 at h65a h64a
  generalize Dev.sect 7 = S7 at *
  replace h63 := Lib.hid h63; replace h65a := Lib.hid h65a; replace h64a := Lib.hid h64a; replace h80a := Lib.hid h80a; replace h80b := Lib.hid h80b; replace h68a := Lib.hid h68a; replace h68b := Lib.hid h68b; replace h68c := Lib.hid h68c; replace h62a := Lib.hid h62a; replace h73 := Lib.hid h73; replace h66 := Lib.hid h66
  replace h68 := Lib.hid h68; replace h78a := Lib.hid h78a; replace h78b := Lib.hid h78b
  replace h62 := Lib.hid h62; replace h64 := Lib.hid h64; replace h65 := Lib.hid h65
  go_enter Try.func61, Try.ntmps61
  go_wp2_with fail
  refine (h62.out _).mono ?_; rintro e w1 ⟨r1, rfl, D1, x1⟩
  obtain ⟨ka1, kc1, ca1, cc1, pa1, pc1, rfl⟩ := D1.formN (N := 2) (M := 0) (L := 0) (f := -1) (b := false) rfl rfl rfl rfl rfl
  have b1 := Box.new w1 (diskL (.slice ka1 2 kc1) (.slice ca1 0 cc1) (-1) (.slice pa1 0 pc1) false) 69
  replace D1 := Lib.hid (D1.ext ((Ext.refl w1).alloc (.cells #[.slice ka1 2 kc1, .slice ca1 0 cc1, .int .i64 (-1), .slice pa1 0 pc1, .bool false] 69)))
  replace x1 := x1.alloc (.cells #[.slice ka1 2 kc1, .slice ca1 0 cc1, .int .i64 (-1), .slice pa1 0 pc1, .bool false] 69)
  replace b1 := Lib.hid b1
  go_wp2_with fail
  refine Soft.region_ext [(2, Soft.disk2 Dev.d1 2 1 0 (-1) false 0), (6, Soft.box5 (w1.heap.size + 1))] [0, 1, 2, 3, 4, 5, 6] [7, 8] (by kernel_rfl) (by kernel_rfl) (Soft.stab_more (fun _ _ _ => Soft.disk2_stab) (Soft.stab_one fun _ _ _ => Soft.box5_stab)) ?_
  (refine Soft.quiet_n rfl rfl rfl rfl (fun K hK => ?_); go_simp; apply Exists.intro; refine ⟨fun wq hq => ?_, hK _ ?_⟩; (obtain ⟨⟨gg0, gg1, gg2, gg3, gg4⟩, _⟩ := (b1.out.ext hq).at5; go_simp; with_reducible rfl); clear hK K)
  (refine Soft.quiet_n rfl rfl rfl rfl (fun K hK => ?_); go_simp; apply Exists.intro; refine ⟨fun wq hq => ?_, hK _ ?_⟩; (with_reducible exact h65.out _); clear hK K)
  refine Soft.loud_step0 rfl rfl rfl rfl (fun K hK => ?_)
  refine ⟨fun wq hq => ?_, fun u ⟨ka2, kc2, ca2, cc2, pa2, pc2, hu⟩ => hK _ ?_⟩
  · go_simp
    refine (h64.out _ _ (D1.out.ext hq)).mono ?_
    rintro e w7 ⟨r, rfl, hD, x7⟩
    obtain ⟨ka2, kc2, ca2, cc2, pa2, pc2, rfl⟩ := hD.formN (N := 2) (M := 1) (L := 0) (f := -1) (b := false) rfl rfl rfl rfl rfl
    exact ⟨_, rfl, x7, ⟨_, _, _, _, _, _, rfl⟩, ⟨_, rfl, hD⟩⟩
  clear hK K
  subst hu
  repeat (refine Soft.pure_n rfl rfl rfl rfl (fun K hK => ?_); go_simp; refine hK _ ?_; clear hK K)
  refine Soft.loud_step0 rfl rfl rfl rfl (fun K hK => ?_)
  refine ⟨fun wq hq => ?_, fun u ⟨nb, hu⟩ => hK _ ?_⟩
  · go_simp
    exact ⟨(Ext.refl _).alloc _, ⟨_, rfl⟩, Soft.box5_new (by have := hq.size; simp at this; omega)⟩
  clear hK K
  subst hu
  refine Soft.tail_forced [_, _] (by kernel_rfl) rfl (fun w2 x2 k2 => ?_)
  have D2 := Soft.disk2_at (k2.get 2 rfl rfl)
  obtain ⟨hnb, bz⟩ := Soft.box5_at (k2.get 6 rfl rfl) rfl
  have D2 := (D2.boxed bz (.inl rfl) : DiskIn (putBox nb (.slice ka2 2 kc2) (.slice ca2 1 cc2) (-1) (.slice pa2 0 pc2) false w2) _ _)
  have x2 := putBox_ext (n := nb) (k := .slice ka2 2 kc2) (c := .slice ca2 1 cc2) (f := -1) (p := .slice pa2 0 pc2) (b := false) x2 (by simp; omega)
  have b2 := putBox_box (k := .slice ka2 2 kc2) (c := .slice ca2 1 cc2) (f := -1) (p := .slice pa2 0 pc2) (b := false) bz
  obtain ⟨_, f0, f1, f2, f3, f4⟩ := bz.at5
  obtain ⟨z0, _⟩ := bz.at5
  clear k2
  unfold putBox at D2 x2 b2
  replace D2 := Lib.hid D2; replace b2 := Lib.hid b2; replace bz := Lib.hid bz
  obtain ⟨z0, z1, z2, z3, z4⟩ := z0
  go_wp2_with fail
  rw [Soft.NoP_normal]
  replace b1 := Lib.hid (b1.out.ext x2); replace D1 := Lib.hid (D1.out.ext x2)
  clear bz f0 f1 f2 f3 f4 z0 z1 z2 z3 z4
  generalize ((((w2.setCell ⟨nb, 0, none⟩ _).setCell ⟨nb, 1, none⟩ _).setCell ⟨nb, 2, none⟩ _).setCell ⟨nb, 3, none⟩ _).setCell ⟨nb, 4, none⟩ _ = W2 at *
  have x1 := x1.trans x2
  clear x2
  obtain ⟨⟨g0, g1, g2, g3, g4⟩, _⟩ := b2.out.at5
  go_wp2_with fail
  clear g0 g1 g2 g3 g4
  refine (h68.out _ _ D2.out).mono ?_; rintro e w3 ⟨rfl, x3⟩
  replace b1 := Lib.hid (b1.out.ext x3); replace D1 := Lib.hid (D1.out.ext x3); replace b2 := Lib.hid (b2.out.ext x3); replace D2 := Lib.hid (D2.out.ext x3)
  replace x1 := x1.trans x3
  go_wp2_with fail
  refine Soft.region2_ext [(1, Soft.row 1 1 [.bool true]), (2, Soft.disk1 Dev.dA 2 0 0 (-1) true), (4, Soft.disk1 Dev.dB 2 0 0 (-1) true), (5, Soft.box5 w3.heap.size), (6, Soft.box5 w3.heap.size)] [5, 6] [0, 1, 2, 3, 4, 5, 6] [7, 8] (by kernel_rfl) (by kernel_rfl) rfl ?al
    (Soft.stab_more (fun _ _ _ => Soft.row_stab) (Soft.stab_more (fun _ _ _ => Soft.disk1_stab) (Soft.stab_more (fun _ _ _ => Soft.disk1_stab) (Soft.stab_more (fun _ _ _ => Soft.box5_stab) (Soft.stab_one fun _ _ _ => Soft.box5_stab))))) ?_
  case al =>
    intro d hd o ho
    rcases List.mem_cons.1 hd with rfl | hd
    · obtain rfl := Option.some.inj ho
      exact ⟨rfl, fun a w => ⟨_, by go_simp; rfl⟩⟩
    · rcases List.mem_cons.1 hd with rfl | hd
      · obtain rfl := Option.some.inj ho
        exact ⟨rfl, fun a w => ⟨_, by go_simp; rfl⟩⟩
      · cases hd
  have ld : ∀ wq, Ext w3 wq → _ := fun wq hq => (b2.out.ext hq).at5
  (refine Soft.quiet2_n rfl rfl rfl rfl (fun K hK => ?_); go_simp; apply Exists.intro; refine ⟨fun wq hq => ?_, hK _ ?_⟩; (obtain ⟨⟨gg0, gg1, gg2, gg3, gg4⟩, _⟩ := (b2.out.ext hq).at5; go_simp; with_reducible rfl); clear hK K)
  refine Soft.loud2_step0 rfl rfl rfl rfl (fun K hK => ?_)
  refine ⟨fun wq hq => ?_, fun u ⟨nr, hu⟩ => hK _ ?_⟩
  · go_simp
    exact ⟨(Ext.refl _).alloc _, ⟨_, rfl⟩, Soft.row_new⟩
  clear hK K
  subst hu
  refine Soft.loud2_step rfl rfl rfl rfl (fun K hK => ?_)
  refine ⟨fun wq hq kq => ?_, fun u ⟨kaA, kcA, caA, ccA, paA, pcA, hu⟩ => hK _ ?_⟩
  · have hrow := Soft.row_cell (kq.get 1 (by kernel_rfl) rfl rfl)
    go_simp
    refine (h78a.out _ _ _ (D2.out.ext hq) (Sl.one hrow)).mono ?_
    rintro e w7 ⟨r, rfl, hD, x7⟩
    obtain ⟨ka2, kc2, ca2, cc2, pa2, pc2, rfl⟩ := hD.formN (N := 2) (M := 0) (L := 0) (f := -1) (b := true) rfl rfl rfl rfl rfl
    exact ⟨_, rfl, x7, ⟨_, _, _, _, _, _, rfl⟩, hD⟩
  clear hK K
  subst hu
  (refine Soft.quiet2_n rfl rfl rfl rfl (fun K hK => ?_); go_simp; apply Exists.intro; refine ⟨fun wq hq => ?_, hK _ ?_⟩; (obtain ⟨⟨gg0, gg1, gg2, gg3, gg4⟩, _⟩ := (b2.out.ext hq).at5; go_simp; with_reducible rfl); clear hK K)
  refine Soft.loud2_step0 rfl rfl rfl rfl (fun K hK => ?_)
  refine ⟨fun wq hq => ?_, fun u ⟨kaB, kcB, caB, ccB, paB, pcB, hu⟩ => hK _ ?_⟩
  · go_simp
    refine (h78b.out _ _ _ (D2.out.ext hq) (Sl.nil _)).mono ?_
    rintro e w7 ⟨r, rfl, hD, x7⟩
    obtain ⟨ka2, kc2, ca2, cc2, pa2, pc2, rfl⟩ := hD.formN (N := 2) (M := 0) (L := 0) (f := -1) (b := true) rfl rfl rfl rfl rfl
    exact ⟨_, rfl, x7, ⟨_, _, _, _, _, _, rfl⟩, hD⟩
  clear hK K
  subst hu
  refine Soft.loud2_step0 rfl rfl rfl rfl (fun K hK => ?_)
  refine ⟨fun wq hq => ?_, fun u ⟨nA, hu⟩ => hK _ ?_⟩
  · go_simp
    exact ⟨(Ext.refl _).alloc _, ⟨_, rfl⟩, Soft.box5_new hq.size⟩
  clear hK K
  subst hu
  refine Soft.loud2_step0 rfl rfl rfl rfl (fun K hK => ?_)
  refine ⟨fun wq hq => ?_, fun u ⟨nB, hu⟩ => hK _ ?_⟩
  · go_simp
    exact ⟨(Ext.refl _).alloc _, ⟨_, rfl⟩, Soft.box5_new hq.size⟩
  clear hK K
  subst hu
  refine Soft.tail2_forced [_, _] (by kernel_rfl) rfl (fun w4 x4 k4 ap => ?_)
  have DA := k4.get 2 rfl rfl
  have DB := k4.get 4 rfl rfl
  obtain ⟨hnA, bzA⟩ := Soft.box5_at (k4.get 5 rfl rfl) rfl
  obtain ⟨hnB, bzB⟩ := Soft.box5_at (k4.get 6 rfl rfl) rfl
  have hAB := ap.get 5 6 (by decide) (by decide) (by decide) rfl rfl
  have hAB : nA ≠ nB := fun e => hAB (by subst e; rfl)
  clear ap k4 ld x2
  replace DA := (DA.boxed bzA (.inl rfl) : DiskIn (putBox nA (.slice kaA 2 kcA) (.slice caA 0 ccA) (-1) (.slice paA 0 pcA) true w4) _ _)
  replace DB := (DB.boxed bzA (.inl rfl) : DiskIn (putBox nA (.slice kaA 2 kcA) (.slice caA 0 ccA) (-1) (.slice paA 0 pcA) true w4) _ _)
  have bA := (putBox_box bzA : Box nA _ (putBox nA (.slice kaA 2 kcA) (.slice caA 0 ccA) (-1) (.slice paA 0 pcA) true w4))
  have x4 := putBox_ext (n := nA) (k := .slice kaA 2 kcA) (c := .slice caA 0 ccA) (f := -1) (p := .slice paA 0 pcA) (b := true) x4 hnA
  have bzB' := (putBox_other bzB hAB : Box nB _ (putBox nA (.slice kaA 2 kcA) (.slice caA 0 ccA) (-1) (.slice paA 0 pcA) true w4))
  replace DA := (DA.boxed bzB' (.inl rfl) : DiskIn (putBox nB (.slice kaB 2 kcB) (.slice caB 0 ccB) (-1) (.slice paB 0 pcB) true (putBox nA (.slice kaA 2 kcA) (.slice caA 0 ccA) (-1) (.slice paA 0 pcA) true w4)) _ _)
  replace DB := (DB.boxed bzB' (.inl rfl) : DiskIn (putBox nB (.slice kaB 2 kcB) (.slice caB 0 ccB) (-1) (.slice paB 0 pcB) true (putBox nA (.slice kaA 2 kcA) (.slice caA 0 ccA) (-1) (.slice paA 0 pcA) true w4)) _ _)
  have bB := (putBox_box bzB' : Box nB _ (putBox nB (.slice kaB 2 kcB) (.slice caB 0 ccB) (-1) (.slice paB 0 pcB) true (putBox nA (.slice kaA 2 kcA) (.slice caA 0 ccA) (-1) (.slice paA 0 pcA) true w4)))
  have bA := (putBox_other bA hAB.symm : Box nA _ (putBox nB (.slice kaB 2 kcB) (.slice caB 0 ccB) (-1) (.slice paB 0 pcB) true (putBox nA (.slice kaA 2 kcA) (.slice caA 0 ccA) (-1) (.slice paA 0 pcA) true w4)))
  have x4 := putBox_ext (n := nB) (k := .slice kaB 2 kcB) (c := .slice caB 0 ccB) (f := -1) (p := .slice paB 0 pcB) (b := true) x4 hnB
  obtain ⟨z0, f0, f1, f2, f3, f4⟩ := bzA.at5
  obtain ⟨z0, z1, z2, z3, z4⟩ := z0
  obtain ⟨_, f5, f6, f7, f8, f9⟩ := bzB.at5
  obtain ⟨⟨y0, y1, y2, y3, y4⟩, _⟩ := bzB'.at5
  unfold putBox at DA DB bA bB x4 y0 y1 y2 y3 y4
  clear bzB'
  replace DA := Lib.hid DA; replace DB := Lib.hid DB; replace bA := Lib.hid bA; replace bB := Lib.hid bB; replace bzA := Lib.hid bzA; replace bzB := Lib.hid bzB; replace hAB := Lib.hid hAB
  go_wp2_with fail
  rw [Soft.NoP_normal]
  replace b1 := Lib.hid (b1.out.ext x4); replace D1 := Lib.hid (D1.out.ext x4); replace x1 := x1.trans x4
  clear x4 bzA bzB f0 f1 f2 f3 f4 f5 f6 f7 f8 f9 y0 y1 y2 y3 y4 z0 z1 z2 z3 z4
  generalize ((((((((((w4.setCell ⟨nA, 0, none⟩ _).setCell ⟨nA, 1, none⟩ _).setCell ⟨nA, 2, none⟩ _).setCell ⟨nA, 3, none⟩ _).setCell ⟨nA, 4, none⟩ _).setCell ⟨nB, 0, none⟩ _).setCell ⟨nB, 1, none⟩ _).setCell ⟨nB, 2, none⟩ _).setCell ⟨nB, 3, none⟩ _).setCell ⟨nB, 4, none⟩ _) = W4 at *
  obtain ⟨⟨g0, g1, g2, g3, g4⟩, _⟩ := b1.out.at5
  go_wp2_with fail
  clear g0 g1 g2 g3 g4
  refine (h63.out _ _ D1.out).mono ?_; rintro e w5 ⟨r5, rfl, D5, x5⟩
  replace b1 := Lib.hid (b1.out.ext x5); replace D1 := Lib.hid (D1.out.ext x5); replace DA := Lib.hid (DA.out.ext x5); replace DB := Lib.hid (DB.out.ext x5); replace bA := Lib.hid (bA.out.ext x5); replace bB := Lib.hid (bB.out.ext x5); replace x1 := x1.trans x5
  replace D5 := Lib.hid D5
  go_wp2_with fail
  refine (h65a.out _).mono ?_; rintro e w6 ⟨rfl, x6⟩
  replace b1 := Lib.hid (b1.out.ext x6); replace D1 := Lib.hid (D1.out.ext x6); replace DA := Lib.hid (DA.out.ext x6); replace DB := Lib.hid (DB.out.ext x6); replace bA := Lib.hid (bA.out.ext x6); replace bB := Lib.hid (bB.out.ext x6); replace D5 := Lib.hid (D5.out.ext x6); replace x1 := x1.trans x6
  go_wp2_with fail
  refine (h64a.out _ _ D5.out).mono ?_; rintro e w7 ⟨r7, rfl, D7, x7⟩
  replace b1 := Lib.hid (b1.out.ext x7); replace D1 := Lib.hid (D1.out.ext x7); replace DA := Lib.hid (DA.out.ext x7); replace DB := Lib.hid (DB.out.ext x7); replace bA := Lib.hid (bA.out.ext x7); replace bB := Lib.hid (bB.out.ext x7); replace x1 := x1.trans x7
  clear D5
  obtain ⟨ka7, kc7, ca7, cc7, pa7, pc7, rfl⟩ := D7.formN (N := 2) (M := 0) (L := 0) (f := -1) (b := true) rfl rfl rfl rfl rfl
  clear D7
  have b9 := Box.new w7 (diskL (.slice ka7 2 kc7) (.slice ca7 0 cc7) (-1) (.slice pa7 0 pc7) true) 69
  have x7 : Ext w7 (w7.alloc (.cells #[.slice ka7 2 kc7, .slice ca7 0 cc7, .int .i64 (-1), .slice pa7 0 pc7, .bool true] 69)) := (Ext.refl w7).alloc _
  replace b1 := Lib.hid (b1.out.ext x7); replace D1 := Lib.hid (D1.out.ext x7); replace DA := Lib.hid (DA.out.ext x7); replace DB := Lib.hid (DB.out.ext x7); replace bA := Lib.hid (bA.out.ext x7); replace bB := Lib.hid (bB.out.ext x7); replace x1 := x1.trans x7
  replace b9 := Lib.hid b9
  clear x7
  obtain ⟨⟨g0, g1, g2, g3, g4⟩, _⟩ := bA.out.at5
  go_wp2_with fail
  clear g0 g1 g2 g3 g4
  refine (h80a.out _ _ DA.out).mono ?_; rintro e w8 ⟨r8, rfl, D8, x8⟩
  replace b1 := Lib.hid (b1.out.ext x8); replace D1 := Lib.hid (D1.out.ext x8); replace DA := Lib.hid (DA.out.ext x8); replace DB := Lib.hid (DB.out.ext x8); replace bA := Lib.hid (bA.out.ext x8); replace bB := Lib.hid (bB.out.ext x8); replace b9 := Lib.hid (b9.out.ext x8); replace x1 := x1.trans x8
  replace D8 := Lib.hid D8
  go_wp2_with fail
  refine (h68a.out _ _ D8.out).mono ?_; rintro e w9 ⟨rfl, x9⟩
  replace b1 := Lib.hid (b1.out.ext x9); replace D1 := Lib.hid (D1.out.ext x9); replace DA := Lib.hid (DA.out.ext x9); replace DB := Lib.hid (DB.out.ext x9); replace bA := Lib.hid (bA.out.ext x9); replace bB := Lib.hid (bB.out.ext x9); replace b9 := Lib.hid (b9.out.ext x9); replace x1 := x1.trans x9
  clear D8
  obtain ⟨⟨g0, g1, g2, g3, g4⟩, _⟩ := bB.out.at5
  go_wp2_with fail
  clear g0 g1 g2 g3 g4
  refine (h80b.out _ _ DB.out).mono ?_; rintro e w10 ⟨r10, rfl, D10, x10⟩
  replace b1 := Lib.hid (b1.out.ext x10); replace D1 := Lib.hid (D1.out.ext x10); replace DA := Lib.hid (DA.out.ext x10); replace DB := Lib.hid (DB.out.ext x10); replace bA := Lib.hid (bA.out.ext x10); replace bB := Lib.hid (bB.out.ext x10); replace b9 := Lib.hid (b9.out.ext x10); replace x1 := x1.trans x10
  replace D10 := Lib.hid D10
  go_wp2_with fail
  refine (h68b.out _ _ D10.out).mono ?_; rintro e w11 ⟨rfl, x11⟩
  replace b1 := Lib.hid (b1.out.ext x11); replace D1 := Lib.hid (D1.out.ext x11); replace DA := Lib.hid (DA.out.ext x11); replace DB := Lib.hid (DB.out.ext x11); replace bA := Lib.hid (bA.out.ext x11); replace bB := Lib.hid (bB.out.ext x11); replace b9 := Lib.hid (b9.out.ext x11); replace x1 := x1.trans x11
  clear D10
  obtain ⟨⟨g0, g1, g2, g3, g4⟩, _⟩ := bA.out.at5
  go_wp2_with fail
  clear g0 g1 g2 g3 g4
  refine (h68c.out _ _ DA.out).mono ?_; rintro e w12 ⟨rfl, x12⟩
  replace b1 := Lib.hid (b1.out.ext x12); replace D1 := Lib.hid (D1.out.ext x12); replace DA := Lib.hid (DA.out.ext x12); replace DB := Lib.hid (DB.out.ext x12); replace bA := Lib.hid (bA.out.ext x12); replace bB := Lib.hid (bB.out.ext x12); replace b9 := Lib.hid (b9.out.ext x12); replace x1 := x1.trans x12
  clear DA DB bA bB
  go_wp2_with fail
  refine (h62a.out _).mono ?_; rintro e w13 ⟨r13, rfl, D13, x13⟩
  replace b1 := Lib.hid (b1.out.ext x13); replace D1 := Lib.hid (D1.out.ext x13); replace b9 := Lib.hid (b9.out.ext x13); replace x1 := x1.trans x13
  obtain ⟨ka3, kc3, ca3, cc3, pa3, pc3, rfl⟩ := D13.formN (N := 0) (M := 0) (L := 0) (f := 0) (b := false) rfl rfl rfl rfl rfl
  clear D13
  have x14 : Ext w13 (w13.alloc (.cells #[.slice ka3 0 kc3, .slice ca3 0 cc3, .int .i64 0, .slice pa3 0 pc3, .bool false] 69)) := (Ext.refl w13).alloc _
  replace b1 := Lib.hid (b1.out.ext x14); replace D1 := Lib.hid (D1.out.ext x14); replace b9 := Lib.hid (b9.out.ext x14); replace x1 := x1.trans x14
  go_wp2_with fail
  refine (h65.out _).mono ?_; rintro e w15 ⟨rfl, x15⟩
  replace b1 := Lib.hid (b1.out.ext x15); replace D1 := Lib.hid (D1.out.ext x15); replace b9 := Lib.hid (b9.out.ext x15); replace x1 := x1.trans x15
  go_wp2_with fail
  refine (h65.out _).mono ?_; rintro e w16 ⟨rfl, x16⟩
  replace b1 := Lib.hid (b1.out.ext x16); replace D1 := Lib.hid (D1.out.ext x16); replace b9 := Lib.hid (b9.out.ext x16); replace x1 := x1.trans x16
  go_wp2_with fail
  refine (h66.out _).mono ?_; rintro e w17 ⟨rfl, x17⟩
  replace b1 := Lib.hid (b1.out.ext x17); replace D1 := Lib.hid (D1.out.ext x17); replace b9 := Lib.hid (b9.out.ext x17); replace x1 := x1.trans x17
  obtain ⟨⟨g0, g1, g2, g3, g4⟩, _⟩ := b1.out.at5
  obtain ⟨⟨_, _, _, _, y4⟩, _⟩ := b9.out.at5
  go_wp2_with fail
  clear g0 g1 g2 g3 g4 y4
  refine (h73.out _ _ D1.out).mono ?_; rintro e w18 ⟨rfl, x18⟩
  replace b1 := Lib.hid (b1.out.ext x18); replace D1 := Lib.hid (D1.out.ext x18); replace b9 := Lib.hid (b9.out.ext x18); replace x1 := x1.trans x18
  obtain ⟨⟨g0, g1, g2, g3, g4⟩, _⟩ := b1.out.at5
  go_wp2_with fail
  go_ret
  exact ⟨rfl, x1⟩
end Go.Proofs.Ytehidhcpdiameaa
