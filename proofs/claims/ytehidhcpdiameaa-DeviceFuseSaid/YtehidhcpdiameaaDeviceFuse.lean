/- The statement DeviceFuse: the law's own walk. (Printed by wip/devfuse.py.) -/
import Derived.Test.YtehidhcpdiameaaDevLaw
namespace Go.Proofs.Ytehidhcpdiameaa
open Go.RowKit

namespace Dev
/-- what is written, sector by sector. -/
def fuseS (F : Nat) (j : Nat) : ByteArray := if j = F then sect 255 else sect (UInt8.ofNat (j + 1))
/-- the armed disk behind n writes. -/
def armed (F : Nat) (l : List Bool) (n : Nat) : Disk := ⟨List.replicate 60 zero, wrote (fuseS F) n, (F : Int) - (n : Int), l, false⟩
def fused (F : Nat) (l : List Bool) : Disk := ⟨putSome (List.replicate 60 zero) (wrote (fuseS F) (F + 1)) l, [], -1, [], true⟩
theorem fuseS_size (F j : Nat) : (fuseS F j).size = 32 := by unfold fuseS; split <;> exact sect_size _
theorem fuseS_ne (F j : Nat) (hj : j < 255) : fuseS F j ≠ zero := by
  unfold fuseS
  split
  · exact sect_ne _ (by decide)
  · refine sect_ne _ (fun e => ?_)
    have := congrArg UInt8.toNat e
    rw [UInt8.toNat_ofNat'] at this
    simp at this
    omega
theorem wrote_mem {S : Nat → ByteArray} {n : Nat} {p : Put} (h : p ∈ wrote S n) : ∃ j, j < n ∧ p = ((j : Int), S j) := by
  unfold wrote at h
  obtain ⟨j, h1, h2⟩ := List.mem_map.1 h
  exact ⟨j, List.mem_range.1 h1, h2.symm⟩
theorem armed_may (F : Nat) (l : List Bool) (n : Nat) (hF : F ≤ 50) (hn : n ≤ F) : may (armed F l n) = true := by
  rw [may_iff]
  unfold armed
  refine ⟨⟨by simp, by simp, by dsimp only; rw [wrote_length]; omega, by dsimp only; omega⟩, fun s hs => ?_, fun p hp => ?_⟩
  · rw [List.eq_of_mem_replicate hs]; exact zero_size
  · obtain ⟨j, hj, rfl⟩ := wrote_mem hp
    exact ⟨⟨Int.natCast_nonneg _, by simp only [List.length_replicate]; omega⟩, fuseS_size F j⟩
theorem fuse_new : new 60 = (⟨List.replicate 60 zero, [], -1, [], false⟩, 0) := by unfold new; rw [if_neg (by decide)]; rfl
theorem fuse_arm (F : Nat) (l : List Bool) : arm ⟨List.replicate 60 zero, [], -1, [], false⟩ F l = armed F l 0 := by
  have hm : may ⟨List.replicate 60 zero, [], -1, [], false⟩ = true := by decide +kernel
  unfold arm
  rw [if_neg (by rw [hm]; decide)]
  unfold armed
  rw [show wrote (fuseS F) 0 = [] from rfl]
  congr 1
  omega
theorem armed_more (F : Nat) (l : List Bool) (n : Nat) : (more (armed F l n) n (fuseS F n)).cache = wrote (fuseS F) (n + 1) := by
  rw [wrote_succ]; rfl
theorem armed_write (F : Nat) (l : List Bool) (n : Nat) (hF : F ≤ 50) (hn : n < F) : write (armed F l n) n (fuseS F n) = (armed F l (n + 1), 0) := by
  have hm := armed_may F l n hF (by omega)
  have hc := armed_more F l n
  unfold write
  rw [if_neg (by rw [hm]; decide), if_neg (by show ¬ (false = true); decide), if_neg, if_neg]
  · congr 1
    unfold armed at hc ⊢
    unfold more at hc ⊢
    dsimp only at hc ⊢
    rw [hc, if_pos (by omega)]
    congr 1
    omega
  · show ¬ (F : Int) - n = 0
    omega
  · rw [fuseS_size]
    unfold armed
    simp only [List.length_replicate, wrote_length]
    omega
theorem armed_die (F : Nat) (l : List Bool) (hF : F ≤ 50) : write (armed F l F) F (fuseS F F) = (fused F l, 90) := by
  have hm := armed_may F l F hF (by omega)
  have hc := armed_more F l F
  unfold write
  rw [if_neg (by rw [hm]; decide), if_neg (by show ¬ (false = true); decide), if_neg, if_pos]
  · congr 1
    unfold dieOf fused
    rw [hc]
    rfl
  · show (F : Int) - F = 0
    omega
  · rw [fuseS_size]
    unfold armed
    simp only [List.length_replicate, wrote_length]
    omega
theorem fused_length (F : Nat) (l : List Bool) : (fused F l).kept.length = 60 := by unfold fused; rw [putSome_length]; simp
theorem fused_at (F : Nat) (l : List Bool) (hF : F ≤ 50) (i : Nat) (hi : i ≤ F) (hl : i < (fused F l).kept.length) : (fused F l).kept[i] = if l.getD i false = true then fuseS F i else zero := by
  have h := putSome_wrote (fuseS F) l (List.replicate 60 zero) (F + 1) (by simp; omega) i (by simp; omega)
  have h2 : (fused F l).kept[i] = (putSome (List.replicate 60 zero) (wrote (fuseS F) (F + 1)) l).getD i empty := by
    have hl' : i < (putSome (List.replicate 60 zero) (wrote (fuseS F) (F + 1)) l).length := hl
    rw [List.getD_eq_getElem?_getD, List.getElem?_eq_getElem hl']; rfl
  rw [h2, h]
  by_cases hk : l.getD i false = true
  · rw [if_pos ⟨by omega, hk⟩, if_pos hk]
  · rw [if_neg (fun h => hk h.2), if_neg hk, List.getD_eq_getElem?_getD, List.getElem?_replicate, if_pos (by omega)]
    rfl
end Dev

theorem diskL_cell {n : Nat} {w : World} {a1 a2 a3 : Option Addr} {n1 n2 n3 m1 m2 m3 : Nat} {f0 : Int} {b0 : Bool} (h : Box n (diskL (.slice a1 n1 m1) (.slice a2 n2 m2) f0 (.slice a3 n3 m3) b0) w) {j : Nat} (hj : j < 5) {x : Value} (hx : w.cell? ⟨n, j, none⟩ = some x) :
    ((∃ a n m, x = .slice a n m) ∧ j ≠ 2 ∧ j ≠ 4) ∨ (x = .int .i64 f0 ∧ j = 2) ∨ (x = .bool b0 ∧ j = 4) := by
  match j, hj with
  | 0, _ => rw [h.cell 0 _ rfl] at hx; cases hx; exact .inl ⟨⟨_, _, _, rfl⟩, by decide, by decide⟩
  | 1, _ => rw [h.cell 1 _ rfl] at hx; cases hx; exact .inl ⟨⟨_, _, _, rfl⟩, by decide, by decide⟩
  | 2, _ => rw [h.cell 2 _ rfl] at hx; cases hx; exact .inr (.inl ⟨rfl, rfl⟩)
  | 3, _ => rw [h.cell 3 _ rfl] at hx; cases hx; exact .inl ⟨⟨_, _, _, rfl⟩, by decide, by decide⟩
  | 4, _ => rw [h.cell 4 _ rfl] at hx; cases hx; exact .inr (.inr ⟨rfl, rfl⟩)
theorem reboxed_box {n : Nat} {k0 c0 p0 k c p : Value} {f0 f : Int} {b0 b : Bool} {w : World} (h : Box n (diskL k0 c0 f0 p0 b0) w) : Box n (diskL k c f p b) (putBox n k c f p b w) :=
  ((((h.set 0 k (by simp)).set 1 c (by simp)).set 2 (.int .i64 f) (by simp)).set 3 p (by simp)).set 4 (.bool b) (by simp)
/-- a disk that is written over another one, in that one's box, lies as it lay, if both live. -/
theorem DiskIn.reboxed {n : Nat} {a1 a2 a3 : Option Addr} {n1 n2 n3 m1 m2 m3 : Nat} {f0 : Int} {b0 : Bool} {k c : Value} {f : Int} {p : Value} {b : Bool} {w : World} {v : Value} {d : Dev.Disk}
    (hz : Box n (diskL (.slice a1 n1 m1) (.slice a2 n2 m2) f0 (.slice a3 n3 m3) b0) w) (h : DiskIn w v d) (hk : b = b0) : DiskIn (putBox n k c f p b w) v d := by
  obtain ⟨k', c', p', e, h1, h2, h3, h4, h5⟩ := h
  refine ⟨k', c', p', e, ?_, ?_, ?_, h4, h5⟩
  · obtain ⟨a, cc, e1, hl, hm, hc⟩ := h1
    refine ⟨a, cc, e1, hl, hm, fun hne => ?_⟩
    obtain ⟨m, o, e2, hb, hcell⟩ := hc hne
    refine ⟨m, o, e2, by rw [putBox_size]; exact hb, fun i x hi => ?_⟩
    have hx := hcell i x hi
    by_cases hh : m ≠ n ∨ 5 ≤ o + i
    · rw [putBox_far hh]; exact hx
    · exfalso
      have hmn : m = n := Classical.byContradiction fun h => hh (.inl h)
      subst hmn
      rw [List.getElem?_map] at hi
      obtain ⟨s, _, rfl⟩ := Option.map_eq_some_iff.1 hi
      rcases diskL_cell hz (by omega) hx with ⟨⟨_, _, _, h⟩, _⟩ | ⟨h, _⟩ | ⟨h, _⟩ <;> cases h
  · obtain ⟨a, cc, e1, hl, hm, hc⟩ := h2
    refine ⟨a, cc, e1, hl, hm, fun hne => ?_⟩
    obtain ⟨m, o, e2, hb, hcell⟩ := hc hne
    refine ⟨m, o, e2, by rw [putBox_size]; exact hb, fun i x hi => ?_⟩
    have hx := hcell i x hi
    by_cases hh : m ≠ n ∨ 5 ≤ o + i
    · rw [putBox_far hh]; exact hx
    · exfalso
      have hmn : m = n := Classical.byContradiction fun h => hh (.inl h)
      subst hmn
      have hlt : i < (putCells d.cache).length := (List.getElem?_eq_some_iff.1 hi).1
      rw [putCells_length] at hlt
      have hj : i / 2 < d.cache.length := by omega
      have hp := putCells_at d.cache (i / 2) hj
      rcases Nat.mod_two_eq_zero_or_one i with hr | hr
      · rw [show i / 2 * 2 = i from by omega] at hp
        rw [hp.1, Option.some.injEq] at hi
        subst hi
        rcases diskL_cell hz (by omega) hx with ⟨⟨_, _, _, h⟩, _⟩ | ⟨_, h2⟩ | ⟨h, _⟩
        · cases h
        · have hx2 := hcell (i + 1) _ hp.2
          rcases diskL_cell hz (by omega) hx2 with ⟨⟨_, _, _, h⟩, _⟩ | ⟨h, _⟩ | ⟨h, _⟩ <;> cases h
        · cases h
      · rw [show i / 2 * 2 + 1 = i from by omega] at hp
        rw [hp.2, Option.some.injEq] at hi
        subst hi
        rcases diskL_cell hz (by omega) hx with ⟨⟨_, _, _, h⟩, _⟩ | ⟨h, _⟩ | ⟨h, _⟩ <;> cases h
  · obtain ⟨a, cc, e1, hl, hm, hc⟩ := h3
    refine ⟨a, cc, e1, hl, hm, fun hne => ?_⟩
    obtain ⟨m, o, e2, hb, hcell⟩ := hc hne
    refine ⟨m, o, e2, by rw [putBox_size]; exact hb, fun i x hi => ?_⟩
    have hx := hcell i x hi
    by_cases hh : m ≠ n ∨ 5 ≤ o + i
    · rw [putBox_far hh]; exact hx
    · have hmn : m = n := Classical.byContradiction fun h => hh (.inl h)
      subst hmn
      rw [List.getElem?_map] at hi
      obtain ⟨s, _, rfl⟩ := Option.map_eq_some_iff.1 hi
      rcases diskL_cell hz (by omega) hx with ⟨⟨_, _, _, h⟩, _⟩ | ⟨h, _⟩ | ⟨h, h2⟩
      · cases h
      · cases h
      · rw [h2, h, ← hk]
        exact (reboxed_box (k := k) (c := c) (f := f) (p := p) (b := b) hz).cell 4 _ rfl

set_option maxRecDepth 100000 in
set_option maxHeartbeats 16000000 in
theorem deviceFuse_no0 (w : World) (fuse : Int) (l : List Bool) (kv : Value) (hl : Sl w kv (l.map boolV)) (h0 : fuse < 0) :
    Calls Try.prog 18 #[.int .i64 fuse, kv] w fun e w' => e = .returned (.bool true) ∧ Ext w w' := by
  obtain ⟨la, lc, rfl, hlc, hlm, hkc⟩ := sl_bool_at hl
  clear hkc hl hlc hlm
  have y : Ext w w := Ext.refl w
  replace y := Lib.hid y
  have n1 : decide (fuse < 0) = true := decide_eq_true (by omega)
  go_enter Try.func18, Try.ntmps18
  go_wp2_with fail
  refine (fixed09 _).mono ?_; rintro e w1 ⟨rfl, x1⟩
  replace y := Lib.hid (y.out.trans x1)
  clear x1
  go_wp2_with fail
  refine (fixed09 _).mono ?_; rintro e w2 ⟨rfl, x2⟩
  replace y := Lib.hid (y.out.trans x2)
  clear x2
  go_wp2_with fail
  go_ret
  exact ⟨rfl, y.out⟩

set_option maxRecDepth 100000 in
set_option maxHeartbeats 16000000 in
theorem deviceFuse_no1 (w : World) (fuse : Int) (l : List Bool) (kv : Value) (hl : Sl w kv (l.map boolV)) (h0 : ¬ fuse < 0) (h1 : 50 < fuse) :
    Calls Try.prog 18 #[.int .i64 fuse, kv] w fun e w' => e = .returned (.bool true) ∧ Ext w w' := by
  obtain ⟨la, lc, rfl, hlc, hlm, hkc⟩ := sl_bool_at hl
  clear hkc hl hlc hlm
  have y : Ext w w := Ext.refl w
  replace y := Lib.hid y
  have n1 : decide (fuse < 0) = false := decide_eq_false (by omega)
  have n2 : decide (fuse > 50) = true := decide_eq_true (by omega)
  go_enter Try.func18, Try.ntmps18
  go_wp2_with fail
  refine (fixed09 _).mono ?_; rintro e w1 ⟨rfl, x1⟩
  replace y := Lib.hid (y.out.trans x1)
  clear x1
  go_wp2_with fail
  refine (fixed09 _).mono ?_; rintro e w2 ⟨rfl, x2⟩
  replace y := Lib.hid (y.out.trans x2)
  clear x2
  go_wp2_with fail
  go_ret
  exact ⟨rfl, y.out⟩

set_option maxRecDepth 100000 in
set_option maxHeartbeats 16000000 in
theorem deviceFuse_no2 (w : World) (fuse : Int) (l : List Bool) (kv : Value) (hl : Sl w kv (l.map boolV)) (h0 : ¬ fuse < 0) (h1 : ¬ 50 < fuse) (h2 : 400 < l.length) :
    Calls Try.prog 18 #[.int .i64 fuse, kv] w fun e w' => e = .returned (.bool true) ∧ Ext w w' := by
  obtain ⟨la, lc, rfl, hlc, hlm, hkc⟩ := sl_bool_at hl
  clear hkc hl hlc hlm
  have y : Ext w w := Ext.refl w
  replace y := Lib.hid y
  have n1 : decide (fuse < 0) = false := decide_eq_false (by omega)
  have n2 : decide (fuse > 50) = false := decide_eq_false (by omega)
  have n3 : decide ((l.length : Int) > 400) = true := decide_eq_true (by omega)
  go_enter Try.func18, Try.ntmps18
  go_wp2_with fail
  refine (fixed09 _).mono ?_; rintro e w1 ⟨rfl, x1⟩
  replace y := Lib.hid (y.out.trans x1)
  clear x1
  go_wp2_with fail
  refine (fixed09 _).mono ?_; rintro e w2 ⟨rfl, x2⟩
  replace y := Lib.hid (y.out.trans x2)
  clear x2
  go_wp2_with fail
  go_ret
  exact ⟨rfl, y.out⟩

set_option maxRecDepth 100000 in
set_option maxHeartbeats 16000000 in
theorem deviceFuse_live (w : World) (F : Nat) (l : List Bool) (kv : Value) (hl : Sl w kv (l.map boolV)) (hF : F ≤ 50) (h2 : l.length ≤ 400) :
    Calls Try.prog 18 #[.int .i64 F, kv] w fun e w' => e = .returned (.bool true) ∧ Ext w w' := by
  have c0 := new9_any 60
  rw [Dev.fuse_new] at c0
  have c1 := fun v kp w h hk => arm9_any ⟨List.replicate 60 Dev.zero, [], -1, [], false⟩ v (F : Int) kp l w h hk (by simp) (by omega) (by omega)
  rw [Dev.fuse_arm] at c1
  have c2 : ∀ (n : Nat) v w, n < F → DiskIn w v (Dev.armed F l n) → Calls Try.prog 64 #[v, .int .i64 n, .string (Dev.fuseS F n)] w fun e w' => ∃ r, e = .returned (.tuple #[r, .int .i64 0]) ∧ DiskIn w' r (Dev.armed F l (n + 1)) ∧ Ext w w' := fun n v w hn h => by
    have := write9_any (Dev.armed F l n) v n (Dev.fuseS F n) w h (by show l.length ≤ 1000000; omega) (by show (F : Int) - n ≤ _; omega)
    rwa [Dev.armed_write F l n hF hn] at this
  have c3 : ∀ v w, DiskIn w v (Dev.armed F l F) → Calls Try.prog 64 #[v, .int .i64 F, .string (Dev.fuseS F F)] w fun e w' => ∃ r, e = .returned (.tuple #[r, .int .i64 90]) ∧ DiskIn w' r (Dev.fused F l) ∧ Ext w w' := fun v w h => by
    have := write9_any (Dev.armed F l F) v F (Dev.fuseS F F) w h (by show l.length ≤ 1000000; omega) (by show (F : Int) - F ≤ _; omega)
    rwa [Dev.armed_die F l hF] at this
  have c4 : ∀ (n : Nat) w, n < F → Calls Try.prog 65 #[.int .u8 ((n : Int) + 1)] w fun e w' => e = .returned (.string (Dev.fuseS F n)) ∧ Ext w w' := fun n w hn => by
    have := sector_any (UInt8.ofNat (n + 1)) w
    rw [show byteV (UInt8.ofNat (n + 1)) = .int .u8 ((n : Int) + 1) from by unfold byteV; rw [UInt8.toNat_ofNat', Nat.mod_eq_of_lt (by omega)]; rfl] at this
    rwa [show Dev.sect (UInt8.ofNat (n + 1)) = Dev.fuseS F n from by unfold Dev.fuseS; rw [if_neg (by omega)]] at this
  have c5 : ∀ w, Calls Try.prog 65 #[.int .u8 255] w fun e w' => e = .returned (.string (Dev.fuseS F F)) ∧ Ext w w' := fun w => by
    have := sector_any 255 w
    rwa [show Dev.sect 255 = Dev.fuseS F F from by unfold Dev.fuseS; rw [if_pos rfl]] at this
  have c6 : ∀ w, Calls Try.prog 66 #[] w fun e w' => e = .returned (.string Dev.zero) ∧ Ext w w' := fun w => zeros_any w
  have hat := Dev.fused_at F l hF
  have hne : ∀ i, i ≤ F → Dev.fuseS F i ≠ Dev.zero := fun i hi => Dev.fuseS_ne F i (by omega)
  have hlen := Dev.fused_length F l
  have hk : ∀ n, (Dev.armed F l n).kept.length = 60 := fun n => by unfold Dev.armed; simp
  have hc : ∀ n, (Dev.armed F l n).cache.length = n := fun n => by unfold Dev.armed; simp [Dev.wrote_length]
  have hf : ∀ n, (Dev.armed F l n).fuse = (F : Int) - n := fun n => rfl
  have hp : ∀ n, (Dev.armed F l n).keep.length = l.length := fun n => rfl
  have hd : ∀ n, (Dev.armed F l n).dead = false := fun n => rfl
  generalize Dev.fuseS F = S at *
  generalize Dev.armed F l = AR at *
  have hE1 : (Dev.fused F l).cache = [] := rfl
  have hE2 : (Dev.fused F l).fuse = -1 := rfl
  have hE3 : (Dev.fused F l).keep = [] := rfl
  have hE4 : (Dev.fused F l).dead = true := rfl
  generalize Dev.fused F l = E at *
  generalize Dev.zero = Z at c6 hat hne
  have n1 : decide ((F : Int) < 0) = false := decide_eq_false (by omega)
  have n2 : decide ((F : Int) > 50) = false := decide_eq_false (by omega)
  have n3 : decide ((l.length : Int) > 400) = false := decide_eq_false (by omega)
  have hFi : (F : Int) ≤ 50 := by omega
  obtain ⟨la, lc, rfl, hlc, hlm, hkc⟩ := sl_bool_at hl
  have hl0 := Lib.hid hl
  replace c0 := Lib.hid c0; replace c1 := Lib.hid c1; replace c2 := Lib.hid c2; replace c3 := Lib.hid c3; replace c4 := Lib.hid c4; replace c5 := Lib.hid c5; replace c6 := Lib.hid c6; replace hat := Lib.hid hat; replace hne := Lib.hid hne; replace hlen := Lib.hid hlen; replace hk := Lib.hid hk; replace hc := Lib.hid hc; replace hf := Lib.hid hf; replace hp := Lib.hid hp; replace hd := Lib.hid hd; replace hE1 := Lib.hid hE1; replace hE2 := Lib.hid hE2; replace hE3 := Lib.hid hE3; replace hE4 := Lib.hid hE4; replace hkc := Lib.hid hkc; replace hlc := Lib.hid hlc; replace hlm := Lib.hid hlm; replace hl := Lib.hid hl
  have y : Ext w w := Ext.refl w
  replace y := Lib.hid y
  go_enter Try.func18, Try.ntmps18
  go_wp2_with fail
  refine (fixed09 _).mono ?_; rintro e w1 ⟨rfl, x1⟩
  replace hl := Lib.hid (hl.out.ext x1)
  replace y := Lib.hid (y.out.trans x1)
  clear x1
  go_wp2_with fail
  refine (c0.out _).mono ?_; rintro e w2 ⟨r2, rfl, D0, x2⟩
  replace hl := Lib.hid (hl.out.ext x2)
  replace y := Lib.hid (y.out.trans x2)
  obtain ⟨ka, kc, ca, cc, pa, pc, rfl⟩ := D0.formN (N := 60) (M := 0) (f := -1) (L := 0) (b := false) rfl rfl rfl rfl rfl
  clear x2
  replace D0 := Lib.hid D0
  have hnb0 := y.out.size
  obtain ⟨nb, hnb⟩ : ∃ nb, nb = w2.heap.size := ⟨_, rfl⟩
  rw [← hnb] at hnb0
  have xb : Ext w2 (w2.alloc (.cells #[.slice ka 60 kc, .slice ca 0 cc, .int .i64 (-1), .slice pa 0 pc, .bool false] 69)) := (Ext.refl _).alloc _
  replace hl := Lib.hid (hl.out.ext xb); replace D0 := Lib.hid (D0.out.ext xb)
  replace y := Lib.hid (y.out.trans xb)
  clear xb
  have b5 := Lib.hid (Box.new w2 [.slice ka 60 kc, .slice ca 0 cc, .int .i64 (-1), .slice pa 0 pc, .bool false] 69)
  replace b5 := b5.out; rw [← hnb] at b5; replace b5 := Lib.hid b5
  have hbx := b5.out.at5
  rw [hnb] at hbx
  obtain ⟨⟨g0, g1, g2, g3, g4⟩, _⟩ := hbx
  go_wp2_with fail
  clear g0 g1 g2 g3 g4
  refine (c1.out _ _ _ D0.out hl.out).mono ?_; rintro e w3 ⟨r3, rfl, D1, x3⟩
  replace hl := Lib.hid (hl.out.ext x3); replace D0 := Lib.hid (D0.out.ext x3); replace b5 := Lib.hid (b5.out.ext x3)
  replace y := Lib.hid (y.out.trans x3)
  clear x3 D0
  obtain ⟨ka1, kc1, ca1, cc1, pa1, pc1, rfl⟩ := D1.formN (N := 60) (M := 0) (f := (F : Int)) (L := l.length) (b := false) (hk.out 0) (hc.out 0) (by rw [hf.out]; simp) (hp.out 0) (hd.out 0)
  have D2 := (D1.reboxed b5.out rfl : DiskIn (putBox nb (.slice ka1 60 kc1) (.slice ca1 0 cc1) ((F : Int)) (.slice pa1 l.length pc1) false w3) _ _)
  have b6 := (reboxed_box b5.out : Box nb _ (putBox nb (.slice ka1 60 kc1) (.slice ca1 0 cc1) ((F : Int)) (.slice pa1 l.length pc1) false w3))
  have y2 := (putBox_ext y.out hnb0 : Ext w (putBox nb (.slice ka1 60 kc1) (.slice ca1 0 cc1) ((F : Int)) (.slice pa1 l.length pc1) false w3))
  unfold putBox at D2 b6 y2
  clear hl y D1
  obtain ⟨⟨g0, g1, g2, g3, g4⟩, f0, f1, f2, f3, f4⟩ := b5.out.at5
  subst hnb
  replace D2 := Lib.hid D2; replace b6 := Lib.hid b6; replace y2 := Lib.hid y2; replace hnb0 := Lib.hid hnb0
  go_wp2_with fail
  generalize w2.heap.size = nb at *
  clear g0 g1 g2 g3 g4 f0 f1 f2 f3 f4 b5
  generalize ((((w3.setCell ⟨nb, 0, none⟩ _).setCell ⟨nb, 1, none⟩ _).setCell ⟨nb, 2, none⟩ _).setCell ⟨nb, 3, none⟩ _).setCell ⟨nb, 4, none⟩ _ = V at *
  go_loopw [7] (fun i wr => ∃ n : Nat, n ≤ F ∧ i = .int .i64 n ∧ (∃ ka kc ca cc pa pc, Box nb (diskL (.slice ka 60 kc) (.slice ca n cc) ((F : Int) - (n : Nat)) (.slice pa l.length pc) false) wr ∧ DiskIn wr (.agg #[.slice ka 60 kc, .slice ca n cc, .int .i64 ((F : Int) - (n : Nat)), .slice pa l.length pc, .bool false]) (AR n) ∧ Ext w wr)) (fun i _ => F - (intOf i).toNat)
  case atStart =>
    have e0 : (F : Int) - ((0 : Nat) : Int) = F := by omega
    refine ⟨0, Nat.zero_le _, rfl, ka1, kc1, ca1, cc1, pa1, pc1, ?_, ?_, ?_⟩
    · rw [e0]; with_reducible exact b6.out
    · rw [e0]; with_reducible exact D2.out
    · with_reducible exact y2.out
  case round =>
    clear D2 b6 y2
    obtain ⟨n, hn, rfl, ka, kc, ca, cc, pa, pc, b5, D, hx⟩ := hrel
    replace b5 := Lib.hid b5; replace D := Lib.hid D
    by_cases hlt : n < F
    · have t1 : decide ((n : Int) < F) = true := decide_eq_true (by omega)
      have hnF : (n : Int) < F := by omega
      obtain ⟨fz, hfz⟩ : ∃ fz : Int, fz = (F : Int) - ((n : Nat) : Int) := ⟨_, rfl⟩
      obtain ⟨f1, hf1⟩ : ∃ f1 : Int, f1 = (F : Int) - ((n + 1 : Nat) : Int) := ⟨_, rfl⟩
      have hfs := hf.out (n + 1)
      rw [← hf1] at hfs
      replace b5 := b5.out; replace D := D.out
      rw [← hfz] at b5 D
      replace b5 := Lib.hid b5; replace D := Lib.hid D; replace hfs := Lib.hid hfs; replace hfz := Lib.hid hfz; replace hf1 := Lib.hid hf1
      have w1 : IntKind.i64.wrap ((n : Int) + 1) = (n : Int) + 1 := IntWalk.i64_in _ (by omega)
      have w8 : IntKind.u8.wrap ((n : Int) + 1) = (n : Int) + 1 := IntWalk.u8_in _ (by omega)
      have hs5 := b5.out.size
      go_wp2_with fail
      refine Soft.region_ext [(6, Soft.disk2 (AR (n + 1)) 60 (n + 1) l.length f1 false 0), (10, Soft.box5 wr.heap.size)] [0, 1, 2, 3, 4, 5, 6, 7, 8, 9, 10] [11, 12] (by kernel_rfl) (by kernel_rfl) (Soft.stab_more (fun _ _ _ => Soft.disk2_stab) (Soft.stab_one fun _ _ _ => Soft.box5_stab)) ?_
      (refine Soft.quiet_n rfl rfl rfl rfl (fun K hK => ?_); go_simp; apply Exists.intro; refine ⟨fun wq hq => ?_, hK _ ?_⟩; (obtain ⟨⟨gg0, gg1, gg2, gg3, gg4⟩, _⟩ := (b5.out.ext hq).at5; go_simp; with_reducible rfl); clear hK K)
      repeat (refine Soft.pure_n rfl rfl rfl rfl (fun K hK => ?_); go_simp; refine hK _ ?_; clear hK K)
      (refine Soft.quiet_n rfl rfl rfl rfl (fun K hK => ?_); go_simp; apply Exists.intro; refine ⟨fun wq hq => ?_, hK _ ?_⟩; rfl; clear hK K)
      (refine Soft.quiet_n rfl rfl rfl rfl (fun K hK => ?_); go_simp; apply Exists.intro; refine ⟨fun wq hq => ?_, hK _ ?_⟩; (with_reducible exact c4.out _ _ hlt); clear hK K)
      refine Soft.loud_step0 rfl rfl rfl rfl (fun K hK => ?_)
      refine ⟨fun wq hq => ?_, fun u ⟨ka3, kc3, ca3, cc3, pa3, pc3, hu⟩ => hK _ ?_⟩
      · go_simp
        refine (c2.out _ _ _ hlt (D.out.ext hq)).mono ?_
        rintro e w7 ⟨r, rfl, hD, x7⟩
        obtain ⟨ka2, kc2, ca2, cc2, pa2, pc2, rfl⟩ := hD.formN (N := 60) (M := n + 1) (L := l.length) (f := f1) (b := false) (hk.out _) (hc.out _) hfs.out (hp.out _) (hd.out _)
        exact ⟨_, rfl, x7, ⟨_, _, _, _, _, _, rfl⟩, ⟨_, rfl, hD⟩⟩
      clear hK K
      subst hu
      repeat (refine Soft.pure_n rfl rfl rfl rfl (fun K hK => ?_); go_simp; refine hK _ ?_; clear hK K)
      refine Soft.loud_step0 rfl rfl rfl rfl (fun K hK => ?_)
      refine ⟨fun wq hq => ?_, fun u ⟨m, hu⟩ => hK _ ?_⟩
      · go_simp
        exact ⟨(Ext.refl _).alloc _, ⟨_, rfl⟩, Soft.box5_new hq.size⟩
      clear hK K
      subst hu
      refine Soft.tail_forced [_, _] (by kernel_rfl) rfl (fun w2 x2 k2 => ?_)
      have D2 := Soft.disk2_at (k2.get 6 rfl rfl)
      obtain ⟨hm, bz⟩ := Soft.box5_at (k2.get 10 rfl rfl) rfl
      have D2 := (D2.boxed bz (.inr rfl) : DiskIn (putBox m (.slice ka3 60 kc3) (.slice ca3 (n + 1) cc3) (f1) (.slice pa3 l.length pc3) false w2) _ _)
      have x2 := (putBox_ext x2 hm : Ext wr (putBox m (.slice ka3 60 kc3) (.slice ca3 (n + 1) cc3) (f1) (.slice pa3 l.length pc3) false w2))
      have b2 := (putBox_box bz : Box m _ (putBox m (.slice ka3 60 kc3) (.slice ca3 (n + 1) cc3) (f1) (.slice pa3 l.length pc3) false w2))
      obtain ⟨_, f0, f1, f2, f3, f4⟩ := bz.at5
      obtain ⟨⟨z0, z1, z2, z3, z4⟩, _⟩ := bz.at5
      clear k2
      unfold putBox at D2 x2 b2
      replace D2 := Lib.hid D2; replace b2 := Lib.hid b2; replace bz := Lib.hid bz
      go_wp2_with fail
      rw [Soft.NoP_normal]
      replace b5 := Lib.hid (b5.out.ext x2)
      have hx2 := Lib.hid (hx.trans x2)
      clear bz f0 f1 f2 f3 f4 z0 z1 z2 z3 z4 hx x2 D
      generalize ((((w2.setCell ⟨m, 0, none⟩ _).setCell ⟨m, 1, none⟩ _).setCell ⟨m, 2, none⟩ _).setCell ⟨m, 3, none⟩ _).setCell ⟨m, 4, none⟩ _ = W2 at *
      have D3 := (D2.out.reboxed b5.out rfl : DiskIn (putBox nb (.slice ka3 60 kc3) (.slice ca3 (n + 1) cc3) (f1) (.slice pa3 l.length pc3) false W2) _ _)
      have b3 := (reboxed_box b5.out : Box nb _ (putBox nb (.slice ka3 60 kc3) (.slice ca3 (n + 1) cc3) (f1) (.slice pa3 l.length pc3) false W2))
      have x3 := (putBox_ext hx2.out hnb0.out : Ext w (putBox nb (.slice ka3 60 kc3) (.slice ca3 (n + 1) cc3) (f1) (.slice pa3 l.length pc3) false W2))
      unfold putBox at D3 b3 x3
      replace D3 := Lib.hid D3; replace b3 := Lib.hid b3; replace x3 := Lib.hid x3
      obtain ⟨⟨g0, g1, g2, g3, g4⟩, _⟩ := b2.out.at5
      obtain ⟨⟨h0, h1, h2, h3, h4⟩, f0, f1, f2, f3, f4⟩ := b5.out.at5
      go_wp2_with fail
      go_roundw
      case rel =>
        have e1 := hf1.out
        subst e1
        refine ⟨n + 1, by omega, by go_num, ka3, kc3, ca3, cc3, pa3, pc3, ?_, ?_, ?_⟩
        · with_reducible exact b3.out
        · with_reducible exact D3.out
        · with_reducible exact x3.out
      case measure => simp [intOf]; omega
    · obtain rfl : n = F := by omega
      have t1 : decide ((n : Int) < n) = false := decide_eq_false (by omega)
      clear hn hlt
      obtain ⟨fz, hfz⟩ : ∃ fz : Int, fz = (n : Int) - ((n : Nat) : Int) := ⟨_, rfl⟩
      replace b5 := b5.out; replace D := D.out
      rw [← hfz] at b5 D
      replace b5 := Lib.hid b5; replace D := Lib.hid D; replace hfz := Lib.hid hfz
      go_wp2_with fail
      refine Soft.region_ext [(3, Soft.disk2 E 60 0 0 (-1) true 90), (7, Soft.box5 wr.heap.size)] [0, 1, 2, 3, 4, 5, 6, 7] [8, 9] (by kernel_rfl) (by kernel_rfl) (Soft.stab_more (fun _ _ _ => Soft.disk2_stab) (Soft.stab_one fun _ _ _ => Soft.box5_stab)) ?_
      (refine Soft.quiet_n rfl rfl rfl rfl (fun K hK => ?_); go_simp; apply Exists.intro; refine ⟨fun wq hq => ?_, hK _ ?_⟩; (obtain ⟨⟨gg0, gg1, gg2, gg3, gg4⟩, _⟩ := (b5.out.ext hq).at5; go_simp; with_reducible rfl); clear hK K)
      repeat (refine Soft.pure_n rfl rfl rfl rfl (fun K hK => ?_); go_simp; refine hK _ ?_; clear hK K)
      (refine Soft.quiet_n rfl rfl rfl rfl (fun K hK => ?_); go_simp; apply Exists.intro; refine ⟨fun wq hq => ?_, hK _ ?_⟩; (with_reducible exact c5.out _); clear hK K)
      refine Soft.loud_step0 rfl rfl rfl rfl (fun K hK => ?_)
      refine ⟨fun wq hq => ?_, fun u ⟨ka3, kc3, ca3, cc3, pa3, pc3, hu⟩ => hK _ ?_⟩
      · go_simp
        refine (c3.out _ _ (D.out.ext hq)).mono ?_
        rintro e w7 ⟨r, rfl, hD, x7⟩
        obtain ⟨ka2, kc2, ca2, cc2, pa2, pc2, rfl⟩ := hD.formN (N := 60) (M := 0) (L := 0) (f := -1) (b := true) hlen.out (by rw [hE1.out]; rfl) hE2.out (by rw [hE3.out]; rfl) hE4.out
        exact ⟨_, rfl, x7, ⟨_, _, _, _, _, _, rfl⟩, ⟨_, rfl, hD⟩⟩
      clear hK K
      subst hu
      repeat (refine Soft.pure_n rfl rfl rfl rfl (fun K hK => ?_); go_simp; refine hK _ ?_; clear hK K)
      refine Soft.loud_step0 rfl rfl rfl rfl (fun K hK => ?_)
      refine ⟨fun wq hq => ?_, fun u ⟨m, hu⟩ => hK _ ?_⟩
      · go_simp
        exact ⟨(Ext.refl _).alloc _, ⟨_, rfl⟩, Soft.box5_new hq.size⟩
      clear hK K
      subst hu
      refine Soft.tail_forced [_, _] (by kernel_rfl) rfl (fun w2 x2 k2 => ?_)
      have D2 := Soft.disk2_at (k2.get 3 rfl rfl)
      obtain ⟨hm, bz⟩ := Soft.box5_at (k2.get 7 rfl rfl) rfl
      have D2 := (D2.boxed bz (.inl hE3.out) : DiskIn (putBox m (.slice ka3 60 kc3) (.slice ca3 0 cc3) (-1) (.slice pa3 0 pc3) true w2) _ _)
      have x2 := (putBox_ext x2 hm : Ext wr (putBox m (.slice ka3 60 kc3) (.slice ca3 0 cc3) (-1) (.slice pa3 0 pc3) true w2))
      have b2 := (putBox_box bz : Box m _ (putBox m (.slice ka3 60 kc3) (.slice ca3 0 cc3) (-1) (.slice pa3 0 pc3) true w2))
      obtain ⟨_, f0, f1, f2, f3, f4⟩ := bz.at5
      obtain ⟨⟨z0, z1, z2, z3, z4⟩, _⟩ := bz.at5
      clear k2
      unfold putBox at D2 x2 b2
      replace D2 := Lib.hid D2; replace b2 := Lib.hid b2; replace bz := Lib.hid bz
      go_wp2_with fail
      rw [Soft.NoP_normal]
      have hx2 := Lib.hid (hx.trans x2)
      clear bz f0 f1 f2 f3 f4 z0 z1 z2 z3 z4 hx x2 D b5
      generalize ((((w2.setCell ⟨m, 0, none⟩ _).setCell ⟨m, 1, none⟩ _).setCell ⟨m, 2, none⟩ _).setCell ⟨m, 3, none⟩ _).setCell ⟨m, 4, none⟩ _ = W2 at *
      have hl3 := hl0.out.ext hx2.out
      obtain ⟨a', c', z1, z2, z3, hKc⟩ := sl_str_at D2.out.parts.1
      simp only [Value.slice.injEq] at z1; obtain ⟨rfl, z4, rfl⟩ := z1; clear z2 z3 z4
      obtain ⟨a', c', z1, z2, z3, hLc⟩ := sl_bool_at hl3
      simp only [Value.slice.injEq] at z1; obtain ⟨rfl, z4, rfl⟩ := z1; clear z2 z3 z4 hl3
      replace hKc := Lib.hid hKc; replace hLc := Lib.hid hLc
      obtain ⟨⟨g0, g1, g2, g3, g4⟩, _⟩ := b2.out.at5
      go_wp2_with fail
      clear g0 g1 g2 g3 g4
      go_loopw [12] (fun i wr => ∃ j : Nat, j ≤ n + 1 ∧ i = .int .i64 j ∧ Ext W2 wr) (fun i _ => n + 1 - (intOf i).toNat)
      case atStart => exact ⟨0, by omega, rfl, Ext.refl _⟩
      case round =>
        obtain ⟨j, hj, rfl, hx⟩ := hrel
        by_cases hlt : j ≤ n
        · have t2 : decide ((j : Int) ≤ n) = true := decide_eq_true (by omega)
          have hjK : j < E.kept.length := by rw [hlen.out]; omega
          have hj60 : (j : Int) < 60 := by omega
          obtain ⟨bk, ok_, hk1, hk2, hk3⟩ := hKc.out j hjK
          have gK : ∀ wq, Ext wr wq → wq.cell? ⟨bk, ok_ + j, none⟩ = some (.string E.kept[j]) := fun wq xq => ((hx.trans xq).cell (p := ⟨bk, ok_ + j, none⟩) hk2).trans hk3
          have hs := hat.out j hlt hjK
          have hnej := hne.out j hlt
          have b3 := Lib.hid (b2.out.ext hx)
          generalize E.kept[j] = s at *
          subst hk1
          clear hk2 hk3 hjK
          replace gK := Lib.hid gK
          by_cases hL : j < l.length
          · obtain ⟨bl, ol, hla, hl2, hl3⟩ := hLc.out j hL
            have gL := (hx.cell (p := ⟨bl, ol + j, none⟩) hl2).trans hl3
            have hg : l.getD j false = l[j] := by rw [List.getD_eq_getElem?_getD, List.getElem?_eq_getElem hL]; rfl
            rw [hg] at hs
            subst hla
            have t3 : decide ((j : Int) < l.length) = true := decide_eq_true (by omega)
            have hjl : (j : Int) < l.length := by omega
            generalize l[j] = b at *
            clear hl2 hl3 hg
            cases b
            · rw [if_neg (by decide)] at hs
              replace hs := hs.symm
              subst hs
              have t4 : (Z.toList == Z.toList) = true := beq_self_eq_true _
              clear hnej
              go_wp2_with fail
              refine Soft.region_ext [] [0, 1, 2, 3, 4, 5, 6, 7, 8] [] (by kernel_rfl) (by kernel_rfl) Soft.stab_none ?_
              repeat (first | (refine Soft.pure_n rfl rfl rfl rfl (fun K hK => ?_); go_simp; refine hK _ ?_; clear hK K) | (refine Soft.quiet_n rfl rfl rfl rfl (fun K hK => ?_); go_simp; apply Exists.intro; refine ⟨fun wq hq => ?_, hK _ ?_⟩; (first | (with_reducible exact c6.out _) | (obtain ⟨⟨gg0, gg1, gg2, gg3, gg4⟩, _⟩ := (b3.out.ext hq).at5; go_simp; with_reducible rfl) | (have gg := gK.out wq hq; go_simp; with_reducible rfl)); clear hK K))
              refine Soft.ends (by kernel_rfl) (fun W3 X3 _ => ?_)
              go_wp2_with fail
              go_roundw
              case rel => exact ⟨j + 1, by omega, by go_num, hx.trans X3⟩
              case measure => simp [intOf]; omega
            · rw [if_pos rfl] at hs
              replace hs := hs.symm
              subst hs
              have t4 : ((S j).toList == Z.toList) = false := beq_false fun h => hnej (str_inj h)
              clear hnej
              go_wp2_with fail
              refine Soft.region_ext [] [0, 1, 2, 3, 4, 5, 6, 7, 8] [] (by kernel_rfl) (by kernel_rfl) Soft.stab_none ?_
              repeat (first | (refine Soft.pure_n rfl rfl rfl rfl (fun K hK => ?_); go_simp; refine hK _ ?_; clear hK K) | (refine Soft.quiet_n rfl rfl rfl rfl (fun K hK => ?_); go_simp; apply Exists.intro; refine ⟨fun wq hq => ?_, hK _ ?_⟩; (first | (with_reducible exact c6.out _) | (obtain ⟨⟨gg0, gg1, gg2, gg3, gg4⟩, _⟩ := (b3.out.ext hq).at5; go_simp; with_reducible rfl) | (have gg := gK.out wq hq; go_simp; with_reducible rfl)); clear hK K))
              refine Soft.ends (by kernel_rfl) (fun W3 X3 _ => ?_)
              go_wp2_with fail
              go_roundw
              case rel => exact ⟨j + 1, by omega, by go_num, hx.trans X3⟩
              case measure => simp [intOf]; omega
          · have hg : l.getD j false = false := by rw [List.getD_eq_getElem?_getD, List.getElem?_eq_none (by omega)]; rfl
            rw [hg, if_neg (by decide)] at hs
            have t3 : decide ((j : Int) < l.length) = false := decide_eq_false (by omega)
            replace hs := hs.symm
            subst hs
            have t4 : (Z.toList == Z.toList) = true := beq_self_eq_true _
            clear hnej
            go_wp2_with fail
            refine Soft.region_ext [] [0, 1, 2, 3, 4, 5, 6, 7, 8] [] (by kernel_rfl) (by kernel_rfl) Soft.stab_none ?_
            repeat (first | (refine Soft.pure_n rfl rfl rfl rfl (fun K hK => ?_); go_simp; refine hK _ ?_; clear hK K) | (refine Soft.quiet_n rfl rfl rfl rfl (fun K hK => ?_); go_simp; apply Exists.intro; refine ⟨fun wq hq => ?_, hK _ ?_⟩; (first | (with_reducible exact c6.out _) | (obtain ⟨⟨gg0, gg1, gg2, gg3, gg4⟩, _⟩ := (b3.out.ext hq).at5; go_simp; with_reducible rfl) | (have gg := gK.out wq hq; go_simp; with_reducible rfl)); clear hK K))
            refine Soft.ends (by kernel_rfl) (fun W3 X3 _ => ?_)
            go_wp2_with fail
            go_roundw
            case rel => exact ⟨j + 1, by omega, by go_num, hx.trans X3⟩
            case measure => simp [intOf]; omega
        · have t2 : decide ((j : Int) ≤ n) = false := decide_eq_false (by omega)
          have hx3 := Lib.hid (hx2.out.trans hx)
          go_wp2_with fail
          go_ret
          exact ⟨rfl, hx3.out⟩

theorem deviceFuse_walk (w : World) (fuse : Int) (l : List Bool) (kv : Value) (_hf : In64 fuse) (hl : Sl w kv (l.map boolV) ∧ NilOr kv) :
    Calls Try.prog 18 #[.int .i64 fuse, kv] w fun e w' => e = .returned (.bool true) ∧ Ext w w' := by
  obtain ⟨hl, _⟩ := hl
  by_cases h0 : fuse < 0
  · exact deviceFuse_no0 w fuse l kv hl h0
  · by_cases h1 : 50 < fuse
    · exact deviceFuse_no1 w fuse l kv hl h0 h1
    · by_cases h2 : 400 < l.length
      · exact deviceFuse_no2 w fuse l kv hl h0 h1 h2
      · obtain ⟨F, rfl⟩ := Int.eq_ofNat_of_zero_le (show 0 ≤ fuse by omega)
        exact deviceFuse_live w F l kv hl (by omega) (by omega)
end Go.Proofs.Ytehidhcpdiameaa
