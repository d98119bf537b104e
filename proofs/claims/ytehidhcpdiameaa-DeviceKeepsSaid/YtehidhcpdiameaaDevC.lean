import Derived.Test.YtehidhcpdiameaaDevA
import Derived.RangeFuncNested
import Derived.RangeFuncBound
import Derived.RangeFuncCalls
import Derived.RangeFuncLeaves
import Derived.RangeFuncBox
import Derived.Shelf.Abstract
import Derived.Shelf.RegionOpen
import Derived.OwnWalkIn
import Derived.TacticsInMore
import Derived.LoopNIn
import Derived.LoopIn
import Derived.Test.YtehidhcpdiameaaDevB

/- The walks of layer 9, on: slices.Backward of what was written: its contract. -/
namespace Go.Proofs.Ytehidhcpdiameaa
open Go.RowKit Go.Shelf

attribute [local go_sem] Oper.semAt_some

/-- what has come when k rounds are over. -/
def came {α : Type} (f : Nat → α) (k : Nat) : List α := (List.range k).map f
theorem came_succ {α : Type} (f : Nat → α) (k : Nat) : came f (k + 1) = came f k ++ [f k] := by simp [came, List.range_succ]
theorem came_length {α : Type} (f : Nat → α) (k : Nat) : (came f k).length = k := by simp [came]
theorem came_mem {α : Type} (f : Nat → α) (k j : Nat) (h : j < k) : f j ∈ came f k := by
  simp only [came, List.mem_map, List.mem_range]; exact ⟨j, h, rfl⟩
/-- the element that is j from the end, and its place. -/
def fromEnd (ps : List Dev.Put) (j : Nat) : Nat × Dev.Put := (ps.length - 1 - j, ps.getD (ps.length - 1 - j) (0, Dev.empty))
def encPut (x : Nat × Dev.Put) : Array Value := #[.int .i64 (x.1 : Int), .agg #[.int .i64 x.2.1, .string x.2.2]]

set_option maxRecDepth 100000 in
set_option maxHeartbeats 2000000 in
theorem back1_in (F : Fence) (n : Nat) (h111 : F.fn 111) (hro : F.round = none) (hn : 1 ≤ n) (l Bs n₀ b off cap : Nat) (ps : List Dev.Put) (hlen : ps.length ≤ 9223372036854775807) (hb : b < n₀) (J Jx : List (Nat × Dev.Put) → World → Prop)
    (hY : ∀ pre x W, J pre W → pre.length < ps.length → YieldAt F (n - 1) Try.prog l (encPut x) W fun e W' =>
      (e = .returned (.bool true) ∧ J (pre ++ [x]) W' ∧ Below n₀ W W') ∨ (e = .returned (.bool false) ∧ Jx (pre ++ [x]) W'))
    (W : World) (hBs : W.cell? ⟨Bs, 0, none⟩ = some (.slice (some ⟨b, off, none⟩) ps.length cap)) (hBn : Bs < n₀) (hc : ∀ j (hj : j < ps.length), W.cell? ⟨b, off + j * 2, none⟩ = some (.int .i64 ps[j].1) ∧ W.cell? ⟨b, off + j * 2 + 1, none⟩ = some (.string ps[j].2)) (h0 : J [] W) :
    CallsIn F n Try.prog 111 #[.func (.yield l) #[] #[], .pointer (some ⟨Bs, 0, none⟩)] W fun e W' => (∃ v, e = .returned v) ∧
      ((∃ ys, ys = came (fromEnd ps) ps.length ∧ J ys W') ∨ (∃ pre, (∃ k, k ≤ ps.length ∧ pre = came (fromEnd ps) k) ∧ Jx pre W')) := by
  refine callsIn_of_wp Try.func111 rfl h111 ?_ hro
  simp only [Try.ntmps111, List.size_toArray, List.length_cons, List.length_nil, Nat.reduceAdd, Nat.reduceSub, Array.replicate_succ, Array.replicate_zero, List.push_toArray, List.append_toArray, List.nil_append, List.cons_append]
  have hli : (ps.length : Int) ≤ 9223372036854775807 := by omega
  have hli0 : (0 : Int) ≤ ps.length := by omega
  replace hY := Lib.hid hY; replace hc := Lib.hid hc
  gi_wp2
  gi_loopw [3] (fun i wr => ∃ (m k : Nat) (z : Int), m + k = ps.length ∧ z = (m : Int) - 1 ∧ i = .int .i64 z ∧ J (came (fromEnd ps) k) wr ∧ Below n₀ W wr)
    (fun i _ => (intOf i + 1).toNat)
  case atStart => exact ⟨ps.length, 0, _, by omega, rfl, rfl, h0, Below.refl _ _⟩
  case round =>
    obtain ⟨m, k, z, hmk, hz, rfl, hJs, hnx⟩ := hrel
    have hBs' := (hnx.cell (p := ⟨Bs, 0, none⟩) hBn).trans hBs
    cases m with
    | zero =>
      obtain rfl : z = -1 := by omega
      obtain rfl : k = ps.length := by omega
      clear hmk hz
      have hd0 : ¬ (0 : Int) ≤ -1 := by decide
      gi_wp2
      go_end0
      first | exact ⟨⟨_, rfl⟩, .inl ⟨_, rfl, hJs⟩⟩ | exact ⟨⟨_, rfl⟩, .inl hJs⟩
    | succ m =>
      obtain rfl : z = (m : Int) := by omega
      have hm : m < ps.length := by omega
      have hfk : fromEnd ps k = (m, ps[m]) := by
        unfold fromEnd
        rw [show ps.length - 1 - k = m from by omega, List.getD_eq_getElem?_getD, List.getElem?_eq_getElem hm]
        rfl
      obtain ⟨fn, tmps, assign, body, hy, hR⟩ := hY.out _ (fromEnd ps k) wr hJs (by rw [came_length]; omega)
      have hc1 := (hnx.cell (p := ⟨b, off + m * 2, none⟩) hb).trans (hc.out m hm).1
      have hc2 := (hnx.cell (p := ⟨b, off + m * 2 + 1, none⟩) hb).trans (hc.out m hm).2
      rw [← came_succ] at hR
      unfold encPut at hy
      rw [hfk] at hy
      dsimp only at hy
      have hmi : (m : Int) < ps.length := by omega
      have hd : decide ((0 : Int) ≤ m) = true := decide_eq_true (by omega)
      generalize ps[m] = q at *
      replace hfk := Lib.hid hfk
      clear hz hJs
      gi_wp2
      refine hR.mono ?_
      rintro e W3 (⟨rfl, hJ3, hk3⟩ | ⟨rfl, hJx3⟩)
      · gi_wp2
        go_roundw
        case rel => exact ⟨m, k + 1, _, by omega, rfl, rfl, hJ3, hnx.trans hk3⟩
        case measure => simp [intOf]
      · gi_wp2
        refine bodyPost_ret (results_none rfl _ _ _) rfl ?_
        exact ⟨⟨_, rfl⟩, .inr ⟨_, ⟨k + 1, by omega, rfl⟩, hJx3⟩⟩

set_option maxRecDepth 100000 in
set_option maxHeartbeats 1000000 in
/-- .. of none: no round. -/
theorem back1_none_in (F : Fence) (n : Nat) (h111 : F.fn 111) (hro : F.round = none) (l Bs cap : Nat) (a : Option Addr) (J : List (Nat × Dev.Put) → World → Prop) (W : World) (hBs : W.cell? ⟨Bs, 0, none⟩ = some (.slice a 0 cap)) (h0 : J [] W) :
    CallsIn F n Try.prog 111 #[.func (.yield l) #[] #[], .pointer (some ⟨Bs, 0, none⟩)] W fun e W' => (∃ v, e = .returned v) ∧ J [] W' := by
  refine callsIn_of_wp Try.func111 rfl h111 ?_ hro
  simp only [Try.ntmps111, List.size_toArray, List.length_cons, List.length_nil, Nat.reduceAdd, Nat.reduceSub, Array.replicate_succ, Array.replicate_zero, List.push_toArray, List.append_toArray, List.nil_append, List.cons_append]
  have hd0 : ¬ (0 : Int) ≤ -1 := by decide
  gi_wp2
  gi_loopw [3] (fun i wr => i = .int .i64 (-1) ∧ J [] wr) (fun _ _ => 0)
  case atStart => exact ⟨rfl, h0⟩
  case round =>
    obtain ⟨rfl, hJs⟩ := hrel
    gi_wp2
    go_end0
    exact ⟨⟨_, rfl⟩, hJs⟩

set_option maxHeartbeats 1000000 in
/-- slices.Backward: the slice value is boxed; the function value captures the box. -/
theorem back_in (F : Fence) (n : Nat) (h101 : F.fn 101) (hro : F.round = none) (a : Option Addr) (len cap : Nat) (w : World) :
    CallsIn F n Try.prog 101 #[.slice a len cap] w fun e w' => e = .returned (.func (.func 111) #[] #[.pointer (some ⟨w.heap.size, 0, none⟩)]) ∧ w' = w.alloc (.cells #[.slice a len cap] 67) := by
  refine callsIn_of_wp Try.func101 rfl h101 ?_ hro
  simp only [Try.ntmps101, List.size_toArray, List.length_cons, List.length_nil, Nat.reduceAdd, Nat.reduceSub, Array.replicate_succ, Array.replicate_zero, List.push_toArray, List.append_toArray, List.nil_append, List.cons_append]
  gi_wp2
  go_ret
  exact ⟨rfl, rfl⟩

/-- what was written, from its end: all of it; or the first k. -/
theorem back_stops (F : Fence) (n : Nat) (h111 : F.fn 111) (hro : F.round = none) (hn : 1 ≤ n) (Bs n₀ : Nat) (sv : Value) (ps : List Dev.Put) (w : World) (hBs : Bs < w.heap.size) (hBn : Bs < n₀) (hn₀ : n₀ ≤ w.heap.size)
    (hc : w.cell? ⟨Bs, 0, none⟩ = some sv) (w0 : World) (hI : SlP w0 sv ps) (hw0 : w0.heap.size ≤ n₀) (hx : Ext w0 w) :
    SeqStopsK F n Try.prog 111 #[.pointer (some ⟨Bs, 0, none⟩)] encPut (Below n₀) (fun ys => ys = came (fromEnd ps) ps.length)
      (fun pre => ∃ k, k ≤ ps.length ∧ pre = came (fromEnd ps) k) ps.length w := fun l J Jx W hW _ _ hY h0 => by
  have hc' := (hW.cell (p := ⟨Bs, 0, none⟩) hBs).trans hc
  obtain ⟨a, c, rfl, hl, hm, hcell⟩ := hI
  by_cases hps : ps = []
  · subst hps
    exact (back1_none_in F n h111 hro l Bs c a J W hc' h0).mono fun e W' ⟨he, hj⟩ => ⟨he, .inl ⟨_, rfl, hj⟩⟩
  · obtain ⟨b, o, rfl, hb, hx1⟩ := hcell hps
    refine back1_in F n h111 hro hn l Bs n₀ b o c ps (by omega) (by omega) J Jx hY W hc' hBn (fun j hj => ?_) h0
    have hbw : b < w.heap.size := Nat.lt_of_lt_of_le hb hx.size
    have ha := putCells_at ps j hj
    have e1 : ∀ i, W.cell? ⟨b, o + i, none⟩ = w0.cell? ⟨b, o + i, none⟩ := fun i => (hW.cell (p := ⟨b, o + i, none⟩) hbw).trans (hx.cell (p := ⟨b, o + i, none⟩) hb)
    refine ⟨by rw [e1]; exact hx1 _ _ ha.1, ?_⟩
    rw [show o + j * 2 + 1 = o + (j * 2 + 1) from by omega, e1]
    exact hx1 _ _ ha.2

namespace Dev
theorem fold_skip (x : Int) : ∀ (c : List Put) (s : ByteArray), (∀ p ∈ c, p.1 ≠ x) → c.foldl (step x) s = s
  | [], _, _ => rfl
  | p :: c, s, h => by
    rw [List.foldl_cons]
    have h1 : step x s p = s := by unfold step; rw [if_neg (h p (by simp))]
    rw [h1]
    exact fold_skip x c s (fun q hq => h q (List.mem_cons_of_mem _ hq))
theorem cur_none (d : Disk) (x : Nat) (h : ∀ p ∈ d.cache, p.1 ≠ (x : Int)) : cur d x = d.kept.getD x empty := fold_skip _ _ _ h
theorem cur_some (d : Disk) (x m : Nat) (hm : m < d.cache.length) (h : d.cache[m].1 = (x : Int)) (ha : ∀ j (hj : j < d.cache.length), m < j → d.cache[j].1 ≠ (x : Int)) : cur d x = d.cache[m].2 := by
  unfold cur
  generalize hv : d.cache[m].2 = v
  have hs : d.cache = d.cache.take m ++ d.cache[m] :: d.cache.drop (m + 1) := by
    rw [← List.drop_eq_getElem_cons hm, List.take_append_drop]
  have hf : ∀ s, (d.cache.take m ++ d.cache[m] :: d.cache.drop (m + 1)).foldl (step x) s = v := fun s => by
    rw [List.foldl_append, List.foldl_cons, fold_skip]
    · unfold step; rw [if_pos h]; exact hv
    · intro p hp
      obtain ⟨i, hi, rfl⟩ := List.getElem_of_mem hp
      rw [List.getElem_drop]
      rw [List.length_drop] at hi
      exact ha _ (by omega) (by omega)
  have := hf (d.kept.getD x empty)
  rw [← hs] at this
  exact this
end Dev
end Go.Proofs.Ytehidhcpdiameaa

/- The walks of layer 9, on: a sector that is read. -/
namespace Go.Proofs.Ytehidhcpdiameaa
open Go.RowKit Go.Shelf

attribute [local go_sem] Oper.semAt_some

theorem bodyPostM_ret {F : Fence} {n : Nat} {P : Program} {fn : Func} {R : Ending → World → Prop} {a : Act} {w : World} {v : Value} (hr : (results fn a.tmps).run P w = .ok v w) (hd : a.defers = []) (hR : R (.returned v) w) : bodyPostM F n P fn R .ret a w := by
  show LeavesInM F n P fn a.tmps R a.defers .returning w
  rw [hd]
  exact ⟨v, hr, hR⟩
theorem Box.keptG {n : Nat} {vs : List Value} {W W' : World} {row : Option Nat} (h : Box n vs W) (hg : W.grownBy W' row) (hr : ∀ r, row = some r → ∃ o : Obj, W.heap[r]? = some o ∧ o.isCells = false) : Box n vs W' :=
  ⟨Nat.lt_of_lt_of_le h.size hg.size, fun i v hi => cell_kept (h.cell i v hi) hg hr, fun i hi => (frozen_kept (h.cell i _ (List.getElem?_eq_getElem hi)) hg hr).trans (h.free i hi)⟩
theorem Box.at1 {n : Nat} {a : Value} {w : World} (h : Box n [a] w) : w.cell? ⟨n, 0, none⟩ = some a ∧ w.frozen? ⟨n, 0, none⟩ = false := ⟨h.cell 0 _ rfl, h.free 0 (by simp)⟩

set_option maxRecDepth 100000 in
set_option maxHeartbeats 8000000 in
theorem read_in (d : Dev.Disk) (v : Value) (x : Int) (w : World) (h : DiskIn w v d) :
    CallsIn Fence.wide 6 Try.prog 68 #[v, .int .i64 x] w fun e w' => e = .returned (.tuple #[.string (Dev.read d x).1, .int .i64 (Dev.read d x).2]) ∧ Ext w w' := by
  have hm := fun w h => may_any d v w h
  have hform := h.form2
  obtain ⟨ka, kc, ca, cc, pa, pc, rfl, hkn⟩ := hform
  unfold diskV at hm h ⊢
  have hA : w.heap.size + 1 + 1 + 1 + 1 = ((((w.alloc (.cells #[.slice ka d.kept.length kc, .slice ca d.cache.length cc, .int .i64 d.fuse, .slice pa d.keep.length pc, .bool d.dead] 69)).alloc (.cells #[.int .i64 x] 3)).alloc (.cells #[.string ⟨#[]⟩] 9)).alloc (.cells #[.int .i64 0] 70)).heap.size := by simp
  have bD := (((Box.new w (diskL (.slice ka d.kept.length kc) (.slice ca d.cache.length cc) d.fuse (.slice pa d.keep.length pc) d.dead) 69).alloc (.cells #[.int .i64 x] 3)).alloc (.cells #[.string ⟨#[]⟩] 9)).alloc (.cells #[.int .i64 0] 70)
  have bX := ((Box.new (w.alloc (.cells #[.slice ka d.kept.length kc, .slice ca d.cache.length cc, .int .i64 d.fuse, .slice pa d.keep.length pc, .bool d.dead] 69)) [.int .i64 x] 3).alloc (.cells #[.string ⟨#[]⟩] 9)).alloc (.cells #[.int .i64 0] 70)
  have bS := (Box.new ((w.alloc (.cells #[.slice ka d.kept.length kc, .slice ca d.cache.length cc, .int .i64 d.fuse, .slice pa d.keep.length pc, .bool d.dead] 69)).alloc (.cells #[.int .i64 x] 3)) [.string ⟨#[]⟩] 9).alloc (.cells #[.int .i64 0] 70)
  have bE := Box.new (((w.alloc (.cells #[.slice ka d.kept.length kc, .slice ca d.cache.length cc, .int .i64 d.fuse, .slice pa d.keep.length pc, .bool d.dead] 69)).alloc (.cells #[.int .i64 x] 3)).alloc (.cells #[.string ⟨#[]⟩] 9)) [.int .i64 0] 70
  simp only [World.size_alloc] at bX bS bE
  have y0 : Ext w ((((w.alloc (.cells #[.slice ka d.kept.length kc, .slice ca d.cache.length cc, .int .i64 d.fuse, .slice pa d.keep.length pc, .bool d.dead] 69)).alloc (.cells #[.int .i64 x] 3)).alloc (.cells #[.string ⟨#[]⟩] 9)).alloc (.cells #[.int .i64 0] 70)) := ((((Ext.refl w).alloc _).alloc _).alloc _).alloc _
  generalize hw0 : (((w.alloc (.cells #[.slice ka d.kept.length kc, .slice ca d.cache.length cc, .int .i64 d.fuse, .slice pa d.keep.length pc, .bool d.dead] 69)).alloc (.cells #[.int .i64 x] 3)).alloc (.cells #[.string ⟨#[]⟩] 9)).alloc (.cells #[.int .i64 0] 70) = w0 at *
  obtain ⟨⟨i0, i1, i2, i3, i4⟩, _⟩ := bD.at5
  replace hm := Lib.hid hm; replace h := Lib.hid h; replace bD := Lib.hid bD; replace bX := Lib.hid bX; replace bS := Lib.hid bS; replace bE := Lib.hid bE; replace hA := Lib.hid hA
  refine callsIn_of_wp_marks Try.func68 rfl trivial ?_ rfl
  simp only [Try.ntmps68, List.size_toArray, List.length_cons, List.length_nil, Nat.reduceAdd, Nat.reduceSub, Array.replicate_succ, Array.replicate_zero, List.push_toArray, List.append_toArray, List.nil_append, List.cons_append]
  cases hmay : Dev.may d with
  | false =>
    rw [show Dev.read d x = (Dev.empty, 1) from by unfold Dev.read; rw [if_pos hmay]]
    replace hm := hm.out
    rw [hmay] at hm
    replace hm := Lib.hid hm
    clear hmay
    gi_wp2_with fail
    refine ⟨trivial, ?_⟩
    refine (callsIn_wide.2 (hm.out _ (h.out.ext y0))).mono ?_; rintro e w1 ⟨rfl, x1⟩
    clear i0 i1 i2 i3 i4 hw0
    have t0 := bS.out.ext x1
    have u0 := bE.out.ext x1
    obtain ⟨js, gs⟩ := t0.at1
    obtain ⟨je, ge⟩ := u0.at1
    have t1 := t0.set 0 (.string Dev.empty) (by simp)
    have t2 := t1.other (m := w.heap.size + 1 + 1 + 1) (by omega) 0 (.int .i64 1)
    have t3 := (u0.other (m := w.heap.size + 1 + 1) (by omega) 0 (.string Dev.empty)).set 0 (.int .i64 1) (by simp)
    obtain ⟨k1, _⟩ := t2.at1
    obtain ⟨k2, _⟩ := t3.at1
    unfold Dev.empty at k1 k2
    replace k1 := Lib.hid k1; replace k2 := Lib.hid k2
    have yE := y0.trans x1
    clear t0 u0 t1 t2 t3
    gi_wp2_with fail
    refine bodyPostM_ret (v := .tuple #[.string Dev.empty, .int .i64 1]) ?_ rfl ⟨rfl, ?_⟩
    · simp [results, Try.results68, go_sem, k1.out, k2.out, Dev.empty]
    · exact (yE.below.setCell (by show w.heap.size ≤ w.heap.size + 1 + 1; omega) _).setCell (by show w.heap.size ≤ w.heap.size + 1 + 1 + 1; omega) _
  | true =>
    replace hm := hm.out
    rw [hmay] at hm
    replace hm := Lib.hid hm
    cases hdead : d.dead with
    | true =>
      rw [show Dev.read d x = (Dev.empty, 90) from by unfold Dev.read; rw [if_neg (by rw [hmay]; decide), if_pos hdead]]
      clear hmay
      replace hm := hm.out; replace h := h.out; replace bD := bD.out
      rw [hdead] at hm h bD hw0 i4
      replace hm := Lib.hid hm; replace h := Lib.hid h; replace bD := Lib.hid bD; replace hdead := Lib.hid hdead
      gi_wp2_with fail
      refine ⟨trivial, ?_⟩
      refine (callsIn_wide.2 (hm.out _ (h.out.ext y0))).mono ?_; rintro e w1 ⟨rfl, x1⟩
      clear i0 i1 i2 i3 i4 hw0
      obtain ⟨⟨i0, i1, i2, i3, i4⟩, _⟩ := (bD.out.ext x1).at5
      have t0 := bS.out.ext x1
      have u0 := bE.out.ext x1
      obtain ⟨js, gs⟩ := t0.at1
      obtain ⟨je, ge⟩ := u0.at1
      have t1 := t0.set 0 (.string Dev.empty) (by simp)
      have t2 := t1.other (m := w.heap.size + 1 + 1 + 1) (by omega) 0 (.int .i64 90)
      have t3 := (u0.other (m := w.heap.size + 1 + 1) (by omega) 0 (.string Dev.empty)).set 0 (.int .i64 90) (by simp)
      obtain ⟨k1, _⟩ := t2.at1
      obtain ⟨k2, _⟩ := t3.at1
      unfold Dev.empty at k1 k2
      replace k1 := Lib.hid k1; replace k2 := Lib.hid k2
      have yE := y0.trans x1
      clear t0 u0 t1 t2 t3
      gi_wp2_with fail
      refine bodyPostM_ret (v := .tuple #[.string Dev.empty, .int .i64 90]) ?_ rfl ⟨rfl, ?_⟩
      · simp [results, Try.results68, go_sem, k1.out, k2.out, Dev.empty]
      · exact (yE.below.setCell (by show w.heap.size ≤ w.heap.size + 1 + 1; omega) _).setCell (by show w.heap.size ≤ w.heap.size + 1 + 1 + 1; omega) _
    | false =>
      have hread : Dev.read d x = if x < 0 ∨ d.kept.length ≤ x then (Dev.empty, 1) else (Dev.cur d x.toNat, 0) := by unfold Dev.read; rw [if_neg (by rw [hmay]; decide), if_neg (by rw [hdead]; decide)]
      clear hmay
      replace hm := hm.out; replace h := h.out; replace bD := bD.out
      rw [hdead] at hm h bD hw0 i4
      replace hm := Lib.hid hm; replace h := Lib.hid h; replace bD := Lib.hid bD; replace hdead := Lib.hid hdead
      have h99 := there_any ka d.kept.length kc (.slice ca d.cache.length cc) (.slice pa d.keep.length pc) d.fuse false x hkn
      unfold diskV at h99
      by_cases hin : 0 ≤ x ∧ x < (d.kept.length : Int)
      · rw [decide_eq_true hin] at h99
        rw [if_neg (by omega)] at hread
        rw [hread]
        obtain ⟨hx0, hx1⟩ := hin
        obtain ⟨x, rfl⟩ := Int.eq_ofNat_of_zero_le hx0
        rw [Int.toNat_natCast]
        have hxk : x < d.kept.length := by omega
        have hlast := Dev.cur_some d x
        have hnone := Dev.cur_none d x
        generalize Dev.cur d x = V at *
        replace h99 := Lib.hid h99; replace hlast := Lib.hid hlast; replace hnone := Lib.hid hnone; replace hread := Lib.hid hread
        gi_wp2_with fail
        refine ⟨trivial, ?_⟩
        refine (callsIn_wide.2 (hm.out _ (h.out.ext y0))).mono ?_; rintro e w1 ⟨rfl, x1⟩
        clear i0 i1 i2 i3 i4 hw0
        obtain ⟨⟨i0, i1, i2, i3, i4⟩, _⟩ := (bD.out.ext x1).at5
        obtain ⟨ix, _⟩ := (bX.out.ext x1).at1
        gi_wp2_with fail
        refine ⟨trivial, ?_⟩
        refine (callsIn_wide.2 (h99.out _)).mono ?_; rintro e w2 ⟨rfl, x2⟩
        clear i0 i1 i2 i3 i4 ix
        obtain ⟨⟨i0, i1, i2, i3, i4⟩, _⟩ := ((bD.out.ext x1).ext x2).at5
        gi_wp2_with fail
        refine ⟨trivial, ?_⟩
        refine (back_in Fence.wide 5 trivial rfl _ _ _ _).mono ?_; rintro e w3 ⟨rfl, rfl⟩
        have c0 := ((bD.out.ext x1).ext x2).alloc (.cells #[.slice ca d.cache.length cc] 67)
        have cX := ((bX.out.ext x1).ext x2).alloc (.cells #[.slice ca d.cache.length cc] 67)
        have cS := ((bS.out.ext x1).ext x2).alloc (.cells #[.slice ca d.cache.length cc] 67)
        have cE := ((bE.out.ext x1).ext x2).alloc (.cells #[.slice ca d.cache.length cc] 67)
        have cB := Box.new w2 [.slice ca d.cache.length cc] 67
        have y3 := ((y0.trans x1).trans x2).alloc (.cells #[.slice ca d.cache.length cc] 67)
        have hsz : (w2.alloc (.cells #[.slice ca d.cache.length cc] 67)).heap.size = w2.heap.size + 1 := by simp
        have hl2 : w.heap.size + 1 + 1 + 1 + 1 ≤ w2.heap.size := by rw [hA.out]; exact Nat.le_trans x1.size x2.size
        generalize hW0 : w2.alloc (.cells #[.slice ca d.cache.length cc] 67) = W0 at *
        clear i0 i1 i2 i3 i4
        gi_wp2_with fail
        have hcs : SlP w (.slice ca d.cache.length cc) d.cache := by
          obtain ⟨k', c', p', e, _, h2, _⟩ := h.out
          simp only [diskV, Value.agg.injEq, Array.mk.injEq, List.cons.injEq, and_true] at e
          obtain ⟨_, rfl, _⟩ := e
          exact h2
        have hks : Sl w (.slice ka d.kept.length kc) (d.kept.map strV) := by
          obtain ⟨k', c', p', e, h2, _, _⟩ := h.out
          simp only [diskV, Value.agg.injEq, Array.mk.injEq, List.cons.injEq, and_true] at e
          obtain ⟨rfl, _, _⟩ := e
          exact h2
        have hwW : w.heap.size ≤ W0.heap.size := by omega
        clear hW0
        refine wpIn_rangeFunc_ownH rfl (by decide) (gf := 111) (lb := #[.pointer (some ⟨w2.heap.size, 0, none⟩)]) rfl trivial (enters_of Try.func111 (by kernel_rfl) rfl)
          (back_stops Fence.wide 5 trivial rfl (by decide) w2.heap.size W0.heap.size _ d.cache W0 (by omega) (by omega) (Nat.le_refl _) (cB.cell 0 _ rfl) w hcs hwW y3) belowK_t (belowK_b (Nat.le_refl _)) (Below.refl _ _) (fun _ => rfl)
          (fun pre W => ((∀ q ∈ pre, q.2.1 ≠ (x : Int)) ∧ Box w.heap.size (diskL (.slice ka d.kept.length kc) (.slice ca d.cache.length cc) d.fuse (.slice pa d.keep.length pc) false) W ∧ Box (w.heap.size + 1) [.int .i64 x] W ∧ Box (w.heap.size + 1 + 1) [.string ⟨#[]⟩] W ∧ Box (w.heap.size + 1 + 1 + 1) [.int .i64 0] W ∧ W0.heap.size ≤ W.heap.size) ∧ Below w.heap.size w W)
          (fun c pre W => ((c = .ret ∧ ∃ ini last, pre = ini ++ [last] ∧ (∀ q ∈ ini, q.2.1 ≠ (x : Int)) ∧ last.2.1 = (x : Int) ∧ Box (w.heap.size + 1 + 1) [.string last.2.2] W ∧ Box (w.heap.size + 1 + 1 + 1) [.int .i64 0] W)) ∧ Below w.heap.size w W)
          (OwnFrom.and (Own.from (fun s A B row hs hg hr => ⟨hs.1, hs.2.1.keptG hg hr, hs.2.2.1.keptG hg hr, hs.2.2.2.1.keptG hg hr, hs.2.2.2.2.1.keptG hg hr, Nat.le_trans hs.2.2.2.2.2 hg.size⟩) _) (ownFrom_below (Nat.le_refl _) hwW))
          (fun c => OwnFrom.and (Own.from (fun s A B row hs hg hr => by obtain ⟨hc, ini, last, e1, e2, e3, e4, e5⟩ := hs; exact ⟨hc, ini, last, e1, e2, e3, e4.keptG hg hr, e5.keptG hg hr⟩) _) (ownFrom_below (Nat.le_refl _) hwW))
          ⟨⟨by simp, c0, cX, cS, cE, Nat.le_refl _⟩, y3⟩
          (fun q a' W => ∃ Bx, w.heap.size + 1 + 1 + 1 < Bx ∧ Box Bx [.int .i64 q.2.1, .string q.2.2] W ∧ a' = { tmps := #[.agg #[.slice ka d.kept.length kc, .slice ca d.cache.length cc, .int .i64 d.fuse, .slice pa d.keep.length pc, .bool false], .int .i64 x, .pointer (some ⟨w.heap.size, 0, none⟩), .pointer (some ⟨w.heap.size + 1, 0, none⟩), .pointer (some ⟨w.heap.size + 1 + 1, 0, none⟩), .pointer (some ⟨w.heap.size + 1 + 1 + 1, 0, none⟩), undef, .pointer (some ⟨Bx, 0, none⟩),
            .agg #[.slice ka d.kept.length kc, .slice ca d.cache.length cc, .int .i64 d.fuse, .slice pa d.keep.length pc, .bool false], .bool true, .bool false, .pointer (some ⟨w.heap.size, 4, none⟩), .bool false, .agg #[.slice ka d.kept.length kc, .slice ca d.cache.length cc, .int .i64 d.fuse, .slice pa d.keep.length pc, .bool false], .int .i64 x, .bool true, .bool false, .pointer (some ⟨w.heap.size, 1, none⟩), .slice ca d.cache.length cc, .func (.func 111) #[] #[.pointer (some ⟨w2.heap.size, 0, none⟩)], .int .i64 q.1, .agg #[.int .i64 q.2.1, .string q.2.2], undef, undef, undef, undef, undef, undef, undef, undef, undef, undef, undef], defers := [] })
          (fun q a' _ X Y row hs hg hr => by obtain ⟨Bx, h1, h2, h3⟩ := hs; exact ⟨Bx, h1, h2.keptG hg (fun r e => (hr r e).2), h3⟩)
          ?assign ?body ?done ?stop
        case assign =>
          rintro l pre q W K ⟨⟨hne, b0, b1, b2, b3, hsW⟩, hB⟩ hK
          have hsz3 := b3.size
          unfold encPut
          gi_wp2
          exact hK _ _ ((KeepsOthers.alloc _ _).from _) ((Below.refl _ W).alloc hsW _) ⟨⟨hne, b0.alloc _, b1.alloc _, b2.alloc _, b3.alloc _, by simp; omega⟩, hB.alloc hB.size _⟩ ⟨W.heap.size, hsz3, Box.new W _ _, rfl⟩
        case body =>
          rintro l pre q a' W hl ⟨r, hr⟩ ⟨⟨hne, b0, b1, b2, b3, hsW⟩, hB⟩ ⟨Bx, hBx, bx, rfl⟩ hlt
          obtain ⟨jx, _⟩ := b1.at1
          obtain ⟨q0, q1, _, _⟩ := bx.two
          obtain ⟨js, gs⟩ := b2.at1
          obtain ⟨je, ge⟩ := b3.at1
          by_cases heq : q.2.1 = (x : Int)
          · have hd : (q.2.1 == (x : Int)) = true := by simp [heq]
            have t1 := (b2.set 0 (.string q.2.2) (by simp)).other (m := w.heap.size + 1 + 1 + 1) (by omega) 0 (.int .i64 0)
            have t2 := (b3.other (m := w.heap.size + 1 + 1) (by omega) 0 (.string q.2.2)).set 0 (.int .i64 0) (by simp)
            have hB2 := (hB.setCell (p := ⟨w.heap.size + 1 + 1, 0, none⟩) (by show w.heap.size ≤ w.heap.size + 1 + 1; omega) (.string q.2.2)).setCell (p := ⟨w.heap.size + 1 + 1 + 1, 0, none⟩) (by show w.heap.size ≤ w.heap.size + 1 + 1 + 1; omega) (.int .i64 0)
            replace heq := Lib.hid heq; replace hne := Lib.hid hne; replace t1 := Lib.hid t1; replace t2 := Lib.hid t2
            gi_wp2
            exact ⟨((KeepsOthers.setCell _ _ _).trans (KeepsOthers.setCell _ _ _)).from _, ⟨rfl, pre, q, rfl, hne.out, heq.out, t1.out, t2.out⟩, hB2⟩
          · have hd : (q.2.1 == (x : Int)) = false := by simp [heq]
            replace hne := Lib.hid hne
            replace heq := Lib.hid heq
            gi_wp2
            exact ⟨KeepsFrom.refl _ _, Below.refl _ _, ⟨fun q' hq' => (List.mem_append.1 hq').elim (hne.out q') (fun e => by rw [List.mem_singleton] at e; subst e; exact heq.out), b0, b1, b2, b3, hsW⟩, hB⟩
        case done =>
          rintro D ys W hD rfl ⟨⟨hne, b0, b1, b2, b3, hsW⟩, hB⟩ hK
          have hV : V = d.kept[x] := by
            rw [hnone.out (fun p hp => by
              obtain ⟨m, hm, rfl⟩ := List.getElem_of_mem hp
              have h1 := hne (fromEnd d.cache (d.cache.length - 1 - m)) (came_mem _ _ _ (by omega))
              unfold fromEnd at h1
              rw [show d.cache.length - 1 - (d.cache.length - 1 - m) = m from by omega, List.getD_eq_getElem?_getD, List.getElem?_eq_getElem hm] at h1
              exact h1), List.getD_eq_getElem?_getD, List.getElem?_eq_getElem hxk]
            rfl
          obtain ⟨ka', kc', e1, _, _, hkc⟩ := sl_str_at hks
          simp only [Value.slice.injEq, true_and] at e1
          obtain ⟨rfl, rfl⟩ := e1
          obtain ⟨b, o, rfl, hb, hck⟩ := hkc x hxk
          have hcW := (hB.cell (p := ⟨b, o + x, none⟩) hb).trans hck
          rw [← hV] at hcW
          replace hV := Lib.hid hV
          obtain ⟨⟨i0, i1, i2, i3, i4⟩, _⟩ := b0.at5
          obtain ⟨jx, _⟩ := b1.at1
          obtain ⟨js, gs⟩ := b2.at1
          obtain ⟨je, ge⟩ := b3.at1
          have hK' := ((KeepsOthers.setCell W ⟨w.heap.size + 1 + 1, 0, none⟩ (.string V)).trans (KeepsOthers.setCell _ ⟨w.heap.size + 1 + 1 + 1, 0, none⟩ (.int .i64 0))).same D _ hK rfl
          have t1 := (b2.set 0 (.string V) (by simp)).other (m := w.heap.size + 1 + 1 + 1) (by omega) 0 (.int .i64 0)
          have t2 := (b3.other (m := w.heap.size + 1 + 1) (by omega) 0 (.string V)).set 0 (.int .i64 0) (by simp)
          have u1 := (t1.keptG (grownBy_putObj' _ D (.deferred none)) (fun r e => by cases e; exact ⟨_, hK', rfl⟩)).at1.1
          have u2 := (t2.keptG (grownBy_putObj' _ D (.deferred none)) (fun r e => by cases e; exact ⟨_, hK', rfl⟩)).at1.1
          have hB2 := ((hB.setCell (p := ⟨w.heap.size + 1 + 1, 0, none⟩) (by show w.heap.size ≤ w.heap.size + 1 + 1; omega) (.string V)).setCell (p := ⟨w.heap.size + 1 + 1 + 1, 0, none⟩) (by show w.heap.size ≤ w.heap.size + 1 + 1 + 1; omega) (.int .i64 0)).trans (belowK_b (w := W0) hwW _ D _ (.deferred none) hD hK' rfl rfl)
          replace hK' := Lib.hid hK'; replace t1 := Lib.hid t1; replace t2 := Lib.hid t2; replace u1 := Lib.hid u1; replace u2 := Lib.hid u2; replace hne := Lib.hid hne; replace hK := Lib.hid hK; replace hkc := Lib.hid hkc
          clear hck
          gi_wp2
          refine ⟨by simp, .inl ⟨_, _, rfl, run_takeDeferred hK'.out, ?_⟩⟩
          refine ⟨.tuple #[.string V, .int .i64 0], ?_, rfl, hB2⟩
          simp [results, Try.results68, go_sem, u1.out, u2.out]
        case stop =>
          rintro D c pre W hD ⟨k, hk, rfl⟩ ⟨⟨rfl, ini, last, e1, e2, e3, t1, t2⟩, hB⟩ hK
          obtain ⟨k', rfl⟩ : ∃ k', k = k' + 1 := by
            cases k with
            | zero => simp [came] at e1
            | succ k' => exact ⟨k', rfl⟩
          rw [came_succ] at e1
          obtain ⟨rfl, e5⟩ := List.append_inj' e1 rfl
          obtain rfl : fromEnd d.cache k' = last := by simpa using e5
          have hm : d.cache.length - 1 - k' < d.cache.length := by omega
          have hfk : ∀ i, i < d.cache.length → ∀ hi : d.cache.length - 1 - i < d.cache.length, (fromEnd d.cache i).2 = d.cache[d.cache.length - 1 - i] := fun i _ hi => by
            unfold fromEnd
            rw [List.getD_eq_getElem?_getD, List.getElem?_eq_getElem hi]
            rfl
          have hV : V = (fromEnd d.cache k').2.2 := by
            rw [hfk k' (by omega) hm] at e3 ⊢
            refine hlast.out _ hm e3 (fun j hj hjm => ?_)
            have h1 := e2 (fromEnd d.cache (d.cache.length - 1 - j)) (came_mem _ _ _ (by omega))
            rw [hfk _ (by omega) (by omega)] at h1
            have h2 : d.cache.length - 1 - (d.cache.length - 1 - j) = j := by omega
            simp only [h2] at h1
            exact h1
          rw [← hV] at t1
          have u1 := (t1.keptG (grownBy_putObj' _ D (.deferred none)) (fun r e => by cases e; exact ⟨_, hK, rfl⟩)).at1.1
          have u2 := (t2.keptG (grownBy_putObj' _ D (.deferred none)) (fun r e => by cases e; exact ⟨_, hK, rfl⟩)).at1.1
          have hB2 := hB.trans (belowK_b (w := W0) hwW _ D _ (.deferred none) hD hK rfl rfl)
          clear hfk e1 e2 e3 e5 hV
          replace hK := Lib.hid hK; replace u1 := Lib.hid u1; replace u2 := Lib.hid u2; replace t1 := Lib.hid t1; replace t2 := Lib.hid t2
          gi_wp2
          refine ⟨by simp, .inl ⟨_, _, rfl, run_takeDeferred hK.out, ?_⟩⟩
          refine ⟨.tuple #[.string V, .int .i64 0], ?_, rfl, hB2⟩
          simp [results, Try.results68, go_sem, u1.out, u2.out]
      · rw [decide_eq_false hin] at h99
        rw [if_pos (by omega)] at hread
        rw [hread]
        replace h99 := Lib.hid h99; replace hin := Lib.hid hin; replace hread := Lib.hid hread
        gi_wp2_with fail
        refine ⟨trivial, ?_⟩
        refine (callsIn_wide.2 (hm.out _ (h.out.ext y0))).mono ?_; rintro e w1 ⟨rfl, x1⟩
        clear i0 i1 i2 i3 i4 hw0
        obtain ⟨⟨i0, i1, i2, i3, i4⟩, _⟩ := (bD.out.ext x1).at5
        obtain ⟨ix, _⟩ := (bX.out.ext x1).at1
        gi_wp2_with fail
        refine ⟨trivial, ?_⟩
        refine (callsIn_wide.2 (h99.out _)).mono ?_; rintro e w2 ⟨rfl, x2⟩
        clear i0 i1 i2 i3 i4 ix
        have t0 := (bS.out.ext x1).ext x2
        have u0 := (bE.out.ext x1).ext x2
        obtain ⟨js, gs⟩ := t0.at1
        obtain ⟨je, ge⟩ := u0.at1
        have t1 := t0.set 0 (.string Dev.empty) (by simp)
        have t2 := t1.other (m := w.heap.size + 1 + 1 + 1) (by omega) 0 (.int .i64 1)
        have t3 := (u0.other (m := w.heap.size + 1 + 1) (by omega) 0 (.string Dev.empty)).set 0 (.int .i64 1) (by simp)
        obtain ⟨k1, _⟩ := t2.at1
        obtain ⟨k2, _⟩ := t3.at1
        unfold Dev.empty at k1 k2
        replace k1 := Lib.hid k1; replace k2 := Lib.hid k2
        have yE := (y0.trans x1).trans x2
        clear t0 u0 t1 t2 t3
        gi_wp2_with fail
        refine bodyPostM_ret (v := .tuple #[.string Dev.empty, .int .i64 1]) ?_ rfl ⟨rfl, ?_⟩
        · simp [results, Try.results68, go_sem, k1.out, k2.out, Dev.empty]
        · exact (yE.below.setCell (by show w.heap.size ≤ w.heap.size + 1 + 1; omega) _).setCell (by show w.heap.size ≤ w.heap.size + 1 + 1 + 1; omega) _

theorem read9_any (d : Dev.Disk) (v : Value) (x : Int) (w : World) (h : DiskIn w v d) :
    Calls Try.prog 68 #[v, .int .i64 x] w fun e w' => e = .returned (.tuple #[.string (Dev.read d x).1, .int .i64 (Dev.read d x).2]) ∧ Ext w w' := (callsIn_wide (n := 6)).1 (read_in d v x w h)
-- GENERATED
end Go.Proofs.Ytehidhcpdiameaa
