import Derived.Test.YtehidhcpdiameaaDevA
import Derived.Test.YtehidhcpdiameaaShelf
import Derived.Test.YtehidhcpdiameaaSoft2
import Derived.Laws.CopyOwn
import Derived.Deep.OwnRows
import Derived.Shelf.Bits.Mul64
import Derived.Test.YtehidhcpdiameaaDevB
import Derived.Test.YtehidhcpdiameaaDevD
import Derived.Test.YtehidhcpdiameaaBox

/- The walks of layer 9, on: slices.Repeat of one text. -/
namespace Go.Proofs.Ytehidhcpdiameaa
open Go.RowKit

theorem mul_any (n : Nat) (h : n ≤ 5000) (w : World) : Calls Try.prog 106 #[.int .u64 1, .int .u64 n] w fun e w' => e = .returned (.tuple #[.int .u64 0, .int .u64 n]) ∧ w' = w := by
  have := Any.bits_Mul { Try.lays105 with } 1 n (by omega) (by omega) w
  rw [show 1 * n / 18446744073709551616 = 0 from by omega, show 1 * n % 18446744073709551616 = n from by omega] at this
  exact this

/-- the cells that are made, when m of them are copied. -/
def repCells (s : ByteArray) (n m : Nat) : List Value := List.replicate m (.string s) ++ List.replicate (n - m) (.string ByteArray.empty)
theorem repCells_length (s : ByteArray) (n m : Nat) (h : m ≤ n) : (repCells s n m).length = n := by unfold repCells; simp; omega
theorem made_rep (s : ByteArray) (n : Nat) : (madeCells #[.string ByteArray.empty] n) = (repCells s n 0).toArray := by
  unfold madeCells repCells
  apply Array.ext
  · simp
  · intro i h1 h2
    simp [Nat.mod_one]
theorem splice_rep (s : ByteArray) (n m k : Nat) (h : m + k ≤ n) : splice (repCells s n m) m (List.replicate k (.string s)) = repCells s n (m + k) := by
  unfold splice repCells
  rw [List.take_left' (by simp), List.length_replicate, List.drop_append, List.drop_eq_nil_of_le (by simp), List.length_replicate, List.drop_replicate, List.nil_append, ← List.append_assoc, List.replicate_append_replicate]
  congr 2
  omega
theorem repCells_at (s : ByteArray) (n m j : Nat) (h : j < m) : (repCells s n m)[j]? = some (.string s) := by
  unfold repCells
  rw [List.getElem?_append_left (by simpa using h), List.getElem?_replicate, if_pos h]

set_option maxRecDepth 100000 in
set_option maxHeartbeats 8000000 in
theorem repeat_any (b : Nat) (s : ByteArray) (n : Nat) (w : World) (hn : 1 ≤ n) (hn2 : n ≤ 5000) (hb : b < w.heap.size) (hc : w.cell? ⟨b, 0, none⟩ = some (.string s)) :
    Calls Try.prog 96 #[.slice (some ⟨b, 0, none⟩) 1 1, .int .i64 n] w fun e w' => ∃ v, e = .returned v ∧ w'.ownsRow w.heap.size 9 1 v n ((List.replicate n s).map strV) ∧ Ext w w' := by
  have h106 := fun w => mul_any n hn2 w
  have d1 : decide ((n : Int) < 0) = false := decide_eq_false (by omega)
  obtain ⟨i0, hi, hz0, hz1, hz2⟩ := info_parts info9
  have hmk := run_make_row (P := Try.prog) 55 9 i0 (.string ByteArray.empty) Try.underlying55 hi hz0 hz1 rfl .i64 .i64 n (by rw [hz2]; omega) (by omega) w
  rw [made_rep s n] at hmk
  have hsz9 : (Try.prog.info? 9).map (·.size) = some 1 := by rw [hi]; exact congrArg some hz1
  have hg0 := heap_new w (.cells (repCells s n 0).toArray 9)
  have hx0 : Ext w (w.alloc (.cells (repCells s n 0).toArray 9)) := (Ext.refl w).alloc _
  generalize hW0 : w.alloc (.cells (repCells s n 0).toArray 9) = W0 at *
  replace hg0 := Lib.hid hg0; replace hsz9 := Lib.hid hsz9
  have hcW := (hx0.cell (p := ⟨b, 0, none⟩) hb).trans hc
  clear hi hz0 hz1 hz2
  replace h106 := Lib.hid h106
  have hni : (n : Int) ≤ 5000 := by omega
  have hn0 : (0 : Int) ≤ n := by omega
  have d3 : decide ((9223372036854775807 : Int) < n) = false := decide_eq_false (by omega)
  go_enter Try.func96, Try.ntmps96
  go_wp2_with fail
  refine (h106.out _).mono ?_; rintro e w1 ⟨rfl, hw1⟩
  obtain rfl := hw1.symm
  clear hW0
  go_wp2_with (with_reducible refine wpList_copy_splice rfl _ _ 55 55 rfl 9 Try.underlying55 hsz9.out (some ⟨w.heap.size, 0, none⟩) (some ⟨b, 0, none⟩) n n 1 1 rfl rfl w.heap.size 0 (repCells s n 0) 9 hg0.out [.string s] ?c1 ?c2 ?c3 ?c4 w.heap.size w hx0.below (Nat.le_refl _) ?_)
  any_goals (case c1 => first | exact (Nat.min_eq_left hn).symm | (simp; omega))
  case c2 =>
    intro j v hj
    match j, hj with
    | 0, hj => simp only [List.getElem?_cons_zero, Option.some.injEq] at hj; subst hj; exact hcW
    | _ + 1, hj => simp at hj
  case c3 => rw [repCells_length _ _ _ (by omega)]; simpa using hn
  case c4 => intro v hv; rw [List.mem_singleton] at hv; subst hv; rfl
  intro W1 hg1 hb1
  replace hg1 := hg1.out
  rw [show splice (repCells s n 0) 0 [.string s] = repCells s n 1 from by have := splice_rep s n 0 1 (by omega); simpa using this] at hg1
  replace hg1 := Lib.hid hg1
  clear hmk hcW hx0 hg0
  go_wp2_with fail
  go_loopw [8] (fun i wr => ∃ m : Nat, 1 ≤ m ∧ m ≤ n ∧ i = .int .i64 m ∧ Hid (wr.heap[w.heap.size]? = some (.cells (repCells s n m).toArray 9)) ∧ Below w.heap.size w wr) (fun i _ => n - (intOf i).toNat)
  case atStart => exact ⟨1, by omega, by omega, rfl, hg1, hb1⟩
  case round =>
    obtain ⟨m, hm1, hm, rfl, hg, hx⟩ := hrel
    by_cases hmn : m < n
    · have q1 : (m : Int) < n := by omega
      have q2 : (0 : Int) ≤ m := by omega
      have q3 : m < n := hmn
      have q4 : ¬ n = m := by omega
      go_wp2_with fail
      refine Soft.region_ext [] [0, 1, 2, 3, 4, 5, 6] [7, 8, 9] (by kernel_rfl) (by kernel_rfl) Soft.stab_none ?_
      repeat (refine Soft.pure_n rfl rfl rfl rfl (fun K hK => ?_); go_simp; refine hK _ ?_; clear hK K)
      refine Soft.tail_forced [_, _, _] (by kernel_rfl) rfl (fun w6 x6 _ => ?_)
      obtain ⟨k, hkd⟩ : ∃ k, k = Nat.min m (n - m) := ⟨_, rfl⟩
      have hk1 : 1 ≤ k := by rw [hkd]; exact Nat.le_min.2 ⟨hm1, by omega⟩
      have hk2 : k ≤ n - m := by rw [hkd]; exact Nat.min_le_right _ _
      have hk3 : k ≤ m := by rw [hkd]; exact Nat.min_le_left _ _
      have hgl : w.heap.size < wr.heap.size := (Array.getElem?_eq_some_iff.1 hg.out).1
      have hg6 : w6.heap[w.heap.size]? = some (.cells (repCells s n m).toArray 9) := (x6.below.block w.heap.size hgl).trans hg.out
      have hx6 : Below w.heap.size w w6 := Ext.trans hx x6
      have hc6 : ∀ j, j < m → w6.cell? ⟨w.heap.size, j, none⟩ = some (.string s) := fun j hj => by
        have : w6.cell? ⟨w.heap.size, j, none⟩ = (repCells s n m)[j]? := by simp [World.cell?, hg6]
        rw [this, repCells_at s n m j hj]
      refine wpList_copy_splice rfl _ _ 55 55 rfl 9 Try.underlying55 hsz9.out (some ⟨w.heap.size, m, none⟩) (some ⟨w.heap.size, 0, none⟩) (n - m) (n - m) m n rfl rfl w.heap.size m (repCells s n m) 9 hg6 (List.replicate k (.string s)) (by rw [List.length_replicate]; exact hkd) (fun _ => ⟨rfl, _, rfl, fun j v hj => ?_⟩) (by rw [repCells_length _ _ _ (by omega), List.length_replicate]; omega) (fun v hv => by rw [List.eq_of_mem_replicate hv]; rfl) w.heap.size w hx6 (Nat.le_refl _) ?_
      · have hjk : j < k := by have := (List.getElem?_eq_some_iff.1 hj).1; simpa using this
        rw [List.getElem?_replicate, if_pos hjk, Option.some.injEq] at hj
        subst hj
        unfold Addr.add
        split
        · rename_i hj0; subst hj0; exact hc6 0 (by omega)
        · rw [Nat.zero_add]; exact hc6 j (by omega)
      intro W2 hg2 hx2
      replace hg2 := hg2.out
      rw [splice_rep s n m k (by omega)] at hg2
      replace hg2 := Lib.hid hg2; replace hg6 := Lib.hid hg6; replace hc6 := Lib.hid hc6; replace hkd := Lib.hid hkd
      rw [List.length_replicate]
      go_wp2_with fail
      rw [Soft.NoP_normal]
      go_wp2_with fail
      go_roundw
      case rel => exact ⟨m + k, by omega, by omega, by go_num, hg2, hx2⟩
      case measure => simp [intOf]; omega
    · obtain rfl : m = n := by omega
      go_wp2_with fail
      go_ret
      refine ⟨_, rfl, ⟨by simp, .inr ⟨w.heap.size, m, (repCells s m m).toArray, rfl, Nat.le_refl _, hg.out, Nat.le_refl _, by unfold maxLen; omega, by rw [List.size_toArray, repCells_length _ _ _ (Nat.le_refl _)]; omega, ?_⟩⟩, hx⟩
      unfold repCells
      simp [strV]
end Go.Proofs.Ytehidhcpdiameaa

/- The walks of layer 9, on: a new disk. -/
namespace Go.Proofs.Ytehidhcpdiameaa
open Go.RowKit

set_option maxRecDepth 100000 in
set_option maxHeartbeats 4000000 in
theorem new_bad (F : Nat) (hF : F = 62 ∨ F = 76) (n : Int) (w : World) (h : n < 1 ∨ 5000 < n) :
    Calls Try.prog F #[.int .i64 n] w fun e w' => ∃ r, e = .returned (.tuple #[r, .int .i64 (Dev.new n).2]) ∧ DiskIn w' r (Dev.new n).1 ∧ Ext w w' := by
  by_cases h1 : n < 1
  · have d1 : decide (n < 1) = true := decide_eq_true h1
    rcases hF with rfl | rfl
    · rw [show Dev.new n = (Dev.no, 1) from by unfold Dev.new; rw [if_pos (by omega)]]
      go_enter Try.func62, Try.ntmps62
      go_wp2_with fail
      refine bodyPost_ret (v := .tuple #[noV, .int .i64 1]) ?_ rfl ⟨_, rfl, diskIn_no _, (Ext.refl _).alloc _⟩
      simp [results, Try.results62, go_sem, noV, diskV]
    · rw [show Dev.new n = (Dev.no, 1) from by unfold Dev.new; rw [if_pos (by omega)]]
      go_enter Try.func76, Try.ntmps76
      go_wp2_with fail
      refine bodyPost_ret (v := .tuple #[noV, .int .i64 1]) ?_ rfl ⟨_, rfl, diskIn_no _, (Ext.refl _).alloc _⟩
      simp [results, Try.results76, go_sem, noV, diskV]
  · have d1 : decide (n < 1) = false := decide_eq_false h1
    have h2 : 5000 < n := by omega
    have d2 : decide (5000 < n) = true := decide_eq_true h2
    rcases hF with rfl | rfl
    · rw [show Dev.new n = (Dev.no, 1) from by unfold Dev.new; rw [if_pos (by omega)]]
      go_enter Try.func62, Try.ntmps62
      go_wp2_with fail
      refine bodyPost_ret (v := .tuple #[noV, .int .i64 1]) ?_ rfl ⟨_, rfl, diskIn_no _, (Ext.refl _).alloc _⟩
      simp [results, Try.results62, go_sem, noV, diskV]
    · rw [show Dev.new n = (Dev.no, 1) from by unfold Dev.new; rw [if_pos (by omega)]]
      go_enter Try.func76, Try.ntmps76
      go_wp2_with fail
      refine bodyPost_ret (v := .tuple #[noV, .int .i64 1]) ?_ rfl ⟨_, rfl, diskIn_no _, (Ext.refl _).alloc _⟩
      simp [results, Try.results76, go_sem, noV, diskV]

theorem new_spec (n : Nat) (h1 : 1 ≤ n) (h2 : n ≤ 5000) : Dev.new (n : Int) = (⟨List.replicate n zeros, [], -1, [], false⟩, 0) := by
  unfold Dev.new; rw [if_neg (by omega), Int.toNat_natCast]; rfl

set_option maxRecDepth 100000 in
set_option maxHeartbeats 4000000 in
theorem new_good (n : Nat) (w : World) (h1 : 1 ≤ n) (h2 : n ≤ 5000) :
    Calls Try.prog 62 #[.int .i64 n] w fun e w' => ∃ r, e = .returned (.tuple #[r, .int .i64 (Dev.new n).2]) ∧ DiskIn w' r (Dev.new n).1 ∧ Ext w w' := by
  rw [new_spec n h1 h2]
  have d1 : decide ((n : Int) < 1) = false := decide_eq_false (by omega)
  have d2 : decide (5000 < (n : Int)) = false := decide_eq_false (by omega)
  have hz := rep_any 32 (by omega)
  rw [show str (List.replicate 32 0) = zeros from rfl] at hz
  have hr := fun b w hb hc => repeat_any b zeros n w h1 h2 hb hc
  have r0 := Box.new w zeroL 69
  have y0 : Ext w (w.alloc (.cells #[.slice none 0 0, .slice none 0 0, .int .i64 0, .slice none 0 0, .bool false] 69)) := (Ext.refl w).alloc _
  have hsz : (w.alloc (.cells #[.slice none 0 0, .slice none 0 0, .int .i64 0, .slice none 0 0, .bool false] 69)).heap.size = w.heap.size + 1 := by simp
  replace hz := Lib.hid hz; replace hr := Lib.hid hr; replace r0 := Lib.hid r0; replace hsz := Lib.hid hsz
  generalize zeros = ZZ at *
  go_enter Try.func62, Try.ntmps62
  go_wp2_with fail
  refine (hz.out _).mono ?_; rintro e w1 ⟨rfl, x1⟩
  have b1 := Box.new w1 [.string ZZ] 9
  go_wp2_with fail
  refine (hr.out _ _ (by simp) (b1.cell 0 _ rfl)).mono ?_; rintro e w2 ⟨v', rfl, o2, x2⟩
  obtain ⟨va, vb, e1⟩ := owned_slice o2
  subst e1
  have r1 := ((r0.out.ext x1).alloc (.cells #[.string ZZ] 9)).ext x2
  have y2 := ((y0.trans x1).alloc (.cells #[.string ZZ] 9)).trans x2
  have hlt : w.heap.size < (w1.alloc (.cells #[.string ZZ] 9)).heap.size := by have := x1.size; rw [hsz.out] at this; simp; omega
  replace o2 := Lib.hid o2
  clear x1 x2 b1
  obtain ⟨_, g0, g1, g2, g3, g4⟩ := r1.at5
  have r2 := (((((r1.set 0 (.slice va n vb) (by simp)).set 1 (.slice none 0 0) (by simp)).set 2 (.int .i64 (-1)) (by simp)).set 3 (.slice none 0 0) (by simp)).set 4 (.bool false) (by simp))
  obtain ⟨⟨m0, m1, m2, m3, m4⟩, _⟩ := r2.at5
  replace m0 := Lib.hid m0; replace m1 := Lib.hid m1; replace m2 := Lib.hid m2; replace m3 := Lib.hid m3; replace m4 := Lib.hid m4
  replace r1 := Lib.hid r1; replace r2 := Lib.hid r2
  go_wp2_with fail
  refine bodyPost_ret (v := .tuple #[.agg #[.slice va n vb, .slice none 0 0, .int .i64 (-1), .slice none 0 0, .bool false], .int .i64 0]) ?_ rfl ⟨_, rfl, ?_, ?_⟩
  · simp [results, Try.results62, go_sem, m0.out, m1.out, m2.out, m3.out, m4.out, diskV]
  · have ho := (ownsRow_under (ownsRow_under (ownsRow_under (ownsRow_under (ownsRow_under o2.out _ 0 (.slice va n vb) hlt) _ 1 (.slice none 0 0) hlt) _ 2 (.int .i64 (-1)) hlt) _ 3 (.slice none 0 0) hlt) _ 4 (.bool false) hlt)
    exact ⟨_, _, _, rfl, by have h5 := Sl.owned ho; simpa using h5, SlP.nil _, Sl.nil _, nilOr_owned ho, .inl rfl⟩
  · exact (((((y2).below.setCell (by simp) _).setCell (by simp) _).setCell (by simp) _).setCell (by simp) _).setCell (by simp) _

theorem new9_any (n : Int) (w : World) : Calls Try.prog 62 #[.int .i64 n] w fun e w' => ∃ r, e = .returned (.tuple #[r, .int .i64 (Dev.new n).2]) ∧ DiskIn w' r (Dev.new n).1 ∧ Ext w w' := by
  by_cases h : n < 1 ∨ 5000 < n
  · exact new_bad 62 (.inl rfl) n w h
  · obtain ⟨m, rfl⟩ := Int.eq_ofNat_of_zero_le (show 0 ≤ n by omega)
    exact new_good m w (by omega) (by omega)
end Go.Proofs.Ytehidhcpdiameaa

/- The walks of layer 9, on: two disks, compared. -/
namespace Go.Proofs.Ytehidhcpdiameaa
open Go.RowKit

/-- two lists of truths are compared. -/
theorem sameBools_any (xs ys : List Bool) (u v : Value) (w : World) (hu : Sl w u (xs.map boolV)) (hv : Sl w v (ys.map boolV)) :
    Calls Try.prog 103 #[u, v] w fun e w' => e = .returned (.bool (decide (xs = ys))) ∧ Ext w w' := by
  obtain ⟨a, c, rfl, hlc, hc, hx⟩ := sl_bool_at hu
  obtain ⟨a2, c2, rfl, hlc2, hc2, hy⟩ := sl_bool_at hv
  clear hu hv
  by_cases hlen : xs.length = ys.length
  · have hl1 : (xs.length : Int) ≤ 9223372036854775807 := by omega
    have hle : ((xs.length : Int) != (ys.length : Int)) = false := by rw [hlen]; simp
    have hres : ∀ k, (∀ j, j < k → xs[j]? = ys[j]?) → k < xs.length → xs[k]? ≠ ys[k]? → xs ≠ ys := fun k _ _ h e => h (by rw [e])
    have hall : (∀ j, j < xs.length → xs[j]? = ys[j]?) → xs = ys := fun h => by
      apply List.ext_getElem?
      intro i
      rcases Nat.lt_or_ge i xs.length with h2 | h2
      · exact h i h2
      · rw [List.getElem?_eq_none h2, List.getElem?_eq_none (by omega)]
    replace hlen := Lib.hid hlen; replace hall := Lib.hid hall; replace hres := Lib.hid hres; replace hx := Lib.hid hx; replace hy := Lib.hid hy
    go_enter Try.func103, Try.ntmps103
    go_wp2
    go_loopw [5] (fun i wr => ∃ k : Nat, k ≤ xs.length ∧ i = .int .i64 k ∧ (∀ j, j < k → xs[j]? = ys[j]?) ∧ Ext w wr) (fun i _ => xs.length - (intOf i).toNat)
    case atStart => exact ⟨0, by omega, rfl, fun j hj => by omega, Ext.refl _⟩
    case round =>
      obtain ⟨k, hk, rfl, hsame, hxt⟩ := hrel
      replace hsame := Lib.hid hsame
      by_cases hkl : k < xs.length
      · have hlo := hlen.out
        obtain ⟨b, o, e1, hb, hcb⟩ := hx.out k hkl
        obtain ⟨b2, o2, e2, hb2, hcb2⟩ := hy.out k (by omega)
        have g1 : xs[k]? = some xs[k] := List.getElem?_eq_getElem hkl
        have g2 : ys[k]? = some ys[k] := List.getElem?_eq_getElem (by omega)
        have hc1 := (hxt.cell (p := ⟨b, o + k, none⟩) hb).trans hcb
        have hc2 := (hxt.cell (p := ⟨b2, o2 + k, none⟩) hb2).trans hcb2
        have hky : (k : Int) < ys.length := by omega
        have hr := hres.out k hsame.out hkl
        rw [g1, g2] at hr
        have hst : xs[k] = ys[k] → ∀ j, j < k + 1 → xs[j]? = ys[j]? := fun e j hj => by
          rcases Nat.lt_or_ge j k with h | h
          · exact hsame.out j h
          · obtain rfl : j = k := by omega
            rw [g1, g2, e]
        subst e1 e2
        clear hcb hcb2 g1 g2
        generalize xs[k] = x at *
        generalize ys[k] = y at *
        clear hlo
        by_cases hxy : x = y
        · replace hst := Lib.hid (hst hxy)
          subst hxy
          have heq : (x == x) = true := beq_self_eq_true _
          clear hr
          go_wp2
          go_quiet (fail)
          go_wp2
          go_roundw
          case rel => exact ⟨k + 1, by omega, by go_num, hst.out, hxt.drewN _⟩
          case measure => simp [intOf]; omega
        · have hr := Lib.hid (hr (by simpa using hxy))
          have hne : (x == y) = false := beq_eq_false_iff_ne.2 hxy
          have hne2 : (x != y) = true := by rw [bne, hne]; rfl
          clear hst
          replace hxy := Lib.hid hxy
          go_wp2
          go_quiet (fail)
          go_wp2
          go_ret
          exact ⟨ret_bool (by rw [decide_eq_false hr.out]), hxt.drewN _⟩
      · obtain rfl : k = xs.length := by omega
        have hT := Lib.hid (hall.out hsame.out)
        go_wp2
        go_ret
        exact ⟨ret_bool (by rw [decide_eq_true hT.out]), hxt⟩
  · have hne : ((xs.length : Int) != (ys.length : Int)) = true := by simp; omega
    have hT : decide (xs = ys) = false := decide_eq_false fun e => hlen (by rw [e])
    rw [hT]
    go_enter Try.func103, Try.ntmps103
    go_wp2
    go_ret
    exact ⟨rfl, Ext.refl _⟩
end Go.Proofs.Ytehidhcpdiameaa

/- The walks of layer 9, on: two disks, compared. -/
namespace Go.Proofs.Ytehidhcpdiameaa
open Go.RowKit

set_option maxRecDepth 100000 in
set_option maxHeartbeats 16000000 in
theorem same9_any (A B : Dev.Disk) (u v : Value) (w : World) (hu : DiskIn w u A) (hv : DiskIn w v B) :
    Calls Try.prog 75 #[u, v] w fun e w' => e = .returned (.bool (decide (A = B))) ∧ Ext w w' := by
  obtain ⟨ka, kc, ca, cc, pa, pc, rfl, hkn⟩ := hu.form2
  obtain ⟨ka2, kc2, ca2, cc2, pa2, pc2, rfl, hkn2⟩ := hv.form2
  unfold diskV at hu hv ⊢
  obtain ⟨p1, p2, p3, _, _⟩ := hu.parts
  obtain ⟨r1, r2, r3, _, _⟩ := hv.parts
  clear hu hv
  have h56 := sameTexts_any A.kept B.kept
  have h103 := sameBools_any A.keep B.keep
  have bA := (Box.new w (diskL (.slice ka A.kept.length kc) (.slice ca A.cache.length cc) A.fuse (.slice pa A.keep.length pc) A.dead) 69).alloc (.cells #[.slice ka2 B.kept.length kc2, .slice ca2 B.cache.length cc2, .int .i64 B.fuse, .slice pa2 B.keep.length pc2, .bool B.dead] 69)
  have bB := Box.new (w.alloc (.cells #[.slice ka A.kept.length kc, .slice ca A.cache.length cc, .int .i64 A.fuse, .slice pa A.keep.length pc, .bool A.dead] 69)) (diskL (.slice ka2 B.kept.length kc2) (.slice ca2 B.cache.length cc2) B.fuse (.slice pa2 B.keep.length pc2) B.dead) 69
  rw [show (w.alloc (.cells #[.slice ka A.kept.length kc, .slice ca A.cache.length cc, .int .i64 A.fuse, .slice pa A.keep.length pc, .bool A.dead] 69)).heap.size = w.heap.size + 1 from by simp] at bB
  have y0 : Ext w ((w.alloc (.cells #[.slice ka A.kept.length kc, .slice ca A.cache.length cc, .int .i64 A.fuse, .slice pa A.keep.length pc, .bool A.dead] 69)).alloc (.cells #[.slice ka2 B.kept.length kc2, .slice ca2 B.cache.length cc2, .int .i64 B.fuse, .slice pa2 B.keep.length pc2, .bool B.dead] 69)) := ((Ext.refl w).alloc _).alloc _
  generalize hw0 : (w.alloc (.cells #[.slice ka A.kept.length kc, .slice ca A.cache.length cc, .int .i64 A.fuse, .slice pa A.keep.length pc, .bool A.dead] 69)).alloc (.cells #[.slice ka2 B.kept.length kc2, .slice ca2 B.cache.length cc2, .int .i64 B.fuse, .slice pa2 B.keep.length pc2, .bool B.dead] 69) = w0 at *
  obtain ⟨⟨i0, i1, i2, i3, i4⟩, _⟩ := bA.at5
  obtain ⟨⟨j0, j1, j2, j3, j4⟩, _⟩ := bB.at5
  obtain ⟨ca', cc', e1, hcl, hcm, hcA⟩ := slp_at p2
  simp only [Value.slice.injEq, true_and] at e1
  obtain ⟨rfl, rfl⟩ := e1
  obtain ⟨ca2', cc2', e1, hcl2, hcm2, hcB⟩ := slp_at r2
  simp only [Value.slice.injEq, true_and] at e1
  obtain ⟨rfl, rfl⟩ := e1
  have hMA : (A.cache.length : Int) ≤ 9223372036854775807 := by omega
  have hMB : (B.cache.length : Int) ≤ 9223372036854775807 := by omega
  replace p1 := Lib.hid p1; replace p3 := Lib.hid p3; replace r1 := Lib.hid r1; replace r3 := Lib.hid r3; replace bA := Lib.hid bA; replace bB := Lib.hid bB; replace hcA := Lib.hid hcA; replace hcB := Lib.hid hcB
  replace h103 := Lib.hid h103
  clear p2 r2
  have hext : ∀ A B : Dev.Disk, A.kept = B.kept → A.cache = B.cache → A.fuse = B.fuse → A.keep = B.keep → A.dead = B.dead → A = B := fun A B h1 h2 h3 h4 h5 => by
    cases A; cases B; simp only at h1 h2 h3 h4 h5; subst h1 h2 h3 h4 h5; rfl
  by_cases k1 : A.kept = B.kept
  · rw [decide_eq_true k1] at h56
    replace h56 := Lib.hid h56
    by_cases k2 : A.cache.length = B.cache.length
    · have c2 : ((A.cache.length : Int) != (B.cache.length : Int)) = false := by rw [k2]; simp
      by_cases k3 : A.fuse = B.fuse
      · have c3 : (A.fuse != B.fuse) = false := by rw [k3]; simp
        by_cases k4 : A.dead = B.dead
        · have c4 : (A.dead != B.dead) = false := by rw [k4]; simp
          by_cases k5 : A.keep = B.keep
          · replace h103 := h103.out
            rw [decide_eq_true k5] at h103
            replace h103 := Lib.hid h103
            have hfin : A.cache = B.cache → A = B := fun h => hext A B k1 h k3 k5 k4
            have hno : ∀ k : Nat, A.cache[k]? ≠ B.cache[k]? → A ≠ B := fun k h e => h (by rw [e])
            have hlst : (∀ j, j < A.cache.length → A.cache[j]? = B.cache[j]?) → A.cache = B.cache := fun h => by
              apply List.ext_getElem?
              intro i
              rcases Nat.lt_or_ge i A.cache.length with h2 | h2
              · exact h i h2
              · rw [List.getElem?_eq_none h2, List.getElem?_eq_none (by omega)]
            generalize hR : decide (A = B) = R at *
            have hyes : A.cache = B.cache → R = true := fun h => by rw [← hR]; exact decide_eq_true (hfin h)
            have hnoR : ∀ k : Nat, A.cache[k]? ≠ B.cache[k]? → R = false := fun k h => by rw [← hR]; exact decide_eq_false (hno k h)
            clear hR hfin hno
            replace hyes := Lib.hid hyes; replace hnoR := Lib.hid hnoR; replace hlst := Lib.hid hlst; replace k1 := Lib.hid k1; replace k3 := Lib.hid k3; replace k4 := Lib.hid k4; replace k5 := Lib.hid k5; replace hext := Lib.hid hext; replace k2 := Lib.hid k2
            go_enter Try.func75, Try.ntmps75
            go_wp2_with fail
            refine (h56.out _ _ _ (p1.out.ext y0) (r1.out.ext y0)).mono ?_; rintro e w1 ⟨rfl, x1⟩
            clear i0 i1 i2 i3 i4 j0 j1 j2 j3 j4 hw0
            obtain ⟨⟨i0, i1, i2, i3, i4⟩, _⟩ := (bA.out.ext x1).at5
            obtain ⟨⟨j0, j1, j2, j3, j4⟩, _⟩ := (bB.out.ext x1).at5
            have y1 := y0.trans x1
            go_wp2_with fail
            refine (h103.out _ _ _ (p3.out.ext y1) (r3.out.ext y1)).mono ?_; rintro e w2 ⟨rfl, x2⟩
            clear i0 i1 i2 i3 i4 j0 j1 j2 j3 j4
            have cA := (bA.out.ext x1).ext x2
            have cB := (bB.out.ext x1).ext x2
            obtain ⟨⟨i0, i1, i2, i3, i4⟩, _⟩ := cA.at5
            obtain ⟨⟨j0, j1, j2, j3, j4⟩, _⟩ := cB.at5
            have y2 := y1.trans x2
            go_wp2_with fail
            clear i0 i1 i2 i3 i4 j0 j1 j2 j3 j4
            replace cA := Lib.hid cA; replace cB := Lib.hid cB
            go_loopw [5] (fun i wr => ∃ k : Nat, k ≤ A.cache.length ∧ i = .int .i64 k ∧ (∀ j, j < k → A.cache[j]? = B.cache[j]?) ∧ Ext w2 wr) (fun i _ => A.cache.length - (intOf i).toNat)
            case atStart => exact ⟨0, by omega, rfl, fun j hj => by omega, Ext.refl _⟩
            case round =>
              obtain ⟨k, hk, rfl, hsame, hxt⟩ := hrel
              replace hsame := Lib.hid hsame
              obtain ⟨⟨i0, i1, i2, i3, i4⟩, _⟩ := (cA.out.ext hxt).at5
              obtain ⟨⟨j0, j1, j2, j3, j4⟩, _⟩ := (cB.out.ext hxt).at5
              have y3 := y2.trans hxt
              by_cases hkl : k < A.cache.length
              · have hlo := k2.out
                obtain ⟨b, o, e1, hb, ha1, ha2⟩ := hcA.out k hkl
                obtain ⟨b2, o2, e2, hb2, hb1, hb22⟩ := hcB.out k (by omega)
                have g1 : A.cache[k]? = some A.cache[k] := List.getElem?_eq_getElem hkl
                have g2 : B.cache[k]? = some B.cache[k] := List.getElem?_eq_getElem (by omega)
                have f1 := (y3.cell (p := ⟨b, o + k * 2, none⟩) hb).trans ha1
                have f2 := (y3.cell (p := ⟨b, o + k * 2 + 1, none⟩) hb).trans ha2
                have f3 := (y3.cell (p := ⟨b2, o2 + k * 2, none⟩) hb2).trans hb1
                have f4 := (y3.cell (p := ⟨b2, o2 + k * 2 + 1, none⟩) hb2).trans hb22
                have hky : (k : Int) < B.cache.length := by omega
                have hkx : (k : Int) < A.cache.length := by omega
                have hr := hnoR.out k
                rw [g1, g2] at hr
                have hst : A.cache[k] = B.cache[k] → ∀ j, j < k + 1 → A.cache[j]? = B.cache[j]? := fun e j hj => by
                  rcases Nat.lt_or_ge j k with h | h
                  · exact hsame.out j h
                  · obtain rfl : j = k := by omega
                    rw [g1, g2, e]
                subst e1 e2
                clear ha1 ha2 hb1 hb22 g1 g2
                generalize A.cache[k] = x at *
                generalize B.cache[k] = y at *
                obtain ⟨x0, xs⟩ := x
                obtain ⟨z0, zs⟩ := y
                clear hlo
                dsimp only at f1 f2 f3 f4
                by_cases hxy : x0 = z0
                · by_cases hss : xs = zs
                  · subst hxy
                    subst hss
                    replace hst := Lib.hid (hst rfl)
                    have heq : (xs.toList == xs.toList) = true := beq_self_eq_true _
                    have heq2 : (x0 == x0) = true := beq_self_eq_true _
                    clear hr
                    go_wp2
                    go_quiet (fail)
                    go_wp2
                    go_roundw
                    case rel => exact ⟨k + 1, by omega, by go_num, hst.out, hxt.drewN _⟩
                    case measure => simp [intOf]; omega
                  · subst hxy
                    have hr := Lib.hid (hr (by simpa using hss))
                    have heq2 : (x0 == x0) = true := beq_self_eq_true _
                    have hne : (xs.toList == zs.toList) = false := beq_false fun e => hss (str_inj e)
                    have hss2 : ¬ xs = zs := hss
                    clear hst
                    go_wp2
                    go_quiet (fail)
                    go_wp2
                    go_ret
                    exact ⟨ret_bool hr.out.symm, y3.drewN _⟩
                · have hr := Lib.hid (hr (by intro e; simp only [Option.some.injEq, Prod.mk.injEq] at e; exact hxy e.1))
                  have hne : (x0 == z0) = false := beq_eq_false_iff_ne.2 hxy
                  clear hst
                  go_wp2
                  go_quiet (fail)
                  go_wp2
                  go_ret
                  exact ⟨ret_bool hr.out.symm, y3.drewN _⟩
              · obtain rfl : k = A.cache.length := by omega
                have hT := Lib.hid (hyes.out (hlst.out hsame.out))
                have hend : decide ((A.cache.length : Int) < A.cache.length) = false := decide_eq_false (by omega)
                go_wp2
                go_ret
                exact ⟨ret_bool hT.out.symm, y3⟩
          · have hne : ¬ A = B := fun e => k5 (by rw [e])
            replace h103 := h103.out
            rw [decide_eq_false k5] at h103
            replace h103 := Lib.hid h103; replace k1 := Lib.hid k1; replace k2 := Lib.hid k2; replace k3 := Lib.hid k3; replace k4 := Lib.hid k4; replace k5 := Lib.hid k5; replace hext := Lib.hid hext
            replace hne := Lib.hid hne
            go_enter Try.func75, Try.ntmps75
            go_wp2_with fail
            refine (h56.out _ _ _ (p1.out.ext y0) (r1.out.ext y0)).mono ?_; rintro e w1 ⟨rfl, x1⟩
            clear i0 i1 i2 i3 i4 j0 j1 j2 j3 j4 hw0
            obtain ⟨⟨i0, i1, i2, i3, i4⟩, _⟩ := (bA.out.ext x1).at5
            obtain ⟨⟨j0, j1, j2, j3, j4⟩, _⟩ := (bB.out.ext x1).at5
            have y1 := y0.trans x1
            go_wp2_with fail
            refine (h103.out _ _ _ (p3.out.ext y1) (r3.out.ext y1)).mono ?_; rintro e w2 ⟨rfl, x2⟩
            clear i0 i1 i2 i3 i4 j0 j1 j2 j3 j4
            have cA := (bA.out.ext x1).ext x2
            have cB := (bB.out.ext x1).ext x2
            obtain ⟨⟨i0, i1, i2, i3, i4⟩, _⟩ := cA.at5
            obtain ⟨⟨j0, j1, j2, j3, j4⟩, _⟩ := cB.at5
            have y2 := y1.trans x2
            go_wp2_with fail
            go_ret
            exact ⟨ret_bool (by rw [decide_eq_false hne.out]), y2⟩
        · have c4 : (A.dead != B.dead) = true := by simpa using k4
          have hne : ¬ A = B := fun e => k4 (by rw [e])
          replace k1 := Lib.hid k1; replace k2 := Lib.hid k2; replace k3 := Lib.hid k3; replace k4 := Lib.hid k4; replace hext := Lib.hid hext
          replace hne := Lib.hid hne
          go_enter Try.func75, Try.ntmps75
          go_wp2_with fail
          refine (h56.out _ _ _ (p1.out.ext y0) (r1.out.ext y0)).mono ?_; rintro e w1 ⟨rfl, x1⟩
          clear i0 i1 i2 i3 i4 j0 j1 j2 j3 j4 hw0
          obtain ⟨⟨i0, i1, i2, i3, i4⟩, _⟩ := (bA.out.ext x1).at5
          obtain ⟨⟨j0, j1, j2, j3, j4⟩, _⟩ := (bB.out.ext x1).at5
          have y1 := y0.trans x1
          go_wp2_with fail
          go_ret
          exact ⟨ret_bool (by rw [decide_eq_false hne.out]), y1⟩
      · have c3 : (A.fuse != B.fuse) = true := by simpa using k3
        have hne : ¬ A = B := fun e => k3 (by rw [e])
        replace k1 := Lib.hid k1; replace k2 := Lib.hid k2; replace k3 := Lib.hid k3; replace hext := Lib.hid hext
        replace hne := Lib.hid hne
        go_enter Try.func75, Try.ntmps75
        go_wp2_with fail
        refine (h56.out _ _ _ (p1.out.ext y0) (r1.out.ext y0)).mono ?_; rintro e w1 ⟨rfl, x1⟩
        clear i0 i1 i2 i3 i4 j0 j1 j2 j3 j4 hw0
        obtain ⟨⟨i0, i1, i2, i3, i4⟩, _⟩ := (bA.out.ext x1).at5
        obtain ⟨⟨j0, j1, j2, j3, j4⟩, _⟩ := (bB.out.ext x1).at5
        have y1 := y0.trans x1
        go_wp2_with fail
        go_ret
        exact ⟨ret_bool (by rw [decide_eq_false hne.out]), y1⟩
    · have c2 : ((A.cache.length : Int) != (B.cache.length : Int)) = true := by simp; omega
      have hne : ¬ A = B := fun e => k2 (by rw [e])
      replace k1 := Lib.hid k1; replace k2 := Lib.hid k2; replace hext := Lib.hid hext
      replace hne := Lib.hid hne
      go_enter Try.func75, Try.ntmps75
      go_wp2_with fail
      refine (h56.out _ _ _ (p1.out.ext y0) (r1.out.ext y0)).mono ?_; rintro e w1 ⟨rfl, x1⟩
      clear i0 i1 i2 i3 i4 j0 j1 j2 j3 j4 hw0
      obtain ⟨⟨i0, i1, i2, i3, i4⟩, _⟩ := (bA.out.ext x1).at5
      obtain ⟨⟨j0, j1, j2, j3, j4⟩, _⟩ := (bB.out.ext x1).at5
      have y1 := y0.trans x1
      go_wp2_with fail
      go_ret
      exact ⟨ret_bool (by rw [decide_eq_false hne.out]), y1⟩
  · rw [decide_eq_false k1] at h56
    have hne : ¬ A = B := fun e => k1 (by rw [e])
    replace h56 := Lib.hid h56; replace k1 := Lib.hid k1; replace hext := Lib.hid hext
    replace hne := Lib.hid hne
    go_enter Try.func75, Try.ntmps75
    go_wp2_with fail
    refine (h56.out _ _ _ (p1.out.ext y0) (r1.out.ext y0)).mono ?_; rintro e w1 ⟨rfl, x1⟩
    clear i0 i1 i2 i3 i4 j0 j1 j2 j3 j4 hw0
    obtain ⟨⟨i0, i1, i2, i3, i4⟩, _⟩ := (bA.out.ext x1).at5
    obtain ⟨⟨j0, j1, j2, j3, j4⟩, _⟩ := (bB.out.ext x1).at5
    have y1 := y0.trans x1
    go_wp2_with fail
    go_ret
    exact ⟨ret_bool (by rw [decide_eq_false hne.out]), y1⟩

end Go.Proofs.Ytehidhcpdiameaa

/- The walks of layer 9, on: a new disk, of the reference; a sector of a byte. -/
namespace Go.Proofs.Ytehidhcpdiameaa
open Go.RowKit

set_option maxRecDepth 100000 in
set_option maxHeartbeats 8000000 in
theorem refNew_good (n : Nat) (w : World) (h1 : 1 ≤ n) (h2 : n ≤ 5000) :
    Calls Try.prog 76 #[.int .i64 n] w fun e w' => ∃ r, e = .returned (.tuple #[r, .int .i64 (Dev.new n).2]) ∧ DiskIn w' r (Dev.new n).1 ∧ Ext w w' := by
  rw [new_spec n h1 h2]
  have d1 : decide ((n : Int) < 1) = false := decide_eq_false (by omega)
  have d2 : decide (5000 < (n : Int)) = false := decide_eq_false (by omega)
  obtain ⟨i0w, hi, hz0, hz1, hz2⟩ := info_parts info9
  have hzz := fun w => zeros_any w
  have r0 := (Box.new w zeroL 69).alloc (.cells #[.slice none 0 0, .slice none 0 0, .int .i64 (-1), .slice none 0 0, .bool false] 69)
  have b0 := Box.new (w.alloc (.cells #[.slice none 0 0, .slice none 0 0, .int .i64 0, .slice none 0 0, .bool false] 69)) [.slice none 0 0, .slice none 0 0, .int .i64 (-1), .slice none 0 0, .bool false] 69
  rw [show (w.alloc (.cells #[.slice none 0 0, .slice none 0 0, .int .i64 0, .slice none 0 0, .bool false] 69)).heap.size = w.heap.size + 1 from by simp] at b0
  have y0 : Ext w ((w.alloc (.cells #[.slice none 0 0, .slice none 0 0, .int .i64 0, .slice none 0 0, .bool false] 69)).alloc (.cells #[.slice none 0 0, .slice none 0 0, .int .i64 (-1), .slice none 0 0, .bool false] 69)) := ((Ext.refl w).alloc _).alloc _
  have hsz : w.heap.size + 2 ≤ ((w.alloc (.cells #[.slice none 0 0, .slice none 0 0, .int .i64 0, .slice none 0 0, .bool false] 69)).alloc (.cells #[.slice none 0 0, .slice none 0 0, .int .i64 (-1), .slice none 0 0, .bool false] 69)).heap.size := by simp
  have hni : (n : Int) ≤ 5000 := by omega
  generalize zeros = ZZ at *
  replace y0 := Lib.hid y0; replace hsz := Lib.hid hsz
  replace hzz := Lib.hid hzz; replace r0 := Lib.hid r0; replace b0 := Lib.hid b0
  go_enter Try.func76, Try.ntmps76
  go_wp2_with fail
  go_loopw [5] (fun i wr => ∃ k : Nat, k ≤ n ∧ i = .int .i64 k ∧ ∃ va vb, wr.ownsRow (w.heap.size + 2) 9 1 (.slice va k vb) k ((List.replicate k ZZ).map strV) ∧ Box (w.heap.size + 1) [.slice va k vb, .slice none 0 0, .int .i64 (-1), .slice none 0 0, .bool false] wr ∧ Box w.heap.size zeroL wr ∧ Ext w wr ∧ w.heap.size + 2 ≤ wr.heap.size) (fun i _ => n - (intOf i).toNat)
  case atStart => exact ⟨0, by omega, rfl, none, 0, World.ownsRow_nil _ _ _ _, b0.out, r0.out, y0.out, hsz.out⟩
  case round =>
    obtain ⟨k, hk, rfl, va, vb, hown, hbx, hrs, hx, hz⟩ := hrel
    by_cases hlt : k < n
    · have hki : (k : Int) < n := by omega
      have hrep : (List.replicate k ZZ).map strV ++ [.string ZZ] = (List.replicate (k + 1) ZZ).map strV := by rw [List.replicate_succ', List.map_append]; rfl
      replace hbx := Lib.hid hbx; replace hrs := Lib.hid hrs; replace hown := Lib.hid hown; replace hrep := Lib.hid hrep
      go_wp2_with fail
      refine Soft.region_ext [(3, Soft.row 1 1 [.string ZZ])] [0, 1, 2, 3] [4, 5, 6] (by kernel_rfl) (by kernel_rfl) (Soft.stab_one fun _ _ _ => Soft.row_stab) ?_
      repeat (refine Soft.pure_n rfl rfl rfl rfl (fun K hK => ?_); go_simp; refine hK _ ?_; clear hK K)
      (refine Soft.quiet_n rfl rfl rfl rfl (fun K hK => ?_); go_simp; apply Exists.intro; refine ⟨fun wq hq => ?_, hK _ ?_⟩; (obtain ⟨⟨gg0, gg1, gg2, gg3, gg4⟩, _⟩ := (hbx.out.ext hq).at5; go_simp; with_reducible rfl); clear hK K)
      (refine Soft.quiet_n rfl rfl rfl rfl (fun K hK => ?_); go_simp; apply Exists.intro; refine ⟨fun wq hq => ?_, hK _ ?_⟩; (with_reducible exact hzz.out _); clear hK K)
      refine Soft.loud_step0 rfl rfl rfl rfl (fun K hK => ?_)
      refine ⟨fun wq hq => ?_, fun u ⟨m, hu⟩ => hK _ ?_⟩
      · go_simp
        exact ⟨(Ext.refl _).alloc _, ⟨_, rfl⟩, Soft.row_new⟩
      clear hK K
      subst hu
      refine Soft.tail_forced [_, _, _] (by kernel_rfl) rfl (fun w3 x3 hk3 => ?_)
      have hcell := (Soft.row_cell (hk3.get 3 rfl rfl)).2 0 _ rfl
      clear hk3
      refine wpList_append_own w3 rfl (.tmp 20) (.tmp 22) 55 rfl (w.heap.size + 2) 9 i0w (.string ByteArray.empty) 1 16 Try.underlying55 hi hz0 hz1 hz2 rfl (by decide) _ k _ rfl (ownsRow_ext hown.out x3) ⟨m, 0, none⟩ 1 1 _ rfl rfl (one_news hcell) ?h1 ?h2 ?h3 (Nat.le_trans hz x3.size) ?_
      case h1 => intro u hu; rw [List.mem_singleton] at hu; subst hu; rfl
      case h2 => unfold maxLen; omega
      case h3 => omega
      intro v' w4 hown4 hgrow _
      rw [hrep.out] at hown4
      obtain ⟨va', vb', e1⟩ := owned_slice hown4
      subst e1
      have hge := ownBlock_ge hown.out
      have x4 : Ext w w4 := (hx.trans x3).grown hgrow (fun j hj => by have := hge j hj; omega)
      have hb4 := (hbx.out.ext x3).grown hgrow (fun e => by have := hge _ e; omega)
      have hr4 := (hrs.out.ext x3).grown hgrow (fun e => by have := hge _ e; omega)
      obtain ⟨⟨j0, j1, j2, j3, j4⟩, f0, f1, f2, f3, f4⟩ := hb4.at5
      have hb5 := hb4.set 0 (.slice va' (k + 1) vb') (by simp)
      have hr5 := hr4.other (m := w.heap.size + 1) (by omega) 0 (.slice va' (k + 1) vb')
      have ho5 := ownsRow_under hown4 (w.heap.size + 1) 0 (.slice va' (k + 1) vb') (by omega)
      have y5 : Ext w (w4.setCell ⟨w.heap.size + 1, 0, none⟩ (.slice va' (k + 1) vb')) := x4.below.setCell (by show w.heap.size ≤ w.heap.size + 1; omega) _
      have hz5 : w.heap.size + 2 ≤ (w4.setCell ⟨w.heap.size + 1, 0, none⟩ (.slice va' (k + 1) vb')).heap.size := by have := x3.size; have := hgrow.size; simp; omega
      replace hb5 := Lib.hid hb5; replace hr5 := Lib.hid hr5; replace ho5 := Lib.hid ho5; replace hb4 := Lib.hid hb4; replace hr4 := Lib.hid hr4; replace hown4 := Lib.hid hown4; replace hge := Lib.hid hge
      clear hcell hgrow
      go_wp2_with fail
      rw [Soft.NoP_normal]
      go_wp2_with fail
      go_roundw
      case rel => exact ⟨k + 1, by omega, by go_num, va', vb', ho5.out, hb5.out, hr5.out, y5, hz5⟩
      case measure => simp [intOf]; omega
    · obtain rfl : k = n := by omega
      obtain ⟨⟨j0, j1, j2, j3, j4⟩, f0, f1, f2, f3, f4⟩ := hbx.at5
      have r1 := hrs
      have hend : decide ((k : Int) < k) = false := decide_eq_false (by omega)
      have hlt2 : w.heap.size < w.heap.size + 2 := by omega
      replace hbx := Lib.hid hbx; replace hown := Lib.hid hown; replace hrs := Lib.hid hrs
      obtain ⟨_, g0, g1, g2, g3, g4⟩ := r1.at5
      have r2 := (((((r1.set 0 (.slice va k vb) (by simp)).set 1 (.slice none 0 0) (by simp)).set 2 (.int .i64 (-1)) (by simp)).set 3 (.slice none 0 0) (by simp)).set 4 (.bool false) (by simp))
      obtain ⟨⟨m0, m1, m2, m3, m4⟩, _⟩ := r2.at5
      replace m0 := Lib.hid m0; replace m1 := Lib.hid m1; replace m2 := Lib.hid m2; replace m3 := Lib.hid m3; replace m4 := Lib.hid m4
      replace r1 := Lib.hid r1; replace r2 := Lib.hid r2
      go_wp2_with fail
      refine bodyPost_ret (v := .tuple #[.agg #[.slice va k vb, .slice none 0 0, .int .i64 (-1), .slice none 0 0, .bool false], .int .i64 0]) ?_ rfl ⟨_, rfl, ?_, ?_⟩
      · simp [results, Try.results76, go_sem, m0.out, m1.out, m2.out, m3.out, m4.out, diskV]
      · have ho := (ownsRow_under (ownsRow_under (ownsRow_under (ownsRow_under (ownsRow_under hown.out _ 0 (.slice va k vb) hlt2) _ 1 (.slice none 0 0) hlt2) _ 2 (.int .i64 (-1)) hlt2) _ 3 (.slice none 0 0) hlt2) _ 4 (.bool false) hlt2)
        exact ⟨_, _, _, rfl, by have h5 := Sl.owned ho; simpa using h5, SlP.nil _, Sl.nil _, nilOr_owned ho, .inl rfl⟩
      · exact (((((hx).below.setCell (by simp) _).setCell (by simp) _).setCell (by simp) _).setCell (by simp) _).setCell (by simp) _

theorem refNew_any (n : Int) (w : World) : Calls Try.prog 76 #[.int .i64 n] w fun e w' => ∃ r, e = .returned (.tuple #[r, .int .i64 (Dev.new n).2]) ∧ DiskIn w' r (Dev.new n).1 ∧ Ext w w' := by
  by_cases h : n < 1 ∨ 5000 < n
  · exact new_bad 76 (.inr rfl) n w h
  · obtain ⟨m, rfl⟩ := Int.eq_ofNat_of_zero_le (show 0 ≤ n by omega)
    exact refNew_good m w (by omega) (by omega)
end Go.Proofs.Ytehidhcpdiameaa

/- The walks of layer 9, on: a sector of a byte; what the fixed calls come to. -/
namespace Go.Proofs.Ytehidhcpdiameaa
open Go.RowKit

/-- the cells of a sector, when k of its bytes are written. -/
def sectL (b : UInt8) (k : Nat) : List Value := List.replicate k (byteV b) ++ List.replicate (32 - k) (.int .u8 0)
theorem sectL_length (b : UInt8) (k : Nat) (h : k ≤ 32) : (sectL b k).length = 32 := by unfold sectL; simp; omega
theorem sectL_set (b : UInt8) (k : Nat) (h : k < 32) : (sectL b k).set k (byteV b) = sectL b (k + 1) := by
  unfold sectL
  rw [List.set_append_right _ _ (by simp), List.length_replicate, Nat.sub_self, show 32 - k = (32 - (k + 1)) + 1 from by omega, List.replicate_succ, List.set_cons_zero, List.replicate_succ', List.append_assoc]
  rfl
theorem zerosObj_eq (b : UInt8) : zerosObj = .cells (sectL b 0).toArray 5 := by
  rfl
theorem run_sect (b : UInt8) (w : World) (n : Nat) (h : Box n (sectL b 32) w) : (Go.convert 33 9 (.slice (some ⟨n, 0, none⟩) 32 32)).run Try.prog w = .ok (.string (Dev.sect b)) w := by
  rw [run_convert_bytes_arg w 33 5 Try.underlying33 Try.underlying5 n 0 32 32 (List.replicate 32 (b.toNat : Int)) (by simp) ?_ 9 Try.underlying9]
  · congr 2
    unfold strOfNums Dev.sect
    simp
  · intro i hi
    have e : (List.replicate 32 (b.toNat : Int)).getD i 0 = b.toNat := by
      rw [List.getD_eq_getElem?_getD, List.getElem?_replicate, if_pos hi]; rfl
    rw [Nat.zero_add, e]
    refine h.cell i _ ?_
    unfold sectL
    rw [Nat.sub_self, List.replicate_zero, List.append_nil, List.getElem?_replicate, if_pos hi]
    rfl

set_option maxHeartbeats 4000000 in
theorem sector_any (b : UInt8) (w : World) : Calls Try.prog 65 #[byteV b] w fun e w' => e = .returned (.string (Dev.sect b)) ∧ Ext w w' := by
  have hmk := make_zeros w
  rw [zerosObj_eq b] at hmk
  have hb0 := Box.new w (sectL b 0) 5
  have x0 : Ext w (w.alloc (.cells (sectL b 0).toArray 5)) := (Ext.refl w).alloc _
  generalize w.alloc (.cells (sectL b 0).toArray 5) = w0 at *
  replace hb0 := Lib.hid hb0
  unfold byteV
  go_enter Try.func65, Try.ntmps65
  go_wp2_with fail
  go_loopw [4] (fun i wr => ∃ k : Nat, k ≤ 32 ∧ i = .int .i64 k ∧ Box w.heap.size (sectL b k) wr ∧ Ext w wr) (fun i _ => 32 - (intOf i).toNat)
  case atStart => exact ⟨0, by omega, rfl, hb0.out, x0⟩
  case round =>
    obtain ⟨k, hk, rfl, hb, hx⟩ := hrel
    by_cases hlt : k < 32
    · have hki : (k : Int) < 32 := by omega
      have hf := hb.free k (by rw [sectL_length b k hk]; exact hlt)
      obtain ⟨old, hold⟩ : ∃ old, (sectL b k)[k]? = some old := ⟨_, List.getElem?_eq_getElem (by rw [sectL_length b k hk]; exact hlt)⟩
      have hc := hb.cell k old hold
      have hn := hb.set k (byteV b) (by rw [sectL_length b k hk]; exact hlt)
      rw [sectL_set b k hlt] at hn
      have hn' : Box w.heap.size (sectL b (k + 1)) (wr.setCell ⟨w.heap.size, k, none⟩ (.int .u8 b.toNat)) := hn
      replace hn := Lib.hid hn; replace hn' := Lib.hid hn'; replace hb := Lib.hid hb; replace hold := Lib.hid hold
      go_wp2_with fail
      go_roundw
      case rel => exact ⟨k + 1, by omega, by go_num, hn'.out, hx.below.setCell (Nat.le_refl _) _⟩
      case measure => simp [intOf]; omega
    · obtain rfl : k = 32 := by omega
      have hcv := run_sect b wr w.heap.size hb
      replace hb := Lib.hid hb
      go_wp2_with fail
      try (rw [hcv]; go_wp2_with fail)
      go_ret
      exact ⟨rfl, hx⟩

namespace Dev
def d0 : Disk := ⟨[zero, zero], [], -1, [], false⟩
def d1 : Disk := ⟨[zero, zero], [(1, sect 7)], -1, [], false⟩
def dA : Disk := ⟨[zero, sect 7], [], -1, [], true⟩
def dB : Disk := ⟨[zero, zero], [], -1, [], true⟩
theorem f_new : new 2 = (d0, 0) := by decide +kernel
theorem f_new0 : new 0 = (no, 1) := by decide +kernel
theorem f_write : write d0 1 (sect 7) = (d1, 0) := by decide +kernel
theorem f_read : read d1 1 = (sect 7, 0) := by decide +kernel
theorem f_dieA : die d1 [true] = dA := by decide +kernel
theorem f_dieB : die d1 [] = dB := by decide +kernel
theorem f_arm : write (arm d0 0 []) 0 (sect 1) = (dB, 90) := by decide +kernel
theorem f_revA : read (revive dA) 1 = (sect 7, 0) := by decide +kernel
theorem f_revB : read (revive dB) 1 = (zero, 0) := by decide +kernel
theorem f_readA : read dA 1 = (empty, 90) := by decide +kernel
theorem f_may : may d0 = true := by decide +kernel
end Dev
end Go.Proofs.Ytehidhcpdiameaa
