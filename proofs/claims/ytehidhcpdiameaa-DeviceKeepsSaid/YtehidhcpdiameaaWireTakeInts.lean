/- The walks of layer 10, on: lists of numbers out of bytes, of the program and of the reference; the comparison of two lists. -/
import Derived.Test.YtehidhcpdiameaaWireLaw
import Derived.Test.YtehidhcpdiameaaSl
namespace Go.Proofs.Ytehidhcpdiameaa
open Go.RowKit

/-- a list of numbers, a place, whether it is there. -/
def TookInts (w : World) (t : List Int × Int × Bool) (e : Ending) (w' : World) : Prop :=
  ∃ v, e = .returned (.tuple #[v, .int .i64 t.2.1, .bool t.2.2]) ∧ Sl w' v (t.1.map intV) ∧ Ext w w'
theorem TookInts.no {w w' : World} {t : List Int × Int × Bool} (h : t = ([], 0, false)) (x : Ext w w') : TookInts w t (.returned (.tuple #[.slice none 0 0, .int .i64 0, .bool false])) w' := by
  subst h; exact ⟨_, rfl, Sl.nil _, x⟩
theorem TookInts.yes {w w' : World} {t : List Int × Int × Bool} {ns : List Int} {r : Int} (h : t = (ns, r, true)) {v : Value} {base n : Nat} (ho : w'.ownsRow base 3 1 v n (ns.map intV)) (x : Ext w w') :
    TookInts w t (.returned (.tuple #[v, .int .i64 r, .bool true])) w' := by
  subst h; exact ⟨_, rfl, Sl.owned ho, x⟩

theorem info3 : (Try.prog.info? 3).map (fun i => (i.zero, i.size, i.bytes)) = some (some (.int .i64 0), 1, 8) := by kernel_rfl

theorem upto_no (l : List UInt8) (p : Int) (n : Nat) (q : Int) (ht : Wire.takeAt l p = (n, q, true)) (k : Nat) (hk : k ≤ n) (h : Wire.upto l q k = none) : Wire.takeIntsAt l p = ([], 0, false) := by
  have h2 := Wire.upto_none l q k h (n - k)
  rw [show k + (n - k) = n from by omega] at h2
  unfold Wire.takeIntsAt
  rw [ht]
  simp only [h2, ite_self]
theorem upto_yes (l : List UInt8) (p : Int) (n : Nat) (q : Int) (ht : Wire.takeAt l p = (n, q, true)) (hle : (n : Int) ≤ (l.length : Int) - q) (ns : List Int) (r : Int) (h : Wire.upto l q n = some (ns, r)) : Wire.takeIntsAt l p = (ns, r, true) := by
  unfold Wire.takeIntsAt
  rw [ht]
  simp only [Bool.true_and, decide_eq_true hle, if_true, h]
theorem ints_no (l : List UInt8) (p : Int) (n : Nat) (q : Int) (ht : Wire.takeAt l p = (n, q, false)) : Wire.takeIntsAt l p = ([], 0, false) := by
  unfold Wire.takeIntsAt
  rw [ht]
  simp
theorem ints_few (l : List UInt8) (p : Int) (n : Nat) (q : Int) (ht : Wire.takeAt l p = (n, q, true)) (h : (l.length : Int) - q < n) : Wire.takeIntsAt l p = ([], 0, false) := by
  unfold Wire.takeIntsAt
  rw [ht]
  simp only [Bool.true_and]
  rw [if_neg (by simp; omega)]

set_option maxRecDepth 100000 in
set_option maxHeartbeats 4000000 in
theorem takeInts_any (s : ByteArray) (p : Int) (hs : s.size ≤ 1000000000) (w : World) :
    Calls Try.prog 43 #[.string s, .int .i64 p] w (TookInts w (Wire.takeIntsAt s.data.toList p)) := by
  have hc := fun p w => Soft_same (take_any s p (by unfold maxLen; omega) w)
  have hb := Wire.takeAt_bounds s.data.toList
  have hno := ints_no s.data.toList p
  have hfew := ints_few s.data.toList p
  have huno := upto_no s.data.toList p
  have huyes := upto_yes s.data.toList p
  have hus := Wire.upto_succ s.data.toList
  have huf := Wire.upto_fail s.data.toList
  have hu0 : ∀ q, Wire.upto s.data.toList q 0 = some ([], q) := fun q => rfl
  generalize Wire.takeIntsAt s.data.toList p = T at *
  rw [size_list] at hfew huyes hb
  generalize s.data.toList = l at *
  have hcp := hc p
  obtain ⟨⟨n, q, b⟩, ht⟩ : ∃ x, x = Wire.takeAt l p := ⟨_, rfl⟩
  rw [← ht] at hcp
  unfold took at hcp
  dsimp only at hcp
  replace hcp := Lib.hid hcp; replace hc := Lib.hid hc
  replace ht := ht.symm
  cases b
  · have hT := Lib.hid (hno n q ht)
    clear hno hfew huno huyes hus huf hu0 hb hc
    replace ht := Lib.hid ht
    go_enter Try.func43, Try.ntmps43
    go_wp2_with fail
    refine (hcp.out _).mono ?_; rintro e w1 ⟨rfl, x1⟩
    go_wp2_with fail
    go_ret3
    exact TookInts.no hT.out x1
  · obtain ⟨h1, h2, h3, h4⟩ := hb p n q ht
    obtain ⟨q, rfl⟩ := Int.eq_ofNat_of_zero_le (show 0 ≤ q by omega)
    by_cases hn : (n : Int) ≤ (s.size : Int) - q
    · replace huno := huno n q ht
      replace huyes := huyes n q ht hn
      have hn4 : (n : Int) ≤ 1000000000 := by omega
      have hn5 : ¬ (s.size : Int) - q < n := by omega
      clear hno hfew h4 h1
      replace huno := Lib.hid huno; replace huyes := Lib.hid huyes; replace hus := Lib.hid hus; replace huf := Lib.hid huf; replace hu0 := Lib.hid hu0; replace hb := Lib.hid hb; replace ht := Lib.hid ht
      obtain ⟨i0, hi, hz0, hz1, hz2⟩ := info_parts info3
      go_enter Try.func43, Try.ntmps43
      go_wp2_with fail
      refine (hcp.out _).mono ?_; rintro e w1 ⟨rfl, x1⟩
      go_wp2_with fail
      go_loopw [1, 9, 29] (fun at_ out i wr => ∃ (k : Nat) (ns : List Int) (r : Int), k ≤ n ∧ i = .int .i64 k ∧ at_ = .int .i64 r ∧ Wire.upto l q k = some (ns, r) ∧ ns.length = k ∧ wr.ownsRow w.heap.size 3 1 out k (ns.map intV) ∧ Ext w wr) (fun _ _ i _ => n - (intOf i).toNat)
      case atStart => exact ⟨0, [], q, by omega, rfl, rfl, hu0.out _, rfl, ⟨rfl, .inl ⟨rfl, rfl⟩⟩, x1⟩
      case round =>
        obtain ⟨k, ns, r, hk, rfl, rfl, hu, hnl, hown, hx⟩ := hrel
        replace hu := Lib.hid hu; replace hnl := Lib.hid hnl
        by_cases hkn : k < n
        · have hkn' : (k : Int) < n := by omega
          obtain ⟨⟨m, r', b⟩, hm⟩ : ∃ x, x = Wire.takeAt l r := ⟨_, rfl⟩
          have hcr := hc.out r
          rw [← hm] at hcr
          unfold took at hcr
          dsimp only at hcr
          replace hcr := Lib.hid hcr
          cases b
          · have hT := Lib.hid (huno.out (k + 1) (by omega) (huf.out q k ns r hu.out m r' hm.symm))
            replace hm := Lib.hid hm
            go_wp2_with fail
            refine (hcr.out _).mono ?_; rintro e w2 ⟨rfl, x2⟩
            go_wp2_with fail
            go_ret3
            exact TookInts.no hT.out (hx.trans x2)
          · have hu2 := Lib.hid (hus.out q k ns r hu.out m r' hm.symm)
            have hbm := hb.out r m r' hm.symm
            replace hm := Lib.hid hm
            obtain ⟨g1, g2, g3, g4⟩ := hbm
            go_wp2_with fail
            refine (hcr.out _).mono ?_; rintro e w2 ⟨rfl, x2⟩
            go_wp2_with (at_builtin; refine wpList_append_own _ rfl _ _ 39 rfl w.heap.size 3 i0 (.int .i64 0) 1 8 Try.underlying39 hi hz0 hz1 hz2 rfl (by decide) _ _ _ rfl (ownsRow_ext hown (x2.alloc _)) ⟨w2.heap.size, 0, none⟩ 1 1 [.int .i64 m] rfl rfl ?c1 ?c2 ?c3 ?c4 ?c5 ?_)
            case c1 => exact one_news (by rw [World.cell?_alloc_mark]; rfl)
            case c2 => intro u hu; rw [List.mem_singleton] at hu; subst hu; rfl
            case c3 => unfold maxLen; omega
            case c4 => omega
            case c5 => have := (hx.trans x2).size; simp; omega
            intro v' w3 hown3 hgrow _
            have x3 : Ext w w3 := ((hx.trans x2).alloc _).grown hgrow (ownBlock_ge hown)
            clear hgrow
            go_wp2
            go_roundw
            case rel => exact ⟨k + 1, ns ++ [(m : Int)], r', by omega, by go_num, rfl, hu2.out, by rw [List.length_append, hnl.out]; rfl, by rw [List.map_append]; exact hown3, x3⟩
            case measure => simp [intOf]; omega
        · obtain rfl : k = n := by omega
          have hT := Lib.hid (huyes.out ns r hu.out)
          go_wp2_with fail
          go_ret3
          exact TookInts.yes hT.out hown hx
    · have hT := Lib.hid (hfew n q ht (by omega))
      have hn' : (s.size : Int) - q < n := by omega
      clear hno hfew huno huyes hus huf hu0 hb hc h4 h1
      replace ht := Lib.hid ht
      go_enter Try.func43, Try.ntmps43
      go_wp2_with fail
      refine (hcp.out _).mono ?_; rintro e w1 ⟨rfl, x1⟩
      go_wp2_with fail
      go_ret3
      exact TookInts.no hT.out x1

/-- an empty row that was just made is owned, from any place on that it stands behind. -/
theorem ownsRow_made (w : World) (e : TypeId) (size : Nat) {base : Nat} (h : base ≤ w.heap.size) : (w.alloc (.cells #[] e)).ownsRow base e size (.slice (some ⟨w.heap.size, 0, none⟩) 0 0) 0 [] :=
  ⟨by simp, .inr ⟨w.heap.size, 0, #[], rfl, h, heap_new _ _, by omega, by unfold maxLen; omega, by simp, by simp⟩⟩

set_option maxRecDepth 100000 in
set_option maxHeartbeats 4000000 in
theorem refTakeInts_any (s : ByteArray) (p : Int) (hs : s.size ≤ 1000000000) (w : World) :
    Calls Try.prog 44 #[.string s, .int .i64 p] w (TookInts w (Wire.takeIntsAt s.data.toList p)) := by
  have hc := fun p w => refTake_any s p (by omega) w
  have hb := Wire.takeAt_bounds s.data.toList
  have hno := ints_no s.data.toList p
  have hfew := ints_few s.data.toList p
  have huno := upto_no s.data.toList p
  have huyes := upto_yes s.data.toList p
  have hus := Wire.upto_succ s.data.toList
  have huf := Wire.upto_fail s.data.toList
  have hu0 : ∀ q, Wire.upto s.data.toList q 0 = some ([], q) := fun q => rfl
  generalize Wire.takeIntsAt s.data.toList p = T at *
  rw [size_list] at hfew huyes hb
  generalize s.data.toList = l at *
  have hcp := hc p
  obtain ⟨⟨n, q, b⟩, ht⟩ : ∃ x, x = Wire.takeAt l p := ⟨_, rfl⟩
  rw [← ht] at hcp
  unfold took at hcp
  dsimp only at hcp
  replace hcp := Lib.hid hcp; replace hc := Lib.hid hc
  replace ht := ht.symm
  cases b
  · have hT := Lib.hid (hno n q ht)
    clear hno hfew huno huyes hus huf hu0 hb hc
    replace ht := Lib.hid ht
    go_enter Try.func44, Try.ntmps44
    go_wp2_with fail
    refine (hcp.out _).mono ?_; rintro e w1 ⟨rfl, x1⟩
    go_wp2_with fail
    go_ret3
    exact TookInts.no hT.out x1
  · obtain ⟨h1, h2, h3, h4⟩ := hb p n q ht
    obtain ⟨q, rfl⟩ := Int.eq_ofNat_of_zero_le (show 0 ≤ q by omega)
    by_cases hn : (n : Int) ≤ (s.size : Int) - q
    · replace huno := huno n q ht
      replace huyes := huyes n q ht hn
      have hn4 : (n : Int) ≤ 1000000000 := by omega
      have hn5 : ¬ (s.size : Int) - q < n := by omega
      clear hno hfew h4 h1
      replace huno := Lib.hid huno; replace huyes := Lib.hid huyes; replace hus := Lib.hid hus; replace huf := Lib.hid huf; replace hu0 := Lib.hid hu0; replace hb := Lib.hid hb; replace ht := Lib.hid ht
      obtain ⟨i0, hi, hz0, hz1, hz2⟩ := info_parts info3
      go_enter Try.func44, Try.ntmps44
      go_wp2_with fail
      refine (hcp.out _).mono ?_; rintro e w1 ⟨rfl, x1⟩
      go_wp2_with fail
      go_loopw [8, 10, 11] (fun at_ out i wr => ∃ (k : Nat) (ns : List Int) (r : Int), k ≤ n ∧ i = .int .i64 k ∧ at_ = .int .i64 r ∧ Wire.upto l q k = some (ns, r) ∧ ns.length = k ∧ wr.ownsRow w.heap.size 3 1 out k (ns.map intV) ∧ Ext w wr) (fun _ _ i _ => n - (intOf i).toNat)
      case atStart => exact ⟨0, [], q, by omega, rfl, rfl, hu0.out _, rfl, ownsRow_made _ _ _ (by exact x1.size), x1.alloc _⟩
      case round =>
        obtain ⟨k, ns, r, hk, rfl, rfl, hu, hnl, hown, hx⟩ := hrel
        replace hu := Lib.hid hu; replace hnl := Lib.hid hnl
        by_cases hkn : k < n
        · have hkn' : (k : Int) < n := by omega
          obtain ⟨⟨m, r', b⟩, hm⟩ : ∃ x, x = Wire.takeAt l r := ⟨_, rfl⟩
          have hcr := hc.out r
          rw [← hm] at hcr
          unfold took at hcr
          dsimp only at hcr
          replace hcr := Lib.hid hcr
          cases b
          · have hT := Lib.hid (huno.out (k + 1) (by omega) (huf.out q k ns r hu.out m r' hm.symm))
            replace hm := Lib.hid hm
            go_wp2_with fail
            refine (hcr.out _).mono ?_; rintro e w2 ⟨rfl, x2⟩
            go_wp2_with fail
            go_ret3
            exact TookInts.no hT.out (hx.trans x2)
          · have hu2 := Lib.hid (hus.out q k ns r hu.out m r' hm.symm)
            have hbm := hb.out r m r' hm.symm
            replace hm := Lib.hid hm
            obtain ⟨g1, g2, g3, g4⟩ := hbm
            go_wp2_with fail
            refine (hcr.out _).mono ?_; rintro e w2 ⟨rfl, x2⟩
            go_wp2_with (at_builtin; refine wpList_append_own _ rfl _ _ 39 rfl w.heap.size 3 i0 (.int .i64 0) 1 8 Try.underlying39 hi hz0 hz1 hz2 rfl (by decide) _ _ _ rfl (ownsRow_ext hown (x2.alloc _)) ⟨w2.heap.size, 0, none⟩ 1 1 [.int .i64 m] rfl rfl ?c1 ?c2 ?c3 ?c4 ?c5 ?_)
            case c1 => exact one_news (by rw [World.cell?_alloc_mark]; rfl)
            case c2 => intro u hu; rw [List.mem_singleton] at hu; subst hu; rfl
            case c3 => unfold maxLen; omega
            case c4 => omega
            case c5 => have := (hx.trans x2).size; simp; omega
            intro v' w3 hown3 hgrow _
            have x3 : Ext w w3 := ((hx.trans x2).alloc _).grown hgrow (ownBlock_ge hown)
            clear hgrow
            go_wp2
            go_roundw
            case rel => exact ⟨k + 1, ns ++ [(m : Int)], r', by omega, by go_num, rfl, hu2.out, by rw [List.length_append, hnl.out]; rfl, by rw [List.map_append]; exact hown3, x3⟩
            case measure => simp [intOf]; omega
        · obtain rfl : k = n := by omega
          have hT := Lib.hid (huyes.out ns r hu.out)
          go_wp2_with fail
          go_ret3
          exact TookInts.yes hT.out hown hx
    · have hT := Lib.hid (hfew n q ht (by omega))
      have hn' : (s.size : Int) - q < n := by omega
      clear hno hfew huno huyes hus huf hu0 hb hc h4 h1
      replace ht := Lib.hid ht
      go_enter Try.func44, Try.ntmps44
      go_wp2_with fail
      refine (hcp.out _).mono ?_; rintro e w1 ⟨rfl, x1⟩
      go_wp2_with fail
      go_ret3
      exact TookInts.no hT.out x1

theorem Ext.drewN {a w : World} (h : Ext a w) : ∀ n, Ext a (w.drewN n)
  | 0 => h
  | n + 1 => (Ext.drewN h n).drew

/-- two lists of numbers are compared. -/
theorem sameInts_any (xs ys : List Int) (u v : Value) (w : World) (hu : Sl w u (xs.map intV)) (hv : Sl w v (ys.map intV)) :
    Calls Try.prog 47 #[u, v] w fun e w' => e = .returned (.bool (decide (xs = ys))) ∧ Ext w w' := by
  obtain ⟨a, c, rfl, hlc, hc, hx⟩ := sl_int_at hu
  obtain ⟨a2, c2, rfl, hlc2, hc2, hy⟩ := sl_int_at hv
  clear hu hv
  by_cases hlen : xs.length = ys.length
  · have hl1 : (xs.length : Int) ≤ 9223372036854775807 := by omega
    have hle : ((xs.length : Int) != (ys.length : Int)) = false := by rw [hlen]; simp
    have hres : ∀ k, (∀ j, j < k → xs[j]? = ys[j]?) → k < xs.length → xs[k]? ≠ ys[k]? → xs ≠ ys := fun k _ _ h e => h (by rw [e])
    have hall : (∀ j, j < xs.length → xs[j]? = ys[j]?) → xs = ys := fun h => by
      apply List.ext_getElem?
      intro i
      rcases Nat.lt_or_ge i xs.length with h2 | h2
      · exact h i h2
      · rw [List.getElem?_eq_none h2, List.getElem?_eq_none (by omega)]
    replace hlen := Lib.hid hlen; replace hall := Lib.hid hall; replace hres := Lib.hid hres; replace hx := Lib.hid hx; replace hy := Lib.hid hy
    go_enter Try.func47, Try.ntmps47
    go_wp2
    go_loopw [5] (fun i wr => ∃ k : Nat, k ≤ xs.length ∧ i = .int .i64 k ∧ (∀ j, j < k → xs[j]? = ys[j]?) ∧ Ext w wr) (fun i _ => xs.length - (intOf i).toNat)
    case atStart => exact ⟨0, by omega, rfl, fun j hj => by omega, Ext.refl _⟩
    case round =>
      obtain ⟨k, hk, rfl, hsame, hxt⟩ := hrel
      replace hsame := Lib.hid hsame
      by_cases hkl : k < xs.length
      · have hlo := hlen.out
        obtain ⟨b, o, e1, hb, hcb⟩ := hx.out k hkl
        obtain ⟨b2, o2, e2, hb2, hcb2⟩ := hy.out k (by omega)
        have g1 : xs[k]? = some xs[k] := List.getElem?_eq_getElem hkl
        have g2 : ys[k]? = some ys[k] := List.getElem?_eq_getElem (by omega)
        have hc1 := (hxt.cell (p := ⟨b, o + k, none⟩) hb).trans hcb
        have hc2 := (hxt.cell (p := ⟨b2, o2 + k, none⟩) hb2).trans hcb2
        have hky : (k : Int) < ys.length := by omega
        have hr := hres.out k hsame.out hkl
        rw [g1, g2] at hr
        have hst : xs[k] = ys[k] → ∀ j, j < k + 1 → xs[j]? = ys[j]? := fun e j hj => by
          rcases Nat.lt_or_ge j k with h | h
          · exact hsame.out j h
          · obtain rfl : j = k := by omega
            rw [g1, g2, e]
        subst e1 e2
        clear hcb hcb2 g1 g2
        generalize xs[k] = x at *
        generalize ys[k] = y at *
        clear hlo
        by_cases hxy : x = y
        · replace hst := Lib.hid (hst hxy)
          subst hxy
          clear hr
          go_wp2
          go_quiet (fail)
          go_wp2
          go_roundw
          case rel => exact ⟨k + 1, by omega, by go_num, hst.out, hxt.drewN _⟩
          case measure => simp [intOf]; omega
        · have hr := Lib.hid (hr (by simpa using hxy))
          have hne : (x != y) = true := by simpa using hxy
          clear hst
          go_wp2
          go_quiet (fail)
          go_wp2
          go_ret
          exact ⟨ret_bool (by rw [decide_eq_false hr.out]), hxt.drewN _⟩
      · obtain rfl : k = xs.length := by omega
        have hT := Lib.hid (hall.out hsame.out)
        go_wp2
        go_ret
        exact ⟨ret_bool (by rw [decide_eq_true hT.out]), hxt⟩
  · have hne : ((xs.length : Int) != (ys.length : Int)) = true := by simp; omega
    have hT : decide (xs = ys) = false := decide_eq_false fun e => hlen (by rw [e])
    rw [hT]
    go_enter Try.func47, Try.ntmps47
    go_wp2
    go_ret
    exact ⟨rfl, Ext.refl _⟩

end Go.Proofs.Ytehidhcpdiameaa
