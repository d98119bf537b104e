/- The walks of layer 10, on: lists of numbers as bytes, of the program and of the reference. -/
import Derived.Test.YtehidhcpdiameaaSl
import Derived.Test.YtehidhcpdiameaaWireLaw
import Derived.Test.YtehidhcpdiameaaBuilder
import Derived.Test.YtehidhcpdiameaaShelf
namespace Go.Proofs.Ytehidhcpdiameaa
open Go.RowKit

theorem isBuilder_ext {T e B b : Nat} {p : Value} {bs : List Value} {w w' : World} (h : Lib.BuilderAt T e B b p bs w) (x : Ext w w') : Lib.BuilderAt T e B b p bs w' := by
  obtain ⟨hB, v, hb, hown, hne⟩ := h
  have hg : b < w.heap.size := Lib.BuilderAt.lt ⟨hB, v, hb, hown, hne⟩
  exact ⟨hB, v, by rw [x.below.block b hg]; exact hb, ownsRow_ext hown x, hne⟩

set_option maxRecDepth 100000 in
set_option maxHeartbeats 4000000 in
theorem ints_any (l : List Int) (v : Value) (w : World) (h : Sl w v (l.map intV)) (hn : 6 * l.length + 6 ≤ 140737488355328) :
    Calls Try.prog 50 #[v] w fun e w' => e = .returned (.string (str (Wire.ints l))) ∧ Ext w w' := by
  obtain ⟨a, c, rfl, hlc, hc, hcell⟩ := sl_int_at h
  have hcnt := num_any (l.length : Int)
  have hlen : (l.length : Int) ≤ 9223372036854775807 := by omega
  replace hcnt := Lib.hid hcnt
  go_enter Try.func50, Try.ntmps50
  go_wp2_with fail
  refine (hcnt.out _).mono ?_; rintro e w1 ⟨rfl, x1⟩
  have b1 := Lib.fresh_isBuilder 111 5 w
  have b2 : Lib.IsBuilder 111 5 w.heap.size w.heap.size [] w1 := b1.elim (fun h => .inl (isBuilder_ext h x1)) (fun h => .inr (isBuilder_ext h x1))
  have y1 : Ext w w1 := ((Ext.refl w).alloc _).trans x1
  go_wp2_with fail
  refine (writeString_any w.heap.size w.heap.size [] _ _ b2 ?_ y1.size).mono ?_
  · rw [str_size]; have := num_size (l.length : Int); simp; omega
  rintro e w2 ⟨rfl, b3, x2⟩
  have y2 : Ext w w2 := Below.trans y1 x2
  go_wp2_with fail
  have hb0 : ([] : List Value) ++ Lib.strCells (str (Wire.num (l.length : Int))) = Lib.byteCells (Wire.num (l.length : Int) ++ (l.take 0).flatMap Wire.num) := by simp [Lib.strCells_eq, list_str]
  rw [hb0] at b3
  clear b1 b2 hb0 x1 y1 x2
  go_loopw [13] (fun i wr => ∃ k : Nat, k ≤ l.length ∧ i = .int .i64 k ∧ (l.take k).any Wire.bad = false ∧ Lib.BuilderAt 111 5 w.heap.size w.heap.size (.pointer (some ⟨w.heap.size, 0, none⟩)) (Lib.byteCells (Wire.num (l.length : Int) ++ (l.take k).flatMap Wire.num)) wr ∧ Ext w wr) (fun i _ => l.length - (intOf i).toNat)
  case atStart => exact ⟨0, by omega, rfl, by simp, b3, y2⟩
  case round =>
    obtain ⟨k, hk, rfl, hany, hb, hx⟩ := hrel
    clear b3 y2
    by_cases hkl : k < l.length
    · obtain ⟨b, o, rfl, hbl, hcl⟩ := hcell k hkl
      have hcl2 := (hx.cell (p := ⟨b, o + k, none⟩) hbl).trans hcl
      have h1 := num_any l[k]
      have hs1 := Wire.take_any_snoc l k hkl Wire.bad
      have hs2 := Wire.take_flat_snoc l k hkl
      have hbad := Wire.any_of_bad l k hkl
      have hz := num_size l[k]
      have hbd : Wire.bad l[k] = decide (Wire.num l[k] = []) := rfl
      generalize l[k] = n at *
      have hem : (str (Wire.num n)).toList.isEmpty = Wire.bad n := by
        rw [hbd, toList_str]; cases Wire.num n <;> rfl
      have hsz : (str (Wire.num n)).size = (Wire.num n).length := str_size _
      have hce : Lib.strCells (str (Wire.num n)) = Lib.byteCells (Wire.num n) := rfl
      have hfs := Wire.flatMap_size (l.take k)
      have hns := num_size (l.length : Int)
      have hints : Wire.bad n = true → str (Wire.ints l) = ByteArray.empty := fun hb => by unfold Wire.ints; rw [hbad hb]; rfl
      generalize str (Wire.num n) = S at *
      replace h1 := Lib.hid h1; replace hints := Lib.hid hints
      clear hcell h hcl hbd hbad
      cases hnb : Wire.bad n
      · rw [hnb] at hem hs1
        clear hints
        go_wp2_with fail
        refine (h1.out _).mono ?_; rintro e w3 ⟨rfl, x3⟩
        have hb3 := isBuilder_ext hb x3
        have y3 := hx.trans x3
        go_wp2_with fail
        refine (writeString_any w.heap.size w.heap.size _ _ _ (.inr hb3) ?_ y3.size).mono ?_
        · rw [Lib.byteCells_length, List.length_append, hsz]; rw [List.length_take] at hfs; omega
        rintro e w4 ⟨rfl, b4, x4⟩
        have y4 : Ext w w4 := Below.trans y3 x4
        rw [hce, ← Lib.byteCells_append, List.append_assoc, ← hs2] at b4
        clear hb3 y3 x4 x3 hb hx hem hcl2
        replace b4 := Lib.hid b4; replace y4 := Lib.hid y4
        go_wp2_with fail
        go_roundw
        case rel => exact ⟨k + 1, by omega, by go_num, by rw [hs1, hany]; rfl, b4.out, y4.out⟩
        case measure => simp [intOf]; omega
      · rw [hnb] at hem hints
        go_wp2_with fail
        refine (h1.out _).mono ?_; rintro e w3 ⟨rfl, x3⟩
        go_wp2_with fail
        go_ret
        exact ⟨ret_string (hints.out trivial).symm, hx.trans x3⟩
    · obtain rfl : k = l.length := by omega
      have hres : str (Wire.ints l) = ⟨(Wire.num (l.length : Int) ++ l.flatMap Wire.num).toArray⟩ := by
        rw [List.take_length] at hany
        unfold Wire.ints
        rw [hany]; rfl
      replace hres := Lib.hid hres
      have hstr := Try.Builder_String_any w.heap.size w.heap.size _ wr (.inr hb) hx.size
      replace hstr := Lib.hid hstr
      go_wp2_with fail
      refine hstr.out.mono ?_; rintro e w3 ⟨rfl, x3⟩
      go_wp2_with fail
      go_ret
      exact ⟨ret_string hres.out.symm, Below.trans hx x3⟩

end Go.Proofs.Ytehidhcpdiameaa
