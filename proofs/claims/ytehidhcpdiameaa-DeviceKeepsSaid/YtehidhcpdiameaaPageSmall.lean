/- The walks of layer 11: how many sectors; lists of texts, compared; a sector of zeros. -/
import Derived.Test.YtehidhcpdiameaaPageMath
import Derived.Test.YtehidhcpdiameaaWireFixed
namespace Go.Proofs.Ytehidhcpdiameaa
open Go.RowKit

theorem sectors_any (n : Nat) (h : n ≤ 4611686018427387904) (w : World) :
    Calls Try.prog 91 #[.int .i64 n] w fun e w' => e = .returned (.int .i64 (Page.secs n)) ∧ Ext w w' := by
  have hs : ((Page.secs n : Nat) : Int) = ((n : Int) + 32 - 1) / 32 := by unfold Page.secs; omega
  go_enter Try.func91, Try.ntmps91
  go_wp2
  go_ret
  exact ⟨ret_int hs.symm, Ext.refl _⟩

theorem refSectors_any (n : Nat) (h : n ≤ 4611686018427387904) (w : World) :
    Calls Try.prog 95 #[.int .i64 n] w fun e w' => e = .returned (.int .i64 (Page.secs n)) ∧ Ext w w' := by
  by_cases h0 : (n : Int) ≤ 0
  · obtain rfl : n = 0 := by omega
    go_enter Try.func95, Try.ntmps95
    go_wp2
    go_ret
    exact ⟨rfl, Ext.refl _⟩
  · have hs : ((Page.secs n : Nat) : Int) = ((n : Int) - 1) / 32 + 1 := by unfold Page.secs; omega
    replace hs := Lib.hid hs
    go_enter Try.func95, Try.ntmps95
    go_wp2
    go_ret
    exact ⟨ret_int hs.out.symm, Ext.refl _⟩

namespace Page
/-- how many sectors a text of so many bytes takes. -/
def need (n : Int) : Int := if n < 0 ∨ 1000000 < n then 0 else secs ((Wire.num n).length + n.toNat + 4)
end Page

theorem need_any (n : Int) (w : World) : Calls Try.prog 59 #[.int .i64 n] w fun e w' => e = .returned (.int .i64 (Page.need n)) ∧ Ext w w' := by
  unfold Page.need
  by_cases h1 : n < 0
  · rw [if_pos (.inl h1)]
    go_enter Try.func59, Try.ntmps59
    go_wp2
    go_ret
    exact ⟨rfl, Ext.refl _⟩
  · by_cases h2 : 1000000 < n
    · rw [if_pos (.inr h2)]
      go_enter Try.func59, Try.ntmps59
      go_wp2
      go_ret
      exact ⟨rfl, Ext.refl _⟩
    · rw [if_neg (by omega)]
      have hn := num_any n
      have hl := num_size n
      have hz := str_size (Wire.num n)
      obtain ⟨m, rfl⟩ := Int.eq_ofNat_of_zero_le (show 0 ≤ n by omega)
      have hsec := sectors_any ((Wire.num (m : Int)).length + m + 4) (by omega)
      rw [Int.toNat_natCast]
      have hcast : ((((Wire.num (m : Int)).length + m + 4 : Nat)) : Int) = ((Wire.num (m : Int)).length : Int) + m + 4 := by omega
      rw [hcast] at hsec
      rw [← hz] at hsec hl ⊢
      generalize str (Wire.num (m : Int)) = S at *
      generalize Page.secs (S.size + m + 4) = r at *
      replace hn := Lib.hid hn; replace hsec := Lib.hid hsec
      clear hz hcast
      go_enter Try.func59, Try.ntmps59
      go_wp2_with fail
      refine (hn.out _).mono ?_; rintro e w1 ⟨rfl, x1⟩
      go_wp2_with fail
      refine (hsec.out _).mono ?_; rintro e w2 ⟨rfl, x2⟩
      go_wp2_with fail
      go_ret
      exact ⟨rfl, x1.trans x2⟩

theorem refNeed_any (n : Int) (w : World) : Calls Try.prog 60 #[.int .i64 n] w fun e w' => e = .returned (.int .i64 (Page.need n)) ∧ Ext w w' := by
  unfold Page.need
  by_cases h1 : n < 0
  · rw [if_pos (.inl h1)]
    go_enter Try.func60, Try.ntmps60
    go_wp2
    go_ret
    exact ⟨rfl, Ext.refl _⟩
  · by_cases h2 : 1000000 < n
    · rw [if_pos (.inr h2)]
      go_enter Try.func60, Try.ntmps60
      go_wp2
      go_ret
      exact ⟨rfl, Ext.refl _⟩
    · rw [if_neg (by omega)]
      have hn := refNum_any n
      have hl := num_size n
      have hz := str_size (Wire.num n)
      obtain ⟨m, rfl⟩ := Int.eq_ofNat_of_zero_le (show 0 ≤ n by omega)
      have hsec := refSectors_any ((Wire.num (m : Int)).length + m + 4) (by omega)
      rw [Int.toNat_natCast]
      have hcast : ((((Wire.num (m : Int)).length + m + 4 : Nat)) : Int) = ((Wire.num (m : Int)).length : Int) + m + 4 := by omega
      rw [hcast] at hsec
      rw [← hz] at hsec hl ⊢
      generalize str (Wire.num (m : Int)) = S at *
      generalize Page.secs (S.size + m + 4) = r at *
      replace hn := Lib.hid hn; replace hsec := Lib.hid hsec
      clear hz hcast
      go_enter Try.func60, Try.ntmps60
      go_wp2_with fail
      refine (hn.out _).mono ?_; rintro e w1 ⟨rfl, x1⟩
      go_wp2_with fail
      refine (hsec.out _).mono ?_; rintro e w2 ⟨rfl, x2⟩
      go_wp2_with fail
      go_ret
      exact ⟨rfl, x1.trans x2⟩

theorem sl_str_at {w : World} {v : Value} {l : List ByteArray} (h : Sl w v (l.map strV)) : ∃ a c, v = .slice a l.length c ∧ l.length ≤ c ∧ c ≤ 9223372036854775807 ∧
    ∀ k (hk : k < l.length), ∃ b o, a = some ⟨b, o, none⟩ ∧ b < w.heap.size ∧ w.cell? ⟨b, o + k, none⟩ = some (.string l[k]) := by
  obtain ⟨a, c, h1, h2, h3, h4⟩ := h
  rw [List.length_map] at h1 h2
  refine ⟨a, c, h1, h2, h3, fun k hk => ?_⟩
  obtain ⟨b, o, h5, h6, h7⟩ := h4 (by intro e; rw [List.map_eq_nil_iff] at e; subst e; simp at hk)
  exact ⟨b, o, h5, h6, h7 k _ (by rw [List.getElem?_map, List.getElem?_eq_getElem hk]; rfl)⟩

/-- two lists of texts are compared. -/
theorem sameTexts_any (xs ys : List ByteArray) (u v : Value) (w : World) (hu : Sl w u (xs.map strV)) (hv : Sl w v (ys.map strV)) :
    Calls Try.prog 56 #[u, v] w fun e w' => e = .returned (.bool (decide (xs = ys))) ∧ Ext w w' := by
  obtain ⟨a, c, rfl, hlc, hc, hx⟩ := sl_str_at hu
  obtain ⟨a2, c2, rfl, hlc2, hc2, hy⟩ := sl_str_at hv
  clear hu hv
  by_cases hlen : xs.length = ys.length
  · have hl1 : (xs.length : Int) ≤ 9223372036854775807 := by omega
    have hle : ((xs.length : Int) != (ys.length : Int)) = false := by rw [hlen]; simp
    have hres : ∀ k, (∀ j, j < k → xs[j]? = ys[j]?) → k < xs.length → xs[k]? ≠ ys[k]? → xs ≠ ys := fun k _ _ h e => h (by rw [e])
    have hall : (∀ j, j < xs.length → xs[j]? = ys[j]?) → xs = ys := fun h => by
      apply List.ext_getElem?
      intro i
      rcases Nat.lt_or_ge i xs.length with h2 | h2
      · exact h i h2
      · rw [List.getElem?_eq_none h2, List.getElem?_eq_none (by omega)]
    replace hlen := Lib.hid hlen; replace hall := Lib.hid hall; replace hres := Lib.hid hres; replace hx := Lib.hid hx; replace hy := Lib.hid hy
    go_enter Try.func56, Try.ntmps56
    go_wp2
    go_loopw [5] (fun i wr => ∃ k : Nat, k ≤ xs.length ∧ i = .int .i64 k ∧ (∀ j, j < k → xs[j]? = ys[j]?) ∧ Ext w wr) (fun i _ => xs.length - (intOf i).toNat)
    case atStart => exact ⟨0, by omega, rfl, fun j hj => by omega, Ext.refl _⟩
    case round =>
      obtain ⟨k, hk, rfl, hsame, hxt⟩ := hrel
      replace hsame := Lib.hid hsame
      by_cases hkl : k < xs.length
      · have hlo := hlen.out
        obtain ⟨b, o, e1, hb, hcb⟩ := hx.out k hkl
        obtain ⟨b2, o2, e2, hb2, hcb2⟩ := hy.out k (by omega)
        have g1 : xs[k]? = some xs[k] := List.getElem?_eq_getElem hkl
        have g2 : ys[k]? = some ys[k] := List.getElem?_eq_getElem (by omega)
        have hc1 := (hxt.cell (p := ⟨b, o + k, none⟩) hb).trans hcb
        have hc2 := (hxt.cell (p := ⟨b2, o2 + k, none⟩) hb2).trans hcb2
        have hky : (k : Int) < ys.length := by omega
        have hr := hres.out k hsame.out hkl
        rw [g1, g2] at hr
        have hst : xs[k] = ys[k] → ∀ j, j < k + 1 → xs[j]? = ys[j]? := fun e j hj => by
          rcases Nat.lt_or_ge j k with h | h
          · exact hsame.out j h
          · obtain rfl : j = k := by omega
            rw [g1, g2, e]
        subst e1 e2
        clear hcb hcb2 g1 g2
        generalize xs[k] = x at *
        generalize ys[k] = y at *
        clear hlo
        by_cases hxy : x = y
        · replace hst := Lib.hid (hst hxy)
          subst hxy
          have heq : (x.toList == x.toList) = true := beq_self_eq_true _
          clear hr
          go_wp2
          go_quiet (fail)
          go_wp2
          go_roundw
          case rel => exact ⟨k + 1, by omega, by go_num, hst.out, hxt.drewN _⟩
          case measure => simp [intOf]; omega
        · have hr := Lib.hid (hr (by simpa using hxy))
          have hne : (x.toList == y.toList) = false := beq_false fun e => hxy (str_inj e)
          clear hst hxy
          go_wp2
          go_quiet (fail)
          go_wp2
          go_ret
          exact ⟨ret_bool (by rw [decide_eq_false hr.out]), hxt.drewN _⟩
      · obtain rfl : k = xs.length := by omega
        have hT := Lib.hid (hall.out hsame.out)
        go_wp2
        go_ret
        exact ⟨ret_bool (by rw [decide_eq_true hT.out]), hxt⟩
  · have hne : ((xs.length : Int) != (ys.length : Int)) = true := by simp; omega
    have hT : decide (xs = ys) = false := decide_eq_false fun e => hlen (by rw [e])
    rw [hT]
    go_enter Try.func56, Try.ntmps56
    go_wp2
    go_ret
    exact ⟨rfl, Ext.refl _⟩

/-- a sector of zeros. -/
def zeros : ByteArray := str (List.replicate 32 0)
theorem run_zeros (w : World) (n : Nat) (h : ∀ i, i < 32 → w.cell? ⟨n, i, none⟩ = some (.int .u8 0)) :
    (Go.convert 33 9 (.slice (some ⟨n, 0, none⟩) 32 32)).run Try.prog w = .ok (.string zeros) w := by
  rw [run_convert_bytes_arg w 33 5 Try.underlying33 Try.underlying5 n 0 32 32 (List.replicate 32 (0 : Int)) (by simp) ?_ 9 Try.underlying9]
  · rfl
  · intro i hi
    have e : (List.replicate 32 (0 : Int)).getD i 0 = 0 := by
      rw [List.getD_eq_getElem?_getD, List.getElem?_replicate]
      split <;> rfl
    rw [Nat.zero_add, h i hi, e]
/-- a row of zeros, just made. -/
def zerosObj : Obj := .cells (Array.replicate 32 (.int .u8 0)) 5
theorem make_zeros (w : World) : (Instr.makeSlice 33 (.int .i64 32) (.int .i64 32)).run Try.prog w = .ok (.slice (some ⟨w.heap.size, 0, none⟩) 32 32) (w.alloc zerosObj) := by kernel_rfl
theorem zeros_cell (w : World) (i : Nat) (hi : i < 32) : (w.alloc zerosObj).cell? ⟨w.heap.size, i, none⟩ = some (.int .u8 0) := by
  unfold zerosObj
  rw [World.cell?_alloc_mark, Array.getElem?_replicate, if_pos hi]
theorem zeros_any (w : World) : Calls Try.prog 66 #[] w fun e w' => e = .returned (.string zeros) ∧ Ext w w' := by
  have hmk := make_zeros w
  have hconv := run_zeros (w.alloc zerosObj) w.heap.size (zeros_cell w)
  generalize zerosObj = Z at *
  go_enter Try.func66, Try.ntmps66
  go_wp2
  go_ret
  exact ⟨rfl, (Ext.refl w).alloc _⟩

end Go.Proofs.Ytehidhcpdiameaa
