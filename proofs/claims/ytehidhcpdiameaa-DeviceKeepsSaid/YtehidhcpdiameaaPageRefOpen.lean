/- The walks of layer 11, on: what sectors open to, of the reference; whether there are few bytes. -/
import Derived.Test.YtehidhcpdiameaaPageOpen
import Derived.Test.YtehidhcpdiameaaPageRefLay
namespace Go.Proofs.Ytehidhcpdiameaa
open Go.RowKit

theorem bts_length (xs : List ByteArray) : (bts xs).length = xs.length := by unfold bts; rw [List.length_map]
theorem flat_take (xs : List ByteArray) (k : Nat) (h : k < xs.length) : (bts (xs.take (k + 1))).flatten = (bts (xs.take k)).flatten ++ (xs[k]).data.toList := by
  rw [List.take_succ_eq_append_getElem h]
  unfold bts
  rw [List.map_append, List.flatten_append]
  simp
theorem flat_le (xs : List ByteArray) (k : Nat) : (bts (xs.take k)).flatten.length ≤ (bts xs).flatten.length := by
  conv => rhs; rw [← List.take_append_drop k xs]
  unfold bts
  rw [List.map_append, List.flatten_append, List.length_append]
  omega

set_option maxRecDepth 100000 in
set_option maxHeartbeats 4000000 in
theorem refPageOpen_any (xs : List ByteArray) (v : Value) (w : World) (h : Sl w v (xs.map strV)) (hn : xs.length ≤ 30000000) (hs : (bts xs).flatten.length ≤ 1000000000) :
    Calls Try.prog 55 #[v] w fun e w' => e = .returned (opened (Page.opn (bts xs))) ∧ Ext w w' := by
  have hsl := h
  obtain ⟨a, c, rfl, hlc, hc, hcell⟩ := sl_str_at h
  have hlen : (xs.length : Int) ≤ 30000000 := by omega
  have h42 := refTakeText_any (str (bts xs).flatten) 0 (by rw [str_size]; omega)
  rw [list_str] at h42
  have hopn : Page.opn (bts xs) = if (Wire.takeTextAt (bts xs).flatten 0).2.2 && (Page.lay (Wire.takeTextAt (bts xs).flatten 0).1).isPrefixOf (bts xs) then ((Wire.takeTextAt (bts xs).flatten 0).1, true) else ([], false) := rfl
  have hTl : (Wire.takeTextAt (bts xs).flatten 0).1.length ≤ 1000000000 := by
    unfold Wire.takeTextAt
    split
    · rw [List.length_take, List.length_drop]; omega
    · simp
  generalize Page.opn (bts xs) = Z at *
  obtain ⟨⟨T, q, b⟩, hT⟩ : ∃ t, t = Wire.takeTextAt (bts xs).flatten 0 := ⟨_, rfl⟩
  rw [← hT] at h42 hopn hTl
  dsimp only at h42 hopn hTl
  have hfl := flat_le xs
  have hft := flat_take xs
  have hfull : str (bts xs).flatten = str (bts (xs.take xs.length)).flatten := by rw [List.take_length]
  have hpre : ∀ m, m = (Page.lay T).length → m ≤ xs.length → (Page.lay T).isPrefixOf (bts xs) = decide ((Page.lay T).map str = xs.take m) := fun m hm _ => by
    rw [Bool.eq_iff_iff, decide_eq_true_iff, map_str_eq, bts_take, List.isPrefixOf_iff_prefix, List.prefix_iff_eq_take, hm]
  have hlong : xs.length < (Page.lay T).length → (Page.lay T).isPrefixOf (bts xs) = false := fun hlt => by
    rw [Bool.eq_false_iff, Ne, List.isPrefixOf_iff_prefix]
    intro hp
    have := hp.length_le
    rw [bts_length] at this
    omega
  have h58 := refLay_any (str T) (by rw [str_size]; exact hTl)
  rw [list_str] at h58
  have h56 := sameTexts_any ((Page.lay T).map str) (xs.take (Page.lay T).length)
  rw [show ((Page.lay T).map str).map strV = strs (Page.lay T) from rfl] at h56
  have hslen := strs_length (Page.lay T)
  generalize hM : (Page.lay T).length = M at *
  replace h42 := Lib.hid h42; replace hopn := Lib.hid hopn; replace hfl := Lib.hid hfl; replace hft := Lib.hid hft; replace hfull := Lib.hid hfull; replace hpre := Lib.hid hpre; replace hlong := Lib.hid hlong; replace h58 := Lib.hid h58; replace h56 := Lib.hid h56; replace hcell := Lib.hid hcell; replace hT := Lib.hid hT; replace hM := Lib.hid hM; replace hslen := Lib.hid hslen; replace hsl := Lib.hid hsl
  clear h
  go_enter Try.func55, Try.ntmps55
  go_wp2_with fail
  go_loopw [4, 5] (fun all i wr => ∃ (k : Nat) (R : ByteArray), k ≤ xs.length ∧ i = .int .i64 k ∧ all = .string R ∧ R = str (bts (xs.take k)).flatten ∧ Ext w wr) (fun _ i _ => xs.length - (intOf i).toNat)
  case atStart => exact ⟨0, ByteArray.empty, by omega, rfl, rfl, by simp [bts]; rfl, Ext.refl _⟩
  case round =>
    obtain ⟨k, R, hk, rfl, rfl, hR, hx⟩ := hrel
    have hRs : R.size ≤ 1000000000 := by rw [hR, str_size]; have := hfl.out k; omega
    by_cases hkl : k < xs.length
    · obtain ⟨b, o, rfl, hbl, hcl⟩ := hcell.out k hkl
      have hcl2 := (hx.cell (p := ⟨b, o + k, none⟩) hbl).trans hcl
      have hft2 := hft.out k hkl
      have hfl2 := hfl.out (k + 1)
      rw [hft2, List.length_append, size_list] at hfl2
      have hN : R ++ xs[k] = str (bts (xs.take (k + 1))).flatten := by
        apply str_inj
        rw [join_list, hR, list_str, list_str, hft2]
      clear hcl hft2
      generalize xs[k] = x at *
      have hadd : R.size + x.size ≤ 1000000000 := by rw [hR, str_size]; omega
      clear hfl2
      replace hR := Lib.hid hR; replace hN := Lib.hid hN
      go_wp2_with fail
      go_roundw
      case rel => exact ⟨k + 1, _, by omega, by go_num, rfl, hN.out, hx⟩
      case measure => simp [intOf]; omega
    · have hkx : k = xs.length := by omega
      have hR2 : R = str (bts xs).flatten := by rw [hR, hkx, ← hfull.out]
      replace hR := Lib.hid hR
      replace hkx := Lib.hid hkx
      subst hR2
      generalize str (bts xs).flatten = R at *
      cases b
      · have hZ := hopn.out
        simp only [Bool.false_and, Bool.false_eq_true, if_false] at hZ
        replace hZ := Lib.hid hZ
        go_wp2_with fail
        refine (h42.out _).mono ?_; rintro e w1 ⟨rfl, x1⟩
        go_wp2_with fail
        go_ret2
        exact ⟨by rw [hZ.out]; rfl, hx.trans x1⟩
      · have hZ := hopn.out
        simp only [Bool.true_and] at hZ
        by_cases hlt : xs.length < M
        · rw [hlong.out hlt] at hZ
          simp only [Bool.false_eq_true, if_false] at hZ
          replace hZ := Lib.hid hZ
          have hlt' : (xs.length : Int) < M := by omega
          go_wp2_with fail
          refine (h42.out _).mono ?_; rintro e w1 ⟨rfl, x1⟩
          go_wp2_with fail
          refine (h58.out _).mono ?_; rintro e w2 ⟨v2, rfl, hl2, x2⟩
          obtain ⟨a2, c2, e2, _, hc2, _⟩ := id hl2
          rw [hslen.out] at e2
          subst e2
          replace hl2 := Lib.hid hl2
          go_wp2_with fail
          go_ret2
          exact ⟨by rw [hZ.out]; rfl, (hx.trans x1).trans x2⟩
        · have hMx : M ≤ xs.length := by omega
          have hMi : (M : Int) ≤ xs.length := by omega
          have hMc : M ≤ c := by omega
          rw [hpre.out M rfl hMx] at hZ
          have hslT : ∀ w', Ext w w' → Sl w' (.slice a M c) ((xs.take M).map strV) := fun w' xw => by
            have hs : Sl w (.slice a M c) ((xs.take M).map strV) := by
              obtain ⟨a', c', e', h1, h2, h3⟩ := hsl.out
              rw [List.length_map] at e' h1
              simp only [Value.slice.injEq, true_and] at e'
              obtain ⟨rfl, rfl⟩ := e'
              refine ⟨a, c, by rw [List.length_map, List.length_take, Nat.min_eq_left hMx], by rw [List.length_map, List.length_take]; omega, h2, fun hne => ?_⟩
              have hne2 : xs.map strV ≠ [] := fun e => hne (by rw [List.map_eq_nil_iff] at e; subst e; simp)
              obtain ⟨b, o, h5, h6, h7⟩ := h3 hne2
              refine ⟨b, o, h5, h6, fun i y hi => h7 i y ?_⟩
              rw [List.getElem?_map, List.getElem?_take] at hi
              split at hi
              · rw [List.getElem?_map]; exact hi
              · cases hi
            exact hs.ext xw
          replace hslT := Lib.hid hslT
          have h56' := h56.out
          generalize decide ((Page.lay T).map str = xs.take M) = bd at *
          replace h56' := Lib.hid h56'
          clear h56
          cases bd
          · simp only [Bool.false_eq_true, if_false] at hZ
            replace hZ := Lib.hid hZ
            go_wp2_with fail
            refine (h42.out _).mono ?_; rintro e w1 ⟨rfl, x1⟩
            go_wp2_with fail
            refine (h58.out _).mono ?_; rintro e w2 ⟨v2, rfl, hl2, x2⟩
            have hl3 := Lib.hid hl2
            obtain ⟨a2, c2, e2, _, hc2, _⟩ := hl2
            rw [hslen.out] at e2
            subst e2
            go_wp2_with fail
            refine (h56'.out _ _ _ hl3.out (hslT.out _ ((hx.trans x1).trans x2))).mono ?_; rintro e w3 ⟨rfl, x3⟩
            go_wp2_with fail
            go_ret2
            exact ⟨by rw [hZ.out]; rfl, ((hx.trans x1).trans x2).trans x3⟩
          · simp only [if_true] at hZ
            replace hZ := Lib.hid hZ
            go_wp2_with fail
            refine (h42.out _).mono ?_; rintro e w1 ⟨rfl, x1⟩
            go_wp2_with fail
            refine (h58.out _).mono ?_; rintro e w2 ⟨v2, rfl, hl2, x2⟩
            have hl3 := Lib.hid hl2
            obtain ⟨a2, c2, e2, _, hc2, _⟩ := hl2
            rw [hslen.out] at e2
            subst e2
            go_wp2_with fail
            refine (h56'.out _ _ _ hl3.out (hslT.out _ ((hx.trans x1).trans x2))).mono ?_; rintro e w3 ⟨rfl, x3⟩
            go_wp2_with fail
            go_ret2
            exact ⟨by rw [hZ.out]; rfl, ((hx.trans x1).trans x2).trans x3⟩

namespace Page
/-- are there few bytes? -/
def small (xs : List ByteArray) : Bool := xs.all (fun x => decide (x.size ≤ 200)) && decide (xs.length ≤ 60)
end Page

set_option maxRecDepth 100000 in
theorem small_any (xs : List ByteArray) (v : Value) (w : World) (h : Sl w v (xs.map strV)) :
    Calls Try.prog 52 #[v] w fun e w' => e = .returned (.bool (Page.small xs)) ∧ Ext w w' := by
  obtain ⟨a, c, rfl, hlc, hc, hcell⟩ := sl_str_at h
  have hlen : (xs.length : Int) ≤ 9223372036854775807 := by omega
  replace hcell := Lib.hid hcell
  clear h
  go_enter Try.func52, Try.ntmps52
  go_wp2_with fail
  go_loopw [3] (fun i wr => ∃ k : Nat, k ≤ xs.length ∧ i = .int .i64 k ∧ (∀ j (hj : j < xs.length), j < k → (xs[j]).size ≤ 200) ∧ Ext w wr) (fun i _ => xs.length - (intOf i).toNat)
  case atStart => exact ⟨0, by omega, rfl, fun j _ hj => by omega, Ext.refl _⟩
  case round =>
    obtain ⟨k, hk, rfl, hall, hx⟩ := hrel
    replace hall := Lib.hid hall
    by_cases hkl : k < xs.length
    · obtain ⟨b, o, rfl, hbl, hcl⟩ := hcell.out k hkl
      have hcl2 := (hx.cell (p := ⟨b, o + k, none⟩) hbl).trans hcl
      have hstep : (xs[k]).size ≤ 200 → ∀ j (hj : j < xs.length), j < k + 1 → (xs[j]).size ≤ 200 := fun h32 j hj hjk => by
        rcases Nat.lt_or_ge j k with h | h
        · exact hall.out j hj h
        · obtain rfl : j = k := by omega
          exact h32
      have hno : ¬ (xs[k]).size ≤ 200 → Page.small xs = false := fun hb => by
        unfold Page.small
        rw [Bool.and_eq_false_iff]
        left
        rw [List.all_eq_false]
        exact ⟨xs[k], List.getElem_mem hkl, by simpa using hb⟩
      clear hcl
      generalize xs[k] = x at *
      by_cases hs : x.size ≤ 200
      · replace hstep := Lib.hid (hstep hs)
        have hs' : ¬ (200 : Int) < x.size := by omega
        clear hno
        go_wp2_with fail
        go_roundw
        case rel => exact ⟨k + 1, by omega, by go_num, hstep.out, hx⟩
        case measure => simp [intOf]; omega
      · replace hno := Lib.hid (hno hs)
        have hs' : (200 : Int) < x.size := by omega
        clear hstep
        go_wp2_with fail
        go_ret
        exact ⟨ret_bool hno.out.symm, hx⟩
    · obtain rfl : k = xs.length := by omega
      have hres : Page.small xs = decide ((xs.length : Int) ≤ 60) := by
        unfold Page.small
        have h1 : xs.all (fun x => decide (x.size ≤ 200)) = true := by
          rw [List.all_eq_true]
          intro x hx
          obtain ⟨j, hj, rfl⟩ := List.getElem_of_mem hx
          exact decide_eq_true (hall.out j hj hj)
        rw [h1, Bool.true_and, decide_eq_decide]
        omega
      replace hres := Lib.hid hres
      go_wp2_with fail
      go_ret
      exact ⟨ret_bool hres.out.symm, hx⟩

end Go.Proofs.Ytehidhcpdiameaa
