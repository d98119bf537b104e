/- The walks of layer 11, on: what sectors open to, of the program. -/
import Derived.Test.YtehidhcpdiameaaPageLay
namespace Go.Proofs.Ytehidhcpdiameaa
open Go.RowKit

/-- the bytes of texts. -/
def bts (xs : List ByteArray) : List (List UInt8) := xs.map (·.data.toList)
theorem bts_str (l : List (List UInt8)) : bts (l.map str) = l := by
  unfold bts; rw [List.map_map]; conv => rhs; rw [← List.map_id l]
  apply List.map_congr_left; intro x _; rfl
theorem str_bts (xs : List ByteArray) : (bts xs).map str = xs := by
  unfold bts; rw [List.map_map]; conv => rhs; rw [← List.map_id xs]
  apply List.map_congr_left; intro x _; exact str_list x
theorem strs_bts (xs : List ByteArray) : strs (bts xs) = xs.map strV := by unfold strs; rw [str_bts]
theorem bts_take (xs : List ByteArray) (k : Nat) : bts (xs.take k) = (bts xs).take k := by unfold bts; rw [List.map_take]
theorem map_str_eq (l : List (List UInt8)) (xs : List ByteArray) : l.map str = xs ↔ l = bts xs :=
  ⟨fun h => by rw [← h, bts_str], fun h => by rw [h, str_bts]⟩

/-- two lists of texts, compared by the library. -/
theorem equal_any (xs ys : List ByteArray) (u v : Value) (w : World) (hu : Sl w u (xs.map strV)) (hv : Sl w v (ys.map strV)) :
    Calls Try.prog 93 #[u, v] w fun e w' => e = .returned (.bool (decide (xs = ys))) ∧ Ext w w' := by
  obtain ⟨a, c, rfl, hlc, hc, hx⟩ := sl_str_at hu
  obtain ⟨a2, c2, rfl, hlc2, hc2, hy⟩ := sl_str_at hv
  by_cases hl : xs.length = ys.length
  · cases xs with
    | nil =>
      have h0 : ys = [] := List.eq_nil_of_length_eq_zero (by simpa using hl.symm)
      subst h0
      refine (Try.slices_Equal_string_empty a a2 c 0 c2 w (by omega)).mono ?_
      rintro e w' ⟨rfl, rfl⟩
      exact ⟨rfl, Ext.refl _⟩
    | cons x xs =>
      obtain ⟨b, o, rfl, hb, _⟩ := hx 0 (by simp)
      obtain ⟨b2, o2, rfl, hb2, _⟩ := hy 0 (by rw [← hl]; simp)
      refine (Try.slices_Equal_string b o _ c b2 o2 _ c2 (x :: xs) ys w (Nat.le_refl _) (Nat.le_refl _) (by omega) (by omega) (fun j hj => ?_) (fun j hj => ?_)).mono ?_
      · obtain ⟨b', o', e, _, hcell⟩ := hx j hj
        simp only [Option.some.injEq, Addr.mk.injEq, and_true] at e
        obtain ⟨rfl, rfl⟩ := e
        rw [hcell, List.getD_eq_getElem?_getD, List.getElem?_eq_getElem hj, Option.getD_some]
      · obtain ⟨b', o', e, _, hcell⟩ := hy j hj
        simp only [Option.some.injEq, Addr.mk.injEq, and_true] at e
        obtain ⟨rfl, rfl⟩ := e
        rw [hcell, List.getD_eq_getElem?_getD, List.getElem?_eq_getElem hj, Option.getD_some]
      · rintro e w' ⟨rfl, q, rfl⟩
        rw [List.take_length, List.take_length]
        exact ⟨rfl, (Ext.refl w).drewN q⟩
  · refine (Try.slices_Equal_string_lens a a2 _ c _ c2 w hl).mono ?_
    rintro e w' ⟨rfl, rfl⟩
    exact ⟨by rw [decide_eq_false (fun h => hl (by rw [h]))], Ext.refl _⟩

theorem intercalate_nil : ∀ l : List (List UInt8), [].intercalate l = l.flatten
  | [] => rfl
  | [x] => by simp [List.intercalate]
  | x :: y :: l => by
    have := intercalate_nil (y :: l)
    simp only [List.intercalate, List.intersperse_cons_cons, List.flatten_cons, List.nil_append] at this ⊢
    rw [this]

/-- texts, joined by the library. -/
theorem join_any (xs : List ByteArray) (v : Value) (w : World) (h : Sl w v (xs.map strV)) (hN : xs.length ≤ 140737488355328) (hs : (bts xs).flatten.length ≤ 140737488355328) :
    Calls Try.prog 92 #[v, .string ⟨#[]⟩] w fun e w' => e = .returned (.string (str (bts xs).flatten)) ∧ Ext w w' := by
  obtain ⟨a, c, rfl, hlc, hc, hx⟩ := sl_str_at h
  cases xs with
  | nil =>
    refine (Try.strings_Join_none a c ⟨#[]⟩ w).mono ?_
    rintro e w' ⟨rfl, rfl⟩
    exact ⟨rfl, Ext.refl _⟩
  | cons x xs =>
    obtain ⟨b, o, rfl, hb, _⟩ := hx 0 (by simp)
    have hj : Lib.join ((x :: xs).map (·.data.toList)) (ByteArray.mk #[]).data.toList = (bts (x :: xs)).flatten := by
      unfold Lib.join bts
      exact intercalate_nil _
    refine (Try.strings_Join b o c (x :: xs) ⟨#[]⟩ w (fun j y hj => ?_) hb hN hlc (by rw [hj]; exact hs)).mono ?_
    · have hlt := (List.getElem?_eq_some_iff.1 hj).1
      obtain ⟨b', o', e, _, hcell⟩ := hx j hlt
      simp only [Option.some.injEq, Addr.mk.injEq, and_true] at e
      obtain ⟨rfl, rfl⟩ := e
      rw [List.getElem?_eq_getElem hlt, Option.some.injEq] at hj
      rw [hcell, hj]
    · rintro e w' ⟨rfl, x'⟩
      rw [hj]
      exact ⟨rfl, x'⟩

/-- what sectors open to, as a value. -/
def opened (t : List UInt8 × Bool) : Value := .tuple #[.string (str t.1), .bool t.2]

theorem ret_opened (S : ByteArray) : Ending.returned (.tuple #[.string S, .bool true]) = .returned (opened (S.data.toList, true)) := by unfold opened; rw [str_list]

/-- a loud call that makes a slice. -/
def Soft.texts (vs : List Value) : Soft.Loud where
  shape _ := True
  fact u w := Sl w u vs
  some_ := ⟨undef, trivial⟩

theorem Soft.texts_stab {vs : List Value} {u : Value} {w w' : World} (hr : Ext w w') (h : (Soft.texts vs).fact u w) : (Soft.texts vs).fact u w' := Sl.ext h hr
theorem Soft.laid_loud {f : FuncId} {args : Array Value} {w : World} {l : List (List UInt8)} (h : Calls Try.prog f args w (Laid w l)) :
    Calls Try.prog f args w (fun e w'' => ∃ u, e = .returned u ∧ Ext w w'' ∧ (Soft.texts (strs l)).shape u ∧ (Soft.texts (strs l)).fact u w'') :=
  h.mono fun _ _ ⟨u, he, hs, x⟩ => ⟨u, he, x, trivial, hs⟩

theorem flat32 : ∀ l : List (List UInt8), (∀ x ∈ l, x.length = 32) → l.flatten.length = 32 * l.length
  | [], _ => rfl
  | x :: l, h => by
    rw [List.flatten_cons, List.length_append, flat32 l (fun y hy => h y (List.mem_cons_of_mem _ hy)), h x (by simp), List.length_cons]
    omega

set_option maxRecDepth 100000 in
set_option maxHeartbeats 4000000 in
theorem pageOpen_any (xs : List ByteArray) (v : Value) (w : World) (h : Sl w v (xs.map strV)) (hn : xs.length ≤ 30000000) :
    Calls Try.prog 54 #[v] w fun e w' => e = .returned (opened (Page.opn (bts xs))) ∧ Ext w w' := by
  obtain ⟨a, c, rfl, hlc, hc, hcell⟩ := sl_str_at h
  cases xs with
  | nil =>
    rw [show bts [] = [] from rfl, Page.opn_nil]
    go_enter Try.func54, Try.ntmps54
    go_wp2
    go_ret2
    exact ⟨rfl, Ext.refl _⟩
  | cons x rest =>
    obtain ⟨b, o, rfl, hb, hc0⟩ := hcell 0 (by simp)
    rw [List.getElem_cons_zero, Nat.add_zero] at hc0
    have hlen : ((x :: rest).length : Int) ≤ 30000000 := by omega
    have hl1 : ¬ (((x :: rest).length : Int) == 0) = true := by simp; omega
    have hl0 : 0 < (x :: rest).length := by simp
    by_cases hx : x.size = 32
    · have c39 := fun w => Soft_same (take_any x 0 (by unfold maxLen; omega) w)
      have hbd := Wire.takeAt_bounds x.data.toList 0
      have hfail := Page.opn_take x.data.toList (bts rest)
      have hfew := Page.opn_few x.data.toList (bts rest)
      have hodd := Page.opn_odd x.data.toList (bts rest)
      have hask := Page.opn_ask x.data.toList (bts rest)
      rw [show x.data.toList :: bts rest = bts (x :: rest) from rfl] at hfail hfew hodd hask
      generalize Page.opn (bts (x :: rest)) = Z at *
      obtain ⟨⟨n, q, bb⟩, ht⟩ : ∃ t, t = Wire.takeAt x.data.toList 0 := ⟨_, rfl⟩
      rw [← ht] at c39 hfail hfew hodd hask hbd
      unfold took at c39
      dsimp only at c39 hfail
      rw [size_list] at hbd
      have hxi : ((x.size : Int) == 32) = true := by simp; omega
      replace hcell := Lib.hid hcell
      cases bb
      · have hZ := Lib.hid (hfail rfl)
        clear hfail hfew hodd hask hbd ht hcell h
        generalize (x :: rest).length = N at *
        replace c39 := Lib.hid c39
        go_enter Try.func54, Try.ntmps54
        go_wp2_with fail
        refine (c39.out _).mono ?_; rintro e w1 ⟨rfl, x1⟩
        go_wp2_with fail
        go_ret2
        exact ⟨by rw [hZ.out]; rfl, x1⟩
      · obtain ⟨_, h2, h3, h4⟩ := hbd n q rfl
        obtain ⟨a0, rfl⟩ := Int.eq_ofNat_of_zero_le (show 0 ≤ q by omega)
        have ha0 : a0 ≤ 32 := by omega
        replace hfew := hfew n a0 rfl
        replace hodd := hodd n a0 rfl
        replace hask := hask n a0 rfl
        rw [Int.toNat_natCast] at hfew hodd hask
        have hsec := sectors_any (a0 + n + 4) (by omega)
        rw [show ((a0 + n + 4 : Nat) : Int) = (a0 : Int) + n + 4 from by omega] at hsec
        have hK1 : a0 + n + 4 ≤ 32 * Page.secs (a0 + n + 4) := Page.secs_le _
        generalize Page.secs (a0 + n + 4) = K at *
        clear hfail ht h2 h3
        replace c39 := Lib.hid c39; replace hsec := Lib.hid hsec
        by_cases hneed : K ≤ (x :: rest).length
        · have hsl : ∀ w', Ext w w' → Sl w' (.slice (some ⟨b, o, none⟩) K c) (((x :: rest).take K).map strV) := fun w' xw => by
            have hs : Sl w (.slice (some ⟨b, o, none⟩) K c) (((x :: rest).take K).map strV) := by
              refine ⟨_, c, by rw [List.length_map, List.length_take, Nat.min_eq_left hneed], by rw [List.length_map, List.length_take]; omega, hc, fun _ => ⟨b, o, rfl, hb, fun i y hi => ?_⟩⟩
              rw [List.getElem?_map, List.getElem?_take] at hi
              split at hi
              · have hlt : i < (x :: rest).length := by omega
                obtain ⟨b', o', e, _, hcell⟩ := hcell.out i hlt
                simp only [Option.some.injEq, Addr.mk.injEq, and_true] at e
                obtain ⟨rfl, rfl⟩ := e
                rw [List.getElem?_eq_getElem hlt, Option.map_some, Option.some.injEq] at hi
                rw [hcell, ← hi]; rfl
              · cases hi
            exact hs.ext xw
          have hcells : ∀ k (hk : k < (x :: rest).length), w.cell? ⟨b, o + k, none⟩ = some (.string (x :: rest)[k]) := fun k hk => by
            obtain ⟨b', o', e, _, hcell⟩ := hcell.out k hk
            simp only [Option.some.injEq, Addr.mk.injEq, and_true] at e
            obtain ⟨rfl, rfl⟩ := e
            exact hcell
          have hjoin := fun w h hs => join_any ((x :: rest).take K) (.slice (some ⟨b, o, none⟩) K c) w h (by rw [List.length_take]; omega) hs
          rw [bts_take] at hjoin
          generalize hLd : x :: rest = L at *
          have hjl : (∀ j (hj : j < L.length), j < K → (L[j]).size = 32) → ((bts L).take K).flatten.length = 32 * K ∧ ∀ y ∈ (bts L).take K, y.length = 32 := fun hall => by
            have h32 : ∀ y ∈ (bts L).take K, y.length = 32 := fun y hy => by
              obtain ⟨j, hj, rfl⟩ := List.getElem_of_mem hy
              rw [List.length_take] at hj
              rw [List.getElem_take]
              unfold bts at hj ⊢
              rw [List.length_map] at hj
              rw [List.getElem_map, size_list]
              exact hall j (by omega) (by omega)
            refine ⟨?_, h32⟩
            rw [flat32 _ h32, List.length_take]
            unfold bts
            rw [List.length_map]
            omega
          replace hsl := Lib.hid hsl; replace hcells := Lib.hid hcells; replace hjoin := Lib.hid hjoin; replace hjl := Lib.hid hjl; replace hask := Lib.hid hask; replace hodd := Lib.hid hodd; replace hLd := Lib.hid hLd
          clear hfew
          have hKl : (K : Int) ≤ L.length := by omega
          have hKc : K ≤ c := by omega
          go_enter Try.func54, Try.ntmps54
          go_wp2_with fail
          refine (c39.out _).mono ?_; rintro e w1 ⟨rfl, x1⟩
          go_wp2_with fail
          refine (hsec.out _).mono ?_; rintro e w2 ⟨rfl, x2⟩
          have y2 := x1.trans x2
          clear x1 x2 hc0
          go_wp2_with fail
          go_loopw [44] (fun i wr => ∃ k : Nat, k ≤ K ∧ i = .int .i64 k ∧ (∀ j (hj : j < L.length), j < k → (L[j]).size = 32) ∧ Ext w wr) (fun i _ => K - (intOf i).toNat)
          case atStart => exact ⟨0, by omega, rfl, fun j _ hj => by omega, y2⟩
          case round =>
            obtain ⟨k, hk, rfl, hall, hxr⟩ := hrel
            replace hall := Lib.hid hall
            clear y2
            by_cases hkK : k < K
            · have hkL : k < L.length := by omega
              have hck := (hxr.cell (p := ⟨b, o + k, none⟩) hb).trans (hcells.out k hkL)
              have hmem : (L[k]).data.toList ∈ (bts L).take K := by
                rw [List.mem_take_iff_getElem]
                exact ⟨k, by unfold bts; rw [List.length_map]; omega, by unfold bts; rw [List.getElem_map]⟩
              have hstep : (L[k]).size = 32 → ∀ j (hj : j < L.length), j < k + 1 → (L[j]).size = 32 := fun h32 j hj hjk => by
                rcases Nat.lt_or_ge j k with h | h
                · exact hall.out j hj h
                · obtain rfl : j = k := by omega
                  exact h32
              have hod := hodd.out (L[k]).data.toList hmem
              rw [size_list] at hod
              generalize L[k] = y at *
              replace hmem := Lib.hid hmem
              by_cases hy : y.size = 32
              · have hyi : ((y.size : Int) == 32) = true := by simp; omega
                replace hstep := Lib.hid (hstep hy)
                clear hod hmem
                replace hy := Lib.hid hy
                go_wp2_with fail
                go_roundw
                case rel => exact ⟨k + 1, by omega, by go_num, hstep.out, hxr⟩
                case measure => simp [intOf]; omega
              · have hyi : ((y.size : Int) == 32) = false := by simp; omega
                have hZ := Lib.hid (hod hy)
                clear hstep hod hmem
                replace hy := Lib.hid hy
                go_wp2_with fail
                go_ret2
                exact ⟨by rw [hZ.out]; rfl, hxr⟩
            · obtain rfl : k = K := by omega
              obtain ⟨hJ, h32⟩ := hjl.out hall.out
              have hj := hjoin.out
              have hS : ((str ((bts L).take k).flatten).extract a0 (a0 + n)).data.toList = ((((bts L).take k).flatten).drop a0).take n := by
                rw [extract_list, list_str, show a0 + n - a0 = n from by omega]
              have hask2 := hask.out
              rw [← hS] at hask2
              have hJs : (str ((bts L).take k).flatten).size = 32 * k := by rw [str_size]; exact hJ
              generalize str ((bts L).take k).flatten = J at *
              have hSs : (J.extract a0 (a0 + n)).size = n := by rw [extract_size _ _ _ (by omega)]; omega
              obtain ⟨S, hSd⟩ : ∃ S, J.extract a0 (a0 + n) = S := ⟨_, rfl⟩
              rw [hSd] at hask2 hSs
              have h57 := lay_any S (by omega)
              have h93 := fun u w h1 h2 => equal_any ((Page.lay S.data.toList).map str) (L.take k) u (.slice (some ⟨b, o, none⟩) k c) w h1 h2
              have hdec : decide ((Page.lay S.data.toList).map str = L.take k) = decide (Page.lay S.data.toList = (bts L).take k) := by
                rw [decide_eq_decide, map_str_eq, bts_take]
              rw [hdec] at h93
              have hstr : strs (Page.lay S.data.toList) = ((Page.lay S.data.toList).map str).map strV := rfl
              rw [← hstr] at h93
              have hj32 : (a0 : Int) + n ≤ J.size := by rw [hJs]; omega
              have hJb : J.size ≤ 960000000 := by rw [hJs]; omega
              have hrj := hj wr (hsl.out wr hxr) (by rw [hJ]; omega)
              replace hJs := Lib.hid hJs; replace hSs := Lib.hid hSs; replace h57 := Lib.hid h57; replace hrj := Lib.hid hrj; replace hS := Lib.hid hS; replace hJ := Lib.hid hJ; replace h32 := Lib.hid h32; replace hstr := Lib.hid hstr; replace hdec := Lib.hid hdec; replace hall := Lib.hid hall
              clear hj
              by_cases heq : Page.lay S.data.toList = (bts L).take k
              · rw [if_pos heq] at hask2
                rw [decide_eq_true heq] at h93
                replace hask2 := Lib.hid hask2; replace heq := Lib.hid heq
                replace h93 := Lib.hid h93
                go_wp2_with fail
                refine hrj.out.mono ?_; rintro e w3 ⟨rfl, x3⟩
                go_wp2_with fail
                refine Soft.region_ext [(1, Soft.texts (strs (Page.lay S.data.toList)))] [0, 1, 2, 3, 4, 5, 6] [] (by kernel_rfl) (by kernel_rfl) (Soft.stab_one fun _ _ _ => Soft.texts_stab) ?_
                repeat (refine Soft.pure_n rfl rfl rfl rfl (fun K hK => ?_); go_simp; refine hK _ ?_; clear hK K)
                refine Soft.loud_step0 rfl rfl rfl rfl (fun K hK => ?_)
                refine ⟨fun wq hq => ?_, fun u _ => hK _ ?_⟩
                · go_simp
                  exact Soft.laid_loud (h57.out wq)
                clear hK K
                go_simp
                repeat (refine Soft.pure_n rfl rfl rfl rfl (fun K hK => ?_); go_simp; refine hK _ ?_; clear hK K)
                refine Soft.quiet_step rfl rfl rfl (fun K hK => ?_)
                go_simp
                apply Exists.intro
                refine ⟨fun wq hq hk => ?_, hK _ ?_⟩
                · have hc := hk.get 1 (by kernel_rfl) rfl rfl
                  clear hk
                  exact h93.out _ _ hc (hsl.out _ ((hxr.trans x3).trans hq))
                clear hK K
                repeat (refine Soft.pure_n rfl rfl rfl rfl (fun K hK => ?_); go_simp; refine hK _ ?_; clear hK K)
                refine Soft.ends (by kernel_rfl) (fun w4 x4 _ => ?_)
                go_wp2_with fail
                go_ret2
                exact ⟨by rw [hask2.out]; exact ret_opened S, (hxr.trans x3).trans x4⟩
              · rw [if_neg heq] at hask2
                rw [decide_eq_false heq] at h93
                replace hask2 := Lib.hid hask2; replace heq := Lib.hid heq
                replace h93 := Lib.hid h93
                go_wp2_with fail
                refine hrj.out.mono ?_; rintro e w3 ⟨rfl, x3⟩
                go_wp2_with fail
                refine Soft.region_ext [(1, Soft.texts (strs (Page.lay S.data.toList)))] [0, 1, 2, 3, 4, 5, 6] [] (by kernel_rfl) (by kernel_rfl) (Soft.stab_one fun _ _ _ => Soft.texts_stab) ?_
                repeat (refine Soft.pure_n rfl rfl rfl rfl (fun K hK => ?_); go_simp; refine hK _ ?_; clear hK K)
                refine Soft.loud_step0 rfl rfl rfl rfl (fun K hK => ?_)
                refine ⟨fun wq hq => ?_, fun u _ => hK _ ?_⟩
                · go_simp
                  exact Soft.laid_loud (h57.out wq)
                clear hK K
                go_simp
                repeat (refine Soft.pure_n rfl rfl rfl rfl (fun K hK => ?_); go_simp; refine hK _ ?_; clear hK K)
                refine Soft.quiet_step rfl rfl rfl (fun K hK => ?_)
                go_simp
                apply Exists.intro
                refine ⟨fun wq hq hk => ?_, hK _ ?_⟩
                · have hc := hk.get 1 (by kernel_rfl) rfl rfl
                  clear hk
                  exact h93.out _ _ hc (hsl.out _ ((hxr.trans x3).trans hq))
                clear hK K
                repeat (refine Soft.pure_n rfl rfl rfl rfl (fun K hK => ?_); go_simp; refine hK _ ?_; clear hK K)
                refine Soft.ends (by kernel_rfl) (fun w4 x4 _ => ?_)
                go_wp2_with fail
                go_ret2
                exact ⟨by rw [hask2.out]; rfl, (hxr.trans x3).trans x4⟩
        · have hZ := Lib.hid (hfew (by unfold bts; rw [List.length_map]; omega))
          have hneed' : ((x :: rest).length : Int) < K := by omega
          clear hfew hodd hask hcell h
          generalize (x :: rest).length = N at *
          go_enter Try.func54, Try.ntmps54
          go_wp2_with fail
          refine (c39.out _).mono ?_; rintro e w1 ⟨rfl, x1⟩
          go_wp2_with fail
          refine (hsec.out _).mono ?_; rintro e w2 ⟨rfl, x2⟩
          go_wp2_with fail
          go_ret2
          exact ⟨by rw [hZ.out]; rfl, x1.trans x2⟩
    · have hxi : ((x.size : Int) == 32) = false := by simp; omega
      have hZ := Page.opn_first x.data.toList (bts rest) (by rw [size_list]; exact hx)
      rw [show x.data.toList :: bts rest = bts (x :: rest) from rfl] at hZ
      rw [hZ]
      clear hZ hcell h
      generalize (x :: rest).length = N at *
      go_enter Try.func54, Try.ntmps54
      go_wp2_with fail
      go_ret2
      exact ⟨rfl, Ext.refl _⟩

end Go.Proofs.Ytehidhcpdiameaa
