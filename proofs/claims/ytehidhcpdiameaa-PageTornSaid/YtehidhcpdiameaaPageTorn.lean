/- The statement PageTorn: the law's own walk, where a sector is turned. -/
import Derived.Test.YtehidhcpdiameaaPageTorn0
namespace Go.Proofs.Ytehidhcpdiameaa
open Go.RowKit

theorem run_turned {cb N : Nat} {l : List UInt8} {w : World} (h : Turned cb l w) (hl : l.length = 32) : (Go.convert 33 9 (.slice (some ⟨cb, 0, none⟩) 32 N)).run Try.prog w = .ok (.string (str l)) w := by
  rw [run_convert_bytes_arg w 33 5 Try.underlying33 Try.underlying5 cb 0 32 N (l.map fun b => (b.toNat : Int)) (by simpa using hl) ?_ 9 Try.underlying9]
  · congr 2
    unfold strOfNums str
    simp [Function.comp_def]
  · intro i hi
    rw [Nat.zero_add, h.cell i (by omega)]
    have h1 : i < l.length := by omega
    rw [List.getD_eq_getElem?_getD, List.getD_eq_getElem?_getD, List.getElem?_map, List.getElem?_eq_getElem h1]
    rfl

set_option maxRecDepth 100000 in
set_option maxHeartbeats 8000000 in
theorem pageTorn_main (w : World) (s : ByteArray) (i p : Nat) (b0 b1 b2 b3 : UInt8) (hs : s.size ≤ 1000) (hp : p ≤ 28) (hi : i < (Page.lay s.data.toList).length) (h3 : ¬ (i = 0 ∧ p < 3)) :
    Calls Try.prog 16 #[.string s, .agg #[.int .i64 i, .int .i64 p], .agg #[byteV b0, byteV b1, byteV b2, byteV b3]] w fun e w' => e = .returned (.bool true) ∧ Ext w w' := by
  have y0 : Ext w ((w.alloc (.cells #[.int .i64 i, .int .i64 p] 63)).alloc (.cells #[byteV b0, byteV b1, byteV b2, byteV b3] 30)) := ((Ext.refl w).alloc _).alloc _
  have hbox := (Box2.new w (.int .i64 i) (.int .i64 p) 63).ext ((Ext.refl _).alloc (.cells #[byteV b0, byteV b1, byteV b2, byteV b3] 30))
  have hbox4 := Box4.new (w.alloc (.cells #[.int .i64 i, .int .i64 p] 63)) b0 b1 b2 b3 30
  rw [show (w.alloc (.cells #[.int .i64 i, .int .i64 p] 63)).heap.size = w.heap.size + 1 from by simp] at hbox4
  have d1 : decide ((1000 : Int) < s.size) = false := decide_eq_false (by omega)
  have d2 : decide ((i : Int) < 0) = false := decide_eq_false (by omega)
  have d3 : decide ((p : Int) < 0) = false := decide_eq_false (by omega)
  have d4 : decide ((28 : Int) < p) = false := decide_eq_false (by omega)
  have h57 := lay_any s (by omega)
  have htorn := Page.torn s.data.toList (by rw [size_list]; exact hs) i p [b0, b1, b2, b3] hi hp h3
  have hXl : ((Page.lay s.data.toList)[i]).length = 32 := Page.lay_each _ _ (List.getElem_mem hi)
  have hML : (Page.lay s.data.toList).length ≤ 1000 := by
    rw [Page.lay_length]; have := Page.sealed_size s; unfold Page.secs; omega
  generalize hLd : Page.lay s.data.toList = L at *
  have hYl : (turnTo (L[i]) p [b0, b1, b2, b3] 4).length = 32 := by rw [turnTo_length, hXl]
  have hstep : ∀ k, k < 4 → turnTo (L[i]) p [b0, b1, b2, b3] (k + 1) = turn (turnTo (L[i]) p [b0, b1, b2, b3] k) (p + k) ([b0, b1, b2, b3].getD k 0) := fun k hk => turnTo_step _ _ _ k (by omega)
  have hlen : ∀ k, (turnTo (L[i]) p [b0, b1, b2, b3] k).length = 32 := fun k => by rw [turnTo_length, hXl]
  have hz : turnTo (L[i]) p [b0, b1, b2, b3] 0 = L[i] := rfl
  have hLi : (strs L)[i]? = some (.string (str L[i])) := by
    unfold strs; rw [List.getElem?_map, List.getElem?_map, List.getElem?_eq_getElem hi]; rfl
  have hXs : (str L[i]).size = 32 := by rw [str_size, hXl]
  have hXd : (str L[i]).data.toList = L[i] := rfl
  generalize hTT : turnTo (L[i]) p [b0, b1, b2, b3] = TT at *
  generalize hX : L[i] = X at *
  have h54 := fun v w h => pageOpen_any ((L.set i (TT 4)).map str) v w h (by rw [List.length_map, List.length_set]; omega)
  rw [bts_str, htorn] at h54
  have h56 := sameTexts_any (L.map str) ((L.set i (TT 4)).map str)
  have hdec : decide (L.map str = (L.set i (TT 4)).map str) = decide (L = L.set i (TT 4)) := by
    rw [decide_eq_decide, map_str_eq, bts_str]
  rw [hdec] at h56
  have e1 : ((L.set i (TT 4)).map str).map strV = (strs L).set i (.string (str (TT 4))) := by
    unfold strs; rw [List.map_set, List.map_set]; rfl
  rw [e1] at h54 h56
  rw [show (L.map str).map strV = strs L from rfl] at h56
  have hsl := strs_length L
  have one1 : ∀ y ∈ strs L, y.oneCell' = true := fun y hy => by
    unfold strs at hy
    obtain ⟨z, _, rfl⟩ := List.mem_map.1 hy
    rfl
  have hLne : strs L ≠ [] := fun e => by rw [e] at hsl; simp at hsl; omega
  clear hX
  generalize hM : L.length = M at *
  obtain ⟨i0, hi1, hz0, hz1, hz2⟩ := info_parts info9
  have d5 : decide ((M : Int) ≤ i) = false := decide_eq_false (by omega)
  have d5n : decide (M ≤ i) = false := decide_eq_false (by omega)
  have d5' : ¬ (M : Int) ≤ i := by omega
  have hiM : (i : Int) < M := by omega
  have dd : ∀ x : Bool, (x == x) = true := fun x => by cases x <;> rfl
  have eq1 : (s.toList == s.toList) = true := beq_self_eq_true _
  replace h57 := Lib.hid h57; replace h54 := Lib.hid h54; replace h56 := Lib.hid h56; replace hstep := Lib.hid hstep; replace hlen := Lib.hid hlen; replace hLi := Lib.hid hLi; replace one1 := Lib.hid one1; replace hsl := Lib.hid hsl; replace hz := Lib.hid hz; replace hTT := Lib.hid hTT; replace hM := Lib.hid hM; replace hLd := Lib.hid hLd; replace hXl := Lib.hid hXl; replace hYl := Lib.hid hYl; replace htorn := Lib.hid htorn; replace hdec := Lib.hid hdec; replace e1 := Lib.hid e1; replace hLne := Lib.hid hLne; replace hXd := Lib.hid hXd; replace dd := Lib.hid dd
  have hcase : (∃ _ : ((i : Int) == 0) = true, decide ((p : Int) < 3) = false) ∨ ((i : Int) == 0) = false := by
    by_cases h0 : i = 0
    · exact .inl ⟨by simp [h0], decide_eq_false (by omega)⟩
    · exact .inr (by simp; omega)
  replace hXs := Lib.hid hXs
  clear h3
  go_enter Try.func16, Try.ntmps16
  go_wp2_with fail
  refine Soft.region_ext [] [0, 1, 2, 3, 4, 5] [] (by kernel_rfl) (by kernel_rfl) Soft.stab_none ?_
  repeat (first | (refine Soft.pure_n rfl rfl rfl rfl (fun K hK => ?_); go_simp; refine hK _ ?_; clear hK K) | (refine Soft.pure_g rfl rfl rfl rfl rfl (fun K hK => ?_); go_simp; refine hK _ ?_; clear hK K) | (refine Soft.shut rfl rfl rfl rfl (fun K hK => ?_); go_simp; refine hK _ ?_; clear hK K) | (refine Soft.shut0 rfl rfl rfl rfl (fun K hK => ?_); go_simp; refine hK _ ?_; clear hK K) | (refine Soft.quiet_n rfl rfl rfl rfl (fun K hK => ?_); go_simp; apply Exists.intro; refine ⟨fun wq hq => ?_, hK _ ?_⟩; (first | (go_simp; with_reducible rfl) | (have g := (hbox.ext hq).2.1; go_simp; with_reducible rfl) | (have g := (hbox.ext hq).2.2; go_simp; with_reducible rfl)); clear hK K) | (refine Soft.quiet_g rfl rfl rfl rfl rfl (fun K hK => ?_); go_simp; apply Exists.intro; refine ⟨fun wq hq => ?_, hK _ ?_⟩; (first | (go_simp; with_reducible rfl) | (have g := (hbox.ext hq).2.1; go_simp; with_reducible rfl) | (have g := (hbox.ext hq).2.2; go_simp; with_reducible rfl)); clear hK K))
  refine Soft.ends (by kernel_rfl) (fun w1 x1 _ => ?_)
  have k1 := hbox4.ext x1
  have y1 := y0.trans x1
  clear hbox hbox4 x1 y0
  go_wp2_with fail
  refine (fixed11 _).mono ?_; rintro e w2 ⟨rfl, x2⟩
  replace k1 := k1.ext x2
  replace y1 := y1.trans x2
  clear x2
  go_wp2_with fail
  refine (h57.out _).mono ?_; rintro e w4 ⟨v4, rfl, l4, x4⟩
  replace k1 := k1.ext x4
  replace y1 := y1.trans x4
  clear x4
  have n4 := l4.nilOr hLne.out
  obtain ⟨a4, c4, e4, hlc4, hc4, h4⟩ := id l4
  obtain ⟨b4, o4, rfl, hb4, hcell4⟩ := h4 hLne.out
  have hci := hcell4 i _ hLi.out
  rw [hsl.out] at e4 hlc4
  subst e4
  obtain ⟨w5, N, hconv, x5, hsz5, hcb, hfb⟩ := bytes_of (str X) w4
  have ht0 : Turned w4.heap.size (TT 0) w5 := by
    refine ⟨hsz5, fun j hj => ?_, fun j hj => ?_⟩
    · rw [hlen.out] at hj
      have hj2 : j < (str X).size := by rw [hXs.out]; exact hj
      rw [hcb j hj2]
      have : (str X)[j] = (TT 0).getD j 0 := by
        rw [hz.out]
        have hjx : j < X.length := by rw [hXl.out]; exact hj
        rw [List.getD_eq_getElem?_getD, List.getElem?_eq_getElem hjx]
        rfl
      rw [this]
    · rw [hlen.out] at hj
      exact hfb j (by rw [hXs.out]; exact hj)
  rw [hXs.out] at hconv
  clear hcb hfb h4 hcell4
  replace l4 := Lib.hid l4; replace n4 := Lib.hid n4; replace ht0 := Lib.hid ht0; replace k1 := Lib.hid k1
  rcases hcase with ⟨hq1, hq2⟩ | hq1
  all_goals
    go_wp2_with fail
    go_loopw [11] (fun ii wr => ∃ k : Nat, k ≤ 4 ∧ ii = .int .i64 k ∧ Turned w4.heap.size (TT k) wr ∧ Ext w4 wr) (fun ii _ => 4 - (intOf ii).toNat)
    case atStart => exact ⟨0, by omega, rfl, ht0.out, x5⟩
    case round =>
      obtain ⟨k, hk, rfl, ht, hx⟩ := hrel
      by_cases hk4 : k < 4
      · have hC : ∀ wq, Ext wr wq → wq.cell? ⟨w4.heap.size, p + k, none⟩ = some (.int .u8 (((TT k).getD (p + k) 0).toNat : Int)) := fun wq xq => (ht.ext xq).cell (p + k) (by rw [hlen.out]; omega)
        have hF : ∀ wq, Ext wr wq → wq.frozen? ⟨w4.heap.size, p + k, none⟩ = false := fun wq xq => (ht.ext xq).free (p + k) (by rw [hlen.out]; omega)
        have hB : ∀ wq, Ext wr wq → wq.cell? ⟨w.heap.size + 1, k, none⟩ = some (.int .u8 (([b0, b1, b2, b3].getD k 0).toNat : Int)) := fun wq xq => (k1.out.ext (hx.trans xq)).2 k hk4
        have hnext : ∀ wq, Ext wr wq → Turned w4.heap.size (TT (k + 1)) (wq.setCell ⟨w4.heap.size, p + k, none⟩ (byteV ((TT k).getD (p + k) 0 ^^^ [b0, b1, b2, b3].getD k 0))) := fun wq xq => by
          rw [hstep.out k hk4]
          exact (ht.ext xq).set (p + k) (by rw [hlen.out]; omega) _
        generalize (TT k).getD (p + k) 0 = C at *
        generalize [b0, b1, b2, b3].getD k 0 = B at *
        have hxor := u8_xor_nat C.toNat B.toNat C.toNat_lt B.toNat_lt
        have hbv : byteV (C ^^^ B) = .int .u8 ((C.toNat ^^^ B.toNat : Nat) : Int) := by unfold byteV; rw [UInt8.toNat_xor]
        rw [hbv] at hnext
        have f1 : IntKind.i64.wrap ((p : Int) + k) = p + k := IntWalk.i64_in _ (by omega)
        have f2 : ((p : Int) + k).toNat = p + k := by omega
        have f3 : (0 : Int) ≤ p + k := by omega
        have f4 : (p : Int) + k < 32 := by omega
        have f5 : (k : Int) < 4 := by omega
        replace hC := Lib.hid hC; replace hF := Lib.hid hF; replace hB := Lib.hid hB; replace hnext := Lib.hid hnext; replace hbv := Lib.hid hbv; replace ht := Lib.hid ht
        go_wp2_with fail
        refine Soft.region_ext [] [0, 1, 2, 3, 4, 5, 6, 7, 8, 9, 10, 11, 12, 13, 14] [15] (by kernel_rfl) (by kernel_rfl) Soft.stab_none ?_
        repeat (first | (refine Soft.pure_n rfl rfl rfl rfl (fun K hK => ?_); go_simp; refine hK _ ?_; clear hK K) | (refine Soft.quiet_n rfl rfl rfl rfl (fun K hK => ?_); go_simp; apply Exists.intro; refine ⟨fun wq hq => ?_, hK _ ?_⟩; (first | (have g := hC.out wq hq; go_simp; with_reducible rfl) | (have g := hB.out wq hq; go_simp; with_reducible rfl)); clear hK K))
        refine Soft.tail_forced [_] (by kernel_rfl) rfl (fun w6 x6 _ => ?_)
        have g1 := hC.out w6 x6
        have g2 := hF.out w6 x6
        go_wp2
        try apply_assumption
        try go_wp2
        go_roundw
        case rel => exact ⟨k + 1, by omega, by go_num, hnext.out w6 x6, (hx.trans x6).below.setCell (Nat.le_refl _) _⟩
        case measure => simp [intOf]; omega
      · obtain rfl : k = 4 := by omega
        go_wp2_with (at_builtin; refine wpList_append_sl (a0 := wr) rfl _ _ 55 rfl wr.heap.size 9 i0 (.string ByteArray.empty) 16 Try.underlying55 hi1 hz0 hz1 hz2 rfl _ 0 [] rfl (ownsRow_fresh _ _ _) _ (strs L) rfl (l4.out.ext (hx.trans ((Ext.refl _).alloc _))) n4.out one1.out ?c1 ?c2 (Nat.le_refl _) ?c3 ((Ext.refl _).alloc _) ?_)
        case c1 => rw [hsl.out]; unfold maxLen; omega
        case c2 => rw [hsl.out]; omega
        case c3 => simp
        intro v6 w6 hown6 y6
        rw [hsl.out] at hown6
        rcases id hown6.2 with ⟨_, hnil⟩ | ⟨g, cap, cur, rfl, hbg, hcg, hcapg, _, _, _⟩
        · exfalso; omega
        · have hcv := run_turned (N := N) (ht.ext y6) (hlen.out 4)
          have hfr := hown6.frozenAt i
          have hce := hown6.cellAt i (by omega)
          rw [hLi.out] at hce
          have hst := Lib.hid (Sl.owned (hown6.stored i (.string (str (TT 4)))).1)
          have y7 : Ext wr (w6.setCell ⟨g, i, none⟩ (.string (str (TT 4)))) := y6.below.setCell hbg _
          clear hown6 hcg
          replace ht := Lib.hid ht
          have hML2 : M ≤ 1000 := hML
          by_cases heq : L = L.set i (TT 4)
          · have h54' := h54.out
            have h56' := h56.out
            rw [if_pos heq, show opened (s.data.toList, true) = .tuple #[.string s, .bool true] from by unfold opened; rw [str_list]] at h54'
            rw [decide_eq_true heq] at h56'
            replace h54' := Lib.hid h54'; replace h56' := Lib.hid h56'; replace heq := Lib.hid heq
            go_wp2_with fail
            refine (h54'.out _ _ hst.out).mono ?_; rintro e w8 ⟨rfl, x8⟩
            go_wp2_with fail
            refine (h56'.out _ _ _ (l4.out.ext ((hx.trans y7).trans x8)) (hst.out.ext x8)).mono ?_; rintro e w9 ⟨rfl, x9⟩
            go_wp2_with fail
            go_ret
            exact ⟨rfl, (((y1.trans hx).trans y7).trans x8).trans x9⟩
          · have h54' := h54.out
            have h56' := h56.out
            rw [if_neg heq, opened_no] at h54'
            rw [decide_eq_false heq] at h56'
            replace h54' := Lib.hid h54'; replace h56' := Lib.hid h56'; replace heq := Lib.hid heq
            go_wp2_with fail
            refine (h54'.out _ _ hst.out).mono ?_; rintro e w8 ⟨rfl, x8⟩
            go_wp2_with fail
            refine (h56'.out _ _ _ (l4.out.ext ((hx.trans y7).trans x8)) (hst.out.ext x8)).mono ?_; rintro e w9 ⟨rfl, x9⟩
            go_wp2_with fail
            go_ret
            exact ⟨rfl, (((y1.trans hx).trans y7).trans x8).trans x9⟩

theorem pageTorn_walk (s : ByteArray) (x : Int × Int) (b : UInt8 × UInt8 × UInt8 × UInt8) (hs : s.size ≤ maxLen) (_hz : s.size ≤ 140737488351232)
    (_hx : (-9223372036854775808 ≤ x.1 ∧ x.1 ≤ 9223372036854775807) ∧ (-9223372036854775808 ≤ x.2 ∧ x.2 ≤ 9223372036854775807)) (_hb : True) (w : World) :
    Calls Try.prog 16 #[.string s, .agg #[.int .i64 x.1, .int .i64 x.2], .agg #[byteV b.1, byteV b.2.1, byteV b.2.2.1, byteV b.2.2.2]] w fun e w' => e = .returned (.bool true) ∧ Ext w w' := by
  by_cases h : 1000 < (s.size : Int) ∨ x.1 < 0 ∨ x.2 < 0 ∨ 28 < x.2
  · exact pageTorn_out w s x.1 x.2 _ hs h
  · obtain ⟨a, p⟩ := x
    dsimp only at h ⊢
    obtain ⟨i, rfl⟩ := Int.eq_ofNat_of_zero_le (show 0 ≤ a by omega)
    obtain ⟨p, rfl⟩ := Int.eq_ofNat_of_zero_le (show 0 ≤ p by omega)
    by_cases h2 : (Page.lay s.data.toList).length ≤ i ∨ (i = 0 ∧ p < 3)
    · exact pageTorn_past w s i p _ (by omega) (by omega) h2
    · exact pageTorn_main w s i p _ _ _ _ (by omega) (by omega) (by omega) (fun e => h2 (.inr e))

end Go.Proofs.Ytehidhcpdiameaa
