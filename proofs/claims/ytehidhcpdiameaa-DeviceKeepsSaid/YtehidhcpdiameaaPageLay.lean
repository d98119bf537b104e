/- The walks of layer 11, on: the sectors of a text, of the program and of the reference. -/
import Derived.Test.YtehidhcpdiameaaPageSmall
import Derived.Test.YtehidhcpdiameaaCrcWalk
import Derived.Test.YtehidhcpdiameaaSoft2
namespace Go.Proofs.Ytehidhcpdiameaa
open Go.RowKit

/-- texts as values. -/
def strs (l : List (List UInt8)) : List Value := (l.map str).map strV
theorem strs_append (a b : List (List UInt8)) : strs (a ++ b) = strs a ++ strs b := by simp [strs]
theorem strs_length (l : List (List UInt8)) : (strs l).length = l.length := by simp [strs]
/-- a list of texts was made. -/
def Laid (w : World) (l : List (List UInt8)) (e : Ending) (w' : World) : Prop := ∃ v, e = .returned v ∧ Sl w' v (strs l) ∧ Ext w w'
def strLen : Value → Nat | .string s => s.size | _ => 0

theorem info9 : (Try.prog.info? 9).map (fun i => (i.zero, i.size, i.bytes)) = some (some (.string ByteArray.empty), 1, 16) := by kernel_rfl

theorem repeat_zero : ∀ c, Lib.repeatL [0] c = List.replicate c (0 : UInt8)
  | 0 => rfl
  | c + 1 => by rw [Lib.repeatL, repeat_zero c, List.replicate_succ]; rfl
theorem rep_any (c : Nat) (hc : c ≤ 32) (w : World) : Calls Try.prog 94 #[.string ⟨#[0]⟩, .int .i64 c] w fun e w' => e = .returned (.string (str (List.replicate c 0))) ∧ Ext w w' := by
  have := Try.strings_Repeat ⟨#[0]⟩ c w (by omega) (by show 1 * c ≤ _; omega)
  refine this.mono ?_
  rintro e w' ⟨rfl, x⟩
  refine ⟨?_, x⟩
  rw [show (ByteArray.mk #[0]).data.toList = [0] from rfl, repeat_zero]
  rfl

theorem join_list (a b : ByteArray) : (a ++ b).data.toList = a.data.toList ++ b.data.toList := by
  rw [ByteArray.data_append, Array.toList_append]
theorem join_size (a b : ByteArray) : (a ++ b).size = a.size + b.size := ByteArray.size_append
theorem extract_size (s : ByteArray) (a b : Nat) (h : b ≤ s.size) : (s.extract a b).size = b - a := by
  rw [← size_list, extract_list, List.length_take, List.length_drop, size_list]; omega

namespace Page
theorem secs_lt (n k : Nat) (h : 32 * k < n) : k < secs n := by unfold secs; omega
theorem secs_done (n k : Nat) (h : n ≤ 32 * k) (hk : k ≤ secs n) : k = secs n := by unfold secs at *; omega
theorem sealed_size (s : ByteArray) : (sealed s.data.toList).length ≤ s.size + 10 := by
  rw [sealed_length, size_list]; have := num_size (s.size : Int); omega
end Page

set_option maxRecDepth 100000 in
set_option maxHeartbeats 4000000 in
theorem lay_any (s : ByteArray) (hs : s.size ≤ 1000000000) (w : World) :
    Calls Try.prog 57 #[.string s] w (Laid w (Page.lay s.data.toList)) := by
  have h48 := text_any s (by omega)
  have hz := Page.sealed_size s
  have hts : (str (Wire.text s.data.toList)).size ≤ s.size + 6 := by
    rw [str_size]; unfold Wire.text; rw [List.length_append, size_list]; have := num_size (s.size : Int); omega
  have h35 := seal_any (str (Wire.text s.data.toList)) (by omega)
  rw [list_str, show Crc.seal_ (Wire.text s.data.toList) = Page.sealed s.data.toList from rfl] at h35
  have hlay : Page.lay s.data.toList = Page.pieces (Page.sealed s.data.toList) (Page.secs (Page.sealed s.data.toList).length) := rfl
  generalize Page.lay s.data.toList = L at *
  generalize str (Wire.text s.data.toList) = T at *
  generalize Page.sealed s.data.toList = t at *
  subst hlay
  obtain ⟨i0, hi, hz0, hz1, hz2⟩ := info_parts info9
  replace h48 := Lib.hid h48; replace h35 := Lib.hid h35
  go_enter Try.func57, Try.ntmps57
  go_wp2_with fail
  refine (h48.out _).mono ?_; rintro e w1 ⟨rfl, x1⟩
  go_wp2_with fail
  refine (h35.out _).mono ?_; rintro e w2 ⟨rfl, x2⟩
  have y2 := x1.trans x2
  clear x1 x2
  go_wp2_with fail
  go_loopw [3, 4] (fun sl out wr => ∃ (k : Nat) (R : ByteArray), k ≤ Page.secs t.length ∧ sl = .string R ∧ R = str (t.drop (32 * k)) ∧ wr.ownsRow w.heap.size 9 1 out k (strs (Page.pieces t k)) ∧ Ext w wr) (fun sl _ _ => strLen sl)
  case atStart => exact ⟨0, str t, by omega, rfl, by simp, ⟨rfl, .inl ⟨rfl, rfl⟩⟩, y2⟩
  case round =>
    obtain ⟨k, R, hk, rfl, hR, hown, hx⟩ := hrel
    have hRs : R.size = t.length - 32 * k := by rw [hR, str_size, List.length_drop]
    have hRl : R.data.toList = t.drop (32 * k) := by rw [hR, list_str]
    clear y2
    by_cases hpos : 0 < R.size
    · have hk2 := Page.secs_lt t.length k (by omega)
      have hsz : Page.secs t.length ≤ 1000000100 := by unfold Page.secs; omega
      have hp2 := Page.pieces_succ t k
      have hRc : R.size ≤ 1000000100 := by omega
      by_cases h32 : 32 ≤ R.size
      · have hrep : ∀ w, Calls Try.prog 94 #[.string ⟨#[0]⟩, .int .i64 0] w fun e w' => e = .returned (.string (str [])) ∧ Ext w w' := rep_any 0 (by omega)
        have hX : R.extract 0 32 ++ str [] = str (Page.piece t k) := by
          apply str_inj
          rw [join_list, extract_head, list_str, list_str, hRl]
          unfold Page.piece Page.padTo
          rw [List.length_take, List.length_drop, show 32 - min 32 (t.length - 32 * k) = 0 from by omega]
          rfl
        have hN : R.extract 32 R.size = str (t.drop (32 * (k + 1))) := by
          apply str_inj
          rw [extract_list, list_str, hRl, List.drop_drop, List.take_of_length_le (by rw [List.length_drop]; omega)]
          congr 1
        have hNs : (R.extract 32 R.size).size = R.size - 32 := extract_size _ _ _ (Nat.le_refl _)
        have hmin : min (R.size : Int) 32 = 32 := by omega
        have hwr : IntKind.i64.wrap 0 = 0 := IntWalk.i64_in _ (by omega)
        have hes : (R.extract 0 32).size ≤ 32 := by rw [extract_size _ _ _ h32]; omega
        have hzs : (str []).size ≤ 32 := by rw [str_size]; simp
        generalize str [] = Z0 at *
        obtain ⟨E, hE⟩ : ∃ E, R.extract 0 32 = E := ⟨_, rfl⟩
        rw [hE] at hX hes
        have hadd : ¬ 9223372036854775807 < E.size + Z0.size := by omega
        have hcc : (32 : Int) ≤ R.size := by omega
        obtain ⟨X, hXd⟩ : ∃ X, X = E ++ Z0 := ⟨_, rfl⟩
        rw [← hXd] at hX
        replace hR := Lib.hid hR; replace hRs := Lib.hid hRs; replace hRl := Lib.hid hRl; replace hX := Lib.hid hX; replace hN := Lib.hid hN; replace hp2 := Lib.hid hp2; replace hrep := Lib.hid hrep; replace hNs := Lib.hid hNs
        subst hXd
        go_wp2_with fail
        refine Soft.region_ext [(8, Soft.row 1 1 [.string (E ++ Z0)])] [0, 1, 2, 3, 4, 5, 6, 7, 8] [9, 10] (by kernel_rfl) (by kernel_rfl) (Soft.stab_one fun _ _ _ => Soft.row_stab) ?_
        repeat (refine Soft.pure_n rfl rfl rfl rfl (fun K hK => ?_); go_simp; refine hK _ ?_; clear hK K)
        (refine Soft.quiet_n rfl rfl rfl rfl (fun K hK => ?_); go_simp; apply Exists.intro; refine ⟨fun wq hq => ?_, hK _ ?_⟩; (with_reducible exact hrep.out _); clear hK K)
        repeat (refine Soft.pure_n rfl rfl rfl rfl (fun K hK => ?_); go_simp; refine hK _ ?_; clear hK K)
        refine Soft.loud_step0 rfl rfl rfl rfl (fun K hK => ?_)
        refine ⟨fun wq hq => ?_, fun u ⟨m, hu⟩ => hK _ ?_⟩
        · go_simp
          exact ⟨(Ext.refl _).alloc _, ⟨_, rfl⟩, Soft.row_new⟩
        clear hK K
        subst hu
        refine Soft.tail_forced [_, _] (by kernel_rfl) rfl (fun w3 x3 hk3 => ?_)
        have hcell := (Soft.row_cell (hk3.get 8 rfl rfl)).2 0 _ rfl
        clear hk3
        refine wpList_append_own w3 rfl (.tmp 15) (.tmp 23) 55 rfl w.heap.size 9 i0 (.string ByteArray.empty) 1 16 Try.underlying55 hi hz0 hz1 hz2 rfl (by decide) _ k _ rfl (ownsRow_ext hown x3) ⟨m, 0, none⟩ 1 1 _ rfl rfl (one_news hcell) ?h1 ?h2 ?h3 (hx.trans x3).size ?_
        case h1 => intro u hu; rw [List.mem_singleton] at hu; subst hu; rfl
        case h2 => unfold maxLen; omega
        case h3 => omega
        intro v' w4 hown4 hgrow _
        have x4 : Ext w w4 := (hx.trans x3).grown hgrow (ownBlock_ge hown)
        have hown5 : w4.ownsRow w.heap.size 9 1 v' (k + 1) (strs (Page.pieces t (k + 1))) := by
          rw [hp2.out, strs_append, show strs [Page.piece t k] = [.string (E ++ Z0)] from by rw [hX.out]; rfl]; exact hown4
        clear hown4 hgrow hown hcell
        go_wp2
        apply_assumption
        go_wp2
        go_roundw
        case rel => exact ⟨k + 1, _, by omega, rfl, hN.out, hown5, x4⟩
        case measure => simp only [strLen]; have := hNs.out; simp; omega
      · have hrep : ∀ w, Calls Try.prog 94 #[.string ⟨#[0]⟩, .int .i64 (32 - (R.size : Int))] w fun e w' => e = .returned (.string (str (List.replicate (32 - R.size) 0))) ∧ Ext w w' := by
          have := rep_any (32 - R.size) (by omega)
          rwa [show ((32 - R.size : Nat) : Int) = 32 - (R.size : Int) from by omega] at this
        have hX : R.extract 0 R.size ++ str (List.replicate (32 - R.size) 0) = str (Page.piece t k) := by
          apply str_inj
          rw [join_list, extract_head, list_str, list_str, hRl]
          unfold Page.piece Page.padTo
          rw [List.take_of_length_le (by rw [List.length_drop]; omega), List.take_of_length_le (by rw [List.length_drop]; omega), List.length_drop, hRs]
        have hN : ByteArray.empty = str (t.drop (32 * (k + 1))) := by
          rw [List.drop_eq_nil_of_le (by omega)]; rfl
        have hNs : ByteArray.empty.size = 0 := rfl
        have hmin : min (R.size : Int) 32 = R.size := by omega
        have hwr : IntKind.i64.wrap (32 - (R.size : Int)) = 32 - (R.size : Int) := IntWalk.i64_in _ (by omega)
        have hes : (R.extract 0 R.size).size ≤ 32 := by rw [extract_size _ _ _ (Nat.le_refl _)]; omega
        have hzs : (str (List.replicate (32 - R.size) 0)).size ≤ 32 := by rw [str_size, List.length_replicate]; omega
        generalize str (List.replicate (32 - R.size) 0) = Z0 at *
        obtain ⟨E, hE⟩ : ∃ E, R.extract 0 R.size = E := ⟨_, rfl⟩
        rw [hE] at hX hes
        have hadd : ¬ 9223372036854775807 < E.size + Z0.size := by omega
        obtain ⟨X, hXd⟩ : ∃ X, X = E ++ Z0 := ⟨_, rfl⟩
        rw [← hXd] at hX
        replace hR := Lib.hid hR; replace hRs := Lib.hid hRs; replace hRl := Lib.hid hRl; replace hX := Lib.hid hX; replace hN := Lib.hid hN; replace hp2 := Lib.hid hp2; replace hrep := Lib.hid hrep; replace hNs := Lib.hid hNs
        subst hXd
        go_wp2_with fail
        refine Soft.region_ext [(8, Soft.row 1 1 [.string (E ++ Z0)])] [0, 1, 2, 3, 4, 5, 6, 7, 8] [9, 10] (by kernel_rfl) (by kernel_rfl) (Soft.stab_one fun _ _ _ => Soft.row_stab) ?_
        repeat (refine Soft.pure_n rfl rfl rfl rfl (fun K hK => ?_); go_simp; refine hK _ ?_; clear hK K)
        (refine Soft.quiet_n rfl rfl rfl rfl (fun K hK => ?_); go_simp; apply Exists.intro; refine ⟨fun wq hq => ?_, hK _ ?_⟩; (with_reducible exact hrep.out _); clear hK K)
        repeat (refine Soft.pure_n rfl rfl rfl rfl (fun K hK => ?_); go_simp; refine hK _ ?_; clear hK K)
        refine Soft.loud_step0 rfl rfl rfl rfl (fun K hK => ?_)
        refine ⟨fun wq hq => ?_, fun u ⟨m, hu⟩ => hK _ ?_⟩
        · go_simp
          exact ⟨(Ext.refl _).alloc _, ⟨_, rfl⟩, Soft.row_new⟩
        clear hK K
        subst hu
        refine Soft.tail_forced [_, _] (by kernel_rfl) rfl (fun w3 x3 hk3 => ?_)
        have hcell := (Soft.row_cell (hk3.get 8 rfl rfl)).2 0 _ rfl
        clear hk3
        refine wpList_append_own w3 rfl (.tmp 15) (.tmp 23) 55 rfl w.heap.size 9 i0 (.string ByteArray.empty) 1 16 Try.underlying55 hi hz0 hz1 hz2 rfl (by decide) _ k _ rfl (ownsRow_ext hown x3) ⟨m, 0, none⟩ 1 1 _ rfl rfl (one_news hcell) ?h1 ?h2 ?h3 (hx.trans x3).size ?_
        case h1 => intro u hu; rw [List.mem_singleton] at hu; subst hu; rfl
        case h2 => unfold maxLen; omega
        case h3 => omega
        intro v' w4 hown4 hgrow _
        have x4 : Ext w w4 := (hx.trans x3).grown hgrow (ownBlock_ge hown)
        have hown5 : w4.ownsRow w.heap.size 9 1 v' (k + 1) (strs (Page.pieces t (k + 1))) := by
          rw [hp2.out, strs_append, show strs [Page.piece t k] = [.string (E ++ Z0)] from by rw [hX.out]; rfl]; exact hown4
        clear hown4 hgrow hown hcell
        go_wp2
        apply_assumption
        go_wp2
        go_roundw
        case rel => exact ⟨k + 1, _, by omega, rfl, hN.out, hown5, x4⟩
        case measure => simp only [strLen]; have := hNs.out; simp; omega
    · have hkd := Page.secs_done t.length k (by omega) hk
      replace hR := Lib.hid hR; replace hRs := Lib.hid hRs; replace hRl := Lib.hid hRl
      replace hkd := Lib.hid hkd
      go_wp2_with fail
      go_ret
      exact ⟨_, rfl, by rw [← hkd.out]; exact Sl.owned hown, hx⟩

end Go.Proofs.Ytehidhcpdiameaa
