/- The walks of layer 11, on: the sectors of a text, of the reference. -/
import Derived.Test.YtehidhcpdiameaaPageLay
namespace Go.Proofs.Ytehidhcpdiameaa
open Go.RowKit

namespace Page
theorem piece_of_pad (t : List UInt8) (k : Nat) (hk : k < secs t.length) :
    ((t ++ List.replicate (32 * secs t.length - t.length) 0).drop (32 * k)).take 32 = piece t k := by
  have h1 : 32 * k < t.length := by unfold secs at hk; omega
  have h2 := secs_le t.length
  unfold piece padTo
  rw [List.drop_append_of_le_length (by omega), List.take_append, List.length_take, List.length_drop, List.take_replicate]
  congr 2
  omega
end Page

set_option maxRecDepth 100000 in
set_option maxHeartbeats 4000000 in
theorem refLay_any (s : ByteArray) (hs : s.size ≤ 1000000000) (w : World) :
    Calls Try.prog 58 #[.string s] w (Laid w (Page.lay s.data.toList)) := by
  have h49 := refText_any s (by omega)
  have hz := Page.sealed_size s
  have hts : (str (Wire.text s.data.toList)).size ≤ s.size + 6 := by
    rw [str_size]; unfold Wire.text; rw [List.length_append, size_list]; have := num_size (s.size : Int); omega
  have h36 := refSeal_any (str (Wire.text s.data.toList)) (by omega)
  rw [list_str, show Crc.seal_ (Wire.text s.data.toList) = Page.sealed s.data.toList from rfl] at h36
  have hlay : Page.lay s.data.toList = Page.pieces (Page.sealed s.data.toList) (Page.secs (Page.sealed s.data.toList).length) := rfl
  generalize Page.lay s.data.toList = L at *
  generalize str (Wire.text s.data.toList) = T at *
  generalize Page.sealed s.data.toList = t at *
  subst hlay
  have hpp := Page.piece_of_pad t
  have hsz : Page.secs t.length ≤ 1000000100 := by unfold Page.secs; omega
  have hsl := Page.secs_le t.length
  have hsl2 : 32 * Page.secs t.length ≤ t.length + 31 := by unfold Page.secs; omega
  obtain ⟨i0, hi, hz0, hz1, hz2⟩ := info_parts info9
  generalize Page.secs t.length = K at *
  replace h49 := Lib.hid h49; replace h36 := Lib.hid h36; replace hpp := Lib.hid hpp
  go_enter Try.func58, Try.ntmps58
  go_wp2_with fail
  refine (h49.out _).mono ?_; rintro e w1 ⟨rfl, x1⟩
  go_wp2_with fail
  refine (h36.out _).mono ?_; rintro e w2 ⟨rfl, x2⟩
  have y2 := x1.trans x2
  clear x1 x2
  go_wp2_with fail
  go_loopw [3] (fun sl wr => ∃ (j : Nat) (R : ByteArray), t.length + j ≤ 32 * K ∧ sl = .string R ∧ R = str (t ++ List.replicate j 0) ∧ Ext w wr) (fun sl _ => 32 * K - strLen sl)
  case atStart => exact ⟨0, str t, by omega, rfl, by simp, y2⟩
  case round =>
    obtain ⟨j, R, hj, rfl, hR, hx⟩ := hrel
    have hRs : R.size = t.length + j := by rw [hR, str_size, List.length_append, List.length_replicate]
    clear y2
    by_cases hm : R.size % 32 = 0
    · have hend : R.size = 32 * K := by omega
      have hjk : j = 32 * K - t.length := by omega
      rw [hjk] at hR
      have hmi : ((R.size : Int) % 32 == 0) = true := by simp; omega
      have hmd : (R.size : Int) % 32 = 0 := by omega
      have hRk : ∀ k, k < K → R.extract (32 * k) (32 * k + 32) = str (Page.piece t k) := fun k hk => by
        apply str_inj
        rw [extract_list, list_str, hR, list_str, show 32 * k + 32 - 32 * k = 32 from by omega]
        exact hpp.out k hk
      replace hR := Lib.hid hR; replace hRs := Lib.hid hRs; replace hjk := Lib.hid hjk; replace hRk := Lib.hid hRk; replace hend := Lib.hid hend
      go_wp2_with fail
      replace hmd := Lib.hid hmd; replace hmi := Lib.hid hmi
      obtain ⟨wo, rfl⟩ : ∃ wo : World, wo = wr := ⟨_, rfl⟩
      go_loopw [4, 5] (fun out i wr => ∃ k m : Nat, k ≤ K ∧ i = .int .i64 m ∧ m = 32 * k ∧ wr.ownsRow w.heap.size 9 1 out k (strs (Page.pieces t k)) ∧ Ext w wr) (fun _ i _ => R.size - (intOf i).toNat)
      case atStart => exact ⟨0, 0, by omega, rfl, rfl, ownsRow_made _ _ _ hx.size, hx.alloc _⟩
      case round =>
        obtain ⟨k, m, hk, rfl, hmk, hown, hxx⟩ := hrel
        by_cases hmR : m < R.size
        · have hk2 : k < K := by have := hend.out; omega
          have hml : (m : Int) + 32 ≤ R.size := by have := hend.out; omega
          have hRl : R.size ≤ 33000000000 := by have := hend.out; omega
          have hE := hRk.out k hk2
          rw [← hmk] at hE
          have hp2 := Lib.hid (Page.pieces_succ t k)
          obtain ⟨E, hEd⟩ : ∃ E, R.extract m (m + 32) = E := ⟨_, rfl⟩
          rw [hEd] at hE
          replace hE := Lib.hid hE; replace hmk := Lib.hid hmk
          go_wp2_with (at_builtin; refine wpList_append_own _ rfl _ _ 55 rfl w.heap.size 9 i0 (.string ByteArray.empty) 1 16 Try.underlying55 hi hz0 hz1 hz2 rfl (by decide) _ _ _ rfl (ownsRow_ext hown ((Ext.refl _).alloc _)) ⟨wr.heap.size, 0, none⟩ 1 1 [.string E] rfl rfl ?c1 ?c2 ?c3 ?c4 ?c5 ?_)
          case c1 => exact one_news (by rw [World.cell?_alloc_mark]; rfl)
          case c2 => intro u hu; rw [List.mem_singleton] at hu; subst hu; rfl
          case c3 => unfold maxLen; omega
          case c4 => omega
          case c5 => have := hxx.size; simp; omega
          intro v' w4 hown4 hgrow _
          have x4 : Ext w w4 := (hxx.alloc _).grown hgrow (ownBlock_ge hown)
          have hown5 : w4.ownsRow w.heap.size 9 1 v' (k + 1) (strs (Page.pieces t (k + 1))) := by
            rw [hp2.out, strs_append, show strs [Page.piece t k] = [.string E] from by rw [hE.out]; rfl]; exact hown4
          clear hown4 hgrow hown
          go_wp2
          go_roundw
          case rel => exact ⟨k + 1, m + 32, by omega, by go_num, by have := hmk.out; omega, hown5, x4⟩
          case measure => simp [intOf]; omega
        · have hkK : k = K := by have := hend.out; omega
          replace hkK := Lib.hid hkK; replace hmk := Lib.hid hmk
          go_wp2_with fail
          go_ret
          exact ⟨_, rfl, by rw [← hkK.out]; exact Sl.owned hown, hxx⟩
    · have hmi : ((R.size : Int) % 32 == 0) = false := by simp; omega
      have hmd : ¬ (R.size : Int) % 32 = 0 := by omega
      have hN : R ++ ⟨#[0]⟩ = str (t ++ List.replicate (j + 1) 0) := by
        apply str_inj
        rw [join_list, list_str, hR, list_str, List.append_assoc, List.replicate_succ']
      have hNs : (R ++ ⟨#[0]⟩).size = R.size + 1 := by rw [join_size]; rfl
      have hRl : R.size ≤ 33000000000 := by omega
      have hlt : R.size < 32 * K := by omega
      have hjl : t.length + (j + 1) ≤ 32 * K := by omega
      replace hR := Lib.hid hR; replace hRs := Lib.hid hRs; replace hN := Lib.hid hN; replace hNs := Lib.hid hNs
      go_wp2_with fail
      go_roundw
      case rel => exact ⟨j + 1, _, hjl, rfl, hN.out, hx⟩
      case measure => (try simp only [strLen]); show 32 * K - (R ++ ⟨#[0]⟩).size < 32 * K - R.size; rw [hNs.out]; omega

end Go.Proofs.Ytehidhcpdiameaa
