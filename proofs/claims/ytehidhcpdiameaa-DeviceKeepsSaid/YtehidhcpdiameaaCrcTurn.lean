/- The walks of layer 2, on: a text, one byte of it turned. -/
import Derived.Test.YtehidhcpdiameaaKit
namespace Go.Proofs.Ytehidhcpdiameaa
open Go.RowKit

/-- a text, its byte at a place turned. -/
def turn (l : List UInt8) (k : Nat) (b : UInt8) : List UInt8 := l.set k (l.getD k 0 ^^^ b)
theorem turn_length (l : List UInt8) (k : Nat) (b : UInt8) : (turn l k b).length = l.length := by simp [turn]

/-- a text as a row of bytes, in a later world. -/
theorem bytes_of (s : ByteArray) (w : World) : ∃ w1 N, (Go.convert 9 33 (.string s)).run Try.prog w = .ok (.slice (some ⟨w.heap.size, 0, none⟩) s.size N) w1 ∧ Ext w w1 ∧ w.heap.size < w1.heap.size ∧
    (∀ j (h : j < s.size), w1.cell? ⟨w.heap.size, j, none⟩ = some (byteV (s[j]'h))) ∧ (∀ j, j < s.size → w1.frozen? ⟨w.heap.size, j, none⟩ = false) := by
  have hconv := run_bytes_of_string (P := Try.prog) w 9 33 5 s Try.underlying9 Try.underlying33 Try.underlying5
  refine ⟨_, _, hconv, (Ext.refl w).drew.alloc _, by simp, fun j hj => ?_, fun j hj => ?_⟩
  · rw [show w.heap.size = w.drew.heap.size from rfl, World.cell?_alloc_mark, bytesRow_at s _ j hj]
    rfl
  · rw [show w.heap.size = w.drew.heap.size from rfl, World.frozen?_alloc_mark]
    have hM : s.size ≤ (bytesRow s (grownCap w s.size 0 5)).size := by simp [bytesRow]
    simp only [Bool.and_eq_false_iff, decide_eq_false_iff_not]
    omega

set_option maxRecDepth 100000 in
theorem turn_any (s : ByteArray) (k : Nat) (b : UInt8) (hk : k < s.size) (w : World) :
    Calls Try.prog 37 #[.string s, .int .i64 k, .int .u8 b.toNat] w fun e w' => e = .returned (.string (str (turn s.data.toList k b))) ∧ Ext w w' := by

  obtain ⟨w1, N, hconv, x1, hsz, hc, hf⟩ := bytes_of s w
  have hback : (Go.convert 33 9 (.slice (some ⟨w.heap.size, 0, none⟩) s.size N)).run Try.prog (w1.setCell ⟨w.heap.size, k, none⟩ (.int .u8 ((s[k].toNat ^^^ b.toNat : Nat) : Int))) =
      .ok (.string (str (turn s.data.toList k b))) (w1.setCell ⟨w.heap.size, k, none⟩ (.int .u8 ((s[k].toNat ^^^ b.toNat : Nat) : Int))) := by
    have hl : (turn s.data.toList k b).length = s.size := by rw [turn_length, size_list]
    rw [run_convert_bytes_arg _ 33 5 Try.underlying33 Try.underlying5 w.heap.size 0 s.size N ((turn s.data.toList k b).map fun b => (b.toNat : Int)) (by simpa using hl) ?_ 9 Try.underlying9]
    · congr 2
      unfold strOfNums str
      simp [Function.comp_def]
    · intro i hi
      rw [Nat.zero_add]
      by_cases hik : i = k
      · subst hik
        rw [World.cell?_setCell_same _ _ _ (hc i hk)]
        have he : ((turn s.data.toList i b).map fun b => (b.toNat : Int)).getD i 0 = ((s[i].toNat ^^^ b.toNat : Nat) : Int) := by
          have h1 : i < s.data.toList.length := by rw [size_list]; exact hk
          unfold turn
          rw [List.getD_eq_getElem?_getD, List.getElem?_map, List.getElem?_set_self h1, Option.map_some, Option.getD_some, UInt8.toNat_xor, List.getD_eq_getElem?_getD, List.getElem?_eq_getElem h1]
          rfl
        rw [he]
      · rw [World.cell?_setCell_other _ _ _ _ (by intro h; injection h with _ h2 _; exact hik h2.symm), hc i hi]
        have he : ((turn s.data.toList k b).map fun b => (b.toNat : Int)).getD i 0 = (s[i].toNat : Int) := by
          have h1 : i < s.data.toList.length := by rw [size_list]; exact hi
          unfold turn
          rw [List.getD_eq_getElem?_getD, List.getElem?_map, List.getElem?_set_ne (Ne.symm hik), List.getElem?_eq_getElem h1]
          rfl
        rw [he]
        rfl
  have hck := hc k hk
  unfold byteV at hck
  have hfk := hf k hk
  have hxor := u8_xor_nat s[k].toNat b.toNat s[k].toNat_lt b.toNat_lt
  clear hc hf
  replace x1 := Lib.hid x1
  go_enter Try.func37, Try.ntmps37
  go_wp2
  go_ret
  exact ⟨rfl, x1.out.below.setCell (Nat.le_refl _) _⟩

end Go.Proofs.Ytehidhcpdiameaa
