/- A row of bytes that is being turned, byte by byte. -/
import Derived.Test.YtehidhcpdiameaaCrcTurn
import Derived.Test.YtehidhcpdiameaaPageTornMath
namespace Go.Proofs.Ytehidhcpdiameaa
open Go.RowKit
namespace Sup

/-- four bytes that lie boxed. -/
def Box4 (n : Nat) (b0 b1 b2 b3 : UInt8) (w : World) : Prop := n < w.heap.size ∧ ∀ k, k < 4 → w.cell? ⟨n, k, none⟩ = some (byteV ([b0, b1, b2, b3].getD k 0))
theorem Box4.ext {n : Nat} {b0 b1 b2 b3 : UInt8} {w w' : World} (h : Box4 n b0 b1 b2 b3 w) (x : Ext w w') : Box4 n b0 b1 b2 b3 w' :=
  ⟨Nat.lt_of_lt_of_le h.1 x.size, fun k hk => by rw [x.cell (p := ⟨n, k, none⟩) h.1]; exact h.2 k hk⟩
theorem Box4.new (w : World) (b0 b1 b2 b3 : UInt8) (T : TypeId) : Box4 w.heap.size b0 b1 b2 b3 (w.alloc (.cells #[byteV b0, byteV b1, byteV b2, byteV b3] T)) :=
  ⟨by simp, fun k hk => by
    rw [World.cell?_alloc_mark]
    match k, hk with
    | 0, _ => rfl
    | 1, _ => rfl
    | 2, _ => rfl
    | 3, _ => rfl⟩

/-- a row of bytes that is being turned. -/
structure Turned (cb : Nat) (l : List UInt8) (w : World) : Prop where
  size : cb < w.heap.size
  cell : ∀ j, j < l.length → w.cell? ⟨cb, j, none⟩ = some (byteV (l.getD j 0))
  free : ∀ j, j < l.length → w.frozen? ⟨cb, j, none⟩ = false
theorem Turned.ext {cb : Nat} {l : List UInt8} {w w' : World} (h : Turned cb l w) (x : Ext w w') : Turned cb l w' :=
  ⟨Nat.lt_of_lt_of_le h.size x.size, fun j hj => by rw [x.cell (p := ⟨cb, j, none⟩) h.size]; exact h.cell j hj, fun j hj => by rw [x.frozen (p := ⟨cb, j, none⟩) h.size]; exact h.free j hj⟩
theorem Turned.set {cb : Nat} {l : List UInt8} {w : World} (h : Turned cb l w) (k : Nat) (hk : k < l.length) (b : UInt8) : Turned cb (turn l k b) (w.setCell ⟨cb, k, none⟩ (byteV (l.getD k 0 ^^^ b))) := by
  refine ⟨by have := h.size; simpa [World.setCell] using this, fun j hj => ?_, fun j hj => ?_⟩
  · rw [turn_length] at hj
    by_cases hjk : j = k
    · subst hjk
      rw [World.cell?_setCell_same _ _ _ (h.cell j hj)]
      unfold turn
      rw [List.getD_eq_getElem?_getD (l := l.set _ _), List.getElem?_set_self hj, Option.getD_some]
    · rw [World.cell?_setCell_other _ _ _ _ (by intro e; injection e with _ e2 _; exact hjk e2.symm), h.cell j hj]
      unfold turn
      rw [List.getD_eq_getElem?_getD, List.getD_eq_getElem?_getD, List.getElem?_set_ne (Ne.symm hjk)]
  · rw [turn_length] at hj
    rw [World.frozen?_setCell]
    exact h.free j hj

theorem run_turned {cb N : Nat} {l : List UInt8} {w : World} (h : Turned cb l w) (hl : l.length = 32) : (Go.convert 33 9 (.slice (some ⟨cb, 0, none⟩) 32 N)).run Try.prog w = .ok (.string (str l)) w := by
  rw [run_convert_bytes_arg w 33 5 Try.underlying33 Try.underlying5 cb 0 32 N (l.map fun b => (b.toNat : Int)) (by simpa using hl) ?_ 9 Try.underlying9]
  · congr 2
    unfold strOfNums str
    simp [Function.comp_def]
  · intro i hi
    rw [Nat.zero_add, h.cell i (by omega)]
    have h1 : i < l.length := by omega
    rw [List.getD_eq_getElem?_getD, List.getD_eq_getElem?_getD, List.getElem?_map, List.getElem?_eq_getElem h1]
    rfl

end Sup
end Go.Proofs.Ytehidhcpdiameaa
