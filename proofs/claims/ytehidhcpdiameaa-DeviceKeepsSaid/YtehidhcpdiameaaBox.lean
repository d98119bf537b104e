/- A block whose cells are known and may be written. -/
import Derived.Test.YtehidhcpdiameaaKit
namespace Go.Proofs.Ytehidhcpdiameaa
open Go.RowKit

/-- the first cells of a block, none of them frozen. -/
structure Box (n : Nat) (vs : List Value) (w : World) : Prop where
  size : n < w.heap.size
  cell : ∀ i v, vs[i]? = some v → w.cell? ⟨n, i, none⟩ = some v
  free : ∀ i, i < vs.length → w.frozen? ⟨n, i, none⟩ = false
theorem Box.ext {n : Nat} {vs : List Value} {w w' : World} (h : Box n vs w) (x : Ext w w') : Box n vs w' :=
  ⟨Nat.lt_of_lt_of_le h.size x.size, fun i v hi => by rw [x.cell (p := ⟨n, i, none⟩) h.size]; exact h.cell i v hi, fun i hi => by rw [x.frozen (p := ⟨n, i, none⟩) h.size]; exact h.free i hi⟩
/-- what is written beyond a base leaves a box below it. -/
theorem Box.below {n B : Nat} {vs : List Value} {w w' : World} (h : Box n vs w) (x : Below B w w') (hn : n < B) : Box n vs w' :=
  ⟨Nat.lt_of_lt_of_le h.size x.size, fun i v hi => by rw [x.cell (p := ⟨n, i, none⟩) hn]; exact h.cell i v hi, fun i hi => by rw [x.frozen (p := ⟨n, i, none⟩) hn]; exact h.free i hi⟩
theorem Box.new (w : World) (vs : List Value) (T : TypeId) : Box w.heap.size vs (w.alloc (.cells vs.toArray T)) :=
  ⟨by simp, fun i v hi => by rw [World.cell?_alloc_mark]; simpa using hi, fun i hi => by rw [World.frozen?_alloc_mark]; simp [hi]⟩
theorem Box.set {n : Nat} {vs : List Value} {w : World} (h : Box n vs w) (i : Nat) (v : Value) (hi : i < vs.length) : Box n (vs.set i v) (w.setCell ⟨n, i, none⟩ v) := by
  refine ⟨by simpa using h.size, fun j u hj => ?_, fun j hj => by rw [World.frozen?_setCell]; exact h.free j (by simpa using hj)⟩
  rw [List.getElem?_set] at hj
  by_cases hij : i = j
  · subst hij
    rw [if_pos rfl, if_pos hi, Option.some.injEq] at hj
    subst hj
    exact World.cell?_setCell_same w _ _ (h.cell i _ (List.getElem?_eq_getElem hi))
  · rw [if_neg hij] at hj
    rw [World.cell?_setCell_other w _ _ _ (fun e => hij (by simpa using congrArg Addr.off e))]
    exact h.cell j u hj
theorem Box.other {n m : Nat} {vs : List Value} {w : World} (h : Box n vs w) (hm : m ≠ n) (i : Nat) (v : Value) : Box n vs (w.setCell ⟨m, i, none⟩ v) :=
  ⟨by simpa using h.size, fun j u hj => by rw [World.cell?_setCell_other w _ _ _ (fun e => hm (congrArg Addr.block e))]; exact h.cell j u hj, fun j hj => by rw [World.frozen?_setCell]; exact h.free j hj⟩
theorem Box.alloc {n : Nat} {vs : List Value} {w : World} (h : Box n vs w) (o : Obj) : Box n vs (w.alloc o) := h.ext ((Ext.refl _).alloc o)
/-- a box of three. -/
theorem Box.at3 {n : Nat} {a b c : Value} {w : World} (h : Box n [a, b, c] w) : w.cell? ⟨n, 0, none⟩ = some a ∧ w.cell? ⟨n, 1, none⟩ = some b ∧ w.cell? ⟨n, 2, none⟩ = some c ∧
    w.frozen? ⟨n, 0, none⟩ = false ∧ w.frozen? ⟨n, 1, none⟩ = false ∧ w.frozen? ⟨n, 2, none⟩ = false :=
  ⟨h.cell 0 _ rfl, h.cell 1 _ rfl, h.cell 2 _ rfl, h.free 0 (by simp), h.free 1 (by simp), h.free 2 (by simp)⟩
/-- a box of five. -/
theorem Box.at5 {n : Nat} {a b c d e : Value} {w : World} (h : Box n [a, b, c, d, e] w) : (w.cell? ⟨n, 0, none⟩ = some a ∧ w.cell? ⟨n, 1, none⟩ = some b ∧ w.cell? ⟨n, 2, none⟩ = some c ∧ w.cell? ⟨n, 3, none⟩ = some d ∧ w.cell? ⟨n, 4, none⟩ = some e) ∧
    w.frozen? ⟨n, 0, none⟩ = false ∧ w.frozen? ⟨n, 1, none⟩ = false ∧ w.frozen? ⟨n, 2, none⟩ = false ∧ w.frozen? ⟨n, 3, none⟩ = false ∧ w.frozen? ⟨n, 4, none⟩ = false :=
  ⟨⟨h.cell 0 _ rfl, h.cell 1 _ rfl, h.cell 2 _ rfl, h.cell 3 _ rfl, h.cell 4 _ rfl⟩, h.free 0 (by simp), h.free 1 (by simp), h.free 2 (by simp), h.free 3 (by simp), h.free 4 (by simp)⟩
end Go.Proofs.Ytehidhcpdiameaa
