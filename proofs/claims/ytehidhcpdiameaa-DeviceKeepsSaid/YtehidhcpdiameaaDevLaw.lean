/- What the laws of layer 9 share: a row of writes, kept or not. -/
import Derived.Test.YtehidhcpdiameaaDevFixed
import Derived.Test.YtehidhcpdiameaaSoft4
import Derived.Test.YtehidhcpdiameaaDevE
import Derived.Test.YtehidhcpdiameaaDevD
import Derived.Test.YtehidhcpdiameaaDevB
import Derived.Test.YtehidhcpdiameaaOpen4
namespace Go.Proofs.Ytehidhcpdiameaa
open Go.RowKit

/-- a sector's number, what is written, a fuse, which are kept. -/
structure PutIn where
  at_ : Int
  text : ByteArray
  fuse : Int
  kv : Value
  keep : List Bool
def PutIn.val (x : PutIn) : Value := .agg #[.int .i64 x.at_, .string x.text, .int .i64 x.fuse, x.kv]
structure PutIn.Ok (x : PutIn) (w : World) : Prop where
  at_ : In64 x.at_
  fuse : In64 x.fuse
  keep : Sl w x.kv (x.keep.map boolV)

theorem Box.at4 {n : Nat} {a b c d : Value} {w : World} (h : Box n [a, b, c, d] w) : (w.cell? ⟨n, 0, none⟩ = some a ∧ w.cell? ⟨n, 1, none⟩ = some b ∧ w.cell? ⟨n, 2, none⟩ = some c ∧ w.cell? ⟨n, 3, none⟩ = some d) ∧
    w.frozen? ⟨n, 0, none⟩ = false ∧ w.frozen? ⟨n, 1, none⟩ = false ∧ w.frozen? ⟨n, 2, none⟩ = false ∧ w.frozen? ⟨n, 3, none⟩ = false :=
  ⟨⟨h.cell 0 _ rfl, h.cell 1 _ rfl, h.cell 2 _ rfl, h.cell 3 _ rfl⟩, h.free 0 (by simp), h.free 1 (by simp), h.free 2 (by simp), h.free 3 (by simp)⟩
/-- a box made one later. -/
theorem Box.new1 (w : World) (o : Obj) (vs : List Value) (T : TypeId) : Box (w.heap.size + 1) vs ((w.alloc o).alloc (.cells vs.toArray T)) := by
  have := Box.new (w.alloc o) vs T
  rwa [show (w.alloc o).heap.size = w.heap.size + 1 from by simp] at this
theorem Box.new2 (w : World) (o o2 : Obj) (vs : List Value) (T : TypeId) : Box (w.heap.size + 1 + 1) vs (((w.alloc o).alloc o2).alloc (.cells vs.toArray T)) := by
  have := Box.new ((w.alloc o).alloc o2) vs T
  rwa [show ((w.alloc o).alloc o2).heap.size = w.heap.size + 1 + 1 from by simp] at this
/-- a disk's value, written out. -/
theorem DiskIn.form3 {w : World} {v : Value} {d : Dev.Disk} (h : DiskIn w v d) : ∃ ka kc ca cc pa pc, v = .agg #[.slice ka d.kept.length kc, .slice ca d.cache.length cc, .int .i64 d.fuse, .slice pa d.keep.length pc, .bool d.dead] := by
  obtain ⟨ka, kc, ca, cc, pa, pc, e, _⟩ := h.form2
  exact ⟨ka, kc, ca, cc, pa, pc, e⟩
namespace Dev
theorem write_keep (d : Disk) (x : Int) (s : ByteArray) : (write d x s).1.keep.length ≤ d.keep.length := by
  unfold write
  split
  · exact Nat.zero_le _
  split
  · exact Nat.le_refl _
  split
  · exact Nat.le_refl _
  split
  · exact Nat.zero_le _
  · exact Nat.le_refl _
theorem write_fuse (d : Disk) (x : Int) (s : ByteArray) (h : d.fuse ≤ 9223372036854775807) : (write d x s).1.fuse ≤ 9223372036854775807 := by
  unfold write
  split
  · exact (by decide : (0 : Int) ≤ 9223372036854775807)
  split
  · exact h
  split
  · exact h
  split
  · exact (by decide : (-1 : Int) ≤ 9223372036854775807)
  · dsimp only
    split <;> omega
theorem small_keep {d : Disk} (h : small d = true) : d.keep.length ≤ 1000000 := by
  unfold small at h
  have := of_decide_eq_true h
  omega
end Dev
end Go.Proofs.Ytehidhcpdiameaa
