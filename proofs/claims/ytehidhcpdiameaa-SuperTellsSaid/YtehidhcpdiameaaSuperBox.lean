/- Three numbers that lie boxed and may be written. -/
import Derived.Test.YtehidhcpdiameaaSuperLay
namespace Go.Proofs.Ytehidhcpdiameaa
open Go.RowKit

/-- three cells of a block, none of them frozen. -/
structure Box3 (n : Nat) (a b c : Value) (w : World) : Prop where
  size : n < w.heap.size
  c0 : w.cell? ⟨n, 0, none⟩ = some a
  c1 : w.cell? ⟨n, 1, none⟩ = some b
  c2 : w.cell? ⟨n, 2, none⟩ = some c
  f0 : w.frozen? ⟨n, 0, none⟩ = false
  f1 : w.frozen? ⟨n, 1, none⟩ = false
  f2 : w.frozen? ⟨n, 2, none⟩ = false
theorem Box3.ext {n : Nat} {a b c : Value} {w w' : World} (h : Box3 n a b c w) (x : Ext w w') : Box3 n a b c w' :=
  ⟨Nat.lt_of_lt_of_le h.size x.size, by rw [x.cell (p := ⟨n, 0, none⟩) h.size]; exact h.c0, by rw [x.cell (p := ⟨n, 1, none⟩) h.size]; exact h.c1, by rw [x.cell (p := ⟨n, 2, none⟩) h.size]; exact h.c2,
   by rw [x.frozen (p := ⟨n, 0, none⟩) h.size]; exact h.f0, by rw [x.frozen (p := ⟨n, 1, none⟩) h.size]; exact h.f1, by rw [x.frozen (p := ⟨n, 2, none⟩) h.size]; exact h.f2⟩
theorem Box3.new (w : World) (a b c : Value) (T : TypeId) : Box3 w.heap.size a b c (w.alloc (.cells #[a, b, c] T)) :=
  ⟨by simp, by rw [World.cell?_alloc_mark]; rfl, by rw [World.cell?_alloc_mark]; rfl, by rw [World.cell?_alloc_mark]; rfl,
   by rw [World.frozen?_alloc_mark]; simp, by rw [World.frozen?_alloc_mark]; simp, by rw [World.frozen?_alloc_mark]; simp⟩

set_option maxRecDepth 100000 in
theorem superOpen_no (s : ByteArray) (w : World) (h54 : ∀ v w, Sl w v ([s].map strV) → Calls Try.prog 54 #[v] w fun e w' => e = .returned (.tuple #[.string ⟨#[]⟩, .bool false]) ∧ Ext w w') :
    Calls Try.prog 83 #[.string s] w fun e w' => e = .returned (.tuple #[.agg #[.int .i64 0, .int .i64 0, .int .i64 0], .bool false]) ∧ Ext w w' := by
  have hs1 := sl_one (w.alloc (.cells #[.int .i64 0, .int .i64 0, .int .i64 0] 94)) s 9
  rw [show (w.alloc (.cells #[.int .i64 0, .int .i64 0, .int .i64 0] 94)).heap.size = w.heap.size + 1 from by simp] at hs1
  have hbox := (Box3.new w (.int .i64 0) (.int .i64 0) (.int .i64 0) 94).ext ((Ext.refl _).alloc (.cells #[.string s] 9))
  have y0 : Ext w ((w.alloc (.cells #[.int .i64 0, .int .i64 0, .int .i64 0] 94)).alloc (.cells #[.string s] 9)) := ((Ext.refl w).alloc _).alloc _
  replace h54 := Lib.hid h54; replace hs1 := Lib.hid hs1
  go_enter Try.func83, Try.ntmps83
  go_wp2_with fail
  refine (h54.out _ _ hs1.out).mono ?_; rintro e w1 ⟨rfl, x1⟩
  obtain ⟨k0, k1, k2, k3, k4, k5, k6⟩ := hbox.ext x1
  have y1 := Lib.hid (y0.trans x1)
  clear y0 x1 hbox
  go_wp2_with fail
  refine bodyPost_ret (v := .tuple #[.agg #[.int .i64 0, .int .i64 0, .int .i64 0], .bool false]) ?_ rfl ⟨rfl, ?_⟩
  · simp [results, Try.results83, go_sem, k1, k2, k3]
  · exact ((y1.out.below.setCell (Nat.le_refl _) _).setCell (Nat.le_refl _) _).setCell (Nat.le_refl _) _
end Go.Proofs.Ytehidhcpdiameaa
