/- Small words that all walks of this seat share. -/
import Derived.Test.YtehidhcpdiameaaRows
import Derived.WalkKit
import Derived.Lib.Hide
import Derived.Outline
import Derived.Laws.BitsAllLaws
import Derived.WalkSpells
import Derived.WalkLawsBesides
import Derived.Deep.RegionWith
import Derived.Deep.Cut
import Derived.Deep.CutRange
import Derived.Deep.DeepCutAuto
import Derived.Deep.QuietTactic
import Derived.BigQuiet
import Derived.Laws.BytesArg
namespace Go.Proofs.Ytehidhcpdiameaa
open Go.RowKit

theorem ret_int {k : IntKind} {a b : Int} (h : a = b) : Ending.returned (.int k a) = .returned (.int k b) := by rw [h]
theorem ret_bool {a b : Bool} (h : a = b) : Ending.returned (.bool a) = .returned (.bool b) := by rw [h]
theorem ret_string {a b : ByteArray} (h : a = b) : Ending.returned (.string a) = .returned (.string b) := by rw [h]

/-- A text out of its bytes. -/
def str (l : List UInt8) : ByteArray := ⟨l.toArray⟩
theorem str_size (l : List UInt8) : (str l).size = l.length := List.size_toArray
theorem str_list (s : ByteArray) : str s.data.toList = s := by cases s; simp [str]
theorem list_str (l : List UInt8) : (str l).data.toList = l := rfl
theorem size_list (s : ByteArray) : s.data.toList.length = s.size := Array.length_toList

theorem take_snoc (s : ByteArray) (k : Nat) (h : k < s.size) : s.data.toList.take (k + 1) = s.data.toList.take k ++ [s[k]] := by
  rw [List.take_succ_eq_append_getElem (by simpa using h)]; rfl

theorem toList_str (l : List UInt8) : (str l).toList = l := ByteArray.toList_mk l
theorem toList_data (s : ByteArray) : s.toList = s.data.toList := ByteArray.toList_eq s
theorem str_inj {a b : ByteArray} (h : a.data.toList = b.data.toList) : a = b := by
  rw [← str_list a, ← str_list b, h]
theorem beq_true {a b : ByteArray} (h : a.data.toList = b.data.toList) : (a.toList == b.toList) = true := by rw [toList_data, toList_data, h]; exact beq_self_eq_true _
theorem beq_false {a b : ByteArray} (h : ¬ a.data.toList = b.data.toList) : (a.toList == b.toList) = false := by rw [toList_data, toList_data]; exact beq_eq_false_iff_ne.2 h
theorem extract_list (s : ByteArray) (a b : Nat) : (s.extract a b).data.toList = (s.data.toList.drop a).take (b - a) := by
  obtain ⟨⟨l⟩⟩ := s
  exact congrArg (fun s : ByteArray => s.data.toList) (ByteArray.extract_mk l a b)
theorem extract_head (s : ByteArray) (b : Nat) : (s.extract 0 b).data.toList = s.data.toList.take b := by rw [extract_list]; rfl

/-- the second world is the first one, with more behind. -/
def Ext (w w' : World) : Prop := Below w.heap.size w w'
theorem Ext.refl (w : World) : Ext w w := Below.refl _ _
theorem Ext.below {w w' : World} (h : Ext w w') : Below w.heap.size w w' := h
theorem Ext.mk {w w' : World} (h : Below w.heap.size w w') : Ext w w' := h
theorem Ext.size {w w' : World} (h : Ext w w') : w.heap.size ≤ w'.heap.size := Below.size h
theorem Ext.trans {a b c : World} (h : Ext a b) (k : Ext b c) : Ext a c := Below.trans h (Below.mono k (Below.size h))
theorem Ext.alloc {a w : World} (h : Ext a w) (o : Obj) : Ext a (w.alloc o) := Below.alloc h (Below.size h) o
theorem Ext.drew {a w : World} (h : Ext a w) : Ext a w.drew := Below.drew h
theorem Ext.cell {w w' : World} (h : Ext w w') {p : Addr} (hp : p.block < w.heap.size) : w'.cell? p = w.cell? p := Below.cell h hp
theorem Ext.frozen {w w' : World} (h : Ext w w') {p : Addr} (hp : p.block < w.heap.size) : w'.frozen? p = w.frozen? p := Below.frozen h hp

/-- what lay below lies there still, as the walk reads it. -/
theorem Ext.cells {w w' : World} (h : Ext w w') : ∀ b o, b < w.heap.size → w'.cell? ⟨b, o, none⟩ = w.cell? ⟨b, o, none⟩ :=
  fun b o hb => h.cell (p := ⟨b, o, none⟩) hb
theorem Ext.frozens {w w' : World} (h : Ext w w') : ∀ b o, b < w.heap.size → w'.frozen? ⟨b, o, none⟩ = w.frozen? ⟨b, o, none⟩ :=
  fun b o hb => h.frozen (p := ⟨b, o, none⟩) hb

/-- one byte as a text. -/
theorem run_one (b : UInt8) (W : World) (n : Nat) (h : W.cell? ⟨n, 0, none⟩ = some (.int .u8 b.toNat)) :
    (Go.convert 33 9 (.slice (some ⟨n, 0, none⟩) 1 1)).run Try.prog W = .ok (.string (str [b])) W := by
  rw [run_convert_bytes_arg _ 33 5 Try.underlying33 Try.underlying5 n 0 1 1 [(b.toNat : Int)] rfl ?_ 9 Try.underlying9]
  · congr 2
    unfold strOfNums str
    simp only [List.map_cons, List.map_nil, Int.toNat_natCast, UInt8.ofNat_toNat]
  · intro i hi
    obtain rfl : i = 0 := by omega
    exact h

/-- what is owned is owned in a later world. -/
theorem ownsRow_ext {w w' : World} {base : Nat} {e : TypeId} {size : Nat} {v : Value} {n : Nat} {xs : List Value} (h : w.ownsRow base e size v n xs) (x : Ext w w') : w'.ownsRow base e size v n xs := by
  obtain ⟨hl, h⟩ := h
  refine ⟨hl, ?_⟩
  rcases h with h | ⟨g, cap, cur, h1, h2, h3, h4⟩
  · exact .inl h
  · refine .inr ⟨g, cap, cur, h1, h2, ?_, h4⟩
    have hg : g < w.heap.size := by
      rcases Nat.lt_or_ge g w.heap.size with hg | hg
      · exact hg
      · rw [Array.getElem?_eq_none hg] at h3; cases h3
    rw [x.below.block g hg]
    exact h3
theorem ownBlock_ge {w : World} {base : Nat} {e : TypeId} {size : Nat} {v : Value} {n : Nat} {xs : List Value} (h : w.ownsRow base e size v n xs) : ∀ k, v.ownBlock = some k → base ≤ k := by
  intro k hk
  obtain ⟨_, h⟩ := h
  rcases h with h | ⟨g, cap, cur, h1, h2, _⟩
  · rw [h.1] at hk; cases hk
  · rw [h1] at hk
    cases hk
    exact h2

/-- a byte as a value. -/
def byteV (b : UInt8) : Value := .int .u8 b.toNat
theorem info5 : (Try.prog.info? 5).map (fun i => (i.zero, i.size, i.bytes)) = some (some (.int .u8 0), 1, 1) := by kernel_rfl

/-- bytes that are owned, as a text. -/
theorem run_owned {w : World} {base : Nat} {v : Value} {n : Nat} {l : List UInt8} (h : w.ownsRow base 5 1 v n (l.map byteV)) (hn : l.length = n) :
    (Go.convert 33 9 v).run Try.prog w = .ok (.string (str l)) w := by
  obtain ⟨hl, h⟩ := h
  rcases h with ⟨rfl, rfl⟩ | ⟨g, cap, cur, rfl, _, hc, hcap, _, hsz, ht⟩
  · obtain rfl : l = [] := List.eq_nil_of_length_eq_zero hn
    exact run_convert_bytes_nil _ 33 5 Try.underlying33 Try.underlying5 0 0 9 Try.underlying9
  · rw [run_convert_bytes_arg w 33 5 Try.underlying33 Try.underlying5 g 0 n cap (l.map fun b => (b.toNat : Int)) (by simpa using hn) ?_ 9 Try.underlying9]
    · congr 2
      unfold strOfNums str
      simp [Function.comp_def]
    · intro i hi
      have hlt : i < l.length := by omega
      have hg : cur.toList[i]? = some (byteV l[i]) := by
        have := congrArg (fun x => x[i]?) ht
        simp only [Nat.mul_one, List.getElem?_map, List.getElem?_eq_getElem hlt, Option.map_some] at this
        rw [List.getElem?_take_of_lt (by omega)] at this
        exact this
      rw [Nat.zero_add]
      have hcell : w.cell? ⟨g, i, none⟩ = cur[i]? := by simp [World.cell?, hc]
      rw [hcell, ← Array.getElem?_toList, hg]
      simp [byteV, List.getD, List.getElem?_eq_getElem hlt]

theorem heap_new (w : World) (o : Obj) : (w.alloc o).heap[w.heap.size]? = some o := by
  show (w.heap.push o)[w.heap.size]? = _
  simp
/-- an empty row that was just made is owned. -/
theorem ownsRow_fresh (w : World) (e : TypeId) (size : Nat) : (w.alloc (.cells #[] e)).ownsRow w.heap.size e size (.slice (some ⟨w.heap.size, 0, none⟩) 0 0) 0 [] :=
  ⟨by simp, .inr ⟨w.heap.size, 0, #[], rfl, Nat.le_refl _, heap_new _ _, by omega, by unfold maxLen; omega, by simp, by simp⟩⟩
theorem one_news {w : World} {m : Nat} {u : Value} (h : w.cell? ⟨m, 0, none⟩ = some u) : ∀ j v, [u][j]? = some v → w.cell? ((⟨m, 0, none⟩ : Addr).add j) = some v := by
  intro j v hj
  match j, hj with
  | 0, hj => simp at hj; subst hj; exact h
theorem Ext.grown {a w w' : World} {row : Option Nat} (h : Ext a w) (hg : w.grownBy w' row) (hr : ∀ k, row = some k → a.heap.size ≤ k) : Ext a w' := Below.grown h hg h.size hr

end Go.Proofs.Ytehidhcpdiameaa
