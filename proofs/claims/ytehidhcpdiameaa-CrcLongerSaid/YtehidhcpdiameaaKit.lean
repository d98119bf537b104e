/- Small words that all walks of this seat share. -/
import Derived.Test.YtehidhcpdiameaaRows
import Derived.WalkKit
import Derived.Lib.Hide
import Derived.Outline
import Derived.Laws.BitsAllLaws
import Derived.WalkSpells
import Derived.WalkLawsBesides
import Derived.Deep.RegionWith
import Derived.Deep.Cut
import Derived.Deep.CutRange
import Derived.Deep.DeepCutAuto
import Derived.Deep.QuietTactic
import Derived.BigQuiet
import Derived.Laws.BytesArg
namespace Go.Proofs.Ytehidhcpdiameaa
open Go.RowKit

theorem ret_int {k : IntKind} {a b : Int} (h : a = b) : Ending.returned (.int k a) = .returned (.int k b) := by rw [h]
theorem ret_bool {a b : Bool} (h : a = b) : Ending.returned (.bool a) = .returned (.bool b) := by rw [h]
theorem ret_string {a b : ByteArray} (h : a = b) : Ending.returned (.string a) = .returned (.string b) := by rw [h]

/-- A text out of its bytes. -/
def str (l : List UInt8) : ByteArray := ⟨l.toArray⟩
theorem str_size (l : List UInt8) : (str l).size = l.length := List.size_toArray
theorem str_list (s : ByteArray) : str s.data.toList = s := by cases s; simp [str]
theorem list_str (l : List UInt8) : (str l).data.toList = l := rfl
theorem size_list (s : ByteArray) : s.data.toList.length = s.size := Array.length_toList

theorem take_snoc (s : ByteArray) (k : Nat) (h : k < s.size) : s.data.toList.take (k + 1) = s.data.toList.take k ++ [s[k]] := by
  rw [List.take_succ_eq_append_getElem (by simpa using h)]; rfl

theorem toList_str (l : List UInt8) : (str l).toList = l := ByteArray.toList_mk l
theorem toList_data (s : ByteArray) : s.toList = s.data.toList := ByteArray.toList_eq s
theorem str_inj {a b : ByteArray} (h : a.data.toList = b.data.toList) : a = b := by
  rw [← str_list a, ← str_list b, h]
theorem beq_true {a b : ByteArray} (h : a.data.toList = b.data.toList) : (a.toList == b.toList) = true := by rw [toList_data, toList_data, h]; exact beq_self_eq_true _
theorem beq_false {a b : ByteArray} (h : ¬ a.data.toList = b.data.toList) : (a.toList == b.toList) = false := by rw [toList_data, toList_data]; exact beq_eq_false_iff_ne.2 h
theorem extract_list (s : ByteArray) (a b : Nat) : (s.extract a b).data.toList = (s.data.toList.drop a).take (b - a) := by
  obtain ⟨⟨l⟩⟩ := s
  exact congrArg (fun s : ByteArray => s.data.toList) (ByteArray.extract_mk l a b)
theorem extract_head (s : ByteArray) (b : Nat) : (s.extract 0 b).data.toList = s.data.toList.take b := by rw [extract_list]; rfl

/-- the second world is the first one, with more behind. -/
def Ext (w w' : World) : Prop := Below w.heap.size w w'
theorem Ext.refl (w : World) : Ext w w := Below.refl _ _
theorem Ext.below {w w' : World} (h : Ext w w') : Below w.heap.size w w' := h
theorem Ext.mk {w w' : World} (h : Below w.heap.size w w') : Ext w w' := h
theorem Ext.size {w w' : World} (h : Ext w w') : w.heap.size ≤ w'.heap.size := Below.size h
theorem Ext.trans {a b c : World} (h : Ext a b) (k : Ext b c) : Ext a c := Below.trans h (Below.mono k (Below.size h))
theorem Ext.alloc {a w : World} (h : Ext a w) (o : Obj) : Ext a (w.alloc o) := Below.alloc h (Below.size h) o
theorem Ext.drew {a w : World} (h : Ext a w) : Ext a w.drew := Below.drew h
theorem Ext.cell {w w' : World} (h : Ext w w') {p : Addr} (hp : p.block < w.heap.size) : w'.cell? p = w.cell? p := Below.cell h hp
theorem Ext.frozen {w w' : World} (h : Ext w w') {p : Addr} (hp : p.block < w.heap.size) : w'.frozen? p = w.frozen? p := Below.frozen h hp

/-- what lay below lies there still, as the walk reads it. -/
theorem Ext.cells {w w' : World} (h : Ext w w') : ∀ b o, b < w.heap.size → w'.cell? ⟨b, o, none⟩ = w.cell? ⟨b, o, none⟩ :=
  fun b o hb => h.cell (p := ⟨b, o, none⟩) hb
theorem Ext.frozens {w w' : World} (h : Ext w w') : ∀ b o, b < w.heap.size → w'.frozen? ⟨b, o, none⟩ = w.frozen? ⟨b, o, none⟩ :=
  fun b o hb => h.frozen (p := ⟨b, o, none⟩) hb

/-- one byte as a text. -/
theorem run_one (b : UInt8) (W : World) (n : Nat) (h : W.cell? ⟨n, 0, none⟩ = some (.int .u8 b.toNat)) :
    (Go.convert 33 9 (.slice (some ⟨n, 0, none⟩) 1 1)).run Try.prog W = .ok (.string (str [b])) W := by
  rw [run_convert_bytes_arg _ 33 5 Try.underlying33 Try.underlying5 n 0 1 1 [(b.toNat : Int)] rfl ?_ 9 Try.underlying9]
  · congr 2
    unfold strOfNums str
    simp only [List.map_cons, List.map_nil, Int.toNat_natCast, UInt8.ofNat_toNat]
  · intro i hi
    obtain rfl : i = 0 := by omega
    exact h

end Go.Proofs.Ytehidhcpdiameaa
