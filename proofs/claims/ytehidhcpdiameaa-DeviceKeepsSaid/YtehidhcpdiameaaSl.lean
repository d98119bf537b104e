/- Slices whose elements are one cell each: what a walk knows of one, and how that lasts. -/
import Derived.Test.YtehidhcpdiameaaKit
namespace Go.Proofs.Ytehidhcpdiameaa
open Go.RowKit

/-- a slice that holds these elements, each of them one cell. -/
def Sl (w : World) (v : Value) (vs : List Value) : Prop :=
  ∃ a c, v = .slice a vs.length c ∧ vs.length ≤ c ∧ c ≤ 9223372036854775807 ∧
    (vs ≠ [] → ∃ b o, a = some ⟨b, o, none⟩ ∧ b < w.heap.size ∧ ∀ i x, vs[i]? = some x → w.cell? ⟨b, o + i, none⟩ = some x)

theorem Sl.ext {w w' : World} {v : Value} {vs : List Value} (h : Sl w v vs) (x : Ext w w') : Sl w' v vs := by
  obtain ⟨a, c, h1, h2, h3, h4⟩ := h
  refine ⟨a, c, h1, h2, h3, fun hne => ?_⟩
  obtain ⟨b, o, h5, h6, h7⟩ := h4 hne
  exact ⟨b, o, h5, Nat.lt_of_lt_of_le h6 x.size, fun i y hy => by rw [x.cell (p := ⟨b, o + i, none⟩) h6]; exact h7 i y hy⟩

theorem Sl.nil (w : World) : Sl w (.slice none 0 0) [] := ⟨none, 0, rfl, by simp, by omega, fun h => absurd rfl h⟩

/-- what is owned is such a slice. -/
theorem Sl.owned {w : World} {base : Nat} {e : TypeId} {v : Value} {n : Nat} {vs : List Value} (h : w.ownsRow base e 1 v n vs) : Sl w v vs := by
  obtain ⟨hl, h⟩ := h
  rw [Nat.mul_one] at hl
  rcases h with ⟨rfl, rfl⟩ | ⟨g, cap, cur, rfl, _, hc, hcap, hmax, hsz, ht⟩
  · obtain rfl := List.eq_nil_of_length_eq_zero hl
    exact Sl.nil w
  · subst hl
    refine ⟨_, _, rfl, hcap, by unfold maxLen at hmax; omega, fun _ => ⟨g, 0, rfl, ?_, fun i x hx => ?_⟩⟩
    · rcases Nat.lt_or_ge g w.heap.size with hg | hg
      · exact hg
      · rw [Array.getElem?_eq_none hg] at hc; cases hc
    · have hlt : i < vs.length := (List.getElem?_eq_some_iff.1 hx).1
      have hg := congrArg (fun x => x[i]?) ht
      simp only [Nat.mul_one, hx] at hg
      rw [List.getElem?_take_of_lt (by omega)] at hg
      rw [Nat.zero_add]
      have hcell : w.cell? ⟨g, i, none⟩ = cur[i]? := by simp [World.cell?, hc]
      rw [hcell, ← Array.getElem?_toList, hg]

/-- a number, a text, a truth as a cell. -/
def intV (n : Int) : Value := .int .i64 n
def strV (s : ByteArray) : Value := .string s
def boolV (b : Bool) : Value := .bool b

theorem sl_int_at {w : World} {v : Value} {l : List Int} (h : Sl w v (l.map intV)) : ∃ a c, v = .slice a l.length c ∧ l.length ≤ c ∧ c ≤ 9223372036854775807 ∧
    ∀ k (hk : k < l.length), ∃ b o, a = some ⟨b, o, none⟩ ∧ b < w.heap.size ∧ w.cell? ⟨b, o + k, none⟩ = some (.int .i64 l[k]) := by
  obtain ⟨a, c, h1, h2, h3, h4⟩ := h
  rw [List.length_map] at h1 h2
  refine ⟨a, c, h1, h2, h3, fun k hk => ?_⟩
  obtain ⟨b, o, h5, h6, h7⟩ := h4 (by intro e; rw [List.map_eq_nil_iff] at e; subst e; simp at hk)
  exact ⟨b, o, h5, h6, h7 k _ (by rw [List.getElem?_map, List.getElem?_eq_getElem hk]; rfl)⟩

end Go.Proofs.Ytehidhcpdiameaa
