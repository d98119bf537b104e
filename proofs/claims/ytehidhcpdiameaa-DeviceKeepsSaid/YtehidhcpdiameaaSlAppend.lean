/- Slices whose elements are one cell each, on: a part of one; one appended to what is owned. -/
import Derived.Test.YtehidhcpdiameaaSl
import Derived.Laws.AppendOwnNone
namespace Go.Proofs.Ytehidhcpdiameaa
open Go.RowKit

/-- nil, or a slice at an address. -/
def NilOr (v : Value) : Prop := v = .slice none 0 0 ∨ ∃ a n c, v = .slice (some a) n c
theorem Sl.nilOr {w : World} {v : Value} {vs : List Value} (h : Sl w v vs) (hne : vs ≠ []) : NilOr v := by
  obtain ⟨a, c, h1, _, _, h4⟩ := h
  obtain ⟨b, o, h5, _⟩ := h4 hne
  subst h5
  exact .inr ⟨_, _, _, h1⟩

/-- the head of a slice. -/
theorem Sl.take {w : World} {a : Option Addr} {n c : Nat} {vs : List Value} (h : Sl w (.slice a n c) vs) {k : Nat} (hk : k ≤ n) : Sl w (.slice a k c) (vs.take k) := by
  obtain ⟨a', c', e, h1, h2, h3⟩ := h
  simp only [Value.slice.injEq] at e
  obtain ⟨rfl, rfl, rfl⟩ := e
  refine ⟨a, c, by rw [List.length_take, Nat.min_eq_left hk], by rw [List.length_take]; omega, h2, fun hne => ?_⟩
  obtain ⟨b, o, h5, h6, h7⟩ := h3 (fun e => hne (by rw [e]; simp))
  refine ⟨b, o, h5, h6, fun i y hi => h7 i y ?_⟩
  rw [List.getElem?_take] at hi
  split at hi
  · exact hi
  · cases hi

theorem wpList_append_sl {ops : Array Oper} {rest : List Oper} {o : Oper} {a : Act} {Q : Exit → Act → World → Prop} {w a0 : World} (hgd : o.guard = none) (s x : Operand) (t : TypeId)
    (ho : o.op = .call { callee := .builtin .append, args := #[s, x], argTypes := #[t, t] })
    (base : Nat) (e : TypeId) (i : TypeInfo) (z : Value) (bytes : Nat) (ht : Try.prog.underlying t = some (.slice e)) (hi : Try.prog.info? e = some i) (hz : i.zero = some z)
    (hsize : i.size = 1) (hby : i.bytes = bytes) (hzs : z.cells.size = 1)
    (v : Value) (n : Nat) (xs : List Value) (hs : a.eval s = v) (hown : w.ownsRow base e 1 v n xs)
    (u : Value) (vs : List Value) (hx : a.eval x = u) (hu : Sl w u vs) (hnil : NilOr u) (h1 : ∀ y ∈ vs, y.oneCell' = true)
    (h63 : n + vs.length ≤ maxLen) (hbytes : (n + vs.length) * bytes ≤ 140737488355328) (hb : a0.heap.size ≤ base) (hbase : base ≤ w.heap.size) (hx0 : Ext a0 w)
    (h : ∀ v' w', w'.ownsRow base e 1 v' (n + vs.length) (xs ++ vs) → Ext a0 w' → wpList Try.prog ops Q rest (a.put o.dst v') w') : wpList Try.prog ops Q (o :: rest) a w := by
  obtain ⟨a', c', e1, h2, h3, h4⟩ := id hu
  rcases hnil with rfl | ⟨ad, m, c, rfl⟩
  · simp only [Value.slice.injEq] at e1
    obtain ⟨_, e2, _⟩ := e1
    have : vs = [] := List.eq_nil_of_length_eq_zero e2.symm
    subst this
    refine wpList_append_own_none hgd s x t ho base e i 1 ht hi v n xs hs hown hx ?_
    have := h v w (by rw [List.append_nil]; exact hown) hx0
    exact this
  · simp only [Value.slice.injEq] at e1
    obtain ⟨rfl, rfl, rfl⟩ := e1
    refine wpList_append_own w hgd s x t ho base e i z 1 bytes ht hi hz hsize hby hzs (by decide) v n xs hs hown ad vs.length c vs hx (by omega) (fun j y hj => ?_) h1 h63 hbytes hbase (fun v' w' k1 k2 _ => h v' w' k1 (hx0.grown k2 (fun k hk => Nat.le_trans hb (ownBlock_ge hown k hk))))
    obtain ⟨b, o, h5, h6, h7⟩ := h4 (by intro e; subst e; simp at hj)
    simp only [Option.some.injEq] at h5
    subst h5
    have := h7 j y hj
    unfold Addr.add
    split
    · rename_i hj0; subst hj0; exact this
    · exact this

end Go.Proofs.Ytehidhcpdiameaa
