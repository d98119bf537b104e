/- How the laws' arguments are opened, on: lists of texts, pairs of numbers. -/
import Derived.Test.YtehidhcpdiameaaOpen2
import Derived.Test.YtehidhcpdiameaaSlAppend
namespace Go.Proofs.Ytehidhcpdiameaa
open Go.RowKit Go.ChangeShapes Go.WideShapes Go.Deep

section
variable {H : Type} {enc : TypeId × Value → H} {w : World} {base : Nat} {held : Bool} {r : Reach} {b0 : Nat}

set_option maxRecDepth 100000 in
/-- a list of texts. -/
theorem openls {v : Value} {d : DataW H} {p : List MemPlace} (hv : Value.okWide Try.prog w r b0 55 v) (h : DataW.Trod enc Try.prog w base (fun _ => true) held 55 v d p)
    (hs : ∀ el sp, d = .slice el sp → (el.length + sp.length) * Try.prog.bytesOf 9 ≤ reachBytes) :
    ∃ l : List ByteArray, Sl w v (l.map strV) ∧ 16 * l.length ≤ 140737488351232 ∧ (∀ s ∈ l, s.size ≤ maxLen) ∧ NilOr v := by
  obtain ⟨a0, len, cap, rfl⟩ := okWide_slice Try.underlying55 hv
  obtain ⟨fuel, hf⟩ := h
  rcases open_strings Try.underlying55 Try.underlying9 cells9 hf with ⟨hcs, hx⟩ | ⟨a, len', cap', ss, hcs, _, hl, hm, hz, hx, hcell, hwz⟩
  · simp [Value.cells] at hcs
    obtain ⟨rfl, rfl, rfl⟩ := hcs
    exact ⟨[], Sl.nil w, by simp, by simp, .inl rfl⟩
  · simp [Value.cells] at hcs
    obtain ⟨rfl, rfl, rfl⟩ := hcs
    simp only [Prod.mk.injEq] at hx
    obtain ⟨rfl, rfl⟩ := hx
    simp only [if_true] at hz
    refine ⟨ss.take len, sl_of hl hm (by simp; omega) (fun i x hi => ?_), ?_, fun s hs => hwz s (List.mem_of_mem_take hs), .inr ⟨_, _, _, rfl⟩⟩
    · rw [List.getElem?_map, List.getElem?_take] at hi
      split at hi
      · have hlt : i < ss.length := by omega
        rw [List.getElem?_eq_getElem hlt, Option.map_some, Option.some.injEq] at hi
        subst hi
        have := hcell i hlt
        rw [this]
        simp [strV, List.getElem?_eq_getElem hlt]
      · cases hi
    · have := hs _ _ rfl
      rw [bytes9] at this
      simp only [strs, List.length_map, List.length_take, List.length_drop] at this ⊢
      unfold reachBytes at this
      omega

theorem cells63 : Try.prog.cellsOf 63 = 2 := by kernel_rfl
set_option maxRecDepth 100000 in
/-- a pair of numbers. -/
theorem openi2 {v : Value} {d : DataW H} {p : List MemPlace} (hv : Value.okWide Try.prog w r b0 63 v) (h : DataW.Trod enc Try.prog w base (fun _ => true) held 63 v d p) :
    ∃ x : Int × Int, v = .agg #[.int .i64 x.1, .int .i64 x.2] ∧ (-9223372036854775808 ≤ x.1 ∧ x.1 ≤ 9223372036854775807) ∧ (-9223372036854775808 ≤ x.2 ∧ x.2 ≤ 9223372036854775807) := by
  obtain ⟨cs, rfl, hsz, _⟩ : ∃ cs, v = .agg cs ∧ cs.size = Try.prog.cellsOf 63 ∧ Row.okWide Try.prog w r b0 63 cs := by
    simpa [Value.okWide, Try.underlying63] using hv
  rw [cells63] at hsz
  obtain ⟨l⟩ := cs
  obtain ⟨fuel, hf⟩ := h
  obtain ⟨xs, m, _, _, _, hxs, hel⟩ := DataW.trod_array Try.underlying63 hf
  match l, hsz with
  | [c0, c1], _ =>
    match xs, hxs with
    | [y0, y1], _ =>
      have h0 := hel 0 (by decide)
      have h1 := hel 1 (by decide)
      rw [cells3] at h0 h1
      obtain ⟨x0, rfl, w0⟩ := one_of (v := c0) (y := y0) Try.underlying3 h0
      obtain ⟨x1, rfl, w1⟩ := one_of (v := c1) (y := y1) Try.underlying3 h1
      exact ⟨(x0, x1), rfl, bounds_i64 w0, bounds_i64 w1⟩

end
end Go.Proofs.Ytehidhcpdiameaa
