/- How the laws' arguments are opened, on: lists of numbers, of texts and of truths, small structs. -/
import Derived.Test.YtehidhcpdiameaaOpen
import Derived.Test.YtehidhcpdiameaaSl
import Derived.SliceStrings
import Derived.ChangeSlices
import Derived.Deep.Grids
import Derived.Deep.SlicePairs
namespace Go.Proofs.Ytehidhcpdiameaa
open Go.RowKit Go.ChangeShapes Go.WideShapes Go.Deep

theorem cell_lt {w : World} {a : Addr} {v : Value} (h : w.cell? a = some v) : a.block < w.heap.size := by
  rcases Nat.lt_or_ge a.block w.heap.size with h' | h'
  · exact h'
  · unfold World.cell? at h
    rw [Array.getElem?_eq_none h'] at h
    cases h

/-- a slice of one-cell elements out of what its cells hold. -/
theorem sl_of {w : World} {a : Addr} {len cap : Nat} {vs : List Value} (hl : len ≤ cap) (hm : cap ≤ maxLen) (hv : vs.length = len) (hc : ∀ i x, vs[i]? = some x → w.cell? (a.add i) = some x) : Sl w (.slice (some a) len cap) vs := by
  subst hv
  refine ⟨_, _, rfl, hl, by unfold maxLen at hm; omega, fun hne => ?_⟩
  obtain ⟨b, off, spot⟩ := a
  obtain ⟨x, hx⟩ : ∃ x, vs[0]? = some x := by cases vs with | nil => exact absurd rfl hne | cons x _ => exact ⟨x, rfl⟩
  have h0 := hc 0 x hx
  have hspot : spot = none := by simpa [Addr.add] using World.cell?_spot h0
  subst hspot
  exact ⟨b, off, rfl, cell_lt h0, fun i x hi => by
    have := hc i x hi
    unfold Addr.add at this
    split at this
    · rename_i h; subst h; exact this
    · exact this⟩

section
variable {H : Type} {enc : TypeId × Value → H} {w : World} {base : Nat} {held : Bool} {r : Reach} {b0 : Nat}

theorem one_of {y : DataW H × List MemPlace} {t : TypeId} {k : IntKind} {fuel : Nat} {v : Value} (ht : Try.prog.underlying t = some (.int k)) (h : DataW.trod enc Try.prog w base (fun _ => true) held fuel t [v] = some y) :
    ∃ n : Int, v = .int k n ∧ (Lit.int k n).wf = true := by
  obtain ⟨n, e, _, hw⟩ := DataW.trod_int ht h
  simp only [List.cons.injEq, and_true] at e
  exact ⟨n, e, hw⟩
theorem text_of {y : DataW H × List MemPlace} {fuel : Nat} {v : Value} (h : DataW.trod enc Try.prog w base (fun _ => true) held fuel 9 [v] = some y) :
    ∃ s : ByteArray, v = .string s ∧ s.size ≤ maxLen ∧ y.1 = .lit (.string s.data.toList) := by
  obtain ⟨s, e, hy, hw⟩ := DataW.trod_string Try.underlying9 h
  simp only [List.cons.injEq, and_true] at e
  exact ⟨s, e, hw, by rw [hy]⟩

theorem cells38 : Try.prog.cellsOf 38 = 2 := by kernel_rfl
theorem cells51 : Try.prog.cellsOf 51 = 2 := by kernel_rfl
theorem cells3 : Try.prog.cellsOf 3 = 1 := by kernel_rfl
theorem cells9 : Try.prog.cellsOf 9 = 1 := by kernel_rfl
theorem bytes3 : Try.prog.bytesOf 3 = 8 := by kernel_rfl
theorem bytes9 : Try.prog.bytesOf 9 = 16 := by kernel_rfl

set_option maxRecDepth 100000 in
/-- two numbers. -/
theorem openAt {v : Value} {d : DataW H} {p : List MemPlace} (hv : Value.okWide Try.prog w r b0 38 v) (h : DataW.Trod enc Try.prog w base (fun _ => true) held 38 v d p) :
    ∃ x : Int × Int, v = .agg #[.int .i64 x.1, .int .i64 x.2] ∧ (-9223372036854775808 ≤ x.1 ∧ x.1 ≤ 9223372036854775807) ∧ (-9223372036854775808 ≤ x.2 ∧ x.2 ≤ 9223372036854775807) := by
  obtain ⟨v0, v1, y0, y1, n, rfl, _, _, h0, h1⟩ := Joins.open_agg2 Try.underlying38 (by kernel_rfl) cells38 hv h
  obtain ⟨a, rfl, ha⟩ := one_of Try.underlying3 h0
  obtain ⟨b, rfl, hb⟩ := one_of Try.underlying3 h1
  exact ⟨(a, b), rfl, bounds_i64 ha, bounds_i64 hb⟩

set_option maxRecDepth 100000 in
/-- two texts. -/
theorem openTwo {v : Value} {d : DataW H} {p : List MemPlace} (hv : Value.okWide Try.prog w r b0 51 v) (h : DataW.Trod enc Try.prog w base (fun _ => true) held 51 v d p) :
    ∃ x : ByteArray × ByteArray, v = .agg #[.string x.1, .string x.2] ∧ x.1.size ≤ maxLen ∧ x.2.size ≤ maxLen := by
  obtain ⟨v0, v1, y0, y1, n, rfl, _, _, h0, h1⟩ := Joins.open_agg2 Try.underlying51 (by kernel_rfl) cells51 hv h
  obtain ⟨a, rfl, ha, _⟩ := text_of h0
  obtain ⟨b, rfl, hb, _⟩ := text_of h1
  exact ⟨(a, b), rfl, ha, hb⟩

set_option maxRecDepth 100000 in
/-- a list of numbers. -/
theorem openli {v : Value} {d : DataW H} {p : List MemPlace} (hv : Value.okWide Try.prog w r b0 39 v) (h : DataW.Trod enc Try.prog w base (fun _ => true) held 39 v d p)
    (hs : ∀ el sp, d = .slice el sp → (el.length + sp.length) * Try.prog.bytesOf 3 ≤ reachBytes) :
    ∃ l : List Int, Sl w v (l.map intV) ∧ 8 * l.length ≤ 140737488351232 ∧ ∀ n ∈ l, -9223372036854775808 ≤ n ∧ n ≤ 9223372036854775807 := by
  obtain ⟨a0, len, cap, rfl⟩ := okWide_slice Try.underlying39 hv
  obtain ⟨fuel, hf⟩ := h
  rcases open_ints Try.underlying39 Try.underlying3 cells3 hf with ⟨hcs, hx⟩ | ⟨a, len', cap', zs, hcs, _, hl, hm, hz, hx, hcell, hwz⟩
  · simp [Value.cells] at hcs
    obtain ⟨rfl, rfl, rfl⟩ := hcs
    exact ⟨[], Sl.nil w, by simp, by simp⟩
  · simp [Value.cells] at hcs
    obtain ⟨rfl, rfl, rfl⟩ := hcs
    simp only [Prod.mk.injEq] at hx
    obtain ⟨rfl, rfl⟩ := hx
    simp only [if_true] at hz
    refine ⟨zs.take len, sl_of hl hm (by simp; omega) (fun i x hi => ?_), ?_, fun n hn => bounds_i64 (hwz n (List.mem_of_mem_take hn))⟩
    · rw [List.getElem?_map, List.getElem?_take] at hi
      split at hi
      · have hlt : i < zs.length := by omega
        rw [List.getElem?_eq_getElem hlt, Option.map_some, Option.some.injEq] at hi
        subst hi
        have := hcell i hlt
        rw [this]
        simp [intV, List.getElem?_eq_getElem hlt]
      · cases hi
    · have := hs _ _ rfl
      rw [bytes3] at this
      simp only [lits, List.length_map, List.length_take, List.length_drop] at this ⊢
      unfold reachBytes at this
      omega

end
end Go.Proofs.Ytehidhcpdiameaa
