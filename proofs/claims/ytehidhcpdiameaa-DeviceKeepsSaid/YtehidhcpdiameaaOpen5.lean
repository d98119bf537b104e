/- How the laws' arguments are opened, on: lists of truths, disks, writes. -/
import Derived.Test.YtehidhcpdiameaaDevLaw
import Derived.Lib.SmallJoins
import Derived.Deep.SlicePairs
import Derived.Deep.Grids
import Derived.Deep.Fields
namespace Go.Proofs.Ytehidhcpdiameaa
open Go.RowKit Go.ChangeShapes Go.WideShapes Go.Deep

/-- a slice of pairs out of what its cells hold. -/
theorem slp_of {w : World} {a : Addr} {len cap : Nat} {ps : List Dev.Put} (hl : len ≤ cap) (hm : cap ≤ maxLen) (hv : ps.length = len)
    (hc : ∀ k (hk : k < ps.length), w.cell? (a.add (k * 2)) = some (.int .i64 ps[k].1) ∧ w.cell? (a.add (k * 2 + 1)) = some (.string ps[k].2)) : SlP w (.slice (some a) len cap) ps := by
  subst hv
  refine ⟨_, _, rfl, hl, by unfold maxLen at hm; omega, fun hne => ?_⟩
  obtain ⟨b, off, spot⟩ := a
  have hpos : 0 < ps.length := by cases ps with | nil => exact absurd rfl hne | cons x _ => simp
  have h0 := (hc 0 hpos).1
  have hspot : spot = none := by simpa [Addr.add] using World.cell?_spot h0
  subst hspot
  have add : ∀ i x, w.cell? ((⟨b, off, none⟩ : Addr).add i) = some x → w.cell? ⟨b, off + i, none⟩ = some x := fun i x h => by
    unfold Addr.add at h
    split at h
    · rename_i e; subst e; exact h
    · exact h
  refine ⟨b, off, rfl, cell_lt h0, fun i x hi => ?_⟩
  have hlt : i < (putCells ps).length := (List.getElem?_eq_some_iff.1 hi).1
  rw [putCells_length] at hlt
  have hj : i / 2 < ps.length := by omega
  have hp := putCells_at ps (i / 2) hj
  obtain ⟨c1, c2⟩ := hc (i / 2) hj
  rcases Nat.mod_two_eq_zero_or_one i with hr | hr
  · rw [show i / 2 * 2 = i from by omega] at hp c1
    rw [hp.1, Option.some.injEq] at hi
    subst hi
    exact add _ _ c1
  · rw [show i / 2 * 2 + 1 = i from by omega] at hp c2
    rw [hp.2, Option.some.injEq] at hi
    subst hi
    exact add _ _ c2

theorem cells4 : Try.prog.cellsOf 4 = 1 := by kernel_rfl
theorem cells69 : Try.prog.cellsOf 69 = 5 := by kernel_rfl
theorem cells79 : Try.prog.cellsOf 79 = 4 := by kernel_rfl

section
variable {H : Type} {enc : TypeId × Value → H} {w : World} {base : Nat} {held : Bool} {r : Reach} {b0 : Nat} {y : DataW H × List MemPlace} {fuel : Nat} {c : Value}

set_option maxRecDepth 100000 in
theorem bools_of (h : DataW.trod enc Try.prog w base (fun _ => true) held fuel 66 [c] = some y) : ∃ l : List Bool, Sl w c (l.map boolV) ∧ NilOr c := by
  rcases open_bools Try.underlying66 Try.underlying4 cells4 h with ⟨hcs, _⟩ | ⟨a, len, cap, B, hcs, _, hl, hm, _, hcell⟩
  · simp only [List.cons.injEq, and_true] at hcs
    subst hcs
    exact ⟨[], Sl.nil w, .inl rfl⟩
  · simp only [List.cons.injEq, and_true] at hcs
    subst hcs
    refine ⟨(List.range len).map B, sl_of hl hm (by simp) (fun i x hi => ?_), .inr ⟨_, _, _, rfl⟩⟩
    rw [List.getElem?_map, List.getElem?_map] at hi
    rcases Nat.lt_or_ge i len with hi2 | hi2
    · rw [List.getElem?_eq_getElem (by simpa using hi2), Option.map_some, Option.map_some, Option.some.injEq] at hi
      subst hi
      rw [hcell i (by omega)]
      simp [boolV]
    · rw [List.getElem?_eq_none (by simpa using hi2)] at hi
      cases hi
set_option maxRecDepth 100000 in
theorem texts_of (h : DataW.trod enc Try.prog w base (fun _ => true) held fuel 55 [c] = some y) : ∃ l : List ByteArray, Sl w c (l.map strV) ∧ NilOr c := by
  rcases open_strings Try.underlying55 Try.underlying9 cells9 h with ⟨hcs, _⟩ | ⟨a, len, cap, ss, hcs, _, hl, hm, hz, _, hcell, _⟩
  · simp only [List.cons.injEq, and_true] at hcs
    subst hcs
    exact ⟨[], Sl.nil w, .inl rfl⟩
  · simp only [List.cons.injEq, and_true] at hcs
    subst hcs
    simp only [if_true] at hz
    refine ⟨ss.take len, sl_of hl hm (by simp; omega) (fun i x hi => ?_), .inr ⟨_, _, _, rfl⟩⟩
    rw [List.getElem?_map, List.getElem?_take] at hi
    split at hi
    · have hlt : i < ss.length := by omega
      rw [List.getElem?_eq_getElem hlt, Option.map_some, Option.some.injEq] at hi
      subst hi
      rw [hcell i hlt]
      simp [strV, List.getElem?_eq_getElem hlt]
    · cases hi
set_option maxRecDepth 100000 in
theorem puts_of (h : DataW.trod enc Try.prog w base (fun _ => true) held fuel 67 [c] = some y) : ∃ l : List Dev.Put, SlP w c l ∧ NilOr c := by
  rcases open_slice_pairs Try.underlying67 Try.underlying90 (by kernel_rfl) rfl rfl (by kernel_rfl) (by kernel_rfl) h with ⟨hcs, _⟩ | ⟨a, len, cap, m, n, V0, V1, D0, D1, P0, P1, hcs, _, hl, hm, hmm, _, hcell⟩
  · simp only [List.cons.injEq, and_true] at hcs
    subst hcs
    exact ⟨[], SlP.nil w, .inl rfl⟩
  · simp only [List.cons.injEq, and_true] at hcs
    subst hcs
    simp only [if_true] at hmm
    subst hmm
    obtain ⟨B, hB⟩ := choose_lt (α := Dev.Put) (n := m) (p := fun i q => w.cell? (a.add (i * 2)) = some (.int .i64 q.1) ∧ w.cell? (a.add (i * 2 + 1)) = some (.string q.2)) (fun i hi => by
      obtain ⟨c0, c1, t0, t1⟩ := hcell i hi
      obtain ⟨z, e0, _⟩ := one_of Try.underlying3 t0
      obtain ⟨s, e1, _⟩ := text_of t1
      exact ⟨(z, s), by rw [c0, e0], by rw [c1, e1]⟩)
    refine ⟨(List.range len).map B, slp_of hl hm (by simp) (fun k hk => ?_), .inr ⟨_, _, _, rfl⟩⟩
    have hk' : k < len := by simpa using hk
    have := hB k (by omega)
    simpa using this

set_option maxRecDepth 100000 in
/-- a disk. -/
theorem openDisk {v : Value} {d : DataW H} {p : List MemPlace} (hv : Value.okWide Try.prog w r b0 69 v) (h : DataW.Trod enc Try.prog w base (fun _ => true) held 69 v d p) :
    ∃ x : Dev.Disk, DiskIn w v x ∧ x.fuse ≤ 9223372036854775807 := by
  obtain ⟨cs, rfl, hsz⟩ := okWide_struct Try.underlying69 hv
  rw [cells69] at hsz
  obtain ⟨l⟩ := cs
  match l, hsz with
  | [c0, c1, c2, c3, c4], _ =>
    obtain ⟨fuel, hf⟩ := h
    obtain ⟨xs, n, _, hx, _, hlen, hg⟩ := DataW.trod_struct Try.underlying69 hf
    match xs, hlen with
    | [y0, y1, y2, y3, y4], _ =>
      have h0 : DataW.trod enc Try.prog w base (fun _ => true) held n 55 (([c0, c1, c2, c3, c4].drop 0).take (Try.prog.cellsOf 55)) = some y0 := hg 0 _ rfl
      have h1 : DataW.trod enc Try.prog w base (fun _ => true) held n 67 (([c0, c1, c2, c3, c4].drop 1).take (Try.prog.cellsOf 67)) = some y1 := hg 1 _ rfl
      have h2 : DataW.trod enc Try.prog w base (fun _ => true) held n 3 (([c0, c1, c2, c3, c4].drop 2).take (Try.prog.cellsOf 3)) = some y2 := hg 2 _ rfl
      have h3 : DataW.trod enc Try.prog w base (fun _ => true) held n 66 (([c0, c1, c2, c3, c4].drop 3).take (Try.prog.cellsOf 66)) = some y3 := hg 3 _ rfl
      have h4 : DataW.trod enc Try.prog w base (fun _ => true) held n 4 (([c0, c1, c2, c3, c4].drop 4).take (Try.prog.cellsOf 4)) = some y4 := hg 4 _ rfl
      rw [show Try.prog.cellsOf 55 = 1 from by kernel_rfl] at h0
      rw [show Try.prog.cellsOf 67 = 1 from by kernel_rfl] at h1
      rw [cells3] at h2
      rw [show Try.prog.cellsOf 66 = 1 from by kernel_rfl] at h3
      rw [cells4] at h4
      obtain ⟨kept, hk, nk⟩ := texts_of (c := c0) h0
      obtain ⟨cache, hc, nc⟩ := puts_of (c := c1) h1
      obtain ⟨f, rfl, hw⟩ := one_of (v := c2) Try.underlying3 h2
      obtain ⟨keep, hp, _⟩ := bools_of (c := c3) h3
      obtain ⟨b, e4, _⟩ := DataW.trod_bool (cs := [c4]) Try.underlying4 h4
      simp only [List.cons.injEq, and_true] at e4
      subst e4
      exact ⟨⟨kept, cache, f, keep, b⟩, ⟨c0, c1, c3, rfl, hk, hc, hp, nk, nc⟩, (bounds_i64 hw).2⟩

set_option maxRecDepth 100000 in
/-- a write. -/
theorem openPut {v : Value} {d : DataW H} {p : List MemPlace} (hv : Value.okWide Try.prog w r b0 79 v) (h : DataW.Trod enc Try.prog w base (fun _ => true) held 79 v d p) :
    ∃ x : PutIn, v = x.val ∧ x.Ok w := by
  obtain ⟨v0, v1, v2, v3, y0, y1, y2, y3, n, rfl, _, _, h0, h1, h2, h3⟩ := Joins.open_agg4 Try.underlying79 (by kernel_rfl) cells79 hv h
  obtain ⟨a, rfl, ha⟩ := one_of Try.underlying3 h0
  obtain ⟨s, rfl, _⟩ := text_of h1
  obtain ⟨f, rfl, hf⟩ := one_of Try.underlying3 h2
  obtain ⟨l, hl, _⟩ := bools_of h3
  exact ⟨⟨a, s, f, v3, l⟩, rfl, bounds_i64 ha, bounds_i64 hf, hl⟩

set_option maxRecDepth 100000 in
/-- a list of truths. -/
theorem openlb {v : Value} {d : DataW H} {p : List MemPlace} (hv : Value.okWide Try.prog w r b0 66 v) (h : DataW.Trod enc Try.prog w base (fun _ => true) held 66 v d p)
    (_hs : ∀ el sp, d = .slice el sp → (el.length + sp.length) * Try.prog.bytesOf 4 ≤ reachBytes) :
    ∃ l : List Bool, Sl w v (l.map boolV) ∧ NilOr v := by
  obtain ⟨a0, len, cap, rfl⟩ := okWide_slice Try.underlying66 hv
  obtain ⟨fuel, hf⟩ := h
  exact bools_of (c := .slice a0 len cap) hf
end
end Go.Proofs.Ytehidhcpdiameaa
