/- How the laws' arguments are opened, on: images' places, the turn of two sectors. -/
import Derived.Test.YtehidhcpdiameaaOpen3
namespace Go.Proofs.Ytehidhcpdiameaa
open Go.RowKit Go.ChangeShapes Go.WideShapes Go.Deep

/-- a number that fits. -/
abbrev In64 (n : Int) : Prop := -9223372036854775808 ≤ n ∧ n ≤ 9223372036854775807

section
variable {H : Type} {enc : TypeId × Value → H} {w : World} {base : Nat} {held : Bool} {r : Reach} {b0 : Nat}

theorem cells94 : Try.prog.cellsOf 94 = 3 := by kernel_rfl
theorem cells103 : Try.prog.cellsOf 103 = 6 := by kernel_rfl

set_option maxRecDepth 100000 in
/-- three numbers. -/
theorem openSuper {v : Value} {d : DataW H} {p : List MemPlace} (hv : Value.okWide Try.prog w r b0 94 v) (h : DataW.Trod enc Try.prog w base (fun _ => true) held 94 v d p) :
    ∃ x : Int × Int × Int, v = .agg #[.int .i64 x.1, .int .i64 x.2.1, .int .i64 x.2.2] ∧ In64 x.1 ∧ In64 x.2.1 ∧ In64 x.2.2 := by
  obtain ⟨v0, v1, v2, y0, y1, y2, n, rfl, _, _, h0, h1, h2⟩ := Joins.open_agg3 Try.underlying94 (by kernel_rfl) cells94 hv h
  obtain ⟨a, rfl, ha⟩ := one_of Try.underlying3 h0
  obtain ⟨b, rfl, hb⟩ := one_of Try.underlying3 h1
  obtain ⟨c, rfl, hc⟩ := one_of Try.underlying3 h2
  exact ⟨(a, b, c), rfl, bounds_i64 ha, bounds_i64 hb, bounds_i64 hc⟩

/-- two sectors, the next one, a broken one. -/
structure TurnV where
  a : ByteArray
  b : ByteArray
  next : Int × Int × Int
  broken : ByteArray
def TurnV.val (t : TurnV) : Value := .agg #[.string t.a, .string t.b, .int .i64 t.next.1, .int .i64 t.next.2.1, .int .i64 t.next.2.2, .string t.broken]

set_option maxRecDepth 100000 in
theorem openTurn {v : Value} {d : DataW H} {p : List MemPlace} (hv : Value.okWide Try.prog w r b0 103 v) (h : DataW.Trod enc Try.prog w base (fun _ => true) held 103 v d p) :
    ∃ x : TurnV, v = x.val ∧ True := by
  obtain ⟨cs, rfl, hsz⟩ := okWide_struct Try.underlying103 hv
  rw [cells103] at hsz
  obtain ⟨l⟩ := cs
  match l, hsz with
  | [c0, c1, c2, c3, c4, c5], _ =>
    obtain ⟨fuel, hf⟩ := h
    obtain ⟨xs, n, _, hx, _, hlen, hg⟩ := DataW.trod_struct Try.underlying103 hf
    match xs, hlen with
    | [y0, y1, y2, y3], _ =>
      have h0 : DataW.trod enc Try.prog w base (fun _ => true) held n 9 (([c0, c1, c2, c3, c4, c5].drop 0).take (Try.prog.cellsOf 9)) = some y0 := hg 0 _ rfl
      have h1 : DataW.trod enc Try.prog w base (fun _ => true) held n 9 (([c0, c1, c2, c3, c4, c5].drop 1).take (Try.prog.cellsOf 9)) = some y1 := hg 1 _ rfl
      have h2 : DataW.trod enc Try.prog w base (fun _ => true) held n 94 (([c0, c1, c2, c3, c4, c5].drop 2).take (Try.prog.cellsOf 94)) = some y2 := hg 2 _ rfl
      have h3 : DataW.trod enc Try.prog w base (fun _ => true) held n 9 (([c0, c1, c2, c3, c4, c5].drop 5).take (Try.prog.cellsOf 9)) = some y3 := hg 3 _ rfl
      rw [cells9] at h0 h1 h3
      rw [cells94] at h2
      obtain ⟨s0, rfl, _, _⟩ := text_of (v := c0) (y := y0) h0
      obtain ⟨s1, rfl, _, _⟩ := text_of (v := c1) (y := y1) h1
      obtain ⟨s3, rfl, _, _⟩ := text_of (v := c5) (y := y3) h3
      obtain ⟨xs2, n2, _, _, _, hlen2, hg2⟩ := DataW.trod_struct Try.underlying94 (cs := [c2, c3, c4]) (x := y2) h2
      match xs2, hlen2 with
      | [z0, z1, z2], _ =>
        have g0 : DataW.trod enc Try.prog w base (fun _ => true) held n2 3 (([c2, c3, c4].drop 0).take (Try.prog.cellsOf 3)) = some z0 := hg2 0 _ rfl
        have g1 : DataW.trod enc Try.prog w base (fun _ => true) held n2 3 (([c2, c3, c4].drop 1).take (Try.prog.cellsOf 3)) = some z1 := hg2 1 _ rfl
        have g2 : DataW.trod enc Try.prog w base (fun _ => true) held n2 3 (([c2, c3, c4].drop 2).take (Try.prog.cellsOf 3)) = some z2 := hg2 2 _ rfl
        rw [cells3] at g0 g1 g2
        obtain ⟨a, rfl, _⟩ := one_of (v := c2) (y := z0) Try.underlying3 g0
        obtain ⟨b, rfl, _⟩ := one_of (v := c3) (y := z1) Try.underlying3 g1
        obtain ⟨c, rfl, _⟩ := one_of (v := c4) (y := z2) Try.underlying3 g2
        exact ⟨⟨s0, s1, (a, b, c), s3⟩, rfl, trivial⟩

end
end Go.Proofs.Ytehidhcpdiameaa
