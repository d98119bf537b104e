/- How the laws' arguments are opened: what is known of each, of what lies in memory. -/
import Derived.Test.YtehidhcpdiameaaKit
import Derived.ProofKit
import Derived.OpenShut
import Derived.ShutString
import Derived.ChangeOld
import Derived.SizedLaws
import Derived.JoinedOf
import Derived.Lib.SmallJoins
import Derived.Deep.Slices
import Derived.Deep.Fields
import Derived.ChangeSame
namespace Go.Proofs.Ytehidhcpdiameaa
open Go.RowKit Go.ChangeShapes Go.WideShapes

section
variable {H : Type} {enc : TypeId × Value → H} {w : World} {base : Nat} {spare : Nat → Bool} {held : Bool} {r : Reach} {b0 : Nat}

/-- a byte that was read. -/
theorem byte_of {fuel : Nat} {c : Value} {x : DataW H × List MemPlace} (h : DataW.trod enc Try.prog w base spare held fuel 5 [c] = some x) : ∃ b : UInt8, c = byteV b := by
  obtain ⟨n, e, _, hw⟩ := DataW.trod_int Try.underlying5 h
  have hb := bounds_u8 hw
  simp only [List.cons.injEq, and_true] at e
  refine ⟨UInt8.ofNat n.toNat, ?_⟩
  rw [e]
  unfold byteV
  rw [UInt8.toNat_ofNat', Nat.mod_eq_of_lt (by omega)]
  congr 1
  omega

theorem cells5 : Try.prog.cellsOf 5 = 1 := by kernel_rfl
theorem cells30 : Try.prog.cellsOf 30 = 4 := by kernel_rfl
set_option maxRecDepth 100000 in
theorem openb4 {v : Value} {d : DataW H} {p : List MemPlace} (hv : Value.okWide Try.prog w r b0 30 v) (h : DataW.Trod enc Try.prog w base spare held 30 v d p) :
    ∃ x : UInt8 × UInt8 × UInt8 × UInt8, v = .agg #[byteV x.1, byteV x.2.1, byteV x.2.2.1, byteV x.2.2.2] ∧ True := by
  obtain ⟨cs, rfl, hsz, _⟩ : ∃ cs, v = .agg cs ∧ cs.size = Try.prog.cellsOf 30 ∧ Row.okWide Try.prog w r b0 30 cs := by
    simpa [Value.okWide, Try.underlying30] using hv
  rw [cells30] at hsz
  obtain ⟨l⟩ := cs
  obtain ⟨fuel, hf⟩ := h
  obtain ⟨xs, m, _, _, _, hxs, hel⟩ := DataW.trod_array Try.underlying30 hf
  match l, hsz with
  | [c0, c1, c2, c3], _ =>
    match xs, hxs with
    | [y0, y1, y2, y3], _ =>
      have h0 := hel 0 (by decide)
      have h1 := hel 1 (by decide)
      have h2 := hel 2 (by decide)
      have h3 := hel 3 (by decide)
      rw [cells5] at h0 h1 h2 h3
      obtain ⟨x0, rfl⟩ := byte_of (c := c0) (x := y0) h0
      obtain ⟨x1, rfl⟩ := byte_of (c := c1) (x := y1) h1
      obtain ⟨x2, rfl⟩ := byte_of (c := c2) (x := y2) h2
      obtain ⟨x3, rfl⟩ := byte_of (c := c3) (x := y3) h3
      exact ⟨(x0, x1, x2, x3), rfl, trivial⟩

end
end Go.Proofs.Ytehidhcpdiameaa
