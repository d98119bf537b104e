/- Regions that draw their order, on: steps that lean on the loud ones ahead, guarded or not. -/
import Derived.Test.YtehidhcpdiameaaSoft3
namespace Go.Proofs.Ytehidhcpdiameaa
namespace Soft
section
variable {P : Program} {ops : Array Oper} {C : World → Prop} {R : World → World → Prop} {pl : List (Nat × Loud)} {T : List Nat} {Q : Exit → Act → World → Prop} {k : Nat} {rest : List Nat} {a : Act} {o : Oper}

theorem quiet_kw (ho : ops[k]? = some o) (hp : pureKind o.op = false) (hl : pl.lookup k = none) (hw : Region.wanted o (yielded ops a.tmps) = true)
    (h : ∀ K : Act → Prop, (∀ a, walk P ops C R pl T Q rest a → K a) → ∃ v, (∀ w, C w → known ops pl k a w → quietR P R o w v ((execOp a.eval o).run P w)) ∧ K (a.put o.dst v)) :
    walk P ops C R pl T Q (k :: rest) a :=
  quiet_step ho hp hl fun K hK => by rw [if_pos hw]; exact h K hK
theorem quiet_k (ho : ops[k]? = some o) (hg : o.guard = none) (hp : pureKind o.op = false) (hl : pl.lookup k = none)
    (h : ∀ K : Act → Prop, (∀ a, walk P ops C R pl T Q rest a → K a) → ∃ v, (∀ w, C w → known ops pl k a w → quietR P R o w v ((execOp a.eval o).run P w)) ∧ K (a.put o.dst v)) :
    walk P ops C R pl T Q (k :: rest) a := quiet_kw ho hp hl (wanted_n hg _) h
theorem quiet_gk {j : Nat} {b : Bool} (ho : ops[k]? = some o) (hg : o.guard = some (j, b)) (hy : yielded ops a.tmps j = some b) (hp : pureKind o.op = false) (hl : pl.lookup k = none)
    (h : ∀ K : Act → Prop, (∀ a, walk P ops C R pl T Q rest a → K a) → ∃ v, (∀ w, C w → known ops pl k a w → quietR P R o w v ((execOp a.eval o).run P w)) ∧ K (a.put o.dst v)) :
    walk P ops C R pl T Q (k :: rest) a := quiet_kw ho hp hl (wanted_g hg hy) h
theorem loud_g {S : Loud} {j : Nat} {b : Bool} (ho : ops[k]? = some o) (hg : o.guard = some (j, b)) (hy : yielded ops a.tmps j = some b) (hp : pureKind o.op = false) (hl : pl.lookup k = some S)
    (h : ∀ K : Act → Prop, (∀ a, walk P ops C R pl T Q rest a → K a) → (∀ w, C w → known ops pl k a w → loudR P R S o w ((execOp a.eval o).run P w)) ∧ ∀ u, S.shape u → K (a.put o.dst u)) :
    walk P ops C R pl T Q (k :: rest) a := by
  refine ⟨o, ho, ?_⟩
  rw [if_pos (wanted_g hg hy)]
  unfold softAt
  rw [if_neg (by unfold pureAt; rw [ho]; simp [hp]), show planOf pl k = some S from hl]
  exact h _ fun _ h => h
end
end Soft
end Go.Proofs.Ytehidhcpdiameaa
