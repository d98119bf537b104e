/- Regions that draw their order, on: the steps where the guard is settled ahead, so that the goal does not hold the region's text. -/
import Derived.Test.YtehidhcpdiameaaSoft
namespace Go.Proofs.Ytehidhcpdiameaa
namespace Soft
section
variable {P : Program} {ops : Array Oper} {C : World → Prop} {R : World → World → Prop} {pl : List (Nat × Loud)} {T : List Nat} {Q : Exit → Act → World → Prop} {k : Nat} {rest : List Nat} {a : Act} {o : Oper}

theorem wanted_n (h : o.guard = none) (y : Nat → Option Bool) : Region.wanted o y = true := by unfold Region.wanted; rw [h]
theorem wanted_g {j : Nat} {b : Bool} (h : o.guard = some (j, b)) {y : Nat → Option Bool} (hy : y j = some b) : Region.wanted o y = true := by unfold Region.wanted; rw [h]; simp [hy]
theorem wanted_s {j : Nat} {b : Bool} (h : o.guard = some (j, b)) {y : Nat → Option Bool} (hy : y j = some (!b)) : Region.wanted o y = false := by unfold Region.wanted; rw [h]; simp [hy]

theorem pure_w (ho : ops[k]? = some o) (hp : pureKind o.op = true) (hl : pl.lookup k = none) (hw : Region.wanted o (yielded ops a.tmps) = true)
    (h : ∀ K : Act → Prop, (∀ a, walk P ops C R pl T Q rest a → K a) → ∃ v, (∀ w, (execOp a.eval o).run P w = .ok (.value v) w) ∧ K (a.put o.dst v)) :
    walk P ops C R pl T Q (k :: rest) a :=
  pure_step ho hp hl fun K hK => by rw [if_pos hw]; exact h K hK

theorem pure_n (ho : ops[k]? = some o) (hg : o.guard = none) (hp : pureKind o.op = true) (hl : pl.lookup k = none)
    (h : ∀ K : Act → Prop, (∀ a, walk P ops C R pl T Q rest a → K a) → ∃ v, (∀ w, (execOp a.eval o).run P w = .ok (.value v) w) ∧ K (a.put o.dst v)) :
    walk P ops C R pl T Q (k :: rest) a := pure_w ho hp hl (wanted_n hg _) h
theorem pure_g {j : Nat} {b : Bool} (ho : ops[k]? = some o) (hg : o.guard = some (j, b)) (hy : yielded ops a.tmps j = some b) (hp : pureKind o.op = true) (hl : pl.lookup k = none)
    (h : ∀ K : Act → Prop, (∀ a, walk P ops C R pl T Q rest a → K a) → ∃ v, (∀ w, (execOp a.eval o).run P w = .ok (.value v) w) ∧ K (a.put o.dst v)) :
    walk P ops C R pl T Q (k :: rest) a := pure_w ho hp hl (wanted_g hg hy) h

theorem quiet_w (ho : ops[k]? = some o) (hp : pureKind o.op = false) (hl : pl.lookup k = none) (hw : Region.wanted o (yielded ops a.tmps) = true)
    (h : ∀ K : Act → Prop, (∀ a, walk P ops C R pl T Q rest a → K a) → ∃ v, (∀ w, C w → quietR P R o w v ((execOp a.eval o).run P w)) ∧ K (a.put o.dst v)) :
    walk P ops C R pl T Q (k :: rest) a :=
  quiet_step0 ho hp hl fun K hK => by rw [if_pos hw]; exact h K hK
theorem quiet_n (ho : ops[k]? = some o) (hg : o.guard = none) (hp : pureKind o.op = false) (hl : pl.lookup k = none)
    (h : ∀ K : Act → Prop, (∀ a, walk P ops C R pl T Q rest a → K a) → ∃ v, (∀ w, C w → quietR P R o w v ((execOp a.eval o).run P w)) ∧ K (a.put o.dst v)) :
    walk P ops C R pl T Q (k :: rest) a := quiet_w ho hp hl (wanted_n hg _) h
theorem quiet_g {j : Nat} {b : Bool} (ho : ops[k]? = some o) (hg : o.guard = some (j, b)) (hy : yielded ops a.tmps j = some b) (hp : pureKind o.op = false) (hl : pl.lookup k = none)
    (h : ∀ K : Act → Prop, (∀ a, walk P ops C R pl T Q rest a → K a) → ∃ v, (∀ w, C w → quietR P R o w v ((execOp a.eval o).run P w)) ∧ K (a.put o.dst v)) :
    walk P ops C R pl T Q (k :: rest) a := quiet_w ho hp hl (wanted_g hg hy) h

/-- an operation that its guard shuts out. -/
theorem shut {j : Nat} {b : Bool} (ho : ops[k]? = some o) (hg : o.guard = some (j, b)) (hy : yielded ops a.tmps j = some (!b)) (hl : pl.lookup k = none)
    (h : ∀ K : Act → Prop, (∀ a, walk P ops C R pl T Q rest a → K a) → K (a.put o.dst undef)) :
    walk P ops C R pl T Q (k :: rest) a := by
  refine ⟨o, ho, ?_⟩
  rw [if_neg (by rw [wanted_s hg hy]; decide)]
  exact ⟨hl, h _ fun _ h => h⟩
/-- .. by one that was shut out itself. -/
theorem shut0 {j : Nat} {b : Bool} (ho : ops[k]? = some o) (hg : o.guard = some (j, b)) (hy : yielded ops a.tmps j = none) (hl : pl.lookup k = none)
    (h : ∀ K : Act → Prop, (∀ a, walk P ops C R pl T Q rest a → K a) → K (a.put o.dst undef)) :
    walk P ops C R pl T Q (k :: rest) a := by
  refine ⟨o, ho, ?_⟩
  rw [if_neg (by unfold Region.wanted; rw [hg]; simp [hy])]
  exact ⟨hl, h _ fun _ h => h⟩
end
end Soft
end Go.Proofs.Ytehidhcpdiameaa
