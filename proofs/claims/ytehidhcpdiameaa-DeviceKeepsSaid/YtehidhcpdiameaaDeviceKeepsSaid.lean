/-
  The statement Rows.DeviceKeepsSaid, out of the walk deviceKeeps_walk: for every input that the row lets in the law returns true, and each argument reads behind the call as before.
  Conditions: none beyond the row's own.
-/
import Derived.Test.YtehidhcpdiameaaHead
import Derived.Test.YtehidhcpdiameaaDeviceKeeps
import Derived.Test.YtehidhcpdiameaaOpen
import Derived.Test.YtehidhcpdiameaaOpen5
namespace Go.Proofs.Ytehidhcpdiameaa.deviceKeeps
open Go.ChangeShapes Go.WideShapes Go.ChangeAt Go.RowKit
open Go.ChangeMaps (open_string shut_string)

theorem own : ownKnob Try.prog.godebug = none := by kernel_rfl
theorem laidOut : laidOutB Try.prog = true := by kernel_rfl

set_option maxRecDepth 100000 in
theorem lifted (os : Os) (started : os.Started) (H : Type) (enc : TypeId × Value → H) :
    ReturnsInHanded {} Try.checked os 21 .any (Rows.deviceKeepsSpec.pre6 enc Try.prog Try.f21 Rows.deviceKeepsRow.domain false) (Rows.deviceKeepsSpec.post enc Try.prog Try.f21 false true false false) := by
  refine returnsInHanded_of_change_sized (C := Try.checked) own started (by as_aux_lemma => kernel_rfl) Try.func21
    (ChangeSpec.witness6 (enc := enc) (C := Try.checked) false ⟨#[], #[.agg #[.slice none 0 0, .slice none 0 0, .int .i64 0, .slice none 0 0, .bool false], .slice none 0 0], []⟩ 8 (by as_aux_lemma => kernel_rfl) (by as_aux_lemma => kernel_rfl) (by as_aux_lemma => kernel_rfl) (by as_aux_lemma => kernel_rfl)) ?_
  intro W base args ds gs before hval0 hW hcnd hsz0 _
  have hval : ∀ (j : Nat) t v, Try.f21.params[j]? = some t → args[j]? = some v → Value.okWide Try.prog W .any base t v := hval0
  have hsz : (DataW.weightsEach Try.prog (Try.f21.params.toList ++ Rows.deviceKeepsSpec.plain.varTypes Try.prog) (ds ++ gs)).all (· ≤ reachBytes) = true := hsz0
  have hW' := hW
  obtain ⟨p, q, hA0, hV, rfl, hfz, hnd⟩ := hW
  have hA : DataW.TrodAll enc Try.prog W 0 (fun _ => true) true Try.f21.params.toList args.toList ds p := hA0
  rw [Try.params21] at hA hval hsz
  obtain ⟨v0, vs0, d0, ds0, p0, q0, hargs, rfl, rfl, h0, r0⟩ := trodAll_cons hA
  obtain ⟨v1, vs1, d1, ds1, p1, q1, rfl, rfl, rfl, h1, r1⟩ := trodAll_cons r0
  obtain ⟨rfl, rfl, rfl⟩ := trodAll_nil r1
  obtain rfl : args = #[v0, v1] := by cases args; simp_all
  obtain ⟨rfl, rfl⟩ := trodVars_none hV
  have k0 := h0
  have lt0 : ∀ x ∈ p0, x.block < W.heap.size := by obtain ⟨m, hm⟩ := k0; exact DataW.trod_lt m _ _ _ hm
  have k1 := h1
  have lt1 : ∀ x ∈ p1, x.block < W.heap.size := by obtain ⟨m, hm⟩ := k1; exact DataW.trod_lt m _ _ _ hm
  obtain ⟨x0, w0⟩ := openDisk (hval 0 69 v0 rfl rfl) h0
  obtain ⟨x1, w1⟩ := openlb (hval 1 66 v1 rfl rfl) h1 (fun el sp hd => sized_slice hsz (j := 1) (t := 66) rfl (congrArg some hd) Try.underlying66)
  refine (deviceKeeps_walk W x0 v0 x1 v1 w0 w1).mono fun e W' ⟨he, bel⟩ => ?_
  subst he
  exact ⟨_, rfl, _, _, _, [], _, [], hW', trodAll_mk1 (shut_bool Try.underlying4 _), (trodAll_cons_mk (Below.trod laidOut (by as_aux_lemma => kernel_rfl) (of_decide_eq_true (by as_aux_lemma => kernel_rfl)) k0 bel lt0) (trodAll_cons_mk (Below.trod laidOut (by as_aux_lemma => kernel_rfl) (of_decide_eq_true (by as_aux_lemma => kernel_rfl)) k1 bel lt1) trodAll_mk0)), rfl, bel.below.frame _, fun h => by cases h⟩

set_option maxRecDepth 100000 in
theorem closed : joinedFacts Try.prog 21 Try.f21 Rows.deviceKeepsSpec Rows.deviceKeepsRow = true := by
  unfold joinedFacts
  repeat' (with_reducible apply band)
  all_goals first
    | (with_reducible exact enter_eq)
    | (with_reducible exact final_fits rfl)
    | (with_reducible exact make_fits rfl)
    | (as_aux_lemma => kernel_rfl)

theorem proved : Rows.DeviceKeepsSaid :=
  OpenClaim.holds_of_wide 21 Try.f21 rfl rfl rfl rfl rfl rfl rfl ⟨rfl, rfl, rfl, rfl, rfl⟩ rfl rfl rfl rfl rfl (by as_aux_lemma => kernel_rfl) Try.func21 closed
    (of_decide_eq_true (by as_aux_lemma => kernel_rfl)) (by unfold Func.isWrapper; first | (rw [if_pos (by decide +kernel)]; kernel_rfl) | (rw [if_neg (by decide +kernel)]; exact ⟨rfl, rfl⟩))
    (fun os started H enc _ => lifted os started H enc)
#print axioms proved
end Go.Proofs.Ytehidhcpdiameaa.deviceKeeps
