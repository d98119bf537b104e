/- A region that draws its order, walked once, in an order of our choice, where its operations make memory but write nothing that was there: an operation is pure (one value, whatever the world), quiet (one value in every world of the class), or loud (some value of which a fact holds that lasts). What is left at the end (a tail, stores mostly) is walked in every order that is open. -/
import Derived.Test.YtehidhcpdiameaaKit
import Derived.Orders
namespace Go.Proofs.Ytehidhcpdiameaa
namespace Soft

def isCall : Op → Bool
  | .call c => match c.callee with | .builtin _ => false | _ => true
  | _ => false

def slotOf (o : Oper) (a : Act) : Value := match o.dst with | some t => a.tmps.getD t undef | none => undef

/-- what a loud operation yields: a value of this shape (there is one), of which this holds from then on. -/
structure Loud where
  shape : Value → Prop
  fact : Value → World → Prop
  some_ : ∃ u, shape u

abbrev Plan := Nat → Option Loud

def holds (ops : Array Oper) (plan : Plan) (M : Nat → Nat) (k : Nat) (a : Act) (w : World) : Prop :=
  ∀ d o S, (M k).testBit d = true → ops[d]? = some o → plan d = some S → S.fact (slotOf o a) w

def quietR (P : Program) (R : World → World → Prop) (o : Oper) (w : World) (v : Value) : Result Next → Prop
  | .ok (.value u) w' => w' = w ∧ u = v
  | .ok .skip w' => w' = w ∧ v = undef
  | .ok (.enter f args) w' => isCall o.op = true ∧ w' = w ∧ Calls P f args w (fun e w'' => e = .returned v ∧ R w w'')
  | _ => False

def loudR (P : Program) (R : World → World → Prop) (S : Loud) (o : Oper) (w : World) : Result Next → Prop
  | .ok (.value u) w' => R w w' ∧ S.shape u ∧ S.fact u w'
  | .ok (.enter f args) w' => isCall o.op = true ∧ w' = w ∧ Calls P f args w (fun e w'' => ∃ u, e = .returned u ∧ R w w'' ∧ S.shape u ∧ S.fact u w'')
  | _ => False

def outR (P : Program) (o : Oper) (K : Value → World → Prop) : Result Next → Prop
  | .ok (.value u) w' => K u w'
  | .ok .skip w' => K undef w'
  | .ok (.enter f args) w' => isCall o.op = true ∧ Calls P f args w' (fun e w'' => ∃ u, e = .returned u ∧ K u w'')
  | _ => False

theorem outR_mono {P : Program} {o : Oper} {K K' : Value → World → Prop} (h : ∀ u w, K u w → K' u w) : ∀ r, outR P o K r → outR P o K' r := by
  intro r hr
  cases r with
  | ok n w' =>
    cases n <;> simp only [outR] at hr ⊢
    case value u => exact h _ _ hr
    case skip => exact h _ _ hr
    case enter f args => exact ⟨hr.1, hr.2.mono fun e w'' ⟨u, he, hk⟩ => ⟨u, he, h _ _ hk⟩⟩
  | halt x w' => simp only [outR] at hr

theorem outR_all {P : Program} {o : Oper} {X : Type} (x0 : X) {K : X → Value → World → Prop} (hc : isCall o.op = false) : ∀ r, (∀ x, outR P o (K x) r) → outR P o (fun u w => ∀ x, K x u w) r := by
  intro r hr
  cases r with
  | ok n w' =>
    cases n <;> simp only [outR] at hr ⊢
    case value u => exact hr
    case skip => exact hr
    case enter f args => have := (hr x0).1; rw [hc] at this; cases this
    all_goals exact hr x0
  | halt x w' => simp only [outR] at hr; exact hr x0

def out (P : Program) (ops : Array Oper) (o : Oper) (a : Act) (K : Value → World → Prop) (w : World) : Prop :=
  if Region.wanted o (yielded ops a.tmps) then outR P o K ((execOp a.eval o).run P w) else K undef w

theorem out_mono {P : Program} {ops : Array Oper} {o : Oper} {a : Act} {K K' : Value → World → Prop} {w : World} (h : ∀ u w, K u w → K' u w) (hh : out P ops o a K w) : out P ops o a K' w := by
  unfold out at *
  split
  · rename_i hw; rw [if_pos hw] at hh; exact outR_mono h _ hh
  · rename_i hw; rw [if_neg hw] at hh; exact h _ _ hh

theorem out_put {P : Program} {ops : Array Oper} {o : Oper} (hs : ∀ cs b, o.op ≠ .select cs b) {a : Act} {dst : Option Tmp} {v : Value} (h : ∀ d, dst = some d → d ∉ o.looksAt ops) {K : Value → World → Prop} {w : World} :
    out P ops o (a.put dst v) K w ↔ out P ops o a K w := by
  unfold out
  rw [execOp_put o hs a dst v h, wanted_put o a dst v h]

theorem wpOp_of_out {P : Program} {ops : Array Oper} {i : Nat} {o : Oper} (hi : ops[i]? = some o) {a : Act} {w : World} {K : Act → World → Prop} {Q : Exit → Act → World → Prop}
    (h : out P ops o a (fun u w' => K (a.put o.dst u) w') w) : wpOp P ops Q i K a w := by
  unfold wpOp
  rw [hi]
  unfold out at h
  dsimp only
  split
  · rename_i hw
    rw [if_pos hw] at h
    refine .inl ?_
    unfold Oper.wp
    generalize (execOp a.eval o).run P w = r at *
    cases r with
    | ok n w' =>
      cases n <;> simp only [outR] at h <;> simp only [Oper.upon]
      case value u => exact h
      case skip => exact h
      case enter f args => exact h.2.mono fun e w'' ⟨u, he, hk⟩ => by subst he; exact hk
    | halt x w' => simp only [outR] at h
  · rename_i hw
    rw [if_neg hw] at h
    exact h

section
variable (P : Program) (ops : Array Oper) (C : World → Prop) (R : World → World → Prop) (plan : Plan) (pures : Nat → Bool) (M : Nat → Nat)

def softAt (k : Nat) (o : Oper) (a : Act) (K : Act → Prop) : Prop :=
  if pures k then ∃ v, (∀ w, (execOp a.eval o).run P w = .ok (.value v) w) ∧ K (a.put o.dst v)
  else match plan k with
    | none => ∃ v, (∀ w, C w → holds ops plan M k a w → quietR P R o w v ((execOp a.eval o).run P w)) ∧ K (a.put o.dst v)
    | some S => (∀ w, C w → holds ops plan M k a w → loudR P R S o w ((execOp a.eval o).run P w)) ∧ ∀ u, S.shape u → K (a.put o.dst u)

def wpSoft (Q : Act → Prop) : List Nat → Act → Prop
  | [], a => Q a
  | k :: rest, a => ∃ o, ops[k]? = some o ∧ if Region.wanted o (yielded ops a.tmps) then softAt P ops C R plan pures M k o a (wpSoft Q rest)
      else plan k = none ∧ wpSoft Q rest (a.put o.dst undef)

end

section
variable {P : Program} {ops : Array Oper} {C : World → Prop} {R : World → World → Prop} {plan : Plan} {pures : Nat → Bool} {M : Nat → Nat} {Q : Act → Prop}

/-- what is asked of the plan, once for all. -/
structure Fits (ops : Array Oper) (plan : Plan) (pures : Nat → Bool) : Prop where
  sel : ∀ (j : Nat) (o : Oper) cs b, ops[j]? = some o → o.op ≠ .select cs b
  pure_none : ∀ k, pures k = true → plan k = none
  own : ∀ d S od, plan d = some S → ops[d]? = some od → ∀ j oj, ops[j]? = some oj → j ≠ d → ∀ t, oj.dst = some t → od.dst ≠ some t

theorem slotOf_put {o : Oper} {dst : Option Tmp} {a : Act} {u : Value} (h : ∀ t, dst = some t → o.dst ≠ some t) : slotOf o (a.put dst u) = slotOf o a := by
  unfold slotOf
  cases hd : o.dst with
  | none => rfl
  | some t =>
    cases dst with
    | none => rfl
    | some t' =>
      have hne : t' ≠ t := fun e => h t' rfl (by rw [hd, e])
      simp [Act.put, Array.getElem?_setIfInBounds_ne hne]

theorem holds_put (hf : Fits ops plan pures) {k i : Nat} {oi : Oper} (hi : ops[i]? = some oi) (hr : (M k).testBit i = false) {a : Act} {u : Value} {w : World} :
    holds ops plan M k (a.put oi.dst u) w ↔ holds ops plan M k a w := by
  have key : ∀ d o S, (M k).testBit d = true → ops[d]? = some o → plan d = some S → slotOf o (a.put oi.dst u) = slotOf o a := by
    intro d o S hd ho hS
    have hne : i ≠ d := fun e => by rw [e, hd] at hr; cases hr
    exact slotOf_put fun t ht => hf.own d S o hS ho i oi hi hne t ht
  constructor
  · intro h d o S hd ho hS
    have := h d o S hd ho hS
    rwa [key d o S hd ho hS] at this
  · intro h d o S hd ho hS
    rw [key d o S hd ho hS]
    exact h d o S hd ho hS

/-- what a later operation asks of an earlier one, if it comes up first. -/
structure Past (ops : Array Oper) (plan : Plan) (M : Nat → Nat) (k : Nat) (i : Nat) (oi : Oper) : Prop where
  apart : ∀ ok, ops[k]? = some ok → ok.apart ops oi = true
  no : (M k).testBit i = false
  no' : (M i).testBit k = false
  call : isCall oi.op = true → plan k = none

theorem extract (hf : Fits ops plan pures) (hR : ∀ w, R w w) {i : Nat} {oi : Oper} (hi : ops[i]? = some oi) (l2 : List Nat) : ∀ (l1 : List Nat) (a : Act) (w : World),
    wpSoft P ops C R plan pures M Q (l1 ++ i :: l2) a → C w → holds ops plan M i a w → (∀ k ∈ l1, Past ops plan M k i oi) →
    out P ops oi a (fun u w' => R w w' ∧ (∀ S, plan i = some S → S.fact u w') ∧ wpSoft P ops C R plan pures M Q (l1 ++ l2) (a.put oi.dst u)) w := by
  intro l1
  induction l1 with
  | nil =>
    intro a w h hC hh _
    obtain ⟨o, ho, h⟩ := h
    obtain rfl : o = oi := Option.some.inj (ho.symm.trans hi)
    unfold out
    split
    · rename_i hw
      rw [if_pos hw] at h
      unfold softAt at h
      by_cases hp : pures i = true
      · rw [if_pos hp] at h
        obtain ⟨v, hv, hk⟩ := h
        rw [hv w]
        refine ⟨hR w, fun S hS => ?_, hk⟩
        rw [hf.pure_none i hp] at hS
        cases hS
      · rw [if_neg hp] at h
        cases hpl : plan i with
        | none =>
          rw [hpl] at h
          obtain ⟨v, hv, hk⟩ := h
          have hq := hv w hC hh
          generalize (execOp a.eval o).run P w = r at hq ⊢
          cases r with
          | ok n w' =>
            cases n <;> simp only [quietR] at hq <;> simp only [outR]
            case value u =>
              obtain ⟨rfl, rfl⟩ := hq
              exact ⟨hR _, (fun S hS => by cases hS), hk⟩
            case skip =>
              obtain ⟨rfl, rfl⟩ := hq
              exact ⟨hR _, (fun S hS => by cases hS), hk⟩
            case enter f args =>
              obtain ⟨hc, rfl, hcall⟩ := hq
              exact ⟨hc, hcall.mono fun e w'' ⟨he, hr⟩ => ⟨v, he, hr, (fun S hS => by cases hS), hk⟩⟩
          | halt x w' => simp only [quietR] at hq
        | some S =>
          rw [hpl] at h
          obtain ⟨hv, hk⟩ := h
          have hq := hv w hC hh
          generalize (execOp a.eval o).run P w = r at hq ⊢
          cases r with
          | ok n w' =>
            cases n <;> simp only [loudR] at hq <;> simp only [outR]
            case value u => exact ⟨hq.1, (fun S' hS => by cases hS; exact hq.2.2), hk u hq.2.1⟩
            case enter f args =>
              obtain ⟨hc, rfl, hcall⟩ := hq
              exact ⟨hc, hcall.mono fun e w'' ⟨u, he, hr, hsh, hs⟩ => ⟨u, he, hr, (fun S' hS => by cases hS; exact hs), hk u hsh⟩⟩
          | halt x w' => simp only [loudR] at hq
    · rename_i hw
      rw [if_neg hw] at h
      exact ⟨hR w, (fun S hS => by rw [h.1] at hS; cases hS), h.2⟩
  | cons k l1 ih =>
    intro a w h hC hh hp
    obtain ⟨ok, hok, h⟩ := h
    have pk := hp k List.mem_cons_self
    have hp' : ∀ j ∈ l1, Past ops plan M j i oi := fun j hj => hp j (List.mem_cons_of_mem _ hj)
    obtain ⟨h1, h2, h3⟩ := Oper.apart_spec (pk.apart ok hok)
    have hsi := fun cs b => hf.sel i oi cs b hi
    have hsk := fun cs b => hf.sel k ok cs b hok
    -- putting k's value first, then i's
    have step : ∀ v, wpSoft P ops C R plan pures M Q (l1 ++ i :: l2) (a.put ok.dst v) →
        out P ops oi a (fun u w' => R w w' ∧ (∀ S, plan i = some S → S.fact u w') ∧ wpSoft P ops C R plan pures M Q (l1 ++ l2) ((a.put oi.dst u).put ok.dst v)) w := fun v hv => by
      have := ih (a.put ok.dst v) w hv hC ((holds_put hf hok pk.no').2 hh) hp'
      rw [out_put hsi h1] at this
      exact out_mono (fun u w' ⟨r1, r2, r3⟩ => ⟨r1, r2, by rw [Act.put_comm a v u h2] at r3; exact r3⟩) this
    have same : ∀ u, execOp (a.put oi.dst u).eval ok = execOp a.eval ok := fun u => execOp_put ok hsk a oi.dst u h3
    have wsame : ∀ u, Region.wanted ok (yielded ops (a.put oi.dst u).tmps) = Region.wanted ok (yielded ops a.tmps) := fun u => wanted_put ok a oi.dst u h3
    have hsame : ∀ u w, holds ops plan M k (a.put oi.dst u) w → holds ops plan M k a w := fun u w => (holds_put hf hi pk.no).1
    by_cases hw : Region.wanted ok (yielded ops a.tmps) = true
    · rw [if_pos hw] at h
      unfold softAt at h
      by_cases hpu : pures k = true
      · rw [if_pos hpu] at h
        obtain ⟨v, hv, hk⟩ := h
        refine out_mono (fun u w' ⟨r1, r2, r3⟩ => ⟨r1, r2, ok, hok, ?_⟩) (step v hk)
        rw [wsame, if_pos hw]
        unfold softAt
        rw [if_pos hpu, same]
        exact ⟨v, hv, r3⟩
      · rw [if_neg hpu] at h
        cases hpl : plan k with
        | none =>
          rw [hpl] at h
          obtain ⟨v, hv, hk⟩ := h
          refine out_mono (fun u w' ⟨r1, r2, r3⟩ => ⟨r1, r2, ok, hok, ?_⟩) (step v hk)
          rw [wsame, if_pos hw]
          unfold softAt
          rw [if_neg hpu, hpl, same]
          exact ⟨v, fun w hc hx => hv w hc (hsame u w hx), r3⟩
        | some S =>
          rw [hpl] at h
          obtain ⟨hv, hk⟩ := h
          have hnc : isCall oi.op = false := by
            cases hc : isCall oi.op with
            | false => rfl
            | true => have := pk.call hc; rw [hpl] at this; cases this
          obtain ⟨x0, hx0⟩ := S.some_
          have all : out P ops oi a (fun u w' => ∀ x : { x : Value // S.shape x }, R w w' ∧ (∀ S, plan i = some S → S.fact u w') ∧ wpSoft P ops C R plan pures M Q (l1 ++ l2) ((a.put oi.dst u).put ok.dst x.1)) w := by
            have hx := fun x : { x : Value // S.shape x } => step x.1 (hk x.1 x.2)
            unfold out at hx ⊢
            split
            · rename_i hwi
              simp only [if_pos hwi] at hx
              exact outR_all ⟨x0, hx0⟩ hnc _ hx
            · rename_i hwi
              simp only [if_neg hwi] at hx
              exact hx
          refine out_mono (fun u w' hx => ⟨(hx ⟨x0, hx0⟩).1, (hx ⟨x0, hx0⟩).2.1, ok, hok, ?_⟩) all
          rw [wsame, if_pos hw]
          unfold softAt
          rw [if_neg hpu, hpl, same]
          exact ⟨fun w hc hx' => hv w hc (hsame u w hx'), fun x hsx => (hx ⟨x, hsx⟩).2.2⟩
    · rw [if_neg hw] at h
      obtain ⟨hS, hk⟩ := h
      refine out_mono (fun u w' ⟨r1, r2, r3⟩ => ⟨r1, r2, ok, hok, ?_⟩) (step undef hk)
      rw [wsame, if_neg hw]
      exact ⟨hS, r3⟩

/-! ### every order -/

def direct (ops : Array Oper) (k d : Nat) : Prop := ∃ o, ops[k]? = some o ∧ ∃ e ∈ o.after, Region.binds .any e = true ∧ e.on = d

/-- M tells just whom an operation waits for, through others too. -/
structure Clos (ops : Array Oper) (M : Nat → Nat) : Prop where
  back : ∀ k d, direct ops k d → d < k
  incl : ∀ k d, direct ops k d → (M k).testBit d = true
  only : ∀ k d, (M k).testBit d = true → k < ops.size → direct ops k d ∨ ∃ m, direct ops k m ∧ (M m).testBit d = true

def Closed (ops : Array Oper) (listed : Array Bool) : Prop := ∀ k d, listed.getD k false = true → direct ops k d → listed.getD d false = true

theorem listed_of_reach (hM : Clos ops M) {listed : Array Bool} (hc : Closed ops listed) : ∀ (n k d : Nat), k < n → k < ops.size → (∀ m, direct ops k m → listed.getD m false = true) → (M k).testBit d = true → listed.getD d false = true := by
  intro n
  induction n with
  | zero => intro k d h; omega
  | succ n ih =>
    intro k d hk hs hd hr
    rcases hM.only k d hr hs with h | ⟨m, hm, hr'⟩
    · exact hd d h
    · have hmk := hM.back k m hm
      exact ih m d (by omega) (by omega) (fun j hj => hc m j (hd m hm) hj) hr'

/-- how two of the soft ones stand to one another: k is walked ahead of i. -/
structure Rel (ops : Array Oper) (plan : Plan) (M : Nat → Nat) (k i : Nat) : Prop where
  apart : ∀ ok oi, ops[k]? = some ok → ops[i]? = some oi → ok.apart ops oi = true ∨ direct ops i k
  no : (M k).testBit i = false
  call : ∀ oi, ops[i]? = some oi → isCall oi.op = true → plan k ≠ none → (M i).testBit k = true

structure Tail (ops : Array Oper) (plan : Plan) (pures : Nat → Bool) (M : Nat → Nat) (T : List Nat) (l : List Nat) : Prop where
  waits : ∀ t ∈ T, ∀ k ∈ l, pures k = false → (M t).testBit k = true
  no : ∀ t ∈ T, ∀ k ∈ l, ¬ direct ops k t
  apart : ∀ t ∈ T, ∀ k ∈ l, pures k = true → ∀ ok ot, ops[k]? = some ok → ops[t]? = some ot → ok.apart ops ot = true ∨ direct ops t k

def listedT (ops : Array Oper) (T : List Nat) : Array Bool := (Array.range ops.size).map fun j => !T.contains j

structure State (ops : Array Oper) (C : World → Prop) (plan : Plan) (T l : List Nat) (listed : Array Bool) (a : Act) (w : World) : Prop where
  size : listed.size = ops.size
  left : ∀ j, j < ops.size → (listed.getD j true = false ↔ j ∈ l ∨ j ∈ T)
  closed : Closed ops listed
  nodup : l.Nodup
  apart : ∀ t ∈ T, t ∉ l
  inb : ∀ k ∈ l, k < ops.size
  cls : C w
  facts : ∀ d o S, ops[d]? = some o → plan d = some S → d ∉ l → S.fact (slotOf o a) w
  room : ∀ d o S t, ops[d]? = some o → plan d = some S → o.dst = some t → t < a.tmps.size

theorem put_size (a : Act) (dst : Option Tmp) (u : Value) : (a.put dst u).tmps.size = a.tmps.size := by
  cases dst with
  | none => rfl
  | some t => simp [Act.put]

theorem slotOf_self {o : Oper} {a : Act} {u : Value} (h : ∀ t, o.dst = some t → t < a.tmps.size) (hn : o.dst ≠ none) : slotOf o (a.put o.dst u) = u := by
  unfold slotOf
  cases hd : o.dst with
  | none => exact absurd hd hn
  | some t =>
    have := h t hd
    simp [Act.put, this]

theorem getD_any {listed : Array Bool} {j : Nat} (h : j < listed.size) (x y : Bool) : listed.getD j x = listed.getD j y := by
  simp [Array.getD, h]

/-- one of the soft ones has come up. -/
theorem State.next (hf : Fits ops plan pures) (hR2 : ∀ w w', R w w' → C w → C w') (stab : ∀ d S u w w', plan d = some S → R w w' → S.fact u w → S.fact u w')
    (hdst : ∀ d o S, ops[d]? = some o → plan d = some S → o.dst ≠ none) {T l1 l2 : List Nat} {i : Nat} {oi : Oper} (hi : ops[i]? = some oi)
    {listed : Array Bool} {a : Act} {w w' : World} {u : Value} (h : State ops C plan T (l1 ++ i :: l2) listed a w) (hr : i ∈ Region.ready .any ops listed) (hw : R w w')
    (hS : ∀ S, plan i = some S → S.fact u w') : State ops C plan T (l1 ++ l2) (listed.setIfInBounds i true) (a.put oi.dst u) w' := by
  have his : i < ops.size := (Array.getElem?_eq_some_iff.1 hi).1
  have hnd := h.nodup
  have hmem : ∀ j, j ∈ l1 ++ i :: l2 ↔ j = i ∨ j ∈ l1 ++ l2 := by intro j; simp only [List.mem_append, List.mem_cons]; constructor <;> (intro h; rcases h with h | h | h <;> simp [h]) 
  have hni : i ∉ l1 ++ l2 := by
    rw [List.nodup_append] at hnd
    obtain ⟨_, h2, h3⟩ := hnd
    rw [List.nodup_cons] at h2
    simp only [List.mem_append, not_or]
    exact ⟨fun hx => h3 i hx i List.mem_cons_self rfl, h2.1⟩
  constructor
  · simp [h.size]
  · intro j hj
    by_cases hji : i = j
    · subst hji
      have hlt : i < listed.size := by rw [h.size]; exact hj
      constructor
      · intro hx; simp [hlt] at hx
      · rintro (hx | hx)
        · exact absurd hx hni
        · exact absurd ((hmem i).2 (.inl rfl)) (h.apart i hx)
    · rw [getD_set_ne true hji, h.left j hj, hmem j]
      constructor
      · rintro ((rfl | hx) | hx)
        · exact absurd rfl hji
        · exact .inl hx
        · exact .inr hx
      · rintro (hx | hx)
        · exact .inl (.inr hx)
        · exact .inr hx
  · intro k d hk hd
    by_cases hik : i = k
    · subst hik
      obtain ⟨o, ho, e, he, hb, hon⟩ := hd
      obtain ⟨_, o', ho', hall⟩ := mem_ready.1 hr
      obtain rfl : o = o' := Option.some.inj (ho.symm.trans ho')
      have := hall e he hb
      rw [hon] at this
      exact getD_set_true this
    · rw [getD_set_ne false hik] at hk
      exact getD_set_true (h.closed k d hk hd)
  · rw [List.nodup_append] at hnd ⊢
    obtain ⟨h1, h2, h3⟩ := hnd
    rw [List.nodup_cons] at h2
    exact ⟨h1, h2.2, fun x hx y hy => h3 x hx y (List.mem_cons_of_mem _ hy)⟩
  · exact fun t ht hx => h.apart t ht ((hmem t).2 (.inr hx))
  · exact fun k hk => h.inb k ((hmem k).2 (.inr hk))
  · exact hR2 w w' hw h.cls
  · intro d o S ho hp hd
    by_cases hdi : d = i
    · subst hdi
      obtain rfl : o = oi := Option.some.inj (ho.symm.trans hi)
      rw [slotOf_self (fun t ht => h.room d o S t ho hp ht) (hdst d o S ho hp)]
      exact hS S hp
    · rw [slotOf_put fun t ht => hf.own d S o hp ho i oi hi (Ne.symm hdi) t ht]
      refine stab d S _ w w' hp hw (h.facts d o S ho hp fun hx => ?_)
      rcases (hmem d).1 hx with hx | hx
      · exact hdi hx
      · exact hd hx
  · intro d o S t ho hp ht
    rw [put_size]
    exact h.room d o S t ho hp ht

def holdsAll (ops : Array Oper) (plan : Plan) (a : Act) (w : World) : Prop := ∀ d o S, ops[d]? = some o → plan d = some S → S.fact (slotOf o a) w

def Last (P : Program) (ops : Array Oper) (C : World → Prop) (plan : Plan) (T : List Nat) (Q : Exit → Act → World → Prop) (a : Act) : Prop :=
  ∀ w, C w → (∀ d o S, ops[d]? = some o → plan d = some S → S.fact (slotOf o a) w) → wpAny P .any ops Q T.length (listedT ops T) a w

theorem sim (hf : Fits ops plan pures) (hM : Clos ops M) (hR : ∀ w, R w w) (hR2 : ∀ w w', R w w' → C w → C w') (stab : ∀ d S u w w', plan d = some S → R w w' → S.fact u w → S.fact u w')
    (hdst : ∀ d o S, ops[d]? = some o → plan d = some S → o.dst ≠ none) {T : List Nat} {Q : Exit → Act → World → Prop}
    (hQ : ∀ c a d v w, Q (.panic c) (Act.put a d v) w → Q (.panic c) a w) :
    ∀ (n : Nat) (l : List Nat), l.length = n → ∀ (listed : Array Bool) (a : Act) (w : World), State ops C plan T l listed a w → l.Pairwise (Rel ops plan M) → Tail ops plan pures M T l →
      wpSoft P ops C R plan pures M (Last P ops C plan T Q) l a → wpAny P .any ops Q (n + T.length) listed a w := by
  intro n
  induction n with
  | zero =>
    intro l hl listed a w st _ _ h
    obtain rfl : l = [] := List.eq_nil_of_length_eq_zero hl
    have e : listed = listedT ops T := by
      apply Array.ext
      · simp [listedT, st.size]
      · intro j h1 h2
        have hj : j < ops.size := by rw [← st.size]; exact h1
        have := st.left j hj
        simp only [List.not_mem_nil, false_or] at this
        have g : listed.getD j true = listed[j] := by simp [Array.getD, h1]
        rw [g] at this
        simp only [listedT, Array.getElem_map, Array.getElem_range]
        cases hb : listed[j] with
        | false => rw [hb] at this; simp [this.1 rfl]
        | true =>
          rw [hb] at this
          have hx : j ∉ T := fun hx => by have := this.2 hx; cases this
          simp [hx]
    rw [Nat.zero_add, e]
    exact h w st.cls (fun d o S ho hp => st.facts d o S ho hp (by simp))
  | succ n ih =>
    intro l hl listed a w st pw tl h
    match l, hl, h with
    | k0 :: rest, hl, h =>
      have hk0 : ∃ ok, ops[k0]? = some ok := by obtain ⟨o, ho, _⟩ := h; exact ⟨o, ho⟩
      have unl : ∀ k ∈ k0 :: rest, listed.getD k false = true → False := fun k hk hx => by
        have hs := st.inb k hk
        have := (st.left k hs).2 (.inl hk)
        rw [getD_any (by rw [st.size]; exact hs) true false, hx] at this
        cases this
      have inl : ∀ j, j < ops.size → ¬ listed.getD j false = true → j ∈ k0 :: rest ∨ j ∈ T := fun j hj hx => by
        refine (st.left j hj).1 ?_
        rw [getD_any (by rw [st.size]; exact hj) true false]
        simpa using hx
      have hready : k0 ∈ Region.ready .any ops listed := by
        obtain ⟨ok, hok⟩ := hk0
        refine mem_ready.2 ⟨(st.left k0 (st.inb k0 List.mem_cons_self)).2 (.inl List.mem_cons_self), ok, hok, fun e he hb => ?_⟩
        have hd : direct ops k0 e.on := ⟨ok, hok, e, he, hb, rfl⟩
        have hlt := hM.back _ _ hd
        have hs := st.inb k0 List.mem_cons_self
        refine Classical.byContradiction fun hx => ?_
        rcases inl e.on (by omega) hx with hx | hx
        · rcases List.mem_cons.1 hx with hx | hx
          · omega
          · have := (List.pairwise_cons.1 pw).1 _ hx
            have h1 := hM.incl _ _ hd
            rw [this.no] at h1
            cases h1
        · exact tl.no _ hx k0 List.mem_cons_self hd
      have e1 : n + 1 + T.length = (n + T.length) + 1 := by omega
      by_cases hall : ∀ k ∈ k0 :: rest, pures k = true
      · obtain ⟨ok, hok, h⟩ := h
        have hp0 := hf.pure_none k0 (hall k0 List.mem_cons_self)
        have hfree : ∀ j oj, ops[j]? = some oj → j ≠ k0 → listed.getD j true = false → (∀ e ∈ oj.after, Region.binds .any e = true → e.on ≠ k0) → ok.apart ops oj = true := fun j oj hj hne hun hno => by
          have hnd : ¬ direct ops j k0 := fun ⟨o, ho, e, he, hb, hon⟩ => by
            obtain rfl : o = oj := Option.some.inj (ho.symm.trans hj)
            exact hno e he hb hon
          rcases (st.left j (Array.getElem?_eq_some_iff.1 hj).1).1 hun with hx | hx
          · rcases List.mem_cons.1 hx with hx | hx
            · exact absurd hx hne
            · exact (((List.pairwise_cons.1 pw).1 _ hx).apart ok oj hok hj).resolve_right hnd
          · exact (tl.apart j hx k0 List.mem_cons_self (hall k0 List.mem_cons_self) ok oj hok hj).resolve_right hnd
        have go : ∀ v, Yields P ops ok v a → wpSoft P ops C R plan pures M (Last P ops C plan T Q) rest (a.put ok.dst v) → wpAny P .any ops Q (n + 1 + T.length) listed a w := fun v hy hv => by
          rw [e1]
          refine wpAny_first hok hf.sel (fun c a w => hQ c a ok.dst v w) (n + T.length) listed a w hfree hready hy ?_
          have st' := State.next hf hR2 stab hdst (l1 := []) (l2 := rest) (u := v) hok st hready (hR w) (fun S hS => by rw [hp0] at hS; cases hS)
          exact ih rest (by simpa using hl) _ _ w st' (List.pairwise_cons.1 pw).2
            ⟨fun t ht k hk => tl.waits t ht k (List.mem_cons_of_mem _ hk), fun t ht k hk => tl.no t ht k (List.mem_cons_of_mem _ hk), fun t ht k hk => tl.apart t ht k (List.mem_cons_of_mem _ hk)⟩ hv
        by_cases hw : Region.wanted ok (yielded ops a.tmps) = true
        · rw [if_pos hw] at h
          unfold softAt at h
          rw [if_pos (hall k0 List.mem_cons_self)] at h
          obtain ⟨v, hv, hk⟩ := h
          exact go v (.inl ⟨hw, hv⟩) hk
        · rw [if_neg hw] at h
          exact go undef (.inr ⟨by simpa using hw, rfl⟩) h.2
      · have hheavy : ∃ k ∈ k0 :: rest, pures k = false := by
          refine Classical.byContradiction fun hx => hall fun k hk => ?_
          cases hp : pures k with
          | true => rfl
          | false => exact absurd ⟨k, hk, hp⟩ hx
        obtain ⟨kh, hkh, hph⟩ := hheavy
        rw [e1]
        refine ⟨fun h0 => (by rw [h0] at hready; cases hready), fun i hi => ?_⟩
        obtain ⟨hiu, oi, hoi, hall'⟩ := mem_ready.1 hi
        have his : i < ops.size := (Array.getElem?_eq_some_iff.1 hoi).1
        have hdi : ∀ m, direct ops i m → listed.getD m false = true := fun m ⟨o, ho, e, he, hb, hon⟩ => by
          obtain rfl : o = oi := Option.some.inj (ho.symm.trans hoi)
          rw [← hon]; exact hall' e he hb
        have hri : ∀ d, (M i).testBit d = true → listed.getD d false = true := fun d hd => listed_of_reach hM st.closed (i + 1) i d (by omega) his hdi hd
        rcases (st.left i his).1 hiu with hx | hx
        · obtain ⟨l1, l2, hl12⟩ := List.append_of_mem hx
          rw [hl12] at st pw tl h unl
          refine wpOp_of_out hoi ?_
          have hmem : ∀ k ∈ l1, k ∈ l1 ++ i :: l2 := fun k hk => List.mem_append_left _ hk
          have pw1 : ∀ k ∈ l1, Rel ops plan M k i := fun k hk => (List.pairwise_append.1 pw).2.2 k hk i List.mem_cons_self
          have hh : holds ops plan M i a w := by
            intro d o S hd ho hS
            exact st.facts d o S ho hS fun hx => unl d hx (hri d hd)
          have hp : ∀ k ∈ l1, Past ops plan M k i oi := by
            intro k hk
            have r := pw1 k hk
            have hnr : (M i).testBit k = false := by
              cases hb : (M i).testBit k with
              | false => rfl
              | true => exact (unl k (hmem k hk) (hri k hb)).elim
            exact ⟨fun ok hok => (r.apart ok oi hok hoi).resolve_right fun hd => unl k (hmem k hk) (hdi k hd), r.no, hnr,
              fun hc => Classical.byContradiction fun hp => by have := r.call oi hoi hc hp; rw [hnr] at this; cases this⟩
          refine out_mono (fun u w' hx3 => ?_) (extract hf hR hoi l2 l1 a w h st.cls hh hp)
          obtain ⟨r1, r2, r3⟩ := hx3
          have st' := State.next hf hR2 stab hdst (u := u) hoi st hi r1 r2
          have hsub : ∀ k ∈ l1 ++ l2, k ∈ l1 ++ i :: l2 := fun k hk => by
            rcases List.mem_append.1 hk with hk | hk
            · exact List.mem_append_left _ hk
            · exact List.mem_append_right _ (List.mem_cons_of_mem _ hk)
          refine ih (l1 ++ l2) ?_ _ _ w' st' (pw.sublist (List.Sublist.append_left (List.sublist_cons_self _ _) _))
            ⟨fun t ht k hk => tl.waits t ht k (hsub k hk), fun t ht k hk => tl.no t ht k (hsub k hk), fun t ht k hk => tl.apart t ht k (hsub k hk)⟩ r3
          have := congrArg List.length hl12
          simp only [List.length_append, List.length_cons] at this hl ⊢
          omega
        · exact (unl kh hkh (hri kh (tl.waits i hx kh hkh hph))).elim

end

/-! ### the checks, as one Bool -/

def pureKind : Op → Bool
  | .move _ | .assign _ | .pick .. | .extract .. | .field .. | .unOp .. | .binOp .. | .fieldAddr .. | .index .. | .indexAddr .. | .slice .. | .nilCheck _ => true
  | _ => false

def pureAt (ops : Array Oper) (k : Nat) : Bool := match ops[k]? with | some o => pureKind o.op | none => false
def mask (ops : Array Oper) (k : Nat) : Nat := (Region.before ops).getD k 0
def directs (ops : Array Oper) (k : Nat) : List Nat := match ops[k]? with | some o => (o.after.toList.filter fun e => Region.binds .any e).map (·.on) | none => []
def planOf (pl : List (Nat × Loud)) : Plan := fun d => pl.lookup d

theorem mem_directs {ops : Array Oper} {k d : Nat} : d ∈ directs ops k ↔ direct ops k d := by
  unfold directs direct
  cases h : ops[k]? with
  | none => simp
  | some o => simp [and_assoc]

def closB (ops : Array Oper) (M : Nat → Nat) : Bool :=
  (List.range ops.size).all fun k => (directs ops k).all (· < k) && (M k == (directs ops k).foldl (fun s d => s ||| 2 ^ d ||| M d) 0)

theorem testBit_fold (M : Nat → Nat) (d : Nat) : ∀ (l : List Nat) (s : Nat), (l.foldl (fun s d => s ||| 2 ^ d ||| M d) s).testBit d = true ↔ s.testBit d = true ∨ ∃ m ∈ l, m = d ∨ (M m).testBit d = true
  | [], s => by simp
  | m :: l, s => by
    rw [List.foldl_cons, testBit_fold M d l]
    simp only [Nat.testBit_or, Bool.or_eq_true, Nat.testBit_two_pow, decide_eq_true_eq, List.mem_cons, exists_eq_or_imp]
    constructor
    · rintro ((h | h) | h)
      · rcases h with h | h
        · exact .inl h
        · exact .inr (.inl (.inl h))
      · exact .inr (.inl (.inr h))
      · exact .inr (.inr h)
    · rintro (h | (h | h) | h)
      · exact .inl (.inl (.inl h))
      · exact .inl (.inl (.inr h))
      · exact .inl (.inr h)
      · exact .inr h

theorem clos_of {ops : Array Oper} {M : Nat → Nat} (h : closB ops M = true) : Clos ops M := by
  unfold closB at h
  rw [List.all_eq_true] at h
  have key : ∀ k, k < ops.size → (∀ d ∈ directs ops k, d < k) ∧ M k = (directs ops k).foldl (fun s d => s ||| 2 ^ d ||| M d) 0 := fun k hk => by
    have := h k (List.mem_range.2 hk)
    simp only [Bool.and_eq_true, List.all_eq_true, decide_eq_true_eq, beq_iff_eq] at this
    exact this
  have lt : ∀ k d, direct ops k d → k < ops.size := fun k d ⟨o, ho, _⟩ => (Array.getElem?_eq_some_iff.1 ho).1
  constructor
  · exact fun k d hd => (key k (lt k d hd)).1 d (mem_directs.2 hd)
  · intro k d hd
    rw [(key k (lt k d hd)).2, testBit_fold]
    exact .inr ⟨d, mem_directs.2 hd, .inl rfl⟩
  · intro k d hd hk
    rw [(key k hk).2, testBit_fold] at hd
    rcases hd with hd | ⟨m, hm, hd | hd⟩
    · simp at hd
    · subst hd; exact .inl (mem_directs.1 hm)
    · exact .inr ⟨m, mem_directs.1 hm, hd⟩

def relB (ops : Array Oper) (louds : List Nat) (k i : Nat) : Bool :=
  match ops[k]?, ops[i]? with
  | some ok, some oi => (ok.apart ops oi || (directs ops i).contains k) && !(mask ops k).testBit i && (!isCall oi.op || !louds.contains k || (mask ops i).testBit k)
  | _, _ => false

def pairsB (r : Nat → Nat → Bool) : List Nat → Bool
  | [] => true
  | k :: l => l.all (r k) && pairsB r l

theorem pairs_of {r : Nat → Nat → Bool} {p : Nat → Nat → Prop} (h : ∀ k i, r k i = true → p k i) : ∀ l, pairsB r l = true → l.Pairwise p
  | [], _ => List.Pairwise.nil
  | k :: l, hb => by
    simp only [pairsB, Bool.and_eq_true, List.all_eq_true] at hb
    exact List.Pairwise.cons (fun i hi => h k i (hb.1 i hi)) (pairs_of h l hb.2)

def tailB (ops : Array Oper) (L T : List Nat) : Bool :=
  T.all fun t => L.all fun k => (pureAt ops k || (mask ops t).testBit k) && !(directs ops k).contains t && (!pureAt ops k || match ops[k]?, ops[t]? with | some ok, some ot => ok.apart ops ot || (directs ops t).contains k | _, _ => false)

def loudB (ops : Array Oper) (L : List Nat) (louds : List Nat) (n : Nat) : Bool :=
  louds.all fun d => L.contains d && !pureAt ops d && match ops[d]? with
    | some o => (match o.dst with | some t => decide (t < n) && (List.range ops.size).all (fun j => j == d || match ops[j]? with | some oj => oj.dst != some t | none => true) | none => false)
    | none => false

def softB (ops : Array Oper) (L T louds : List Nat) (n : Nat) : Bool :=
  Region.noSelect ops && closB ops (mask ops) && pairsB (relB ops louds) L && tailB ops L T && loudB ops L louds n &&
  (List.range ops.size).all (fun j => L.contains j || T.contains j) && L.all (fun k => decide (k < ops.size)) && decide (L.Nodup) && T.all (fun t => !L.contains t) && L.length + T.length == ops.size

theorem lookup_mem : ∀ {pl : List (Nat × Loud)} {d : Nat} {S : Loud}, pl.lookup d = some S → d ∈ pl.map (·.1)
  | (x, s) :: pl, d, S, h => by
    rw [List.lookup_cons] at h
    by_cases hx : (d == x) = true
    · simp only [beq_iff_eq] at hx; simp [hx]
    · have hx' : (d == x) = false := by simpa using hx
      rw [hx'] at h
      exact List.mem_cons_of_mem _ (lookup_mem h)

/-- **A region that draws, walked once in the order L; what is left (T) in every order.** -/
theorem wp_region_soft {P : Program} {id : Nat} {ops : Array Oper} {Q : Exit → Act → World → Prop} {a : Act} {w : World} {C : World → Prop} {R : World → World → Prop}
    (pl : List (Nat × Loud)) (L T : List Nat) (hm : P.follows .mixedOrders = true) (hB : softB ops L T (pl.map (·.1)) a.tmps.size = true)
    (hR : ∀ w, R w w) (hR2 : ∀ w w', R w w' → C w → C w') (stab : ∀ d S u w w', (d, S) ∈ pl → R w w' → S.fact u w → S.fact u w') (hC : C { w with drawn := w.drawn + 1 })
    (hQ : ∀ c a d v w, Q (.panic c) (Act.put a d v) w → Q (.panic c) a w)
    (h : wpSoft P ops C R (planOf pl) (pureAt ops) (mask ops) (Last P ops C (planOf pl) T Q) L a) : (Code.region id ops true).wp P Q a w := by
  unfold softB at hB
  simp only [Bool.and_eq_true, beq_iff_eq, decide_eq_true_eq] at hB
  obtain ⟨⟨⟨⟨⟨⟨⟨⟨⟨b1, b2⟩, b3⟩, b4⟩, b5⟩, b6⟩, b7⟩, b8⟩, b9⟩, b10⟩ := hB
  have lmem : ∀ {pl : List (Nat × Loud)} {d : Nat} {S : Loud}, pl.lookup d = some S → (d, S) ∈ pl := by
    intro pl
    induction pl with
    | nil => intro d S h; cases h
    | cons p pl ih =>
      intro d S h
      obtain ⟨x, s⟩ := p
      rw [List.lookup_cons] at h
      by_cases hx : (d == x) = true
      · rw [hx] at h
        cases h
        rw [beq_iff_eq] at hx
        rw [hx]
        exact List.mem_cons_self
      · have hx' : (d == x) = false := by simpa using hx
        rw [hx'] at h
        exact List.mem_cons_of_mem _ (ih h)
  have hl : ∀ d S, planOf pl d = some S → d ∈ L ∧ pureAt ops d = false ∧ ∃ o t, ops[d]? = some o ∧ o.dst = some t ∧ t < a.tmps.size ∧ ∀ j oj, ops[j]? = some oj → j ≠ d → oj.dst ≠ some t := by
    intro d S hd
    have := (List.all_eq_true.1 b5) d (lookup_mem hd)
    simp only [Bool.and_eq_true, List.contains_eq_mem, decide_eq_true_eq, Bool.not_eq_true'] at this
    obtain ⟨⟨h1, h2⟩, h3⟩ := this
    refine ⟨h1, h2, ?_⟩
    cases ho : ops[d]? with
    | none => rw [ho] at h3; cases h3
    | some o =>
      rw [ho] at h3
      dsimp only at h3
      cases ht : o.dst with
      | none => rw [ht] at h3; cases h3
      | some t =>
        rw [ht] at h3
        simp only [Bool.and_eq_true, decide_eq_true_eq, List.all_eq_true, List.mem_range, Bool.or_eq_true, beq_iff_eq] at h3
        refine ⟨o, t, rfl, ht, h3.1, fun j oj hj hne => ?_⟩
        have := (h3.2 j (Array.getElem?_eq_some_iff.1 hj).1).resolve_left hne
        rw [hj] at this
        simpa using this
  have hf : Fits ops (planOf pl) (pureAt ops) := by
    constructor
    · exact Region.noSelect_spec b1
    · intro k hk
      cases hp : planOf pl k with
      | none => rfl
      | some S => rw [(hl k S hp).2.1] at hk; cases hk
    · intro d S od hd hod j oj hj hne t ht hod'
      obtain ⟨_, _, o, t', ho, ht', _, hown⟩ := hl d S hd
      obtain rfl : o = od := Option.some.inj (ho.symm.trans hod)
      rw [ht'] at hod'
      cases hod'
      exact hown j oj hj hne ht
  have hpw : L.Pairwise (Rel ops (planOf pl) (mask ops)) := pairs_of (fun k i hr => by
    unfold relB at hr
    cases hk : ops[k]? with
    | none => rw [hk] at hr; cases hr
    | some ok =>
      cases hi : ops[i]? with
      | none => rw [hk, hi] at hr; cases hr
      | some oi =>
        rw [hk, hi] at hr
        simp only [Bool.and_eq_true, Bool.or_eq_true, Bool.not_eq_true', List.contains_eq_mem, decide_eq_true_eq] at hr
        obtain ⟨⟨h1, h2⟩, h3⟩ := hr
        refine ⟨fun ok' oi' hk' hi' => ?_, h2, fun oi' hi' hc hp => ?_⟩
        · rw [hk] at hk'; rw [hi] at hi'; cases hk'; cases hi'
          exact h1.imp (fun h => h) fun h => mem_directs.1 h
        · rw [hi] at hi'; cases hi'
          rcases h3 with (h3 | h3) | h3
          · rw [hc] at h3; cases h3
          · cases hpk : planOf pl k with
            | none => exact absurd hpk hp
            | some S =>
              have := lookup_mem hpk
              simp [this] at h3
          · exact h3) L b3
  have htl : Tail ops (planOf pl) (pureAt ops) (mask ops) T L := by
    have key : ∀ t ∈ T, ∀ k ∈ L, _ := fun t ht k hk => (List.all_eq_true.1 ((List.all_eq_true.1 b4) t ht)) k hk
    simp only [Bool.and_eq_true, Bool.or_eq_true, Bool.not_eq_true', List.contains_eq_mem, decide_eq_false_iff_not] at key
    refine ⟨fun t ht k hk hp => ?_, fun t ht k hk hd => ?_, fun t ht k hk hp ok ot hok hot => ?_⟩
    · have := (key t ht k hk).1.1
      rw [hp] at this
      exact this.resolve_left (by simp)
    · exact (key t ht k hk).1.2 (mem_directs.2 hd)
    · have := (key t ht k hk).2
      rw [hp, hok, hot] at this
      have h2 := this.resolve_left (by simp)
      simp only [Bool.or_eq_true, decide_eq_true_eq] at h2
      exact h2.imp (fun h => h) fun h => mem_directs.1 h
  refine wp_region_any hm ?_
  rw [← b10]
  refine sim hf (clos_of b2) hR hR2 (fun d S u w w' hd => stab d S u w w' (lmem hd)) (fun d o S ho hd => ?_) hQ L.length L rfl _ a _ ?_ hpw htl h
  · obtain ⟨_, _, o', t, ho', ht, _⟩ := hl d S hd
    rw [ho] at ho'
    cases ho'
    rw [ht]
    exact fun h => by cases h
  · constructor
    · rw [Array.size_replicate]; exact b10
    · intro j hj
      have := (List.all_eq_true.1 b6) j (List.mem_range.2 hj)
      simp only [Bool.or_eq_true, List.contains_eq_mem, decide_eq_true_eq] at this
      constructor
      · exact fun _ => this
      · intro _
        rw [← b10] at hj
        simp [hj]
    · intro k d hk
      simp only [Array.getD_eq_getD_getElem?, Array.getElem?_replicate] at hk
      split at hk <;> simp at hk
    · exact b8
    · intro t ht hx
      have := (List.all_eq_true.1 b9) t ht
      simp [hx] at this
    · intro k hk
      simpa using (List.all_eq_true.1 b7) k hk
    · exact hC
    · intro d o S ho hd hnl
      exact absurd (hl d S hd).1 hnl
    · intro d o S t ho hd ht
      obtain ⟨_, _, o', t', ho', ht', hlt, _⟩ := hl d S hd
      rw [ho] at ho'
      cases ho'
      rw [ht] at ht'
      cases ht'
      exact hlt

/-- Q, but False at a panic. -/
def NoP (Q : Exit → Act → World → Prop) : Exit → Act → World → Prop
  | .panic _, _, _ => False
  | e, a, w => Q e a w
theorem NoP.imp {Q : Exit → Act → World → Prop} : ∀ (e : Exit) (a : Act) (w : World), NoP Q e a w → Q e a w := fun e a w h => by
  cases e <;> first | exact h | exact (h : False).elim

/-- the walk of the soft ones, in the order that is left. -/
def walk (P : Program) (ops : Array Oper) (C : World → Prop) (R : World → World → Prop) (pl : List (Nat × Loud)) (T : List Nat) (Q : Exit → Act → World → Prop) (L : List Nat) (a : Act) : Prop :=
  wpSoft P ops C R (planOf pl) (pureAt ops) (mask ops) (Last P ops C (planOf pl) T (NoP Q)) L a
/-- what the loud ones ahead have left, that k waits for. -/
def known (ops : Array Oper) (pl : List (Nat × Loud)) (k : Nat) (a : Act) (w : World) : Prop := holds ops (planOf pl) (mask ops) k a w
theorem known.get {ops : Array Oper} {pl : List (Nat × Loud)} {k : Nat} {a : Act} {w : World} (h : known ops pl k a w) (d : Nat) {o : Oper} {S : Loud} (hd : (mask ops k).testBit d = true) (ho : ops[d]? = some o) (hS : pl.lookup d = some S) :
    S.fact (slotOf o a) w := h d o S hd ho hS
/-- what all the loud ones have left. -/
def knownAll (ops : Array Oper) (pl : List (Nat × Loud)) (a : Act) (w : World) : Prop := holdsAll ops (planOf pl) a w
theorem knownAll.get {ops : Array Oper} {pl : List (Nat × Loud)} {a : Act} {w : World} (h : knownAll ops pl a w) (d : Nat) {o : Oper} {S : Loud} (ho : ops[d]? = some o) (hS : pl.lookup d = some S) :
    S.fact (slotOf o a) w := h d o S ho hS

section
variable {P : Program} {ops : Array Oper} {C : World → Prop} {R : World → World → Prop} {pl : List (Nat × Loud)} {T : List Nat} {Q : Exit → Act → World → Prop} {k : Nat} {rest : List Nat} {a : Act} {o : Oper}

theorem region {id : Nat} {w : World} (pl : List (Nat × Loud)) (L T : List Nat) (hm : P.follows .mixedOrders = true) (hB : softB ops L T (pl.map (·.1)) a.tmps.size = true)
    (hR : ∀ w, R w w) (hR2 : ∀ w w', R w w' → C w → C w') (hC : C { w with drawn := w.drawn + 1 }) (stab : ∀ d S u w w', (d, S) ∈ pl → R w w' → S.fact u w → S.fact u w')
    (h : walk P ops C R pl T Q L a) : (Code.region id ops true).wp P Q a w :=
  Code.wp_mono NoP.imp (wp_region_soft pl L T hm hB hR hR2 stab hC (fun _ _ _ _ _ h => h) h)

theorem pure_step (ho : ops[k]? = some o) (hp : pureKind o.op = true) (hl : pl.lookup k = none)
    (h : ∀ K : Act → Prop, (∀ a, walk P ops C R pl T Q rest a → K a) → if Region.wanted o (yielded ops a.tmps) then ∃ v, (∀ w, (execOp a.eval o).run P w = .ok (.value v) w) ∧ K (a.put o.dst v) else K (a.put o.dst undef)) :
    walk P ops C R pl T Q (k :: rest) a := by
  refine ⟨o, ho, ?_⟩
  have := h _ (fun _ h => h)
  split
  · rename_i hw
    rw [if_pos hw] at this
    unfold softAt
    rw [if_pos (by unfold pureAt; rw [ho]; exact hp)]
    exact this
  · rename_i hw
    rw [if_neg hw] at this
    exact ⟨hl, this⟩

theorem quiet_step (ho : ops[k]? = some o) (hp : pureKind o.op = false) (hl : pl.lookup k = none)
    (h : ∀ K : Act → Prop, (∀ a, walk P ops C R pl T Q rest a → K a) → if Region.wanted o (yielded ops a.tmps) then ∃ v, (∀ w, C w → known ops pl k a w → quietR P R o w v ((execOp a.eval o).run P w)) ∧ K (a.put o.dst v) else K (a.put o.dst undef)) :
    walk P ops C R pl T Q (k :: rest) a := by
  refine ⟨o, ho, ?_⟩
  have := h _ (fun _ h => h)
  split
  · rename_i hw
    rw [if_pos hw] at this
    unfold softAt
    rw [if_neg (by unfold pureAt; rw [ho]; simp [hp]), show planOf pl k = none from hl]
    exact this
  · rename_i hw
    rw [if_neg hw] at this
    exact ⟨hl, this⟩

/-- .. that needs nothing of the loud ones. -/
theorem quiet_step0 (ho : ops[k]? = some o) (hp : pureKind o.op = false) (hl : pl.lookup k = none)
    (h : ∀ K : Act → Prop, (∀ a, walk P ops C R pl T Q rest a → K a) → if Region.wanted o (yielded ops a.tmps) then ∃ v, (∀ w, C w → quietR P R o w v ((execOp a.eval o).run P w)) ∧ K (a.put o.dst v) else K (a.put o.dst undef)) :
    walk P ops C R pl T Q (k :: rest) a :=
  quiet_step ho hp hl fun K hK => by
    have := h K hK
    split
    · rename_i hw
      rw [if_pos hw] at this
      obtain ⟨v, h1, h2⟩ := this
      exact ⟨v, fun w hw _ => h1 w hw, h2⟩
    · rename_i hw
      rw [if_neg hw] at this
      exact this

theorem loud_step0 {S : Loud} (ho : ops[k]? = some o) (hp : pureKind o.op = false) (hl : pl.lookup k = some S) (hg : o.guard = none)
    (h : ∀ K : Act → Prop, (∀ a, walk P ops C R pl T Q rest a → K a) → (∀ w, C w → loudR P R S o w ((execOp a.eval o).run P w)) ∧ ∀ u, S.shape u → K (a.put o.dst u)) :
    walk P ops C R pl T Q (k :: rest) a := by
  refine ⟨o, ho, ?_⟩
  have := h _ (fun _ h => h)
  have hw : Region.wanted o (yielded ops a.tmps) = true := by unfold Region.wanted; rw [hg]
  rw [if_pos hw]
  unfold softAt
  rw [if_neg (by unfold pureAt; rw [ho]; simp [hp]), show planOf pl k = some S from hl]
  exact ⟨fun w hw _ => this.1 w hw, this.2⟩

theorem loud_step {S : Loud} (ho : ops[k]? = some o) (hp : pureKind o.op = false) (hl : pl.lookup k = some S) (hg : o.guard = none)
    (h : ∀ K : Act → Prop, (∀ a, walk P ops C R pl T Q rest a → K a) → (∀ w, C w → known ops pl k a w → loudR P R S o w ((execOp a.eval o).run P w)) ∧ ∀ u, S.shape u → K (a.put o.dst u)) :
    walk P ops C R pl T Q (k :: rest) a := by
  refine ⟨o, ho, ?_⟩
  have := h _ (fun _ h => h)
  have hw : Region.wanted o (yielded ops a.tmps) = true := by unfold Region.wanted; rw [hg]
  rw [if_pos hw]
  unfold softAt
  rw [if_neg (by unfold pureAt; rw [ho]; simp [hp]), show planOf pl k = some S from hl]
  exact this

/-- At the end, nothing left. -/
theorem ends (hT : (Region.ready .any ops (listedT ops [])).isEmpty = true) (h : ∀ w, C w → knownAll ops pl a w → Q .normal a w) : walk P ops C R pl [] Q [] a :=
  fun w hC hh => ⟨by simpa using hT, h w hC hh⟩
/-- At the end, a tail. -/
theorem tails (h : ∀ w, C w → knownAll ops pl a w → wpAny P .any ops (NoP Q) T.length (listedT ops T) a w) : walk P ops C R pl T Q [] a := h
end

attribute [go_sem] quietR loudR isCall

/-- a new row of these cells, at whatever address. -/
def row (len cap : Nat) (cells : List Value) : Loud where
  shape u := ∃ n, u = .slice (some ⟨n, 0, none⟩) len cap
  fact u w := ∃ n, u = .slice (some ⟨n, 0, none⟩) len cap ∧ n < w.heap.size ∧ ∀ j v, cells[j]? = some v → w.cell? ⟨n, j, none⟩ = some v
  some_ := ⟨_, 0, rfl⟩
theorem row_stab {len cap : Nat} {cells : List Value} {u : Value} {w w' : World} (hr : Ext w w') (h : (row len cap cells).fact u w) : (row len cap cells).fact u w' := by
  obtain ⟨n, rfl, h1, h2⟩ := h
  exact ⟨n, rfl, Nat.lt_of_lt_of_le h1 hr.size, fun j v hj => by rw [hr.cells _ _ h1]; exact h2 j v hj⟩
theorem row_cell {len cap : Nat} {cells : List Value} {n : Nat} {w : World} (h : (row len cap cells).fact (.slice (some ⟨n, 0, none⟩) len cap) w) : n < w.heap.size ∧ ∀ j v, cells[j]? = some v → w.cell? ⟨n, j, none⟩ = some v := by
  obtain ⟨m, hm, h1, h2⟩ := h
  simp only [Value.slice.injEq, Option.some.injEq, Addr.mk.injEq, and_true] at hm
  obtain rfl := hm
  exact ⟨h1, h2⟩
theorem row_new {len cap : Nat} {cells : List Value} {w : World} {T : TypeId} : (row len cap cells).fact (.slice (some ⟨w.heap.size, 0, none⟩) len cap) (w.alloc (.cells cells.toArray T)) := by
  refine ⟨_, rfl, by simp, fun j v hj => ?_⟩
  rw [World.cell?_alloc_mark]
  simpa using hj

/-- a plan of one. -/
theorem stab_one {d : Nat} {S : Loud} (h : ∀ u w w', Ext w w' → S.fact u w → S.fact u w') : ∀ d' S' u w w', (d', S') ∈ [(d, S)] → Ext w w' → S'.fact u w → S'.fact u w' := by
  intro d' S' u w w' hm hr hf
  simp only [List.mem_singleton, Prod.mk.injEq] at hm
  obtain ⟨_, rfl⟩ := hm
  exact h u w w' hr hf
theorem stab_none : ∀ d' S' u w w', (d', S') ∈ ([] : List (Nat × Loud)) → Ext w w' → S'.fact u w → S'.fact u w' := by
  intro d' S' u w w' hm
  cases hm
theorem stab_more {pl : List (Nat × Loud)} {d : Nat} {S : Loud} (h : ∀ u w w', Ext w w' → S.fact u w → S.fact u w') (h2 : ∀ d' S' u w w', (d', S') ∈ pl → Ext w w' → S'.fact u w → S'.fact u w') :
    ∀ d' S' u w w', (d', S') ∈ (d, S) :: pl → Ext w w' → S'.fact u w → S'.fact u w' := by
  intro d' S' u w w' hm hr hf
  rcases List.mem_cons.1 hm with hm | hm
  · simp only [Prod.mk.injEq] at hm
    obtain ⟨_, rfl⟩ := hm
    exact h u w w' hr hf
  · exact h2 d' S' u w w' hm hr hf

/-- a region at the class of all later worlds. -/
theorem region_ext {P : Program} {ops : Array Oper} {Q : Exit → Act → World → Prop} {a : Act} {id : Nat} {w : World} (pl : List (Nat × Loud)) (L T : List Nat) (hm : P.follows .mixedOrders = true) (hB : softB ops L T (pl.map (·.1)) a.tmps.size = true)
    (stab : ∀ d S u w w', (d, S) ∈ pl → Ext w w' → S.fact u w → S.fact u w')
    (h : walk P ops (Ext w) Ext pl T Q L a) : (Code.region id ops true).wp P Q a w :=
  region pl L T hm hB Ext.refl (fun _ _ h k => k.trans h) (Ext.refl _).drew stab h

theorem quiet_same {P : Program} {f : FuncId} {args : Array Value} {w : World} {v : Value} (h : Calls P f args w fun e w' => e = .returned v ∧ w = w') :
    Calls P f args w fun e w' => e = .returned v ∧ Ext w w' := h.mono fun _ _ ⟨he, hw⟩ => ⟨he, by subst hw; exact Ext.refl _⟩

/-- a tail whose order is forced. -/
def forcedB (ops : Array Oper) : List Nat → Array Bool → Bool
  | [], listed => (Region.ready .any ops listed).isEmpty
  | t :: l, listed => (Region.ready .any ops listed == [t]) && forcedB ops l (listed.setIfInBounds t true)
theorem forced {P : Program} {ops : Array Oper} {Q : Exit → Act → World → Prop} : ∀ (l : List Nat) (ol : List Oper) (listed : Array Bool) (a : Act) (w : World), forcedB ops l listed = true → l.map (ops[·]?) = ol.map some →
    wpList P ops Q ol a w → wpAny P .any ops Q l.length listed a w
  | [], [], listed, a, w, hB, _, h => ⟨by simpa [forcedB] using hB, h⟩
  | t :: l, o :: ol, listed, a, w, hB, hl, h => by
    simp only [forcedB, Bool.and_eq_true, beq_iff_eq] at hB
    simp only [List.map_cons, List.cons.injEq] at hl
    refine ⟨fun h0 => (by rw [hB.1] at h0; cases h0), fun i hi => ?_⟩
    rw [hB.1, List.mem_singleton] at hi
    subst hi
    unfold wpOp
    rw [hl.1]
    dsimp only
    simp only [wpList] at h
    split
    · rename_i hw
      rw [if_pos hw] at h
      exact h.imp (Oper.wp_mono fun a w => forced l ol _ a w hB.2 hl.2) (fun h => h)
    · rename_i hw
      rw [if_neg hw] at h
      exact forced l ol _ _ _ hB.2 hl.2 h
  | [], _ :: _, _, _, _, _, hl, _ => by cases hl
  | _ :: _, [], _, _, _, _, hl, _ => by cases hl

/-- At the end, a tail whose order is forced. -/
theorem tail_forced {P : Program} {ops : Array Oper} {C : World → Prop} {R : World → World → Prop} {pl : List (Nat × Loud)} {T : List Nat} {Q : Exit → Act → World → Prop} {a : Act} (ol : List Oper) (hB : forcedB ops T (listedT ops T) = true)
    (hl : T.map (ops[·]?) = ol.map some) (h : ∀ w, C w → knownAll ops pl a w → wpList P ops (NoP Q) ol a w) : walk P ops C R pl T Q [] a :=
  tails fun w hC hk => forced T ol _ a w hB hl (h w hC hk)

theorem NoP_normal (Q : Exit → Act → World → Prop) (a : Act) (w : World) : NoP Q .normal a w = Q .normal a w := rfl
attribute [go_sem] NoP_normal

end Soft
end Go.Proofs.Ytehidhcpdiameaa
