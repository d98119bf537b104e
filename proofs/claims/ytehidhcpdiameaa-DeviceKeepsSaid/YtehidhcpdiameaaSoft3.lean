/- Regions that draw their order, on: those that make more than one box. What Soft.sim shows, and that the boxes named are apart. -/
import Derived.Test.YtehidhcpdiameaaSoft2
namespace Go.Proofs.Ytehidhcpdiameaa
namespace Soft
section
variable {P : Program} {ops : Array Oper} {C : World → Prop} {R : World → World → Prop} {plan : Plan} {pures : Nat → Bool} {M : Nat → Nat}

/-- the boxes that are made already lie in the heap, and apart. -/
def Pairs (ops : Array Oper) (al l : List Nat) (a : Act) (w : World) : Prop :=
  (∀ d ∈ al, d ∉ l → ∀ o, ops[d]? = some o → ∃ n, slotOf o a = .pointer (some ⟨n, 0, none⟩) ∧ n < w.heap.size) ∧
  (∀ d ∈ al, ∀ d' ∈ al, d ≠ d' → d ∉ l → d' ∉ l → ∀ o o', ops[d]? = some o → ops[d']? = some o' → slotOf o a ≠ slotOf o' a)

def Last2 (P : Program) (ops : Array Oper) (C : World → Prop) (plan : Plan) (al T : List Nat) (Q : Exit → Act → World → Prop) (a : Act) : Prop :=
  ∀ w, C w → (∀ d o S, ops[d]? = some o → plan d = some S → S.fact (slotOf o a) w) →
    (∀ d ∈ al, ∀ d' ∈ al, d ≠ d' → ∀ o o', ops[d]? = some o → ops[d']? = some o' → slotOf o a ≠ slotOf o' a) → wpAny P .any ops Q T.length (listedT ops T) a w

theorem Pairs.keep (hf : Fits ops plan pures) {al : List Nat} (hal : ∀ d ∈ al, plan d ≠ none) {i : Nat} {oi : Oper} (hi : ops[i]? = some oi) {a : Act} {u : Value} {d : Nat} (hd : d ∈ al) (hne : i ≠ d) {o : Oper} (ho : ops[d]? = some o) : slotOf o (a.put oi.dst u) = slotOf o a := by
  cases hp : plan d with
  | none => exact absurd hp (hal d hd)
  | some S => exact slotOf_put fun t ht => hf.own d S o hp ho i oi hi hne t ht

theorem mem_but {i d : Nat} {l1 l2 : List Nat} (h : d ∉ l1 ++ l2) (hne : i ≠ d) : d ∉ l1 ++ i :: l2 := by
  simp only [List.mem_append, List.mem_cons, not_or] at h ⊢
  exact ⟨h.1, Ne.symm hne, h.2⟩

theorem Pairs.other {al l1 l2 : List Nat} {i : Nat} {a : Act} {w w' : World} (h : Pairs ops al (l1 ++ i :: l2) a w) (hf : Fits ops plan pures) (hal : ∀ d ∈ al, plan d ≠ none) {oi : Oper} (hi : ops[i]? = some oi) {u : Value} (hn : i ∉ al) (hs : w.heap.size ≤ w'.heap.size) : Pairs ops al (l1 ++ l2) (a.put oi.dst u) w' := by
  have ne : ∀ d ∈ al, i ≠ d := fun d hd e => hn (e ▸ hd)
  refine ⟨fun d hd hl o ho => ?_, fun d hd d' hd' hne hl hl' o o' ho ho' => ?_⟩
  · rw [Pairs.keep hf hal hi hd (ne d hd) ho]
    obtain ⟨n, h1, h2⟩ := h.1 d hd (mem_but hl (ne d hd)) o ho
    exact ⟨n, h1, Nat.lt_of_lt_of_le h2 hs⟩
  · rw [Pairs.keep hf hal hi hd (ne d hd) ho, Pairs.keep hf hal hi hd' (ne d' hd') ho']
    exact h.2 d hd d' hd' hne (mem_but hl (ne d hd)) (mem_but hl' (ne d' hd')) o o' ho ho'

theorem Pairs.new {al l1 l2 T : List Nat} {i : Nat} {a : Act} {w w' : World} {listed : Array Bool} (h : Pairs ops al (l1 ++ i :: l2) a w) (hf : Fits ops plan pures) (hal : ∀ d ∈ al, plan d ≠ none) (hdst : ∀ d o S, ops[d]? = some o → plan d = some S → o.dst ≠ none)
    (st : State ops C plan T (l1 ++ i :: l2) listed a w) {oi : Oper} (hi : ops[i]? = some oi) {u : Value} (hia : i ∈ al) (hu : u = .pointer (some ⟨w.heap.size, 0, none⟩)) (hs : w'.heap.size = w.heap.size + 1) : Pairs ops al (l1 ++ l2) (a.put oi.dst u) w' := by
  have self : ∀ o, ops[i]? = some o → slotOf o (a.put oi.dst u) = u := fun o ho => by
    obtain rfl : o = oi := Option.some.inj (ho.symm.trans hi)
    cases hp : plan i with
    | none => exact absurd hp (hal i hia)
    | some S => exact slotOf_self (fun t ht => st.room i o S t ho hp ht) (hdst i o S ho hp)
  refine ⟨fun d hd hl o ho => ?_, fun d hd d' hd' hne hl hl' o o' ho ho' => ?_⟩
  · by_cases hdi : i = d
    · subst hdi
      rw [self o ho, hu]
      exact ⟨_, rfl, by omega⟩
    · rw [Pairs.keep hf hal hi hd hdi ho]
      obtain ⟨n, h1, h2⟩ := h.1 d hd (mem_but hl hdi) o ho
      exact ⟨n, h1, by omega⟩
  · by_cases hdi : i = d
    · subst hdi
      rw [self o ho, hu, Pairs.keep hf hal hi hd' hne ho']
      obtain ⟨n, h1, h2⟩ := h.1 d' hd' (mem_but hl' hne) o' ho'
      rw [h1]
      intro e
      simp only [Value.pointer.injEq, Option.some.injEq, Addr.mk.injEq, and_true] at e
      omega
    · by_cases hdi' : i = d'
      · subst hdi'
        rw [self o' ho', hu, Pairs.keep hf hal hi hd hdi ho]
        obtain ⟨n, h1, h2⟩ := h.1 d hd (mem_but hl hdi) o ho
        rw [h1]
        intro e
        simp only [Value.pointer.injEq, Option.some.injEq, Addr.mk.injEq, and_true] at e
        omega
      · rw [Pairs.keep hf hal hi hd hdi ho, Pairs.keep hf hal hi hd' hdi' ho']
        exact h.2 d hd d' hd' hne (mem_but hl hdi) (mem_but hl' hdi') o o' ho ho'

theorem sim2 {al : List Nat} (hal : ∀ d ∈ al, plan d ≠ none) (hnew : ∀ d ∈ al, ∀ o, ops[d]? = some o → o.guard = none ∧ ∀ (a : Act) (w : World), ∃ c, (execOp a.eval o).run P w = .ok (.value (.pointer (some ⟨w.heap.size, 0, none⟩))) (w.alloc c)) (hRs : ∀ w w', R w w' → w.heap.size ≤ w'.heap.size) (hf : Fits ops plan pures) (hM : Clos ops M) (hR : ∀ w, R w w) (hR2 : ∀ w w', R w w' → C w → C w') (stab : ∀ d S u w w', plan d = some S → R w w' → S.fact u w → S.fact u w')
    (hdst : ∀ d o S, ops[d]? = some o → plan d = some S → o.dst ≠ none) {T : List Nat} {Q : Exit → Act → World → Prop}
    (hQ : ∀ c a d v w, Q (.panic c) (Act.put a d v) w → Q (.panic c) a w) :
    ∀ (n : Nat) (l : List Nat), l.length = n → ∀ (listed : Array Bool) (a : Act) (w : World), State ops C plan T l listed a w → Pairs ops al l a w → l.Pairwise (Rel ops plan M) → Tail ops plan pures M T l →
      wpSoft P ops C R plan pures M (Last2 P ops C plan al T Q) l a → wpAny P .any ops Q (n + T.length) listed a w := by
  intro n
  induction n with
  | zero =>
    intro l hl listed a w st pr _ _ h
    obtain rfl : l = [] := List.eq_nil_of_length_eq_zero hl
    have e : listed = listedT ops T := by
      apply Array.ext
      · simp [listedT, st.size]
      · intro j h1 h2
        have hj : j < ops.size := by rw [← st.size]; exact h1
        have := st.left j hj
        simp only [List.not_mem_nil, false_or] at this
        have g : listed.getD j true = listed[j] := by simp [Array.getD, h1]
        rw [g] at this
        simp only [listedT, Array.getElem_map, Array.getElem_range]
        cases hb : listed[j] with
        | false => rw [hb] at this; simp [this.1 rfl]
        | true =>
          rw [hb] at this
          have hx : j ∉ T := fun hx => by have := this.2 hx; cases this
          simp [hx]
    rw [Nat.zero_add, e]
    exact h w st.cls (fun d o S ho hp => st.facts d o S ho hp (by simp)) (fun d hd d' hd' hne o o' ho ho' => pr.2 d hd d' hd' hne (by simp) (by simp) o o' ho ho')
  | succ n ih =>
    intro l hl listed a w st pr pw tl h
    match l, hl, h with
    | k0 :: rest, hl, h =>
      have hk0 : ∃ ok, ops[k0]? = some ok := by obtain ⟨o, ho, _⟩ := h; exact ⟨o, ho⟩
      have unl : ∀ k ∈ k0 :: rest, listed.getD k false = true → False := fun k hk hx => by
        have hs := st.inb k hk
        have := (st.left k hs).2 (.inl hk)
        rw [getD_any (by rw [st.size]; exact hs) true false, hx] at this
        cases this
      have inl : ∀ j, j < ops.size → ¬ listed.getD j false = true → j ∈ k0 :: rest ∨ j ∈ T := fun j hj hx => by
        refine (st.left j hj).1 ?_
        rw [getD_any (by rw [st.size]; exact hj) true false]
        simpa using hx
      have hready : k0 ∈ Region.ready .any ops listed := by
        obtain ⟨ok, hok⟩ := hk0
        refine mem_ready.2 ⟨(st.left k0 (st.inb k0 List.mem_cons_self)).2 (.inl List.mem_cons_self), ok, hok, fun e he hb => ?_⟩
        have hd : direct ops k0 e.on := ⟨ok, hok, e, he, hb, rfl⟩
        have hlt := hM.back _ _ hd
        have hs := st.inb k0 List.mem_cons_self
        refine Classical.byContradiction fun hx => ?_
        rcases inl e.on (by omega) hx with hx | hx
        · rcases List.mem_cons.1 hx with hx | hx
          · omega
          · have := (List.pairwise_cons.1 pw).1 _ hx
            have h1 := hM.incl _ _ hd
            rw [this.no] at h1
            cases h1
        · exact tl.no _ hx k0 List.mem_cons_self hd
      have e1 : n + 1 + T.length = (n + T.length) + 1 := by omega
      by_cases hall : ∀ k ∈ k0 :: rest, pures k = true
      · obtain ⟨ok, hok, h⟩ := h
        have hp0 := hf.pure_none k0 (hall k0 List.mem_cons_self)
        have hfree : ∀ j oj, ops[j]? = some oj → j ≠ k0 → listed.getD j true = false → (∀ e ∈ oj.after, Region.binds .any e = true → e.on ≠ k0) → ok.apart ops oj = true := fun j oj hj hne hun hno => by
          have hnd : ¬ direct ops j k0 := fun ⟨o, ho, e, he, hb, hon⟩ => by
            obtain rfl : o = oj := Option.some.inj (ho.symm.trans hj)
            exact hno e he hb hon
          rcases (st.left j (Array.getElem?_eq_some_iff.1 hj).1).1 hun with hx | hx
          · rcases List.mem_cons.1 hx with hx | hx
            · exact absurd hx hne
            · exact (((List.pairwise_cons.1 pw).1 _ hx).apart ok oj hok hj).resolve_right hnd
          · exact (tl.apart j hx k0 List.mem_cons_self (hall k0 List.mem_cons_self) ok oj hok hj).resolve_right hnd
        have go : ∀ v, Yields P ops ok v a → wpSoft P ops C R plan pures M (Last2 P ops C plan al T Q) rest (a.put ok.dst v) → wpAny P .any ops Q (n + 1 + T.length) listed a w := fun v hy hv => by
          rw [e1]
          refine wpAny_first hok hf.sel (fun c a w => hQ c a ok.dst v w) (n + T.length) listed a w hfree hready hy ?_
          have st' := State.next hf hR2 stab hdst (l1 := []) (l2 := rest) (u := v) hok st hready (hR w) (fun S hS => by rw [hp0] at hS; cases hS)
          have pr' : Pairs ops al rest (a.put ok.dst v) w := pr.other (l1 := []) (l2 := rest) hf hal hok (fun hx => hal k0 hx hp0) (Nat.le_refl _)
          exact ih rest (by simpa using hl) _ _ w st' pr' (List.pairwise_cons.1 pw).2
            ⟨fun t ht k hk => tl.waits t ht k (List.mem_cons_of_mem _ hk), fun t ht k hk => tl.no t ht k (List.mem_cons_of_mem _ hk), fun t ht k hk => tl.apart t ht k (List.mem_cons_of_mem _ hk)⟩ hv
        by_cases hw : Region.wanted ok (yielded ops a.tmps) = true
        · rw [if_pos hw] at h
          unfold softAt at h
          rw [if_pos (hall k0 List.mem_cons_self)] at h
          obtain ⟨v, hv, hk⟩ := h
          exact go v (.inl ⟨hw, hv⟩) hk
        · rw [if_neg hw] at h
          exact go undef (.inr ⟨by simpa using hw, rfl⟩) h.2
      · have hheavy : ∃ k ∈ k0 :: rest, pures k = false := by
          refine Classical.byContradiction fun hx => hall fun k hk => ?_
          cases hp : pures k with
          | true => rfl
          | false => exact absurd ⟨k, hk, hp⟩ hx
        obtain ⟨kh, hkh, hph⟩ := hheavy
        rw [e1]
        refine ⟨fun h0 => (by rw [h0] at hready; cases hready), fun i hi => ?_⟩
        obtain ⟨hiu, oi, hoi, hall'⟩ := mem_ready.1 hi
        have his : i < ops.size := (Array.getElem?_eq_some_iff.1 hoi).1
        have hdi : ∀ m, direct ops i m → listed.getD m false = true := fun m ⟨o, ho, e, he, hb, hon⟩ => by
          obtain rfl : o = oi := Option.some.inj (ho.symm.trans hoi)
          rw [← hon]; exact hall' e he hb
        have hri : ∀ d, (M i).testBit d = true → listed.getD d false = true := fun d hd => listed_of_reach hM st.closed (i + 1) i d (by omega) his hdi hd
        rcases (st.left i his).1 hiu with hx | hx
        · obtain ⟨l1, l2, hl12⟩ := List.append_of_mem hx
          rw [hl12] at st pr pw tl h unl
          refine wpOp_of_out hoi ?_
          have hmem : ∀ k ∈ l1, k ∈ l1 ++ i :: l2 := fun k hk => List.mem_append_left _ hk
          have pw1 : ∀ k ∈ l1, Rel ops plan M k i := fun k hk => (List.pairwise_append.1 pw).2.2 k hk i List.mem_cons_self
          have hh : holds ops plan M i a w := by
            intro d o S hd ho hS
            exact st.facts d o S ho hS fun hx => unl d hx (hri d hd)
          have hp : ∀ k ∈ l1, Past ops plan M k i oi := by
            intro k hk
            have r := pw1 k hk
            have hnr : (M i).testBit k = false := by
              cases hb : (M i).testBit k with
              | false => rfl
              | true => exact (unl k (hmem k hk) (hri k hb)).elim
            exact ⟨fun ok hok => (r.apart ok oi hok hoi).resolve_right fun hd => unl k (hmem k hk) (hdi k hd), r.no, hnr,
              fun hc => Classical.byContradiction fun hp => by have := r.call oi hoi hc hp; rw [hnr] at this; cases this⟩
          have hx4 := extract hf hR hoi l2 l1 a w h st.cls hh hp
          have hx5 : out P ops oi a (fun u w' => (R w w' ∧ (∀ S, plan i = some S → S.fact u w') ∧ wpSoft P ops C R plan pures M (Last2 P ops C plan al T Q) (l1 ++ l2) (a.put oi.dst u)) ∧ (i ∈ al → u = .pointer (some ⟨w.heap.size, 0, none⟩) ∧ w'.heap.size = w.heap.size + 1)) w := by
            by_cases hia : i ∈ al
            · obtain ⟨hg, hn⟩ := hnew i hia oi hoi
              obtain ⟨c, hrun⟩ := hn a w
              have hwd : Region.wanted oi (yielded ops a.tmps) = true := by unfold Region.wanted; rw [hg]
              unfold out at hx4 ⊢
              rw [if_pos hwd, hrun] at hx4 ⊢
              exact ⟨hx4, fun _ => ⟨rfl, by simp⟩⟩
            · exact out_mono (fun u w' h => ⟨h, fun hx => absurd hx hia⟩) hx4
          refine out_mono (fun u w' hx3 => ?_) hx5
          obtain ⟨hx3, hfresh⟩ := hx3
          obtain ⟨r1, r2, r3⟩ := hx3
          have st' := State.next hf hR2 stab hdst (u := u) hoi st hi r1 r2
          have hsub : ∀ k ∈ l1 ++ l2, k ∈ l1 ++ i :: l2 := fun k hk => by
            rcases List.mem_append.1 hk with hk | hk
            · exact List.mem_append_left _ hk
            · exact List.mem_append_right _ (List.mem_cons_of_mem _ hk)
          have pr' : Pairs ops al (l1 ++ l2) (a.put oi.dst u) w' := by
            by_cases hia : i ∈ al
            · obtain ⟨hu, hsz⟩ := hfresh hia
              exact pr.new hf hal hdst st hoi hia hu hsz
            · exact pr.other hf hal hoi hia (hRs _ _ r1)
          refine ih (l1 ++ l2) ?_ _ _ w' st' pr' (pw.sublist (List.Sublist.append_left (List.sublist_cons_self _ _) _))
            ⟨fun t ht k hk => tl.waits t ht k (hsub k hk), fun t ht k hk => tl.no t ht k (hsub k hk), fun t ht k hk => tl.apart t ht k (hsub k hk)⟩ r3
          have := congrArg List.length hl12
          simp only [List.length_append, List.length_cons] at this hl ⊢
          omega
        · exact (unl kh hkh (hri kh (tl.waits i hx kh hkh hph))).elim
end

theorem wp_region_soft2 {P : Program} {id : Nat} {ops : Array Oper} {Q : Exit → Act → World → Prop} {a : Act} {w : World} {C : World → Prop} {R : World → World → Prop}
    (pl : List (Nat × Loud)) (al L T : List Nat) (hal : al.all (fun d => (pl.lookup d).isSome) = true) (hnew : ∀ d ∈ al, ∀ o, ops[d]? = some o → o.guard = none ∧ ∀ (a : Act) (w : World), ∃ c, (execOp a.eval o).run P w = .ok (.value (.pointer (some ⟨w.heap.size, 0, none⟩))) (w.alloc c)) (hRs : ∀ w w', R w w' → w.heap.size ≤ w'.heap.size) (hm : P.follows .mixedOrders = true) (hB : softB ops L T (pl.map (·.1)) a.tmps.size = true)
    (hR : ∀ w, R w w) (hR2 : ∀ w w', R w w' → C w → C w') (stab : ∀ d S u w w', (d, S) ∈ pl → R w w' → S.fact u w → S.fact u w') (hC : C { w with drawn := w.drawn + 1 })
    (hQ : ∀ c a d v w, Q (.panic c) (Act.put a d v) w → Q (.panic c) a w)
    (h : wpSoft P ops C R (planOf pl) (pureAt ops) (mask ops) (Last2 P ops C (planOf pl) al T Q) L a) : (Code.region id ops true).wp P Q a w := by
  unfold softB at hB
  simp only [Bool.and_eq_true, beq_iff_eq, decide_eq_true_eq] at hB
  obtain ⟨⟨⟨⟨⟨⟨⟨⟨⟨b1, b2⟩, b3⟩, b4⟩, b5⟩, b6⟩, b7⟩, b8⟩, b9⟩, b10⟩ := hB
  have lmem : ∀ {pl : List (Nat × Loud)} {d : Nat} {S : Loud}, pl.lookup d = some S → (d, S) ∈ pl := by
    intro pl
    induction pl with
    | nil => intro d S h; cases h
    | cons p pl ih =>
      intro d S h
      obtain ⟨x, s⟩ := p
      rw [List.lookup_cons] at h
      by_cases hx : (d == x) = true
      · rw [hx] at h
        cases h
        rw [beq_iff_eq] at hx
        rw [hx]
        exact List.mem_cons_self
      · have hx' : (d == x) = false := by simpa using hx
        rw [hx'] at h
        exact List.mem_cons_of_mem _ (ih h)
  have hl : ∀ d S, planOf pl d = some S → d ∈ L ∧ pureAt ops d = false ∧ ∃ o t, ops[d]? = some o ∧ o.dst = some t ∧ t < a.tmps.size ∧ ∀ j oj, ops[j]? = some oj → j ≠ d → oj.dst ≠ some t := by
    intro d S hd
    have := (List.all_eq_true.1 b5) d (lookup_mem hd)
    simp only [Bool.and_eq_true, List.contains_eq_mem, decide_eq_true_eq, Bool.not_eq_true'] at this
    obtain ⟨⟨h1, h2⟩, h3⟩ := this
    refine ⟨h1, h2, ?_⟩
    cases ho : ops[d]? with
    | none => rw [ho] at h3; cases h3
    | some o =>
      rw [ho] at h3
      dsimp only at h3
      cases ht : o.dst with
      | none => rw [ht] at h3; cases h3
      | some t =>
        rw [ht] at h3
        simp only [Bool.and_eq_true, decide_eq_true_eq, List.all_eq_true, List.mem_range, Bool.or_eq_true, beq_iff_eq] at h3
        refine ⟨o, t, rfl, ht, h3.1, fun j oj hj hne => ?_⟩
        have := (h3.2 j (Array.getElem?_eq_some_iff.1 hj).1).resolve_left hne
        rw [hj] at this
        simpa using this
  have hf : Fits ops (planOf pl) (pureAt ops) := by
    constructor
    · exact Region.noSelect_spec b1
    · intro k hk
      cases hp : planOf pl k with
      | none => rfl
      | some S => rw [(hl k S hp).2.1] at hk; cases hk
    · intro d S od hd hod j oj hj hne t ht hod'
      obtain ⟨_, _, o, t', ho, ht', _, hown⟩ := hl d S hd
      obtain rfl : o = od := Option.some.inj (ho.symm.trans hod)
      rw [ht'] at hod'
      cases hod'
      exact hown j oj hj hne ht
  have hpw : L.Pairwise (Rel ops (planOf pl) (mask ops)) := pairs_of (fun k i hr => by
    unfold relB at hr
    cases hk : ops[k]? with
    | none => rw [hk] at hr; cases hr
    | some ok =>
      cases hi : ops[i]? with
      | none => rw [hk, hi] at hr; cases hr
      | some oi =>
        rw [hk, hi] at hr
        simp only [Bool.and_eq_true, Bool.or_eq_true, Bool.not_eq_true', List.contains_eq_mem, decide_eq_true_eq] at hr
        obtain ⟨⟨h1, h2⟩, h3⟩ := hr
        refine ⟨fun ok' oi' hk' hi' => ?_, h2, fun oi' hi' hc hp => ?_⟩
        · rw [hk] at hk'; rw [hi] at hi'; cases hk'; cases hi'
          exact h1.imp (fun h => h) fun h => mem_directs.1 h
        · rw [hi] at hi'; cases hi'
          rcases h3 with (h3 | h3) | h3
          · rw [hc] at h3; cases h3
          · cases hpk : planOf pl k with
            | none => exact absurd hpk hp
            | some S =>
              have := lookup_mem hpk
              simp [this] at h3
          · exact h3) L b3
  have htl : Tail ops (planOf pl) (pureAt ops) (mask ops) T L := by
    have key : ∀ t ∈ T, ∀ k ∈ L, _ := fun t ht k hk => (List.all_eq_true.1 ((List.all_eq_true.1 b4) t ht)) k hk
    simp only [Bool.and_eq_true, Bool.or_eq_true, Bool.not_eq_true', List.contains_eq_mem, decide_eq_false_iff_not] at key
    refine ⟨fun t ht k hk hp => ?_, fun t ht k hk hd => ?_, fun t ht k hk hp ok ot hok hot => ?_⟩
    · have := (key t ht k hk).1.1
      rw [hp] at this
      exact this.resolve_left (by simp)
    · exact (key t ht k hk).1.2 (mem_directs.2 hd)
    · have := (key t ht k hk).2
      rw [hp, hok, hot] at this
      have h2 := this.resolve_left (by simp)
      simp only [Bool.or_eq_true, decide_eq_true_eq] at h2
      exact h2.imp (fun h => h) fun h => mem_directs.1 h
  refine wp_region_any hm ?_
  rw [← b10]
  have hal' : ∀ d ∈ al, planOf pl d ≠ none := fun d hd e => by
    have := (List.all_eq_true.1 hal) d hd
    rw [show pl.lookup d = none from e] at this
    cases this
  refine sim2 hal' hnew hRs hf (clos_of b2) hR hR2 (fun d S u w w' hd => stab d S u w w' (lmem hd)) (fun d o S ho hd => ?_) hQ L.length L rfl _ a _ ?_ ?_ hpw htl h
  · obtain ⟨_, _, o', t, ho', ht, _⟩ := hl d S hd
    rw [ho] at ho'
    cases ho'
    rw [ht]
    exact fun h => by cases h
  · constructor
    · rw [Array.size_replicate]; exact b10
    · intro j hj
      have := (List.all_eq_true.1 b6) j (List.mem_range.2 hj)
      simp only [Bool.or_eq_true, List.contains_eq_mem, decide_eq_true_eq] at this
      constructor
      · exact fun _ => this
      · intro _
        rw [← b10] at hj
        simp [hj]
    · intro k d hk
      simp only [Array.getD_eq_getD_getElem?, Array.getElem?_replicate] at hk
      split at hk <;> simp at hk
    · exact b8
    · intro t ht hx
      have := (List.all_eq_true.1 b9) t ht
      simp [hx] at this
    · intro k hk
      simpa using (List.all_eq_true.1 b7) k hk
    · exact hC
    · intro d o S ho hd hnl
      exact absurd (hl d S hd).1 hnl
    · intro d o S t ho hd ht
      obtain ⟨_, _, o', t', ho', ht', hlt, _⟩ := hl d S hd
      rw [ho] at ho'
      cases ho'
      rw [ht] at ht'
      cases ht'
      exact hlt
  · have hin : ∀ d ∈ al, d ∈ L := fun d hd => by
      cases hp : planOf pl d with
      | none => exact absurd hp (hal' d hd)
      | some S => exact (hl d S hp).1
    exact ⟨fun d hd hn => absurd (hin d hd) hn, fun d hd d' hd' hne hn => absurd (hin d hd) hn⟩

/-- the walk, with boxes that lie apart at the end. -/
def walk2 (P : Program) (ops : Array Oper) (C : World → Prop) (R : World → World → Prop) (pl : List (Nat × Loud)) (al T : List Nat) (Q : Exit → Act → World → Prop) (L : List Nat) (a : Act) : Prop :=
  wpSoft P ops C R (planOf pl) (pureAt ops) (mask ops) (Last2 P ops C (planOf pl) al T (NoP Q)) L a

section
variable {P : Program} {ops : Array Oper} {C : World → Prop} {R : World → World → Prop} {pl : List (Nat × Loud)} {al T : List Nat} {Q : Exit → Act → World → Prop} {k : Nat} {rest : List Nat} {a : Act} {o : Oper}

theorem region2_ext {id : Nat} {w : World} (pl : List (Nat × Loud)) (al L T : List Nat) (hm : P.follows .mixedOrders = true) (hB : softB ops L T (pl.map (·.1)) a.tmps.size = true)
    (hal : al.all (fun d => (pl.lookup d).isSome) = true) (hnew : ∀ d ∈ al, ∀ o, ops[d]? = some o → o.guard = none ∧ ∀ (a : Act) (w : World), ∃ c, (execOp a.eval o).run P w = .ok (.value (.pointer (some ⟨w.heap.size, 0, none⟩))) (w.alloc c))
    (stab : ∀ d S u w w', (d, S) ∈ pl → Ext w w' → S.fact u w → S.fact u w')
    (h : walk2 P ops (Ext w) Ext pl al T Q L a) : (Code.region id ops true).wp P Q a w :=
  Code.wp_mono NoP.imp (wp_region_soft2 pl al L T hal hnew (fun _ _ h => h.size) hm hB Ext.refl (fun _ _ h k => k.trans h) stab (Ext.refl _).drew (fun _ _ _ _ _ h => h) h)

theorem pure2_n (ho : ops[k]? = some o) (hg : o.guard = none) (hp : pureKind o.op = true) (hl : pl.lookup k = none)
    (h : ∀ K : Act → Prop, (∀ a, walk2 P ops C R pl al T Q rest a → K a) → ∃ v, (∀ w, (execOp a.eval o).run P w = .ok (.value v) w) ∧ K (a.put o.dst v)) :
    walk2 P ops C R pl al T Q (k :: rest) a := by
  refine ⟨o, ho, ?_⟩
  rw [if_pos (wanted_n hg _)]
  unfold softAt
  rw [if_pos (by unfold pureAt; rw [ho]; exact hp)]
  exact h _ fun _ h => h

theorem quiet2_n (ho : ops[k]? = some o) (hg : o.guard = none) (hp : pureKind o.op = false) (hl : pl.lookup k = none)
    (h : ∀ K : Act → Prop, (∀ a, walk2 P ops C R pl al T Q rest a → K a) → ∃ v, (∀ w, C w → quietR P R o w v ((execOp a.eval o).run P w)) ∧ K (a.put o.dst v)) :
    walk2 P ops C R pl al T Q (k :: rest) a := by
  refine ⟨o, ho, ?_⟩
  rw [if_pos (wanted_n hg _)]
  unfold softAt
  rw [if_neg (by unfold pureAt; rw [ho]; simp [hp]), show planOf pl k = none from hl]
  obtain ⟨v, h1, h2⟩ := h _ fun _ h => h
  exact ⟨v, fun w hw _ => h1 w hw, h2⟩

theorem loud2_step {S : Loud} (ho : ops[k]? = some o) (hp : pureKind o.op = false) (hl : pl.lookup k = some S) (hg : o.guard = none)
    (h : ∀ K : Act → Prop, (∀ a, walk2 P ops C R pl al T Q rest a → K a) → (∀ w, C w → known ops pl k a w → loudR P R S o w ((execOp a.eval o).run P w)) ∧ ∀ u, S.shape u → K (a.put o.dst u)) :
    walk2 P ops C R pl al T Q (k :: rest) a := by
  refine ⟨o, ho, ?_⟩
  rw [if_pos (wanted_n hg _)]
  unfold softAt
  rw [if_neg (by unfold pureAt; rw [ho]; simp [hp]), show planOf pl k = some S from hl]
  exact h _ fun _ h => h
theorem loud2_step0 {S : Loud} (ho : ops[k]? = some o) (hp : pureKind o.op = false) (hl : pl.lookup k = some S) (hg : o.guard = none)
    (h : ∀ K : Act → Prop, (∀ a, walk2 P ops C R pl al T Q rest a → K a) → (∀ w, C w → loudR P R S o w ((execOp a.eval o).run P w)) ∧ ∀ u, S.shape u → K (a.put o.dst u)) :
    walk2 P ops C R pl al T Q (k :: rest) a :=
  loud2_step ho hp hl hg fun K hK => ⟨fun w hw _ => (h K hK).1 w hw, (h K hK).2⟩

/-- the boxes d and d' lie apart. -/
def apart2 (ops : Array Oper) (al : List Nat) (a : Act) : Prop := ∀ d ∈ al, ∀ d' ∈ al, d ≠ d' → ∀ o o', ops[d]? = some o → ops[d']? = some o' → slotOf o a ≠ slotOf o' a
theorem apart2.get {al : List Nat} {a : Act} (h : apart2 ops al a) (d d' : Nat) {o o' : Oper} (hd : d ∈ al) (hd' : d' ∈ al) (hne : d ≠ d') (ho : ops[d]? = some o) (ho' : ops[d']? = some o') : slotOf o a ≠ slotOf o' a := h d hd d' hd' hne o o' ho ho'
theorem tail2_forced (ol : List Oper) (hB : forcedB ops T (listedT ops T) = true)
    (hl : T.map (ops[·]?) = ol.map some) (h : ∀ w, C w → knownAll ops pl a w → apart2 ops al a → wpList P ops (NoP Q) ol a w) : walk2 P ops C R pl al T Q [] a :=
  fun w hC hk hp => forced T ol _ a w hB hl (h w hC hk hp)
end
end Soft
end Go.Proofs.Ytehidhcpdiameaa
