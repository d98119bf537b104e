/- The plain law of which image counts (layer 12): lists of bytes alone, no program. -/
import Derived.Test.YtehidhcpdiameaaPageTornMath
namespace Go.Proofs.Ytehidhcpdiameaa
namespace Super

/-- how often, in which area, how many bytes. -/
abbrev S3 := Int × Int × Int
def ok (x : S3) : Bool := decide (1 ≤ x.1 ∧ x.1 < 1099511627776 ∧ 0 ≤ x.2.1 ∧ x.2.1 ≤ 1 ∧ 0 ≤ x.2.2 ∧ x.2.2 ≤ 1000000)
def body (x : S3) : List UInt8 := Wire.ints [x.1, x.2.1, x.2.2]
/-- the sector of one. -/
def lay (x : S3) : List UInt8 := if ok x then (Page.lay (body x)).headD [] else []
/-- what a sector opens to, if the list that is read in it has three numbers. -/
def three (l : List Int) : Option S3 := match l with | [a, b, c] => some (a, b, c) | _ => none
def opn (s : List UInt8) : S3 × Bool :=
  if (Page.opn [s]).2 && (Wire.takeIntsAt (Page.opn [s]).1 0).2.2 then
    match three (Wire.takeIntsAt (Page.opn [s]).1 0).1 with
    | some x => if lay x = s then (x, true) else ((0, 0, 0), false)
    | none => ((0, 0, 0), false)
  else ((0, 0, 0), false)
/-- which of two sectors counts. -/
def choose (a b : List UInt8) : S3 × Int × Bool :=
  if (opn b).2 && (!(opn a).2 || decide ((opn a).1.1 < (opn b).1.1)) then ((opn b).1, 1, true)
  else if (opn a).2 then ((opn a).1, 0, true) else ((0, 0, 0), 0, false)

theorem ok_iff (x : S3) : ok x = true ↔ 1 ≤ x.1 ∧ x.1 < 1099511627776 ∧ 0 ≤ x.2.1 ∧ x.2.1 ≤ 1 ∧ 0 ≤ x.2.2 ∧ x.2.2 ≤ 1000000 := by unfold ok; exact decide_eq_true_iff

theorem num_len (n m : Int) (k : Nat) (h0 : 0 ≤ n) (h : n ≤ m) (hm : m < 1099511627776) (hk : (Wire.num m).length = k) : 1 ≤ (Wire.num n).length ∧ (Wire.num n).length ≤ k := by
  have := Wire.num_mono n m h0 h (by rw [Wire.lim_eq]; omega)
  omega

theorem good (n : Int) (h0 : 0 ≤ n) (h : n < 1099511627776) : Wire.bad n = false := by
  unfold Wire.bad
  apply decide_eq_false
  rw [Wire.num_none, Wire.lim_eq]
  omega

theorem body_eq (x : S3) (h : ok x = true) : body x = Wire.num 3 ++ (Wire.num x.1 ++ (Wire.num x.2.1 ++ Wire.num x.2.2)) ∧ body x ≠ [] ∧ (body x).length ≤ 11 := by
  obtain ⟨h1, h2, h3, h4, h5, h6⟩ := (ok_iff x).1 h
  have e : body x = Wire.num 3 ++ (Wire.num x.1 ++ (Wire.num x.2.1 ++ Wire.num x.2.2)) := by
    unfold body Wire.ints
    rw [show [x.1, x.2.1, x.2.2].any Wire.bad = false from by
      simp only [List.any_cons, List.any_nil, good x.1 (by omega) h2, good x.2.1 h3 (by omega), good x.2.2 h5 (by omega)]; rfl]
    simp
  have l3 : (Wire.num 3).length = 1 := by decide +kernel
  have l1 := (Wire.num_mono x.1 x.1 (by omega) (by omega) (by rw [Wire.lim_eq]; omega)).2.2
  have la := num_len x.2.1 1 1 h3 h4 (by omega) (by decide +kernel)
  have ls := num_len x.2.2 1000000 3 h5 h6 (by omega) (by decide +kernel)
  refine ⟨e, fun hn => ?_, ?_⟩
  · have := congrArg List.length hn
    rw [e] at this
    simp only [List.length_append, List.length_nil] at this
    omega
  · rw [e]
    simp only [List.length_append]
    omega

/-- one sector. -/
theorem lay_one (x : S3) (h : ok x = true) : Page.lay (body x) = [lay x] := by
  obtain ⟨_, _, hl⟩ := body_eq x h
  have hn : (Wire.num ((body x).length : Int)).length ≤ 2 := Page.num_two _ (by omega)
  have h1 : (Page.lay (body x)).length = 1 := by
    rw [Page.lay_length, Page.sealed_length]
    unfold Page.secs
    omega
  unfold lay
  rw [if_pos h]
  match hp : Page.lay (body x), h1 with
  | [y], _ => rfl

theorem lay_no (x : S3) (h : ok x = false) : lay x = [] := by unfold lay; rw [if_neg (by rw [h]; decide)]
theorem lay_length (x : S3) (h : ok x = true) : (lay x).length = 32 := by
  have := Page.lay_each (body x) (lay x) (by rw [lay_one x h]; simp)
  exact this
theorem lay_ne (x : S3) (h : ok x = true) : lay x ≠ [] := fun e => by have := lay_length x h; rw [e] at this; cases this
theorem lay_nil (x : S3) : lay x = [] ↔ ok x = false := by
  constructor
  · intro h
    cases hx : ok x with
    | false => rfl
    | true => exact absurd h (lay_ne x hx)
  · exact lay_no x

theorem take_body (x : S3) (h : ok x = true) : Wire.takeIntsAt (body x) 0 = ([x.1, x.2.1, x.2.2], ((body x).length : Int), true) := by
  obtain ⟨_, hne, _⟩ := body_eq x h
  have := Wire.takeInts_told [x.1, x.2.1, x.2.2] [] [] (by rw [Wire.lim_eq]; show 3 < _; decide) hne
  rw [List.nil_append, List.append_nil] at this
  simpa [body] using this

/-- what is laid is opened. -/
theorem opn_lay (x : S3) (h : ok x = true) : opn (lay x) = (x, true) := by
  have hlim : (body x).length < Wire.lim := by rw [Wire.lim_eq]; have := (body_eq x h).2.2; omega
  have hp : Page.opn [lay x] = (body x, true) := by rw [← lay_one x h]; exact Page.opn_prefix _ _ hlim (List.prefix_refl _)
  unfold opn
  rw [hp]
  dsimp only
  rw [take_body x h]
  simp only [Bool.and_self, if_true, three]

/-- what is opened was laid so; else it is nothing. -/
theorem opn_spec (s : List UInt8) : opn s = ((0, 0, 0), false) ∧ (∀ x, ok x = true → lay x ≠ s) ∨ ∃ x, opn s = (x, true) ∧ lay x = s ∧ ok x = true := by
  by_cases h : ∃ x, ok x = true ∧ lay x = s
  · obtain ⟨x, hx, rfl⟩ := h
    exact .inr ⟨x, opn_lay x hx, rfl, hx⟩
  · refine .inl ⟨?_, fun x hx he => h ⟨x, hx, he⟩⟩
    unfold opn
    split
    · rename_i hc
      split
      · rename_i x ht
        split
        · rename_i he
          cases hx : ok x with
          | true => exact absurd ⟨x, hx, he⟩ h
          | false =>
            rw [lay_no x hx] at he
            subst he
            have hp : Page.opn [[]] = ([], false) := Page.opn_first [] [] (by decide)
            rw [hp] at hc
            simp at hc
        · rfl
      · rfl
    · rfl

theorem lay_inj (x y : S3) (hx : ok x = true) (hy : ok y = true) : lay x = lay y ↔ x = y := by
  constructor
  · intro h
    have h1 := opn_lay x hx
    rw [h, opn_lay y hy] at h1
    exact (Prod.mk.inj h1).1.symm
  · intro h; rw [h]

/-- what was laid, changed in up to four bytes that stand together (not its first one), is not opened. -/
theorem broken (x : S3) (hx : ok x = true) (p : Nat) (bs : List UInt8) (h1 : 1 ≤ p) (hp : p ≤ 28) :
    opn (turnTo (lay x) p bs 4) = if turnTo (lay x) p bs 4 = lay x then (x, true) else ((0, 0, 0), false) := by
  split
  · rename_i h; rw [h]; exact opn_lay x hx
  · rename_i hne
    rcases opn_spec (turnTo (lay x) p bs 4) with ⟨h, _⟩ | ⟨y, _, hy, hok⟩
    · exact h
    · exfalso
      apply hne
      -- the first byte, which tells how long the text is, is the same: so are both texts' sectors as long
      have ly := lay_one y hok
      have lx := lay_one x hx
      have hyl : (turnTo (lay x) p bs 4).length = (lay x).length := turnTo_length _ _ _ _
      have hag := turnTo_out (lay x) p bs 4
      have fy := Page.lay_flat (body y)
      have fx := Page.lay_flat (body x)
      rw [ly, List.flatten_cons, List.flatten_nil, List.append_nil, hy] at fy
      rw [lx, List.flatten_cons, List.flatten_nil, List.append_nil] at fx
      have hreg : ∀ z : S3, ok z = true → (Page.sealed (body z)).length + (32 * Page.secs (Page.sealed (body z)).length - (Page.sealed (body z)).length) = 32 := fun z hz => by
        have h1 := lay_length z hz
        have h2 := Page.lay_flat (body z)
        rw [lay_one z hz, List.flatten_cons, List.flatten_nil, List.append_nil] at h2
        have := congrArg List.length h2
        rw [List.length_append, List.length_replicate, h1] at this
        exact this.symm
      -- the number of bytes of the text is in the first byte
      have hb : ∀ z : S3, ok z = true → ∃ r, lay z = UInt8.ofNat (body z).length :: r := fun z hz => by
        obtain ⟨_, _, hl⟩ := body_eq z hz
        obtain ⟨rest, hr, _⟩ := Page.lay_head (body z) []
        rw [List.append_nil, lay_one z hz, List.flatten_cons, List.flatten_nil, List.append_nil] at hr
        have hn : Wire.num ((body z).length : Int) = [UInt8.ofNat (body z).length] := by
          rw [Wire.num_good _ (by omega) (by rw [Wire.lim_eq]; omega), Int.toNat_natCast]
          unfold Wire.numN Wire.digits
          rw [if_pos (by omega)]
        unfold Wire.text at hr
        rw [hn] at hr
        exact ⟨_, hr⟩
      obtain ⟨rx, ex⟩ := hb x hx
      obtain ⟨ry, ey⟩ := hb y hok
      have hlen : (body y).length = (body x).length := by
        have h0 := hag 0 (.inl (by omega))
        rw [← hy, ex, ey] at h0
        simp only [List.getElem?_cons_zero, Option.some.injEq] at h0
        have hlx := (body_eq x hx).2.2
        have hly := (body_eq y hok).2.2
        have := congrArg UInt8.toNat h0
        rw [UInt8.toNat_ofNat', UInt8.toNat_ofNat'] at this
        omega
      have hsl : (Page.sealed (body y)).length = (Page.sealed (body x)).length := by rw [Page.sealed_length, Page.sealed_length, hlen]
      rw [hsl] at fy
      have hr : Crc.reg 4294967295 (lay x) = Crc.reg 4294967295 (turnTo (lay x) p bs 4) := by
        rw [fy, fx, Page.reg_sealed, Page.reg_sealed]
      exact (reg_inj (lay x) (turnTo (lay x) p bs 4) p hyl.symm hag 4294967295 hr).symm

end Super
end Go.Proofs.Ytehidhcpdiameaa
