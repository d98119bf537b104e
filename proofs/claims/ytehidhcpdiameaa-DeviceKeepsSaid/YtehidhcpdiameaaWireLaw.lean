/- The plain law of layer 10, on: lists of numbers as bytes; what is told is taken, what is taken is told by just these bytes. -/
import Derived.Test.YtehidhcpdiameaaWireText
namespace Go.Proofs.Ytehidhcpdiameaa
namespace Wire
/-- no number that can be told. -/
def bad (n : Int) : Bool := decide (num n = [])
/-- how many numbers, and each. -/
def ints (l : List Int) : List UInt8 := if l.any bad then [] else num (l.length : Int) ++ l.flatMap num
theorem flatMap_size (l : List Int) : (l.flatMap num).length ≤ 6 * l.length := by
  induction l with
  | nil => simp
  | cons n l ih => rw [List.flatMap_cons, List.length_append, List.length_cons]; have := num_size n; omega
theorem ints_size (l : List Int) : (ints l).length ≤ 6 * l.length + 6 := by
  unfold ints
  split
  · simp
  · rw [List.length_append]; have := num_size (l.length : Int); have := flatMap_size l; omega
theorem take_any_snoc (l : List Int) (k : Nat) (h : k < l.length) (p : Int → Bool) : (l.take (k + 1)).any p = ((l.take k).any p || p l[k]) := by
  rw [List.take_succ_eq_append_getElem h]; simp only [List.any_append, List.any_cons, List.any_nil, Bool.or_false]
theorem take_flat_snoc (l : List Int) (k : Nat) (h : k < l.length) : (l.take (k + 1)).flatMap num = (l.take k).flatMap num ++ num l[k] := by
  rw [List.take_succ_eq_append_getElem h]; simp only [List.flatMap_append, List.flatMap_cons, List.flatMap_nil, List.append_nil]
theorem any_of_bad (l : List Int) (k : Nat) (h : k < l.length) (hb : bad l[k] = true) : l.any bad = true := List.any_eq_true.2 ⟨_, List.getElem_mem h, hb⟩
end Wire

namespace Wire

/-- the numbers that stand from a place on, one behind the other, and the place behind them. -/
def upto (l : List UInt8) (q : Int) : Nat → Option (List Int × Int)
  | 0 => some ([], q)
  | k + 1 => match upto l q k with
    | none => none
    | some (ns, p) => if (takeAt l p).2.2 then some (ns ++ [((takeAt l p).1 : Int)], (takeAt l p).2.1) else none

/-- the list of numbers that stands at a place, and the place behind it. -/
def takeIntsAt (l : List UInt8) (p : Int) : List Int × Int × Bool :=
  if (takeAt l p).2.2 && decide (((takeAt l p).1 : Int) ≤ (l.length : Int) - (takeAt l p).2.1) then
    match upto l (takeAt l p).2.1 (takeAt l p).1 with
    | some (ns, r) => (ns, r, true)
    | none => ([], 0, false)
  else ([], 0, false)

theorem upto_none (l : List UInt8) (q : Int) (k : Nat) (h : upto l q k = none) : ∀ j, upto l q (k + j) = none
  | 0 => h
  | j + 1 => by rw [← Nat.add_assoc, upto, upto_none l q k h j]

theorem upto_succ (l : List UInt8) (q : Int) (k : Nat) (ns : List Int) (p : Int) (h : upto l q k = some (ns, p)) (n : Nat) (r : Int) (ht : takeAt l p = (n, r, true)) :
    upto l q (k + 1) = some (ns ++ [(n : Int)], r) := by
  rw [upto, h]; simp only [ht, if_true]

theorem upto_fail (l : List UInt8) (q : Int) (k : Nat) (ns : List Int) (p : Int) (h : upto l q k = some (ns, p)) (n : Nat) (r : Int) (ht : takeAt l p = (n, r, false)) :
    upto l q (k + 1) = none := by
  rw [upto, h]; simp only [ht, Bool.false_eq_true, if_false]

theorem numN_pos (n : Nat) : 1 ≤ (numN n).length := digits_pos 5 n
theorem numN_le (n : Nat) : (numN n).length ≤ 6 := digits_length 5 n

theorem num_good (n : Int) (h : 0 ≤ n) (h2 : n < lim) : num n = numN n.toNat := by
  unfold num; rw [if_neg (by omega)]
theorem num_none (n : Int) : num n = [] ↔ n < 0 ∨ (lim : Int) ≤ n := by
  unfold num
  split
  · simp [*]
  · have := numN_pos n.toNat
    constructor
    · intro h; rw [h] at this; simp at this
    · intro h; contradiction
theorem good_of (n : Int) (h : bad n = false) : 0 ≤ n ∧ n < lim := by
  unfold bad at h
  have := decide_eq_false_iff_not.1 h
  rw [num_none] at this
  omega
theorem bad_of (n : Nat) (h : n < lim) : bad (n : Int) = false := by
  unfold bad
  apply decide_eq_false
  rw [num_none]
  omega

theorem takeAt_drop (l : List UInt8) (p n : Nat) (rest : List UInt8) (h : l.drop p = numN n ++ rest) (hn : n < lim) :
    takeAt l p = (n, (p : Int) + (numN n).length, true) := by
  have hp := numN_pos n
  have hlen : p < l.length := by
    have := congrArg List.length h
    rw [List.length_drop, List.length_append] at this
    omega
  unfold takeAt
  rw [if_neg (by omega), Int.toNat_natCast, h, take_num n rest hn]

theorem takeAt_told (l : List UInt8) (p : Int) (n : Nat) (q : Int) (h : takeAt l p = (n, q, true)) :
    0 ≤ p ∧ p < q ∧ q ≤ l.length ∧ n < lim ∧ (l.drop p.toNat).take (q - p).toNat = numN n ∧ q = p + (numN n).length := by
  have hb := takeAt_bounds l p n q h
  unfold takeAt at h
  by_cases hp : p < 0 ∨ (l.length : Int) ≤ p
  · rw [if_pos hp] at h; simp at h
  · rw [if_neg hp] at h
    cases ht : take (l.drop p.toNat) with
    | none => rw [ht] at h; simp at h
    | some r =>
      obtain ⟨m, c⟩ := r
      rw [ht] at h
      simp only [Prod.mk.injEq, and_true] at h
      obtain ⟨rfl, rfl⟩ := h
      obtain ⟨h1, h2, h3, h4, h5⟩ := take_spec _ _ _ ht
      refine ⟨by omega, by omega, hb.2.2.1, h1, ?_, by rw [← h2]⟩
      rw [show (p + (c : Int) - p).toNat = c from by omega]
      exact h4

theorem upto_flat (l : List UInt8) (q : Nat) (xs : List Int) (rest : List UInt8) (hg : xs.any bad = false) (h : l.drop q = xs.flatMap num ++ rest) :
    ∀ k, k ≤ xs.length → upto l q k = some (xs.take k, (q : Int) + ((xs.take k).flatMap num).length) := by
  intro k
  induction k with
  | zero => intro _; simp [upto]
  | succ k ih =>
    intro hk
    have hlt : k < xs.length := by omega
    have hgood := good_of xs[k] (by
      cases hb : bad xs[k] with
      | false => rfl
      | true => rw [any_of_bad xs k hlt hb] at hg; cases hg)
    have hn := num_good xs[k] hgood.1 hgood.2
    have hsplit : xs = xs.take k ++ xs[k] :: xs.drop (k + 1) := by
      rw [← List.drop_eq_getElem_cons hlt, List.take_append_drop]
    have hdrop : l.drop (q + ((xs.take k).flatMap num).length) = numN xs[k].toNat ++ ((xs.drop (k + 1)).flatMap num ++ rest) := by
      rw [← List.drop_drop, h]
      have h2 : xs.flatMap num = (xs.take k).flatMap num ++ (num xs[k] ++ (xs.drop (k + 1)).flatMap num) := by
        conv => lhs; rw [hsplit]
        rw [List.flatMap_append, List.flatMap_cons]
      rw [h2, List.append_assoc, List.drop_left, hn, List.append_assoc]
    have ht := takeAt_drop l _ xs[k].toNat _ hdrop (by omega)
    rw [Int.natCast_add] at ht
    rw [upto_succ l q k _ _ (ih (by omega)) _ _ ht, take_flat_snoc xs k hlt, List.take_succ_eq_append_getElem hlt, hn, List.length_append]
    simp only [Option.some.injEq, Prod.mk.injEq]
    refine ⟨by rw [Int.toNat_of_nonneg hgood.1], by omega⟩

theorem flat_len (xs : List Int) (hg : xs.any bad = false) : xs.length ≤ (xs.flatMap num).length := by
  induction xs with
  | nil => simp
  | cons x xs ih =>
    rw [List.any_cons, Bool.or_eq_false_iff] at hg
    have hgood := good_of x hg.1
    rw [List.flatMap_cons, List.length_append, List.length_cons, num_good x hgood.1 hgood.2]
    have := numN_pos x.toNat
    have := ih hg.2
    omega

/-- a list that is told is taken. -/
theorem takeInts_told (xs : List Int) (ahead behind : List UInt8) (hl : xs.length < lim) (h : ints xs ≠ []) :
    takeIntsAt (ahead ++ ints xs ++ behind) ahead.length = (xs, (ahead.length : Int) + (ints xs).length, true) := by
  have hg : xs.any bad = false := by
    cases hb : xs.any bad with
    | false => rfl
    | true => unfold ints at h; rw [if_pos hb] at h; exact absurd rfl h
  have he : ints xs = numN xs.length ++ xs.flatMap num := by
    unfold ints
    rw [hg, num_good _ (by omega) (by omega), Int.toNat_natCast]
    rfl
  have h1 : (ahead ++ ints xs ++ behind).drop ahead.length = numN xs.length ++ (xs.flatMap num ++ behind) := by
    rw [he, List.append_assoc, List.drop_left, List.append_assoc]
  have ht := takeAt_drop _ _ _ _ h1 hl
  have h2 : (ahead ++ ints xs ++ behind).drop (ahead.length + (numN xs.length).length) = xs.flatMap num ++ behind := by
    rw [← List.drop_drop, h1, List.drop_left]
  have hu := upto_flat _ _ xs behind hg h2 xs.length (Nat.le_refl _)
  rw [List.take_length, Int.natCast_add] at hu
  have hf := flat_len xs hg
  unfold takeIntsAt
  rw [ht]
  simp only [Bool.true_and]
  rw [if_pos (by apply decide_eq_true; rw [he]; simp only [List.length_append]; omega), hu]
  simp only [Prod.mk.injEq, and_true, true_and]
  rw [he, List.length_append]
  omega

theorem upto_told (l : List UInt8) (q : Int) (h0 : 0 ≤ q) (h1 : q ≤ l.length) : ∀ k ns r, upto l q k = some (ns, r) →
    ns.length = k ∧ q ≤ r ∧ r ≤ l.length ∧ ns.any bad = false ∧ (l.drop q.toNat).take (r - q).toNat = ns.flatMap num := by
  intro k
  induction k with
  | zero =>
    intro ns r h
    simp only [upto, Option.some.injEq, Prod.mk.injEq] at h
    obtain ⟨rfl, rfl⟩ := h
    refine ⟨rfl, by omega, h1, rfl, ?_⟩
    rw [Int.sub_self]; rfl
  | succ k ih =>
    intro ns r h
    cases hu : upto l q k with
    | none => rw [upto, hu] at h; cases h
    | some x =>
      obtain ⟨ms, p⟩ := x
      obtain ⟨e1, e2, e3, e4, e5⟩ := ih ms p hu
      obtain ⟨⟨n, t, b⟩, ht⟩ : ∃ x, x = takeAt l p := ⟨_, rfl⟩
      cases b with
      | false => rw [upto_fail l q k ms p hu n t ht.symm] at h; cases h
      | true =>
        rw [upto_succ l q k ms p hu n t ht.symm] at h
        simp only [Option.some.injEq, Prod.mk.injEq] at h
        obtain ⟨rfl, rfl⟩ := h
        obtain ⟨f1, f2, f3, f4, f5, f6⟩ := takeAt_told l p n t ht.symm
        have hn : num (n : Int) = numN n := by rw [num_good _ (by omega) (by omega), Int.toNat_natCast]
        refine ⟨by simp [e1], by omega, f3, by simp [e4, bad_of n f4], ?_⟩
        rw [show (t - q).toNat = (p - q).toNat + (t - p).toNat from by omega, List.take_add, e5, List.drop_drop,
          show q.toNat + (p - q).toNat = p.toNat from by omega, f5, List.flatMap_append, List.flatMap_cons, List.flatMap_nil, List.append_nil, hn]

/-- a list that is taken is told by just the bytes that it was taken from. -/
theorem takeInts_once (l : List UInt8) (p : Int) (ns : List Int) (r : Int) (h : takeIntsAt l p = (ns, r, true)) :
    0 ≤ p ∧ p < r ∧ r ≤ l.length ∧ ns.length < lim ∧ ints ns = (l.drop p.toNat).take (r - p).toNat := by
  unfold takeIntsAt at h
  obtain ⟨⟨n, t, b⟩, ht⟩ : ∃ x, x = takeAt l p := ⟨_, rfl⟩
  rw [← ht] at h
  cases b with
  | false => simp at h
  | true =>
    obtain ⟨f1, f2, f3, f4, f5, f6⟩ := takeAt_told l p n t ht.symm
    by_cases hc : (n : Int) ≤ (l.length : Int) - t
    · simp only [Bool.true_and, decide_eq_true hc, if_true] at h
      cases hu : upto l t n with
      | none => rw [hu] at h; simp at h
      | some x =>
        obtain ⟨ms, q⟩ := x
        rw [hu] at h
        simp only [Prod.mk.injEq, and_true] at h
        obtain ⟨rfl, rfl⟩ := h
        obtain ⟨e1, e2, e3, e4, e5⟩ := upto_told l t (by omega) f3 n ms q hu
        refine ⟨f1, by omega, e3, by omega, ?_⟩
        unfold ints
        rw [e4, e1, num_good _ (by omega) (by omega), Int.toNat_natCast, ← e5, ← f5,
          show (q - p).toNat = (t - p).toNat + (q - t).toNat from by omega, List.take_add, List.drop_drop,
          show p.toNat + (t - p).toNat = t.toNat from by omega]
        rfl
    · simp only [Bool.true_and, decide_eq_false hc, Bool.false_eq_true, if_false] at h
      simp at h

theorem takeIntsAt_no (l : List UInt8) (p : Int) (h : (takeIntsAt l p).2.2 = false) : takeIntsAt l p = ([], 0, false) := by
  unfold takeIntsAt at h ⊢
  split
  · rename_i hc
    rw [if_pos hc] at h
    split
    · rename_i ns r hu; rw [hu] at h; cases h
    · rfl
  · rfl

/-- unlike lists have unlike bytes. -/
theorem ints_inj (l m : List Int) (hl : l.length < lim) (hm : m.length < lim) (h1 : ints l ≠ []) (h2 : ints m ≠ []) : ints l = ints m ↔ l = m := by
  constructor
  · intro h
    have a := takeInts_told l [] [] hl h1
    have b := takeInts_told m [] [] hm h2
    rw [h] at a
    rw [a] at b
    exact (Prod.mk.inj b).1
  · intro h; rw [h]

theorem num_inj (a b : Int) (ha : num a ≠ []) (hb : num b ≠ []) (rest : List UInt8) (h : num b = num a ++ rest) : a = b := by
  rw [Ne, num_none] at ha hb
  rw [num_good a (by omega) (by omega), num_good b (by omega) (by omega)] at h
  have h1 := take_num a.toNat rest (by omega)
  have h2 := take_num b.toNat [] (by omega)
  rw [List.append_nil, h, h1] at h2
  simp only [Option.some.injEq, Prod.mk.injEq] at h2
  omega

theorem digits_mono : ∀ (f a b : Nat), a ≤ b → (digits f a).length ≤ (digits f b).length
  | 0, _, _, _ => by simp [digits]
  | f + 1, a, b, h => by
    unfold digits
    by_cases ha : a < 128
    · rw [if_pos ha]
      split <;> simp
    · rw [if_neg ha, if_neg (by omega)]
      simp only [List.length_cons]
      have := digits_mono f (a / 128) (b / 128) (Nat.div_le_div_right h)
      omega

theorem num_mono (a b : Int) (h0 : 0 ≤ a) (h : a ≤ b) (hb : b < lim) : 1 ≤ (num a).length ∧ (num a).length ≤ (num b).length ∧ (num b).length ≤ 6 := by
  rw [num_good a h0 (by omega), num_good b (by omega) hb]
  exact ⟨numN_pos _, digits_mono 5 _ _ (by omega), numN_le _⟩

/-- a number that is told is taken. -/
theorem take_told (n : Int) (ahead behind : List UInt8) (h : num n ≠ []) :
    takeAt (ahead ++ num n ++ behind) ahead.length = (n.toNat, (ahead.length : Int) + (num n).length, true) := by
  rw [Ne, num_none] at h
  rw [num_good n (by omega) (by omega)]
  exact takeAt_drop _ _ _ behind (by rw [List.append_assoc, List.drop_left]) (by omega)

/-- a text that is told is taken. -/
theorem takeText_told (t ahead behind : List UInt8) (h : t.length < lim) :
    takeTextAt (ahead ++ text t ++ behind) ahead.length = (t, (ahead.length : Int) + (text t).length, true) := by
  have hn : num (t.length : Int) = numN t.length := by rw [num_good _ (by omega) (by omega), Int.toNat_natCast]
  have h1 : (ahead ++ text t ++ behind).drop ahead.length = numN t.length ++ (t ++ behind) := by
    unfold text; rw [hn, List.append_assoc, List.drop_left, List.append_assoc]
  have ht := takeAt_drop _ _ _ _ h1 h
  unfold takeTextAt
  rw [ht]
  simp only [Bool.true_and]
  rw [if_pos (by apply decide_eq_true; unfold text; rw [hn]; simp only [List.length_append]; omega)]
  simp only [Prod.mk.injEq, and_true]
  refine ⟨?_, by unfold text; rw [hn, List.length_append]; omega⟩
  rw [show ((ahead.length : Int) + (numN t.length).length).toNat = ahead.length + (numN t.length).length from by omega, ← List.drop_drop, h1, List.drop_left, List.take_left]

end Wire
end Go.Proofs.Ytehidhcpdiameaa
