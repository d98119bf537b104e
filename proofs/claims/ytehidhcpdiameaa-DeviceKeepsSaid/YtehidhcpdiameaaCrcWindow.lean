/- The plain law of the sums, on: what is turned in four bytes that stand together turns the sum. -/
import Derived.Test.YtehidhcpdiameaaCrcMath
import Derived.Test.YtehidhcpdiameaaCrcTurn
namespace Go.Proofs.Ytehidhcpdiameaa

theorem window_split (l m : List UInt8) (p : Nat) (hlen : l.length = m.length) (h : ∀ i, (i < p ∨ p + 4 ≤ i) → l[i]? = m[i]?) :
    ∃ a x y z, l = a ++ x ++ z ∧ m = a ++ y ++ z ∧ x.length = y.length ∧ x.length ≤ 4 := by
  refine ⟨l.take p, (l.drop p).take 4, (m.drop p).take 4, l.drop (p + 4), ?_, ?_, by simp [hlen], by simp; omega⟩
  · rw [List.append_assoc, ← List.drop_drop, List.take_append_drop, List.take_append_drop]
  · have h1 : l.take p = m.take p := by
      apply List.ext_getElem?
      intro i
      by_cases hi : i < p
      · rw [List.getElem?_take_of_lt hi, List.getElem?_take_of_lt hi]; exact h i (.inl hi)
      · rw [List.getElem?_eq_none (by simp; omega), List.getElem?_eq_none (by simp; omega)]
    have h2 : l.drop (p + 4) = m.drop (p + 4) := by
      apply List.ext_getElem?
      intro i
      rw [List.getElem?_drop, List.getElem?_drop]
      exact h _ (.inr (by omega))
    rw [h1, h2, List.append_assoc, ← List.drop_drop, List.take_append_drop, List.take_append_drop]

theorem reg_inj (l m : List UInt8) (p : Nat) (hlen : l.length = m.length) (h : ∀ i, (i < p ∨ p + 4 ≤ i) → l[i]? = m[i]?) (c : Nat) (hr : Crc.reg c l = Crc.reg c m) : l = m := by
  obtain ⟨a, x, y, z, rfl, rfl, hxy, h4⟩ := window_split l m p hlen h
  rw [Crc.reg_window_inj c a x y z hxy h4 hr]

theorem sum_inj (l m : List UInt8) (p : Nat) (hlen : l.length = m.length) (h : ∀ i, (i < p ∨ p + 4 ≤ i) → l[i]? = m[i]?) (hr : Crc.sum l = Crc.sum m) : l = m := by
  refine reg_inj l m p hlen h 4294967295 ?_
  have h1 := Crc.reg_lt l (c := 4294967295) (by decide)
  have h2 := Crc.reg_lt m (c := 4294967295) (by decide)
  unfold Crc.sum at hr
  omega

theorem open_inj (l m : List UInt8) (p : Nat) (hlen : (Crc.seal_ l).length = m.length) (h : ∀ i, (i < p ∨ p + 4 ≤ i) → (Crc.seal_ l)[i]? = m[i]?) : (Crc.opn m).2 = true ↔ m = Crc.seal_ l := by
  constructor
  · intro ho
    have hr := (Crc.opn_iff m).1 ho
    exact (reg_inj (Crc.seal_ l) m p hlen h 4294967295 (by rw [hr.2, Crc.reg_seal])).symm
  · intro he
    rw [he, Crc.opn_seal]

/-- the bytes from a place on, turned one by one. -/
def turnTo (l : List UInt8) (p : Nat) (b : List UInt8) : Nat → List UInt8
  | 0 => l
  | k + 1 => if p + k < l.length then turn (turnTo l p b k) (p + k) (b.getD k 0) else turnTo l p b k

theorem turnTo_length (l : List UInt8) (p : Nat) (b : List UInt8) : ∀ k, (turnTo l p b k).length = l.length
  | 0 => rfl
  | k + 1 => by
    unfold turnTo
    split
    · rw [turn_length, turnTo_length l p b k]
    · exact turnTo_length l p b k

theorem turnTo_out (l : List UInt8) (p : Nat) (b : List UInt8) : ∀ k i, (i < p ∨ p + k ≤ i) → l[i]? = (turnTo l p b k)[i]?
  | 0, _, _ => rfl
  | k + 1, i, hi => by
    have ih := turnTo_out l p b k i (by omega)
    unfold turnTo
    split
    · unfold turn
      rw [List.getElem?_set_ne (by omega)]
      exact ih
    · exact ih

theorem turnTo_step (l : List UInt8) (p : Nat) (b : List UInt8) (k : Nat) (h : p + k < l.length) : turnTo l p b (k + 1) = turn (turnTo l p b k) (p + k) (b.getD k 0) := by
  conv => lhs; unfold turnTo
  rw [if_pos h]

theorem turnTo_stop (l : List UInt8) (p : Nat) (b : List UInt8) (k : Nat) (h : l.length ≤ p + k) : ∀ j, turnTo l p b (k + j) = turnTo l p b k
  | 0 => rfl
  | j + 1 => by
    rw [← Nat.add_assoc]
    conv => lhs; unfold turnTo
    rw [if_neg (by omega)]
    exact turnTo_stop l p b k h j

end Go.Proofs.Ytehidhcpdiameaa
