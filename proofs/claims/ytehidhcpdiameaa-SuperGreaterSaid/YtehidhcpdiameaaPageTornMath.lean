/- The plain law of sealed texts in sectors, on: what is turned in four bytes that stand together is not opened. -/
import Derived.Test.YtehidhcpdiameaaPageMath
namespace Go.Proofs.Ytehidhcpdiameaa
namespace Page

theorem set_flat (L : List (List UInt8)) (i : Nat) (hi : i < L.length) (Y : List UInt8) : (L.set i Y).flatten = (L.take i).flatten ++ (Y ++ (L.drop (i + 1)).flatten) := by
  rw [List.set_eq_take_append_cons_drop, if_pos hi, List.flatten_append, List.flatten_cons]
theorem get_flat (L : List (List UInt8)) (i : Nat) (hi : i < L.length) : L.flatten = (L.take i).flatten ++ (L[i] ++ (L.drop (i + 1)).flatten) := by
  conv => lhs; rw [← List.take_append_drop i L, List.drop_eq_getElem_cons hi, List.flatten_append, List.flatten_cons]

theorem agree (A X Y B : List UInt8) (p : Nat) (hl : X.length = Y.length) (h : ∀ j, (j < p ∨ p + 4 ≤ j) → X[j]? = Y[j]?) :
    ∀ j, (j < A.length + p ∨ A.length + p + 4 ≤ j) → (A ++ (X ++ B))[j]? = (A ++ (Y ++ B))[j]? := by
  intro j hj
  rcases Nat.lt_or_ge j A.length with h1 | h1
  · rw [List.getElem?_append_left h1, List.getElem?_append_left h1]
  · rw [List.getElem?_append_right h1, List.getElem?_append_right h1]
    rcases Nat.lt_or_ge (j - A.length) X.length with h2 | h2
    · rw [List.getElem?_append_left h2, List.getElem?_append_left (by omega)]
      exact h _ (by omega)
    · rw [List.getElem?_append_right h2, List.getElem?_append_right (by omega), hl]

theorem reg_sealed (s : List UInt8) (k : Nat) : Crc.reg 4294967295 (sealed s ++ List.replicate k 0) = Crc.steps (8 * k) Crc.residue := by
  unfold sealed
  rw [Crc.reg_append, Crc.reg_seal, Crc.reg_zeros]

theorem num_two (n : Nat) (h : n ≤ 1000) : (Wire.num (n : Int)).length ≤ 2 := by
  have h1 := (Wire.num_mono (n : Int) 16383 (by omega) (by omega) (by rw [Wire.lim_eq]; omega)).2.1
  have h2 : (Wire.num 16383).length = 2 := by decide +kernel
  omega

/-- the first bytes of a sector tell how long its text is. -/
theorem head_same (x x0 : List UInt8) (n : Nat) (hn : n ≤ 1000) (h0 : Wire.numN n <+: x0) (h : x.take 2 = x0.take 2) :
    Wire.takeAt x 0 = (n, ((Wire.num (n : Int)).length : Int), true) := by
  have hl := num_two n hn
  have hlim : n < Wire.lim := by rw [Wire.lim_eq]; omega
  have e : Wire.num (n : Int) = Wire.numN n := by rw [Wire.num_good _ (by omega) (by omega), Int.toNat_natCast]
  rw [e] at hl ⊢
  have h1 : Wire.numN n <+: x := by
    rw [List.prefix_iff_eq_take] at h0 ⊢
    have h2 : x0.take (Wire.numN n).length = (x0.take 2).take (Wire.numN n).length := by rw [List.take_take, Nat.min_eq_left hl]
    have h3 : x.take (Wire.numN n).length = (x.take 2).take (Wire.numN n).length := by rw [List.take_take, Nat.min_eq_left hl]
    rw [h3, h, ← h2]
    exact h0
  obtain ⟨y, rfl⟩ := h1
  have := Wire.takeAt_drop (Wire.numN n ++ y) 0 n y (by simp) hlim
  simpa using this

theorem head_of (s : List UInt8) (hs : s.length ≤ 1000) (x : List UInt8) (r : List (List UInt8)) (h : lay s = x :: r) : Wire.numN s.length <+: x := by
  have hx : x.length = 32 := lay_each s x (by rw [h]; simp)
  obtain ⟨rest, hr, _⟩ := lay_head s []
  rw [List.append_nil, h, List.flatten_cons] at hr
  have hn : Wire.num (s.length : Int) = Wire.numN s.length := by rw [Wire.num_good _ (by omega) (by rw [Wire.lim_eq]; omega), Int.toNat_natCast]
  have h6 := Wire.numN_le s.length
  unfold Wire.text at hr
  rw [hn, List.append_assoc] at hr
  exact List.prefix_of_prefix_length_le (List.prefix_append _ _) ⟨_, hr⟩ (by omega)

theorem torn (s : List UInt8) (hs : s.length ≤ 1000) (i p : Nat) (bs : List UInt8) (hi : i < (lay s).length) (_hp : p ≤ 28) (h3 : ¬ (i = 0 ∧ p < 3)) :
    opn ((lay s).set i (turnTo ((lay s)[i]) p bs 4)) = if lay s = (lay s).set i (turnTo ((lay s)[i]) p bs 4) then (s, true) else ([], false) := by
  have hlim : s.length < Wire.lim := by rw [Wire.lim_eq]; omega
  split
  · rename_i h
    rw [← h]
    exact opn_prefix s _ hlim (List.prefix_refl _)
  · rename_i hne
    refine opn_false _ fun t ht hp => hne ?_
    have hXl : ((lay s)[i]).length = 32 := lay_each s _ (List.getElem_mem hi)
    have hYl : (turnTo ((lay s)[i]) p bs 4).length = 32 := by rw [turnTo_length, hXl]
    have hout := turnTo_out ((lay s)[i]) p bs 4
    -- the same length
    have hlen : t.length = s.length ∧ (lay t).length = (lay s).length := by
      obtain ⟨x, rest, e, _, htk, hl⟩ := first_tells t _ ht hp
      cases h0 : lay s with
      | nil => exact absurd h0 (lay_ne s)
      | cons x0 r0 =>
        have hh := head_of s hs x0 r0 h0
        have hx2 : x.take 2 = x0.take 2 := by
          cases i with
          | zero =>
            simp only [h0, List.set_cons_zero, List.cons.injEq, List.getElem_cons_zero] at e
            rw [← e.1]
            apply List.ext_getElem?
            intro j
            simp only [List.getElem?_take]
            split
            · have := turnTo_out x0 p bs 4 j (.inl (by omega))
              exact this.symm
            · rfl
          | succ i =>
            simp only [h0, List.set_cons_succ, List.cons.injEq] at e
            rw [← e.1]
        have hs2 := head_same x x0 s.length hs hh hx2
        rw [htk] at hs2
        simp only [Prod.mk.injEq, and_true] at hs2
        obtain ⟨_, _, e', _, _, hl'⟩ := first_tells s (lay s) hlim (List.prefix_refl _)
        rw [← h0]
        exact ⟨hs2.1, by rw [hl, hl', hs2.1]⟩
    have hM : lay t = (lay s).set i (turnTo ((lay s)[i]) p bs 4) := hp.eq_of_length (by rw [List.length_set]; exact hlen.2)
    have f1 := lay_flat t
    have f2 := lay_flat s
    have hsl : (sealed t).length = (sealed s).length := by rw [sealed_length, sealed_length, hlen.1]
    rw [hM, set_flat _ i hi, hsl] at f1
    rw [get_flat _ i hi] at f2
    have hreg : Crc.reg 4294967295 (((lay s).take i).flatten ++ ((lay s)[i] ++ ((lay s).drop (i + 1)).flatten)) = Crc.reg 4294967295 (((lay s).take i).flatten ++ (turnTo ((lay s)[i]) p bs 4 ++ ((lay s).drop (i + 1)).flatten)) := by
      rw [f1, f2, reg_sealed, reg_sealed]
    have hag := agree ((lay s).take i).flatten ((lay s)[i]) (turnTo ((lay s)[i]) p bs 4) ((lay s).drop (i + 1)).flatten p (by omega) hout
    have heq := reg_inj _ _ _ (by simp only [List.length_append]; omega) hag 4294967295 hreg
    have hXY : (lay s)[i] = turnTo ((lay s)[i]) p bs 4 := by
      have h1 := List.append_cancel_left heq
      exact List.append_cancel_right h1
    rw [← hXY]
    exact (List.set_getElem_self hi).symm

end Page
end Go.Proofs.Ytehidhcpdiameaa
