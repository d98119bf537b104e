/- The plain law of numbers and texts as bytes (layer 10): lists of bytes alone, no program. -/
namespace Go.Proofs.Ytehidhcpdiameaa
namespace Wire

/-- the least that is no number any more. -/
def lim : Nat := 1099511627776
theorem lim_eq : lim = 1099511627776 := rfl

/-- seven bits a byte, the lowest ones first. -/
def digits : Nat → Nat → List UInt8
  | 0, n => [UInt8.ofNat n]
  | f + 1, n => if n < 128 then [UInt8.ofNat n] else UInt8.ofNat (128 + n % 128) :: digits f (n / 128)
def numN (n : Nat) : List UInt8 := digits 5 n
def num (n : Int) : List UInt8 := if n < 0 ∨ (lim : Int) ≤ n then [] else numN n.toNat

/-- the number whose bytes a row begins with, and how many bytes these are. -/
def takeF : Nat → Nat → Nat → List UInt8 → Option (Nat × Nat)
  | 0, _, _, _ => none
  | _ + 1, _, _, [] => none
  | f + 1, i, acc, b :: l =>
    if 128 ≤ b.toNat then takeF f (i + 1) (acc + b.toNat % 128 * 128 ^ i) l
    else if lim ≤ acc + b.toNat % 128 * 128 ^ i ∨ (b.toNat = 0 ∧ 0 < i) then none
    else some (acc + b.toNat % 128 * 128 ^ i, i + 1)
def take (l : List UInt8) : Option (Nat × Nat) := takeF 6 0 0 l

/-- the same, of a row from a place on. -/
def takeAt (l : List UInt8) (p : Int) : Nat × Int × Bool :=
  if p < 0 ∨ (l.length : Int) ≤ p then (0, 0, false)
  else match take (l.drop p.toNat) with
    | some (n, c) => (n, p + c, true)
    | none => (0, 0, false)

theorem digits_ne (f n : Nat) : digits f n ≠ [] := by
  cases f with
  | zero => simp [digits]
  | succ f => unfold digits; split <;> simp

theorem digits_length : ∀ f n, (digits f n).length ≤ f + 1
  | 0, _ => by simp [digits]
  | f + 1, n => by
    unfold digits
    split
    · simp
    · simp only [List.length_cons]; have := digits_length f (n / 128); omega

theorem digits_pos (f n : Nat) : 1 ≤ (digits f n).length := by
  have := digits_ne f n
  cases h : digits f n with
  | nil => exact absurd h this
  | cons a l => simp

/-- what is told is taken, whatever stands behind. -/
theorem takeF_digits (rest : List UInt8) : ∀ (f g i acc n : Nat), n < 128 ^ (f + 1) → f < g → (n = 0 → i = 0) → acc + n * 128 ^ i < lim →
    takeF g i acc (digits f n ++ rest) = some (acc + n * 128 ^ i, i + (digits f n).length) := by
  intro f
  induction f with
  | zero =>
    intro g i acc n hn hg h0 hl
    have hn' : n < 128 := by simpa using hn
    obtain ⟨g, rfl⟩ : ∃ g', g = g' + 1 := ⟨g - 1, by omega⟩
    have hb : (UInt8.ofNat n).toNat = n := by rw [UInt8.toNat_ofNat']; omega
    simp only [digits, List.cons_append, List.nil_append, takeF, hb]
    rw [if_neg (by omega), Nat.mod_eq_of_lt hn', if_neg (by omega)]
    rfl
  | succ f ih =>
    intro g i acc n hn hg h0 hl
    obtain ⟨g, rfl⟩ : ∃ g', g = g' + 1 := ⟨g - 1, by omega⟩
    unfold digits
    by_cases hlt : n < 128
    · have hb : (UInt8.ofNat n).toNat = n := by rw [UInt8.toNat_ofNat']; omega
      rw [if_pos hlt]
      simp only [List.cons_append, List.nil_append, takeF, hb]
      rw [if_neg (by omega), Nat.mod_eq_of_lt hlt, if_neg (by omega)]
      rfl
    · have hb : (UInt8.ofNat (128 + n % 128)).toNat = 128 + n % 128 := by rw [UInt8.toNat_ofNat']; omega
      rw [if_neg hlt]
      simp only [List.cons_append, takeF, hb]
      rw [if_pos (by omega), show (128 + n % 128) % 128 = n % 128 from by omega]
      have hd : n / 128 < 128 ^ (f + 1) := by
        rw [Nat.div_lt_iff_lt_mul (by decide)]
        calc n < 128 ^ (f + 1 + 1) := hn
          _ = 128 ^ (f + 1) * 128 := Nat.pow_succ ..
      have hval : acc + n % 128 * 128 ^ i + n / 128 * 128 ^ (i + 1) = acc + n * 128 ^ i := by
        have e : n = n % 128 + 128 * (n / 128) := by omega
        have : n * 128 ^ i = n % 128 * 128 ^ i + n / 128 * 128 ^ (i + 1) := by
          conv => lhs; rw [e]
          rw [Nat.add_mul, Nat.pow_succ]
          congr 1
          rw [Nat.mul_comm 128, Nat.mul_assoc, Nat.mul_comm 128]
        omega
      have := ih g (i + 1) (acc + n % 128 * 128 ^ i) (n / 128) hd (by omega) (by omega) (by rw [hval]; exact hl)
      rw [this, hval]
      simp only [List.length_cons, Option.some.injEq, Prod.mk.injEq, true_and]
      omega

theorem take_num (n : Nat) (rest : List UInt8) (h : n < lim) : take (numN n ++ rest) = some (n, (numN n).length) := by
  have hl : lim < 128 ^ 6 := by decide
  have := takeF_digits rest 5 6 0 0 n (by omega) (by omega) (fun _ => rfl) (by simpa using h)
  simpa [take, numN] using this

/-- what is taken is told by just these bytes. -/
theorem takeF_spec : ∀ (g i acc : Nat) (l : List UInt8) (n c : Nat), takeF g i acc l = some (n, c) →
    ∃ m k, n = acc + m * 128 ^ i ∧ c = i + k ∧ n < lim ∧ (m = 0 → i = 0) ∧ 1 ≤ k ∧ k ≤ g ∧ k ≤ l.length ∧ l.take k = digits (k - 1) m ∧ m < 128 ^ k ∧ (∀ f, k ≤ f + 1 → digits f m = digits (k - 1) m) := by
  intro g
  induction g with
  | zero => intro i acc l n c h; simp [takeF] at h
  | succ g ih =>
    intro i acc l n c h
    cases l with
    | nil => simp [takeF] at h
    | cons b l =>
      simp only [takeF] at h
      by_cases hb : 128 ≤ b.toNat
      · rw [if_pos hb] at h
        obtain ⟨m, k, h1, h2, h3, h4, h5, h6, h7, h8, h9, h10⟩ := ih _ _ _ _ _ h
        have hm : m ≠ 0 := fun e => by have := h4 e; omega
        have hlt := b.toNat_lt
        refine ⟨b.toNat % 128 + 128 * m, k + 1, ?_, by omega, h3, by omega, by omega, by omega, by simp; omega, ?_, ?_, ?_⟩
        · rw [h1, Nat.add_mul, Nat.pow_succ, Nat.mul_comm 128 m, Nat.mul_assoc, Nat.mul_comm 128]
          omega
        · obtain ⟨k', rfl⟩ : ∃ k', k = k' + 1 := ⟨k - 1, by omega⟩
          rw [List.take_succ_cons, h8]
          simp only [Nat.add_sub_cancel]
          conv => rhs; unfold digits
          rw [if_neg (by omega), show (128 + (b.toNat % 128 + 128 * m) % 128) = b.toNat from by omega, show (b.toNat % 128 + 128 * m) / 128 = m from by omega, UInt8.ofNat_toNat]
        · rw [Nat.pow_succ]
          omega
        · intro f hf
          obtain ⟨f, rfl⟩ : ∃ f', f = f' + 1 := ⟨f - 1, by omega⟩
          obtain ⟨k', rfl⟩ : ∃ k', k = k' + 1 := ⟨k - 1, by omega⟩
          simp only [Nat.add_sub_cancel]
          unfold digits
          rw [if_neg (by omega), if_neg (by omega), show (b.toNat % 128 + 128 * m) / 128 = m from by omega, h10 f (by omega)]
          rfl
      · rw [if_neg hb] at h
        split at h
        · cases h
        · rename_i hn
          simp only [Option.some.injEq, Prod.mk.injEq] at h
          obtain ⟨rfl, rfl⟩ := h
          refine ⟨b.toNat % 128, 1, rfl, rfl, by omega, by omega, by omega, by omega, by simp, ?_, by omega, ?_⟩
          · simp only [List.take_succ_cons, List.take_zero, Nat.sub_self, digits]
            rw [Nat.mod_eq_of_lt (by omega), UInt8.ofNat_toNat]
          · intro f _
            cases f with
            | zero => rfl
            | succ f =>
              simp only [Nat.sub_self]
              unfold digits
              rw [if_pos (by omega)]

theorem take_spec (l : List UInt8) (n c : Nat) (h : take l = some (n, c)) : n < lim ∧ c = (numN n).length ∧ c ≤ l.length ∧ l.take c = numN n ∧ 1 ≤ c := by
  obtain ⟨m, k, h1, h2, h3, _, h5, h6, h7, h8, _, h10⟩ := takeF_spec _ _ _ _ _ _ h
  simp only [Nat.zero_add, Nat.pow_zero, Nat.mul_one] at h1 h2
  subst h1; subst h2
  have e : numN n = digits (c - 1) n := h10 5 (by omega)
  rw [e]
  refine ⟨h3, ?_, h7, h8, h5⟩
  rw [← h8, List.length_take]
  omega

end Wire
end Go.Proofs.Ytehidhcpdiameaa
