/- The plain law of the sums (layer 2): numbers and lists of bytes alone, no program. -/
namespace Go.Proofs.Ytehidhcpdiameaa
namespace Crc

/-- what is turned. -/
def poly : Nat := 3988292384
theorem poly_lt : poly < 4294967296 := by decide
theorem poly_ge : 2147483648 ≤ poly := by decide
theorem poly_eq : poly = 3988292384 := rfl
attribute [irreducible] poly

/-- one bit more. -/
def step (x : Nat) : Nat := if x % 2 = 1 then (x / 2) ^^^ poly else x / 2

/-- n bits more. -/
def steps : Nat → Nat → Nat
  | 0, x => x
  | n + 1, x => steps n (step x)

def add (c b : Nat) : Nat := steps 8 (c ^^^ b)
def reg (c : Nat) : List UInt8 → Nat
  | [] => c
  | b :: l => reg (add c b.toNat) l
def sum (l : List UInt8) : Nat := 4294967295 - reg 4294967295 l
def four (x : Nat) : List UInt8 :=
  [UInt8.ofNat x, UInt8.ofNat (x / 256), UInt8.ofNat (x / 65536), UInt8.ofNat (x / 16777216)]
def seal_ (l : List UInt8) : List UInt8 := l ++ four (sum l)
def opn (l : List UInt8) : List UInt8 × Bool :=
  if l.length < 4 then ([], false)
  else if seal_ (l.take (l.length - 4)) = l then (l.take (l.length - 4), true) else ([], false)

theorem xor_lt32 {a b : Nat} (ha : a < 4294967296) (hb : b < 4294967296) : a ^^^ b < 4294967296 := by
  have := @Nat.xor_lt_two_pow a b 32 (by simpa using ha) (by simpa using hb)
  simpa using this

theorem step_lt {x : Nat} (h : x < 4294967296) : step x < 4294967296 := by
  unfold step
  split
  · exact xor_lt32 (by omega) poly_lt
  · omega

theorem step_odd {x : Nat} (h : x % 2 = 1) : step x = (x / 2) ^^^ 3988292384 := by unfold step; rw [if_pos h, poly_eq]
theorem step_even {x : Nat} (h : x % 2 = 0) : step x = x / 2 := by unfold step; rw [if_neg (by omega)]

theorem steps_lt : ∀ (n : Nat) {x : Nat}, x < 4294967296 → steps n x < 4294967296
  | 0, _, h => h
  | n + 1, _, h => steps_lt n (step_lt h)

theorem xor_div2 (a b : Nat) : (a ^^^ b) / 2 = (a / 2) ^^^ (b / 2) := by
  have := Nat.xor_div_two_pow (a := a) (b := b) (n := 1)
  simpa using this

theorem xor_mod2 (a b : Nat) : (a ^^^ b) % 2 = (a % 2) ^^^ (b % 2) := by
  have := Nat.xor_mod_two_pow (a := a) (b := b) (n := 1)
  simpa using this

theorem step_xor (a b : Nat) : step (a ^^^ b) = step a ^^^ step b := by
  unfold step
  rw [xor_mod2, xor_div2]
  rcases Nat.mod_two_eq_zero_or_one a with ha | ha <;> rcases Nat.mod_two_eq_zero_or_one b with hb | hb <;> simp only [ha, hb]
  · simp
  · simp [Nat.xor_assoc]
  · simp only [if_true, if_neg (show ¬ (0 : Nat) = 1 by decide), Nat.xor_zero]
    ac_rfl
  · have : ∀ x y p : Nat, x ^^^ p ^^^ (y ^^^ p) = x ^^^ y := by
      intro x y p
      rw [Nat.xor_comm y p, Nat.xor_assoc, ← Nat.xor_assoc p p y, Nat.xor_self, Nat.zero_xor]
    simp [this]

theorem step_zero : step 0 = 0 := by simp [step]

theorem steps_zero : ∀ n, steps n 0 = 0
  | 0 => rfl
  | n + 1 => by rw [steps, step_zero]; exact steps_zero n

theorem steps_xor : ∀ (n a b : Nat), steps n (a ^^^ b) = steps n a ^^^ steps n b
  | 0, _, _ => rfl
  | n + 1, a, b => by rw [steps, step_xor, steps_xor n]; rfl

theorem step_eq_zero {x : Nat} (hx : x < 4294967296) (h : step x = 0) : x = 0 := by
  unfold step at h
  split at h
  · have e : x / 2 = poly := by
      have h2 : x / 2 ^^^ poly ^^^ poly = 0 ^^^ poly := by rw [h]
      rw [Nat.xor_assoc, Nat.xor_self, Nat.xor_zero, Nat.zero_xor] at h2
      exact h2
    have := poly_ge
    omega
  · omega

theorem steps_eq_zero : ∀ (n : Nat) {x : Nat}, x < 4294967296 → steps n x = 0 → x = 0
  | 0, _, _, h => h
  | n + 1, _, hx, h => step_eq_zero hx (steps_eq_zero n (step_lt hx) h)

theorem xor_eq_zero {a b : Nat} (h : a ^^^ b = 0) : a = b := by
  have h2 : a ^^^ b ^^^ b = 0 ^^^ b := by rw [h]
  rw [Nat.xor_assoc, Nat.xor_self, Nat.xor_zero, Nat.zero_xor] at h2
  exact h2

theorem steps_inj (n : Nat) {a b : Nat} (ha : a < 4294967296) (hb : b < 4294967296) (h : steps n a = steps n b) : a = b := by
  apply xor_eq_zero
  apply steps_eq_zero n (xor_lt32 ha hb)
  rw [steps_xor, h, Nat.xor_self]

theorem steps_add : ∀ (m n x : Nat), steps (m + n) x = steps n (steps m x)
  | 0, n, x => by simp [steps]
  | m + 1, n, x => by rw [show m + 1 + n = (m + n) + 1 from by omega, steps, steps_add m n]; rfl

theorem step_double (x : Nat) : step (2 * x) = x := by
  unfold step
  rw [if_neg (by omega)]
  omega

theorem steps_shift : ∀ (n x : Nat), steps n (2 ^ n * x) = x
  | 0, x => by simp [steps]
  | n + 1, x => by
    rw [steps, show 2 ^ (n + 1) * x = 2 * (2 ^ n * x) from by rw [Nat.pow_succ]; ac_rfl, step_double]
    exact steps_shift n x

attribute [irreducible] steps

theorem steps8_shift (x : Nat) : steps 8 (256 * x) = x := steps_shift 8 x

theorem byte_lt (b : UInt8) : b.toNat < 256 := b.toNat_lt

theorem add_lt {c : Nat} (h : c < 4294967296) (b : UInt8) : add c b.toNat < 4294967296 :=
  steps_lt 8 (xor_lt32 h (by have := byte_lt b; omega))

theorem reg_lt : ∀ (l : List UInt8) {c : Nat}, c < 4294967296 → reg c l < 4294967296
  | [], _, h => h
  | b :: l, _, h => reg_lt l (add_lt h b)

theorem reg_append : ∀ (l m : List UInt8) (c : Nat), reg c (l ++ m) = reg (reg c l) m
  | [], _, _ => rfl
  | _ :: l, m, _ => reg_append l m _

theorem sum_lt (l : List UInt8) : sum l < 4294967296 := by unfold sum; omega

/-- bytes turned together. -/
def mix (l m : List UInt8) : List UInt8 := List.zipWith (fun a b => a ^^^ b) l m

theorem add_xor (c d a b : Nat) : add (c ^^^ d) (a ^^^ b) = add c a ^^^ add d b := by
  unfold add
  rw [← steps_xor]
  congr 1
  ac_rfl

theorem reg_mix : ∀ (l m : List UInt8) (c d : Nat), l.length = m.length → reg (c ^^^ d) (mix l m) = reg c l ^^^ reg d m
  | [], [], _, _, _ => rfl
  | a :: l, b :: m, c, d, h => by
    have h' : l.length = m.length := by simpa using h
    have := reg_mix l m (add c a.toNat) (add d b.toNat) h'
    rw [← add_xor, ← UInt8.toNat_xor] at this
    exact this
  | [], _ :: _, _, _, h => by simp at h
  | _ :: _, [], _, _, h => by simp at h

/-- nothing but bytes 0. -/
theorem add_zero_byte (c : Nat) : add c (0 : UInt8).toNat = steps 8 c := by
  unfold add
  rw [UInt8.toNat_zero, Nat.xor_zero]

theorem reg_cons (c : Nat) (b : UInt8) (l : List UInt8) : reg c (b :: l) = reg (add c b.toNat) l := rfl
theorem reg_zeros (n : Nat) : ∀ (c : Nat), reg c (List.replicate n 0) = steps (8 * n) c := by
  induction n with
  | zero => intro c; rw [Nat.mul_zero, steps]; rfl
  | succ n ih =>
    intro c
    rw [List.replicate_succ, reg_cons, ih, add_zero_byte, ← steps_add 8 (8 * n) c, show 8 + 8 * n = 8 * (n + 1) from by omega]

theorem not_eq_xor (c : Nat) (h : c < 4294967296) : 4294967295 - c = c ^^^ 4294967295 := by
  have e := BitVec.toNat_not (x := BitVec.ofNat 32 c)
  have e2 : (~~~ (BitVec.ofNat 32 c)) = BitVec.ofNat 32 c ^^^ BitVec.allOnes 32 := BitVec.xor_allOnes.symm
  rw [e2, BitVec.toNat_xor] at e
  simp at e
  rw [Nat.mod_eq_of_lt h] at e
  omega

theorem sum_eq (l : List UInt8) : sum l = reg 4294967295 l ^^^ 4294967295 := not_eq_xor _ (reg_lt l (by decide))

/-- three texts of one length, turned together. -/
theorem sum_mix (a b c : List UInt8) (h1 : a.length = b.length) (h2 : b.length = c.length) :
    sum (mix (mix a b) c) = sum a ^^^ sum b ^^^ sum c := by
  have hm : (mix a b).length = c.length := by simp [mix, h1, h2]
  have e1 := reg_mix a b 4294967295 4294967295 h1
  have e2 := reg_mix (mix a b) c (4294967295 ^^^ 4294967295) 4294967295 hm
  rw [e1, Nat.xor_self, Nat.zero_xor] at e2
  rw [sum_eq, sum_eq, sum_eq, sum_eq, e2]
  generalize reg 4294967295 a = x
  generalize reg 4294967295 b = y
  generalize reg 4294967295 c = z
  generalize 4294967295 = f
  have : x ^^^ f ^^^ (y ^^^ f) = x ^^^ y := by
    rw [Nat.xor_comm y f, Nat.xor_assoc, ← Nat.xor_assoc f f y, Nat.xor_self, Nat.zero_xor]
  rw [this, ← Nat.xor_assoc]

/-- four bytes as one number. -/
def le4 (a b c d : Nat) : Nat := a ^^^ (256 * b ^^^ (65536 * c ^^^ 16777216 * d))

theorem xor_mul (k a b : Nat) : 2 ^ k * (a ^^^ b) = 2 ^ k * a ^^^ 2 ^ k * b := by
  have := Nat.shiftLeft_xor_distrib (a := a) (b := b) (i := k)
  simp only [Nat.shiftLeft_eq] at this
  rw [Nat.mul_comm, this, Nat.mul_comm, Nat.mul_comm b]

theorem le4_eq (a b c d : Nat) : le4 a b c d = a ^^^ 256 * (b ^^^ 256 * (c ^^^ 256 * d)) := by
  unfold le4
  have e1 := xor_mul 8 b (256 * (c ^^^ 256 * d))
  have e2 := xor_mul 16 c (256 * d)
  simp only [show (2:Nat) ^ 8 = 256 from rfl, show (2:Nat)^16 = 65536 from rfl] at e1 e2
  rw [e1, show 256 * (256 * (c ^^^ 256 * d)) = 65536 * (c ^^^ 256 * d) from by omega, e2, show 65536 * (256 * d) = 16777216 * d from by omega]

theorem reg_four (c : Nat) (p q r s : UInt8) : reg c [p, q, r, s] = steps 32 (c ^^^ le4 p.toNat q.toNat r.toNat s.toNat) := by
  rw [le4_eq]
  show add (add (add (add c p.toNat) q.toNat) r.toNat) s.toNat = _
  unfold add
  rw [show (32 : Nat) = 8 + (8 + (8 + 8)) from rfl, steps_add 8, steps_add 8, steps_add 8, ← Nat.xor_assoc, steps_xor 8 _ (256 * _), steps8_shift, ← Nat.xor_assoc,
    steps_xor 8 _ (256 * _), steps8_shift, ← Nat.xor_assoc, steps_xor 8 _ (256 * _), steps8_shift]

theorem low_of (a x : Nat) (ha : a < 256) : (a ^^^ 256 * x) % 256 = a := by
  have := Nat.xor_mod_two_pow (a := a) (b := 256 * x) (n := 8)
  simp only [show (2:Nat) ^ 8 = 256 from rfl] at this
  rw [this, Nat.mul_mod_right, Nat.xor_zero, Nat.mod_eq_of_lt ha]

theorem high_of (a x : Nat) (ha : a < 256) : (a ^^^ 256 * x) / 256 = x := by
  have := Nat.xor_div_two_pow (a := a) (b := 256 * x) (n := 8)
  simp only [show (2:Nat) ^ 8 = 256 from rfl] at this
  rw [this, Nat.div_eq_of_lt ha, Nat.zero_xor]
  omega

theorem le4_parts {a b c d : Nat} (ha : a < 256) (hb : b < 256) (hc : c < 256) :
    le4 a b c d % 256 = a ∧ le4 a b c d / 256 % 256 = b ∧ le4 a b c d / 65536 % 256 = c ∧ le4 a b c d / 16777216 = d := by
  rw [le4_eq]
  have h1 := high_of a (b ^^^ 256 * (c ^^^ 256 * d)) ha
  have h2 := high_of b (c ^^^ 256 * d) hb
  have h3 := high_of c d hc
  have l1 := low_of a (b ^^^ 256 * (c ^^^ 256 * d)) ha
  have l2 := low_of b (c ^^^ 256 * d) hb
  have l3 := low_of c d hc
  generalize c ^^^ 256 * d = z at *
  generalize b ^^^ 256 * z = y at *
  generalize a ^^^ 256 * y = x at *
  refine ⟨l1, by rw [h1]; exact l2, ?_, ?_⟩
  · rw [show x / 65536 = x / 256 / 256 from by omega, h1, h2]; exact l3
  · rw [show x / 16777216 = x / 256 / 256 / 256 from by omega, h1, h2, h3]

theorem low_add (a x : Nat) (ha : a < 256) : a ^^^ 256 * x = a + 256 * x := by
  have h1 := low_of a x ha
  have h2 := high_of a x ha
  omega

theorem le4_add {a b c d : Nat} (ha : a < 256) (hb : b < 256) (hc : c < 256) : le4 a b c d = a + 256 * (b + 256 * (c + 256 * d)) := by
  rw [le4_eq, low_add c d hc, low_add b _ hb, low_add a _ ha]

theorem four_le4 {x : Nat} (h : x < 4294967296) : ∃ p q r s : UInt8, four x = [p, q, r, s] ∧ le4 p.toNat q.toNat r.toNat s.toNat = x := by
  refine ⟨_, _, _, _, rfl, ?_⟩
  simp only [UInt8.toNat_ofNat']
  rw [le4_add (by omega) (by omega) (by omega)]
  omega

theorem four_of_le4 (p q r s : UInt8) : four (le4 p.toNat q.toNat r.toNat s.toNat) = [p, q, r, s] := by
  have hp := byte_lt p; have hq := byte_lt q; have hr := byte_lt r; have hs := byte_lt s
  rw [le4_add hp hq hr]
  unfold four
  have e1 : (UInt8.ofNat (p.toNat + 256 * (q.toNat + 256 * (r.toNat + 256 * s.toNat)))) = p := UInt8.toNat_inj.1 (by simp only [UInt8.toNat_ofNat']; omega)
  have e2 : (UInt8.ofNat ((p.toNat + 256 * (q.toNat + 256 * (r.toNat + 256 * s.toNat))) / 256)) = q := UInt8.toNat_inj.1 (by simp only [UInt8.toNat_ofNat']; omega)
  have e3 : (UInt8.ofNat ((p.toNat + 256 * (q.toNat + 256 * (r.toNat + 256 * s.toNat))) / 65536)) = r := UInt8.toNat_inj.1 (by simp only [UInt8.toNat_ofNat']; omega)
  have e4 : (UInt8.ofNat ((p.toNat + 256 * (q.toNat + 256 * (r.toNat + 256 * s.toNat))) / 16777216)) = s := UInt8.toNat_inj.1 (by simp only [UInt8.toNat_ofNat']; omega)
  rw [e1, e2, e3, e4]

theorem le4_lt {p q r s : UInt8} : le4 p.toNat q.toNat r.toNat s.toNat < 4294967296 := by
  have hp := byte_lt p; have hq := byte_lt q; have hr := byte_lt r; have hs := byte_lt s
  rw [le4_add hp hq hr]
  omega

/-- what is sealed leaves one and the same number. -/
def residue : Nat := steps 32 4294967295

theorem reg_seal (l : List UInt8) : reg 4294967295 (seal_ l) = residue := by
  unfold seal_
  obtain ⟨p, q, r, s, hf, he⟩ := four_le4 (sum_lt l)
  rw [hf, reg_append, reg_four, he, sum_eq]
  unfold residue
  congr 1
  generalize reg 4294967295 l = x
  rw [← Nat.xor_assoc, Nat.xor_self, Nat.zero_xor]

theorem list4 {m : List UInt8} (h : m.length = 4) : ∃ p q r s, m = [p, q, r, s] := by
  match m, h with
  | [p, q, r, s], _ => exact ⟨p, q, r, s, rfl⟩

theorem seal_of_reg (l : List UInt8) (h4 : 4 ≤ l.length) (h : reg 4294967295 l = residue) : seal_ (l.take (l.length - 4)) = l := by
  have hd : (l.drop (l.length - 4)).length = 4 := by simp; omega
  obtain ⟨p, q, r, s, hm⟩ := list4 hd
  have hl : l.take (l.length - 4) ++ [p, q, r, s] = l := by rw [← hm]; exact List.take_append_drop _ _
  generalize ht : l.take (l.length - 4) = t at *
  rw [← hl, reg_append, reg_four] at h
  have hr := reg_lt t (c := 4294967295) (by decide)
  have e := steps_inj 32 (xor_lt32 hr le4_lt) (by decide) h
  have e2 : le4 p.toNat q.toNat r.toNat s.toNat = sum t := by
    rw [sum_eq]
    generalize reg 4294967295 t = x at *
    generalize le4 p.toNat q.toNat r.toNat s.toNat = y at *
    rw [← e, ← Nat.xor_assoc, Nat.xor_self, Nat.zero_xor]
  unfold seal_
  rw [← e2, four_of_le4, hl]

theorem four_length (x : Nat) : (four x).length = 4 := rfl
theorem seal_length (l : List UInt8) : (seal_ l).length = l.length + 4 := by simp [seal_, four_length]

theorem opn_iff (l : List UInt8) : (opn l).2 = true ↔ 4 ≤ l.length ∧ reg 4294967295 l = residue := by
  unfold opn
  by_cases h : l.length < 4
  · rw [if_pos h]
    simp only [Bool.false_eq_true, false_iff, not_and]
    omega
  · rw [if_neg h]
    by_cases hs : seal_ (l.take (l.length - 4)) = l
    · rw [if_pos hs]
      have := reg_seal (l.take (l.length - 4))
      rw [hs] at this
      simp only [this, true_iff, and_true]; omega
    · rw [if_neg hs]
      simp only [Bool.false_eq_true, false_iff, not_and]
      intro h4 hr
      exact hs (seal_of_reg l h4 hr)

theorem opn_seal (l : List UInt8) : opn (seal_ l) = (l, true) := by
  unfold opn
  have hl := seal_length l
  rw [if_neg (by omega)]
  have ht : (seal_ l).take ((seal_ l).length - 4) = l := by
    rw [hl]; simp [seal_]
  rw [ht, if_pos rfl]

theorem seal_opn (l u : List UInt8) (h : opn l = (u, true)) : seal_ u = l := by
  unfold opn at h
  split at h
  · simp at h
  · split at h
    · rename_i hs
      simp only [Prod.mk.injEq] at h
      rw [← h.1]; exact hs
    · simp at h

/-- reg of a difference: bytes 0, up to four others, bytes 0. -/
theorem reg_window (n k : Nat) (w : List UInt8) (hw : w.length ≤ 4) (h : reg 0 (List.replicate n 0 ++ w ++ List.replicate k 0) = 0) : ∀ b ∈ w, b = 0 := by
  rw [reg_append, reg_append, reg_zeros, reg_zeros, steps_zero] at h
  have h1 : reg 0 w = 0 := steps_eq_zero _ (reg_lt w (by decide)) h
  have h2 : reg 0 (w ++ List.replicate (4 - w.length) 0) = 0 := by rw [reg_append, h1, reg_zeros, steps_zero]
  have h3 : (w ++ List.replicate (4 - w.length) 0).length = 4 := by simp; omega
  obtain ⟨p, q, r, s, hm⟩ := list4 h3
  rw [hm, reg_four, Nat.zero_xor] at h2
  have h4 := steps_eq_zero 32 le4_lt h2
  have hp := byte_lt p; have hq := byte_lt q; have hr := byte_lt r; have hs := byte_lt s
  rw [le4_add hp hq hr] at h4
  have zp : p = 0 := UInt8.toNat_inj.1 (by show p.toNat = 0; omega)
  have zq : q = 0 := UInt8.toNat_inj.1 (by show q.toNat = 0; omega)
  have zr : r = 0 := UInt8.toNat_inj.1 (by show r.toNat = 0; omega)
  have zs : s = 0 := UInt8.toNat_inj.1 (by show s.toNat = 0; omega)
  intro b hb
  have : b ∈ w ++ List.replicate (4 - w.length) 0 := List.mem_append_left _ hb
  rw [hm, zp, zq, zr, zs] at this
  simpa using this

theorem xor_zero_byte {a b : UInt8} (h : a ^^^ b = 0) : a = b := by
  have h2 : a ^^^ b ^^^ b = 0 ^^^ b := by rw [h]
  simpa [UInt8.xor_assoc] using h2

theorem mix_self_zero : ∀ {l m : List UInt8}, l.length = m.length → (∀ b ∈ mix l m, b = 0) → l = m
  | [], [], _, _ => rfl
  | a :: l, b :: m, h, hz => by
    have e : a = b := xor_zero_byte (hz _ (by simp [mix]))
    have := mix_self_zero (l := l) (m := m) (by simpa using h) (fun c hc => hz c (by simp only [mix, List.zipWith_cons_cons]; exact List.mem_cons_of_mem _ hc))
    rw [e, this]
  | [], _ :: _, h, _ => by simp at h
  | _ :: _, [], h, _ => by simp at h

theorem mix_same : ∀ (l : List UInt8), mix l l = List.replicate l.length 0
  | [] => rfl
  | a :: l => by
    have := mix_same l
    simp only [mix, List.zipWith_cons_cons, List.length_cons, List.replicate_succ, UInt8.xor_self] at *
    rw [this]

theorem mix_append {l l' m m' : List UInt8} (h : l.length = l'.length) : mix (l ++ m) (l' ++ m') = mix l l' ++ mix m m' := by
  unfold mix
  exact List.zipWith_append h

/-- two texts that differ in a window of at most four bytes are the same if they leave the same. -/
theorem reg_window_inj (c : Nat) (a x y z : List UInt8) (hxy : x.length = y.length) (h4 : x.length ≤ 4)
    (h : reg c (a ++ x ++ z) = reg c (a ++ y ++ z)) : x = y := by
  have e := reg_mix (a ++ x ++ z) (a ++ y ++ z) c c (by simp [hxy])
  rw [h, Nat.xor_self, Nat.xor_self] at e
  rw [mix_append (by simp [hxy]), mix_append rfl, mix_same, mix_same] at e
  exact mix_self_zero hxy (reg_window a.length z.length (mix x y) (by simp [mix]; omega) e)

end Crc
end Go.Proofs.Ytehidhcpdiameaa
