/- The plain law of sealed texts in sectors (layer 11): lists of bytes alone, no program. -/
import Derived.Test.YtehidhcpdiameaaWireLaw
import Derived.Test.YtehidhcpdiameaaCrcWindow
namespace Go.Proofs.Ytehidhcpdiameaa
namespace Page

/-- how many sectors so many bytes take. -/
def secs (n : Nat) : Nat := (n + 31) / 32
def padTo (n : Nat) (l : List UInt8) : List UInt8 := l ++ List.replicate (n - l.length) 0
def piece (t : List UInt8) (i : Nat) : List UInt8 := padTo 32 ((t.drop (32 * i)).take 32)
def pieces (t : List UInt8) (k : Nat) : List (List UInt8) := (List.range k).map (piece t)
def sealed (s : List UInt8) : List UInt8 := Crc.seal_ (Wire.text s)
/-- the sectors of a text. -/
def lay (s : List UInt8) : List (List UInt8) := pieces (sealed s) (secs (sealed s).length)
/-- what any sectors open to. -/
def opn (l : List (List UInt8)) : List UInt8 × Bool :=
  if (Wire.takeTextAt l.flatten 0).2.2 && (lay (Wire.takeTextAt l.flatten 0).1).isPrefixOf l then ((Wire.takeTextAt l.flatten 0).1, true) else ([], false)

theorem piece_length (t : List UInt8) (i : Nat) : (piece t i).length = 32 := by
  unfold piece padTo
  rw [List.length_append, List.length_replicate, List.length_take]
  omega
theorem pieces_length (t : List UInt8) (k : Nat) : (pieces t k).length = k := by simp [pieces]
theorem pieces_succ (t : List UInt8) (k : Nat) : pieces t (k + 1) = pieces t k ++ [piece t k] := by simp [pieces, List.range_succ]

theorem pieces_flat (t : List UInt8) : ∀ k, (pieces t k).flatten = padTo (32 * k) (t.take (32 * k))
  | 0 => by simp [pieces, padTo]
  | k + 1 => by
    rw [pieces_succ, List.flatten_append, pieces_flat t k, List.flatten_cons, List.flatten_nil, List.append_nil]
    unfold piece padTo
    rcases Nat.lt_or_ge t.length (32 * k) with h | h
    · have e1 : t.take (32 * k) = t := List.take_of_length_le (by omega)
      have e2 : t.take (32 * (k + 1)) = t := List.take_of_length_le (by omega)
      have e3 : t.drop (32 * k) = [] := List.drop_eq_nil_of_le (by omega)
      rw [e1, e2, e3]
      simp only [List.take_nil, List.nil_append, List.length_nil, List.append_assoc, List.replicate_append_replicate]
      congr 2
      omega
    · have h1 : (t.take (32 * k)).length = 32 * k := by rw [List.length_take]; omega
      rw [h1, Nat.sub_self, List.replicate_zero, List.append_nil, ← List.append_assoc, ← List.take_add, List.length_take, List.length_take, List.length_drop]
      congr 2
      omega

theorem secs_le (n : Nat) : n ≤ 32 * secs n := by unfold secs; omega
theorem lay_flat (s : List UInt8) : (lay s).flatten = sealed s ++ List.replicate (32 * secs (sealed s).length - (sealed s).length) 0 := by
  unfold lay
  rw [pieces_flat, List.take_of_length_le (secs_le _)]
  rfl
theorem lay_length (s : List UInt8) : (lay s).length = secs (sealed s).length := pieces_length _ _
theorem lay_each (s : List UInt8) : ∀ x ∈ lay s, x.length = 32 := by
  intro x hx
  unfold lay pieces at hx
  obtain ⟨i, _, rfl⟩ := List.mem_map.1 hx
  exact piece_length _ _
theorem sealed_length (s : List UInt8) : (sealed s).length = (Wire.num (s.length : Int)).length + s.length + 4 := by
  unfold sealed Wire.text
  rw [Crc.seal_length, List.length_append]
theorem lay_pos (s : List UInt8) : 1 ≤ (lay s).length := by rw [lay_length, sealed_length]; unfold secs; omega
theorem lay_ne (s : List UInt8) : lay s ≠ [] := fun h => by have := lay_pos s; rw [h] at this; simp at this

/-- the text is at the head of its sectors. -/
theorem lay_head (s : List UInt8) (more : List (List UInt8)) : ∃ rest, (lay s ++ more).flatten = Wire.text s ++ rest ∧ Crc.four (Crc.sum (Wire.text s)) <+: rest := by
  refine ⟨Crc.four (Crc.sum (Wire.text s)) ++ (List.replicate (32 * secs (sealed s).length - (sealed s).length) 0 ++ more.flatten), ?_, List.prefix_append _ _⟩
  rw [List.flatten_append, lay_flat]
  unfold sealed Crc.seal_
  simp only [List.append_assoc]

theorem take_lay (s : List UInt8) (more : List (List UInt8)) (h : s.length < Wire.lim) :
    Wire.takeTextAt (lay s ++ more).flatten 0 = (s, ((Wire.text s).length : Int), true) := by
  obtain ⟨rest, hr, _⟩ := lay_head s more
  have := Wire.takeText_told s [] rest h
  rw [List.nil_append] at this
  rw [hr]
  simpa using this

/-- what is laid is opened, whatever stands behind it. -/
theorem opn_lay (s : List UInt8) (more : List (List UInt8)) (h : s.length < Wire.lim) : opn (lay s ++ more) = (s, true) := by
  unfold opn
  rw [take_lay s more h]
  simp

theorem opn_prefix (s : List UInt8) (l : List (List UInt8)) (h : s.length < Wire.lim) (hp : lay s <+: l) : opn l = (s, true) := by
  obtain ⟨more, rfl⟩ := hp
  exact opn_lay s more h

theorem takeText_lim (l : List UInt8) (p : Int) (h : (Wire.takeTextAt l p).2.2 = true) : (Wire.takeTextAt l p).1.length < Wire.lim := by
  unfold Wire.takeTextAt at h ⊢
  obtain ⟨⟨n, q, b⟩, ht⟩ : ∃ x, x = Wire.takeAt l p := ⟨_, rfl⟩
  rw [← ht] at h ⊢
  split at h
  · rename_i hc
    rw [if_pos hc]
    simp only [Bool.and_eq_true] at hc
    obtain rfl := hc.1
    have := (Wire.takeAt_told l p n q ht.symm).2.2.2.1
    simp only [List.length_take]
    omega
  · cases h

/-- what is opened was laid so; else it is nothing. -/
theorem opn_spec (l : List (List UInt8)) : opn l = ([], false) ∧ (∀ s, s.length < Wire.lim → ¬ lay s <+: l) ∨ ∃ s, opn l = (s, true) ∧ lay s <+: l ∧ s.length < Wire.lim := by
  by_cases h : ((Wire.takeTextAt l.flatten 0).2.2 && (lay (Wire.takeTextAt l.flatten 0).1).isPrefixOf l) = true
  · refine .inr ⟨_, by unfold opn; rw [if_pos h], ?_, ?_⟩
    · simp only [Bool.and_eq_true] at h; exact List.isPrefixOf_iff_prefix.1 h.2
    · simp only [Bool.and_eq_true] at h; exact takeText_lim _ _ h.1
  · have hn : opn l = ([], false) := by unfold opn; rw [if_neg h]
    refine .inl ⟨hn, fun s hs hp => ?_⟩
    rw [opn_prefix s l hs hp] at hn
    simp at hn

theorem opn_false (l : List (List UInt8)) (h : ∀ s, s.length < Wire.lim → ¬ lay s <+: l) : opn l = ([], false) := by
  rcases opn_spec l with ⟨h1, _⟩ | ⟨s, _, h2, h3⟩
  · exact h1
  · exact absurd h2 (h s h3)

/-- the first sector tells how long the text is, and so how many sectors there are. -/
theorem first_tells (s : List UInt8) (l : List (List UInt8)) (h : s.length < Wire.lim) (hp : lay s <+: l) :
    ∃ x rest, l = x :: rest ∧ x.length = 32 ∧ Wire.takeAt x 0 = (s.length, ((Wire.num (s.length : Int)).length : Int), true) ∧
      (lay s).length = secs ((Wire.num (s.length : Int)).length + s.length + 4) := by
  obtain ⟨more, rfl⟩ := hp
  cases hl : lay s with
  | nil => exact absurd hl (lay_ne s)
  | cons x r =>
    refine ⟨x, r ++ more, rfl, lay_each s x (by rw [hl]; simp), ?_, by rw [← hl, lay_length, sealed_length]⟩
    have hx : x.length = 32 := lay_each s x (by rw [hl]; simp)
    obtain ⟨rest, hr, _⟩ := lay_head s []
    rw [List.append_nil, hl, List.flatten_cons] at hr
    have hn : Wire.num (s.length : Int) = Wire.numN s.length := by rw [Wire.num_good _ (by omega) (by omega), Int.toNat_natCast]
    have h6 := Wire.numN_le s.length
    unfold Wire.text at hr
    rw [hn, List.append_assoc] at hr
    have hpre : Wire.numN s.length <+: x := by
      have h1 : x <+: Wire.numN s.length ++ (s ++ rest) := ⟨_, hr⟩
      exact List.prefix_of_prefix_length_le (List.prefix_append _ _) h1 (by omega)
    obtain ⟨y, rfl⟩ := hpre
    have := Wire.takeAt_drop (Wire.numN s.length ++ y) 0 s.length y (by simp) h
    rw [hn]
    simpa using this

theorem body_of (s : List UInt8) (l : List (List UInt8)) (hp : lay s <+: l) :
    ((l.take (lay s).length).flatten.drop (Wire.num (s.length : Int)).length).take s.length = s := by
  have h1 : l.take (lay s).length = lay s := (List.prefix_iff_eq_take.1 hp).symm
  rw [h1]
  obtain ⟨rest, hr, _⟩ := lay_head s []
  rw [List.append_nil] at hr
  rw [hr]
  unfold Wire.text
  rw [List.append_assoc, List.drop_left, List.take_left]

/-- what the program asks of sectors, in its order: it holds just where they open. -/
theorem opn_ask (x : List UInt8) (rest : List (List UInt8)) (n : Nat) (at_ : Int) (ht : Wire.takeAt x 0 = (n, at_, true)) :
    opn (x :: rest) = if lay ((((x :: rest).take (secs (at_.toNat + n + 4))).flatten.drop at_.toNat).take n) = (x :: rest).take (secs (at_.toNat + n + 4))
      then ((((x :: rest).take (secs (at_.toNat + n + 4))).flatten.drop at_.toNat).take n, true) else ([], false) := by
  obtain ⟨_, _, _, hlim, _⟩ := Wire.takeAt_told x 0 n at_ ht
  split
  · rename_i he
    refine opn_prefix _ _ ?_ ?_
    · rw [List.length_take]; omega
    · rw [he]; exact List.take_prefix _ _
  · rename_i he
    refine opn_false _ fun s hs hp => he ?_
    obtain ⟨x', rest', e, _, ht', hl⟩ := first_tells s _ hs hp
    simp only [List.cons.injEq] at e
    obtain ⟨rfl, rfl⟩ := e
    rw [ht] at ht'
    simp only [Prod.mk.injEq, and_true] at ht'
    obtain ⟨rfl, rfl⟩ := ht'
    rw [Int.toNat_natCast, ← hl, body_of s _ hp]
    exact List.prefix_iff_eq_take.1 hp

theorem opn_nil : opn [] = ([], false) := opn_false _ fun s _ hp => lay_ne s (List.prefix_nil.1 hp)
theorem opn_first (x : List UInt8) (rest : List (List UInt8)) (hx : ¬ x.length = 32) : opn (x :: rest) = ([], false) :=
  opn_false _ fun s hs hp => by
    obtain ⟨x', rest', e, hx', _⟩ := first_tells s _ hs hp
    simp only [List.cons.injEq] at e
    rw [← e.1] at hx'
    exact hx hx'
theorem opn_take (x : List UInt8) (rest : List (List UInt8)) (ht : (Wire.takeAt x 0).2.2 = false) : opn (x :: rest) = ([], false) :=
  opn_false _ fun s hs hp => by
    obtain ⟨x', rest', e, _, ht', _⟩ := first_tells s _ hs hp
    simp only [List.cons.injEq] at e
    rw [← e.1] at ht'
    rw [ht'] at ht
    cases ht
theorem opn_few (x : List UInt8) (rest : List (List UInt8)) (n : Nat) (at_ : Int) (ht : Wire.takeAt x 0 = (n, at_, true))
    (hneed : (x :: rest).length < secs (at_.toNat + n + 4)) : opn (x :: rest) = ([], false) :=
  opn_false _ fun s hs hp => by
    obtain ⟨x', rest', e, _, ht', hl⟩ := first_tells s _ hs hp
    have hle := hp.length_le
    simp only [List.cons.injEq] at e
    rw [← e.1, ht] at ht'
    simp only [Prod.mk.injEq, and_true] at ht'
    obtain ⟨rfl, rfl⟩ := ht'
    rw [Int.toNat_natCast] at hneed
    omega
theorem opn_odd (x : List UInt8) (rest : List (List UInt8)) (n : Nat) (at_ : Int) (ht : Wire.takeAt x 0 = (n, at_, true))
    (y : List UInt8) (hy : y ∈ (x :: rest).take (secs (at_.toNat + n + 4))) (hl : ¬ y.length = 32) : opn (x :: rest) = ([], false) :=
  opn_false _ fun s hs hp => by
    obtain ⟨x', rest', e, _, ht', hle⟩ := first_tells s _ hs hp
    simp only [List.cons.injEq] at e
    rw [← e.1, ht] at ht'
    simp only [Prod.mk.injEq, and_true] at ht'
    obtain ⟨rfl, rfl⟩ := ht'
    rw [Int.toNat_natCast, ← hle, ← List.prefix_iff_eq_take.1 hp] at hy
    exact hl (lay_each s y hy)

end Page
end Go.Proofs.Ytehidhcpdiameaa
