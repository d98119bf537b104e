import Derived.Test.YtehidhcpdiameaaPageFixed
import Derived.Test.YtehidhcpdiameaaSlAppend
import Derived.Test.YtehidhcpdiameaaBox
import Derived.Test.YtehidhcpdiameaaSoft2
import Derived.Lib.SliceRun
import Derived.Deep.Onto

/- The plain law of layer 9 (device): disks as plain data, no program. -/
namespace Go.Proofs.Ytehidhcpdiameaa
namespace Dev

abbrev Put := Int × ByteArray
/-- a disk: what is kept, what was written since, the fuse, what is kept when it dies, whether it is dead. -/
structure Disk where
  kept : List ByteArray
  cache : List Put
  fuse : Int
  keep : List Bool
  dead : Bool
deriving DecidableEq

def no : Disk := ⟨[], [], 0, [], false⟩
def empty : ByteArray := ⟨#[]⟩
def zero : ByteArray := ⟨(List.replicate 32 (0 : UInt8)).toArray⟩
theorem zero_size : zero.size = 32 := by decide

def putOk (n : Nat) (p : Put) : Bool := decide (0 ≤ p.1 ∧ p.1 < n) && decide (p.2.size = 32)
def full (s : ByteArray) : Bool := decide (s.size = 32)
/-- may a disk be? -/
def may (d : Disk) : Bool :=
  decide (1 ≤ d.kept.length ∧ d.kept.length ≤ 5000 ∧ d.cache.length ≤ 20000 ∧ -1 ≤ d.fuse) && (d.kept.all full && d.cache.all (putOk d.kept.length))
def new (n : Int) : Disk × Int := if n < 1 ∨ 5000 < n then (no, 1) else (⟨List.replicate n.toNat zero, [], -1, [], false⟩, 0)

def step (x : Int) (s : ByteArray) (p : Put) : ByteArray := if p.1 = x then p.2 else s
/-- what was written last to the sector x. -/
def cur (d : Disk) (x : Nat) : ByteArray := d.cache.foldl (step x) (d.kept.getD x empty)
def read (d : Disk) (x : Int) : ByteArray × Int :=
  if may d = false then (empty, 1) else if d.dead then (empty, 90) else if x < 0 ∨ d.kept.length ≤ x then (empty, 1) else (cur d x.toNat, 0)
def put1 (k : List ByteArray) (p : Put) : List ByteArray := k.set p.1.toNat p.2
/-- all of the cache is kept. -/
def putAll (k : List ByteArray) (c : List Put) : List ByteArray := c.foldl put1 k
def put1b (k : List ByteArray) (p : Put × Bool) : List ByteArray := if p.2 then put1 k p.1 else k
/-- those of the cache are kept that are told. -/
def putSome (k : List ByteArray) (c : List Put) (keep : List Bool) : List ByteArray := (c.zip keep).foldl put1b k
def dieOf (d : Disk) (keep : List Bool) : Disk := ⟨putSome d.kept d.cache keep, [], -1, [], true⟩
def die (d : Disk) (keep : List Bool) : Disk := if may d = false then no else dieOf d keep
def revive (d : Disk) : Disk := if may d = false then no else ⟨d.kept, [], -1, [], false⟩
def arm (d : Disk) (fuse : Int) (keep : List Bool) : Disk := if may d = false then no else { d with fuse := max fuse (-1), keep := keep }
def flush (d : Disk) : Disk × Int :=
  if may d = false then (no, 1) else if d.dead then (d, 90) else ({ d with kept := putAll d.kept d.cache, cache := [] }, 0)
/-- the disk with one more in its cache. -/
def more (d : Disk) (x : Int) (s : ByteArray) : Disk := { d with cache := d.cache ++ [(x, s)] }
def write (d : Disk) (x : Int) (s : ByteArray) : Disk × Int :=
  if may d = false then (no, 1) else if d.dead then (d, 90)
  else if x < 0 ∨ d.kept.length ≤ x ∨ s.size ≠ 32 ∨ 20000 ≤ d.cache.length then (d, 1)
  else if d.fuse = 0 then (dieOf (more d x s) d.keep, 90)
  else ({ more d x s with fuse := if 0 < d.fuse then d.fuse - 1 else d.fuse }, 0)
/-- has a disk few sectors, and little in its cache? -/
def small (d : Disk) : Bool := decide (d.kept.length ≤ 200 ∧ d.cache.length ≤ 200 ∧ d.keep.length ≤ 400)

theorem may_iff (d : Disk) : may d = true ↔ (1 ≤ d.kept.length ∧ d.kept.length ≤ 5000 ∧ d.cache.length ≤ 20000 ∧ -1 ≤ d.fuse) ∧ (∀ s ∈ d.kept, s.size = 32) ∧ ∀ p ∈ d.cache, (0 ≤ p.1 ∧ p.1 < d.kept.length) ∧ p.2.size = 32 := by
  unfold may full putOk
  simp only [Bool.and_eq_true, decide_eq_true_eq, List.all_eq_true]

theorem putAll_nil (k : List ByteArray) : putAll k [] = k := rfl
theorem putAll_snoc (k : List ByteArray) (c : List Put) (p : Put) : putAll k (c ++ [p]) = put1 (putAll k c) p := by unfold putAll; rw [List.foldl_append]; rfl
theorem put1_length (k : List ByteArray) (p : Put) : (put1 k p).length = k.length := List.length_set
theorem putAll_length : ∀ (c : List Put) (k : List ByteArray), (putAll k c).length = k.length
  | [], _ => rfl
  | p :: c, k => by have := putAll_length c (put1 k p); rw [put1_length] at this; exact this
theorem put1b_length (k : List ByteArray) (p : Put × Bool) : (put1b k p).length = k.length := by unfold put1b; split; exact put1_length _ _; rfl
theorem foldb_length : ∀ (c : List (Put × Bool)) (k : List ByteArray), (c.foldl put1b k).length = k.length
  | [], _ => rfl
  | p :: c, k => by have := foldb_length c (put1b k p); rw [put1b_length] at this; exact this
theorem putSome_length (k : List ByteArray) (c : List Put) (keep : List Bool) : (putSome k c keep).length = k.length := foldb_length _ _
theorem putSome_nil (k : List ByteArray) (c : List Put) : putSome k c [] = k := by unfold putSome; rw [List.zip_nil_right]; rfl
theorem putSome_all : ∀ (c : List Put) (k : List ByteArray), putSome k c (List.replicate c.length true) = putAll k c
  | [], _ => rfl
  | p :: c, k => by
    have := putSome_all c (put1 k p)
    unfold putSome putAll at *
    rw [List.length_cons, List.replicate_succ, List.zip_cons_cons, List.foldl_cons, List.foldl_cons, ← this]
    rfl
/-- one more of the cache, as the loop goes. -/
theorem putSome_take (k : List ByteArray) (c : List Put) (keep : List Bool) (i : Nat) (hi : i < c.length) :
    putSome k (c.take (i + 1)) keep = if keep.getD i false = true then put1 (putSome k (c.take i) keep) c[i] else putSome k (c.take i) keep := by
  unfold putSome
  rw [List.take_succ_eq_append_getElem hi]
  have h : ((c.take i ++ [c[i]]).zip keep) = (c.take i).zip keep ++ [c[i]].zip (keep.drop i) := by
    have hl : (c.take i).length = i := by rw [List.length_take]; omega
    rcases Nat.lt_or_ge i keep.length with h | h
    · conv => lhs; rw [← List.take_append_drop i keep]
      rw [List.zip_append (by rw [hl, List.length_take]; omega)]
      congr 1
      have : keep = keep.take i ++ keep.drop i := (List.take_append_drop i keep).symm
      conv => rhs; rw [this, ← List.append_nil (c.take i), List.zip_append (by rw [hl, List.length_take]; omega)]
      simp
    · rw [List.drop_eq_nil_of_le h, List.zip_nil_right, List.append_nil]
      have h1 : keep = keep ++ [] := (List.append_nil _).symm
      rw [List.zip_eq_zip_take_min, List.zip_eq_zip_take_min (l₁ := c.take i)]
      simp only [List.length_append, List.length_cons, List.length_nil, hl]
      rw [Nat.min_eq_right (by omega), Nat.min_eq_right (by omega), List.take_append_of_le_length (by omega)]
  rw [h, List.foldl_append]
  rcases Nat.lt_or_ge i keep.length with h | h
  · rw [List.drop_eq_getElem_cons h, List.zip_cons_cons, List.zip_nil_left]
    simp only [List.foldl_cons, List.foldl_nil, put1b, List.getD_eq_getElem?_getD, List.getElem?_eq_getElem h, Option.getD_some]
  · rw [List.drop_eq_nil_of_le h, List.zip_nil_right, List.getD_eq_getElem?_getD, List.getElem?_eq_none h]
    simp
theorem putSome_some (k : List ByteArray) (c : List Put) (keep : List Bool) : putSome k (c.take c.length) keep = putSome k c keep := by rw [List.take_length]
/-- past what is told nothing is kept. -/
theorem putSome_past (k : List ByteArray) (c : List Put) (keep : List Bool) (i : Nat) (h : keep.length ≤ i) : putSome k (c.take i) keep = putSome k c keep := by
  unfold putSome
  congr 1
  rw [List.zip_eq_zip_take_min, List.zip_eq_zip_take_min (l₁ := c)]
  simp only [List.length_take, List.take_take]
  congr 2 <;> omega

theorem full_put1 {k : List ByteArray} {p : Put} (h : ∀ s ∈ k, s.size = 32) (hp : p.2.size = 32) : ∀ s ∈ put1 k p, s.size = 32 := by
  intro s hs
  rcases List.mem_or_eq_of_mem_set hs with h' | h'
  · exact h s h'
  · rw [h']; exact hp
theorem full_putAll : ∀ {c : List Put} {k : List ByteArray}, (∀ s ∈ k, s.size = 32) → (∀ p ∈ c, p.2.size = 32) → ∀ s ∈ putAll k c, s.size = 32
  | [], _, h, _ => h
  | p :: c, k, h, hc => full_putAll (c := c) (k := put1 k p) (full_put1 h (hc p (by simp))) (fun q hq => hc q (List.mem_cons_of_mem _ hq))
theorem full_fold : ∀ {c : List (Put × Bool)} {k : List ByteArray}, (∀ s ∈ k, s.size = 32) → (∀ p ∈ c, p.1.2.size = 32) → ∀ s ∈ c.foldl put1b k, s.size = 32
  | [], _, h, _ => h
  | p :: c, k, h, hc => full_fold (c := c) (k := put1b k p) (by unfold put1b; split; exact full_put1 h (hc p (by simp)); exact h) (fun q hq => hc q (List.mem_cons_of_mem _ hq))
theorem full_putSome {k : List ByteArray} {c : List Put} {keep : List Bool} (h : ∀ s ∈ k, s.size = 32) (hc : ∀ p ∈ c, p.2.size = 32) : ∀ s ∈ putSome k c keep, s.size = 32 :=
  full_fold h fun p hp => hc p.1 (List.of_mem_zip hp).1

/-- what comes of a disk that may be, may be. -/
theorem may_dieOf {d : Disk} (h : may d = true) (hc : ∀ p ∈ d.cache, p.2.size = 32) (keep : List Bool) : may (dieOf d keep) = true := by
  obtain ⟨⟨h1, h2, h3, h4⟩, h5, _⟩ := (may_iff d).1 h
  rw [may_iff]
  unfold dieOf
  refine ⟨⟨?_, ?_, by simp, by simp⟩, full_putSome h5 hc, by simp⟩ <;> (rw [putSome_length]; assumption)
theorem may_die {d : Disk} (h : may d = true) (keep : List Bool) : may (dieOf d keep) = true :=
  may_dieOf h (fun p hp => (((may_iff d).1 h).2.2 p hp).2) keep
theorem may_flush {d : Disk} (h : may d = true) (f : Int) (hf : -1 ≤ f) (kp : List Bool) (b : Bool) : may ⟨putAll d.kept d.cache, [], f, kp, b⟩ = true := by
  obtain ⟨⟨h1, h2, h3, h4⟩, h5, h6⟩ := (may_iff d).1 h
  rw [may_iff]
  refine ⟨⟨?_, ?_, by simp, hf⟩, full_putAll h5 (fun p hp => (h6 p hp).2), by simp⟩ <;> (rw [putAll_length]; assumption)


theorem may_more {d : Disk} (h : may d = true) {x : Int} {s : ByteArray} (hx : 0 ≤ x ∧ x < d.kept.length) (hs : s.size = 32) (hc : d.cache.length < 20000) (f : Int) (hf : -1 ≤ f) : may { more d x s with fuse := f } = true := by
  obtain ⟨⟨h1, h2, h3, h4⟩, h5, h6⟩ := (may_iff d).1 h
  rw [may_iff]
  unfold more
  refine ⟨⟨h1, h2, by simp; omega, hf⟩, h5, fun p hp => ?_⟩
  rcases List.mem_append.1 hp with hp | hp
  · exact h6 p hp
  · rw [List.mem_singleton] at hp
    subst hp
    exact ⟨hx, hs⟩
theorem cur_more (d : Disk) (x : Int) (s : ByteArray) (f : Int) (k : Nat) : cur { more d x s with fuse := f } k = if x = k then s else cur d k := by
  unfold cur more
  rw [List.foldl_append]
  rfl
theorem getD_put1 (l : List ByteArray) (p : Put) (k : Nat) (hp : 0 ≤ p.1) (hk : k < l.length) : (put1 l p).getD k empty = step k (l.getD k empty) p := by
  unfold put1 step
  rw [List.getD_eq_getElem?_getD, List.getElem?_set]
  by_cases h : p.1.toNat = k
  · rw [if_pos h, if_pos (by omega), if_pos (by omega)]; rfl
  · rw [if_neg h, if_neg (by omega), List.getD_eq_getElem?_getD]
theorem getD_putAll : ∀ (c : List Put) (l : List ByteArray) (k : Nat), (∀ p ∈ c, 0 ≤ p.1) → k < l.length → (putAll l c).getD k empty = c.foldl (step k) (l.getD k empty)
  | [], _, _, _, _ => rfl
  | p :: c, l, k, hc, hk => by
    have := getD_putAll c (put1 l p) k (fun q hq => hc q (List.mem_cons_of_mem _ hq)) (by rw [put1_length]; exact hk)
    rw [getD_put1 l p k (hc p (by simp)) hk] at this
    exact this
theorem cur_flushed {d : Disk} (h : may d = true) (k : Nat) (hk : k < d.kept.length) (f : Int) (kp : List Bool) (b : Bool) : cur ⟨putAll d.kept d.cache, [], f, kp, b⟩ k = cur d k := by
  obtain ⟨_, _, h6⟩ := (may_iff d).1 h
  exact getD_putAll d.cache d.kept k (fun p hp => (h6 p hp).1.1) hk

theorem read_dead {d : Disk} (h : may d = true) (hd : d.dead = true) (x : Int) : read d x = (empty, 90) := by
  unfold read; rw [if_neg (by rw [h]; decide), if_pos hd]
theorem read_ok {d : Disk} (h : may d = true) (hd : d.dead = false) {x : Int} (hx : 0 ≤ x ∧ x < d.kept.length) : read d x = (cur d x.toNat, 0) := by
  unfold read; rw [if_neg (by rw [h]; decide), if_neg (by rw [hd]; decide), if_neg (by omega)]
theorem read_out {d : Disk} (h : may d = true) (hd : d.dead = false) {x : Int} (hx : ¬ (0 ≤ x ∧ x < d.kept.length)) : read d x = (empty, 1) := by
  unfold read; rw [if_neg (by rw [h]; decide), if_neg (by rw [hd]; decide), if_pos (by omega)]

/-- the ways of a write. -/
theorem write_cases {d : Disk} (h : may d = true) (x : Int) (s : ByteArray) :
    (write d x s = (d, 90) ∧ d.dead = true) ∨ (write d x s = (d, 1) ∧ d.dead = false) ∨
    ((0 ≤ x ∧ x < d.kept.length) ∧ s.size = 32 ∧ d.cache.length < 20000 ∧ d.dead = false ∧
      ((d.fuse = 0 ∧ write d x s = (dieOf (more d x s) d.keep, 90)) ∨ ∃ f, -1 ≤ f ∧ f = (if 0 < d.fuse then d.fuse - 1 else d.fuse) ∧ d.fuse ≠ 0 ∧ write d x s = ({ more d x s with fuse := f }, 0))) := by
  have hf := ((may_iff d).1 h).1.2.2.2
  unfold write
  rw [if_neg (by rw [h]; decide)]
  cases hd : d.dead with
  | true => exact .inl ⟨by simp, rfl⟩
  | false =>
    refine .inr ?_
    rw [if_neg (by decide)]
    by_cases hc : x < 0 ∨ d.kept.length ≤ x ∨ s.size ≠ 32 ∨ 20000 ≤ d.cache.length
    · rw [if_pos hc]; exact .inl ⟨rfl, rfl⟩
    · rw [if_neg hc]
      refine .inr ⟨by omega, by omega, by omega, rfl, ?_⟩
      by_cases h0 : d.fuse = 0
      · rw [if_pos h0]; exact .inl ⟨h0, rfl⟩
      · rw [if_neg h0]
        refine .inr ⟨_, ?_, rfl, h0, rfl⟩
        split <;> omega

theorem write_arg {d : Disk} (h : may d = true) {x : Int} {s : ByteArray} {w : Disk} (hw : write d x s = (w, 1)) : w = d := by
  rcases write_cases h x s with ⟨e, _⟩ | ⟨e, _⟩ | ⟨_, _, _, _, ⟨_, e⟩ | ⟨f, _, _, _, e⟩⟩ <;> rw [e] at hw <;> simp only [Prod.mk.injEq] at hw
  · omega
  · exact hw.1.symm
  · omega
  · omega
theorem write_dead {d : Disk} (h : may d = true) {x : Int} {s : ByteArray} {w : Disk} (hw : write d x s = (w, 90)) : w.dead = true ∧ may w = true ∧ w.kept.length = d.kept.length := by
  rcases write_cases h x s with ⟨e, hd⟩ | ⟨e, _⟩ | ⟨h1, h2, h3, _, ⟨_, e⟩ | ⟨f, _, _, _, e⟩⟩ <;> rw [e] at hw <;> simp only [Prod.mk.injEq] at hw
  · obtain ⟨rfl, _⟩ := hw; exact ⟨hd, h, rfl⟩
  · omega
  · obtain ⟨rfl, _⟩ := hw
    refine ⟨rfl, ?_, putSome_length _ _ _⟩
    exact may_die (may_more h h1 h2 h3 d.fuse ((may_iff d).1 h).1.2.2.2) _
  · omega
theorem write_errno (d : Disk) (x : Int) (s : ByteArray) : (write d x s).2 = 0 ∨ (write d x s).2 = 1 ∨ (write d x s).2 = 90 := by
  unfold write
  repeat' split
  all_goals simp

/-- what is written is read, and no other sector changes; it is kept behind a flush. -/
theorem write_ok {d : Disk} (h : may d = true) {x : Int} {s : ByteArray} {w : Disk} (hw : write d x s = (w, 0)) (o : Int) :
    read w x = (s, 0) ∧ (read d o).2 = (read w o).2 ∧ (o ≠ x → (read d o).1 = (read w o).1) ∧ flush w = (⟨putAll w.kept w.cache, [], w.fuse, w.keep, false⟩, 0) ∧ may w = true ∧
    read (die (flush w).1 []) x = (empty, 90) ∧ read (revive (die (flush w).1 [])) x = (s, 0) := by
  rcases write_cases h x s with ⟨e, _⟩ | ⟨e, _⟩ | ⟨h1, h2, h3, hd, ⟨_, e⟩ | ⟨f, hf, _, _, e⟩⟩ <;> rw [e] at hw <;> simp only [Prod.mk.injEq] at hw
  · omega
  · omega
  · omega
  · obtain ⟨rfl, _⟩ := hw
    have hm : may { more d x s with fuse := f } = true := may_more h h1 h2 h3 f hf
    have hk : ({ more d x s with fuse := f } : Disk).kept = d.kept := rfl
    have hdd : ({ more d x s with fuse := f } : Disk).dead = false := hd
    have hc : cur { more d x s with fuse := f } x.toNat = s := by rw [cur_more, if_pos (by omega)]
    have hfl : flush { more d x s with fuse := f } = (⟨putAll d.kept (more d x s).cache, [], f, d.keep, false⟩, 0) := by
      unfold flush
      rw [if_neg (by rw [hm]; decide), if_neg (by rw [hdd]; decide)]
      show ((⟨_, _, _, _, _⟩ : Disk), (0 : Int)) = _
      congr 2
    have hmf : may ⟨putAll d.kept (more d x s).cache, [], f, d.keep, false⟩ = true := may_flush hm f hf _ _
    refine ⟨?_, ?_, ?_, ?_, hm, ?_, ?_⟩
    · rw [read_ok hm hdd (by rw [hk]; exact h1), hc]
    · by_cases ho : 0 ≤ o ∧ o < d.kept.length
      · rw [read_ok h hd ho, read_ok hm hdd (by rw [hk]; exact ho)]
      · rw [read_out h hd ho, read_out hm hdd (by rw [hk]; exact ho)]
    · intro hne
      by_cases ho : 0 ≤ o ∧ o < d.kept.length
      · rw [read_ok h hd ho, read_ok hm hdd (by rw [hk]; exact ho), cur_more, if_neg (by omega)]
      · rw [read_out h hd ho, read_out hm hdd (by rw [hk]; exact ho)]
    · rw [hfl]; rfl
    · rw [hfl]
      unfold die
      rw [if_neg (by rw [hmf]; decide)]
      exact read_dead (may_die hmf _) rfl x
    · rw [hfl]
      unfold die
      rw [if_neg (by rw [hmf]; decide)]
      have hmd := may_die hmf []
      unfold revive
      rw [if_neg (by rw [hmd]; decide)]
      have hz : (dieOf ⟨putAll d.kept (more d x s).cache, [], f, d.keep, false⟩ []).kept = putAll d.kept (more d x s).cache := putSome_nil _ _
      rw [hz]
      have hmr : may ⟨putAll d.kept (more d x s).cache, [], -1, [], false⟩ = true := may_flush hm (-1) (by omega) _ _
      rw [read_ok hmr rfl (by show _ ∧ _ < ((putAll d.kept (more d x s).cache).length : Int); rw [putAll_length]; exact h1)]
      rw [show cur ⟨putAll d.kept (more d x s).cache, [], -1, [], false⟩ x.toNat = cur { more d x s with fuse := f } x.toNat from cur_flushed hm x.toNat (by rw [hk]; omega) _ _ _, hc]

/-- of a sector behind a death: it is as it was, or one of what was written since, which was told to be kept. -/
def okUpto (d : Disk) (keep : List Bool) (s : ByteArray) (x : Nat) : Nat → Bool
  | 0 => decide (s = d.kept.getD x empty)
  | i + 1 => okUpto d keep s x i || (decide ((d.cache.getD i (0, empty)).1 = x) && (decide ((d.cache.getD i (0, empty)).2 = s) && (decide (i < keep.length) && keep.getD i false)))
theorem okUpto_mono {d : Disk} {keep : List Bool} {s : ByteArray} {x : Nat} : ∀ {i k : Nat}, i ≤ k → okUpto d keep s x i = true → okUpto d keep s x k = true
  | i, 0, h, h2 => by obtain rfl : i = 0 := by omega
                      exact h2
  | i, k + 1, h, h2 => by
    rcases Nat.lt_or_ge i (k + 1) with h' | h'
    · unfold okUpto; rw [okUpto_mono (by omega : i ≤ k) h2]; rfl
    · obtain rfl : i = k + 1 := by omega
      exact h2
theorem keeps_upto (d : Disk) (hd : ∀ p ∈ d.cache, 0 ≤ p.1) (keep : List Bool) (x : Nat) (hx : x < d.kept.length) : ∀ i, i ≤ d.cache.length → okUpto d keep ((putSome d.kept (d.cache.take i) keep).getD x empty) x i = true := by
  intro i
  induction i with
  | zero => intro _; unfold okUpto; rw [List.take_zero]; exact decide_eq_true rfl
  | succ i ih =>
    intro hi
    have ih := ih (by omega)
    rw [putSome_take _ _ _ i (by omega)]
    split
    · rename_i hk
      rw [getD_put1 _ _ _ (hd _ (List.getElem_mem _)) (by rw [putSome_length]; exact hx)]
      unfold step
      split
      · rename_i hp
        unfold okUpto
        have hg : d.cache.getD i (0, empty) = d.cache[i] := by rw [List.getD_eq_getElem?_getD, List.getElem?_eq_getElem (by omega)]; rfl
        have hkl : i < keep.length := by
          rcases Nat.lt_or_ge i keep.length with h | h
          · exact h
          · rw [List.getD_eq_getElem?_getD, List.getElem?_eq_none h] at hk; cases hk
        rw [hg, decide_eq_true hp, decide_eq_true rfl, decide_eq_true hkl, hk]
        simp
      · exact okUpto_mono (by omega) ih
    · exact okUpto_mono (by omega) ih
theorem keeps (d : Disk) (hd : may d = true) (keep : List Bool) (x : Nat) (hx : x < d.kept.length) : okUpto d keep ((dieOf d keep).kept.getD x empty) x d.cache.length = true := by
  have := keeps_upto d (fun p hp => (((may_iff d).1 hd).2.2 p hp).1.1) keep x hx d.cache.length (Nat.le_refl _)
  rwa [List.take_length] at this

theorem put1_comm (k : List ByteArray) (p q : Put) (hp : 0 ≤ p.1) (hq : 0 ≤ q.1) (h : p.1 ≠ q.1) : put1 (put1 k p) q = put1 (put1 k q) p := by
  unfold put1
  exact List.set_comm _ _ (by omega)

/-- two sectors are written in any order the same. -/
theorem apart {d : Disk} (h : may d = true) (hs : small d = true) (hd : d.dead = false) (hf : d.fuse < 0) {x y : Int} (s t : ByteArray) (hxy : x ≠ y) {a b c k m : Disk} {e f g i l : Int}
    (ha : write d x s = (a, e)) (hb : write a y t = (b, f)) (hc : write d y t = (c, g)) (hk : write c x s = (k, i)) (hm : write b x t = (m, l)) :
    e = i ∧ f = g ∧ (flush b).1 = (flush k).1 ∧ (e = 0 → f = 0 → read m x = (t, 0)) := by
  have hsm : d.kept.length ≤ 200 ∧ d.cache.length ≤ 200 := by unfold small at hs; have := of_decide_eq_true hs; exact ⟨this.1, this.2.1⟩
  have hw : ∀ (D : Disk) (z : Int) (u : ByteArray), may D = true → D.dead = false → D.fuse < 0 → D.cache.length < 20000 → D.kept.length = d.kept.length →
      write D z u = if 0 ≤ z ∧ z < d.kept.length ∧ u.size = 32 then (more D z u, 0) else (D, 1) := by
    intro D z u h1 h2 h3 h4 h5
    unfold write
    rw [if_neg (by rw [h1]; decide), if_neg (by rw [h2]; decide), h5]
    by_cases hc : 0 ≤ z ∧ z < d.kept.length ∧ u.size = 32
    · rw [if_neg (by omega), if_neg (by omega), if_pos hc, if_neg (by omega)]
      rfl
    · rw [if_pos (by omega), if_neg hc]
  have hmm : ∀ (D : Disk) (z : Int) (u : ByteArray), may D = true → D.cache.length < 20000 → D.kept.length = d.kept.length → (0 ≤ z ∧ z < d.kept.length ∧ u.size = 32) → may (more D z u) = true :=
    fun D z u h1 h2 h3 h4 => may_more h1 (by rw [h3]; exact ⟨h4.1, h4.2.1⟩) h4.2.2 h2 D.fuse ((may_iff D).1 h1).1.2.2.2
  have hfl : ∀ (D : Disk), may D = true → D.dead = false → (flush D).1 = { D with kept := putAll D.kept D.cache, cache := [] } := by
    intro D h1 h2
    unfold flush
    rw [if_neg (by rw [h1]; decide), if_neg (by rw [h2]; decide)]
  have hcl : ∀ (D : Disk) (z : Int) (u : ByteArray), (more D z u).cache.length = D.cache.length + 1 := fun D z u => by unfold more; simp
  have rd : ∀ (D : Disk) (z : Int) (u : ByteArray), may (more D z u) = true → D.dead = false → D.kept.length = d.kept.length → (0 ≤ z ∧ z < d.kept.length) → read (more D z u) z = (u, 0) := by
    intro D z u h1 h2 h3 h4
    rw [read_ok h1 h2 (by show 0 ≤ z ∧ z < (D.kept.length : Int); rw [h3]; exact h4)]
    have := cur_more D z u D.fuse z.toNat
    rw [if_pos (by omega)] at this
    exact congrArg (·, (0 : Int)) this
  rw [hw d x s h hd hf (by omega) rfl] at ha
  rw [hw d y t h hd hf (by omega) rfl] at hc
  by_cases h1 : 0 ≤ x ∧ x < d.kept.length ∧ s.size = 32
  · rw [if_pos h1, Prod.mk.injEq] at ha
    obtain ⟨rfl, rfl⟩ := ha
    have ma := hmm d x s h (by omega) rfl h1
    rw [hw (more d x s) y t ma hd hf (by rw [hcl]; omega) rfl] at hb
    by_cases h2 : 0 ≤ y ∧ y < d.kept.length ∧ t.size = 32
    · rw [if_pos h2, Prod.mk.injEq] at hb hc
      obtain ⟨rfl, rfl⟩ := hb
      obtain ⟨rfl, rfl⟩ := hc
      have mc := hmm d y t h (by omega) rfl h2
      have mb := hmm (more d x s) y t ma (by rw [hcl]; omega) rfl h2
      rw [hw (more d y t) x s mc hd hf (by rw [hcl]; omega) rfl, if_pos h1, Prod.mk.injEq] at hk
      obtain ⟨rfl, rfl⟩ := hk
      have mk := hmm (more d y t) x s mc (by rw [hcl]; omega) rfl h1
      have h3 : 0 ≤ x ∧ x < d.kept.length ∧ t.size = 32 := ⟨h1.1, h1.2.1, h2.2.2⟩
      rw [hw (more (more d x s) y t) x t mb hd hf (by rw [hcl, hcl]; omega) rfl, if_pos h3, Prod.mk.injEq] at hm
      obtain ⟨rfl, rfl⟩ := hm
      refine ⟨rfl, rfl, ?_, fun _ _ => rd _ _ _ (hmm _ x t mb (by rw [hcl, hcl]; omega) rfl h3) hd rfl ⟨h1.1, h1.2.1⟩⟩
      rw [hfl _ mb hd, hfl _ mk hd]
      unfold more
      simp only [Disk.mk.injEq, and_true]
      rw [putAll_snoc, putAll_snoc, putAll_snoc, putAll_snoc]
      exact put1_comm _ _ _ h1.1 h2.1 hxy
    · rw [if_neg h2, Prod.mk.injEq] at hb hc
      obtain ⟨rfl, rfl⟩ := hb
      obtain ⟨rfl, rfl⟩ := hc
      rw [hw d x s h hd hf (by omega) rfl, if_pos h1, Prod.mk.injEq] at hk
      obtain ⟨rfl, rfl⟩ := hk
      exact ⟨rfl, rfl, rfl, fun _ h0 => by omega⟩
  · rw [if_neg h1, Prod.mk.injEq] at ha
    obtain ⟨rfl, rfl⟩ := ha
    rw [hw d y t h hd hf (by omega) rfl] at hb
    rw [hb] at hc
    rw [Prod.mk.injEq] at hc
    obtain ⟨rfl, rfl⟩ := hc
    by_cases h2 : 0 ≤ y ∧ y < d.kept.length ∧ t.size = 32
    · rw [if_pos h2, Prod.mk.injEq] at hb
      obtain ⟨rfl, rfl⟩ := hb
      rw [hw (more d y t) x s (hmm d y t h (by omega) rfl h2) hd hf (by rw [hcl]; omega) rfl, if_neg h1, Prod.mk.injEq] at hk
      obtain ⟨rfl, rfl⟩ := hk
      exact ⟨rfl, rfl, rfl, fun h0 => by omega⟩
    · rw [if_neg h2, Prod.mk.injEq] at hb
      obtain ⟨rfl, rfl⟩ := hb
      rw [hw d x s h hd hf (by omega) rfl, if_neg h1, Prod.mk.injEq] at hk
      obtain ⟨rfl, rfl⟩ := hk
      exact ⟨rfl, rfl, rfl, fun h0 => by omega⟩

/-- a sector of a byte. -/
def sect (b : UInt8) : ByteArray := ⟨(List.replicate 32 b).toArray⟩
theorem sect_size (b : UInt8) : (sect b).size = 32 := by unfold sect; simp [ByteArray.size]
theorem sect_ne (b : UInt8) (h : b ≠ 0) : sect b ≠ zero := by
  intro e
  unfold sect zero at e
  have := congrArg (fun s : ByteArray => s.data.toList.head?) e
  simp [List.replicate_succ] at this
  exact h this
/-- what was written to an armed disk: the first n sectors. -/
def wrote (S : Nat → ByteArray) (n : Nat) : List Put := (List.range n).map fun (j : Nat) => ((j : Int), S j)
theorem wrote_succ (S : Nat → ByteArray) (n : Nat) : wrote S (n + 1) = wrote S n ++ [((n : Int), S n)] := by
  unfold wrote; rw [List.range_succ, List.map_append]; rfl
theorem wrote_length (S : Nat → ByteArray) (n : Nat) : (wrote S n).length = n := by unfold wrote; simp
theorem putSome_wrote (S : Nat → ByteArray) (keep : List Bool) (k : List ByteArray) : ∀ n, n ≤ k.length → ∀ i, i < k.length →
    (putSome k (wrote S n) keep).getD i empty = if i < n ∧ keep.getD i false = true then S i else k.getD i empty := by
  intro n
  induction n with
  | zero => intro _ i _; rw [if_neg (by omega)]; rfl
  | succ n ih =>
    intro hn i hi
    have ht : (wrote S (n + 1)).take n = wrote S n := by rw [wrote_succ, List.take_left' (wrote_length S n)]
    have hl : n < (wrote S (n + 1)).length := by rw [wrote_length]; omega
    have hg : (wrote S (n + 1))[n] = ((n : Int), S n) := by
      have h : ∀ (l : List Put) (hl : n < l.length), l = wrote S n ++ [((n : Int), S n)] → l[n] = ((n : Int), S n) := by
        intro l hl e
        subst e
        rw [List.getElem_append_right (by rw [wrote_length]; exact Nat.le_refl _)]
        simp [wrote_length]
      exact h _ hl (wrote_succ S n)
    have h1 := putSome_take k (wrote S (n + 1)) keep n hl
    rw [hg, ht, show (wrote S (n + 1)).take (n + 1) = wrote S (n + 1) from List.take_of_length_le (by rw [wrote_length]; exact Nat.le_refl _)] at h1
    rw [h1]
    have ih := ih (by omega) i hi
    by_cases hk : keep.getD n false = true
    · rw [if_pos hk, getD_put1 _ _ _ (Int.natCast_nonneg _) (by rw [putSome_length]; exact hi), ih]
      unfold step
      dsimp only
      by_cases hin : n = i
      · subst hin
        rw [if_pos rfl, if_pos ⟨by omega, hk⟩]
      · rw [if_neg (by omega)]
        by_cases hc : i < n ∧ keep.getD i false = true
        · rw [if_pos hc, if_pos ⟨by omega, hc.2⟩]
        · rw [if_neg hc, if_neg (fun hh => hc ⟨by omega, hh.2⟩)]
    · rw [if_neg hk, ih]
      by_cases hc : i < n ∧ keep.getD i false = true
      · rw [if_pos hc, if_pos ⟨by omega, hc.2⟩]
      · rw [if_neg hc, if_neg]
        rintro ⟨h2, h3⟩
        by_cases hin : n = i
        · subst hin; exact hk h3
        · exact hc ⟨by omega, h3⟩

end Dev
end Go.Proofs.Ytehidhcpdiameaa

/- Disks in memory: a slice of what was written, of two cells each; a disk as a struct's value. -/
namespace Go.Proofs.Ytehidhcpdiameaa
open Go.RowKit

/-- the cells of what was written. -/
def putCells (ps : List Dev.Put) : List Value := ps.flatMap fun p => [.int .i64 p.1, .string p.2]
theorem putCells_nil : putCells [] = [] := rfl
theorem putCells_cons (p : Dev.Put) (ps : List Dev.Put) : putCells (p :: ps) = .int .i64 p.1 :: .string p.2 :: putCells ps := rfl
theorem putCells_append (ps qs : List Dev.Put) : putCells (ps ++ qs) = putCells ps ++ putCells qs := List.flatMap_append
theorem putCells_length : ∀ ps : List Dev.Put, (putCells ps).length = ps.length * 2
  | [] => rfl
  | p :: ps => by rw [putCells_cons, List.length_cons, List.length_cons, putCells_length ps, List.length_cons]; omega
theorem putCells_at : ∀ (ps : List Dev.Put) (k : Nat) (hk : k < ps.length), (putCells ps)[k * 2]? = some (.int .i64 ps[k].1) ∧ (putCells ps)[k * 2 + 1]? = some (.string ps[k].2)
  | [], k, hk => by simp at hk
  | p :: ps, 0, _ => ⟨rfl, rfl⟩
  | p :: ps, k + 1, hk => by
    have := putCells_at ps k (by simpa using hk)
    rw [putCells_cons, show (k + 1) * 2 = k * 2 + 1 + 1 from by omega, List.getElem?_cons_succ, List.getElem?_cons_succ, List.getElem?_cons_succ, List.getElem?_cons_succ]
    exact this
theorem putCells_one (ps : List Dev.Put) : ∀ y ∈ putCells ps, y.oneCell' = true := by
  intro y hy
  unfold putCells at hy
  obtain ⟨p, _, h⟩ := List.mem_flatMap.1 hy
  simp only [List.mem_cons, List.not_mem_nil, or_false] at h
  rcases h with rfl | rfl <;> rfl

/-- a slice that holds what was written. -/
def SlP (w : World) (v : Value) (ps : List Dev.Put) : Prop :=
  ∃ a c, v = .slice a ps.length c ∧ ps.length ≤ c ∧ c ≤ 9223372036854775807 ∧
    (ps ≠ [] → ∃ b o, a = some ⟨b, o, none⟩ ∧ b < w.heap.size ∧ ∀ i x, (putCells ps)[i]? = some x → w.cell? ⟨b, o + i, none⟩ = some x)
theorem SlP.ext {w w' : World} {v : Value} {ps : List Dev.Put} (h : SlP w v ps) (x : Ext w w') : SlP w' v ps := by
  obtain ⟨a, c, h1, h2, h3, h4⟩ := h
  refine ⟨a, c, h1, h2, h3, fun hne => ?_⟩
  obtain ⟨b, o, h5, h6, h7⟩ := h4 hne
  exact ⟨b, o, h5, Nat.lt_of_lt_of_le h6 x.size, fun i y hy => by rw [x.cell (p := ⟨b, o + i, none⟩) h6]; exact h7 i y hy⟩
theorem SlP.nil (w : World) : SlP w (.slice none 0 0) [] := ⟨none, 0, rfl, by simp, by omega, fun h => absurd rfl h⟩
theorem SlP.owned {w : World} {base : Nat} {e : TypeId} {v : Value} {n : Nat} {ps : List Dev.Put} (h : w.ownsRow base e 2 v n (putCells ps)) : SlP w v ps ∧ n = ps.length := by
  obtain ⟨hl, h⟩ := h
  rw [putCells_length] at hl
  obtain rfl : n = ps.length := by omega
  refine ⟨?_, rfl⟩
  rcases h with ⟨rfl, h0⟩ | ⟨g, cap, cur, rfl, _, hc, hcap, hmax, hsz, ht⟩
  · obtain rfl := List.eq_nil_of_length_eq_zero h0
    exact SlP.nil w
  · refine ⟨_, _, rfl, hcap, by unfold maxLen at hmax; omega, fun _ => ⟨g, 0, rfl, ?_, fun i x hx => ?_⟩⟩
    · rcases Nat.lt_or_ge g w.heap.size with hg | hg
      · exact hg
      · rw [Array.getElem?_eq_none hg] at hc; cases hc
    · have hlt : i < (putCells ps).length := (List.getElem?_eq_some_iff.1 hx).1
      have hg := congrArg (fun x => x[i]?) ht
      simp only [hx] at hg
      rw [List.getElem?_take_of_lt (by rw [putCells_length] at hlt; exact hlt)] at hg
      rw [Nat.zero_add]
      have hcell : w.cell? ⟨g, i, none⟩ = cur[i]? := by simp [World.cell?, hc]
      rw [hcell, ← Array.getElem?_toList, hg]
theorem slp_at {w : World} {v : Value} {l : List Dev.Put} (h : SlP w v l) : ∃ a c, v = .slice a l.length c ∧ l.length ≤ c ∧ c ≤ 9223372036854775807 ∧
    ∀ k (hk : k < l.length), ∃ b o, a = some ⟨b, o, none⟩ ∧ b < w.heap.size ∧ w.cell? ⟨b, o + k * 2, none⟩ = some (.int .i64 l[k].1) ∧ w.cell? ⟨b, o + k * 2 + 1, none⟩ = some (.string l[k].2) := by
  obtain ⟨a, c, h1, h2, h3, h4⟩ := h
  refine ⟨a, c, h1, h2, h3, fun k hk => ?_⟩
  obtain ⟨b, o, h5, h6, h7⟩ := h4 (by intro e; subst e; simp at hk)
  have := putCells_at l k hk
  refine ⟨b, o, h5, h6, h7 _ _ this.1, ?_⟩
  rw [show o + k * 2 + 1 = o + (k * 2 + 1) from by omega]
  exact h7 _ _ this.2
theorem sl_bool_at {w : World} {v : Value} {l : List Bool} (h : Sl w v (l.map boolV)) : ∃ a c, v = .slice a l.length c ∧ l.length ≤ c ∧ c ≤ 9223372036854775807 ∧
    ∀ k (hk : k < l.length), ∃ b o, a = some ⟨b, o, none⟩ ∧ b < w.heap.size ∧ w.cell? ⟨b, o + k, none⟩ = some (.bool l[k]) := by
  obtain ⟨a, c, h1, h2, h3, h4⟩ := h
  rw [List.length_map] at h1 h2
  refine ⟨a, c, h1, h2, h3, fun k hk => ?_⟩
  obtain ⟨b, o, h5, h6, h7⟩ := h4 (by intro e; rw [List.map_eq_nil_iff] at e; subst e; simp at hk)
  exact ⟨b, o, h5, h6, h7 k _ (by rw [List.getElem?_map, List.getElem?_eq_getElem hk]; rfl)⟩

/-- a disk's value. -/
def diskV (k c : Value) (f : Int) (p : Value) (b : Bool) : Value := .agg #[k, c, .int .i64 f, p, .bool b]
/-- this value holds this disk. -/
def DiskIn (w : World) (v : Value) (d : Dev.Disk) : Prop :=
  ∃ k c p, v = diskV k c d.fuse p d.dead ∧ Sl w k (d.kept.map strV) ∧ SlP w c d.cache ∧ Sl w p (d.keep.map boolV) ∧ NilOr k ∧ NilOr c
theorem DiskIn.ext {w w' : World} {v : Value} {d : Dev.Disk} (h : DiskIn w v d) (x : Ext w w') : DiskIn w' v d := by
  obtain ⟨k, c, p, h1, h2, h3, h4, h5, h6⟩ := h
  exact ⟨k, c, p, h1, h2.ext x, h3.ext x, h4.ext x, h5, h6⟩

/-- what is owned is nil, or lies at an address. -/
theorem nilOr_owned {w : World} {base : Nat} {e : TypeId} {size : Nat} {v : Value} {n : Nat} {xs : List Value} (h : w.ownsRow base e size v n xs) : NilOr v := by
  rcases h.2 with h | ⟨g, cap, cur, h, _⟩
  · exact .inl h.1
  · exact .inr ⟨_, _, _, h⟩
end Go.Proofs.Ytehidhcpdiameaa

/- The walks of layer 9: may a disk be? -/
namespace Go.Proofs.Ytehidhcpdiameaa
open Go.RowKit

/-- a disk's cells. -/
abbrev diskL (k c : Value) (f : Int) (p : Value) (b : Bool) : List Value := [k, c, .int .i64 f, p, .bool b]

theorem Box.two {n : Nat} {a b : Value} {w : World} (h : Box n [a, b] w) : w.cell? ⟨n, 0, none⟩ = some a ∧ w.cell? ⟨n, 1, none⟩ = some b ∧ w.frozen? ⟨n, 0, none⟩ = false ∧ w.frozen? ⟨n, 1, none⟩ = false :=
  ⟨h.cell 0 _ rfl, h.cell 1 _ rfl, h.free 0 (by simp), h.free 1 (by simp)⟩

theorem there_any (a : Option Addr) (n C : Nat) (c p : Value) (f : Int) (b : Bool) (x : Int) (hn : n ≤ 9223372036854775807) (w : World) :
    Calls Try.prog 99 #[diskV (.slice a n C) c f p b, .int .i64 x] w fun e w' => e = .returned (.bool (decide (0 ≤ x ∧ x < n))) ∧ Ext w w' := by
  unfold diskV
  have hnb : (n : Int) ≤ 9223372036854775807 := by omega
  by_cases h0 : 0 ≤ x
  · by_cases h1 : x < n
    · rw [decide_eq_true ⟨h0, h1⟩]
      have d0 : decide (0 ≤ x) = true := decide_eq_true h0
      have d1 : decide (x < (n : Int)) = true := decide_eq_true h1
      go_enter Try.func99, Try.ntmps99
      go_wp2
      go_ret
      exact ⟨rfl, (Ext.refl _).alloc _⟩
    · rw [decide_eq_false (fun h => h1 h.2)]
      have d0 : decide (0 ≤ x) = true := decide_eq_true h0
      have d1 : decide (x < (n : Int)) = false := decide_eq_false h1
      go_enter Try.func99, Try.ntmps99
      go_wp2
      go_ret
      exact ⟨rfl, (Ext.refl _).alloc _⟩
  · rw [decide_eq_false (fun h => h0 h.1)]
    have d0 : decide (0 ≤ x) = false := decide_eq_false h0
    go_enter Try.func99, Try.ntmps99
    go_wp2
    go_ret
    exact ⟨rfl, (Ext.refl _).alloc _⟩

namespace Dev
/-- the head of the question: how many there are. -/
def headOk (d : Disk) : Prop := 1 ≤ d.kept.length ∧ d.kept.length ≤ 5000 ∧ d.cache.length ≤ 20000 ∧ -1 ≤ d.fuse
theorem may_head (d : Disk) (h : ¬ headOk d) : may d = false := by
  cases hm : may d with
  | false => rfl
  | true => exact absurd ((may_iff d).1 hm).1 h
theorem may_kept (d : Disk) (k : Nat) (hk : k < d.kept.length) (h : ¬ d.kept[k].size = 32) : may d = false := by
  cases hm : may d with
  | false => rfl
  | true => exact absurd (((may_iff d).1 hm).2.1 _ (List.getElem_mem hk)) h
theorem may_cache (d : Disk) (k : Nat) (hk : k < d.cache.length) (h : ¬ ((0 ≤ d.cache[k].1 ∧ d.cache[k].1 < d.kept.length) ∧ d.cache[k].2.size = 32)) : may d = false := by
  cases hm : may d with
  | false => rfl
  | true => exact absurd (((may_iff d).1 hm).2.2 _ (List.getElem_mem hk)) h
theorem may_all (d : Disk) (h : headOk d) (hk : ∀ j (hj : j < d.kept.length), d.kept[j].size = 32) (hc : ∀ j (hj : j < d.cache.length), (0 ≤ d.cache[j].1 ∧ d.cache[j].1 < d.kept.length) ∧ d.cache[j].2.size = 32) : may d = true := by
  rw [may_iff]
  refine ⟨h, fun s hs => ?_, fun p hp => ?_⟩
  · obtain ⟨j, hj, rfl⟩ := List.getElem_of_mem hs; exact hk j hj
  · obtain ⟨j, hj, rfl⟩ := List.getElem_of_mem hp; exact hc j hj
end Dev

set_option maxRecDepth 100000 in
set_option maxHeartbeats 4000000 in
theorem may_none (F : Nat) (hF : F = 73 ∨ F = 74) (d : Dev.Disk) (k c p : Value) (w : World) (hk : Sl w k (d.kept.map strV)) (hc : SlP w c d.cache) (h : ¬ Dev.headOk d) :
    Calls Try.prog F #[diskV k c d.fuse p d.dead] w fun e w' => e = .returned (.bool false) ∧ Ext w w' := by
  obtain ⟨a, C, rfl, hlc, hC, hx⟩ := sl_str_at hk
  obtain ⟨a2, C2, rfl, hlc2, hC2, hy⟩ := slp_at hc
  clear hx hy
  unfold Dev.headOk at h
  unfold diskV
  clear hk hc
  generalize d.kept.length = N at *
  generalize d.cache.length = M at *
  generalize d.fuse = f at *
  have hN : (N : Int) ≤ 9223372036854775807 := by omega
  have hM : (M : Int) ≤ 9223372036854775807 := by omega
  by_cases h1 : (N : Int) < 1
  · have d1 : decide ((N : Int) < 1) = true := decide_eq_true h1
    clear h
    rcases hF with rfl | rfl
    · go_enter Try.func73, Try.ntmps73
      go_wp2
      go_ret
      exact ⟨rfl, (Ext.refl _).alloc _⟩
    · go_enter Try.func74, Try.ntmps74
      go_wp2
      go_ret
      exact ⟨rfl, (Ext.refl _).alloc _⟩
  · have d1 : decide ((N : Int) < 1) = false := decide_eq_false h1
    by_cases h2 : 5000 < (N : Int)
    · have d2 : decide (5000 < (N : Int)) = true := decide_eq_true h2
      clear h
      rcases hF with rfl | rfl
      · go_enter Try.func73, Try.ntmps73
        go_wp2
        go_ret
        exact ⟨rfl, (Ext.refl _).alloc _⟩
      · go_enter Try.func74, Try.ntmps74
        go_wp2
        go_ret
        exact ⟨rfl, (Ext.refl _).alloc _⟩
    · have d2 : decide (5000 < (N : Int)) = false := decide_eq_false h2
      by_cases h3 : 20000 < (M : Int)
      · have d3 : decide (20000 < (M : Int)) = true := decide_eq_true h3
        clear h
        rcases hF with rfl | rfl
        · go_enter Try.func73, Try.ntmps73
          go_wp2
          go_ret
          exact ⟨rfl, (Ext.refl _).alloc _⟩
        · go_enter Try.func74, Try.ntmps74
          go_wp2
          go_ret
          exact ⟨rfl, (Ext.refl _).alloc _⟩
      · have d3 : decide (20000 < (M : Int)) = false := decide_eq_false h3
        have d4 : decide (f < -1) = true := decide_eq_true (by omega)
        clear h
        rcases hF with rfl | rfl
        · go_enter Try.func73, Try.ntmps73
          go_wp2
          go_ret
          exact ⟨rfl, (Ext.refl _).alloc _⟩
        · go_enter Try.func74, Try.ntmps74
          go_wp2
          go_ret
          exact ⟨rfl, (Ext.refl _).alloc _⟩

set_option maxRecDepth 100000 in
set_option maxHeartbeats 8000000 in
theorem may_any (d : Dev.Disk) (v : Value) (w : World) (h : DiskIn w v d) :
    Calls Try.prog 73 #[v] w fun e w' => e = .returned (.bool (Dev.may d)) ∧ Ext w w' := by
  obtain ⟨k, c, p, rfl, hk, hc, _, _, _⟩ := h
  by_cases hh : Dev.headOk d
  · have hkept := Dev.may_kept d
    have hcache := Dev.may_cache d
    have hall := Dev.may_all d hh
    obtain ⟨g1, g2, g3, g4⟩ := hh
    obtain ⟨a, C, rfl, hlc, hC, hx⟩ := sl_str_at hk
    obtain ⟨a2, C2, rfl, hlc2, hC2, hy⟩ := slp_at hc
    generalize Dev.may d = R at *
    have h99 := fun x => there_any a d.kept.length C (.slice a2 d.cache.length C2) p d.fuse d.dead x (by omega)
    unfold diskV at h99 ⊢
    clear hk hc
    have d1 : decide ((d.kept.length : Int) < 1) = false := decide_eq_false (by omega)
    have d2 : decide (5000 < (d.kept.length : Int)) = false := decide_eq_false (by omega)
    have d3 : decide (20000 < (d.cache.length : Int)) = false := decide_eq_false (by omega)
    have d4 : decide (d.fuse < -1) = false := decide_eq_false (by omega)
    have hbox := Box.new w (diskL (.slice a d.kept.length C) (.slice a2 d.cache.length C2) d.fuse p d.dead) 69
    have y0 : Ext w (w.alloc (.cells #[.slice a d.kept.length C, .slice a2 d.cache.length C2, .int .i64 d.fuse, p, .bool d.dead] 69)) := (Ext.refl w).alloc _
    replace h99 := Lib.hid h99; replace hx := Lib.hid hx; replace hy := Lib.hid hy; replace hkept := Lib.hid hkept; replace hcache := Lib.hid hcache; replace hall := Lib.hid hall
    replace hbox := Lib.hid hbox
    go_enter Try.func73, Try.ntmps73
    go_wp2_with fail
    go_loop [31] (fun i => ∃ k : Nat, k ≤ d.kept.length ∧ i = .int .i64 k ∧ ∀ j (hj : j < d.kept.length), j < k → d.kept[j].size = 32) (fun i => d.kept.length - (intOf i).toNat)
    case atStart => exact ⟨0, by omega, rfl, fun j _ hj => by omega⟩
    case round =>
      obtain ⟨k, hk, rfl, hsame⟩ := hrel
      replace hsame := Lib.hid hsame
      by_cases hkl : k < d.kept.length
      · obtain ⟨b, o, rfl, hb, hcell⟩ := hx.out k hkl
        have hno := hkept.out k hkl
        have hst : (d.kept[k]).size = 32 → ∀ j (hj : j < d.kept.length), j < k + 1 → d.kept[j].size = 32 := fun e j hj hjk => by
          rcases Nat.lt_or_ge j k with h | h
          · exact hsame.out j hj h
          · obtain rfl : j = k := by omega
            exact e
        have hcw := (y0.cell (p := ⟨b, o + k, none⟩) hb).trans hcell
        clear hcell
        generalize d.kept[k] = s at *
        by_cases hs : s.size = 32
        · have hs1 : ((s.size : Int) == 32) = true := by simp; omega
          have hs2 : ((s.size : Int) != 32) = false := by simp; omega
          replace hst := Lib.hid (hst hs)
          replace hs := Lib.hid hs
          clear hno
          go_wp2_with fail
          go_round
          case rel => exact ⟨k + 1, by omega, by go_num, hst.out⟩
          case measure => simp [intOf]; omega
        · have hs1 : ((s.size : Int) == 32) = false := by simp; omega
          have hs2 : ((s.size : Int) != 32) = true := by simp; omega
          replace hno := Lib.hid (hno hs)
          clear hst
          go_wp2_with fail
          go_ret
          exact ⟨ret_bool hno.out.symm, y0⟩
      · obtain rfl : k = d.kept.length := by omega
        go_wp2_with fail
        go_loopw [42] (fun i wr => ∃ k : Nat, k ≤ d.cache.length ∧ i = .int .i64 k ∧ (∀ j (hj : j < d.cache.length), j < k → (0 ≤ d.cache[j].1 ∧ d.cache[j].1 < d.kept.length) ∧ d.cache[j].2.size = 32) ∧ Ext (w.alloc (.cells #[.slice a d.kept.length C, .slice a2 d.cache.length C2, .int .i64 d.fuse, p, .bool d.dead] 69)) wr) (fun i _ => d.cache.length - (intOf i).toNat)
        case atStart => exact ⟨0, by omega, rfl, fun j _ hj => by omega, Ext.refl _⟩
        case round =>
          obtain ⟨k, hk, rfl, hin, hxr⟩ := hrel
          replace hin := Lib.hid hin
          by_cases hkl : k < d.cache.length
          · obtain ⟨b, o, rfl, hb, hcell⟩ := hy.out k hkl
            have hno := hcache.out k hkl
            have hst : ((0 ≤ d.cache[k].1 ∧ d.cache[k].1 < d.kept.length) ∧ d.cache[k].2.size = 32) → ∀ j (hj : j < d.cache.length), j < k + 1 → (0 ≤ d.cache[j].1 ∧ d.cache[j].1 < d.kept.length) ∧ d.cache[j].2.size = 32 := fun e j hj hjk => by
              rcases Nat.lt_or_ge j k with h | h
              · exact hin.out j hj h
              · obtain rfl : j = k := by omega
                exact e
            have y1 := y0.trans hxr
            have hc1 := (y1.cell (p := ⟨b, o + k * 2, none⟩) hb).trans hcell.1
            have hc2 := (y1.cell (p := ⟨b, o + k * 2 + 1, none⟩) hb).trans hcell.2
            clear hcell
            generalize d.cache[k].1 = x at *
            generalize d.cache[k].2 = s at *
            have h99' := h99.out x
            obtain ⟨⟨i0, i1, i2, i3, i4⟩, _⟩ := ((hbox.out.ext hxr).alloc (.cells #[.int .i64 x, .string s] 90)).at5
            have bx := Lib.hid (Box.new wr [.int .i64 x, .string s] 90)
            by_cases hin2 : 0 ≤ x ∧ x < (d.kept.length : Int)
            · rw [decide_eq_true hin2] at h99'
              by_cases hs : s.size = 32
              · have hs1 : ((s.size : Int) == 32) = true := by simp; omega
                have hs2 : ((s.size : Int) != 32) = false := by simp; omega
                replace hst := Lib.hid (hst ⟨hin2, hs⟩)
                replace hs := Lib.hid hs; replace h99' := Lib.hid h99'
                clear hno hin2
                go_wp2_with fail
                refine (h99'.out _).mono ?_; rintro e w2 ⟨rfl, x2⟩
                obtain ⟨j0, j1, _, _⟩ := (bx.out.ext x2).two
                have y3 := (hxr.alloc (.cells #[.int .i64 x, .string s] 90)).trans x2
                clear i0 i1 i2 i3 i4
                go_wp2_with fail
                go_roundw
                case rel => exact ⟨k + 1, by omega, by go_num, hst.out, y3⟩
                case measure => simp [intOf]; omega
              · have hs1 : ((s.size : Int) == 32) = false := by simp; omega
                have hs2 : ((s.size : Int) != 32) = true := by simp; omega
                replace hno := Lib.hid (hno fun h => hs h.2)
                replace h99' := Lib.hid h99'
                clear hst hin2
                go_wp2_with fail
                refine (h99'.out _).mono ?_; rintro e w2 ⟨rfl, x2⟩
                obtain ⟨j0, j1, _, _⟩ := (bx.out.ext x2).two
                have y3 := (hxr.alloc (.cells #[.int .i64 x, .string s] 90)).trans x2
                clear i0 i1 i2 i3 i4
                go_wp2_with fail
                go_ret
                exact ⟨ret_bool hno.out.symm, y0.trans y3⟩
            · rw [decide_eq_false hin2] at h99'
              replace hno := Lib.hid (hno fun h => hin2 h.1)
              replace h99' := Lib.hid h99'
              clear hst hin2
              go_wp2_with fail
              refine (h99'.out _).mono ?_; rintro e w2 ⟨rfl, x2⟩
              have y3 := (hxr.alloc (.cells #[.int .i64 x, .string s] 90)).trans x2
              clear i0 i1 i2 i3 i4
              go_wp2_with fail
              go_ret
              exact ⟨ret_bool hno.out.symm, y0.trans y3⟩
          · obtain rfl : k = d.cache.length := by omega
            go_wp2_with fail
            go_ret
            exact ⟨ret_bool (by rw [hall.out (fun j hj => hsame.out j hj hj) (fun j hj => hin.out j hj hj)]), y0.trans hxr⟩
  · rw [Dev.may_head d hh]
    exact may_none 73 (.inl rfl) d k c p w hk hc hh
end Go.Proofs.Ytehidhcpdiameaa

/- The walks of layer 9, on: may a disk be, of the reference; is it small. -/
namespace Go.Proofs.Ytehidhcpdiameaa
open Go.RowKit

set_option maxRecDepth 100000 in
set_option maxHeartbeats 16000000 in
theorem refMay_any (d : Dev.Disk) (v : Value) (w : World) (h : DiskIn w v d) :
    Calls Try.prog 74 #[v] w fun e w' => e = .returned (.bool (Dev.may d)) ∧ Ext w w' := by
  obtain ⟨k, c, p, rfl, hk, hc, _, _, _⟩ := h
  by_cases hh : Dev.headOk d
  · have hkept := Dev.may_kept d
    have hcache := Dev.may_cache d
    have hall := Dev.may_all d hh
    obtain ⟨g1, g2, g3, g4⟩ := hh
    obtain ⟨a, C, rfl, hlc, hC, hx⟩ := sl_str_at hk
    obtain ⟨a2, C2, rfl, hlc2, hC2, hy⟩ := slp_at hc
    generalize Dev.may d = R at *
    unfold diskV
    clear hk hc
    have d1 : decide ((d.kept.length : Int) < 1) = false := decide_eq_false (by omega)
    have d2 : decide (5000 < (d.kept.length : Int)) = false := decide_eq_false (by omega)
    have d3 : decide (20000 < (d.cache.length : Int)) = false := decide_eq_false (by omega)
    have d4 : decide (d.fuse < -1) = false := decide_eq_false (by omega)
    have hbox := Box.new w (diskL (.slice a d.kept.length C) (.slice a2 d.cache.length C2) d.fuse p d.dead) 69
    obtain ⟨⟨b0, b1, b2, b3, b4⟩, _⟩ := hbox.at5
    have y0 : Ext w (w.alloc (.cells #[.slice a d.kept.length C, .slice a2 d.cache.length C2, .int .i64 d.fuse, p, .bool d.dead] 69)) := (Ext.refl w).alloc _
    replace hx := Lib.hid hx; replace hy := Lib.hid hy; replace hkept := Lib.hid hkept; replace hcache := Lib.hid hcache; replace hall := Lib.hid hall
    replace hbox := Lib.hid hbox
    go_enter Try.func74, Try.ntmps74
    go_wp2_with fail
    go_loop [3] (fun i => ∃ k : Nat, k ≤ d.kept.length ∧ i = .int .i64 k ∧ ∀ j (hj : j < d.kept.length), j < k → d.kept[j].size = 32) (fun i => d.kept.length - (intOf i).toNat)
    case atStart => exact ⟨0, by omega, rfl, fun j _ hj => by omega⟩
    case round =>
      obtain ⟨k, hk, rfl, hsame⟩ := hrel
      replace hsame := Lib.hid hsame
      by_cases hkl : k < d.kept.length
      · obtain ⟨b, o, rfl, hb, hcell⟩ := hx.out k hkl
        have hno := hkept.out k hkl
        have hst : (d.kept[k]).size = 32 → ∀ j (hj : j < d.kept.length), j < k + 1 → d.kept[j].size = 32 := fun e j hj hjk => by
          rcases Nat.lt_or_ge j k with h | h
          · exact hsame.out j hj h
          · obtain rfl : j = k := by omega
            exact e
        have hcw := (y0.cell (p := ⟨b, o + k, none⟩) hb).trans hcell
        clear hcell
        generalize d.kept[k] = s at *
        by_cases hs : s.size = 32
        · have hs1 : ((s.size : Int) == 32) = true := by simp; omega
          have hs2 : ((s.size : Int) != 32) = false := by simp; omega
          replace hst := Lib.hid (hst hs)
          replace hs := Lib.hid hs
          clear hno
          go_wp2_with fail
          go_round
          case rel => exact ⟨k + 1, by omega, by go_num, hst.out⟩
          case measure => simp [intOf]; omega
        · have hs1 : ((s.size : Int) == 32) = false := by simp; omega
          have hs2 : ((s.size : Int) != 32) = true := by simp; omega
          replace hno := Lib.hid (hno hs)
          clear hst
          go_wp2_with fail
          go_ret
          exact ⟨ret_bool hno.out.symm, y0⟩
      · obtain rfl : k = d.kept.length := by omega
        go_wp2_with fail
        clear b0 b1 b2 b3 b4
        go_loopw [4] (fun i wr => ∃ k : Nat, k ≤ d.cache.length ∧ i = .int .i64 k ∧ (∀ j (hj : j < d.cache.length), j < k → (0 ≤ d.cache[j].1 ∧ d.cache[j].1 < d.kept.length) ∧ d.cache[j].2.size = 32) ∧ Ext (w.alloc (.cells #[.slice a d.kept.length C, .slice a2 d.cache.length C2, .int .i64 d.fuse, p, .bool d.dead] 69)) wr) (fun i _ => d.cache.length - (intOf i).toNat)
        case atStart => exact ⟨0, by omega, rfl, fun j _ hj => by omega, Ext.refl _⟩
        case round =>
          obtain ⟨k, hk, rfl, hin, hxr⟩ := hrel
          replace hin := Lib.hid hin
          obtain ⟨⟨b0, b1, b2, b3, b4⟩, _⟩ := (hbox.out.ext hxr).at5
          by_cases hkl : k < d.cache.length
          · obtain ⟨b, o, rfl, hb, hcell⟩ := hy.out k hkl
            have hno := hcache.out k hkl
            have hst : ((0 ≤ d.cache[k].1 ∧ d.cache[k].1 < d.kept.length) ∧ d.cache[k].2.size = 32) → ∀ j (hj : j < d.cache.length), j < k + 1 → (0 ≤ d.cache[j].1 ∧ d.cache[j].1 < d.kept.length) ∧ d.cache[j].2.size = 32 := fun e j hj hjk => by
              rcases Nat.lt_or_ge j k with h | h
              · exact hin.out j hj h
              · obtain rfl : j = k := by omega
                exact e
            have y1 := y0.trans hxr
            have hc1 : ∀ wq, Ext wr wq → wq.cell? ⟨b, o + k * 2, none⟩ = some (.int .i64 d.cache[k].1) := fun wq xq => ((y1.trans xq).cell (p := ⟨b, o + k * 2, none⟩) hb).trans hcell.1
            have hc2 : ∀ wq, Ext wr wq → wq.cell? ⟨b, o + k * 2 + 1, none⟩ = some (.string d.cache[k].2) := fun wq xq => ((y1.trans xq).cell (p := ⟨b, o + k * 2 + 1, none⟩) hb).trans hcell.2
            clear hcell
            generalize d.cache[k].1 = x at *
            generalize d.cache[k].2 = s at *
            replace hc1 := Lib.hid hc1; replace hc2 := Lib.hid hc2
            have hkc : (k : Int) < d.cache.length := by omega
            go_wp2_with fail
            clear b0 b1 b2 b3 b4
            by_cases hx0 : x < 0
            · have q1 : decide (x < 0) = true := decide_eq_true hx0
              replace hno := Lib.hid (hno fun h => by omega)
              clear hst
              refine Soft.region_ext [] [0, 1, 2, 3, 4, 5, 6, 7, 8, 9, 10, 11, 12, 13, 14, 15, 16, 17, 18, 19, 20, 21, 22, 23, 24, 25, 26, 27, 28] [] (by kernel_rfl) (by kernel_rfl) Soft.stab_none ?_
              repeat (first | (refine Soft.pure_n rfl rfl rfl rfl (fun K hK => ?_); go_simp; refine hK _ ?_; clear hK K) | (refine Soft.pure_g rfl rfl rfl rfl rfl (fun K hK => ?_); go_simp; refine hK _ ?_; clear hK K) | (refine Soft.shut rfl rfl rfl rfl (fun K hK => ?_); go_simp; refine hK _ ?_; clear hK K) | (refine Soft.shut0 rfl rfl rfl rfl (fun K hK => ?_); go_simp; refine hK _ ?_; clear hK K) | (refine Soft.quiet_n rfl rfl rfl rfl (fun K hK => ?_); go_simp; apply Exists.intro; refine ⟨fun wq hq => ?_, hK _ ?_⟩; (first | (go_simp; with_reducible rfl) | (obtain ⟨⟨gg0, gg1, gg2, gg3, gg4⟩, _⟩ := (hbox.out.ext (hxr.trans hq)).at5; go_simp; with_reducible rfl) | (have gg := hc1.out wq hq; go_simp; with_reducible rfl) | (have gg := hc2.out wq hq; go_simp; with_reducible rfl)); clear hK K) | (refine Soft.quiet_g rfl rfl rfl rfl rfl (fun K hK => ?_); go_simp; apply Exists.intro; refine ⟨fun wq hq => ?_, hK _ ?_⟩; (first | (go_simp; with_reducible rfl) | (obtain ⟨⟨gg0, gg1, gg2, gg3, gg4⟩, _⟩ := (hbox.out.ext (hxr.trans hq)).at5; go_simp; with_reducible rfl) | (have gg := hc1.out wq hq; go_simp; with_reducible rfl) | (have gg := hc2.out wq hq; go_simp; with_reducible rfl)); clear hK K))
              refine Soft.ends (by kernel_rfl) (fun w2 x2 _ => ?_)
              go_wp2_with fail
              go_ret
              exact ⟨ret_bool hno.out.symm, y0.trans (hxr.trans x2)⟩
            · have q1 : decide (x < 0) = false := decide_eq_false hx0
              by_cases hx1 : (d.kept.length : Int) ≤ x
              · have q2 : decide ((d.kept.length : Int) ≤ x) = true := decide_eq_true hx1
                replace hno := Lib.hid (hno fun h => by omega)
                clear hst
                refine Soft.region_ext [] [0, 1, 2, 3, 4, 5, 6, 7, 8, 9, 10, 11, 12, 13, 14, 15, 16, 17, 18, 19, 20, 21, 22, 23, 24, 25, 26, 27, 28] [] (by kernel_rfl) (by kernel_rfl) Soft.stab_none ?_
                repeat (first | (refine Soft.pure_n rfl rfl rfl rfl (fun K hK => ?_); go_simp; refine hK _ ?_; clear hK K) | (refine Soft.pure_g rfl rfl rfl rfl rfl (fun K hK => ?_); go_simp; refine hK _ ?_; clear hK K) | (refine Soft.shut rfl rfl rfl rfl (fun K hK => ?_); go_simp; refine hK _ ?_; clear hK K) | (refine Soft.shut0 rfl rfl rfl rfl (fun K hK => ?_); go_simp; refine hK _ ?_; clear hK K) | (refine Soft.quiet_n rfl rfl rfl rfl (fun K hK => ?_); go_simp; apply Exists.intro; refine ⟨fun wq hq => ?_, hK _ ?_⟩; (first | (go_simp; with_reducible rfl) | (obtain ⟨⟨gg0, gg1, gg2, gg3, gg4⟩, _⟩ := (hbox.out.ext (hxr.trans hq)).at5; go_simp; with_reducible rfl) | (have gg := hc1.out wq hq; go_simp; with_reducible rfl) | (have gg := hc2.out wq hq; go_simp; with_reducible rfl)); clear hK K) | (refine Soft.quiet_g rfl rfl rfl rfl rfl (fun K hK => ?_); go_simp; apply Exists.intro; refine ⟨fun wq hq => ?_, hK _ ?_⟩; (first | (go_simp; with_reducible rfl) | (obtain ⟨⟨gg0, gg1, gg2, gg3, gg4⟩, _⟩ := (hbox.out.ext (hxr.trans hq)).at5; go_simp; with_reducible rfl) | (have gg := hc1.out wq hq; go_simp; with_reducible rfl) | (have gg := hc2.out wq hq; go_simp; with_reducible rfl)); clear hK K))
                refine Soft.ends (by kernel_rfl) (fun w2 x2 _ => ?_)
                go_wp2_with fail
                go_ret
                exact ⟨ret_bool hno.out.symm, y0.trans (hxr.trans x2)⟩
              · have q2 : decide ((d.kept.length : Int) ≤ x) = false := decide_eq_false hx1
                by_cases hs : s.size = 32
                · have hs1 : ((s.size : Int) == 32) = true := by simp; omega
                  have hs2 : ((s.size : Int) != 32) = false := by simp; omega
                  replace hst := Lib.hid (hst ⟨⟨by omega, by omega⟩, hs⟩)
                  replace hs := Lib.hid hs
                  clear hno
                  refine Soft.region_ext [] [0, 1, 2, 3, 4, 5, 6, 7, 8, 9, 10, 11, 12, 13, 14, 15, 16, 17, 18, 19, 20, 21, 22, 23, 24, 25, 26, 27, 28] [] (by kernel_rfl) (by kernel_rfl) Soft.stab_none ?_
                  repeat (first | (refine Soft.pure_n rfl rfl rfl rfl (fun K hK => ?_); go_simp; refine hK _ ?_; clear hK K) | (refine Soft.pure_g rfl rfl rfl rfl rfl (fun K hK => ?_); go_simp; refine hK _ ?_; clear hK K) | (refine Soft.shut rfl rfl rfl rfl (fun K hK => ?_); go_simp; refine hK _ ?_; clear hK K) | (refine Soft.shut0 rfl rfl rfl rfl (fun K hK => ?_); go_simp; refine hK _ ?_; clear hK K) | (refine Soft.quiet_n rfl rfl rfl rfl (fun K hK => ?_); go_simp; apply Exists.intro; refine ⟨fun wq hq => ?_, hK _ ?_⟩; (first | (go_simp; with_reducible rfl) | (obtain ⟨⟨gg0, gg1, gg2, gg3, gg4⟩, _⟩ := (hbox.out.ext (hxr.trans hq)).at5; go_simp; with_reducible rfl) | (have gg := hc1.out wq hq; go_simp; with_reducible rfl) | (have gg := hc2.out wq hq; go_simp; with_reducible rfl)); clear hK K) | (refine Soft.quiet_g rfl rfl rfl rfl rfl (fun K hK => ?_); go_simp; apply Exists.intro; refine ⟨fun wq hq => ?_, hK _ ?_⟩; (first | (go_simp; with_reducible rfl) | (obtain ⟨⟨gg0, gg1, gg2, gg3, gg4⟩, _⟩ := (hbox.out.ext (hxr.trans hq)).at5; go_simp; with_reducible rfl) | (have gg := hc1.out wq hq; go_simp; with_reducible rfl) | (have gg := hc2.out wq hq; go_simp; with_reducible rfl)); clear hK K))
                  refine Soft.ends (by kernel_rfl) (fun w2 x2 _ => ?_)
                  go_wp2_with fail
                  go_roundw
                  case rel => exact ⟨k + 1, by omega, by go_num, hst.out, hxr.trans x2⟩
                  case measure => simp [intOf]; omega
                · have hs1 : ((s.size : Int) == 32) = false := by simp; omega
                  have hs2 : ((s.size : Int) != 32) = true := by simp; omega
                  replace hno := Lib.hid (hno fun h => hs h.2)
                  clear hst
                  refine Soft.region_ext [] [0, 1, 2, 3, 4, 5, 6, 7, 8, 9, 10, 11, 12, 13, 14, 15, 16, 17, 18, 19, 20, 21, 22, 23, 24, 25, 26, 27, 28] [] (by kernel_rfl) (by kernel_rfl) Soft.stab_none ?_
                  repeat (first | (refine Soft.pure_n rfl rfl rfl rfl (fun K hK => ?_); go_simp; refine hK _ ?_; clear hK K) | (refine Soft.pure_g rfl rfl rfl rfl rfl (fun K hK => ?_); go_simp; refine hK _ ?_; clear hK K) | (refine Soft.shut rfl rfl rfl rfl (fun K hK => ?_); go_simp; refine hK _ ?_; clear hK K) | (refine Soft.shut0 rfl rfl rfl rfl (fun K hK => ?_); go_simp; refine hK _ ?_; clear hK K) | (refine Soft.quiet_n rfl rfl rfl rfl (fun K hK => ?_); go_simp; apply Exists.intro; refine ⟨fun wq hq => ?_, hK _ ?_⟩; (first | (go_simp; with_reducible rfl) | (obtain ⟨⟨gg0, gg1, gg2, gg3, gg4⟩, _⟩ := (hbox.out.ext (hxr.trans hq)).at5; go_simp; with_reducible rfl) | (have gg := hc1.out wq hq; go_simp; with_reducible rfl) | (have gg := hc2.out wq hq; go_simp; with_reducible rfl)); clear hK K) | (refine Soft.quiet_g rfl rfl rfl rfl rfl (fun K hK => ?_); go_simp; apply Exists.intro; refine ⟨fun wq hq => ?_, hK _ ?_⟩; (first | (go_simp; with_reducible rfl) | (obtain ⟨⟨gg0, gg1, gg2, gg3, gg4⟩, _⟩ := (hbox.out.ext (hxr.trans hq)).at5; go_simp; with_reducible rfl) | (have gg := hc1.out wq hq; go_simp; with_reducible rfl) | (have gg := hc2.out wq hq; go_simp; with_reducible rfl)); clear hK K))
                  refine Soft.ends (by kernel_rfl) (fun w2 x2 _ => ?_)
                  go_wp2_with fail
                  go_ret
                  exact ⟨ret_bool hno.out.symm, y0.trans (hxr.trans x2)⟩
          · obtain rfl : k = d.cache.length := by omega
            go_wp2_with fail
            go_ret
            exact ⟨ret_bool (by rw [hall.out (fun j hj => hsame.out j hj hj) (fun j hj => hin.out j hj hj)]), y0.trans hxr⟩
  · rw [Dev.may_head d hh]
    exact may_none 74 (.inr rfl) d k c p w hk hc hh

theorem small9_any (d : Dev.Disk) (v : Value) (w : World) (h : DiskIn w v d) :
    Calls Try.prog 67 #[v] w fun e w' => e = .returned (.bool (Dev.small d)) ∧ Ext w w' := by
  obtain ⟨k, c, p, rfl, hk, hc, hp, _, _⟩ := h
  obtain ⟨a, C, rfl, hlc, hC, hx⟩ := sl_str_at hk
  obtain ⟨a2, C2, rfl, hlc2, hC2, hy⟩ := slp_at hc
  obtain ⟨a3, C3, rfl, hlc3, hC3, hz⟩ := sl_bool_at hp
  clear hx hy hz hk hc hp
  unfold Dev.small diskV
  generalize d.kept.length = N at *
  generalize d.cache.length = M at *
  generalize d.keep.length = L at *
  have hN : (N : Int) ≤ 9223372036854775807 := by omega
  have hM : (M : Int) ≤ 9223372036854775807 := by omega
  have hL : (L : Int) ≤ 9223372036854775807 := by omega
  by_cases h1 : (N : Int) ≤ 200
  · have d1 : decide ((N : Int) ≤ 200) = true := decide_eq_true h1
    by_cases h2 : (M : Int) ≤ 200
    · have d2 : decide ((M : Int) ≤ 200) = true := decide_eq_true h2
      by_cases h3 : (L : Int) ≤ 400
      · have d3 : decide ((L : Int) ≤ 400) = true := decide_eq_true h3
        rw [decide_eq_true (show N ≤ 200 ∧ M ≤ 200 ∧ L ≤ 400 by omega)]
        go_enter Try.func67, Try.ntmps67
        go_wp2
        go_ret
        exact ⟨rfl, (Ext.refl _).alloc _⟩
      · have d3 : decide ((L : Int) ≤ 400) = false := decide_eq_false h3
        rw [decide_eq_false (show ¬ (N ≤ 200 ∧ M ≤ 200 ∧ L ≤ 400) by omega)]
        go_enter Try.func67, Try.ntmps67
        go_wp2
        go_ret
        exact ⟨rfl, (Ext.refl _).alloc _⟩
    · have d2 : decide ((M : Int) ≤ 200) = false := decide_eq_false h2
      rw [decide_eq_false (show ¬ (N ≤ 200 ∧ M ≤ 200 ∧ L ≤ 400) by omega)]
      go_enter Try.func67, Try.ntmps67
      go_wp2
      go_ret
      exact ⟨rfl, (Ext.refl _).alloc _⟩
  · have d1 : decide ((N : Int) ≤ 200) = false := decide_eq_false h1
    rw [decide_eq_false (show ¬ (N ≤ 200 ∧ M ≤ 200 ∧ L ≤ 400) by omega)]
    go_enter Try.func67, Try.ntmps67
    go_wp2
    go_ret
    exact ⟨rfl, (Ext.refl _).alloc _⟩
end Go.Proofs.Ytehidhcpdiameaa

/- The walks of layer 9, on: slices, cloned by the library; a disk, cloned. -/
namespace Go.Proofs.Ytehidhcpdiameaa
open Go.RowKit

/-- a slice of n elements of k cells each, that holds these cells. -/
def SlC (k : Nat) (w : World) (v : Value) (n : Nat) (cs : List Value) : Prop :=
  ∃ a c, v = .slice a n c ∧ n ≤ c ∧ c ≤ 9223372036854775807 ∧ cs.length = n * k ∧
    (cs ≠ [] → ∃ b o, a = some ⟨b, o, none⟩ ∧ b < w.heap.size ∧ ∀ i x, cs[i]? = some x → w.cell? ⟨b, o + i, none⟩ = some x)
theorem SlC.ext {k n : Nat} {w w' : World} {v : Value} {cs : List Value} (h : SlC k w v n cs) (x : Ext w w') : SlC k w' v n cs := by
  obtain ⟨a, c, h1, h2, h3, h4, h5⟩ := h
  refine ⟨a, c, h1, h2, h3, h4, fun hne => ?_⟩
  obtain ⟨b, o, h6, h7, h8⟩ := h5 hne
  exact ⟨b, o, h6, Nat.lt_of_lt_of_le h7 x.size, fun i y hy => by rw [x.cell (p := ⟨b, o + i, none⟩) h7]; exact h8 i y hy⟩
theorem Sl.cells {w : World} {v : Value} {vs : List Value} (h : Sl w v vs) : SlC 1 w v vs.length vs := by
  obtain ⟨a, c, h1, h2, h3, h4⟩ := h
  exact ⟨a, c, h1, h2, h3, by omega, h4⟩
theorem SlP.cells {w : World} {v : Value} {ps : List Dev.Put} (h : SlP w v ps) : SlC 2 w v ps.length (putCells ps) := by
  obtain ⟨a, c, h1, h2, h3, h4⟩ := h
  exact ⟨a, c, h1, h2, h3, putCells_length ps, fun hne => h4 (fun e => hne (by rw [e]; rfl))⟩

theorem wpList_append_slc {ops : Array Oper} {rest : List Oper} {o : Oper} {a : Act} {Q : Exit → Act → World → Prop} {w a0 : World} (hgd : o.guard = none) (s x : Operand) (t : TypeId)
    (ho : o.op = .call { callee := .builtin .append, args := #[s, x], argTypes := #[t, t] })
    (base : Nat) (e : TypeId) (i : TypeInfo) (z : Value) (size bytes : Nat) (ht : Try.prog.underlying t = some (.slice e)) (hi : Try.prog.info? e = some i) (hz : i.zero = some z)
    (hsize : i.size = size) (hby : i.bytes = bytes) (hzs : z.cells.size = size) (hpos : 0 < size)
    (v : Value) (n : Nat) (xs : List Value) (hs : a.eval s = v) (hown : w.ownsRow base e size v n xs)
    (ad : Addr) (m c : Nat) (vs : List Value) (hx : a.eval x = .slice (some ad) m c) (hu : SlC size w (.slice (some ad) m c) m vs) (h1 : ∀ y ∈ vs, y.oneCell' = true)
    (h63 : n + m ≤ maxLen) (hbytes : (n + m) * bytes ≤ 140737488355328) (hb : a0.heap.size ≤ base) (hbase : base ≤ w.heap.size) (hx0 : Ext a0 w)
    (h : ∀ v' w', w'.ownsRow base e size v' (n + m) (xs ++ vs) → Ext a0 w' → wpList Try.prog ops Q rest (a.put o.dst v') w') : wpList Try.prog ops Q (o :: rest) a w := by
  obtain ⟨a', c', e1, h2, h3, h4, h5⟩ := id hu
  simp only [Value.slice.injEq] at e1
  obtain ⟨rfl, _, rfl⟩ := e1
  refine wpList_append_own w hgd s x t ho base e i z size bytes ht hi hz hsize hby hzs hpos v n xs hs hown ad m c vs hx h4 (fun j y hj => ?_) h1 h63 hbytes hbase (fun v' w' k1 k2 _ => h v' w' k1 (hx0.grown k2 (fun k hk => Nat.le_trans hb (ownBlock_ge hown k hk))))
  obtain ⟨b, o, h6, h7, h8⟩ := h5 (by intro e; subst e; simp at hj)
  simp only [Option.some.injEq] at h6
  subst h6
  have := h8 j y hj
  unfold Addr.add
  split
  · rename_i hj0; subst hj0; exact this
  · exact this

theorem info4 : (Try.prog.info? 4).map (fun i => (i.zero, i.size, i.bytes)) = some (some (.bool false), 1, 1) := by kernel_rfl
def zero90 : Value := .agg #[.int .i64 0, .string ByteArray.empty]
theorem info90 : (Try.prog.info? 90).map (fun i => (i.zero, i.size, i.bytes)) = some (some zero90, 2, 24) := by kernel_rfl

theorem clone109_any (xs : List ByteArray) (v : Value) (w : World) (h : Sl w v (xs.map strV)) (hn : xs.length ≤ 1000000) :
    Calls Try.prog 109 #[v] w fun e w' => ∃ v', e = .returned v' ∧ w'.ownsRow w.heap.size 9 1 v' xs.length (xs.map strV) ∧ Ext w w' := by
  have hc : SlC 1 w v xs.length (xs.map strV) := (by have := h.cells; rw [List.length_map] at this; exact this)
  have hone : ∀ y ∈ (xs.map strV), y.oneCell' = true := (fun y hy => by obtain ⟨z, _, rfl⟩ := List.mem_map.1 hy; rfl)
  generalize hcs : (xs.map strV) = cs at *
  generalize hL : xs.length = L at *
  clear hcs hL
  obtain ⟨a, c, rfl, hl, hm, hlen, hcell⟩ := id hc
  obtain ⟨i0, hi, hz0, hz1, hz2⟩ := info_parts info9
  cases a with
  | none =>
    have he : cs = [] := by
      cases cs with
      | nil => rfl
      | cons x l => obtain ⟨b, o, e, _⟩ := hcell (by simp); cases e
    subst he
    have hL0 : L = 0 := by simp at hlen; omega
    subst hL0
    have q : ∀ (w : World) (a : Option Addr) (n c n' c' : Nat), (binOp .eql 55 (.slice a n c) (.slice none n' c')).run Try.prog w = .ok (.bool a.isNone) w := fun w a n c n' c' => Lib.run_eql_slice_nil w _ _ a n c n' c' Try.underlying55
    clear hcell hc
    go_enter Try.func109, Try.ntmps109
    go_wp2
    go_ret
    exact ⟨_, rfl, World.ownsRow_nil _ _ _ _, Ext.refl _⟩
  | some ad =>
    have q : ∀ (w : World) (a : Option Addr) (n c n' c' : Nat), (binOp .eql 55 (.slice a n c) (.slice none n' c')).run Try.prog w = .ok (.bool a.isNone) w := fun w a n c n' c' => Lib.run_eql_slice_nil w _ _ a n c n' c' Try.underlying55
    replace hc := Lib.hid (hc.ext ((Ext.refl w).alloc (.cells #[] 9)))
    replace hone := Lib.hid hone
    replace hlen := Lib.hid hlen
    clear hcell
    go_enter Try.func109, Try.ntmps109
    go_wp2_with (at_builtin; refine wpList_append_slc (a0 := w) rfl _ _ 55 rfl w.heap.size 9 i0 (.string ByteArray.empty) 1 16 Try.underlying55 hi hz0 hz1 hz2 rfl (by decide) _ 0 [] rfl (ownsRow_fresh _ _ _) ad L c cs rfl hc.out hone.out ?c1 ?c2 (Nat.le_refl _) ?c3 ((Ext.refl _).alloc _) ?_)
    case c1 => unfold maxLen; omega
    case c2 => omega
    case c3 => simp
    intro v' w1 hown x1
    go_wp2
    go_ret
    exact ⟨_, rfl, by simpa using hown, x1⟩

theorem clone98_any (xs : List Bool) (v : Value) (w : World) (h : Sl w v (xs.map boolV)) (hn : xs.length ≤ 1000000) :
    Calls Try.prog 98 #[v] w fun e w' => ∃ v', e = .returned v' ∧ w'.ownsRow w.heap.size 4 1 v' xs.length (xs.map boolV) ∧ Ext w w' := by
  have hc : SlC 1 w v xs.length (xs.map boolV) := (by have := h.cells; rw [List.length_map] at this; exact this)
  have hone : ∀ y ∈ (xs.map boolV), y.oneCell' = true := (fun y hy => by obtain ⟨z, _, rfl⟩ := List.mem_map.1 hy; rfl)
  generalize hcs : (xs.map boolV) = cs at *
  generalize hL : xs.length = L at *
  clear hcs hL
  obtain ⟨a, c, rfl, hl, hm, hlen, hcell⟩ := id hc
  obtain ⟨i0, hi, hz0, hz1, hz2⟩ := info_parts info4
  cases a with
  | none =>
    have he : cs = [] := by
      cases cs with
      | nil => rfl
      | cons x l => obtain ⟨b, o, e, _⟩ := hcell (by simp); cases e
    subst he
    have hL0 : L = 0 := by simp at hlen; omega
    subst hL0
    have q : ∀ (w : World) (a : Option Addr) (n c n' c' : Nat), (binOp .eql 66 (.slice a n c) (.slice none n' c')).run Try.prog w = .ok (.bool a.isNone) w := fun w a n c n' c' => Lib.run_eql_slice_nil w _ _ a n c n' c' Try.underlying66
    clear hcell hc
    go_enter Try.func98, Try.ntmps98
    go_wp2
    go_ret
    exact ⟨_, rfl, World.ownsRow_nil _ _ _ _, Ext.refl _⟩
  | some ad =>
    have q : ∀ (w : World) (a : Option Addr) (n c n' c' : Nat), (binOp .eql 66 (.slice a n c) (.slice none n' c')).run Try.prog w = .ok (.bool a.isNone) w := fun w a n c n' c' => Lib.run_eql_slice_nil w _ _ a n c n' c' Try.underlying66
    replace hc := Lib.hid (hc.ext ((Ext.refl w).alloc (.cells #[] 4)))
    replace hone := Lib.hid hone
    replace hlen := Lib.hid hlen
    clear hcell
    go_enter Try.func98, Try.ntmps98
    go_wp2_with (at_builtin; refine wpList_append_slc (a0 := w) rfl _ _ 66 rfl w.heap.size 4 i0 (.bool false) 1 1 Try.underlying66 hi hz0 hz1 hz2 rfl (by decide) _ 0 [] rfl (ownsRow_fresh _ _ _) ad L c cs rfl hc.out hone.out ?c1 ?c2 (Nat.le_refl _) ?c3 ((Ext.refl _).alloc _) ?_)
    case c1 => unfold maxLen; omega
    case c2 => omega
    case c3 => simp
    intro v' w1 hown x1
    go_wp2
    go_ret
    exact ⟨_, rfl, by simpa using hown, x1⟩

theorem clone110_any (xs : List Dev.Put) (v : Value) (w : World) (h : SlP w v xs) (hn : xs.length ≤ 1000000) :
    Calls Try.prog 110 #[v] w fun e w' => ∃ v', e = .returned v' ∧ w'.ownsRow w.heap.size 90 2 v' xs.length (putCells xs) ∧ Ext w w' := by
  have hc : SlC 2 w v xs.length (putCells xs) := h.cells
  have hone : ∀ y ∈ (putCells xs), y.oneCell' = true := putCells_one xs
  generalize hcs : (putCells xs) = cs at *
  generalize hL : xs.length = L at *
  clear hcs hL
  obtain ⟨a, c, rfl, hl, hm, hlen, hcell⟩ := id hc
  obtain ⟨i0, hi, hz0, hz1, hz2⟩ := info_parts info90
  cases a with
  | none =>
    have he : cs = [] := by
      cases cs with
      | nil => rfl
      | cons x l => obtain ⟨b, o, e, _⟩ := hcell (by simp); cases e
    subst he
    have hL0 : L = 0 := by simp at hlen; omega
    subst hL0
    have q : ∀ (w : World) (a : Option Addr) (n c n' c' : Nat), (binOp .eql 67 (.slice a n c) (.slice none n' c')).run Try.prog w = .ok (.bool a.isNone) w := fun w a n c n' c' => Lib.run_eql_slice_nil w _ _ a n c n' c' Try.underlying67
    clear hcell hc
    go_enter Try.func110, Try.ntmps110
    go_wp2
    go_ret
    exact ⟨_, rfl, World.ownsRow_nil _ _ _ _, Ext.refl _⟩
  | some ad =>
    have q : ∀ (w : World) (a : Option Addr) (n c n' c' : Nat), (binOp .eql 67 (.slice a n c) (.slice none n' c')).run Try.prog w = .ok (.bool a.isNone) w := fun w a n c n' c' => Lib.run_eql_slice_nil w _ _ a n c n' c' Try.underlying67
    replace hc := Lib.hid (hc.ext ((Ext.refl w).alloc (.cells #[] 90)))
    replace hone := Lib.hid hone
    replace hlen := Lib.hid hlen
    clear hcell
    go_enter Try.func110, Try.ntmps110
    go_wp2_with (at_builtin; refine wpList_append_slc (a0 := w) rfl _ _ 67 rfl w.heap.size 90 i0 zero90 2 24 Try.underlying67 hi hz0 hz1 hz2 rfl (by decide) _ 0 [] rfl (ownsRow_fresh _ _ _) ad L c cs rfl hc.out hone.out ?c1 ?c2 (Nat.le_refl _) ?c3 ((Ext.refl _).alloc _) ?_)
    case c1 => unfold maxLen; omega
    case c2 => omega
    case c3 => simp
    intro v' w1 hown x1
    go_wp2
    go_ret
    exact ⟨_, rfl, by simpa using hown, x1⟩

end Go.Proofs.Ytehidhcpdiameaa

/- The walks of layer 9, on: a disk, cloned. -/
namespace Go.Proofs.Ytehidhcpdiameaa
open Go.RowKit

/-- what is written in another block leaves a row as it is. -/
theorem ownsRow_other {w : World} {base : Nat} {e : TypeId} {size : Nat} {v : Value} {n : Nat} {xs : List Value} (h : w.ownsRow base e size v n xs) (g i : Nat) (u : Value) (hg : v.ownBlock = none ∨ v.ownBlock ≠ some g) : (w.setCell ⟨g, i, none⟩ u).ownsRow base e size v n xs := by
  refine ⟨h.1, ?_⟩
  rcases h.2 with hn | ⟨g', cap, cur, rfl, hb, hgg, rest⟩
  · exact .inl hn
  · refine .inr ⟨g', cap, cur, rfl, hb, ?_, rest⟩
    have hne : g ≠ g' := by
      intro e
      subst e
      simp [Value.ownBlock] at hg
    simp only [World.setCell, Array.getElem?_modify]
    rw [if_neg hne]
    exact hgg
theorem ownsRow_under {w : World} {base : Nat} {e : TypeId} {size : Nat} {v : Value} {n : Nat} {xs : List Value} (h : w.ownsRow base e size v n xs) (g i : Nat) (u : Value) (hg : g < base) : (w.setCell ⟨g, i, none⟩ u).ownsRow base e size v n xs := by
  refine ownsRow_other h g i u ?_
  cases hv : v.ownBlock with
  | none => exact .inl rfl
  | some k =>
    refine .inr fun e => ?_
    simp only [Option.some.injEq] at e
    have := ownBlock_ge h k hv
    omega

theorem owned_slice {w : World} {base : Nat} {e : TypeId} {size : Nat} {v : Value} {n : Nat} {xs : List Value} (h : w.ownsRow base e size v n xs) : ∃ a c, v = .slice a n c := by
  rcases h.2 with ⟨rfl, rfl⟩ | ⟨g, cap, cur, rfl, _⟩
  · exact ⟨_, _, rfl⟩
  · exact ⟨_, _, rfl⟩

/-- a disk of one's own: its sectors in a block between two marks, the rest beyond. -/
structure OwnDisk (B B1 : Nat) (w : World) (k c p : Value) (d : Dev.Disk) : Prop where
  kept : w.ownsRow B 9 1 k d.kept.length (d.kept.map strV)
  keptB : ∀ g, k.ownBlock = some g → g < B1
  le : B ≤ B1
  cache : w.ownsRow B1 90 2 c d.cache.length (putCells d.cache)
  keep : w.ownsRow B1 4 1 p d.keep.length (d.keep.map boolV)
  top : B1 ≤ w.heap.size
theorem OwnDisk.ext {B B1 : Nat} {w w' : World} {k c p : Value} {d : Dev.Disk} (h : OwnDisk B B1 w k c p d) (x : Ext w w') : OwnDisk B B1 w' k c p d :=
  ⟨ownsRow_ext h.kept x, h.keptB, h.le, ownsRow_ext h.cache x, ownsRow_ext h.keep x, Nat.le_trans h.top x.size⟩
theorem OwnDisk.mono {B B' B1 : Nat} {w : World} {k c p : Value} {d : Dev.Disk} (h : OwnDisk B B1 w k c p d) (hB : B' ≤ B) : OwnDisk B' B1 w k c p d :=
  ⟨h.kept.mono hB, h.keptB, Nat.le_trans hB h.le, h.cache, h.keep, h.top⟩
theorem OwnDisk.under {B B1 : Nat} {w : World} {k c p : Value} {d : Dev.Disk} (h : OwnDisk B B1 w k c p d) (g i : Nat) (u : Value) (hg : g < B) : OwnDisk B B1 (w.setCell ⟨g, i, none⟩ u) k c p d :=
  ⟨ownsRow_under h.kept g i u hg, h.keptB, h.le, ownsRow_under h.cache g i u (by have := h.le; omega), ownsRow_under h.keep g i u (by have := h.le; omega), by simpa using h.top⟩
theorem OwnDisk.disk {B B1 : Nat} {w : World} {k c p : Value} {d : Dev.Disk} (h : OwnDisk B B1 w k c p d) : DiskIn w (diskV k c d.fuse p d.dead) d :=
  ⟨k, c, p, rfl, by have := Sl.owned h.kept; exact this, (SlP.owned h.cache).1, Sl.owned h.keep, nilOr_owned h.kept, nilOr_owned h.cache⟩

set_option maxRecDepth 100000 in
set_option maxHeartbeats 4000000 in
theorem copySep_any (d : Dev.Disk) (v : Value) (w : World) (h : DiskIn w v d) (h1 : d.kept.length ≤ 1000000) (h2 : d.cache.length ≤ 1000000) (h3 : d.keep.length ≤ 1000000) :
    Calls Try.prog 97 #[v] w fun e w' => ∃ k c p B1, e = .returned (diskV k c d.fuse p d.dead) ∧ OwnDisk w.heap.size B1 w' k c p d ∧ Ext w w' ∧ ∀ g, c.ownBlock = some g → p.ownBlock ≠ some g := by
  obtain ⟨k, c, p, rfl, hk, hc, hp, _, _⟩ := h
  have c1 := fun w h => clone109_any d.kept k w h h1
  have c2 := fun w h => clone110_any d.cache c w h h2
  have c3 := fun w h => clone98_any d.keep p w h h3
  unfold diskV
  have b0 := (Box.new w (diskL k c d.fuse p d.dead) 69).alloc (.cells #[.slice none 0 0, .slice none 0 0, .int .i64 0, .slice none 0 0, .bool false] 69)
  have r0 := Box.new (w.alloc (.cells #[k, c, .int .i64 d.fuse, p, .bool d.dead] 69)) (diskL (.slice none 0 0) (.slice none 0 0) 0 (.slice none 0 0) false) 69
  rw [show (w.alloc (.cells #[k, c, .int .i64 d.fuse, p, .bool d.dead] 69)).heap.size = w.heap.size + 1 from by simp] at r0
  have y0 : Ext w ((w.alloc (.cells #[k, c, .int .i64 d.fuse, p, .bool d.dead] 69)).alloc (.cells #[.slice none 0 0, .slice none 0 0, .int .i64 0, .slice none 0 0, .bool false] 69)) := ((Ext.refl w).alloc _).alloc _
  have hz0 : ((w.alloc (.cells #[k, c, .int .i64 d.fuse, p, .bool d.dead] 69)).alloc (.cells #[.slice none 0 0, .slice none 0 0, .int .i64 0, .slice none 0 0, .bool false] 69)).heap.size = w.heap.size + 2 := by simp
  generalize hw0 : (w.alloc (.cells #[k, c, .int .i64 d.fuse, p, .bool d.dead] 69)).alloc (.cells #[.slice none 0 0, .slice none 0 0, .int .i64 0, .slice none 0 0, .bool false] 69) = w0 at *
  replace c1 := Lib.hid c1; replace c2 := Lib.hid c2; replace c3 := Lib.hid c3; replace hk := Lib.hid hk; replace hc := Lib.hid hc; replace hp := Lib.hid hp; replace b0 := Lib.hid b0; replace r0 := Lib.hid r0
  obtain ⟨⟨i0, i1, i2, i3, i4⟩, f0, f1, f2, f3, f4⟩ := b0.out.at5
  go_enter Try.func97, Try.ntmps97
  go_wp2_with fail
  refine (c1.out _ (hk.out.ext y0)).mono ?_; rintro e w1 ⟨kv, rfl, o1, x1⟩
  obtain ⟨ka, kb, e1⟩ := owned_slice o1
  subst e1
  clear i0 i1 i2 i3 i4 f0 f1 f2 f3 f4
  have b1 := b0.out.ext x1
  obtain ⟨⟨i0, i1, i2, i3, i4⟩, f0, f1, f2, f3, f4⟩ := b1.at5
  replace b1 := b1.set 0 (.slice ka d.kept.length kb) (by simp)
  obtain ⟨⟨j0, j1, j2, j3, j4⟩, g0, g1, g2, g3, g4⟩ := b1.at5
  have hs1 : (w1.setCell ⟨w.heap.size, 0, none⟩ (.slice ka d.kept.length kb)).heap.size = w1.heap.size := World.size_setCell w1 _ _
  replace o1 := ownsRow_under o1 w.heap.size 0 (.slice ka d.kept.length kb) (by rw [hz0]; omega)
  have r1 := (r0.out.ext x1).other (m := w.heap.size) (by omega) 0 (.slice ka d.kept.length kb)
  have y1 : Ext w (w1.setCell ⟨w.heap.size, 0, none⟩ (.slice ka d.kept.length kb)) := (y0.trans x1).below.setCell (Nat.le_refl _) _
  have hl1 := x1.size
  have lt1 := fun g hg => (World.ownsRow.lt o1 g hg).2
  generalize hW1 : w1.setCell ⟨w.heap.size, 0, none⟩ (.slice ka d.kept.length kb) = W1 at *
  rw [hs1] at lt1
  replace b1 := Lib.hid b1; replace r1 := Lib.hid r1; replace o1 := Lib.hid o1; replace lt1 := Lib.hid lt1; replace hs1 := Lib.hid hs1; replace hz0 := Lib.hid hz0
  clear b0 r0 y0 x1
  go_wp2_with fail
  refine (c2.out _ (hc.out.ext y1)).mono ?_; rintro e w2 ⟨cv, rfl, o2, x2⟩
  obtain ⟨ca, cb, e2⟩ := owned_slice o2
  subst e2
  clear i0 i1 i2 i3 i4 f0 f1 f2 f3 f4 j0 j1 j2 j3 j4 g0 g1 g2 g3 g4 hW1
  have hl2 : w.heap.size + 2 ≤ W1.heap.size := by have := hs1.out; have := hz0.out; omega
  have b2 := b1.out.ext x2
  obtain ⟨⟨i0, i1, i2, i3, i4⟩, f0, f1, f2, f3, f4⟩ := b2.at5
  replace b2 := b2.set 1 (.slice ca d.cache.length cb) (by simp)
  obtain ⟨⟨j0, j1, j2, j3, j4⟩, g0, g1, g2, g3, g4⟩ := b2.at5
  have hs2 : (w2.setCell ⟨w.heap.size, 1, none⟩ (.slice ca d.cache.length cb)).heap.size = w2.heap.size := World.size_setCell w2 _ _
  have p1 := ownsRow_under (ownsRow_ext o1.out x2) w.heap.size 1 (.slice ca d.cache.length cb) (by rw [hz0.out]; omega)
  have lt2 := fun g hg => (World.ownsRow.lt o2 g hg).2
  replace lt2 := Lib.hid lt2
  replace o2 := ownsRow_under o2 w.heap.size 1 (.slice ca d.cache.length cb) (by omega)
  have r2 := (r1.out.ext x2).other (m := w.heap.size) (by omega) 1 (.slice ca d.cache.length cb)
  have y2 : Ext w (w2.setCell ⟨w.heap.size, 1, none⟩ (.slice ca d.cache.length cb)) := (y1.trans x2).below.setCell (Nat.le_refl _) _
  have hl3 := x2.size
  generalize hW2 : w2.setCell ⟨w.heap.size, 1, none⟩ (.slice ca d.cache.length cb) = W2 at *
  replace b2 := Lib.hid b2; replace r2 := Lib.hid r2; replace o2 := Lib.hid o2; replace p1 := Lib.hid p1; replace hs2 := Lib.hid hs2
  clear b1 r1 y1 x2 o1
  go_wp2_with fail
  refine (c3.out _ (hp.out.ext y2)).mono ?_; rintro e w3 ⟨pv, rfl, o3, x3⟩
  obtain ⟨pa, pb, e3⟩ := owned_slice o3
  subst e3
  clear i0 i1 i2 i3 i4 f0 f1 f2 f3 f4 j0 j1 j2 j3 j4 g0 g1 g2 g3 g4 hW2
  have b3 := b2.out.ext x3
  obtain ⟨⟨i0, i1, i2, i3, i4⟩, f0, f1, f2, f3, f4⟩ := b3.at5
  replace b3 := b3.set 3 (.slice pa d.keep.length pb) (by simp)
  obtain ⟨⟨j0, j1, j2, j3, j4⟩, g0, g1, g2, g3, g4⟩ := b3.at5
  have hl4 := Lib.hid x3.size
  have hs3 : (w3.setCell ⟨w.heap.size, 3, none⟩ (.slice pa d.keep.length pb)).heap.size = w3.heap.size := World.size_setCell w3 _ _
  have q1 := ownsRow_under (ownsRow_ext p1.out x3) w.heap.size 3 (.slice pa d.keep.length pb) (by rw [hz0.out]; omega)
  have q2 := ownsRow_under (ownsRow_ext o2.out x3) w.heap.size 3 (.slice pa d.keep.length pb) (by omega)
  replace o3 := ownsRow_under o3 w.heap.size 3 (.slice pa d.keep.length pb) (by have := hs2.out; omega)
  have r3 := (r2.out.ext x3).other (m := w.heap.size) (by omega) 3 (.slice pa d.keep.length pb)
  have y3 : Ext w (w3.setCell ⟨w.heap.size, 3, none⟩ (.slice pa d.keep.length pb)) := (y2.trans x3).below.setCell (Nat.le_refl _) _
  generalize hW3 : w3.setCell ⟨w.heap.size, 3, none⟩ (.slice pa d.keep.length pb) = W3 at *
  obtain ⟨_, m0, m1, m2, m3, m4⟩ := r3.at5
  have r4 := ((((r3.set 0 (.slice ka d.kept.length kb) (by simp)).set 1 (.slice ca d.cache.length cb) (by simp)).set 2 (.int .i64 d.fuse) (by simp)).set 3 (.slice pa d.keep.length pb) (by simp)).set 4 (.bool d.dead) (by simp)
  obtain ⟨⟨n0, n1, n2, n3, n4⟩, _⟩ := r4.at5
  replace n0 := Lib.hid n0; replace n1 := Lib.hid n1; replace n2 := Lib.hid n2; replace n3 := Lib.hid n3; replace n4 := Lib.hid n4
  replace b3 := Lib.hid b3; replace r3 := Lib.hid r3; replace o3 := Lib.hid o3; replace q1 := Lib.hid q1; replace q2 := Lib.hid q2; replace r4 := Lib.hid r4; replace hs3 := Lib.hid hs3
  go_wp2_with fail
  have D : OwnDisk w0.heap.size W1.heap.size W3 (.slice ka d.kept.length kb) (.slice ca d.cache.length cb) (.slice pa d.keep.length pb) d :=
    ⟨q1.out, fun g hg => by have := lt1.out g hg; rw [hs1.out]; exact this, by rw [hs1.out]; exact hl1, q2.out, o3.out.mono (by rw [← hs2.out] at hl3; exact hl3), by rw [← hs2.out] at hl3; have := hs3.out; have := hl4.out; omega⟩
  have hlt : w.heap.size + 1 < w0.heap.size := by rw [hz0.out]; omega
  refine bodyPost_ret (v := diskV (.slice ka d.kept.length kb) (.slice ca d.cache.length cb) d.fuse (.slice pa d.keep.length pb) d.dead) ?_ rfl ⟨(.slice ka d.kept.length kb), (.slice ca d.cache.length cb), (.slice pa d.keep.length pb), W1.heap.size, rfl, ?_, ?_, ?_⟩
  · simp [results, Try.results97, go_sem, n0.out, n1.out, n2.out, n3.out, n4.out, diskV]
  · exact (((((D.under _ 0 _ hlt).under _ 1 _ hlt).under _ 2 _ hlt).under _ 3 _ hlt).under _ 4 _ hlt).mono (by omega)
  · exact ((((y3.below.setCell (by simp) _).setCell (by simp) _).setCell (by simp) _).setCell (by simp) _).setCell (by simp) _
  · intro g hg hp
    have h5 := ownBlock_ge o3.out g hp
    have h6 := lt2.out g hg
    have h7 := hs2.out
    omega

theorem copy_any (d : Dev.Disk) (v : Value) (w : World) (h : DiskIn w v d) (h1 : d.kept.length ≤ 1000000) (h2 : d.cache.length ≤ 1000000) (h3 : d.keep.length ≤ 1000000) :
    Calls Try.prog 97 #[v] w fun e w' => ∃ k c p B1, e = .returned (diskV k c d.fuse p d.dead) ∧ OwnDisk w.heap.size B1 w' k c p d ∧ Ext w w' :=
  (copySep_any d v w h h1 h2 h3).mono fun _ _ ⟨k, c, p, B1, e, D, x, _⟩ => ⟨k, c, p, B1, e, D, x⟩
end Go.Proofs.Ytehidhcpdiameaa

/- The walks of layer 9, on: a disk that dies. -/
namespace Go.Proofs.Ytehidhcpdiameaa
open Go.RowKit

/-- a slice that no write between two marks turns. -/
def FarSl (B B1 : Nat) (w : World) (v : Value) (vs : List Value) : Prop := Sl w v vs ∧ (vs ≠ [] → ∀ b o n c, v = .slice (some ⟨b, o, none⟩) n c → b < B ∨ B1 ≤ b)
theorem FarSl.ext {B B1 : Nat} {w w' : World} {v : Value} {vs : List Value} (h : FarSl B B1 w v vs) (x : Ext w w') : FarSl B B1 w' v vs := ⟨h.1.ext x, h.2⟩
theorem FarSl.set {B B1 : Nat} {w : World} {v : Value} {vs : List Value} (h : FarSl B B1 w v vs) {g : Nat} (h1 : B ≤ g) (h2 : g < B1) (i : Nat) (u : Value) : FarSl B B1 (w.setCell ⟨g, i, none⟩ u) v vs := by
  refine ⟨?_, h.2⟩
  obtain ⟨⟨a, c, e, hl, hc, hcell⟩, hfar⟩ := h
  refine ⟨a, c, e, hl, hc, fun hne => ?_⟩
  obtain ⟨b, o, rfl, hb, hx⟩ := hcell hne
  have hbb := hfar hne b o _ _ e
  refine ⟨b, o, rfl, by simpa using hb, fun j y hj => ?_⟩
  rw [World.cell?_setCell_other w _ _ _ (fun e2 => by have := congrArg Addr.block e2; simp only at this; omega)]
  exact hx j y hj
theorem farSl_below {B B1 : Nat} {w0 w : World} {v : Value} {vs : List Value} (h : Sl w0 v vs) (hB : w0.heap.size ≤ B) (x : Ext w0 w) : FarSl B B1 w v vs := by
  refine ⟨h.ext x, fun hne b o n c e => .inl ?_⟩
  obtain ⟨a, c', e', _, _, hcell⟩ := h
  obtain ⟨b', o', ha, hb, _⟩ := hcell hne
  rw [e'] at e
  simp only [Value.slice.injEq] at e
  obtain ⟨rfl, _, _⟩ := e
  simp only [Option.some.injEq, Addr.mk.injEq, and_true] at ha
  omega
theorem farSl_owned {B B1 : Nat} {w : World} {v : Value} {vs : List Value} {e : TypeId} {n : Nat} (h : w.ownsRow B1 e 1 v n vs) : FarSl B B1 w v vs :=
  ⟨Sl.owned h, fun _ b o n' c e' => .inr (ownBlock_ge h b (by rw [e']; rfl))⟩

theorem strV_set (l : List ByteArray) (i : Nat) (s : ByteArray) : (l.map strV).set i (.string s) = (l.set i s).map strV := by rw [List.map_set]; rfl

theorem owned_form {w : World} {base : Nat} {e : TypeId} {size : Nat} {v : Value} {n : Nat} {xs : List Value} (h : w.ownsRow base e size v n xs) (hn : 0 < n) : ∃ g cap, v = .slice (some ⟨g, 0, none⟩) n cap ∧ base ≤ g ∧ g < w.heap.size := by
  rcases h.2 with ⟨_, h0⟩ | ⟨g, cap, cur, hv, hb, hg, _⟩
  · omega
  · exact ⟨g, cap, hv, hb, (Array.getElem?_eq_some_iff.1 hg).1⟩
/-- what stands at the head of a round of a death. -/
structure DieRel (B B1 n0 : Nat) (d : Dev.Disk) (keep : List Bool) (k c kp : Value) (bl : List Value) (i : Nat) (a0 wr : World) : Prop where
  kept : wr.ownsRow B 9 1 k d.kept.length ((Dev.putSome d.kept (d.cache.take i) keep).map strV)
  cache : wr.ownsRow B1 90 2 c d.cache.length (putCells d.cache)
  box : Box n0 bl wr
  res : Box (n0 + 1) (diskL (.slice none 0 0) (.slice none 0 0) 0 (.slice none 0 0) false) wr
  far : FarSl B B1 wr kp (keep.map boolV)
  ext : Ext a0 wr
  size : n0 + 2 ≤ wr.heap.size

theorem DieRel.later {B B1 n0 : Nat} {d : Dev.Disk} {keep : List Bool} {k c kp : Value} {bl : List Value} {i : Nat} {a0 wr w' : World} (h : DieRel B B1 n0 d keep k c kp bl i a0 wr) (x : Ext wr w') : DieRel B B1 n0 d keep k c kp bl i a0 w' :=
  ⟨ownsRow_ext h.kept x, ownsRow_ext h.cache x, h.box.ext x, h.res.ext x, h.far.ext x, h.ext.trans x, Nat.le_trans h.size x.size⟩
theorem DieRel.same {B B1 n0 : Nat} {d : Dev.Disk} {keep : List Bool} {k c kp : Value} {bl : List Value} {i : Nat} {a0 wr : World} (h : DieRel B B1 n0 d keep k c kp bl i a0 wr)
    (e : Dev.putSome d.kept (d.cache.take (i + 1)) keep = Dev.putSome d.kept (d.cache.take i) keep) : DieRel B B1 n0 d keep k c kp bl (i + 1) a0 wr :=
  ⟨by rw [e]; exact h.kept, h.cache, h.box, h.res, h.far, h.ext, h.size⟩
theorem DieRel.put {B B1 n0 : Nat} {d : Dev.Disk} {keep : List Bool} {g cap : Nat} {c kp : Value} {bl : List Value} {i : Nat} {a0 wr : World} {x : Nat} {t : ByteArray} (h : DieRel B B1 n0 d keep (.slice (some ⟨g, 0, none⟩) d.kept.length cap) c kp bl i a0 wr)
    (e : Dev.putSome d.kept (d.cache.take (i + 1)) keep = Dev.put1 (Dev.putSome d.kept (d.cache.take i) keep) ((x : Int), t)) (hBg : B ≤ g) (hgB : g < B1) (hB : a0.heap.size ≤ B) (hB1 : B1 ≤ n0) :
    DieRel B B1 n0 d keep (.slice (some ⟨g, 0, none⟩) d.kept.length cap) c kp bl (i + 1) a0 (wr.setCell ⟨g, x, none⟩ (.string t)) :=
  ⟨by rw [e]; have := (h.kept.stored x (.string t)).1; rw [strV_set] at this; exact this, ownsRow_under h.cache g x _ hgB, h.box.other (by omega) x _, h.res.other (by omega) x _, h.far.set hBg hgB x _,
   h.ext.below.setCell (by show a0.heap.size ≤ g; omega) _, by simpa using h.size⟩

set_option maxRecDepth 100000 in
set_option maxHeartbeats 16000000 in
theorem die_any (d : Dev.Disk) (k c p kp : Value) (keep : List Bool) (B B1 : Nat) (w a0 : World) (D : OwnDisk B B1 w k c p d) (hB : a0.heap.size ≤ B) (hB1 : B1 ≤ w.heap.size) (x0 : Ext a0 w) (hkp : FarSl B B1 w kp (keep.map boolV))
    (hin : ∀ q ∈ d.cache, 0 ≤ q.1 ∧ q.1 < d.kept.length) (h1 : d.kept.length ≤ 1000000) (h2 : d.cache.length ≤ 1000000) :
    Calls Try.prog 100 #[diskV k c d.fuse p d.dead, kp] w fun e w' => e = .returned (diskV k (.slice none 0 0) (-1) (.slice none 0 0) true) ∧
      w'.ownsRow B 9 1 k d.kept.length ((Dev.putSome d.kept d.cache keep).map strV) ∧ Ext a0 w' := by
  obtain ⟨ka, kb, rfl⟩ := owned_slice D.kept
  obtain ⟨ca, cb, rfl⟩ := owned_slice D.cache
  obtain ⟨pa, pb, rfl⟩ := owned_slice D.keep
  have hcs := (SlP.owned D.cache).1
  obtain ⟨ca', cb', e1, hlc, hcb, _⟩ := slp_at hcs
  simp only [Value.slice.injEq, true_and] at e1
  obtain ⟨rfl, rfl⟩ := e1
  obtain ⟨la, lb, rfl, hlk, hlb, _⟩ := sl_bool_at hkp.1
  have hkO := D.keptB
  have hle := D.le
  unfold diskV
  have b0 := (Box.new w (diskL (.slice ka d.kept.length kb) (.slice ca d.cache.length cb) d.fuse (.slice pa d.keep.length pb) d.dead) 69).alloc (.cells #[.slice none 0 0, .slice none 0 0, .int .i64 0, .slice none 0 0, .bool false] 69)
  have r0 := Box.new (w.alloc (.cells #[.slice ka d.kept.length kb, .slice ca d.cache.length cb, .int .i64 d.fuse, .slice pa d.keep.length pb, .bool d.dead] 69)) (diskL (.slice none 0 0) (.slice none 0 0) 0 (.slice none 0 0) false) 69
  rw [show (w.alloc (.cells #[.slice ka d.kept.length kb, .slice ca d.cache.length cb, .int .i64 d.fuse, .slice pa d.keep.length pb, .bool d.dead] 69)).heap.size = w.heap.size + 1 from by simp] at r0
  have y0 : Ext w ((w.alloc (.cells #[.slice ka d.kept.length kb, .slice ca d.cache.length cb, .int .i64 d.fuse, .slice pa d.keep.length pb, .bool d.dead] 69)).alloc (.cells #[.slice none 0 0, .slice none 0 0, .int .i64 0, .slice none 0 0, .bool false] 69)) := ((Ext.refl w).alloc _).alloc _
  replace D := D.ext y0
  replace hkp := hkp.ext y0
  replace x0 := x0.trans y0
  have hsz : ((w.alloc (.cells #[.slice ka d.kept.length kb, .slice ca d.cache.length cb, .int .i64 d.fuse, .slice pa d.keep.length pb, .bool d.dead] 69)).alloc (.cells #[.slice none 0 0, .slice none 0 0, .int .i64 0, .slice none 0 0, .bool false] 69)).heap.size = w.heap.size + 2 := by simp
  generalize hw0 : (w.alloc (.cells #[.slice ka d.kept.length kb, .slice ca d.cache.length cb, .int .i64 d.fuse, .slice pa d.keep.length pb, .bool d.dead] 69)).alloc (.cells #[.slice none 0 0, .slice none 0 0, .int .i64 0, .slice none 0 0, .bool false] 69) = w0 at *
  have k0 : w0.ownsRow B 9 1 (.slice ka d.kept.length kb) d.kept.length ((Dev.putSome d.kept (d.cache.take 0) keep).map strV) := D.kept
  have R0 : DieRel B B1 w.heap.size d keep (.slice ka d.kept.length kb) (.slice ca d.cache.length cb) (.slice la keep.length lb) (diskL (.slice ka d.kept.length kb) (.slice ca d.cache.length cb) d.fuse (.slice pa d.keep.length pb) d.dead) 0 a0 w0 :=
    ⟨k0, D.cache, b0, r0, hkp, x0, by omega⟩
  obtain ⟨⟨i0, i1, i2, i3, i4⟩, _⟩ := b0.at5
  replace R0 := Lib.hid R0; replace hsz := Lib.hid hsz; replace hin := Lib.hid hin; replace hcs := Lib.hid hcs
  have hM : (d.cache.length : Int) ≤ 1000000 := by omega
  have hN : (d.kept.length : Int) ≤ 1000000 := by omega
  have hL : (keep.length : Int) ≤ 9223372036854775807 := by omega
  clear k0 D b0 r0 hkp x0 y0
  replace hkO := Lib.hid hkO
  go_enter Try.func100, Try.ntmps100
  go_wp2_with fail
  clear i0 i1 i2 i3 i4 hw0
  go_loopw [10] (fun i wr => ∃ n : Nat, n ≤ d.cache.length ∧ i = .int .i64 n ∧ DieRel B B1 w.heap.size d keep (.slice ka d.kept.length kb) (.slice ca d.cache.length cb) (.slice la keep.length lb) (diskL (.slice ka d.kept.length kb) (.slice ca d.cache.length cb) d.fuse (.slice pa d.keep.length pb) d.dead) n a0 wr) (fun i _ => d.cache.length - (intOf i).toNat)
  case atStart => exact ⟨0, by omega, rfl, R0.out⟩
  case round =>
    obtain ⟨n, hn, rfl, hR⟩ := hrel
    clear R0
    by_cases hlt : n < d.cache.length
    · obtain ⟨ca2, cb2, e2, _, _, hpc⟩ := slp_at (SlP.owned hR.cache).1
      simp only [Value.slice.injEq, true_and] at e2
      obtain ⟨rfl, rfl⟩ := e2
      obtain ⟨b, o, rfl, hb, hc1, hc2⟩ := hpc n hlt
      clear hpc
      have hnx := Dev.putSome_take d.kept d.cache keep n hlt
      obtain ⟨hx0, hx1⟩ := hin.out _ (List.getElem_mem hlt)
      generalize d.cache[n] = q at *
      obtain ⟨x, t⟩ := q
      dsimp only at hc1 hc2 hx0 hx1 hnx
      obtain ⟨x, rfl⟩ := Int.eq_ofNat_of_zero_le hx0
      have hV : Ext wr (wr.alloc (.cells #[.int .i64 x, .string t] 90)) := (Ext.refl _).alloc _
      have hR2 := hR.later hV
      have hcx := (hV.cell (p := ⟨b, o + n * 2, none⟩) hb)
      obtain ⟨⟨i0, i1, i2, i3, i4⟩, _⟩ := hR2.box.at5
      by_cases hnL : n < keep.length
      · obtain ⟨la2, lb2, e3, _, _, hkc⟩ := sl_bool_at hR2.far.1
        simp only [Value.slice.injEq, true_and] at e3
        obtain ⟨rfl, rfl⟩ := e3
        obtain ⟨bk, ok, rfl, hbk, hck⟩ := hkc n hnL
        clear hkc
        have hg : keep.getD n false = keep[n] := by rw [List.getD_eq_getElem?_getD, List.getElem?_eq_getElem hnL]; rfl
        rw [hg] at hnx
        generalize keep[n] = kb' at *
        have q1 : decide ((n : Int) < keep.length) = true := decide_eq_true (by omega)
        have q2 : decide (n < keep.length) = true := decide_eq_true hnL
        have q3 : (n : Int) < keep.length := by omega
        cases kb'
        · rw [if_neg (by decide)] at hnx
          have hR3 : DieRel B B1 w.heap.size d keep _ _ _ _ (n + 1) a0 _ := hR2.same hnx
          replace hR := Lib.hid hR; replace hR2 := Lib.hid hR2; replace hR3 := Lib.hid hR3; replace hnx := Lib.hid hnx; replace hg := Lib.hid hg; replace hcx := Lib.hid hcx
          go_wp2_with fail
          go_roundw
          case rel => exact ⟨n + 1, by omega, by go_num, hR3.out⟩
          case measure => simp [intOf]; omega
        · rw [if_pos rfl] at hnx
          obtain ⟨g, cap, e4, hBg, hgw⟩ := owned_form hR2.kept (by omega)
          simp only [Value.slice.injEq, true_and] at e4
          obtain ⟨rfl, rfl⟩ := e4
          have hgB := hkO.out g rfl
          have hxN : x < d.kept.length := by omega
          have hcell := hR2.kept.cellAt x (by omega)
          have hfr := hR2.kept.frozenAt x
          have hll : (Dev.putSome d.kept (d.cache.take n) keep).length = d.kept.length := Dev.putSome_length _ _ _
          rw [List.getElem?_map, List.getElem?_eq_getElem (by rw [hll]; exact hxN)] at hcell
          have hR3 : DieRel B B1 w.heap.size d keep _ _ _ _ (n + 1) a0 _ := hR2.put hnx hBg hgB hB hB1
          generalize (Dev.putSome d.kept (d.cache.take n) keep)[x] = old at *
          simp only [Option.map_some, strV] at hcell
          have hxi : ((x : Nat) : Int) < d.kept.length := by omega
          replace hR := Lib.hid hR; replace hR2 := Lib.hid hR2; replace hR3 := Lib.hid hR3; replace hnx := Lib.hid hnx; replace hg := Lib.hid hg; replace hcx := Lib.hid hcx; replace hll := Lib.hid hll
          go_wp2_with fail
          go_roundw
          case rel => exact ⟨n + 1, by omega, by go_num, hR3.out⟩
          case measure => simp [intOf]; omega
      · have hg : keep.getD n false = false := by rw [List.getD_eq_getElem?_getD, List.getElem?_eq_none (by omega)]; rfl
        rw [hg, if_neg (by decide)] at hnx
        have hR3 : DieRel B B1 w.heap.size d keep _ _ _ _ (n + 1) a0 _ := hR2.same hnx
        have q1 : decide ((n : Int) < keep.length) = false := decide_eq_false (by omega)
        have q2 : decide (n < keep.length) = false := decide_eq_false hnL
        have q3 : ¬ (n : Int) < keep.length := by omega
        replace hR := Lib.hid hR; replace hR2 := Lib.hid hR2; replace hR3 := Lib.hid hR3; replace hnx := Lib.hid hnx; replace hg := Lib.hid hg; replace hcx := Lib.hid hcx
        go_wp2_with fail
        go_roundw
        case rel => exact ⟨n + 1, by omega, by go_num, hR3.out⟩
        case measure => simp [intOf]; omega
    · obtain rfl : n = d.cache.length := by omega
      obtain ⟨hkr, hcr, hbr, hrr, hfr, hxr, hsr⟩ := hR
      rw [List.take_length] at hkr
      obtain ⟨⟨i0, i1, i2, i3, i4⟩, f0, f1, f2, f3, f4⟩ := hbr.at5
      obtain ⟨_, g0, g1, g2, g3, g4⟩ := hrr.at5
      have b5 := (((hbr.set 1 (.slice none 0 0) (by simp)).set 3 (.slice none 0 0) (by simp)).set 2 (.int .i64 (-1)) (by simp)).set 4 (.bool true) (by simp)
      obtain ⟨⟨j0, j1, j2, j3, j4⟩, _⟩ := b5.at5
      have hne : w.heap.size ≠ w.heap.size + 1 := by omega
      have r5 := (((((((((hrr.other hne 1 (.slice none 0 0)).other hne 3 (.slice none 0 0)).other hne 2 (.int .i64 (-1))).other hne 4 (.bool true)).set 0 (.slice ka d.kept.length kb) (by simp)).set 1 (.slice none 0 0) (by simp)).set 2 (.int .i64 (-1)) (by simp)).set 3 (.slice none 0 0) (by simp)).set 4 (.bool true) (by simp))
      obtain ⟨⟨m0, m1, m2, m3, m4⟩, _⟩ := r5.at5
      replace m0 := Lib.hid m0; replace m1 := Lib.hid m1; replace m2 := Lib.hid m2; replace m3 := Lib.hid m3; replace m4 := Lib.hid m4
      have ho : ∀ (W : World) (g i : Nat) (u : Value), B1 ≤ g → (W.ownsRow B 9 1 (.slice ka d.kept.length kb) d.kept.length ((Dev.putSome d.kept d.cache keep).map strV) ∧ Ext a0 W) →
          ((W.setCell ⟨g, i, none⟩ u).ownsRow B 9 1 (.slice ka d.kept.length kb) d.kept.length ((Dev.putSome d.kept d.cache keep).map strV) ∧ Ext a0 (W.setCell ⟨g, i, none⟩ u)) := fun W g i u hg ⟨p1, p2⟩ => by
        refine ⟨ownsRow_other p1 g i u ?_, p2.below.setCell (by show a0.heap.size ≤ g; omega) _⟩
        cases hv : (Value.slice ka d.kept.length kb).ownBlock with
        | none => exact .inl rfl
        | some g' =>
          refine .inr fun e => ?_
          simp only [Option.some.injEq] at e
          have := hkO.out g' hv
          omega
      replace ho := Lib.hid ho
      clear b5 r5
      go_wp2_with fail
      refine bodyPost_ret (v := .agg #[.slice ka d.kept.length kb, .slice none 0 0, .int .i64 (-1), .slice none 0 0, .bool true]) ?_ rfl ⟨rfl, ?_⟩
      · simp [results, Try.results100, go_sem, m0.out, m1.out, m2.out, m3.out, m4.out]
      · exact ho.out _ _ _ _ (by omega) (ho.out _ _ _ _ (by omega) (ho.out _ _ _ _ (by omega) (ho.out _ _ _ _ (by omega) (ho.out _ _ _ _ (by omega) (ho.out _ _ _ _ (by omega) (ho.out _ _ _ _ (by omega) (ho.out _ _ _ _ (by omega) (ho.out _ _ _ _ (by omega) ⟨hkr, hxr⟩))))))))
end Go.Proofs.Ytehidhcpdiameaa
