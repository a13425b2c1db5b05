/- What grammar's brackets hold, as plain functions: keys, values, names. -/
import Derived.Test.YtkhpdiilghncgaaGreatDoorGp
import Derived.Lib.Bytealg
import Derived.Lib.SplitLaws
import Derived.Lib.IndexBytes
import Derived.Lib.IndexLaws
namespace Go.Proofs.YtkhpdiilghncgaaGreatDoor

def smallF (c : Nat) : Bool := decide (97 ≤ c ∧ c ≤ 122)
def numberF (c : Nat) : Bool := decide (48 ≤ c ∧ c ≤ 57)
def letterF (c : Nat) : Bool := decide (97 ≤ c ∧ c ≤ 122 ∨ 65 ≤ c ∧ c ≤ 90)
/-- May a byte stand in a key, as its first one or behind? -/
def keyAt (first : Bool) (c : Nat) : Bool := smallF c || c == 95 || (!first && (c == 45 || numberF c))
/-- All places from one on. -/
def allFrom (s : ByteArray) (p : Nat → Nat → Bool) : Nat → Nat → Bool
  | 0, _ => true
  | n + 1, k => p k (nx s k) && allFrom s p n (k + 1)
theorem allFrom_iff {s : ByteArray} {p : Nat → Nat → Bool} : ∀ {n k : Nat}, allFrom s p n k = true ↔ ∀ j, k ≤ j → j < k + n → p j (nx s j) = true
  | 0, k => by simp [allFrom]; omega
  | n + 1, k => by
    simp only [allFrom, Bool.and_eq_true, allFrom_iff]
    constructor
    · intro ⟨h1, h2⟩ j h3 h4
      by_cases e : j = k
      · rw [e]; exact h1
      · exact h2 j (by omega) (by omega)
    · intro h
      exact ⟨h k (by omega) (by omega), fun j h3 h4 => h j (by omega) (by omega)⟩
def isKeyF (s : ByteArray) : Bool := allFrom s (fun j c => keyAt (j == 0) c) s.size 0 && decide (s.size ≠ 0)
/-- A word of a value: letters and digits, one at least. -/
def or32 (c : Nat) : Nat := c ||| 32
def wordAt (c : Nat) : Bool := smallF (or32 c) || numberF c
def isWordF (s : ByteArray) : Bool := allFrom s (fun _ c => wordAt c) s.size 0 && decide (s.size ≠ 0)

/-- Two digits, below some number: the number, and whether it is so. -/
def atwo (s : ByteArray) (below : Nat) : Nat × Bool :=
  if s.size = 2 ∧ numberF (nx s 0) = true ∧ numberF (nx s 1) = true then ((nx s 0 - 48) * 10 + (nx s 1 - 48), decide ((nx s 0 - 48) * 10 + (nx s 1 - 48) < below)) else (0, false)

theorem atwo_le (s : ByteArray) (below : Nat) : (atwo s below).1 ≤ 99 ∧ ((atwo s below).2 = true → (atwo s below).1 < below) := by
  unfold atwo
  split
  · rename_i h
    simp [numberF] at h
    simp
    omega
  · simp

/-- A made name's byte: a letter, a digit, or one of some. -/
def madeAt (more : ByteArray) (c : Nat) : Bool := letterF c || numberF c || decide (0 ≤ ixb more c)
def madeF (s : ByteArray) (most : Nat) (more : ByteArray) : Bool := allFrom s (fun _ c => madeAt more c) s.size 0 && decide (s.size ≠ 0) && decide (s.size ≤ most)

/-- The pieces of a text between separators. -/
def pieces (s : ByteArray) (sep : ByteArray) : List ByteArray := Lib.splitB sep 0 (Lib.countB s sep) s
def isValueF (s : ByteArray) : Bool := (pieces s ⟨#[45]⟩).all isWordF

theorem splitB_size (sep : ByteArray) : ∀ (k : Nat) (s x : ByteArray), x ∈ Lib.splitB sep 0 k s → x.size ≤ s.size
  | 0, s, x, h => by simp [Lib.splitB_zero] at h; rw [h]; exact Nat.le_refl _
  | k + 1, s, x, h => by
    rcases Lib.indexB_cases s sep with hm | ⟨i, hi, hl⟩
    · rw [Lib.splitB_miss sep 0 (k + 1) s hm] at h
      simp at h; rw [h]; exact Nat.le_refl _
    · rw [Lib.splitB_hit sep 0 k s i hi] at h
      rcases List.mem_cons.1 h with rfl | h
      · simp [ByteArray.size_extract]; omega
      · have := splitB_size sep k _ x h
        simp [ByteArray.size_extract] at this; omega
theorem pieces_size {s x sep : ByteArray} (h : x ∈ pieces s sep) : x.size ≤ s.size := splitB_size _ _ _ _ h
theorem pieces_length (s sep : ByteArray) (h1 : 1 ≤ sep.size) : (pieces s sep).length = Lib.countB s sep + 1 := Lib.splitB_all sep h1 0 _ s rfl
theorem pieces_len (s sep : ByteArray) (h1 : 1 ≤ sep.size) : (pieces s sep).length ≤ s.size + 1 := by
  have := Lib.countB_le sep h1 s.size s (Nat.le_refl _)
  rw [pieces_length s sep h1]
  omega

/-- Is a ! there? -/
def bang (s : ByteArray) (i : Nat) : Bool := decide (nx s i = 33)
/-- How far off the next ] is. -/
def closeAt (s : ByteArray) (i : Nat) : Int := ixb (s.extract i s.size) 93
/-- What stands in the brackets that open at a place: the word, whether a ! is ahead, the place behind. -/
def bracketF (s : ByteArray) (i : Nat) : Option ((ByteArray × Bool) × Nat) :=
  if closeAt s (i + 1 + gap (bang s (i + 1))) < 0 then none
  else some ((s.extract (i + 1 + gap (bang s (i + 1))) (i + 1 + gap (bang s (i + 1)) + (closeAt s (i + 1 + gap (bang s (i + 1)))).toNat), bang s (i + 1)), i + 1 + gap (bang s (i + 1)) + (closeAt s (i + 1 + gap (bang s (i + 1)))).toNat + 1)
/-- A byte is met within the text. -/
theorem ixb_lt (s : ByteArray) (c : Nat) : ixb s c < s.size ∨ s.size = 0 := by
  rcases Int.lt_or_le (ixb s c) 0 with h | h
  · by_cases e : s.size = 0
    · exact .inr e
    · exact .inl (by omega)
  · left
    unfold ixb at h ⊢
    obtain ⟨n, hn⟩ := Int.eq_ofNat_of_zero_le h
    have := (Lib.indexByte_some hn).1
    obtain ⟨hlt, _⟩ := List.getElem?_eq_some_iff.1 this
    rw [hn]
    have e : s.data.toList.length = s.size := Array.length_toList
    omega
theorem closeAt_lt {s : ByteArray} {i : Nat} (h : 0 ≤ closeAt s i) : i + (closeAt s i).toNat < s.size := by
  have e : (s.extract i s.size).size = s.size - i := by simp [ByteArray.size_extract]
  have h0 : closeAt s i = ixb (s.extract i s.size) 93 := rfl
  rcases ixb_lt (s.extract i s.size) 93 with h1 | h1
  · omega
  · have : ixb (s.extract i s.size) 93 = -1 := by
      have hz : (s.extract i s.size).data.toList = [] := by
        have : (s.extract i s.size).data.toList.length = 0 := by rw [Array.length_toList]; exact h1
        exact List.length_eq_zero_iff.1 this
      unfold ixb
      rw [hz]
      rfl
    omega
theorem bracketF_in {s : ByteArray} {i k : Nat} {r : ByteArray × Bool} (h : bracketF s i = some (r, k)) : k ≤ s.size ∧ i < k := by
  unfold bracketF at h
  by_cases c : closeAt s (i + 1 + gap (bang s (i + 1))) < 0
  · rw [if_pos c] at h; cases h
  · rw [if_neg c] at h
    have := closeAt_lt (s := s) (i := i + 1 + gap (bang s (i + 1))) (by omega)
    simp at h
    omega

/-- A place's name: made names between slashes, 40 bytes at most. -/
def placeF (s : ByteArray) : Bool := (pieces s ⟨#[47]⟩).all (fun p => madeF p 40 ⟨#[95, 43, 45]⟩) && decide (s.size ≤ 40)

/-- A fixed name: its seconds. -/
def fixedF (s : ByteArray) : Option Int :=
  if (s.size = 6 ∨ s.size = 9) ∧ (nx s 0 = 43 ∨ nx s 0 = 45) ∧ nx s 3 = 58 ∧ (s.size = 9 → nx s 6 = 58) then
    if (atwo (s.extract 1 3) 24).2 ∧ (atwo (s.extract 4 6) 60).2 ∧ (s.size = 9 → (atwo (s.extract 7 s.size) 60).2) then
      some (let n : Int := (atwo (s.extract 1 3) 24).1 * 3600 + (atwo (s.extract 4 6) 60).1 * 60 + (if s.size = 9 then ((atwo (s.extract 7 s.size) 60).1 : Int) else 0); if nx s 0 = 45 then -n else n)
    else none
  else none
def nameF (s : ByteArray) : Bool := (fixedF s).isSome || placeF s

/-- A note: its key, its value, whether a ! stands ahead. -/
structure Nt where
  key : ByteArray
  val : ByteArray
  sharp : Bool
/-- A word in two, at its first =. -/
def cutK (x : ByteArray) : ByteArray := ⟨(Lib.cut x.data.toList (ByteArray.mk #[61]).data.toList).1.toArray⟩
def cutV (x : ByteArray) : ByteArray := ⟨(Lib.cut x.data.toList (ByteArray.mk #[61]).data.toList).2.1.toArray⟩
def cutIs (x : ByteArray) : Bool := (Lib.cut x.data.toList (ByteArray.mk #[61]).data.toList).2.2
/-- What a word in brackets is: a zone's name, or a note. -/
def noteF (x : ByteArray) (sh first : Bool) : Option (ByteArray ⊕ Nt) :=
  if cutIs x then (if isKeyF (cutK x) && isValueF (cutV x) then some (.inr ⟨cutK x, cutV x, sh⟩) else none)
  else if first && nameF x then some (.inl x) else none
/-- All brackets from a place on: the zone, the notes, the place behind. -/
def notesF (s : ByteArray) : Nat → Nat → Bool → ByteArray → List Nt → Option ((ByteArray × List Nt) × Nat)
  | 0, _, _, _, _ => none
  | f + 1, i, first, z, acc =>
    if nx s i = 91 then
      match bracketF s i with
      | none => none
      | some ((x, sh), k) =>
        match noteF x sh first with
        | none => none
        | some (.inl z') => notesF s f k false z' acc
        | some (.inr n) => notesF s f k false z (acc ++ [n])
    else some ((z, acc), i)
theorem notesF_end {s : ByteArray} {f i : Nat} {first : Bool} {z : ByteArray} {acc : List Nt} (hf : 0 < f) (h : nx s i ≠ 91) : notesF s f i first z acc = some ((z, acc), i) := by
  obtain ⟨f, rfl⟩ : ∃ g, f = g + 1 := ⟨f - 1, by omega⟩
  unfold notesF; rw [if_neg h]
theorem notesF_open {s : ByteArray} {f i : Nat} {first : Bool} {z : ByteArray} {acc : List Nt} (h : nx s i = 91) (hx : bracketF s i = none) : notesF s f i first z acc = none := by
  cases f with
  | zero => rfl
  | succ f => unfold notesF; rw [if_pos h, hx]
theorem notesF_bad {s : ByteArray} {f i k : Nat} {x : ByteArray} {sh first : Bool} {z : ByteArray} {acc : List Nt} (h : nx s i = 91) (hx : bracketF s i = some ((x, sh), k)) (hn : noteF x sh first = none) : notesF s f i first z acc = none := by
  cases f with
  | zero => rfl
  | succ f => unfold notesF; rw [if_pos h, hx]; simp only; rw [hn]
theorem notesF_zone {s : ByteArray} {f i k : Nat} {x z' : ByteArray} {sh first : Bool} {z : ByteArray} {acc : List Nt} (hf : 0 < f) (h : nx s i = 91) (hx : bracketF s i = some ((x, sh), k)) (hn : noteF x sh first = some (.inl z')) : notesF s f i first z acc = notesF s (f - 1) k false z' acc := by
  obtain ⟨f, rfl⟩ : ∃ g, f = g + 1 := ⟨f - 1, by omega⟩
  conv => lhs; unfold notesF
  rw [if_pos h, hx]; simp only; rw [hn]; simp
theorem notesF_note {s : ByteArray} {f i k : Nat} {x : ByteArray} {n : Nt} {sh first : Bool} {z : ByteArray} {acc : List Nt} (hf : 0 < f) (h : nx s i = 91) (hx : bracketF s i = some ((x, sh), k)) (hn : noteF x sh first = some (.inr n)) : notesF s f i first z acc = notesF s (f - 1) k false z (acc ++ [n]) := by
  obtain ⟨f, rfl⟩ : ∃ g, f = g + 1 := ⟨f - 1, by omega⟩
  conv => lhs; unfold notesF
  rw [if_pos h, hx]; simp only; rw [hn]; simp

end Go.Proofs.YtkhpdiilghncgaaGreatDoor
