/- What grammar's reader reads, as plain functions on a text and a place: no program in sight. -/
import Derived.Lib.Bytealg
namespace Go.Proofs.YtkhpdiilghncgaaGreatDoor

/-- The byte at a place, 0 at the end. -/
def nx (s : ByteArray) (i : Nat) : Nat := if h : i < s.size then s[i].toNat else 0
theorem nx_lt {s : ByteArray} {i : Nat} (h : i < s.size) : nx s i = s[i].toNat := by simp [nx, h]
theorem nx_end {s : ByteArray} {i : Nat} (h : ¬ i < s.size) : nx s i = 0 := by simp [nx, h]
theorem nx_le (s : ByteArray) (i : Nat) : nx s i ≤ 255 := by
  unfold nx; split
  · have := s[i].toNat_lt; omega
  · omega
theorem nx_in {s : ByteArray} {i : Nat} (h : nx s i ≠ 0) : i < s.size := by
  unfold nx at h; split at h
  · assumption
  · exact absurd rfl h

/-- Does a digit stand there? -/
def dg (s : ByteArray) (i : Nat) : Bool := decide (48 ≤ nx s i ∧ nx s i ≤ 57)
theorem dg_bd {s : ByteArray} {i : Nat} (h : dg s i = true) : 48 ≤ nx s i ∧ nx s i ≤ 57 := by simpa [dg] using h
theorem dg_in {s : ByteArray} {i : Nat} (h : dg s i = true) : i < s.size := nx_in (by have := dg_bd h; omega)

/-- So many digits, onto a number. -/
def num (s : ByteArray) : Nat → Nat → Nat → Option Nat
  | 0, _, v => some v
  | n + 1, i, v => if dg s i then num s n (i + 1) (v * 10 + (nx s i - 48)) else none

theorem num_lt {s : ByteArray} : ∀ {n i v r : Nat}, num s n i v = some r → r < (v + 1) * 10 ^ n ∧ i + n ≤ max i s.size
  | 0, i, v, r, h => by simp [num] at h; subst h; simp; omega
  | n + 1, i, v, r, h => by
    unfold num at h
    by_cases hd : dg s i = true
    · rw [if_pos hd] at h
      have := num_lt h
      have hb := dg_bd hd
      have hi := dg_in hd
      refine ⟨?_, by omega⟩
      rw [Nat.pow_succ, ← Nat.mul_assoc, Nat.mul_right_comm]
      exact Nat.lt_of_lt_of_le this.1 (Nat.mul_le_mul_right _ (by omega))
    · rw [if_neg hd] at h; cases h
theorem num_step {s : ByteArray} {n i v : Nat} (hd : dg s i = true) : num s (n + 1) i v = num s n (i + 1) (v * 10 + (nx s i - 48)) := by
  conv => lhs; unfold num
  rw [if_pos hd]
theorem num_stop {s : ByteArray} {n i v : Nat} (hd : dg s i = false) : num s (n + 1) i v = none := by
  unfold num
  rw [if_neg (by rw [hd]; exact Bool.false_ne_true)]

/-- Where a byte is met among some. -/
def ixb (of : ByteArray) (c : Nat) : Int := Lib.indexByte of.data.toList c.toUInt8
/-- Does one of some bytes stand there? -/
def isOne (s : ByteArray) (i : Nat) (of : ByteArray) : Bool := decide (i < s.size) && decide (0 ≤ ixb of (nx s i))

theorem ixb_iff (l : List UInt8) (c : Nat) (hc : c ≤ 255) : 0 ≤ ixb ⟨l.toArray⟩ c ↔ ∃ x ∈ l, x.toNat = c := by
  have key : ∀ l : List UInt8, (0 ≤ Lib.indexByte l c.toUInt8 ↔ ∃ x ∈ l, x.toNat = c) ∧ -1 ≤ Lib.indexByte l c.toUInt8 := by
    intro l
    induction l with
    | nil => simp [Lib.indexByte]
    | cons a l ih =>
      have e : (a == c.toUInt8) = decide (a.toNat = c) := by
        rw [Bool.eq_iff_iff]
        simp only [beq_iff_eq, decide_eq_true_eq]
        rw [← UInt8.toNat_inj]
        have : c.toUInt8.toNat = c := by simp [Nat.toUInt8]; omega
        rw [this]
      unfold Lib.indexByte
      rw [e]
      by_cases h : a.toNat = c
      · simp [h]
      · simp only [h, decide_false, Bool.false_eq_true, if_false]
        obtain ⟨h1, h2⟩ := ih
        by_cases hm : Lib.indexByte l c.toUInt8 = -1
        · rw [hm] at h1
          simp [hm, h]
          intro x hx hxc
          exact absurd (h1.2 ⟨x, hx, hxc⟩) (by omega)
        · have : (Lib.indexByte l c.toUInt8 == -1) = false := by simpa using hm
          rw [this]
          simp only [Bool.false_eq_true, if_false]
          refine ⟨⟨fun _ => ?_, fun _ => by omega⟩, by omega⟩
          obtain ⟨x, hx, hxc⟩ := h1.1 (by omega)
          exact ⟨x, List.mem_cons_of_mem _ hx, hxc⟩
  simpa [ixb] using (key l).1

theorem isOne_iff (s : ByteArray) (i : Nat) (l : List UInt8) : isOne s i ⟨l.toArray⟩ = decide (i < s.size ∧ ∃ x ∈ l, x.toNat = nx s i) := by
  unfold isOne
  rw [Bool.eq_iff_iff]
  simp only [Bool.and_eq_true, decide_eq_true_eq, ixb_iff l _ (nx_le s i)]

theorem isOne_1 (s : ByteArray) (i : Nat) (a : UInt8) (ha : a.toNat ≠ 0) : isOne s i ⟨#[a]⟩ = decide (nx s i = a.toNat) := by
  rw [isOne_iff s i [a], Bool.eq_iff_iff]
  simp only [decide_eq_true_eq, List.mem_singleton, exists_eq_left]
  exact ⟨fun h => h.2.symm, fun h => ⟨nx_in (by omega), h.symm⟩⟩
theorem isOne_2 (s : ByteArray) (i : Nat) (a b : UInt8) (ha : a.toNat ≠ 0) (hb : b.toNat ≠ 0) : isOne s i ⟨#[a, b]⟩ = decide (nx s i = a.toNat ∨ nx s i = b.toNat) := by
  rw [isOne_iff s i [a, b], Bool.eq_iff_iff]
  simp only [decide_eq_true_eq, List.mem_cons, List.not_mem_nil, or_false, exists_eq_or_imp, exists_eq_left]
  exact ⟨fun h => h.2.imp Eq.symm Eq.symm, fun h => ⟨nx_in (by omega), h.imp Eq.symm Eq.symm⟩⟩
theorem isOne_3 (s : ByteArray) (i : Nat) (a b c : UInt8) (ha : a.toNat ≠ 0) (hb : b.toNat ≠ 0) (hc : c.toNat ≠ 0) : isOne s i ⟨#[a, b, c]⟩ = decide (nx s i = a.toNat ∨ nx s i = b.toNat ∨ nx s i = c.toNat) := by
  rw [isOne_iff s i [a, b, c], Bool.eq_iff_iff]
  simp only [decide_eq_true_eq, List.mem_cons, List.not_mem_nil, or_false, exists_eq_or_imp, exists_eq_left]
  exact ⟨fun h => h.2.imp Eq.symm (Or.imp Eq.symm Eq.symm), fun h => ⟨nx_in (by omega), h.imp Eq.symm (Or.imp Eq.symm Eq.symm)⟩⟩

/-- Two digits of a number in a range. -/
def two (s : ByteArray) (i lo hi : Nat) : Option Nat := match num s 2 i 0 with
  | some n => if lo ≤ n ∧ n ≤ hi then some n else none
  | none => none
theorem two_bd {s : ByteArray} {i lo hi n : Nat} (h : two s i lo hi = some n) : lo ≤ n ∧ n ≤ hi ∧ i + 2 ≤ max i s.size := by
  unfold two at h
  cases hn : num s 2 i 0 with
  | none => rw [hn] at h; cases h
  | some x =>
    rw [hn] at h
    by_cases hr : lo ≤ x ∧ x ≤ hi
    · simp only [hr, and_self, if_true, Option.some.injEq] at h
      subst h
      exact ⟨hr.1, hr.2, (num_lt hn).2⟩
    · simp only [hr, if_false] at h; cases h

/-- Is a : there? And how many bytes that takes. -/
def lng (s : ByteArray) (i : Nat) : Bool := decide (nx s i = 58)
theorem lng_eq (s : ByteArray) (i : Nat) : ((nx s i : Int) == 58) = lng s i := by
  unfold lng; rw [Bool.eq_iff_iff]; simp; omega
def gap (long : Bool) : Nat := if long then 1 else 0
theorem gap_le (long : Bool) : gap long ≤ 1 := by cases long <;> decide

/-- Do two further digits stand there, with a : ahead of them or none? -/
def more (s : ByteArray) (i : Nat) (long : Bool) : Bool := if long then decide (nx s i = 58) else dg s i
def past (s : ByteArray) (i : Nat) (long : Bool) : Nat := if long && more s i long then i + 1 else i
theorem past_yes {s : ByteArray} {i : Nat} {long : Bool} (h : more s i long = true) : past s i long = i + gap long := by
  unfold past; rw [h]; cases long <;> rfl
theorem past_no {s : ByteArray} {i : Nat} {long : Bool} (h : more s i long = false) : past s i long = i := by
  unfold past; rw [h]; simp
theorem more_in {s : ByteArray} {i : Nat} {long : Bool} (h : more s i long = true) : i < s.size := by
  cases long
  · exact dg_in (by simpa [more] using h)
  · exact nx_in (by simp [more] at h; omega)

/-- Hours, minutes, seconds; how many of them there are; the place behind. -/
def clock (s : ByteArray) (i most : Nat) : Option (Nat × Nat × Nat × Nat × Nat) :=
  match two s i 0 23 with
  | none => none
  | some h =>
    if more s (i + 2) (lng s (i + 2)) then
      match two s (i + 2 + gap (lng s (i + 2))) 0 59 with
      | none => none
      | some m =>
        if more s (i + 2 + gap (lng s (i + 2)) + 2) (lng s (i + 2)) then
          match two s (i + 2 + gap (lng s (i + 2)) + 2 + gap (lng s (i + 2))) 0 most with
          | none => none
          | some x => some (h, m, x, 3, i + 2 + gap (lng s (i + 2)) + 2 + gap (lng s (i + 2)) + 2)
        else some (h, m, 0, 2, i + 2 + gap (lng s (i + 2)) + 2)
    else some (h, 0, 0, 1, i + 2)

theorem clock_in {s : ByteArray} {i most h m x n k : Nat} (hc : clock s i most = some (h, m, x, n, k)) (hi : i ≤ s.size) : k ≤ s.size := by
  unfold clock at hc
  have g := gap_le (lng s (i + 2))
  cases h1 : two s i 0 23 with
  | none => rw [h1] at hc; cases hc
  | some a =>
    have b1 := (two_bd h1).2.2
    rw [h1] at hc
    simp only at hc
    cases c1 : more s (i + 2) (lng s (i + 2)) with
    | false => rw [c1] at hc; simp at hc; omega
    | true =>
      have d1 := more_in c1
      rw [c1] at hc
      simp only [if_true] at hc
      cases h2 : two s (i + 2 + gap (lng s (i + 2))) 0 59 with
      | none => rw [h2] at hc; cases hc
      | some a =>
        have b2 := (two_bd h2).2.2
        rw [h2] at hc
        simp only at hc
        cases c2 : more s (i + 2 + gap (lng s (i + 2)) + 2) (lng s (i + 2)) with
        | false => rw [c2] at hc; simp at hc; omega
        | true =>
          have d2 := more_in c2
          rw [c2] at hc
          simp only [if_true] at hc
          cases h3 : two s (i + 2 + gap (lng s (i + 2)) + 2 + gap (lng s (i + 2))) 0 most with
          | none => rw [h3] at hc; cases hc
          | some a =>
            have b3 := (two_bd h3).2.2
            rw [h3] at hc
            simp at hc
            omega

/-- How many digits stand there, at most so many. -/
def cnt (s : ByteArray) : Nat → Nat → Nat
  | 0, _ => 0
  | f + 1, i => if dg s i then cnt s f (i + 1) + 1 else 0

theorem num_snoc {s : ByteArray} : ∀ {k i v x : Nat}, num s k i v = some x → dg s (i + k) = true → num s (k + 1) i v = some (x * 10 + (nx s (i + k) - 48))
  | 0, i, v, x, h, hd => by
    simp [num] at h
    subst h
    rw [num_step (by simpa using hd)]
    simp [num]
  | k + 1, i, v, x, h, hd => by
    by_cases h0 : dg s i = true
    · rw [num_step h0] at h ⊢
      have := num_snoc h (by rw [show i + 1 + k = i + (k + 1) from by omega]; exact hd)
      rw [this, show i + 1 + k = i + (k + 1) from by omega]
    · rw [num_stop (by simpa using h0)] at h; cases h
theorem cnt_yes {s : ByteArray} {f i : Nat} (h : dg s i = true) : cnt s (f + 1) i = cnt s f (i + 1) + 1 := by
  conv => lhs; unfold cnt
  rw [if_pos h]
theorem cnt_no {s : ByteArray} {f i : Nat} (h : dg s i = false) : cnt s f i = 0 := by
  cases f with
  | zero => rfl
  | succ f => unfold cnt; rw [if_neg (by rw [h]; exact Bool.false_ne_true)]

/-- A fraction: nine digits' worth, if one is there, and the place behind; none: it is wrong. -/
def part (s : ByteArray) (i : Nat) : Option (Option Nat × Nat) :=
  if nx s i = 46 ∨ nx s i = 44 then
    if cnt s 10 (i + 1) = 0 ∨ cnt s 10 (i + 1) = 10 then none
    else match num s (cnt s 10 (i + 1)) (i + 1) 0 with
      | none => none
      | some v => some (some (v * 10 ^ (9 - cnt s 10 (i + 1))), i + 1 + cnt s 10 (i + 1))
  else some (none, i)

/-- A time: its parts, and the place behind. -/
def time (s : ByteArray) (i : Nat) : Option ((Nat × Nat × Nat × Nat) × Nat) :=
  match clock s i 60 with
  | none => none
  | some (h, m, x, n, k) =>
    if n = 3 then match part s k with
      | none => none
      | some (v, j) => some ((h, m, min x 59, v.getD 0), j)
    else some ((h, m, min x 59, 0), k)

theorem part_in {s : ByteArray} {i k : Nat} {v : Option Nat} (h : part s i = some (v, k)) (hi : i ≤ s.size) : k ≤ s.size := by
  unfold part at h
  by_cases c : nx s i = 46 ∨ nx s i = 44
  · rw [if_pos c] at h
    by_cases d : cnt s 10 (i + 1) = 0 ∨ cnt s 10 (i + 1) = 10
    · rw [if_pos d] at h; cases h
    · rw [if_neg d] at h
      cases hn : num s (cnt s 10 (i + 1)) (i + 1) 0 with
      | none => rw [hn] at h; cases h
      | some x =>
        rw [hn] at h
        simp at h
        have := (num_lt hn).2
        have := nx_in (s := s) (i := i) (by omega)
        omega
  · rw [if_neg c] at h
    simp at h
    omega
theorem time_in {s : ByteArray} {i k : Nat} {r : Nat × Nat × Nat × Nat} (h : time s i = some (r, k)) (hi : i ≤ s.size) : k ≤ s.size := by
  unfold time at h
  cases hc : clock s i 60 with
  | none => rw [hc] at h; cases h
  | some a =>
    obtain ⟨hh, m, x, n, j⟩ := a
    have b1 := clock_in hc hi
    rw [hc] at h
    simp only at h
    by_cases c : n = 3
    · rw [if_pos c] at h
      cases hp : part s j with
      | none => rw [hp] at h; cases h
      | some a =>
        obtain ⟨v, j2⟩ := a
        have := part_in hp b1
        rw [hp] at h
        simp at h
        omega
    · rw [if_neg c] at h
      simp at h
      omega

/-- What Clock reads: a T or t ahead, or none; a time; nothing behind. -/
def tskip (s : ByteArray) (i : Nat) : Nat := if nx s i = 84 ∨ nx s i = 116 then i + 1 else i
def clk (s : ByteArray) : Option (Nat × Nat × Nat × Nat) := match time s (tskip s 0) with
  | some (t, k) => if k = s.size then some t else none
  | none => none

/-- A year at a place, and the place behind. -/
def year (s : ByteArray) (i : Nat) : Option (Int × Nat) :=
  if nx s i = 43 then match num s 6 (i + 1) 0 with
    | some v => some ((v : Int), i + 1 + 6)
    | none => none
  else if nx s i = 45 then match num s 6 (i + 1) 0 with
    | some v => if v = 0 then none else some (-(v : Int), i + 1 + 6)
    | none => none
  else match num s 4 i 0 with
    | some v => some ((v : Int), i + 4)
    | none => none
/-- Does a - stand there? -/
def dsh (s : ByteArray) (i : Nat) : Bool := decide (nx s i = 45)
/-- A month, a day behind a year, and the place behind. -/
def monthday (s : ByteArray) (j : Nat) : Option ((Nat × Nat) × Nat) :=
  match two s (j + gap (dsh s j)) 1 12 with
  | none => none
  | some m =>
    if dsh s j && !dsh s (j + gap (dsh s j) + 2) then none
    else match two s (j + gap (dsh s j) + 2 + gap (dsh s j)) 1 31 with
      | none => none
      | some d => some ((m, d), j + gap (dsh s j) + 2 + gap (dsh s j) + 2)
/-- A date at a place, and the place behind. -/
def date (s : ByteArray) (i : Nat) : Option ((Int × Nat × Nat) × Nat) := match year s i with
  | none => none
  | some (y, j) => match monthday s j with
    | none => none
    | some ((m, d), k) => some ((y, m, d), k)

theorem date_of {s : ByteArray} {i j m : Nat} {y : Int} (hy : year s i = some (y, j)) (hm : two s (j + gap (dsh s j)) 1 12 = some m) (hc : (dsh s j && !dsh s (j + gap (dsh s j) + 2)) = false) :
    date s i = (two s (j + gap (dsh s j) + 2 + gap (dsh s j)) 1 31).map fun d => ((y, m, d), j + gap (dsh s j) + 2 + gap (dsh s j) + 2) := by
  have h1 : monthday s j = (two s (j + gap (dsh s j) + 2 + gap (dsh s j)) 1 31).map fun d => ((m, d), j + gap (dsh s j) + 2 + gap (dsh s j) + 2) := by
    unfold monthday
    rw [hm]
    simp only
    rw [hc]
    simp only [Bool.false_eq_true, if_false]
    cases two s (j + gap (dsh s j) + 2 + gap (dsh s j)) 1 31 <;> rfl
  unfold date
  rw [hy]
  simp only
  rw [h1]
  cases two s (j + gap (dsh s j) + 2 + gap (dsh s j)) 1 31 <;> rfl
theorem date_undashed {s : ByteArray} {i j m : Nat} {y : Int} (hy : year s i = some (y, j)) (hm : two s (j + gap (dsh s j)) 1 12 = some m) (hc : (dsh s j && !dsh s (j + gap (dsh s j) + 2)) = true) : date s i = none := by
  have h1 : monthday s j = none := by
    unfold monthday
    rw [hm]
    simp only
    rw [hc]
    simp
  unfold date
  rw [hy]
  simp only
  rw [h1]

theorem year_in {s : ByteArray} {i j : Nat} {y : Int} (h : year s i = some (y, j)) (hi : i ≤ s.size) : j ≤ s.size ∧ -1000000 < y ∧ y < 1000000 := by
  unfold year at h
  by_cases c : nx s i = 43
  · rw [if_pos c] at h
    have hx := nx_in (s := s) (i := i) (by omega)
    cases hn : num s 6 (i + 1) 0 with
    | none => rw [hn] at h; cases h
    | some v =>
      rw [hn] at h
      have := num_lt hn
      simp at h
      omega
  · rw [if_neg c] at h
    by_cases c2 : nx s i = 45
    · rw [if_pos c2] at h
      have hx := nx_in (s := s) (i := i) (by omega)
      cases hn : num s 6 (i + 1) 0 with
      | none => rw [hn] at h; cases h
      | some v =>
        rw [hn] at h
        have := num_lt hn
        by_cases c3 : v = 0
        · simp [c3] at h
        · simp [c3] at h
          omega
    · rw [if_neg c2] at h
      cases hn : num s 4 i 0 with
      | none => rw [hn] at h; cases h
      | some v =>
        rw [hn] at h
        have := num_lt hn
        simp at h
        omega
theorem monthday_in {s : ByteArray} {j k m d : Nat} (h : monthday s j = some ((m, d), k)) (hj : j ≤ s.size) : k ≤ s.size ∧ 1 ≤ m ∧ m ≤ 12 ∧ 1 ≤ d ∧ d ≤ 31 := by
  unfold monthday at h
  have hg : j + gap (dsh s j) ≤ s.size := by
    cases c : dsh s j with
    | false => simpa [gap] using hj
    | true => have := nx_in (s := s) (i := j) (by simp [dsh] at c; omega); simp [gap]; omega
  cases h1 : two s (j + gap (dsh s j)) 1 12 with
  | none => rw [h1] at h; cases h
  | some a =>
    have b1 := two_bd h1
    rw [h1] at h
    simp only at h
    have hg2 : (dsh s j && !dsh s (j + gap (dsh s j) + 2)) = false → j + gap (dsh s j) + 2 + gap (dsh s j) ≤ s.size := by
      intro c
      cases c1 : dsh s j with
      | false => simp [gap, c1] at b1 ⊢; omega
      | true =>
        rw [c1] at c
        simp at c
        have := nx_in (s := s) (i := j + gap true + 2) (by simp [dsh] at c; omega)
        simp [gap] at this ⊢; omega
    cases c : (dsh s j && !dsh s (j + gap (dsh s j) + 2)) with
    | true => rw [c] at h; simp at h
    | false =>
      have hg2 := hg2 c
      rw [c] at h
      simp only [Bool.false_eq_true, if_false] at h
      cases h2 : two s (j + gap (dsh s j) + 2 + gap (dsh s j)) 1 31 with
      | none => rw [h2] at h; cases h
      | some b =>
        have b2 := two_bd h2
        rw [h2] at h
        simp at h
        omega

/-- An offset at a place: its kind, its seconds, the place behind. -/
def offs (s : ByteArray) (i : Nat) : Option ((Nat × Int) × Nat) :=
  if nx s i = 90 ∨ nx s i = 122 then some ((1, 0), i + 1)
  else if nx s i = 43 ∨ nx s i = 45 then match clock s (i + 1) 59 with
    | none => none
    | some (h, m, x, _, k) => some ((2, if nx s i = 45 then -((h * 3600 + m * 60 + x : Nat) : Int) else ((h * 3600 + m * 60 + x : Nat) : Int)), k)
  else some ((0, 0), i)
theorem clock_bd {s : ByteArray} {i most h m x n k : Nat} (hc : clock s i most = some (h, m, x, n, k)) : h ≤ 23 ∧ m ≤ 59 ∧ x ≤ most := by
  unfold clock at hc
  cases h1 : two s i 0 23 with
  | none => rw [h1] at hc; cases hc
  | some a =>
    have b1 := two_bd h1
    rw [h1] at hc
    simp only at hc
    cases c1 : more s (i + 2) (lng s (i + 2)) with
    | false => rw [c1] at hc; simp at hc; omega
    | true =>
      rw [c1] at hc
      simp only [if_true] at hc
      cases h2 : two s (i + 2 + gap (lng s (i + 2))) 0 59 with
      | none => rw [h2] at hc; cases hc
      | some a =>
        have b2 := two_bd h2
        rw [h2] at hc
        simp only at hc
        cases c2 : more s (i + 2 + gap (lng s (i + 2)) + 2) (lng s (i + 2)) with
        | false => rw [c2] at hc; simp at hc; omega
        | true =>
          rw [c2] at hc
          simp only [if_true] at hc
          cases h3 : two s (i + 2 + gap (lng s (i + 2)) + 2 + gap (lng s (i + 2))) 0 most with
          | none => rw [h3] at hc; cases hc
          | some a =>
            have b3 := two_bd h3
            rw [h3] at hc
            simp at hc
            omega
theorem offs_in {s : ByteArray} {i k kd : Nat} {o : Int} (h : offs s i = some ((kd, o), k)) (hi : i ≤ s.size) : k ≤ s.size := by
  unfold offs at h
  by_cases c : nx s i = 90 ∨ nx s i = 122
  · have := nx_in (s := s) (i := i) (by omega)
    rw [if_pos c] at h
    simp at h; omega
  · rw [if_neg c] at h
    by_cases d : nx s i = 43 ∨ nx s i = 45
    · have hx := nx_in (s := s) (i := i) (by omega)
      rw [if_pos d] at h
      cases hc : clock s (i + 1) 59 with
      | none => rw [hc] at h; cases h
      | some r =>
        obtain ⟨hh, m, x, n, j⟩ := r
        have := clock_in hc (by omega)
        rw [hc] at h
        simp at h; omega
    · rw [if_neg d] at h
      simp at h; omega

end Go.Proofs.YtkhpdiilghncgaaGreatDoor
