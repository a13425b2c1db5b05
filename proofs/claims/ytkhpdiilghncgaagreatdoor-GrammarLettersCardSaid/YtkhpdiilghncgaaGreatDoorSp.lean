/- grammar.Span, plainly. -/
import Derived.Test.YtkhpdiilghncgaaGreatDoorSb
import Derived.Test.YtkhpdiilghncgaaGreatDoorDp
import Derived.Test.YtkhpdiilghncgaaGreatDoorOv
namespace Go.Proofs.YtkhpdiilghncgaaGreatDoor
set_option linter.unusedVariables false

def ymwd : ByteArray := ⟨#[89, 77, 87, 68]⟩
def ymwdl : ByteArray := ⟨#[121, 109, 119, 100]⟩
def hms : ByteArray := ⟨#[72, 77, 83]⟩
def hmsl : ByteArray := ⟨#[104, 109, 115]⟩
theorem cnt_le (s : ByteArray) : ∀ f i, cnt s f i ≤ f
  | 0, _ => by simp [cnt]
  | f + 1, i => by
    unfold cnt
    split
    · have := cnt_le s f (i + 1); omega
    · omega
theorem part_bd {s : ByteArray} {i k v : Nat} (h : part s i = some (some v, k)) : v < 1000000000 := by
  unfold part at h
  split at h
  · split at h
    · cases h
    · rename_i hc
      split at h
      · cases h
      · rename_i n hn
        have hl := (num_lt hn).1
        have hc10 := cnt_le s 10 (i + 1)
        simp at h
        rw [← h.1]
        generalize cnt s 10 (i + 1) = j at *
        have hj : j = 1 ∨ j = 2 ∨ j = 3 ∨ j = 4 ∨ j = 5 ∨ j = 6 ∨ j = 7 ∨ j = 8 ∨ j = 9 := by omega
        rcases hj with rfl | rfl | rfl | rfl | rfl | rfl | rfl | rfl | rfl <;> simp at hl ⊢ <;> omega
  · simp at h
theorem ixb_ge (s : ByteArray) (c : Nat) : -1 ≤ ixb s c := Lib.indexByte_ge _ _
structure UInv (ls : ByteArray) (u : Un) : Prop where
  d0 : ∀ k, 0 ≤ u.d k
  d1 : ∀ k, u.d k ≤ 9223372036854775807
  h0 : -1 ≤ u.had
  h1 : u.had < ls.size
  p0 : -1 ≤ u.part
  p1 : u.part < 1000000000
theorem unitsF_inv {s ls all : ByteArray} {three : Bool} {base : Nat} (hl : 0 < ls.size) : ∀ {f i : Nat} {u u' : Un} {k : Nat}, unitsF s ls all three base f i u = some (u', k) → UInv ls u → i ≤ s.size → UInv ls u' ∧ k ≤ s.size
  | 0, _, _, _, _, h, _, _ => by cases h
  | f + 1, i, u, u', k, h, hi, hle => by
    unfold unitsF at h
    by_cases c : (dg s i && decide (u.part < 0)) = true
    · rw [if_pos c] at h
      have hin := countFrom_in (s := s) (f := s.size + 1) (i := i) (n := 0) (ok := true) hle (by omega) (by omega)
      generalize countFrom s (s.size + 1) i 0 true = C at *
      cases hf : fracF s three C.2 with
      | none => rw [hf] at h; cases h
      | some v =>
        obtain ⟨p, j⟩ := v
        rw [hf] at h
        simp only at h
        by_cases c2 : isOne s j all = true
        · rw [if_pos c2] at h
          have hj : j < s.size := by simp [isOne] at c2; exact c2.1
          by_cases c3 : ixb ls (up (nx s j)) ≤ u.had
          · rw [if_pos c3] at h; cases h
          · rw [if_neg c3] at h
            refine unitsF_inv hl h ⟨fun k => ?_, fun k => ?_, ixb_ge _ _, ?_, ?_, ?_⟩ (by omega)
            · simp only [setD]; split
              · exact hin.2.2.1
              · exact hi.d0 k
            · simp only [setD]; split
              · exact hin.2.2.2
              · exact hi.d1 k
            · rcases ixb_lt ls (up (nx s j)) with h | h
              · exact h
              · omega
            all_goals
              unfold fracF at hf
              split at hf
              · cases hp : part s C.2 with
                | none => rw [hp] at hf; cases hf
                | some v =>
                  obtain ⟨v, kk⟩ := v
                  rw [hp] at hf
                  simp at hf
                  obtain ⟨rfl, rfl⟩ := hf
                  cases v with
                  | none => simp [partN]
                  | some v => have := part_bd hp; simp only [partN]; omega
              · simp at hf
                obtain ⟨rfl, rfl⟩ := hf
                simp
        · rw [if_neg c2] at h; cases h
    · rw [if_neg c] at h
      simp at h
      obtain ⟨rfl, rfl⟩ := h
      exact ⟨hi, hle⟩

/-- The part of a duration behind its T. -/
def backF (s : ByteArray) (u : Un) (k : Nat) : Option ((Int × (Nat → Int) × Bool) × Nat) :=
  if nx s k = 84 ∨ nx s k = 116 then
    match unitsF s hms (hms ++ hmsl) true 4 (s.size + 1) (k + 1) ⟨-1, -1, u.room, u.d⟩ with
    | none => none
    | some (v, j) => some ((v.had, if 0 ≤ v.had ∧ 0 < v.part then overD v.d v.had.toNat (v.part * unitN v.had.toNat) else v.d, v.room), j)
  else some ((u.had, u.d, u.room), k)
def bodyF (s : ByteArray) (k : Nat) : Except Int (Nat → Int) :=
  match unitsF s ymwd (ymwd ++ ymwdl) false 0 (s.size + 1) k ⟨-1, -1, true, fun _ => 0⟩ with
  | none => .error 6
  | some (u, j) => match backF s u j with
    | none => .error 6
    | some ((last, d, room), i) =>
      if last < 0 then .error 6
      else if i < s.size then .error 6
      else if room && rightN d then .ok d else .error 4
def sgnLen (s : ByteArray) : Nat := if nx s 0 = 43 ∨ nx s 0 = 45 then 1 else 0
/-- A duration that is read, or why there is none. -/
def spanF (s : ByteArray) : Except Int (Nat → Int) :=
  if nx s (sgnLen s) = 80 ∨ nx s (sgnLen s) = 112 then
    match bodyF s (sgnLen s + 1) with
    | .error n => .error n
    | .ok d => .ok (if nx s 0 = 45 then fun k => -d k else d)
  else .error 6

end Go.Proofs.YtkhpdiilghncgaaGreatDoor
