/- Durations whose parts are not below 0: plain. -/
import Derived.Test.YtkhpdiilghncgaaGreatDoorDc
namespace Go.Proofs.YtkhpdiilghncgaaGreatDoor
set_option linter.unusedVariables false

theorem cmp_pos {a : Int} (h : 0 < a) : cmpI a 0 = 1 := by unfold cmpI; rw [if_neg (by omega), if_neg (by omega)]
theorem cmp_zero : cmpI 0 0 = 0 := rfl
theorem signFrom_nn {d : Nat → Int} (h : ∀ k, 0 ≤ d k) : ∀ n k, (signFrom d n k = 0 ∧ ∀ j, k ≤ j → j < k + n → d j = 0) ∨ signFrom d n k = 1
  | 0, k => .inl ⟨rfl, fun j h1 h2 => by omega⟩
  | n + 1, k => by
    unfold signFrom
    by_cases c : d k ≠ 0
    · rw [if_pos c]
      exact .inr (cmp_pos (by have := h k; omega))
    · rw [if_neg c]
      rcases signFrom_nn h n (k + 1) with ⟨h1, h2⟩ | h1
      · refine .inl ⟨h1, fun j h3 h4 => ?_⟩
        by_cases e : j = k
        · subst e; omega
        · exact h2 j (by omega) (by omega)
      · exact .inr h1
theorem okU_nn {d : Nat → Int} (h : ∀ k, 0 ≤ d k) (k : Nat) (hk : k < 8) : okU d (signD d) k = decide (k < 3 → d k ≤ 4294967295) := by
  have hs : (cmpI (d k) 0 != 0 && cmpI (d k) 0 != signD d) = false := by
    by_cases c : d k = 0
    · rw [c, cmp_zero]; rfl
    · rw [cmp_pos (by have := h k; omega)]
      rcases signFrom_nn h 8 0 with ⟨h1, h2⟩ | h1
      · exact absurd (h2 k (Nat.zero_le _) (by omega)) c
      · unfold signD; rw [h1]; rfl
  unfold okU
  rw [hs]
  have := h k
  by_cases c1 : k < 3 <;> by_cases c2 : d k ≤ 4294967295 <;> simp [c1, c2] <;> omega
theorem rightFrom_iff (d : Nat → Int) (s : Int) : ∀ n k, rightFrom d s n k = true ↔ ∀ j, k ≤ j → j < k + n → okU d s j = true
  | 0, k => by simp [rightFrom]; omega
  | n + 1, k => by
    simp only [rightFrom, Bool.and_eq_true, rightFrom_iff]
    constructor
    · intro ⟨h1, h2⟩ j h3 h4
      by_cases e : j = k
      · rw [e]; exact h1
      · exact h2 j (by omega) (by omega)
    · intro h
      exact ⟨h k (by omega) (by omega), fun j h3 h4 => h j (by omega) (by omega)⟩
/-- May a duration be whose parts are not below 0? -/
def rightN (d : Nat → Int) : Bool := decide (d 0 ≤ 4294967295 ∧ d 1 ≤ 4294967295 ∧ d 2 ≤ 4294967295 ∧ totalD d < limitN)
theorem rightD_nn {d : Nat → Int} (h : ∀ k, 0 ≤ d k) : rightD d = rightN d := by
  have hs : ¬ signD d < 0 := by
    rcases signFrom_nn h 8 0 with ⟨h1, _⟩ | h1 <;> (unfold signD; omega)
  have hf : finD d = decide (totalD d < limitN) := by
    unfold finD
    rw [if_neg hs]
    unfold cmpI
    by_cases c1 : totalD d = limitN
    · rw [if_pos c1]; simp; omega
    · rw [if_neg c1]
      by_cases c2 : totalD d < limitN
      · rw [if_pos c2]; simp [c2]
      · rw [if_neg c2]; simp [c2]
  unfold rightD rightN
  rw [hf, Bool.eq_iff_iff, Bool.and_eq_true, rightFrom_iff]
  simp only [decide_eq_true_eq]
  constructor
  · intro ⟨h1, h2⟩
    have h0 := h1 0 (by omega) (by omega)
    have h3 := h1 1 (by omega) (by omega)
    have h4 := h1 2 (by omega) (by omega)
    rw [okU_nn h _ (by omega)] at h0 h3 h4
    simp at h0 h3 h4
    exact ⟨h0, h3, h4, h2⟩
  · intro ⟨h1, h2, h3, h4⟩
    refine ⟨fun j _ hj => ?_, h4⟩
    rw [okU_nn h _ (by omega)]
    simp only [decide_eq_true_eq]
    intro hj3
    have : j = 0 ∨ j = 1 ∨ j = 2 := by omega
    rcases this with rfl | rfl | rfl <;> assumption

end Go.Proofs.YtkhpdiilghncgaaGreatDoor
