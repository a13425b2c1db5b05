/- What is read are bytes from 32 to 126: plain. -/
import Derived.Test.YtkhpdiilghncgaaGreatDoorSp
import Derived.Test.YtkhpdiilghncgaaGreatDoorGm
namespace Go.Proofs.YtkhpdiilghncgaaGreatDoor
set_option linter.unusedVariables false

/-- The bytes between two places may all stand in a text. -/
def Fine (s : ByteArray) (i k : Nat) : Prop := i ≤ k ∧ ∀ j, i ≤ j → j < k → 32 ≤ nx s j ∧ nx s j ≤ 126
variable {s : ByteArray}
theorem Fine.refl (i : Nat) : Fine s i i := ⟨Nat.le_refl _, fun j h1 h2 => by omega⟩
theorem Fine.one {i : Nat} (h : 32 ≤ nx s i ∧ nx s i ≤ 126) : Fine s i (i + 1) := ⟨by omega, fun j h1 h2 => by rw [show j = i from by omega]; exact h⟩
theorem Fine.trans {i j k : Nat} (h : Fine s i j) (g : Fine s j k) : Fine s i k := ⟨Nat.le_trans h.1 g.1, fun x h1 h2 => by
  by_cases c : x < j
  · exact h.2 x h1 c
  · exact g.2 x (by omega) h2⟩
theorem num_fine : ∀ {n i v r : Nat}, num s n i v = some r → Fine s i (i + n)
  | 0, i, v, r, h => Fine.refl i
  | n + 1, i, v, r, h => by
    unfold num at h
    by_cases hd : dg s i = true
    · rw [if_pos hd] at h
      have hb := dg_bd hd
      have := num_fine h
      rw [show i + (n + 1) = i + 1 + n from by omega]
      exact (Fine.one (by omega)).trans this
    · rw [if_neg hd] at h; cases h
theorem two_fine {i lo hi n : Nat} (h : two s i lo hi = some n) : Fine s i (i + 2) := by
  unfold two at h
  cases hn : num s 2 i 0 with
  | none => rw [hn] at h; cases h
  | some x => exact num_fine hn
theorem lng_fine (i : Nat) : Fine s i (i + gap (lng s i)) := by
  cases c : lng s i with
  | false => exact Fine.refl i
  | true => exact Fine.one (by simp [lng] at c; omega)
theorem more_fine {i : Nat} {long : Bool} (h : more s i long = true) : Fine s i (i + gap long) := by
  cases long with
  | false => exact Fine.refl i
  | true => exact Fine.one (by simp [more] at h; omega)
theorem dsh_fine (i : Nat) : Fine s i (i + gap (dsh s i)) := by
  cases c : dsh s i with
  | false => exact Fine.refl i
  | true => exact Fine.one (by simp [dsh] at c; omega)
theorem clock_fine {i most h m x n k : Nat} (hc : clock s i most = some (h, m, x, n, k)) : Fine s i k := by
  unfold clock at hc
  cases h1 : two s i 0 23 with
  | none => rw [h1] at hc; cases hc
  | some a =>
    have b1 := two_fine h1
    rw [h1] at hc
    simp only at hc
    cases c1 : more s (i + 2) (lng s (i + 2)) with
    | false => rw [c1] at hc; simp at hc; obtain ⟨_, _, _, _, rfl⟩ := hc; exact b1
    | true =>
      have d1 := b1.trans (lng_fine (i + 2))
      rw [c1] at hc
      simp only [if_true] at hc
      cases h2 : two s (i + 2 + gap (lng s (i + 2))) 0 59 with
      | none => rw [h2] at hc; cases hc
      | some a =>
        have b2 := d1.trans (two_fine h2)
        rw [h2] at hc
        simp only at hc
        cases c2 : more s (i + 2 + gap (lng s (i + 2)) + 2) (lng s (i + 2)) with
        | false => rw [c2] at hc; simp at hc; obtain ⟨_, _, _, _, rfl⟩ := hc; exact b2
        | true =>
          have d2 := b2.trans (more_fine c2)
          rw [c2] at hc
          simp only [if_true] at hc
          cases h3 : two s (i + 2 + gap (lng s (i + 2)) + 2 + gap (lng s (i + 2))) 0 most with
          | none => rw [h3] at hc; cases hc
          | some a =>
            have b3 := d2.trans (two_fine h3)
            rw [h3] at hc
            simp at hc
            obtain ⟨_, _, _, _, rfl⟩ := hc
            exact b3
theorem part_fine {i k : Nat} {v : Option Nat} (h : part s i = some (v, k)) : Fine s i k := by
  unfold part at h
  by_cases c : nx s i = 46 ∨ nx s i = 44
  · rw [if_pos c] at h
    by_cases d : cnt s 10 (i + 1) = 0 ∨ cnt s 10 (i + 1) = 10
    · rw [if_pos d] at h; cases h
    · rw [if_neg d] at h
      cases hn : num s (cnt s 10 (i + 1)) (i + 1) 0 with
      | none => rw [hn] at h; cases h
      | some x =>
        rw [hn] at h
        simp at h
        rw [← h.2]
        exact (Fine.one (by omega)).trans (num_fine hn)
  · rw [if_neg c] at h
    simp at h
    rw [← h.2]
    exact Fine.refl i
theorem time_fine {i k : Nat} {r : Nat × Nat × Nat × Nat} (h : time s i = some (r, k)) : Fine s i k := by
  unfold time at h
  cases hc : clock s i 60 with
  | none => rw [hc] at h; cases h
  | some a =>
    obtain ⟨hh, m, x, n, j⟩ := a
    have b1 := clock_fine hc
    rw [hc] at h
    simp only at h
    by_cases c : n = 3
    · rw [if_pos c] at h
      cases hp : part s j with
      | none => rw [hp] at h; cases h
      | some a =>
        obtain ⟨v, j2⟩ := a
        have := b1.trans (part_fine hp)
        rw [hp] at h
        simp at h
        rw [← h.2]; exact this
    · rw [if_neg c] at h
      simp at h
      rw [← h.2]; exact b1
theorem tskip_fine : Fine s 0 (tskip s 0) := by
  unfold tskip
  split
  · exact Fine.one (by omega)
  · exact Fine.refl 0
theorem clk_fine {r : Nat × Nat × Nat × Nat} (h : clk s = some r) : Fine s 0 s.size := by
  unfold clk at h
  cases ht : time s (tskip s 0) with
  | none => rw [ht] at h; cases h
  | some v =>
    obtain ⟨t, k⟩ := v
    rw [ht] at h
    simp only at h
    by_cases c : k = s.size
    · rw [← c]; exact tskip_fine.trans (time_fine ht)
    · rw [if_neg c] at h; cases h
theorem year_fine {i j : Nat} {y : Int} (h : year s i = some (y, j)) : Fine s i j := by
  unfold year at h
  split at h
  · rename_i c
    cases hn : num s 6 (i + 1) 0 with
    | none => rw [hn] at h; cases h
    | some v =>
      rw [hn] at h
      simp at h
      rw [← h.2]
      exact (Fine.one (by omega)).trans (num_fine hn)
  · split at h
    · rename_i c
      cases hn : num s 6 (i + 1) 0 with
      | none => rw [hn] at h; cases h
      | some v =>
        rw [hn] at h
        simp at h
        rw [← h.2.2]
        exact (Fine.one (by omega)).trans (num_fine hn)
    · cases hn : num s 4 i 0 with
      | none => rw [hn] at h; cases h
      | some v =>
        rw [hn] at h
        simp at h
        rw [← h.2]
        exact num_fine hn
theorem monthday_fine {j k m d : Nat} (h : monthday s j = some ((m, d), k)) : Fine s j k := by
  unfold monthday at h
  cases hm : two s (j + gap (dsh s j)) 1 12 with
  | none => rw [hm] at h; cases h
  | some m' =>
    rw [hm] at h
    simp only at h
    by_cases hc : (dsh s j && !dsh s (j + gap (dsh s j) + 2)) = true
    · rw [if_pos hc] at h; cases h
    · rw [if_neg hc] at h
      cases hd : two s (j + gap (dsh s j) + 2 + gap (dsh s j)) 1 31 with
      | none => rw [hd] at h; cases h
      | some d' =>
        rw [hd] at h
        simp at h
        rw [← h.2]
        have g : Fine s (j + gap (dsh s j) + 2) (j + gap (dsh s j) + 2 + gap (dsh s j)) := by
          cases c : dsh s j with
          | false => exact Fine.refl _
          | true =>
            rw [c] at hc
            have : dsh s (j + gap true + 2) = true := by simpa using hc
            exact Fine.one (by simp [dsh] at this; omega)
        exact (((dsh_fine j).trans (two_fine hm)).trans g).trans (two_fine hd)
theorem date_fine {i k : Nat} {r : Int × Nat × Nat} (h : date s i = some (r, k)) : Fine s i k := by
  unfold date at h
  cases hy : year s i with
  | none => rw [hy] at h; cases h
  | some v =>
    obtain ⟨y, j⟩ := v
    rw [hy] at h
    simp only at h
    cases hm : monthday s j with
    | none => rw [hm] at h; cases h
    | some v =>
      obtain ⟨⟨m, d⟩, k'⟩ := v
      rw [hm] at h
      simp only [Option.some.injEq, Prod.mk.injEq] at h
      rw [← h.2]
      exact (year_fine hy).trans (monthday_fine hm)
theorem offs_fine {i k kd : Nat} {o : Int} (h : offs s i = some ((kd, o), k)) : Fine s i k := by
  unfold offs at h
  split at h
  · simp at h; rw [← h.2]; exact Fine.one (by omega)
  · split at h
    · cases hc : clock s (i + 1) 59 with
      | none => rw [hc] at h; cases h
      | some v =>
        obtain ⟨a, b, c, n, j⟩ := v
        rw [hc] at h
        simp at h
        rw [← h.2]
        exact (Fine.one (by omega)).trans (clock_fine hc)
    · simp at h; rw [← h.2]; exact Fine.refl i
theorem tailF_fine {k i kd : Nat} {ht : Bool} {t : Nat × Nat × Nat × Nat} {o : Int} (h : tailF s k = some ((ht, t, kd, o), i)) : Fine s k i := by
  unfold tailF at h
  split at h
  · rename_i hs
    cases hc : time s (k + 1) with
    | none => rw [hc] at h; cases h
    | some v =>
      obtain ⟨t', j⟩ := v
      rw [hc] at h
      simp only at h
      cases ho : offs s j with
      | none => rw [ho] at h; cases h
      | some v =>
        obtain ⟨⟨kd', o'⟩, j2⟩ := v
        rw [ho] at h
        simp at h
        rw [← h.2]
        exact ((Fine.one (by simp [sep] at hs; omega)).trans (time_fine hc)).trans (offs_fine ho)
  · simp at h; rw [← h.2]; exact Fine.refl k
theorem countFrom_fine : ∀ {f i : Nat} {n : Int} {ok : Bool}, Fine s i (countFrom s f i n ok).2
  | 0, i, n, ok => Fine.refl i
  | f + 1, i, n, ok => by
    unfold countFrom
    split
    · rename_i hd
      have hb := dg_bd hd
      split
      · exact (Fine.one (by omega)).trans countFrom_fine
      · exact (Fine.one (by omega)).trans countFrom_fine
    · exact Fine.refl i
theorem fracF_fine {three : Bool} {i k : Nat} {p : Int} (h : fracF s three i = some (p, k)) : Fine s i k := by
  unfold fracF at h
  split at h
  · cases hp : part s i with
    | none => rw [hp] at h; cases h
    | some v => obtain ⟨v, j⟩ := v; rw [hp] at h; simp at h; rw [← h.2]; exact part_fine hp
  · simp at h; rw [← h.2]; exact Fine.refl i
theorem unitsF_fine {ls all : ByteArray} (ha : ∀ j, isOne s j all = true → 32 ≤ nx s j ∧ nx s j ≤ 126) {three : Bool} {base : Nat} : ∀ {f i : Nat} {u u' : Un} {k : Nat}, unitsF s ls all three base f i u = some (u', k) → Fine s i k
  | 0, _, _, _, _, h => by cases h
  | f + 1, i, u, u', k, h => by
    unfold unitsF at h
    by_cases c : (dg s i && decide (u.part < 0)) = true
    · rw [if_pos c] at h
      have hc := countFrom_fine (s := s) (f := s.size + 1) (i := i) (n := 0) (ok := true)
      generalize countFrom s (s.size + 1) i 0 true = C at *
      cases hf : fracF s three C.2 with
      | none => rw [hf] at h; cases h
      | some v =>
        obtain ⟨p, j⟩ := v
        rw [hf] at h
        simp only at h
        by_cases c2 : isOne s j all = true
        · rw [if_pos c2] at h
          by_cases c3 : ixb ls (up (nx s j)) ≤ u.had
          · rw [if_pos c3] at h; cases h
          · rw [if_neg c3] at h
            exact ((hc.trans (fracF_fine hf)).trans (Fine.one (ha j c2))).trans (unitsF_fine ha h)
        · rw [if_neg c2] at h; cases h
    · rw [if_neg c] at h
      simp at h
      rw [← h.2]; exact Fine.refl i
end Go.Proofs.YtkhpdiilghncgaaGreatDoor
