/- GrammarSame: two texts that tell the same; plain. -/
import Derived.Test.YtkhpdiilghncgaaGreatDoorOq
namespace Go.Proofs.YtkhpdiilghncgaaGreatDoor
set_option linter.unusedVariables false

theorem bytes_eq {s t : ByteArray} (hs : s.size = t.size) (h : ∀ i, i < s.size → nx s i = nx t i) : s = t := by
  have hl : s.data.toList.length = t.data.toList.length := by rw [size_list, size_list]; exact hs
  have : s.data.toList = t.data.toList := by
    refine List.ext_getElem hl fun i h1 h2 => ?_
    have h1' : i < s.size := by rw [← size_list]; exact h1
    have h2' : i < t.size := by rw [← size_list]; exact h2
    have e := h i h1'
    rw [nx_lt h1', nx_lt h2'] at e
    exact UInt8.toNat_inj.1 e
  have h2 : s.data = t.data := Array.toList_inj.1 this
  cases s; cases t; simp at h2; rw [h2]

/-- A letter between day and time. -/
def isSep (c : Nat) : Prop := c = 84 ∨ c = 116 ∨ c = 32
def isDot (c : Nat) : Prop := c = 46 ∨ c = 44
/-- Two texts: up to a place the same but for the letter between day and time, and the dot of a fraction; no bracket there; from there on the same. -/
structure Sm (s t : ByteArray) (p : Nat) : Prop where
  size : s.size = t.size
  lo : ∀ i, i < p → nx s i ≠ 91 ∧ (nx s i = nx t i ∨ isSep (nx s i) ∧ isSep (nx t i) ∨ isDot (nx s i) ∧ isDot (nx t i))
  hi : ∀ i, p ≤ i → nx s i = nx t i
variable {s t : ByteArray} {p : Nat}
theorem Sm.cases (h : Sm s t p) (i : Nat) : nx s i = nx t i ∨ isSep (nx s i) ∧ isSep (nx t i) ∨ isDot (nx s i) ∧ isDot (nx t i) := by
  by_cases c : i < p
  · exact (h.lo i c).2
  · exact .inl (h.hi i (by omega))
theorem Sm.no (h : Sm s t p) {i : Nat} (c : i < p) : nx t i ≠ 91 := by
  have := h.lo i c
  unfold isSep isDot at this
  omega
theorem Sm.dg (h : Sm s t p) (i : Nat) : dg s i = dg t i := by
  have := h.cases i
  unfold isSep isDot at this
  unfold Proofs.YtkhpdiilghncgaaGreatDoor.dg
  exact decide_eq_decide.2 (by omega)
theorem Sm.nx (h : Sm s t p) {i : Nat} (hd : Proofs.YtkhpdiilghncgaaGreatDoor.dg s i = true) : nx s i = nx t i := by
  have := h.cases i
  unfold isSep isDot at this
  have := dg_bd hd
  omega
theorem Sm.num (h : Sm s t p) : ∀ n i v, num s n i v = num t n i v
  | 0, i, v => rfl
  | n + 1, i, v => by
    unfold Proofs.YtkhpdiilghncgaaGreatDoor.num
    rw [← h.dg i]
    by_cases c : Proofs.YtkhpdiilghncgaaGreatDoor.dg s i = true
    · rw [if_pos c, if_pos c, h.nx c, h.num]
    · rw [if_neg c, if_neg c]
theorem Sm.two (h : Sm s t p) (i lo hi : Nat) : two s i lo hi = two t i lo hi := by
  unfold Proofs.YtkhpdiilghncgaaGreatDoor.two; rw [h.num]
theorem Sm.is (h : Sm s t p) {c : Nat} (hc : ¬ isSep c ∧ ¬ isDot c) (i : Nat) : Proofs.YtkhpdiilghncgaaGreatDoor.nx s i = c ↔ Proofs.YtkhpdiilghncgaaGreatDoor.nx t i = c := by
  have := h.cases i
  unfold isSep isDot at this hc
  omega
theorem nsep : (∀ c, c ≠ 84 → c ≠ 116 → c ≠ 32 → c ≠ 46 → c ≠ 44 → ¬ isSep c ∧ ¬ isDot c) := by
  intro c; unfold isSep isDot; omega
theorem Sm.lng (h : Sm s t p) (i : Nat) : lng s i = lng t i := decide_eq_decide.2 (h.is (by unfold isSep isDot; omega) i)
theorem Sm.dsh (h : Sm s t p) (i : Nat) : dsh s i = dsh t i := decide_eq_decide.2 (h.is (by unfold isSep isDot; omega) i)
theorem Sm.more (h : Sm s t p) (i : Nat) (long : Bool) : more s i long = more t i long := by
  unfold Proofs.YtkhpdiilghncgaaGreatDoor.more
  rw [h.dg, decide_eq_decide.2 (h.is (by unfold isSep isDot; omega) i)]
theorem Sm.clock (h : Sm s t p) (i most : Nat) : clock s i most = clock t i most := by
  unfold Proofs.YtkhpdiilghncgaaGreatDoor.clock
  rw [h.two, h.lng]
  simp only [h.two, h.more]
theorem Sm.cnt (h : Sm s t p) : ∀ f i, cnt s f i = cnt t f i
  | 0, i => rfl
  | f + 1, i => by
    unfold Proofs.YtkhpdiilghncgaaGreatDoor.cnt
    rw [h.dg, h.cnt]
theorem Sm.dot (h : Sm s t p) (i : Nat) : (Proofs.YtkhpdiilghncgaaGreatDoor.nx s i = 46 ∨ Proofs.YtkhpdiilghncgaaGreatDoor.nx s i = 44) ↔ (Proofs.YtkhpdiilghncgaaGreatDoor.nx t i = 46 ∨ Proofs.YtkhpdiilghncgaaGreatDoor.nx t i = 44) := by
  have := h.cases i
  unfold isSep isDot at this
  omega
theorem if_iff {α : Type} {P Q : Prop} [Decidable P] [Decidable Q] (h : P ↔ Q) (a b : α) : (if P then a else b) = if Q then a else b := by
  by_cases c : P
  · rw [if_pos c, if_pos (h.1 c)]
  · rw [if_neg c, if_neg (fun d => c (h.2 d))]
theorem Sm.part (h : Sm s t p) (i : Nat) : part s i = part t i := by
  unfold Proofs.YtkhpdiilghncgaaGreatDoor.part
  rw [h.cnt, h.num]
  exact if_iff (h.dot i) _ _
theorem Sm.time (h : Sm s t p) (i : Nat) : time s i = time t i := by
  unfold Proofs.YtkhpdiilghncgaaGreatDoor.time
  rw [h.clock]
  simp only [h.part]
theorem Sm.year (h : Sm s t p) (i : Nat) : year s i = year t i := by
  unfold Proofs.YtkhpdiilghncgaaGreatDoor.year
  rw [h.num, h.num, if_iff (h.is (c := 43) (by unfold isSep isDot; omega) i), if_iff (h.is (c := 45) (by unfold isSep isDot; omega) i)]
theorem Sm.monthday (h : Sm s t p) (j : Nat) : monthday s j = monthday t j := by
  unfold Proofs.YtkhpdiilghncgaaGreatDoor.monthday
  simp only [h.dsh, h.two]
theorem Sm.date (h : Sm s t p) (i : Nat) : date s i = date t i := by
  unfold Proofs.YtkhpdiilghncgaaGreatDoor.date
  rw [h.year]
  simp only [h.monthday]
theorem Sm.offs (h : Sm s t p) (i : Nat) : offs s i = offs t i := by
  have h1 := h.is (c := 90) (by unfold isSep isDot; omega) i
  have h2 := h.is (c := 122) (by unfold isSep isDot; omega) i
  have h3 := h.is (c := 43) (by unfold isSep isDot; omega) i
  have h4 := h.is (c := 45) (by unfold isSep isDot; omega) i
  unfold Proofs.YtkhpdiilghncgaaGreatDoor.offs
  rw [h.clock, if_iff (show (Proofs.YtkhpdiilghncgaaGreatDoor.nx s i = 90 ∨ Proofs.YtkhpdiilghncgaaGreatDoor.nx s i = 122) ↔ _ from or_congr h1 h2), if_iff (show (Proofs.YtkhpdiilghncgaaGreatDoor.nx s i = 43 ∨ Proofs.YtkhpdiilghncgaaGreatDoor.nx s i = 45) ↔ _ from or_congr h3 h4)]
  simp only [if_iff h4]
theorem Sm.sep (h : Sm s t p) (i : Nat) : sep s i = sep t i := by
  have := h.cases i
  unfold isSep isDot at this
  exact decide_eq_decide.2 (by omega)
theorem Sm.tail (h : Sm s t p) (k : Nat) : tailF s k = tailF t k := by
  unfold tailF
  rw [h.sep, h.time]
  simp only [h.offs]
theorem Sm.extract (h : Sm s t p) {a b : Nat} (ha : p ≤ a) (hb : b ≤ s.size) : s.extract a b = t.extract a b := by
  have hz : (s.extract a b).size = (t.extract a b).size := by rw [ByteArray.size_extract, ByteArray.size_extract, h.size]
  refine bytes_eq hz fun i hi => ?_
  rw [ByteArray.size_extract] at hi
  rw [nx_extract s hb (by omega), nx_extract t (by rw [← h.size]; exact hb) (by omega)]
  exact h.hi _ (by omega)
theorem Sm.bracket (h : Sm s t p) {i : Nat} (hi : p ≤ i) : bracketF s i = bracketF t i := by
  have e1 : bang s (i + 1) = bang t (i + 1) := by unfold bang; rw [h.hi _ (by omega)]
  have e2 : closeAt s (i + 1 + gap (bang s (i + 1))) = closeAt t (i + 1 + gap (bang t (i + 1))) := by
    unfold closeAt; rw [e1, h.size, h.extract (by omega) (by rw [h.size]; exact Nat.le_refl _)]
  by_cases c : closeAt s (i + 1 + gap (bang s (i + 1))) < 0
  · unfold bracketF
    rw [if_pos c, if_pos (by rw [← e2]; exact c)]
  · have hl := closeAt_lt (Int.not_lt.1 c)
    unfold bracketF
    rw [← e2, e1]
    rw [e1] at c hl
    rw [if_neg c, if_neg c, h.extract (by omega) (by omega)]
theorem Sm.notes (h : Sm s t p) : ∀ f i first z acc, notesF s f i first z acc = notesF t f i first z acc
  | 0, _, _, _, _ => rfl
  | f + 1, i, first, z, acc => by
    by_cases c : i < p
    · rw [notesF_end (Nat.succ_pos f) (h.lo i c).1, notesF_end (Nat.succ_pos f) (h.no c)]
    · have hi : p ≤ i := by omega
      have e := h.hi i hi
      unfold notesF
      rw [e, h.bracket hi]
      simp only [h.notes f]
theorem Sm.parse (h : Sm s t p) : parseF s = parseF t := by
  unfold parseF
  rw [h.date]
  simp only [h.tail, h.notes, h.size]

end Go.Proofs.YtkhpdiilghncgaaGreatDoor
