/- GrammarLetters: great and small letters, and signs; plain. -/
import Derived.Test.YtkhpdiilghncgaaGreatDoorOq
namespace Go.Proofs.YtkhpdiilghncgaaGreatDoor
set_option linter.unusedVariables false

/-- A byte made great. -/
def gr (c : Nat) : Nat := if 97 ≤ c ∧ c ≤ 122 then c - 32 else c
/-- Two texts, the second one in great letters. -/
structure Gr (s t : ByteArray) : Prop where
  size : s.size = t.size
  at_ : ∀ i, nx t i = gr (nx s i)
variable {s t : ByteArray}
theorem Gr.is (h : Gr s t) {c : Nat} (hc : ¬ (97 ≤ c ∧ c ≤ 122) ∧ ¬ (65 ≤ c ∧ c ≤ 90)) (i : Nat) : nx s i = c ↔ nx t i = c := by
  have := h.at_ i
  unfold gr at this
  split at this <;> omega
theorem Gr.dg (h : Gr s t) (i : Nat) : dg s i = dg t i := by
  have := h.at_ i
  unfold gr at this
  unfold Proofs.YtkhpdiilghncgaaGreatDoor.dg
  exact decide_eq_decide.2 (by split at this <;> omega)
theorem Gr.nx (h : Gr s t) {i : Nat} (hd : Proofs.YtkhpdiilghncgaaGreatDoor.dg s i = true) : nx s i = nx t i := by
  have h1 := h.at_ i
  unfold gr at h1
  have := dg_bd hd
  split at h1 <;> omega
theorem Gr.num (h : Gr s t) : ∀ n i v, num s n i v = num t n i v
  | 0, i, v => rfl
  | n + 1, i, v => by
    unfold Proofs.YtkhpdiilghncgaaGreatDoor.num
    rw [← h.dg i]
    by_cases c : Proofs.YtkhpdiilghncgaaGreatDoor.dg s i = true
    · rw [if_pos c, if_pos c, h.nx c, h.num]
    · rw [if_neg c, if_neg c]
theorem Gr.cnt (h : Gr s t) : ∀ f i, cnt s f i = cnt t f i
  | 0, i => rfl
  | f + 1, i => by
    unfold Proofs.YtkhpdiilghncgaaGreatDoor.cnt
    rw [h.dg, h.cnt]
theorem if_iff2 {α : Type} {P Q : Prop} [Decidable P] [Decidable Q] (h : P ↔ Q) (a b : α) : (if P then a else b) = if Q then a else b := by
  by_cases c : P
  · rw [if_pos c, if_pos (h.1 c)]
  · rw [if_neg c, if_neg (fun d => c (h.2 d))]
theorem Gr.part (h : Gr s t) (i : Nat) : part s i = part t i := by
  unfold Proofs.YtkhpdiilghncgaaGreatDoor.part
  rw [h.cnt, h.num]
  exact if_iff2 (or_congr (h.is (by omega) i) (h.is (by omega) i)) _ _
theorem Gr.count (h : Gr s t) : ∀ f i n ok, countFrom s f i n ok = countFrom t f i n ok
  | 0, _, _, _ => rfl
  | f + 1, i, n, ok => by
    unfold countFrom
    rw [← h.dg i]
    by_cases c : Proofs.YtkhpdiilghncgaaGreatDoor.dg s i = true
    · rw [if_pos c, if_pos c, h.nx c, h.count, h.count]
    · rw [if_neg c, if_neg c]
theorem Gr.frac (h : Gr s t) (three : Bool) (i : Nat) : fracF s three i = fracF t three i := by
  unfold fracF; rw [h.part]
theorem up_gr : ∀ c : Nat, c ≤ 255 → up (gr c) = up c := by
  have : ∀ c : Fin 256, up (gr c.val) = up c.val := by decide +kernel
  intro c hc
  exact this ⟨c, by omega⟩
/-- Letters of which each one stands there great and small. -/
def Both (l : List UInt8) : Prop := ∀ c : Nat, c ≤ 255 → ((∃ x ∈ l, x.toNat = c) ↔ ∃ x ∈ l, x.toNat = gr c)
theorem both_ymwd : Both [89, 77, 87, 68, 121, 109, 119, 100] := by
  have : ∀ c : Fin 256, (∃ x ∈ ([89, 77, 87, 68, 121, 109, 119, 100] : List UInt8), x.toNat = c.val) ↔ ∃ x ∈ ([89, 77, 87, 68, 121, 109, 119, 100] : List UInt8), x.toNat = gr c.val := by decide +kernel
  intro c hc
  exact this ⟨c, by omega⟩
theorem both_hms : Both [72, 77, 83, 104, 109, 115] := by
  have : ∀ c : Fin 256, (∃ x ∈ ([72, 77, 83, 104, 109, 115] : List UInt8), x.toNat = c.val) ↔ ∃ x ∈ ([72, 77, 83, 104, 109, 115] : List UInt8), x.toNat = gr c.val := by decide +kernel
  intro c hc
  exact this ⟨c, by omega⟩
theorem Gr.one (h : Gr s t) {l : List UInt8} (hb : Both l) (i : Nat) : isOne s i ⟨l.toArray⟩ = isOne t i ⟨l.toArray⟩ := by
  rw [isOne_iff, isOne_iff, h.size, h.at_ i]
  exact decide_eq_decide.2 (and_congr Iff.rfl (hb _ (nx_le s i)))
theorem Gr.units (h : Gr s t) {ls : ByteArray} {l : List UInt8} (hb : Both l) (three : Bool) (base : Nat) : ∀ f i u, unitsF s ls ⟨l.toArray⟩ three base f i u = unitsF t ls ⟨l.toArray⟩ three base f i u
  | 0, _, _ => rfl
  | f + 1, i, u => by
    unfold unitsF
    rw [h.dg, h.size, h.count]
    simp only [h.frac, h.one hb, h.at_, up_gr _ (nx_le s _), h.units hb three base f]
theorem Gr.ymwd (h : Gr s t) (f i : Nat) (u : Un) : unitsF s ymwd (ymwd ++ ymwdl) false 0 f i u = unitsF t ymwd (ymwd ++ ymwdl) false 0 f i u := h.units both_ymwd _ _ f i u
theorem Gr.hms (h : Gr s t) (f i : Nat) (u : Un) : unitsF s hms (hms ++ hmsl) true 4 f i u = unitsF t hms (hms ++ hmsl) true 4 f i u := h.units both_hms _ _ f i u
theorem Gr.letter (h : Gr s t) {c : Nat} (hc : 65 ≤ c ∧ c ≤ 90) (i : Nat) : (Proofs.YtkhpdiilghncgaaGreatDoor.nx s i = c ∨ Proofs.YtkhpdiilghncgaaGreatDoor.nx s i = c + 32) ↔ (Proofs.YtkhpdiilghncgaaGreatDoor.nx t i = c ∨ Proofs.YtkhpdiilghncgaaGreatDoor.nx t i = c + 32) := by
  have := h.at_ i
  unfold gr at this
  split at this <;> omega
theorem Gr.back (h : Gr s t) (u : Un) (k : Nat) : backF s u k = backF t u k := by
  unfold backF
  rw [h.size, h.hms]
  exact if_iff2 (h.letter (c := 84) (by omega) k) _ _
theorem Gr.body (h : Gr s t) (k : Nat) : bodyF s k = bodyF t k := by
  unfold bodyF
  rw [h.size, h.ymwd]
  simp only [h.back, h.size]
theorem Gr.sgn (h : Gr s t) : sgnLen s = sgnLen t := if_iff2 (or_congr (h.is (by omega) 0) (h.is (by omega) 0)) _ _
theorem Gr.span (h : Gr s t) : spanF s = spanF t := by
  unfold spanF
  rw [h.sgn, h.body]
  simp only [if_iff2 (h.is (c := 45) (by omega) 0)]
  exact if_iff2 (h.letter (c := 80) (by omega) _) _ _

/-- A text behind a sign. -/
structure Sh (s t : ByteArray) : Prop where
  size : t.size = s.size + 1
  at_ : ∀ i, nx t (i + 1) = nx s i
theorem Sh.dg (h : Sh s t) (i : Nat) : Proofs.YtkhpdiilghncgaaGreatDoor.dg t (i + 1) = Proofs.YtkhpdiilghncgaaGreatDoor.dg s i := by unfold Proofs.YtkhpdiilghncgaaGreatDoor.dg; rw [h.at_]
theorem Sh.num (h : Sh s t) : ∀ n i v, num t n (i + 1) v = num s n i v
  | 0, i, v => rfl
  | n + 1, i, v => by
    unfold Proofs.YtkhpdiilghncgaaGreatDoor.num
    rw [h.dg i, h.at_, h.num]
theorem Sh.cnt (h : Sh s t) : ∀ f i, cnt t f (i + 1) = cnt s f i
  | 0, i => rfl
  | f + 1, i => by
    unfold Proofs.YtkhpdiilghncgaaGreatDoor.cnt
    rw [h.dg, h.cnt]
theorem Sh.part (h : Sh s t) (i : Nat) : part t (i + 1) = (part s i).map fun r => (r.1, r.2 + 1) := by
  unfold Proofs.YtkhpdiilghncgaaGreatDoor.part
  rw [h.cnt, h.num, h.at_]
  by_cases c : Proofs.YtkhpdiilghncgaaGreatDoor.nx s i = 46 ∨ Proofs.YtkhpdiilghncgaaGreatDoor.nx s i = 44
  · rw [if_pos c, if_pos c]
    by_cases d : Proofs.YtkhpdiilghncgaaGreatDoor.cnt s 10 (i + 1) = 0 ∨ Proofs.YtkhpdiilghncgaaGreatDoor.cnt s 10 (i + 1) = 10
    · rw [if_pos d, if_pos d]; rfl
    · rw [if_neg d, if_neg d]
      cases Proofs.YtkhpdiilghncgaaGreatDoor.num s (Proofs.YtkhpdiilghncgaaGreatDoor.cnt s 10 (i + 1)) (i + 1) 0 with
      | none => rfl
      | some v => simp; omega
  · rw [if_neg c, if_neg c]; rfl
theorem dg_past {s : ByteArray} {i : Nat} (h : s.size ≤ i) : dg s i = false := by
  unfold dg; rw [nx_end (by omega)]; rfl
theorem Sh.count (h : Sh s t) : ∀ f g i n ok, s.size ≤ i + f → s.size ≤ i + g → countFrom t f (i + 1) n ok = ((countFrom s g i n ok).1, (countFrom s g i n ok).2 + 1)
  | 0, g, i, n, ok, h1, h2 => by
    have hd : Proofs.YtkhpdiilghncgaaGreatDoor.dg s i = false := dg_past (by omega)
    rw [countFrom_end (by rw [h.dg]; exact hd), countFrom_end hd]
  | f + 1, 0, i, n, ok, h1, h2 => by
    have hd : Proofs.YtkhpdiilghncgaaGreatDoor.dg s i = false := dg_past (by omega)
    rw [countFrom_end (by rw [h.dg]; exact hd), countFrom_end hd]
  | f + 1, g + 1, i, n, ok, h1, h2 => by
    by_cases c : Proofs.YtkhpdiilghncgaaGreatDoor.dg s i = true
    · by_cases d : (ok && cgo n (Proofs.YtkhpdiilghncgaaGreatDoor.nx s i - 48)) = true
      · rw [countFrom_yes (Nat.succ_pos g) c d, countFrom_yes (Nat.succ_pos f) (by rw [h.dg]; exact c) (by rw [h.at_]; exact d), h.at_]
        exact h.count f g (i + 1) _ _ (by omega) (by omega)
      · have d : (ok && cgo n (Proofs.YtkhpdiilghncgaaGreatDoor.nx s i - 48)) = false := by simpa using d
        rw [countFrom_no (Nat.succ_pos g) c d, countFrom_no (Nat.succ_pos f) (by rw [h.dg]; exact c) (by rw [h.at_]; exact d)]
        exact h.count f g (i + 1) _ _ (by omega) (by omega)
    · have hd : Proofs.YtkhpdiilghncgaaGreatDoor.dg s i = false := by simpa using c
      rw [countFrom_end (by rw [h.dg]; exact hd), countFrom_end hd]
theorem Sh.frac (h : Sh s t) (three : Bool) (i : Nat) : fracF t three (i + 1) = (fracF s three i).map fun r => (r.1, r.2 + 1) := by
  unfold fracF
  cases three with
  | false => rfl
  | true =>
    simp only [if_true]
    rw [h.part]
    cases Proofs.YtkhpdiilghncgaaGreatDoor.part s i <;> rfl
theorem Sh.one (h : Sh s t) (i : Nat) (of : ByteArray) : isOne t (i + 1) of = isOne s i of := by
  unfold isOne
  rw [h.at_, h.size]
  congr 1
  exact decide_eq_decide.2 (by omega)
theorem part_ge2 {i k : Nat} {v : Option Nat} (h : part s i = some (v, k)) : i ≤ k := by
  unfold part at h
  split at h
  · split at h
    · cases h
    · split at h
      · cases h
      · simp at h; omega
  · simp at h; omega
theorem fracF_ge {three : Bool} {i k : Nat} {v : Int} (h : fracF s three i = some (v, k)) : i ≤ k := by
  unfold fracF at h
  split at h
  · cases hp : Proofs.YtkhpdiilghncgaaGreatDoor.part s i with
    | none => rw [hp] at h; cases h
    | some r =>
      obtain ⟨a, b⟩ := r
      rw [hp] at h
      simp at h
      rw [← h.2]
      exact part_ge2 hp
  · simp at h; omega
theorem countFrom_ge : ∀ (f i : Nat) (n : Int) (ok : Bool), i ≤ (countFrom s f i n ok).2
  | 0, i, n, ok => Nat.le_refl _
  | f + 1, i, n, ok => by
    unfold countFrom
    split
    · split
      · have := countFrom_ge f (i + 1) (n * 10 + (nx s i - 48 : Nat)) true; omega
      · have := countFrom_ge f (i + 1) n false; omega
    · exact Nat.le_refl _
theorem Sh.units (h : Sh s t) (ls all : ByteArray) (three : Bool) (base : Nat) : ∀ f g i u, s.size < i + f → s.size < i + g → i ≤ s.size → unitsF t ls all three base f (i + 1) u = (unitsF s ls all three base g i u).map fun r => (r.1, r.2 + 1)
  | 0, g, i, u, h1, h2, h3 => by omega
  | f + 1, 0, i, u, h1, h2, h3 => by omega
  | f + 1, g + 1, i, u, h1, h2, h3 => by
    have hc := h.count (t.size + 1) (s.size + 1) i 0 true (by have := h.size; omega) (by omega)
    have hge := countFrom_ge (s := s) (s.size + 1) i 0 true
    have hin := (countFrom_in (s := s) (f := s.size + 1) (i := i) (n := 0) (ok := true) h3 (by omega) (by omega)).1
    unfold unitsF
    rw [h.dg, hc]
    generalize countFrom s (s.size + 1) i 0 true = C at *
    by_cases c : (Proofs.YtkhpdiilghncgaaGreatDoor.dg s i && decide (u.part < 0)) = true
    · rw [if_pos c, if_pos c]
      simp only [h.frac]
      cases hf : fracF s three C.2 with
      | none => rfl
      | some v =>
        obtain ⟨v, k⟩ := v
        have hk := fracF_ge hf
        simp only [Option.map_some]
        rw [h.one]
        by_cases c2 : isOne s k all = true
        · rw [if_pos c2, if_pos c2, h.at_]
          have hks : k < s.size := by simp [isOne] at c2; exact c2.1
          by_cases c3 : ixb ls (up (Proofs.YtkhpdiilghncgaaGreatDoor.nx s k)) ≤ u.had
          · rw [if_pos c3, if_pos c3]; rfl
          · rw [if_neg c3, if_neg c3]
            exact h.units ls all three base f g (k + 1) _ (by omega) (by omega) (by omega)
        · rw [if_neg c2, if_neg c2]; rfl
    · rw [if_neg c, if_neg c]; rfl
theorem unitsF_le {ls all : ByteArray} {three : Bool} {base : Nat} : ∀ {f i : Nat} {u : Un} {u' : Un} {k : Nat}, i ≤ s.size → unitsF s ls all three base f i u = some (u', k) → k ≤ s.size
  | 0, i, u, u', k, hi, h => by cases h
  | f + 1, i, u, u', k, hi, h => by
    unfold unitsF at h
    split at h
    · split at h
      · cases h
      · rename_i p j hf
        split at h
        · rename_i c2
          have hj : j < s.size := by simp [isOne] at c2; exact c2.1
          split at h
          · cases h
          · exact unitsF_le (by omega) h
        · cases h
    · simp at h; omega
theorem Sh.back (h : Sh s t) (u : Un) (k : Nat) (hk : k ≤ s.size) : backF t u (k + 1) = (backF s u k).map fun r => (r.1, r.2 + 1) := by
  unfold backF
  rw [h.at_]
  by_cases c : Proofs.YtkhpdiilghncgaaGreatDoor.nx s k = 84 ∨ Proofs.YtkhpdiilghncgaaGreatDoor.nx s k = 116
  · have hk1 := nx_in (s := s) (i := k) (by omega)
    rw [if_pos c, if_pos c, h.units hms (hms ++ hmsl) true 4 (t.size + 1) (s.size + 1) (k + 1) _ (by have := h.size; omega) (by omega) (by omega)]
    cases unitsF s hms (hms ++ hmsl) true 4 (s.size + 1) (k + 1) ⟨-1, -1, u.room, u.d⟩ <;> rfl
  · rw [if_neg c, if_neg c]; rfl
theorem Sh.body (h : Sh s t) (k : Nat) (hk : k ≤ s.size) : bodyF t (k + 1) = bodyF s k := by
  unfold bodyF
  rw [h.units ymwd (ymwd ++ ymwdl) false 0 (t.size + 1) (s.size + 1) k _ (by have := h.size; omega) (by omega) hk]
  cases hu : unitsF s ymwd (ymwd ++ ymwdl) false 0 (s.size + 1) k ⟨-1, -1, true, fun _ => 0⟩ with
  | none => rfl
  | some v =>
    obtain ⟨u, j⟩ := v
    simp only [Option.map_some]
    rw [h.back u j (unitsF_le hk hu)]
    cases backF s u j with
    | none => rfl
    | some v =>
      obtain ⟨⟨a, b, c⟩, i⟩ := v
      simp only [Option.map_some, h.size]
      have : i + 1 < s.size + 1 ↔ i < s.size := by omega
      simp only [this]
/-- A sign ahead. -/
theorem Sh.span (h : Sh s t) (hs : nx s 0 ≠ 43 ∧ nx s 0 ≠ 45) (hc : nx t 0 = 43 ∨ nx t 0 = 45) :
    spanF t = match spanF s with
      | .error n => .error n
      | .ok d => .ok (if nx t 0 = 45 then fun k => -d k else d) := by
  have e1 : sgnLen t = 1 := by unfold sgnLen; rw [if_pos hc]
  have e2 : sgnLen s = 0 := by unfold sgnLen; rw [if_neg (by omega)]
  unfold spanF
  rw [e1, e2, h.at_ 0]
  simp only [if_neg hs.2]
  by_cases c : Proofs.YtkhpdiilghncgaaGreatDoor.nx s 0 = 80 ∨ Proofs.YtkhpdiilghncgaaGreatDoor.nx s 0 = 112
  · rw [if_pos c, if_pos c]
    have := nx_in (s := s) (i := 0) (by omega)
    rw [h.body (0 + 1) (by omega)]
    cases bodyF s (0 + 1) <;> rfl
  · rw [if_neg c, if_neg c]

end Go.Proofs.YtkhpdiilghncgaaGreatDoor
