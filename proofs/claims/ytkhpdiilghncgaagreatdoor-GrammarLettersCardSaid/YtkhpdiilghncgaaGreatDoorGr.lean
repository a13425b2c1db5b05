/- What the notes hold: plain. -/
import Derived.Test.YtkhpdiilghncgaaGreatDoorGq
namespace Go.Proofs.YtkhpdiilghncgaaGreatDoor
set_option linter.unusedVariables false

theorem extract_list (s : ByteArray) (a b : Nat) : (s.extract a b).data.toList = (s.data.toList.take b).drop a := by
  rw [ByteArray.data_extract, Array.toList_extract]
  simp [List.drop_take]
theorem size_list (s : ByteArray) : s.data.toList.length = s.size := Array.length_toList
theorem split45 : ∀ (k : Nat) (s : ByteArray) (x : UInt8), x ∈ s.data.toList → x = 45 ∨ ∃ p ∈ Lib.splitB ⟨#[45]⟩ 0 k s, x ∈ p.data.toList
  | 0, s, x, h => .inr ⟨s, by simp [Lib.splitB_zero], h⟩
  | k + 1, s, x, h => by
    rcases Lib.indexB_cases s ⟨#[45]⟩ with hm | ⟨i, hi, hl⟩
    · rw [Lib.splitB_miss _ 0 (k + 1) s hm]
      exact .inr ⟨s, by simp, h⟩
    · rw [Lib.splitB_hit _ 0 k s i hi]
      have h1 : Lib.indexByte s.data.toList 45 = i := by rw [← Lib.index_one]; exact hi
      have h2 := (Lib.indexByte_some h1).1
      obtain ⟨hlt, he⟩ := List.getElem?_eq_some_iff.1 h2
      have hsplit : s.data.toList = s.data.toList.take i ++ (45 :: s.data.toList.drop (i + 1)) := by
        rw [← he, List.getElem_cons_drop, List.take_append_drop]
      rw [hsplit] at h
      rcases List.mem_append.1 h with h | h
      · exact .inr ⟨s.extract 0 (i + 0), by simp, by rw [extract_list]; simpa using h⟩
      · rcases List.mem_cons.1 h with h | h
        · exact .inl h
        · have h3 : x ∈ (s.extract (i + 1) s.size).data.toList := by
            rw [extract_list, ← size_list, List.take_length]; exact h
          rcases split45 k _ x h3 with h4 | ⟨p, hp, hx⟩
          · exact .inl h4
          · exact .inr ⟨p, List.mem_cons_of_mem _ hp, hx⟩
theorem allFrom_mem {s : ByteArray} {p : Nat → Bool} (h : allFrom s (fun _ c => p c) s.size 0 = true) {x : UInt8} (hx : x ∈ s.data.toList) : p x.toNat = true := by
  obtain ⟨i, hi, he⟩ := List.mem_iff_getElem.1 hx
  rw [size_list] at hi
  have := allFrom_iff.1 h i (Nat.zero_le _) (by omega)
  rw [nx_lt hi] at this
  have e : s[i] = x := by rw [← he]; rfl
  rwa [e] at this
theorem wordAt_lt {c : Nat} (h : wordAt c = true) : c < 128 := by
  unfold wordAt smallF numberF or32 at h
  have := @Nat.left_le_or c 32
  simp at h
  omega
theorem value_ascii {s : ByteArray} (h : isValueF s = true) : ∀ x ∈ s.data.toList, x.toNat < 128 := by
  intro x hx
  rcases split45 _ s x hx with rfl | ⟨p, hp, hxp⟩
  · decide
  · have hw := List.all_eq_true.1 h p hp
    unfold isWordF at hw
    rw [Bool.and_eq_true] at hw
    exact wordAt_lt (allFrom_mem hw.1 hxp)
theorem cutV_size (x : ByteArray) : (cutV x).size ≤ x.size := by
  have h2 : (cutV x).size = (Lib.cut x.data.toList (ByteArray.mk #[61]).data.toList).2.1.length := List.size_toArray ..
  rw [h2, ← size_list]
  unfold Lib.cut
  split
  · simp
  · exact Nat.zero_le _
theorem bracketF_le {s x : ByteArray} {i k : Nat} {sh : Bool} (h : bracketF s i = some ((x, sh), k)) : x.size ≤ s.size := by
  unfold bracketF at h
  split at h
  · cases h
  · simp at h
    obtain ⟨⟨rfl, _⟩, _⟩ := h
    rw [ByteArray.size_extract]
    omega
/-- A note that is read is fit. -/
def NtOk (s : ByteArray) (n : Nt) : Prop := n.val.size ≤ s.size ∧ isKeyF n.key = true ∧ isValueF n.val = true
theorem notesF_all {s : ByteArray} : ∀ {f i : Nat} {first : Bool} {z : ByteArray} {acc : List Nt} {z' : ByteArray} {l : List Nt} {k : Nat}, notesF s f i first z acc = some ((z', l), k) → (∀ n ∈ acc, NtOk s n) → acc.length ≤ i → i ≤ s.size →
    (∀ n ∈ l, NtOk s n) ∧ l.length ≤ k ∧ k ≤ s.size ∧ i ≤ k
  | 0, _, _, _, _, _, _, _, h, _, _, _ => by cases h
  | f + 1, i, first, z, acc, z', l, k, h, ha, hl, hi => by
    unfold notesF at h
    by_cases c : nx s i = 91
    · rw [if_pos c] at h
      cases hb : bracketF s i with
      | none => rw [hb] at h; cases h
      | some v =>
        obtain ⟨⟨x, sh⟩, j⟩ := v
        have hin := bracketF_in hb
        have hsz := bracketF_le hb
        rw [hb] at h
        simp only at h
        cases hn : noteF x sh first with
        | none => rw [hn] at h; cases h
        | some v =>
          rw [hn] at h
          cases v with
          | inl zz =>
            simp only at h
            have := notesF_all h ha (by omega) hin.1
            exact ⟨this.1, this.2.1, this.2.2.1, by omega⟩
          | inr n =>
            simp only at h
            have hok : NtOk s n := by
              unfold noteF at hn
              split at hn
              · split at hn
                · rename_i hkv
                  simp only [Option.some.injEq, Sum.inr.injEq] at hn
                  rw [Bool.and_eq_true] at hkv
                  subst hn
                  exact ⟨Nat.le_trans (cutV_size x) hsz, hkv.1, hkv.2⟩
                · cases hn
              · split at hn
                · simp at hn
                · cases hn
            have := notesF_all h (by intro m hm; rcases List.mem_append.1 hm with hm | hm; exact ha m hm; simp at hm; rw [hm]; exact hok) (by simp; omega) hin.1
            exact ⟨this.1, this.2.1, this.2.2.1, by omega⟩
    · rw [if_neg c] at h
      simp at h
      obtain ⟨⟨_, rfl⟩, rfl⟩ := h
      exact ⟨ha, hl, hi, Nat.le_refl _⟩

end Go.Proofs.YtkhpdiilghncgaaGreatDoor
