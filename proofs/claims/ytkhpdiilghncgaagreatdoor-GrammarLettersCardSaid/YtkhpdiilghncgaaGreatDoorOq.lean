/- Notes and names hold fine bytes; whole texts that are read. -/
import Derived.Test.YtkhpdiilghncgaaGreatDoorOp
namespace Go.Proofs.YtkhpdiilghncgaaGreatDoor
set_option linter.unusedVariables false
variable {s : ByteArray}

def FineL (l : List UInt8) : Prop := ∀ x ∈ l, 32 ≤ x.toNat ∧ x.toNat ≤ 126
theorem splitc (c : UInt8) : ∀ (k : Nat) (s : ByteArray) (x : UInt8), x ∈ s.data.toList → x = c ∨ ∃ p ∈ Lib.splitB ⟨#[c]⟩ 0 k s, x ∈ p.data.toList
  | 0, s, x, h => .inr ⟨s, by simp [Lib.splitB_zero], h⟩
  | k + 1, s, x, h => by
    rcases Lib.indexB_cases s ⟨#[c]⟩ with hm | ⟨i, hi, hl⟩
    · rw [Lib.splitB_miss _ 0 (k + 1) s hm]
      exact .inr ⟨s, by simp, h⟩
    · rw [Lib.splitB_hit _ 0 k s i hi]
      have h1 : Lib.indexByte s.data.toList c = i := by rw [← Lib.index_one]; exact hi
      have h2 := (Lib.indexByte_some h1).1
      obtain ⟨hlt, he⟩ := List.getElem?_eq_some_iff.1 h2
      have hsplit : s.data.toList = s.data.toList.take i ++ (c :: s.data.toList.drop (i + 1)) := by
        rw [← he, List.getElem_cons_drop, List.take_append_drop]
      rw [hsplit] at h
      rcases List.mem_append.1 h with h | h
      · exact .inr ⟨s.extract 0 (i + 0), by simp, by rw [extract_list]; simpa using h⟩
      · rcases List.mem_cons.1 h with h | h
        · exact .inl h
        · have h3 : x ∈ (s.extract (i + 1) s.size).data.toList := by
            rw [extract_list, ← size_list, List.take_length]; exact h
          rcases splitc c k _ x h3 with h4 | ⟨p, hp, hx⟩
          · exact .inl h4
          · exact .inr ⟨p, List.mem_cons_of_mem _ hp, hx⟩
theorem value_fine {x : ByteArray} (h : isValueF x = true) : FineL x.data.toList := by
  intro b hb
  rcases splitc 45 _ x b hb with rfl | ⟨p, hp, hxp⟩
  · decide
  · have hw := List.all_eq_true.1 h p hp
    unfold isWordF at hw
    rw [Bool.and_eq_true] at hw
    have := allFrom_mem hw.1 hxp
    unfold wordAt smallF numberF or32 at this
    have h1 := @Nat.left_le_or b.toNat 32
    have h2 : b.toNat < 32 → b.toNat ||| 32 < 64 := fun h => (by decide : ∀ c, c < 32 → c ||| 32 < 64) _ h
    simp at this
    omega
theorem key_fine {x : ByteArray} (h : isKeyF x = true) : FineL x.data.toList := by
  intro b hb
  obtain ⟨i, hi, he⟩ := List.mem_iff_getElem.1 hb
  rw [size_list] at hi
  unfold isKeyF at h
  rw [Bool.and_eq_true] at h
  have := allFrom_iff.1 h.1 i (Nat.zero_le _) (by omega)
  rw [nx_lt hi] at this
  have e : x[i] = b := by rw [← he]; rfl
  rw [e] at this
  unfold keyAt smallF numberF at this
  simp at this
  omega
theorem made_fine {x more : ByteArray} {m : Nat} (hm : ∀ c : Nat, c ≤ 255 → 0 ≤ ixb more c → 32 ≤ c ∧ c ≤ 126) (h : madeF x m more = true) : FineL x.data.toList := by
  intro b hb
  unfold madeF at h
  rw [Bool.and_eq_true, Bool.and_eq_true] at h
  have := allFrom_mem h.1.1 hb
  unfold madeAt letterF numberF at this
  simp at this
  have h3 := b.toNat_lt
  have h2 := hm b.toNat (by omega)
  omega
theorem place_fine {x : ByteArray} (h : placeF x = true) : FineL x.data.toList := by
  intro b hb
  unfold placeF at h
  rw [Bool.and_eq_true] at h
  rcases splitc 47 _ x b hb with rfl | ⟨p, hp, hxp⟩
  · decide
  · refine made_fine (fun c h255 hc => ?_) (List.all_eq_true.1 h.1 p hp) b hxp
    have := (ixb_iff [95, 43, 45] c h255).1 hc
    simp at this
    rcases this with h | h | h <;> (have : c = _ := h.symm; subst this; decide)
theorem nx_extract (x : ByteArray) {a b j : Nat} (hb : b ≤ x.size) (hj : a + j < b) : nx (x.extract a b) j = nx x (a + j) := by
  have h1 : j < (x.extract a b).size := by rw [ByteArray.size_extract]; omega
  rw [nx_lt h1, nx_lt (show a + j < x.size by omega)]
  congr 1
  exact ByteArray.getElem_extract ..
theorem two_digits {x : ByteArray} {n : Nat} (h : (atwo x n).2 = true) : x.size = 2 ∧ 48 ≤ nx x 0 ∧ nx x 0 ≤ 57 ∧ 48 ≤ nx x 1 ∧ nx x 1 ≤ 57 := by
  unfold atwo at h
  split at h
  · rename_i hc
    simp [numberF] at hc
    omega
  · cases h
theorem fineL_of {x : ByteArray} (h : ∀ j, j < x.size → 32 ≤ nx x j ∧ nx x j ≤ 126) : FineL x.data.toList := by
  intro b hb
  obtain ⟨i, hi, he⟩ := List.mem_iff_getElem.1 hb
  rw [size_list] at hi
  have := h i hi
  rw [nx_lt hi] at this
  have e : x[i] = b := by rw [← he]; rfl
  rwa [e] at this
theorem fixed_fine {x : ByteArray} (h : (fixedF x).isSome = true) : FineL x.data.toList := by
  unfold fixedF at h
  split at h
  · rename_i h1
    split at h
    · rename_i h2
      have a1 := two_digits h2.1
      have a2 := two_digits h2.2.1
      have hs : 6 ≤ x.size := by omega
      rw [nx_extract x (by omega) (by omega), nx_extract x (by omega) (by omega)] at a1 a2
      simp only [Nat.reduceAdd] at a1 a2
      refine fineL_of fun j hj => ?_
      by_cases c6 : x.size = 6
      · have : j = 0 ∨ j = 1 ∨ j = 2 ∨ j = 3 ∨ j = 4 ∨ j = 5 := by omega
        rcases this with rfl | rfl | rfl | rfl | rfl | rfl <;> omega
      · have h9 : x.size = 9 := by omega
        have a3 := two_digits (h2.2.2 h9)
        rw [nx_extract x (by omega) (by omega), nx_extract x (by omega) (by omega)] at a3
        simp only [Nat.reduceAdd] at a3
        have h6 := h1.2.2.2 h9
        have : j = 0 ∨ j = 1 ∨ j = 2 ∨ j = 3 ∨ j = 4 ∨ j = 5 ∨ j = 6 ∨ j = 7 ∨ j = 8 := by omega
        rcases this with rfl | rfl | rfl | rfl | rfl | rfl | rfl | rfl | rfl <;> omega
    · cases h
  · cases h
theorem name_fine {x : ByteArray} (h : nameF x = true) : FineL x.data.toList := by
  unfold nameF at h
  rw [Bool.or_eq_true] at h
  rcases h with h | h
  · exact fixed_fine h
  · exact place_fine h
theorem note_fine {x : ByteArray} {sh first : Bool} {r : ByteArray ⊕ Nt} (h : noteF x sh first = some r) : FineL x.data.toList := by
  unfold noteF at h
  split at h
  · rename_i hc
    split at h
    · rename_i hkv
      rw [Bool.and_eq_true] at hkv
      have hk := key_fine hkv.1
      have hv := value_fine hkv.2
      unfold cutIs at hc
      unfold cutK at hk
      unfold cutV at hv
      unfold Lib.cut at hc hk hv
      split at hc
      · rename_i hi
        rw [if_pos hi] at hk hv
        obtain ⟨n, hn⟩ := Int.eq_ofNat_of_zero_le hi
        have h1 : Lib.indexByte x.data.toList 61 = n := by rw [← Lib.index_one]; exact hn
        obtain ⟨hlt, he⟩ := List.getElem?_eq_some_iff.1 (Lib.indexByte_some h1).1
        rw [hn] at hk hv
        intro b hb
        have hsplit : x.data.toList = x.data.toList.take n ++ (61 :: x.data.toList.drop (n + 1)) := by
          rw [← he, List.getElem_cons_drop, List.take_append_drop]
        rw [hsplit] at hb
        rcases List.mem_append.1 hb with hb | hb
        · exact hk b (by simpa using hb)
        · rcases List.mem_cons.1 hb with rfl | hb
          · decide
          · exact hv b (by simpa using hb)
      · cases hc
    · cases h
  · split at h
    · rename_i hn
      rw [Bool.and_eq_true] at hn
      exact name_fine hn.2
    · cases h
theorem fineL_at {x : ByteArray} (h : FineL x.data.toList) {j : Nat} (hj : j < x.size) : 32 ≤ nx x j ∧ nx x j ≤ 126 := by
  rw [nx_lt hj]
  have hj' : j < x.data.toList.length := by rw [size_list]; exact hj
  exact h x[j] (List.mem_iff_getElem.2 ⟨j, hj', rfl⟩)
theorem bracket_fine {i k : Nat} {x : ByteArray} {sh : Bool} (h91 : nx s i = 91) (h : bracketF s i = some ((x, sh), k)) (hx : FineL x.data.toList) : Fine s i k := by
  unfold bracketF at h
  by_cases hc : closeAt s (i + 1 + gap (bang s (i + 1))) < 0
  · rw [if_pos hc] at h; cases h
  · rw [if_neg hc] at h
    have hlt := closeAt_lt (s := s) (i := i + 1 + gap (bang s (i + 1))) (by omega)
    obtain ⟨n, hn⟩ := Int.eq_ofNat_of_zero_le (show 0 ≤ closeAt s (i + 1 + gap (bang s (i + 1))) by omega)
    have hb : Fine s (i + 1) (i + 1 + gap (bang s (i + 1))) := by
      cases c : bang s (i + 1) with
      | false => exact Fine.refl _
      | true => exact Fine.one (by simp [bang] at c; omega)
    generalize i + 1 + gap (bang s (i + 1)) = a at *
    rw [hn] at hlt h
    simp only [Int.toNat_natCast] at hlt h
    simp at h
    obtain ⟨⟨rfl, _⟩, rfl⟩ := h
    have hclose : nx s (a + n) = 93 := by
      have h1 : Lib.indexByte (s.extract a s.size).data.toList (93 : Nat).toUInt8 = n := hn
      obtain ⟨hl, he⟩ := List.getElem?_eq_some_iff.1 (Lib.indexByte_some h1).1
      have h2 : n < (s.extract a s.size).size := by rw [← size_list]; exact hl
      have h3 := nx_lt h2
      rw [nx_extract s (Nat.le_refl _) hlt] at h3
      rw [h3]
      have : (s.extract a s.size)[n] = (93 : Nat).toUInt8 := he
      rw [this]; rfl
    refine (((Fine.one (by omega)).trans hb).trans (⟨by omega, fun j h1 h2 => ?_⟩ : Fine s a (a + n))).trans (Fine.one (by omega))
    have h4 := fineL_at hx (j := j - a) (by rw [ByteArray.size_extract]; omega)
    rw [nx_extract s (by omega) (by omega), show a + (j - a) = j from by omega] at h4
    exact h4
theorem notesF_fine : ∀ {f i : Nat} {first : Bool} {z : ByteArray} {acc : List Nt} {r : ByteArray × List Nt} {k : Nat}, notesF s f i first z acc = some (r, k) → Fine s i k
  | 0, _, _, _, _, _, _, h => by cases h
  | f + 1, i, first, z, acc, r, k, h => by
    unfold notesF at h
    by_cases c : nx s i = 91
    · rw [if_pos c] at h
      cases hb : bracketF s i with
      | none => rw [hb] at h; cases h
      | some v =>
        obtain ⟨⟨x, sh⟩, j⟩ := v
        rw [hb] at h
        simp only at h
        cases hn : noteF x sh first with
        | none => rw [hn] at h; cases h
        | some v =>
          have hf := bracket_fine c hb (note_fine hn)
          rw [hn] at h
          cases v with
          | inl zz => exact hf.trans (notesF_fine h)
          | inr n => exact hf.trans (notesF_fine h)
    · rw [if_neg c] at h
      simp at h
      rw [← h.2]; exact Fine.refl i
theorem parse_odd (h : ¬ Fine s 0 s.size) : parseF s = .error 6 := by
  unfold parseF
  cases hd : date s 0 with
  | none => rfl
  | some v =>
    obtain ⟨⟨y, m, d⟩, k⟩ := v
    simp only
    cases ht : tailF s k with
    | none => rfl
    | some v =>
      obtain ⟨⟨hh, t, kd, o⟩, i⟩ := v
      simp only
      cases hn : notesF s (s.size + 1) i true ⟨#[]⟩ [] with
      | none => rfl
      | some v =>
        obtain ⟨⟨z, l⟩, j⟩ := v
        simp only
        by_cases hj : j < s.size
        · rw [if_pos hj]
        · exfalso
          have f := ((date_fine hd).trans (tailF_fine ht)).trans (notesF_fine hn)
          have hk := (date_in hd).1
          exact h ⟨Nat.zero_le _, fun x h1 h2 => f.2 x h1 (by omega)⟩
theorem clk_odd (h : ¬ Fine s 0 s.size) : clk s = none := by
  cases hc : clk s with
  | none => rfl
  | some v => exact absurd (clk_fine hc) h
theorem isOne_fine {l : List UInt8} (hl : FineL l) {j : Nat} (h : isOne s j ⟨l.toArray⟩ = true) : 32 ≤ nx s j ∧ nx s j ≤ 126 := by
  unfold isOne at h
  rw [Bool.and_eq_true] at h
  obtain ⟨x, hx, he⟩ := (ixb_iff l (nx s j) (nx_le s j)).1 (of_decide_eq_true h.2)
  rw [← he]
  exact hl x hx
theorem ymwd_fine (j : Nat) (h : isOne s j (ymwd ++ ymwdl) = true) : 32 ≤ nx s j ∧ nx s j ≤ 126 :=
  isOne_fine (l := [89, 77, 87, 68, 121, 109, 119, 100]) (by intro x hx; simp at hx; rcases hx with rfl | rfl | rfl | rfl | rfl | rfl | rfl | rfl <;> decide) h
theorem hms_fine (j : Nat) (h : isOne s j (hms ++ hmsl) = true) : 32 ≤ nx s j ∧ nx s j ≤ 126 :=
  isOne_fine (l := [72, 77, 83, 104, 109, 115]) (by intro x hx; simp at hx; rcases hx with rfl | rfl | rfl | rfl | rfl | rfl <;> decide) h
theorem backF_fine {u : Un} {k j : Nat} {r : Int × (Nat → Int) × Bool} (h : backF s u k = some (r, j)) : Fine s k j := by
  unfold backF at h
  split at h
  · rename_i c
    split at h
    · cases h
    · rename_i v i hv
      simp at h
      rw [← h.2]
      exact (Fine.one (by omega)).trans (unitsF_fine hms_fine hv)
  · simp at h; rw [← h.2]; exact Fine.refl k
theorem span_odd (h : ¬ Fine s 0 s.size) : spanF s = .error 6 := by
  unfold spanF
  by_cases hP : nx s (sgnLen s) = 80 ∨ nx s (sgnLen s) = 112
  · rw [if_pos hP]
    have hs : Fine s 0 (sgnLen s) := by
      unfold sgnLen
      split
      · exact Fine.one (by omega)
      · exact Fine.refl 0
    have hp := hs.trans (Fine.one (s := s) (i := sgnLen s) (by omega))
    have : bodyF s (sgnLen s + 1) = .error 6 := by
      unfold bodyF
      split
      · rfl
      · rename_i u j hu
        have hj := hp.trans (unitsF_fine ymwd_fine hu)
        split
        · rfl
        · rename_i last d room i hb
          have hi := hj.trans (backF_fine hb)
          split
          · rfl
          · split
            · rfl
            · rename_i hni
              exact absurd (⟨Nat.zero_le _, fun x h1 h2 => hi.2 x h1 (by omega)⟩ : Fine s 0 s.size) h
    rw [this]
  · rw [if_neg hP]
end Go.Proofs.YtkhpdiilghncgaaGreatDoor
