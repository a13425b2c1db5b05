/- GrammarSame's texts: plain. -/
import Derived.Test.YtkhpdiilghncgaaGreatDoorNb
namespace Go.Proofs.YtkhpdiilghncgaaGreatDoor
set_option linter.unusedVariables false

/-- No bracket stands ahead of a place. -/
def NoBr (s : ByteArray) (k : Nat) : Prop := ∀ j, j < k → nx s j ≠ 91
theorem NoBr.step {s : ByteArray} {k : Nat} (h : NoBr s k) (hk : nx s k ≠ 91) : NoBr s (k + 1) := fun j hj => by
  by_cases e : j = k
  · rw [e]; exact hk
  · exact h j (by omega)
theorem NoBr.zero (s : ByteArray) : NoBr s 0 := fun j hj => by omega
/-- The text of a day, a byte, a time. -/
def txt (d : ByteArray) (c : UInt8) (t : ByteArray) : ByteArray := d ++ ⟨#[c]⟩ ++ t
theorem txt_size (d : ByteArray) (c : UInt8) (t : ByteArray) : (txt d c t).size = d.size + 1 + t.size := by unfold txt; rw [app_size, app_size]; rfl
theorem txt_lo {d : ByteArray} {c : UInt8} {t : ByteArray} {i : Nat} (h : i < d.size) : nx (txt d c t) i = nx d i := by
  unfold txt; rw [nx_app_lt (by rw [app_size]; omega), nx_app_lt h]
theorem txt_at (d : ByteArray) (c : UInt8) (t : ByteArray) : nx (txt d c t) d.size = c.toNat := by
  unfold txt; rw [nx_app_lt (by rw [app_size]; show _ < _ + 1; omega), nx_app_ge (Nat.le_refl _), Nat.sub_self, nx_one]
theorem txt_hi {d : ByteArray} {c : UInt8} {t : ByteArray} {i : Nat} (h : d.size + 1 ≤ i) : nx (txt d c t) i = nx t (i - (d.size + 1)) := by
  unfold txt; rw [nx_app_ge (by rw [app_size]; exact h), app_size]; rfl
theorem same_sep {d t : ByteArray} {a b : UInt8} (hd : NoBr d d.size) (ha : isSep a.toNat) (hb : isSep b.toNat) : Sm (txt d a t) (txt d b t) (d.size + 1) where
  size := by rw [txt_size, txt_size]
  lo i hi := by
    by_cases c : i < d.size
    · rw [txt_lo c, txt_lo c]; exact ⟨hd i c, .inl rfl⟩
    · rw [show i = d.size from by omega, txt_at, txt_at]
      exact ⟨by unfold isSep at ha; omega, .inr (.inl ⟨ha, hb⟩)⟩
  hi i hi := by rw [txt_hi hi, txt_hi hi]
/-- A dot for a comma, and the other way. -/
def swp (c : Nat) : Nat := if c = 46 then 44 else if c = 44 then 46 else c
/-- The first bytes, turned. -/
structure Dt (t d : ByteArray) (k : Nat) : Prop where
  size : d.size = k
  at_ : ∀ j, j < k → nx t j ≠ 91 ∧ nx d j = swp (nx t j)
/-- All bytes, turned up to the first bracket. -/
def Df (t d : ByteArray) : Prop := d.size = t.size ∧ ∃ q, q ≤ t.size ∧ (∀ j, j < q → nx t j ≠ 91 ∧ nx d j = swp (nx t j)) ∧ ∀ j, q ≤ j → nx d j = nx t j
theorem Dt.zero (t : ByteArray) : Dt t ⟨#[]⟩ 0 := ⟨rfl, fun j hj => by omega⟩
theorem Dt.step {t d : ByteArray} {k : Nat} (h : Dt t d k) {c : UInt8} (h1 : nx t k ≠ 91) (hc : c.toNat = swp (nx t k)) : Dt t (d ++ ⟨#[c]⟩) (k + 1) where
  size := by rw [app_size, h.size]; rfl
  at_ j hj := by
    by_cases e : j < k
    · rw [nx_app_lt (by rw [h.size]; exact e)]; exact h.at_ j e
    · rw [show j = k from by omega, nx_app_ge (by rw [h.size]; exact Nat.le_refl _), h.size, Nat.sub_self, nx_one]; exact ⟨h1, hc⟩
theorem extract_one {t : ByteArray} {k : Nat} (h : k < t.size) : t.extract k (k + 1) = ⟨#[t[k]]⟩ := by
  refine bytes_eq (by rw [ByteArray.size_extract]; show _ = 1; omega) fun i hi => ?_
  rw [ByteArray.size_extract] at hi
  have e : i = 0 := by omega
  subst e
  rw [nx_extract t (by omega) (by omega), nx_one, Nat.add_zero, nx_lt h]
theorem Dt.same {t d : ByteArray} {k : Nat} (h : Dt t d k) (hk : k < t.size) (h1 : nx t k ≠ 91) (h2 : nx t k ≠ 46) (h3 : nx t k ≠ 44) : Dt t (d ++ t.extract k (k + 1)) (k + 1) := by
  rw [extract_one hk]
  exact h.step h1 (by unfold swp; rw [if_neg h2, if_neg h3, nx_lt hk])
theorem Dt.full {t d : ByteArray} {k : Nat} (h : Dt t d k) (hk : k = t.size) : Df t d :=
  ⟨by rw [h.size, hk], k, by omega, h.at_, fun j hj => by rw [nx_end (by rw [h.size]; omega), nx_end (by omega)]⟩
theorem Dt.rest {t d : ByteArray} {k : Nat} (h : Dt t d k) (hk : k ≤ t.size) : Df t (d ++ t.extract k t.size) := by
  refine ⟨by rw [app_size, h.size, ByteArray.size_extract]; omega, k, hk, fun j hj => ?_, fun j hj => ?_⟩
  · rw [nx_app_lt (by rw [h.size]; exact hj)]; exact h.at_ j hj
  · rw [nx_app_ge (by rw [h.size]; exact hj), h.size]
    by_cases c : j < t.size
    · rw [nx_extract t (Nat.le_refl _) (by omega), show k + (j - k) = j from by omega]
    · rw [nx_end (by rw [ByteArray.size_extract]; omega), nx_end c]
theorem same_dots {d t x : ByteArray} (hd : NoBr d d.size) (h : Df t x) : Sm (txt d 84 t) (txt d 84 x) (d.size + 1 + t.size) ∨ ∃ p, Sm (txt d 84 t) (txt d 84 x) p := by
  obtain ⟨hs, q, hq, h1, h2⟩ := h
  refine .inr ⟨d.size + 1 + q, ?_, fun i hi => ?_, fun i hi => ?_⟩
  · rw [txt_size, txt_size, hs]
  · by_cases c : i < d.size
    · rw [txt_lo c, txt_lo c]; exact ⟨hd i c, .inl rfl⟩
    · by_cases e : i = d.size
      · rw [e, txt_at, txt_at]; exact ⟨by decide, .inl rfl⟩
      · rw [txt_hi (by omega), txt_hi (by omega)]
        have := h1 (i - (d.size + 1)) (by omega)
        refine ⟨this.1, ?_⟩
        rw [this.2]
        unfold swp isSep isDot
        split
        · rename_i h; right; right; omega
        · split
          · rename_i h; right; right; omega
          · left; rfl
  · rw [txt_hi (by omega), txt_hi (by omega), h2 _ (by omega)]
theorem same_parse {d t : ByteArray} {a b : UInt8} (hd : NoBr d d.size) (ha : isSep a.toNat) (hb : isSep b.toNat) : parseF (txt d a t) = parseF (txt d b t) := (same_sep hd ha hb).parse
theorem dots_parse {d t x : ByteArray} (hd : NoBr d d.size) (h : Df t x) : parseF (txt d 84 x) = parseF (txt d 84 t) := by
  rcases same_dots hd h with h | ⟨p, h⟩
  · exact h.parse.symm
  · exact h.parse.symm
/-- What Parse hands back, whatever it is. -/
theorem parV_form (X : Except Int Pt) : ∃ (y mo d : Int) (ht : Bool) (h mi x f kd o : Int) (z : ByteArray) (n : Int), parV X = .tuple #[.agg #[.int .i64 y, .int .i64 mo, .int .i64 d, .bool ht, .int .i64 h, .int .i64 mi, .int .i64 x, .int .i64 f, .int .i64 kd, .int .i64 o, .string z], .int .i64 n] := by
  cases X with
  | error n => exact ⟨_, _, _, _, _, _, _, _, _, _, _, n, rfl⟩
  | ok p => exact ⟨_, _, _, _, _, _, _, _, _, _, _, 0, rfl⟩
end Go.Proofs.YtkhpdiilghncgaaGreatDoor
