/- GrammarLetters: what a span is; plain. -/
import Derived.Test.YtkhpdiilghncgaaGreatDoorPl
import Derived.Test.YtkhpdiilghncgaaGreatDoorNb
import Derived.Test.YtkhpdiilghncgaaGreatDoorSd
namespace Go.Proofs.YtkhpdiilghncgaaGreatDoor
set_option linter.unusedVariables false

theorem overD_bd {d : Nat → Int} {u : Nat} {n : Int} (hd : ∀ k, 0 ≤ d k ∧ d k ≤ 9223372036854775807) (h0 : 0 ≤ n) (h1 : n < 9223372036854775808) : ∀ k, 0 ≤ overD d u n k ∧ overD d u n k ≤ 9223372036854775807 := by
  intro k
  have h2 := layL_nn h0
  have h3 := layL_64 h0 h1
  unfold overD
  split
  · exact ⟨h2 7, (h3 7).2⟩
  · split
    · exact ⟨h2 6, (h3 6).2⟩
    · split
      · exact ⟨h2 5, (h3 5).2⟩
      · exact hd k
theorem backF_bd {s : ByteArray} {u : Un} {j i : Nat} {last : Int} {d : Nat → Int} {room : Bool} (hI : UInv ymwd u) (hj : j ≤ s.size) (h : backF s u j = some ((last, d, room), i)) : ∀ k, 0 ≤ d k ∧ d k ≤ 9223372036854775807 := by
  unfold backF at h
  split at h
  · rename_i hT
    have := nx_in (s := s) (i := j) (by omega)
    split at h
    · cases h
    · rename_i v i2 hv
      have h2 := unitsF_inv (ls := hms) (by decide) hv ⟨hI.d0, hI.d1, by simp, by show (-1 : Int) < ((hms.size : Nat) : Int); decide, by simp, by simp⟩ (by omega)
      simp at h
      obtain ⟨⟨_, hd, _⟩, _⟩ := h
      have hb : ∀ k, 0 ≤ v.d k ∧ v.d k ≤ 9223372036854775807 := fun k => ⟨h2.1.d0 k, h2.1.d1 k⟩
      rw [← hd]
      split
      · rename_i c
        have hp := h2.1.p1
        have hu : 0 ≤ unitN v.had.toNat ∧ unitN v.had.toNat ≤ 3600 := by unfold unitN; split <;> (try split) <;> omega
        refine overD_bd hb (Int.mul_nonneg (by omega) hu.1) ?_
        have := Int.mul_le_mul (show v.part ≤ 1000000000 by omega) hu.2 hu.1 (by omega)
        omega
      · exact hb
  · simp at h
    obtain ⟨⟨_, hd, _⟩, _⟩ := h
    rw [← hd]
    exact fun k => ⟨hI.d0 k, hI.d1 k⟩
theorem bodyF_ok {s : ByteArray} {k : Nat} {d : Nat → Int} (hk : k ≤ s.size) (h : bodyF s k = .ok d) : (∀ j, 0 ≤ d j ∧ d j ≤ 9223372036854775807) ∧ rightN d = true := by
  unfold bodyF at h
  split at h
  · cases h
  · rename_i u j hu
    obtain ⟨hI, hj⟩ := unitsF_inv (ls := ymwd) (by decide) hu ⟨fun _ => by simp, fun _ => by simp, by simp, by decide, by simp, by simp⟩ hk
    split at h
    · cases h
    · rename_i last d' room i hb
      have := backF_bd hI hj hb
      split at h
      · cases h
      · split at h
        · cases h
        · split at h
          · rename_i hr
            simp at h
            rw [← h]
            rw [Bool.and_eq_true] at hr
            exact ⟨this, hr.2⟩
          · cases h
theorem spanF_ok {s : ByteArray} {d : Nat → Int} (h : spanF s = .ok d) (hn : nx s 0 ≠ 45) : (∀ j, 0 ≤ d j ∧ d j ≤ 9223372036854775807) ∧ rightN d = true := by
  unfold spanF at h
  split at h
  · rename_i hP
    have := nx_in (s := s) (i := sgnLen s) (by omega)
    split at h
    · cases h
    · rename_i d' hb
      simp [hn] at h
      rw [← h]
      exact bodyF_ok (by omega) hb
  · cases h
/-- All that Letters needs of a text without a sign: its span, and those behind a sign. -/
theorem letters_form {s : ByteArray} (hs : nx s 0 ≠ 43 ∧ nx s 0 ≠ 45) : ∃ (dd : Nat → Int) (n : Int), durV (spanF s) = .tuple #[.agg (dcells dd), .int .i64 n] ∧ durV (spanF (⟨#[45]⟩ ++ s)) = .tuple #[.agg (dcells fun k => -dd k), .int .i64 n] ∧
    durV (spanF (⟨#[43]⟩ ++ s)) = .tuple #[.agg (dcells dd), .int .i64 n] ∧ D64 dd ∧ (∀ k, -9223372036854775808 < dd k) ∧ rightD dd = true := by
  have sh : ∀ c : UInt8, Sh s (⟨#[c]⟩ ++ s) := fun c => ⟨by rw [app_size, Nat.add_comm]; rfl, fun i => by
    rw [nx_app_ge (by show 1 ≤ _; omega)]; congr 1⟩
  have z : ∀ c : UInt8, nx (⟨#[c]⟩ ++ s) 0 = c.toNat := fun c => by rw [nx_app_lt (by show 0 < 1; omega)]; rfl
  have h1 := (sh 45).span hs (.inr (z 45))
  have h2 := (sh 43).span hs (.inl (z 43))
  rw [z 45] at h1
  rw [z 43] at h2
  cases hX : spanF s with
  | error n =>
    rw [hX] at h1 h2
    refine ⟨fun _ => 0, n, rfl, by rw [h1]; rfl, by rw [h2]; rfl, fun k => ⟨by simp, by simp⟩, fun k => by simp, by decide +kernel⟩
  | ok d =>
    rw [hX] at h1 h2
    obtain ⟨hb, hr⟩ := spanF_ok hX hs.2
    refine ⟨d, 0, rfl, by rw [h1]; rfl, by rw [h2]; rfl, fun k => ⟨by have := hb k; omega, (hb k).2⟩, fun k => by have := hb k; omega, by rw [rightD_nn fun k => (hb k).1]; exact hr⟩
/-- The first bytes, in great letters. -/
structure Gt (s x : ByteArray) (k : Nat) : Prop where
  size : x.size = k
  at_ : ∀ j, j < k → nx x j = gr (nx s j)
theorem Gt.zero (s : ByteArray) : Gt s ⟨#[]⟩ 0 := ⟨rfl, fun j hj => by omega⟩
theorem Gt.step {s x : ByteArray} {k o : Nat} (h : Gt s x k) (ho : o ≤ 255) (he : gr (nx s k) = o) : Gt s (x ++ ⟨#[UInt8.ofNat o]⟩) (k + 1) where
  size := by rw [app_size, h.size]; rfl
  at_ j hj := by
    by_cases e : j < k
    · rw [nx_app_lt (by rw [h.size]; exact e)]; exact h.at_ j e
    · rw [show j = k from by omega, nx_app_ge (by rw [h.size]; exact Nat.le_refl _), h.size, Nat.sub_self, nx_one, he]; simp; omega
theorem Gt.full {s x : ByteArray} (h : Gt s x s.size) : Gr s x := ⟨h.size.symm, fun i => by
  by_cases c : i < s.size
  · exact h.at_ i c
  · rw [nx_end (by rw [h.size]; exact c), nx_end c]; rfl⟩
theorem gr_le {c : Nat} (h : c ≤ 255) : gr c ≤ 255 := by unfold gr; split <;> omega

end Go.Proofs.YtkhpdiilghncgaaGreatDoor
