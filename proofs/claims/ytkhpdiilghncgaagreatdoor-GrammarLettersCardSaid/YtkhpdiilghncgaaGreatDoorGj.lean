/- The reader's bracket. -/
import Derived.Test.YtkhpdiilghncgaaGreatDoorGg
import Derived.Test.YtkhpdiilghncgaaGreatDoorGi
namespace Go.Proofs.YtkhpdiilghncgaaGreatDoor
open Go.RowKit
set_option linter.unusedVariables false

/-- A !, if one is there. -/
def bv (s : ByteArray) (i : Nat) : Nat := if nx s i = 33 then 33 else 0
theorem bv_eq (s : ByteArray) (i : Nat) : decide (0 < bv s i) = bang s i := by
  unfold bv bang; by_cases c : nx s i = 33 <;> simp [c]
theorem one_bang {b : Nat} (s : ByteArray) (i : Nat) (w : World) (hr : Rd w b s i) (hs : s.size ≤ 140737488351232) (hi : i ≤ s.size) :
    Calls Tryz.prog 17 #[.pointer (some ⟨b, 0, none⟩), .string ⟨#[33]⟩] w fun e w' => e = .returned (.int .u8 (bv s i)) ∧ St b s w (i + gap (bang s i)) w' := by
  cases hc : isOne s i ⟨#[33]⟩ with
  | true =>
    have hc' := hc
    rw [isOne_1 s i 33 (by decide)] at hc
    simp at hc
    have h1 : bv s i = nx s i := by simp [bv, hc]
    have h2 : bang s i = true := by simp [bang, hc]
    rw [h1, h2]
    exact one_yes b s _ i w hr hs hc'
  | false =>
    have hc' := hc
    rw [isOne_1 s i 33 (by decide)] at hc
    simp at hc
    have h1 : bv s i = 0 := by simp [bv, hc]
    have h2 : bang s i = false := by simp [bang, hc]
    rw [h1, h2]
    exact (one_no b s _ i w hr hs hi hc').mono fun e w' ⟨h1, h2⟩ => ⟨h1, (St.refl hr).dr h2⟩

theorem close_any (s : ByteArray) (j : Nat) (w : World) :
    Calls Tryz.prog 29 #[.string (s.extract j s.size), .int .u8 93] w fun e w' => e = .returned (.int .i64 (closeAt s j)) ∧ w' = w :=
  Tryz.strings_IndexByte (s.extract j s.size) 93 w
set_option maxHeartbeats 1000000 in
theorem bracket_no {b : Nat} {s : ByteArray} {i : Nat} {w : World} (hx : closeAt s (i + 1 + gap (bang s (i + 1))) < 0) (hr : Rd w b s i) (hs : s.size ≤ 140737488351232) (hi : i < s.size) :
    Calls Tryz.prog 82 #[.pointer (some ⟨b, 0, none⟩)] w fun e w' => e = .panicked eform ∧ w.grownBy w' (some b) := by
  have h0 := hr.c0
  have h1 := hr.c1
  have f1 := hr.f1
  have HR := Lib.hid hr
  have hbv := bv_eq s (i + 1)
  have hin : i + 1 + gap (bang s (i + 1)) ≤ s.size := by
    cases c : bang s (i + 1) with
    | false => simp [gap]; omega
    | true => have := nx_in (s := s) (i := i + 1) (by simp [bang] at c; omega); simp [gap]; omega
  clear hr
  go_enter Tryz.func82, Tryz.ntmps82
  go_wp2_with fail
  refine (one_bang s (i + 1) _ ((HR.out.setI (i + 1) _ (by simp))) hs (by omega)).mono ?_
  rintro e w1 ⟨rfl, s1⟩
  have S1 : St b s w (i + 1 + gap (bang s (i + 1))) w1 := ⟨grown_trans (grown_set (grown_refl _ _) _ _) s1.g, s1.r⟩
  have q0 := S1.r.c0
  have q1 := S1.r.c1
  have q2 := S1.r.f1
  clear h0 h1 f1 s1
  generalize hj : i + 1 + gap (bang s (i + 1)) = j at *
  have HJ := Lib.hid hj
  clear hj
  have hxn : decide (closeAt s j < 0) = true := by simpa using hx
  have hji : (j : Int) ≤ s.size := by omega
  go_wp2_with fail
  go_quiet ((go_at_call 29; exact Calls.quiet_of_same (close_any _ _ _)))
  go_wp2_with (go_at_call 23; refine (wrong_any _ _).mono ?_; rintro e w2 ⟨rfl, hw⟩; rw [hw]; clear hw)
  exact ⟨rfl, rfl, (S1.drewN _).g⟩

set_option maxHeartbeats 1000000 in
theorem bracket_yes {b : Nat} {s : ByteArray} {i k : Nat} {x : ByteArray} {sh : Bool} {w : World} (hx : bracketF s i = some ((x, sh), k)) (hr : Rd w b s i) (hs : s.size ≤ 140737488351232) (hi : i < s.size) :
    Calls Tryz.prog 82 #[.pointer (some ⟨b, 0, none⟩)] w fun e w' => e = .returned (.tuple #[.string x, .bool sh]) ∧ St b s w k w' := by
  have hx0 : 0 ≤ closeAt s (i + 1 + gap (bang s (i + 1))) := by
    rcases Int.lt_or_le (closeAt s (i + 1 + gap (bang s (i + 1)))) 0 with h | h
    · simp [bracketF, h] at hx
    · exact h
  have hlt := closeAt_lt hx0
  obtain ⟨n, hn⟩ := Int.eq_ofNat_of_zero_le hx0
  have hE : s.extract (i + 1 + gap (bang s (i + 1))) (i + 1 + gap (bang s (i + 1)) + n) = x ∧ bang s (i + 1) = sh ∧ i + 1 + gap (bang s (i + 1)) + n + 1 = k := by
    simp [bracketF, hn, and_assoc] at hx
    exact hx
  rw [hn] at hlt
  simp only [Int.toNat_natCast] at hlt
  have HN := Lib.hid hn
  clear hx hx0 hn
  have h0 := hr.c0
  have h1 := hr.c1
  have f1 := hr.f1
  have HR := Lib.hid hr
  have hbv := bv_eq s (i + 1)
  have hin : i + 1 + gap (bang s (i + 1)) ≤ s.size := by
    cases c : bang s (i + 1) with
    | false => simp [gap]; omega
    | true => have := nx_in (s := s) (i := i + 1) (by simp [bang] at c; omega); simp [gap]; omega
  clear hr
  go_enter Tryz.func82, Tryz.ntmps82
  go_wp2_with fail
  refine (one_bang s (i + 1) _ ((HR.out.setI (i + 1) _ (by simp))) hs (by omega)).mono ?_
  rintro e w1 ⟨rfl, s1⟩
  have S1 : St b s w (i + 1 + gap (bang s (i + 1))) w1 := ⟨grown_trans (grown_set (grown_refl _ _) _ _) s1.g, s1.r⟩
  have q0 := S1.r.c0
  have q1 := S1.r.c1
  have q2 := S1.r.f1
  clear h0 h1 f1 s1
  generalize hj : i + 1 + gap (bang s (i + 1)) = j at *
  have HJ := Lib.hid hj
  clear hj
  have HE := Lib.hid hE
  clear hE
  have HC := Lib.hid (fun w => close_any s j w)
  rw [HN.out] at HC
  have hji : (j : Int) ≤ s.size := by omega
  have hjn : (j : Int) + n ≤ s.size := by omega
  go_wp2_with fail
  go_quiet ((go_at_call 29; exact Calls.quiet_of_same (HC.out _)))
  go_wp2_with fail
  go_quiet (fail)
  go_wp2_with fail
  go_ret2
  exact ⟨by rw [← HE.out.1, ← HE.out.2.1]; rfl, by rw [← HE.out.2.2]; exact (S1.drewN _).setI (j + n + 1) _ (by omega)⟩

end Go.Proofs.YtkhpdiilghncgaaGreatDoor
