/- The reader's clock. -/
import Derived.Test.YtkhpdiilghncgaaGreatDoorGb
import Derived.Handy
namespace Go.Proofs.YtkhpdiilghncgaaGreatDoor
open Go.RowKit
set_option linter.unusedVariables false

/-- What clock hands back. -/
def clockV (r : Nat × Nat × Nat × Nat × Nat) : Value × Nat := (.tuple #[.int .i64 (r.1 : Int), .int .i64 (r.2.1 : Int), .int .i64 (r.2.2.1 : Int), .int .i64 (r.2.2.2.1 : Int)], r.2.2.2.2)

set_option maxHeartbeats 1000000 in
theorem clock_any (b : Nat) (s : ByteArray) (i most : Nat) (mv : Int) (w : World) (hr : Rd w b s i) (hs : s.size ≤ 140737488351232) (hi : i ≤ s.size) (hmv : mv = most) :
    Calls Tryz.prog 48 #[.pointer (some ⟨b, 0, none⟩), .int .i64 mv] w fun e w' => Out b s w ((clock s i most).map clockV) e w' := by
  subst hmv
  have hl := lng_eq s (i + 2)
  cases hh : two s i 0 23 with
  | none =>
    have hz := Lib.hid (show clock s i most = none by simp [clock, hh])
    have H1 := Lib.hid (two_no 0 23 (lv := 0) (hv := 23) hh hr hs hi rfl rfl)
    clear hh hr
    go_enter Tryz.func48, Tryz.ntmps48
    go_wp2_with (go_at_call 81; refine H1.out.mono ?_; rintro e w1 ⟨rfl, hg⟩)
    rw [hz.out]
    exact ⟨rfl, rfl, hg⟩
  | some h =>
    have H1 := Lib.hid (two_yes 0 23 (lv := 0) (hv := 23) hh hr hs hi rfl rfl)
    have hi2 : i + 2 ≤ s.size := by have := (two_bd hh).2.2; have := num_lt (s := s) (n := 2) (i := i) (v := 0) (r := 0); omega
    cases hm1 : more s (i + 2) (lng s (i + 2)) with
    | false =>
      have hz := Lib.hid (show clock s i most = some (h, 0, 0, 1, i + 2) by simp [clock, hh, hm1])
      have P1 := Lib.hid (past_no hm1)
      clear hh hr
      go_enter Tryz.func48, Tryz.ntmps48
      go_wp2_with fail
      refine H1.out.mono ?_
      rintro e w1 ⟨rfl, s1⟩
      go_wp2_with fail
      refine (next_any b s (i + 2) w1 s1.r hs hi2).mono ?_
      rintro e w2 ⟨rfl, d2⟩
      have s2 := s1.dr d2
      clear d2
      go_wp2_with fail
      refine (more_any b s (i + 2) (lng s (i + 2)) w2 s2.r hs hi2).mono ?_
      rintro e w3 ⟨rfl, s3⟩
      rw [P1.out] at s3
      have s3 := s2.trans s3
      clear s2 s1
      go_wp2_with fail
      rw [hz.out]
      go_returns
      exact ⟨rfl, s3⟩
    | true =>
      have P1 := Lib.hid (past_yes hm1)
      have hi3 : i + 2 + gap (lng s (i + 2)) ≤ s.size := by have := more_in hm1; have := gap_le (lng s (i + 2)); omega
      cases hm : two s (i + 2 + gap (lng s (i + 2))) 0 59 with
      | none =>
        have hz := Lib.hid (show clock s i most = none by simp [clock, hh, hm1, hm])
        clear hh hr
        go_enter Tryz.func48, Tryz.ntmps48
        go_wp2_with fail
        refine H1.out.mono ?_
        rintro e w1 ⟨rfl, s1⟩
        go_wp2_with fail
        refine (next_any b s (i + 2) w1 s1.r hs hi2).mono ?_
        rintro e w2 ⟨rfl, d2⟩
        have s2 := s1.dr d2
        clear d2
        go_wp2_with fail
        refine (more_any b s (i + 2) (lng s (i + 2)) w2 s2.r hs hi2).mono ?_
        rintro e w3 ⟨rfl, s3⟩
        rw [P1.out] at s3
        have s3 := s2.trans s3
        clear s2 s1
        go_wp2_with fail
        refine (two_no 0 59 hm s3.r hs hi3 rfl rfl).mono ?_
        rintro e w4 ⟨rfl, hg⟩
        go_wp2_with fail
        rw [hz.out]
        exact ⟨rfl, rfl, grown_trans s3.g hg⟩
      | some m =>
        have hi4 : i + 2 + gap (lng s (i + 2)) + 2 ≤ s.size := by have := (two_bd hm).2.2; omega
        cases hm2 : more s (i + 2 + gap (lng s (i + 2)) + 2) (lng s (i + 2)) with
        | false =>
          have hz := Lib.hid (show clock s i most = some (h, m, 0, 2, i + 2 + gap (lng s (i + 2)) + 2) by simp [clock, hh, hm1, hm, hm2])
          have P2 := Lib.hid (past_no hm2)
          clear hh hr
          go_enter Tryz.func48, Tryz.ntmps48
          go_wp2_with fail
          refine H1.out.mono ?_
          rintro e w1 ⟨rfl, s1⟩
          go_wp2_with fail
          refine (next_any b s (i + 2) w1 s1.r hs hi2).mono ?_
          rintro e w2 ⟨rfl, d2⟩
          have s2 := s1.dr d2
          clear d2
          go_wp2_with fail
          refine (more_any b s (i + 2) (lng s (i + 2)) w2 s2.r hs hi2).mono ?_
          rintro e w3 ⟨rfl, s3⟩
          rw [P1.out] at s3
          have s3 := s2.trans s3
          clear s2 s1
          go_wp2_with fail
          refine (two_yes 0 59 hm s3.r hs hi3 rfl rfl).mono ?_
          rintro e w4 ⟨rfl, s4⟩
          have s4 := s3.trans s4
          clear s3
          go_wp2_with fail
          refine (more_any b s _ (lng s (i + 2)) w4 s4.r hs hi4).mono ?_
          rintro e w5 ⟨rfl, s5⟩
          rw [P2.out] at s5
          have s5 := s4.trans s5
          clear s4
          go_wp2_with fail
          rw [hz.out]
          go_returns
          exact ⟨rfl, s5⟩
        | true =>
          have P2 := Lib.hid (past_yes hm2)
          have hi5 : i + 2 + gap (lng s (i + 2)) + 2 + gap (lng s (i + 2)) ≤ s.size := by have := more_in hm2; have := gap_le (lng s (i + 2)); omega
          cases hx : two s (i + 2 + gap (lng s (i + 2)) + 2 + gap (lng s (i + 2))) 0 most with
          | none =>
            have hz := Lib.hid (show clock s i most = none by simp [clock, hh, hm1, hm, hm2, hx])
            clear hh hr
            go_enter Tryz.func48, Tryz.ntmps48
            go_wp2_with fail
            refine H1.out.mono ?_
            rintro e w1 ⟨rfl, s1⟩
            go_wp2_with fail
            refine (next_any b s (i + 2) w1 s1.r hs hi2).mono ?_
            rintro e w2 ⟨rfl, d2⟩
            have s2 := s1.dr d2
            clear d2
            go_wp2_with fail
            refine (more_any b s (i + 2) (lng s (i + 2)) w2 s2.r hs hi2).mono ?_
            rintro e w3 ⟨rfl, s3⟩
            rw [P1.out] at s3
            have s3 := s2.trans s3
            clear s2 s1
            go_wp2_with fail
            refine (two_yes 0 59 hm s3.r hs hi3 rfl rfl).mono ?_
            rintro e w4 ⟨rfl, s4⟩
            have s4 := s3.trans s4
            clear s3
            go_wp2_with fail
            refine (more_any b s _ (lng s (i + 2)) w4 s4.r hs hi4).mono ?_
            rintro e w5 ⟨rfl, s5⟩
            rw [P2.out] at s5
            have s5 := s4.trans s5
            clear s4
            go_wp2_with fail
            refine (two_no 0 most hx s5.r hs hi5 rfl rfl).mono ?_
            rintro e w6 ⟨rfl, hg⟩
            go_wp2_with fail
            rw [hz.out]
            exact ⟨rfl, rfl, grown_trans s5.g hg⟩
          | some x =>
            have hz := Lib.hid (show clock s i most = some (h, m, x, 3, i + 2 + gap (lng s (i + 2)) + 2 + gap (lng s (i + 2)) + 2) by simp [clock, hh, hm1, hm, hm2, hx])
            clear hh hr
            go_enter Tryz.func48, Tryz.ntmps48
            go_wp2_with fail
            refine H1.out.mono ?_
            rintro e w1 ⟨rfl, s1⟩
            go_wp2_with fail
            refine (next_any b s (i + 2) w1 s1.r hs hi2).mono ?_
            rintro e w2 ⟨rfl, d2⟩
            have s2 := s1.dr d2
            clear d2
            go_wp2_with fail
            refine (more_any b s (i + 2) (lng s (i + 2)) w2 s2.r hs hi2).mono ?_
            rintro e w3 ⟨rfl, s3⟩
            rw [P1.out] at s3
            have s3 := s2.trans s3
            clear s2 s1
            go_wp2_with fail
            refine (two_yes 0 59 hm s3.r hs hi3 rfl rfl).mono ?_
            rintro e w4 ⟨rfl, s4⟩
            have s4 := s3.trans s4
            clear s3
            go_wp2_with fail
            refine (more_any b s _ (lng s (i + 2)) w4 s4.r hs hi4).mono ?_
            rintro e w5 ⟨rfl, s5⟩
            rw [P2.out] at s5
            have s5 := s4.trans s5
            clear s4
            go_wp2_with fail
            refine (two_yes 0 most hx s5.r hs hi5 rfl rfl).mono ?_
            rintro e w6 ⟨rfl, s6⟩
            have s6 := s5.trans s6
            go_wp2_with fail
            rw [hz.out]
            go_returns
            exact ⟨rfl, s6⟩

theorem clock_yes {b : Nat} {s : ByteArray} {i : Nat} (most : Nat) {mv : Int} {h m x n k : Nat} {w : World} (hc : clock s i most = some (h, m, x, n, k)) (hr : Rd w b s i) (hs : s.size ≤ 140737488351232) (hi : i ≤ s.size) (hmv : mv = most) :
    Calls Tryz.prog 48 #[.pointer (some ⟨b, 0, none⟩), .int .i64 mv] w fun e w' => e = .returned (.tuple #[.int .i64 (h : Int), .int .i64 (m : Int), .int .i64 (x : Int), .int .i64 (n : Int)]) ∧ St b s w k w' := by
  have c := clock_any b s i most mv w hr hs hi hmv
  rw [hc] at c
  exact c
theorem clock_no {b : Nat} {s : ByteArray} {i : Nat} (most : Nat) {mv : Int} {w : World} (hc : clock s i most = none) (hr : Rd w b s i) (hs : s.size ≤ 140737488351232) (hi : i ≤ s.size) (hmv : mv = most) :
    Calls Tryz.prog 48 #[.pointer (some ⟨b, 0, none⟩), .int .i64 mv] w fun e w' => e = .panicked eform ∧ w.grownBy w' (some b) := by
  have c := clock_any b s i most mv w hr hs hi hmv
  rw [hc] at c
  exact c

end Go.Proofs.YtkhpdiilghncgaaGreatDoor
