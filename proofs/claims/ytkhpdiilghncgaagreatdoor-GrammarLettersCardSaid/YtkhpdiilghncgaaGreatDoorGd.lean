/- The reader's part, time, whole. -/
import Derived.Test.YtkhpdiilghncgaaGreatDoorGc
namespace Go.Proofs.YtkhpdiilghncgaaGreatDoor
open Go.RowKit
set_option linter.unusedVariables false

/-- What part hands back. -/
def partN (v : Option Nat) : Int := match v with | some v => (v : Int) | none => -1
def partV (r : Option Nat × Nat) : Value × Nat := (.int .i64 (partN r.1), r.2)

theorem pow_split {k j : Nat} (h : k ≤ j) (hj : j < 9) (x : Nat) (hx : x < 10 ^ k) : x * 10 ^ (j - k) ≤ 100000000 := by
  have h1 : x * 10 ^ (j - k) ≤ 10 ^ k * 10 ^ (j - k) := Nat.mul_le_mul_right _ (by omega)
  rw [← Nat.pow_add, show k + (j - k) = j from by omega] at h1
  have := pow_le_8 (k := j) (by omega)
  omega


set_option maxHeartbeats 1000000 in
theorem part_any (b : Nat) (s : ByteArray) (i : Nat) (w : World) (hr : Rd w b s i) (hs : s.size ≤ 140737488351232) (hi : i ≤ s.size) :
    Calls Tryz.prog 27 #[.pointer (some ⟨b, 0, none⟩)] w fun e w' => Out b s w ((part s i).map partV) e w' := by
  cases hc : isOne s i ⟨#[46, 44]⟩ with
  | false =>
    have hz := Lib.hid (show part s i = some (none, i) by rw [isOne_2 s i 46 44 (by decide) (by decide)] at hc; simp at hc; simp [part, hc])
    have H1 := Lib.hid (one_no b s _ i w hr hs hi hc)
    have HR := Lib.hid hr
    clear hc hr
    go_enter Tryz.func27, Tryz.ntmps27
    go_wp2_with (go_at_call 17; refine H1.out.mono ?_; rintro e w1 ⟨rfl, hd⟩)
    rw [hz.out]
    go_returns
    exact ⟨rfl, (St.refl HR.out).dr hd⟩
  | true =>
    have hz1 := Lib.hid (show nx s i = 46 ∨ nx s i = 44 by rw [isOne_2 s i 46 44 (by decide) (by decide)] at hc; simpa using hc)
    have H1 := Lib.hid (one_yes b s _ i w hr hs hc)
    have hi1 : i + 1 ≤ s.size := by have := nx_in (s := s) (i := i) (by have := hz1.out; omega); omega
    have hp : ((nx s i : Int) == 0) = false := by have := hz1.out; simp; omega
    clear hc hr
    go_enter Tryz.func27, Tryz.ntmps27
    go_wp2_with (go_at_call 17; refine H1.out.mono ?_; rintro e w1 ⟨rfl, s1⟩)
    go_loopw [3, 4] (fun v c wr => ∃ k x : Nat, k ≤ 9 ∧ c = .int .i64 k ∧ v = .int .i64 x ∧ x < 10 ^ k ∧ St b s w (i + 1 + k) wr ∧ i + 1 + k ≤ s.size ∧ num s k (i + 1) 0 = some x ∧ cnt s 10 (i + 1) = cnt s (10 - k) (i + 1 + k) + k) (fun _ c _ => 9 - (intOf c).toNat)
    case atStart => exact ⟨0, 0, by omega, rfl, rfl, by simp, by simpa using s1, by omega, rfl, rfl⟩
    case round =>
      obtain ⟨k, x, hk, rfl, rfl, hx, hst, hsz, hnum, hcnt⟩ := hrel
      have HX := Lib.hid hx
      have HN := Lib.hid hnum
      have HC := Lib.hid hcnt
      clear hx hnum hcnt s1
      cases hdg : dg s (i + 1 + k) with
      | true =>
        have HB := Lib.hid (dg_bd hdg)
        by_cases hk9 : k < 9
        · have H2 := Lib.hid (num_snoc HN.out hdg)
          have hx8 : (x : Int) ≤ 100000000 := by have := pow_le_8 (k := k) (by omega); have := HX.out; omega
          have hz2 := Lib.hid (show num s 1 (i + 1 + k) 0 = some (nx s (i + 1 + k) - 48) by rw [num_step hdg]; simp [num])
          have hb1 : ((nx s (i + 1 + k) - 48 : Nat) : Int) ≤ 9 := by have := HB.out; omega
          go_wp2_with (go_at_call 26; refine (digit_any b s _ _ hst.r hs hsz).mono ?_; rintro e w2 ⟨rfl, d2⟩)
          have s2 := hst.dr d2
          clear d2
          refine (digits_yes 1 hz2.out s2.r hs hsz (by omega) rfl).mono ?_
          rintro e w3 ⟨rfl, s3⟩
          have s3 := s2.trans s3
          generalize hvv : nx s (i + 1 + k) - 48 = vv at *
          have HV := Lib.hid hvv
          clear hvv
          go_wp2_with fail
          go_roundw
          case rel =>
            refine ⟨k + 1, x * 10 + vv, by omega, by go_num, by go_num, ?_, by simpa [Nat.add_assoc] using s3, ?_, H2.out, ?_⟩
            · have := HX.out; rw [Nat.pow_succ]; omega
            · have := dg_in hdg; omega
            · rw [HC.out, show 10 - k = (10 - (k + 1)) + 1 from by omega, cnt_yes hdg, show i + 1 + (k + 1) = i + 1 + k + 1 from by omega]; omega
          case measure => simp [intOf]; omega
        · have hz := Lib.hid (show part s i = none by
            have h1 : cnt s 10 (i + 1) = 10 := by rw [HC.out, show 10 - k = 0 + 1 from by omega, cnt_yes hdg]; simp [cnt]; omega
            simp [part, hz1.out, h1])
          have hk0 : ((k : Int) == 0) = false := by simp; omega
          go_wp2_with (first | (go_at_call 26; refine (digit_any b s _ _ hst.r hs hsz).mono ?_; rintro e w2 ⟨rfl, d2⟩))
          have s2 := hst.dr d2
          refine (digit_any b s _ _ s2.r hs hsz).mono ?_
          rintro e w3 ⟨rfl, d3⟩
          have s3 := s2.dr d3
          go_wp2_with (go_at_call 23; refine (wrong_any _ _).mono ?_; rintro e w4 ⟨rfl, hw⟩; rw [hw]; clear hw)
          rw [hz.out]
          exact ⟨rfl, rfl, s3.g⟩
      | false =>
        by_cases hk00 : k = 0
        · subst hk00
          have hz := Lib.hid (show part s i = none by
            have h1 : cnt s 10 (i + 1) = 0 := by rw [HC.out, cnt_no hdg]
            simp [part, hz1.out, h1])
          go_wp2_with (first | (go_at_call 26; refine (digit_any b s _ _ hst.r hs hsz).mono ?_; rintro e w2 ⟨rfl, d2⟩) | (go_at_call 23; refine (wrong_any _ _).mono ?_; rintro e w4 ⟨rfl, hw⟩; rw [hw]; clear hw))
          rw [hz.out]
          exact ⟨rfl, rfl, (hst.dr d2).g⟩
        · have hz := Lib.hid (show part s i = some (some (x * 10 ^ (9 - k)), i + 1 + k) by
            have h1 : cnt s 10 (i + 1) = k := by rw [HC.out, cnt_no hdg]; omega
            simp only [part, hz1.out, if_true, h1, HN.out]
            rw [if_neg (by omega)])
          have hk0 : ((k : Int) == 0) = false := by simp; omega
          go_wp2_with (first | (go_at_call 26; refine (digit_any b s _ _ hst.r hs hsz).mono ?_; rintro e w2 ⟨rfl, d2⟩))
          have s2 := hst.dr d2
          clear d2
          refine (digit_any b s _ _ s2.r hs hsz).mono ?_
          rintro e w3 ⟨rfl, d3⟩
          have s3 := Lib.hid (s2.dr d3)
          clear d3 s2 hst
          go_wp2_with fail
          go_loopw [3, 4] (fun v c wx => ∃ j y : Nat, k ≤ j ∧ j ≤ 9 ∧ c = .int .i64 j ∧ v = .int .i64 y ∧ y = x * 10 ^ (j - k) ∧ wx = w3) (fun _ c _ => 9 - (intOf c).toNat)
          case atStart => exact ⟨k, x, by omega, by omega, rfl, rfl, by simp, rfl⟩
          case round =>
            obtain ⟨j, y, hj1, hj2, rfl, rfl, hy, rfl⟩ := hrel
            have HY := Lib.hid hy
            clear hy
            by_cases hj9 : j < 9
            · have hyb : (y : Int) ≤ 100000000 := by have := pow_split hj1 hj9 x HX.out; rw [HY.out]; omega
              go_wp2_with fail
              go_roundw
              case rel => exact ⟨j + 1, y * 10, by omega, by omega, by go_num, by go_num, by rw [HY.out, Nat.mul_assoc, ← Nat.pow_succ, show j + 1 - k = (j - k) + 1 from by omega], by trivial⟩
              case measure => simp [intOf]; omega
            · go_wp2_with fail
              go_returns
              rw [hz.out]
              have : y = x * 10 ^ (9 - k) := by rw [HY.out, show j = 9 from by omega]
              exact ⟨by rw [← this]; rfl, s3.out⟩

theorem part_yes {b : Nat} {s : ByteArray} {i : Nat} {v : Option Nat} {k : Nat} {w : World} (hc : part s i = some (v, k)) (hr : Rd w b s i) (hs : s.size ≤ 140737488351232) (hi : i ≤ s.size) :
    Calls Tryz.prog 27 #[.pointer (some ⟨b, 0, none⟩)] w fun e w' => e = .returned (.int .i64 (partN v)) ∧ St b s w k w' := by
  have c := part_any b s i w hr hs hi
  rw [hc] at c
  exact c
theorem part_no {b : Nat} {s : ByteArray} {i : Nat} {w : World} (hc : part s i = none) (hr : Rd w b s i) (hs : s.size ≤ 140737488351232) (hi : i ≤ s.size) :
    Calls Tryz.prog 27 #[.pointer (some ⟨b, 0, none⟩)] w fun e w' => e = .panicked eform ∧ w.grownBy w' (some b) := by
  have c := part_any b s i w hr hs hi
  rw [hc] at c
  exact c

set_option maxHeartbeats 400000 in
theorem whole_yes {b : Nat} {s : ByteArray} {i : Nat} {w : World} (hr : Rd w b s i) (hs : s.size ≤ 140737488351232) (hi : i = s.size) :
    Calls Tryz.prog 19 #[.pointer (some ⟨b, 0, none⟩)] w fun e w' => e = .returned (.tuple #[]) ∧ St b s w i w' := by
  have h0 := hr.c0
  have h1 := hr.c1
  have HR := Lib.hid hr
  have hl : decide (i < s.size) = false := by simp; omega
  clear hr hi
  go_enter Tryz.func19, Tryz.ntmps19
  go_wp2
  go_quiet (fail)
  go_wp2
  go_end0
  exact ⟨rfl, (St.refl HR.out).drewN _⟩
set_option maxHeartbeats 400000 in
theorem whole_no {b : Nat} {s : ByteArray} {i : Nat} {w : World} (hr : Rd w b s i) (hs : s.size ≤ 140737488351232) (hi : i < s.size) :
    Calls Tryz.prog 19 #[.pointer (some ⟨b, 0, none⟩)] w fun e w' => e = .panicked eform ∧ w.grownBy w' (some b) := by
  have h0 := hr.c0
  have h1 := hr.c1
  have HR := Lib.hid hr
  clear hr
  go_enter Tryz.func19, Tryz.ntmps19
  go_wp2
  go_quiet (fail)
  go_wp2_with (go_at_call 23; refine (wrong_any _ _).mono ?_; rintro e w4 ⟨rfl, hw⟩; rw [hw]; clear hw)
  exact ⟨rfl, rfl, ((St.refl HR.out).drewN _).g⟩

theorem min_cast (x : Nat) : ((min x 59 : Nat) : Int) = min (x : Int) 59 := by omega
theorem partN_max (v : Option Nat) : max (partN v) 0 = ((v.getD 0 : Nat) : Int) := by
  cases v <;> simp [partN] <;> omega

/-- What time hands back. -/
def timeV (r : (Nat × Nat × Nat × Nat) × Nat) : Value × Nat := (.agg #[.int .i64 (r.1.1 : Int), .int .i64 (r.1.2.1 : Int), .int .i64 (r.1.2.2.1 : Int), .int .i64 (r.1.2.2.2 : Int)], r.2)

set_option maxHeartbeats 1000000 in
theorem time_any (b : Nat) (s : ByteArray) (i : Nat) (w : World) (hr : Rd w b s i) (hs : s.size ≤ 140737488351232) (hi : i ≤ s.size) :
    Calls Tryz.prog 18 #[.pointer (some ⟨b, 0, none⟩)] w fun e w' => Out b s w ((time s i).map timeV) e w' := by
  cases hc : clock s i 60 with
  | none =>
    have hz := Lib.hid (show time s i = none by simp [time, hc])
    have hr' := Lib.hid (hr.alloc (.cells #[.int .i64 0, .int .i64 0, .int .i64 0, .int .i64 0] 23))
    have H1 := Lib.hid (clock_no 60 (mv := 60) hc hr'.out hs hi rfl)
    clear hc hr
    go_enter Tryz.func18, Tryz.ntmps18
    go_wp2_with (go_at_call 48; refine H1.out.mono ?_; rintro e w1 ⟨rfl, hg⟩)
    rw [hz.out]
    exact ⟨rfl, rfl, grown_trans (World.grownBy_alloc _ _ _) hg⟩
  | some r =>
    obtain ⟨h, m, x, n, k⟩ := r
    have hr' := Lib.hid (hr.alloc (.cells #[.int .i64 0, .int .i64 0, .int .i64 0, .int .i64 0] 23))
    have H1 := Lib.hid (clock_yes 60 (mv := 60) hc hr'.out hs hi rfl)
    have hb := hr.lt
    by_cases hn : n = 3
    · subst hn
      cases hp : part s k with
      | none =>
        have hz := Lib.hid (show time s i = none by simp [time, hc, hp])
        have hk := clock_in hc hi
        clear hc hr
        go_enter Tryz.func18, Tryz.ntmps18
        go_wp2_with fail
        refine H1.out.mono ?_
        rintro e w1 ⟨rfl, s1⟩
        go_wp2_with fail
        refine (part_no hp (s1.r.alloc _) hs hk).mono ?_
        rintro e w2 ⟨rfl, hg⟩
        go_wp2_with fail
        rw [hz.out]
        exact ⟨rfl, rfl, grown_trans (grown_alloc (grown_trans (World.grownBy_alloc _ _ _) s1.g) _) hg⟩
      | some r =>
        obtain ⟨v, j⟩ := r
        have hz := Lib.hid (show time s i = some ((h, m, min x 59, v.getD 0), j) by simp [time, hc, hp])
        have hk := clock_in hc hi
        have hv := Lib.hid (partN_max v)
        clear hc hr
        go_enter Tryz.func18, Tryz.ntmps18
        go_wp2_with fail
        refine H1.out.mono ?_
        rintro e w1 ⟨rfl, s1⟩
        have z1 : w.heap.size < w1.heap.size := by have := s1.g.size; simp at this; omega
        go_wp2_with fail
        refine (part_yes hp (s1.r.alloc _) hs hk).mono ?_
        rintro e w2 ⟨rfl, s2⟩
        have qH := Lib.hid (blk_grown s2.g (blk_grown (grown_alloc (grown_refl w1 (some b)) _) (blk_grown s1.g (blk_new w _) (by simp; omega)) (by simp; omega)) (by simp; omega))
        have q0 := blk_cell qH.out 0
        have q1 := blk_cell qH.out 1
        have q2 := blk_cell qH.out 2
        have q3 := blk_cell qH.out 3
        have q4 := blk_free qH.out 0
        have q5 := blk_free qH.out 1
        have q6 := blk_free qH.out 2
        have q7 := blk_free qH.out 3
        simp only [List.getElem?_toArray, List.getElem?_cons_zero, List.getElem?_cons_succ] at q0 q1 q2 q3
        have pH := Lib.hid (blk_grown s2.g (blk_new w1 _) (by simp; omega))
        have p0 := blk_cell pH.out 0
        have p1 := blk_cell pH.out 1
        have p2 := blk_cell pH.out 2
        have p3 := blk_cell pH.out 3
        have p4 := blk_free pH.out 0
        have p5 := blk_free pH.out 1
        have p6 := blk_free pH.out 2
        have p7 := blk_free pH.out 3
        simp only [List.getElem?_toArray, List.getElem?_cons_zero, List.getElem?_cons_succ] at p0 p1 p2 p3
        go_wp2_with fail
        rw [hv.out, hz.out]
        refine bodyPost_ret (v := .agg #[.int .i64 (h : Int), .int .i64 (m : Int), .int .i64 (min (x : Int) 59), .int .i64 ((v.getD 0 : Nat) : Int)]) (by simp [results, Tryz.results18, go_sem, q0, q1, q2, q3]) rfl ?_
        refine ⟨by simp only [timeV, min_cast], ?_⟩
        have S1 : St b s w j w2 := ⟨grown_trans (grown_alloc (grown_trans (World.grownBy_alloc _ _ _) s1.g) _) s2.g, s2.r⟩
        exact ((((S1.setNew hb (by simp; omega) _).setNew hb (Nat.le_refl _) _).setNew hb (Nat.le_refl _) _).setNew hb (Nat.le_refl _) _).setNew hb (Nat.le_refl _) _
    · have hz := Lib.hid (show time s i = some ((h, m, min x 59, 0), k) by simp [time, hc, hn])
      have hn3 : ((n : Int) == 3) = false := by simp; omega
      clear hc hr
      go_enter Tryz.func18, Tryz.ntmps18
      go_wp2_with fail
      refine H1.out.mono ?_
      rintro e w1 ⟨rfl, s1⟩
      have z1 : w.heap.size < w1.heap.size := by have := s1.g.size; simp at this; omega
      have qH := Lib.hid (blk_grown s1.g (blk_new w _) (by simp; omega))
      have q0 := blk_cell qH.out 0
      have q1 := blk_cell qH.out 1
      have q2 := blk_cell qH.out 2
      have q3 := blk_cell qH.out 3
      have q4 := blk_free qH.out 0
      have q5 := blk_free qH.out 1
      have q6 := blk_free qH.out 2
      have q7 := blk_free qH.out 3
      simp only [List.getElem?_toArray, List.getElem?_cons_zero, List.getElem?_cons_succ] at q0 q1 q2 q3
      go_wp2_with fail
      rw [hz.out]
      refine bodyPost_ret (v := .agg #[.int .i64 (h : Int), .int .i64 (m : Int), .int .i64 (min (x : Int) 59), .int .i64 0]) (by simp [results, Tryz.results18, go_sem, z1, q0, q1, q2, q3]) rfl ?_
      refine ⟨by simp only [timeV, min_cast]; rfl, ?_⟩
      have S1 : St b s w k w1 := ⟨grown_trans (World.grownBy_alloc _ _ _) s1.g, s1.r⟩
      exact ((((S1.setNew hb (Nat.le_refl _) _).setNew hb (Nat.le_refl _) _).setNew hb (Nat.le_refl _) _).setNew hb (Nat.le_refl _) _).alloc _

theorem time_yes {b : Nat} {s : ByteArray} {i : Nat} {h m x v k : Nat} {w : World} (hc : time s i = some ((h, m, x, v), k)) (hr : Rd w b s i) (hs : s.size ≤ 140737488351232) (hi : i ≤ s.size) :
    Calls Tryz.prog 18 #[.pointer (some ⟨b, 0, none⟩)] w fun e w' => e = .returned (.agg #[.int .i64 (h : Int), .int .i64 (m : Int), .int .i64 (x : Int), .int .i64 (v : Int)]) ∧ St b s w k w' := by
  have c := time_any b s i w hr hs hi
  rw [hc] at c
  exact c
theorem time_no {b : Nat} {s : ByteArray} {i : Nat} {w : World} (hc : time s i = none) (hr : Rd w b s i) (hs : s.size ≤ 140737488351232) (hi : i ≤ s.size) :
    Calls Tryz.prog 18 #[.pointer (some ⟨b, 0, none⟩)] w fun e w' => e = .panicked eform ∧ w.grownBy w' (some b) := by
  have c := time_any b s i w hr hs hi
  rw [hc] at c
  exact c

end Go.Proofs.YtkhpdiilghncgaaGreatDoor
