/- The reader's digits, two. -/
import Derived.Test.YtkhpdiilghncgaaGreatDoorGa
namespace Go.Proofs.YtkhpdiilghncgaaGreatDoor
open Go.RowKit
set_option linter.unusedVariables false

theorem pow_le_8 {k : Nat} (h : k ≤ 8) : 10 ^ k ≤ 100000000 := by
  have : 10 ^ k ≤ 10 ^ 8 := Nat.pow_le_pow_right (by omega) h
  omega

set_option maxHeartbeats 400000 in
theorem digits_any (b : Nat) (s : ByteArray) (i n : Nat) (nv : Int) (w : World) (hr : Rd w b s i) (hs : s.size ≤ 140737488351232) (hi : i ≤ s.size) (hn : n ≤ 9) (hnv : nv = n) :
    Calls Tryz.prog 50 #[.pointer (some ⟨b, 0, none⟩), .int .i64 nv] w fun e w' => Out b s w ((num s n i 0).map fun v : Nat => (Value.int .i64 (v : Int), i + n)) e w' := by
  subst hnv
  go_enter Tryz.func50, Tryz.ntmps50
  go_wp2_with fail
  go_loopw [5, 7] (fun v c wr => ∃ k x : Nat, k ≤ n ∧ c = .int .i64 k ∧ v = .int .i64 x ∧ x < 10 ^ k ∧ St b s w (i + k) wr ∧ i + k ≤ s.size ∧ num s n i 0 = num s (n - k) (i + k) x) (fun _ c _ => n - (intOf c).toNat)
  case atStart => exact ⟨0, 0, by omega, rfl, rfl, by simp, by simpa using St.refl hr, by omega, by simp⟩
  case round =>
    obtain ⟨k, x, hk, rfl, rfl, hx, hst, hsz, hnum⟩ := hrel
    have HX := Lib.hid hx
    have HN := Lib.hid hnum
    have HS := Lib.hid hst
    clear hx hnum hst hr
    by_cases hlt : k < n
    · have hdig := Lib.hid (digit_any b s (i + k) wr HS.out.r hs hsz)
      cases hdg : dg s (i + k) with
      | true =>
        have hb := dg_bd hdg
        have hb1 : (48 : Int) ≤ nx s (i + k) := by omega
        have hb2 : (nx s (i + k) : Int) ≤ 57 := by omega
        have hx8 : (x : Int) ≤ 100000000 := by have := pow_le_8 (k := k) (by omega); have := HX.out; omega
        have HI := Lib.hid (dg_in hdg)
        have HNN := Lib.hid (num_step (n := n - k - 1) (v := x) hdg)
        clear hb
        go_wp2_with (go_at_call 26; refine hdig.out.mono ?_; rintro e w1 ⟨rfl, hd⟩)
        have HR := Lib.hid (hd.rd HS.out.r)
        have HS1 := Lib.hid (HS.out.dr hd)
        clear hd
        refine (next_any b s (i + k) w1 HR.out hs hsz).mono ?_
        rintro e w2 ⟨rfl, hd⟩
        have HS2 := Lib.hid (HS1.out.dr hd)
        have h0 := HS2.out.r.c0
        have h1 := HS2.out.r.c1
        have f1 := HS2.out.r.f1
        clear hd
        go_wp2_with fail
        go_roundw
        case rel =>
          refine ⟨k + 1, x * 10 + (nx s (i + k) - 48), by omega, by go_num, ?_, ?_, (HS2.out.setI (i + (k + 1)) _ (by omega)), by have := HI.out; omega, ?_⟩
          · congr 1; omega
          · have := HX.out; rw [Nat.pow_succ]; omega
          · rw [HN.out]; have h := HNN.out; rw [show n - k - 1 + 1 = n - k from by omega] at h; rw [h, show n - (k + 1) = n - k - 1 from by omega, Nat.add_assoc]
        case measure => simp [intOf]; omega
      | false =>
        have HNN := Lib.hid (num_stop (n := n - k - 1) (v := x) hdg)
        go_wp2_with (first | (go_at_call 26; refine hdig.out.mono ?_; rintro e w1 ⟨rfl, hd⟩) | (go_at_call 23; refine (wrong_any _ _).mono ?_; rintro e w2 ⟨rfl, hw⟩; rw [hw]; clear hw))
        have hz : num s n i 0 = none := by rw [HN.out]; have h := HNN.out; rwa [show n - k - 1 + 1 = n - k from by omega] at h
        rw [hz]
        exact ⟨rfl, rfl, (HS.out.dr hd).g⟩
    · go_wp2
      go_ret
      have hz : num s n i 0 = some x := by rw [HN.out, show n - k = 0 from by omega]; rfl
      rw [hz]
      exact ⟨rfl, by rw [show i + n = i + k from by omega]; exact HS.out⟩

theorem digits_yes {b : Nat} {s : ByteArray} {i : Nat} (n : Nat) {nv : Int} {v : Nat} {w : World} (h : num s n i 0 = some v) (hr : Rd w b s i) (hs : s.size ≤ 140737488351232) (hi : i ≤ s.size) (hn : n ≤ 9) (hnv : nv = n) :
    Calls Tryz.prog 50 #[.pointer (some ⟨b, 0, none⟩), .int .i64 nv] w fun e w' => e = .returned (.int .i64 v) ∧ St b s w (i + n) w' := by
  have c := digits_any b s i n nv w hr hs hi hn hnv
  rw [h] at c
  exact c
theorem digits_no {b : Nat} {s : ByteArray} {i : Nat} (n : Nat) {nv : Int} {w : World} (h : num s n i 0 = none) (hr : Rd w b s i) (hs : s.size ≤ 140737488351232) (hi : i ≤ s.size) (hn : n ≤ 9) (hnv : nv = n) :
    Calls Tryz.prog 50 #[.pointer (some ⟨b, 0, none⟩), .int .i64 nv] w fun e w' => e = .panicked eform ∧ w.grownBy w' (some b) := by
  have c := digits_any b s i n nv w hr hs hi hn hnv
  rw [h] at c
  exact c

set_option maxHeartbeats 400000 in
theorem two_any (b : Nat) (s : ByteArray) (i lo hi : Nat) (lv hv : Int) (w : World) (hr : Rd w b s i) (hs : s.size ≤ 140737488351232) (hi' : i ≤ s.size) (hl : lv = lo) (hh : hv = hi) :
    Calls Tryz.prog 81 #[.pointer (some ⟨b, 0, none⟩), .int .i64 lv, .int .i64 hv] w fun e w' => Out b s w ((two s i lo hi).map fun v : Nat => (Value.int .i64 (v : Int), i + 2)) e w' := by
  subst hl hh
  cases hn : num s 2 i 0 with
  | none =>
    have hz : two s i lo hi = none := by simp [two, hn]
    rw [hz]
    have hc := Lib.hid (digits_no 2 (nv := 2) hn hr hs hi' (by omega) rfl)
    clear hn hr hz
    go_enter Tryz.func81, Tryz.ntmps81
    go_wp2_with (go_at_call 50; refine hc.out.mono ?_; rintro e w1 ⟨rfl, hg⟩)
    exact ⟨rfl, rfl, hg⟩
  | some n =>
    have hc := Lib.hid (digits_yes 2 (nv := 2) hn hr hs hi' (by omega) rfl)
    by_cases hr1 : lo ≤ n ∧ n ≤ hi
    · have hz := Lib.hid (show two s i lo hi = some n by simp [two, hn, hr1])
      have d1 : decide (n < lo) = false := by simp; omega
      have d2 : decide (hi < n) = false := by simp; omega
      clear hn hr hr1
      go_enter Tryz.func81, Tryz.ntmps81
      go_wp2_with (first | (go_at_call 50; refine hc.out.mono ?_; rintro e w1 ⟨rfl, hst⟩) | (go_at_call 23; refine (wrong_any _ _).mono ?_; rintro e w2 ⟨rfl, hw⟩; rw [hw]; clear hw))
      rw [hz.out]
      go_ret
      exact ⟨rfl, hst⟩
    · have hz := Lib.hid (show two s i lo hi = none by simp [two, hn, hr1])
      by_cases hr2 : n < lo
      · have d1 : decide (n < lo) = true := by simp; omega
        clear hn hr hr1
        go_enter Tryz.func81, Tryz.ntmps81
        go_wp2_with (first | (go_at_call 50; refine hc.out.mono ?_; rintro e w1 ⟨rfl, hst⟩) | (go_at_call 23; refine (wrong_any _ _).mono ?_; rintro e w2 ⟨rfl, hw⟩; rw [hw]; clear hw))
        rw [hz.out]
        exact ⟨rfl, rfl, hst.g⟩
      · have d1 : decide (n < lo) = false := by simp; omega
        have d2 : decide (hi < n) = true := by simp; omega
        clear hn hr hr1
        go_enter Tryz.func81, Tryz.ntmps81
        go_wp2_with (first | (go_at_call 50; refine hc.out.mono ?_; rintro e w1 ⟨rfl, hst⟩) | (go_at_call 23; refine (wrong_any _ _).mono ?_; rintro e w2 ⟨rfl, hw⟩; rw [hw]; clear hw))
        rw [hz.out]
        exact ⟨rfl, rfl, hst.g⟩

theorem two_yes {b : Nat} {s : ByteArray} {i : Nat} (lo hi : Nat) {lv hv : Int} {v : Nat} {w : World} (h : two s i lo hi = some v) (hr : Rd w b s i) (hs : s.size ≤ 140737488351232) (hi' : i ≤ s.size) (hl : lv = lo) (hh : hv = hi) :
    Calls Tryz.prog 81 #[.pointer (some ⟨b, 0, none⟩), .int .i64 lv, .int .i64 hv] w fun e w' => e = .returned (.int .i64 v) ∧ St b s w (i + 2) w' := by
  have c := two_any b s i lo hi lv hv w hr hs hi' hl hh
  rw [h] at c
  exact c
theorem two_no {b : Nat} {s : ByteArray} {i : Nat} (lo hi : Nat) {lv hv : Int} {w : World} (h : two s i lo hi = none) (hr : Rd w b s i) (hs : s.size ≤ 140737488351232) (hi' : i ≤ s.size) (hl : lv = lo) (hh : hv = hi) :
    Calls Tryz.prog 81 #[.pointer (some ⟨b, 0, none⟩), .int .i64 lv, .int .i64 hv] w fun e w' => e = .panicked eform ∧ w.grownBy w' (some b) := by
  have c := two_any b s i lo hi lv hv w hr hs hi' hl hh
  rw [h] at c
  exact c

set_option maxHeartbeats 400000 in
theorem more_any (b : Nat) (s : ByteArray) (i : Nat) (long : Bool) (w : World) (hr : Rd w b s i) (hs : s.size ≤ 140737488351232) (hi : i ≤ s.size) :
    Calls Tryz.prog 90 #[.pointer (some ⟨b, 0, none⟩), .bool long] w fun e w' => e = .returned (.bool (more s i long)) ∧ St b s w (past s i long) w' := by
  cases long with
  | true =>
    cases hc : isOne s i ⟨#[58]⟩ with
    | true =>
      have hz := Lib.hid (show more s i true = true by rw [isOne_1 s i 58 (by decide)] at hc; simpa [more] using hc)
      have h1 := Lib.hid (one_yes b s _ i w hr hs hc)
      have hp : decide (0 < nx s i) = true := by
        have := hz.out; simp [more] at this; simp; omega
      clear hc hr
      go_enter Tryz.func90, Tryz.ntmps90
      go_wp2_with (go_at_call 17; refine h1.out.mono ?_; rintro e w1 ⟨rfl, hst⟩)
      go_ret
      rw [hz.out]
      exact ⟨rfl, by simpa [past, hz.out] using hst⟩
    | false =>
      have hz := Lib.hid (show more s i true = false by rw [isOne_1 s i 58 (by decide)] at hc; simpa [more] using hc)
      have h1 := Lib.hid (one_no b s _ i w hr hs hi hc)
      have hH := Lib.hid hr
      clear hc hr
      go_enter Tryz.func90, Tryz.ntmps90
      go_wp2_with (go_at_call 17; refine h1.out.mono ?_; rintro e w1 ⟨rfl, hd⟩)
      go_ret
      rw [hz.out]
      exact ⟨rfl, by simpa [past, hz.out] using (St.refl hH.out).dr hd⟩
  | false =>
    have h1 := Lib.hid (digit_any b s i w hr hs hi)
    have hH := Lib.hid hr
    clear hr
    go_enter Tryz.func90, Tryz.ntmps90
    go_wp2_with (go_at_call 26; refine h1.out.mono ?_; rintro e w1 ⟨rfl, hd⟩)
    go_ret
    exact ⟨by simp [more], by simpa [past] using (St.refl hH.out).dr hd⟩

end Go.Proofs.YtkhpdiilghncgaaGreatDoor
