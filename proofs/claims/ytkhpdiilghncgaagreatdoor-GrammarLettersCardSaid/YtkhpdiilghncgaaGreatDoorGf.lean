/- The reader's date. -/
import Derived.Test.YtkhpdiilghncgaaGreatDoorGe
import Derived.Deep.CutBlock
import Derived.Deep.DeepCutAuto
namespace Go.Proofs.YtkhpdiilghncgaaGreatDoor
open Go.RowKit
set_option linter.unusedVariables false


/-- One of + and - at a place: which, and how long. -/
def sg (s : ByteArray) (i : Nat) : Nat := if nx s i = 43 then 43 else if nx s i = 45 then 45 else 0
def sl (s : ByteArray) (i : Nat) : Nat := if nx s i = 43 ∨ nx s i = 45 then 1 else 0
theorem one_sign {b : Nat} (s : ByteArray) (i : Nat) (w : World) (hr : Rd w b s i) (hs : s.size ≤ 140737488351232) (hi : i ≤ s.size) :
    Calls Tryz.prog 17 #[.pointer (some ⟨b, 0, none⟩), .string ⟨#[43, 45]⟩] w fun e w' => e = .returned (.int .u8 (sg s i)) ∧ St b s w (i + sl s i) w' := by
  cases hc : isOne s i ⟨#[43, 45]⟩ with
  | true =>
    have hc' := hc
    rw [isOne_2 s i 43 45 (by decide) (by decide)] at hc
    simp at hc
    have h1 : sg s i = nx s i := by unfold sg; split <;> (try split) <;> omega
    have h2 : sl s i = 1 := by simp [sl, hc]
    rw [h1, h2]
    exact one_yes b s _ i w hr hs hc'
  | false =>
    have hc' := hc
    rw [isOne_2 s i 43 45 (by decide) (by decide)] at hc
    simp at hc
    have h1 : sg s i = 0 := by simp [sg, hc]
    have h2 : sl s i = 0 := by simp [sl, hc]
    rw [h1, h2]
    exact (one_no b s _ i w hr hs hi hc').mono fun e w' ⟨h1, h2⟩ => ⟨h1, (St.refl hr).dr h2⟩

/-- What date hands back. -/
def dateV (r : (Int × Nat × Nat) × Nat) : Value × Nat := (.agg #[.int .i64 r.1.1, .int .i64 (r.1.2.1 : Int), .int .i64 (r.1.2.2 : Int)], r.2)

theorem sg_43 {s : ByteArray} {i : Nat} (c : nx s i = 43) : ((sg s i : Int) == 43) = true ∧ sl s i = 1 := by simp [sg, sl, c]
theorem sg_45 {s : ByteArray} {i : Nat} (c : nx s i = 45) : ((sg s i : Int) == 43) = false ∧ ((sg s i : Int) == 45) = true ∧ sl s i = 1 := by simp [sg, sl, c]
theorem sg_no {s : ByteArray} {i : Nat} (c : nx s i ≠ 43) (d : nx s i ≠ 45) : ((sg s i : Int) == 43) = false ∧ ((sg s i : Int) == 45) = false ∧ sl s i = 0 := by simp [sg, sl, c, d]

set_option maxHeartbeats 1000000 in
theorem date_noyear (b : Nat) (s : ByteArray) (i : Nat) (w : World) (hr : Rd w b s i) (hs : s.size ≤ 140737488351232) (hi : i ≤ s.size) (hy : year s i = none) :
    Calls Tryz.prog 40 #[.pointer (some ⟨b, 0, none⟩)] w fun e w' => e = .panicked eform ∧ w.grownBy w' (some b) := by
  by_cases c : nx s i = 43
  · obtain ⟨e1, e2⟩ := sg_43 c
    have hn : num s 6 (i + 1) 0 = none := by
      cases hn : num s 6 (i + 1) 0 with
      | none => rfl
      | some v => simp [year, c, hn] at hy
    have hx := nx_in (s := s) (i := i) (by omega)
    have E2 := Lib.hid e2
    clear e2
    have hb := hr.lt
    have H1 := Lib.hid (one_sign s i _ ((hr.alloc (.cells #[.int .i64 0, .int .i64 0, .int .i64 0] 38)).alloc (.cells #[.int .i64 0, .int .i64 0, .int .i64 0] 38)) hs hi)
    clear hr
    go_enter Tryz.func40, Tryz.ntmps40
    go_upto_block 0 with (go_at_call 17; refine H1.out.mono ?_; rintro e w1 ⟨rfl, s1⟩)
    have S1 : St b s w (i + sl s i) w1 := ⟨grown_trans (grown_alloc (grown_alloc (grown_refl _ _) _) _) s1.g, s1.r⟩
    have K1 := blk_grown s1.g (blk_grown (row := none) (World.grownBy_alloc _ (.cells #[.int .i64 0, .int .i64 0, .int .i64 0] 38) none) (blk_new w (.cells #[.int .i64 0, .int .i64 0, .int .i64 0] 38)) (by simp)) (some_ne (by omega))
    have K2 := blk_grown s1.g (blk_new (w.alloc (.cells #[.int .i64 0, .int .i64 0, .int .i64 0] 38)) (.cells #[.int .i64 0, .int .i64 0, .int .i64 0] 38)) (some_ne (by simp; omega))
    simp only [World.size_alloc] at K2
    clear s1 H1
    rw [E2.out] at S1
    go_wp2_with (go_at_call 50; refine (digits_no 6 hn S1.r hs hx (by omega) rfl).mono ?_; rintro e w2 ⟨rfl, hg⟩)
    exact ⟨rfl, rfl, grown_trans S1.g hg⟩
  · by_cases d : nx s i = 45
    · obtain ⟨e0, e1, e2⟩ := sg_45 d
      have hx := nx_in (s := s) (i := i) (by omega)
      have E2 := Lib.hid e2
      clear e2
      cases hn : num s 6 (i + 1) 0 with
      | none =>
        have hb := hr.lt
        have H1 := Lib.hid (one_sign s i _ ((hr.alloc (.cells #[.int .i64 0, .int .i64 0, .int .i64 0] 38)).alloc (.cells #[.int .i64 0, .int .i64 0, .int .i64 0] 38)) hs hi)
        clear hr
        go_enter Tryz.func40, Tryz.ntmps40
        go_upto_block 0 with (go_at_call 17; refine H1.out.mono ?_; rintro e w1 ⟨rfl, s1⟩)
        have S1 : St b s w (i + sl s i) w1 := ⟨grown_trans (grown_alloc (grown_alloc (grown_refl _ _) _) _) s1.g, s1.r⟩
        have K1 := blk_grown s1.g (blk_grown (row := none) (World.grownBy_alloc _ (.cells #[.int .i64 0, .int .i64 0, .int .i64 0] 38) none) (blk_new w (.cells #[.int .i64 0, .int .i64 0, .int .i64 0] 38)) (by simp)) (some_ne (by omega))
        have K2 := blk_grown s1.g (blk_new (w.alloc (.cells #[.int .i64 0, .int .i64 0, .int .i64 0] 38)) (.cells #[.int .i64 0, .int .i64 0, .int .i64 0] 38)) (some_ne (by simp; omega))
        simp only [World.size_alloc] at K2
        clear s1 H1
        rw [E2.out] at S1
        go_wp2_with (go_at_call 50; refine (digits_no 6 hn S1.r hs hx (by omega) rfl).mono ?_; rintro e w2 ⟨rfl, hg⟩)
        exact ⟨rfl, rfl, grown_trans S1.g hg⟩
      | some v =>
        have hv : v = 0 := by
          by_cases hv : v = 0
          · exact hv
          · simp [year, d, hn, hv] at hy
        subst hv
        have hb := hr.lt
        have H1 := Lib.hid (one_sign s i _ ((hr.alloc (.cells #[.int .i64 0, .int .i64 0, .int .i64 0] 38)).alloc (.cells #[.int .i64 0, .int .i64 0, .int .i64 0] 38)) hs hi)
        clear hr
        go_enter Tryz.func40, Tryz.ntmps40
        go_upto_block 0 with (go_at_call 17; refine H1.out.mono ?_; rintro e w1 ⟨rfl, s1⟩)
        have S1 : St b s w (i + sl s i) w1 := ⟨grown_trans (grown_alloc (grown_alloc (grown_refl _ _) _) _) s1.g, s1.r⟩
        have K1 := blk_grown s1.g (blk_grown (row := none) (World.grownBy_alloc _ (.cells #[.int .i64 0, .int .i64 0, .int .i64 0] 38) none) (blk_new w (.cells #[.int .i64 0, .int .i64 0, .int .i64 0] 38)) (by simp)) (some_ne (by omega))
        have K2 := blk_grown s1.g (blk_new (w.alloc (.cells #[.int .i64 0, .int .i64 0, .int .i64 0] 38)) (.cells #[.int .i64 0, .int .i64 0, .int .i64 0] 38)) (some_ne (by simp; omega))
        simp only [World.size_alloc] at K2
        clear s1 H1
        rw [E2.out] at S1
        go_wp2_with fail
        refine (digits_yes 6 hn S1.r hs hx (by omega) rfl).mono ?_
        rintro e w2 ⟨rfl, s2⟩
        have K2' := blk_grown s2.g K2 (some_ne (by omega))
        have qH := Lib.hid (K2')
        have q0 := blk_cell qH.out 0
        have q1 := blk_cell qH.out 1
        have q2 := blk_cell qH.out 2
        have q4 := blk_free qH.out 0
        have q5 := blk_free qH.out 1
        have q6 := blk_free qH.out 2
        simp only [List.getElem?_toArray, List.getElem?_cons_zero, List.getElem?_cons_succ] at q0 q1 q2
        go_wp2_with (go_at_call 23; refine (wrong_any _ _).mono ?_; rintro e w4 ⟨rfl, hw⟩; rw [hw]; clear hw)
        exact ⟨rfl, rfl, ((S1.trans s2).setNew hb (by simp) _).g⟩
    · obtain ⟨e0, e1, e2⟩ := sg_no c d
      have hn : num s 4 i 0 = none := by
        cases hn : num s 4 i 0 with
        | none => rfl
        | some v => simp [year, c, d, hn] at hy
      have E2 := Lib.hid e2
      clear e2
      have hb := hr.lt
      have H1 := Lib.hid (one_sign s i _ ((hr.alloc (.cells #[.int .i64 0, .int .i64 0, .int .i64 0] 38)).alloc (.cells #[.int .i64 0, .int .i64 0, .int .i64 0] 38)) hs hi)
      clear hr
      go_enter Tryz.func40, Tryz.ntmps40
      go_upto_block 0 with (go_at_call 17; refine H1.out.mono ?_; rintro e w1 ⟨rfl, s1⟩)
      have S1 : St b s w (i + sl s i) w1 := ⟨grown_trans (grown_alloc (grown_alloc (grown_refl _ _) _) _) s1.g, s1.r⟩
      have K1 := blk_grown s1.g (blk_grown (row := none) (World.grownBy_alloc _ (.cells #[.int .i64 0, .int .i64 0, .int .i64 0] 38) none) (blk_new w (.cells #[.int .i64 0, .int .i64 0, .int .i64 0] 38)) (by simp)) (some_ne (by omega))
      have K2 := blk_grown s1.g (blk_new (w.alloc (.cells #[.int .i64 0, .int .i64 0, .int .i64 0] 38)) (.cells #[.int .i64 0, .int .i64 0, .int .i64 0] 38)) (some_ne (by simp; omega))
      simp only [World.size_alloc] at K2
      clear s1 H1
      rw [E2.out] at S1
      go_wp2_with (go_at_call 50; refine (digits_no 4 hn S1.r hs hi (by omega) rfl).mono ?_; rintro e w2 ⟨rfl, hg⟩)
      exact ⟨rfl, rfl, grown_trans S1.g hg⟩

/-- A -, if one is there. -/
def dv (s : ByteArray) (i : Nat) : Nat := if nx s i = 45 then 45 else 0
theorem dv_yes {s : ByteArray} {i : Nat} (h : dsh s i = true) : decide (0 < dv s i) = true ∧ ((dv s i : Int) == 0) = false := by
  simp [dsh] at h; simp [dv, h]
theorem dv_no {s : ByteArray} {i : Nat} (h : dsh s i = false) : decide (0 < dv s i) = false ∧ ((dv s i : Int) == 0) = true := by
  simp [dsh] at h; simp [dv, h]
theorem one_dash {b : Nat} (s : ByteArray) (i : Nat) (w : World) (hr : Rd w b s i) (hs : s.size ≤ 140737488351232) (hi : i ≤ s.size) :
    Calls Tryz.prog 17 #[.pointer (some ⟨b, 0, none⟩), .string ⟨#[45]⟩] w fun e w' => e = .returned (.int .u8 (dv s i)) ∧ St b s w (i + gap (dsh s i)) w' := by
  cases hc : isOne s i ⟨#[45]⟩ with
  | true =>
    have hc' := hc
    rw [isOne_1 s i 45 (by decide)] at hc
    simp at hc
    have h1 : dv s i = nx s i := by simp [dv, hc]
    have h2 : dsh s i = true := by simp [dsh, hc]
    rw [h1, h2]
    exact one_yes b s _ i w hr hs hc'
  | false =>
    have hc' := hc
    rw [isOne_1 s i 45 (by decide)] at hc
    simp at hc
    have h1 : dv s i = 0 := by simp [dv, hc]
    have h2 : dsh s i = false := by simp [dsh, hc]
    rw [h1, h2]
    exact (one_no b s _ i w hr hs hi hc').mono fun e w' ⟨h1, h2⟩ => ⟨h1, (St.refl hr).dr h2⟩
theorem gap_in {s : ByteArray} {j : Nat} (hj : j ≤ s.size) : j + gap (dsh s j) ≤ s.size := by
  cases c : dsh s j with
  | false => simpa [gap] using hj
  | true => have := nx_in (s := s) (i := j) (by simp [dsh] at c; omega); simp [gap]; omega

theorem set3 {w : World} {b : Nat} {a0 a1 a2 : Value} {T : TypeId} (h : w.heap[b]? = some (.cells #[a0, a1, a2] T (0, 0))) (v0 v1 v2 : Value) :
    (((w.setCell ⟨b, 0, none⟩ v0).setCell ⟨b, 1, none⟩ v1).setCell ⟨b, 2, none⟩ v2).heap[b]? = some (.cells #[v0, v1, v2] T (0, 0)) := by
  simp [World.setCell, Array.getElem?_modify, h]
set_option maxHeartbeats 1000000 in
theorem date_year (b : Nat) (s : ByteArray) (i j : Nat) (y : Int) (w : World) (hr : Rd w b s i) (hs : s.size ≤ 140737488351232) (hi : i ≤ s.size) (hy : year s i = some (y, j)) :
    Calls Tryz.prog 40 #[.pointer (some ⟨b, 0, none⟩)] w fun e w' => Out b s w ((date s i).map dateV) e w' := by
  have HY := Lib.hid hy
  obtain ⟨hj, hy1, hy2⟩ := year_in hy hi
  clear hy
  have hb := hr.lt
  have H1 := Lib.hid (one_sign s i _ ((hr.alloc (.cells #[.int .i64 0, .int .i64 0, .int .i64 0] 38)).alloc (.cells #[.int .i64 0, .int .i64 0, .int .i64 0] 38)) hs hi)
  clear hr
  go_enter Tryz.func40, Tryz.ntmps40
  go_upto_block 0 with (go_at_call 17; refine H1.out.mono ?_; rintro e w1 ⟨rfl, s1⟩)
  have S1 : St b s w (i + sl s i) w1 := ⟨grown_trans (grown_alloc (grown_alloc (grown_refl _ _) _) _) s1.g, s1.r⟩
  have K1 := blk_grown s1.g (blk_grown (row := none) (World.grownBy_alloc _ (.cells #[.int .i64 0, .int .i64 0, .int .i64 0] 38) none) (blk_new w (.cells #[.int .i64 0, .int .i64 0, .int .i64 0] 38)) (by simp)) (some_ne (by omega))
  have K2 := blk_grown s1.g (blk_new (w.alloc (.cells #[.int .i64 0, .int .i64 0, .int .i64 0] 38)) (.cells #[.int .i64 0, .int .i64 0, .int .i64 0] 38)) (some_ne (by simp; omega))
  simp only [World.size_alloc] at K2
  clear s1 H1
  go_cut [] (fun wx => St b s w j wx ∧ wx.heap[w.heap.size]? = some (.cells #[.int .i64 0, .int .i64 0, .int .i64 0] 38 (0, 0)) ∧ wx.heap[w.heap.size + 1]? = some (.cells #[.int .i64 y, .int .i64 0, .int .i64 0] 38 (0, 0)))
  case first =>
    have pH := Lib.hid (K2)
    have p0 := blk_cell pH.out 0
    have p1 := blk_cell pH.out 1
    have p2 := blk_cell pH.out 2
    have p4 := blk_free pH.out 0
    have p5 := blk_free pH.out 1
    have p6 := blk_free pH.out 2
    simp only [List.getElem?_toArray, List.getElem?_cons_zero, List.getElem?_cons_succ] at p0 p1 p2
    by_cases c : nx s i = 43
    · obtain ⟨e1, e2⟩ := sg_43 c
      rw [e2] at S1
      clear e2
      have hx := nx_in (s := s) (i := i) (by omega)
      cases hn : num s 6 (i + 1) 0 with
      | none => exact absurd HY.out (by simp [year, c, hn])
      | some v =>
        have E := HY.out
        simp [year, c, hn] at E
        obtain ⟨rfl, rfl⟩ := E
        clear pH p0 p1 p2 p4 p5 p6
        go_wp2_with fail
        refine (digits_yes 6 hn S1.r hs hx (by omega) rfl).mono ?_
        rintro e w2 ⟨rfl, s2⟩
        have K1' := blk_grown s2.g K1 (some_ne (by omega))
        have K2' := blk_grown s2.g K2 (some_ne (by omega))
        have qH := Lib.hid (K2')
        have q0 := blk_cell qH.out 0
        have q1 := blk_cell qH.out 1
        have q2 := blk_cell qH.out 2
        have q4 := blk_free qH.out 0
        have q5 := blk_free qH.out 1
        have q6 := blk_free qH.out 2
        simp only [List.getElem?_toArray, List.getElem?_cons_zero, List.getElem?_cons_succ] at q0 q1 q2
        go_wp2_with fail
        go_meet
        exact ⟨(S1.trans s2).setNew hb (by simp) _, (Below.heap_setCell _ _ _ _ (by simp)).trans K1', by simp [World.setCell, Array.getElem?_modify, K2']⟩
    · by_cases d : nx s i = 45
      · obtain ⟨e0, e1, e2⟩ := sg_45 d
        rw [e2] at S1
        clear e2
        have hx := nx_in (s := s) (i := i) (by omega)
        cases hn : num s 6 (i + 1) 0 with
        | none => exact absurd HY.out (by simp [year, d, hn])
        | some v =>
          have E := HY.out
          have hv0 : v ≠ 0 := by intro h; simp [year, d, hn, h] at E
          have hvl := (num_lt hn).1
          simp [year, d, hn, hv0] at E
          obtain ⟨rfl, rfl⟩ := E
          have hvb : (v : Int) ≤ 1000000 := by omega
          have hv1 : (-(v : Int) == 0) = false := by simp; omega
          clear pH p0 p1 p2 p4 p5 p6 hv0 hvl
          go_wp2_with fail
          refine (digits_yes 6 hn S1.r hs hx (by omega) rfl).mono ?_
          rintro e w2 ⟨rfl, s2⟩
          have K1' := blk_grown s2.g K1 (some_ne (by omega))
          have K2' := blk_grown s2.g K2 (some_ne (by omega))
          have qH := Lib.hid (K2')
          have q0 := blk_cell qH.out 0
          have q1 := blk_cell qH.out 1
          have q2 := blk_cell qH.out 2
          have q4 := blk_free qH.out 0
          have q5 := blk_free qH.out 1
          have q6 := blk_free qH.out 2
          simp only [List.getElem?_toArray, List.getElem?_cons_zero, List.getElem?_cons_succ] at q0 q1 q2
          go_wp2_with fail
          go_meet
          exact ⟨(S1.trans s2).setNew hb (by simp) _, (Below.heap_setCell _ _ _ _ (by simp)).trans K1', by simp [World.setCell, Array.getElem?_modify, K2']⟩
      · obtain ⟨e0, e1, e2⟩ := sg_no c d
        rw [e2] at S1
        clear e2
        cases hn : num s 4 i 0 with
        | none => exact absurd HY.out (by simp [year, c, d, hn])
        | some v =>
          have E := HY.out
          simp [year, c, d, hn] at E
          obtain ⟨rfl, rfl⟩ := E
          clear pH p0 p1 p2 p4 p5 p6
          go_wp2_with fail
          refine (digits_yes 4 hn S1.r hs hi (by omega) rfl).mono ?_
          rintro e w2 ⟨rfl, s2⟩
          have K1' := blk_grown s2.g K1 (some_ne (by omega))
          have K2' := blk_grown s2.g K2 (some_ne (by omega))
          have qH := Lib.hid (K2')
          have q0 := blk_cell qH.out 0
          have q1 := blk_cell qH.out 1
          have q2 := blk_cell qH.out 2
          have q4 := blk_free qH.out 0
          have q5 := blk_free qH.out 1
          have q6 := blk_free qH.out 2
          simp only [List.getElem?_toArray, List.getElem?_cons_zero, List.getElem?_cons_succ] at q0 q1 q2
          go_wp2_with fail
          go_meet
          exact ⟨(S1.trans s2).setNew hb (by simp) _, (Below.heap_setCell _ _ _ _ (by simp)).trans K1', by simp [World.setCell, Array.getElem?_modify, K2']⟩
  case rest =>
    obtain ⟨S2, K3, K4⟩ := hcut
    clear S1 K1 K2
    have hj1 := gap_in hj
    cases hm : two s (j + gap (dsh s j)) 1 12 with
    | none =>
      have hz := Lib.hid (show date s i = none by simp [date, HY.out, monthday, hm])
      go_wp2_with fail
      refine (one_dash s j wc S2.r hs hj).mono ?_
      rintro e w2 ⟨rfl, s2⟩
      go_wp2_with fail
      refine (two_no 1 12 hm s2.r hs hj1 rfl rfl).mono ?_
      rintro e w3 ⟨rfl, g3⟩
      go_wp2_with fail
      rw [hz.out]
      exact ⟨rfl, rfl, grown_trans (S2.trans s2).g g3⟩
    | some m =>
      have hj2 : j + gap (dsh s j) + 2 ≤ s.size := by have := (two_bd hm).2.2; omega
      have hj3 := gap_in hj2
      cases hL : dsh s j with
      | false =>
        have hdv := (dv_no hL).1
        have hj5 : j + gap (dsh s j) + 2 + gap (dsh s j) ≤ s.size := by rw [hL] at hj2 ⊢; simpa [gap] using hj2
        have hC := Lib.hid (show (dsh s j && !dsh s (j + gap (dsh s j) + 2)) = false by rw [hL]; rfl)
        have hg' := Lib.hid (show gap (dsh s j) = 0 by rw [hL]; rfl)
        clear hL
        cases hd : two s (j + gap (dsh s j) + 2 + gap (dsh s j)) 1 31 with
        | none =>
          have hz := Lib.hid (show date s i = none by rw [date_of HY.out hm hC.out, hd]; rfl)
          go_wp2_with fail
          refine (one_dash s j wc S2.r hs hj).mono ?_
          rintro e w2 ⟨rfl, s2⟩
          go_wp2_with fail
          refine (two_yes 1 12 hm s2.r hs hj1 rfl rfl).mono ?_
          rintro e w3 ⟨rfl, s3⟩
          have S4 := (S2.trans s2).trans s3
          have K3' := blk_grown s3.g (blk_grown s2.g K3 (some_ne (by omega))) (some_ne (by omega))
          have K4' := blk_grown s3.g (blk_grown s2.g K4 (some_ne (by omega))) (some_ne (by omega))
          have qH := Lib.hid (K4')
          have q0 := blk_cell qH.out 0
          have q1 := blk_cell qH.out 1
          have q2 := blk_cell qH.out 2
          have q4 := blk_free qH.out 0
          have q5 := blk_free qH.out 1
          have q6 := blk_free qH.out 2
          simp only [List.getElem?_toArray, List.getElem?_cons_zero, List.getElem?_cons_succ] at q0 q1 q2
          clear s2 s3 S2 K3 K4
          go_wp2_with fail
          clear qH q0 q1 q2 q4 q5 q6
          have S5 := S4.setNew hb (p := ⟨w.heap.size + 1, 1, none⟩) (by simp) (.int .i64 (m : Int))
          have K5 := (Below.heap_setCell w3 ⟨w.heap.size + 1, 1, none⟩ (.int .i64 (m : Int)) w.heap.size (by simp)).trans K3'
          have K6 : (w3.setCell ⟨w.heap.size + 1, 1, none⟩ (.int .i64 (m : Int))).heap[w.heap.size + 1]? = some (.cells #[.int .i64 y, .int .i64 (m : Int), .int .i64 0] 38 (0, 0)) := by simp [World.setCell, Array.getElem?_modify, K4']
          clear S4 K3' K4'
          generalize (w3.setCell ⟨w.heap.size + 1, 1, none⟩ (.int .i64 (m : Int))) = W5 at *
          have S6 : St b s w (j + gap (dsh s j) + 2 + gap (dsh s j)) W5 := by
            have := S5
            rw [hg'.out] at this ⊢
            exact this
          have K7 := K5
          have K8 := K6
          clear S5 K5 K6
          refine (two_no 1 31 hd S6.r hs hj5 rfl rfl).mono ?_
          rintro e w6 ⟨rfl, g6⟩
          go_wp2_with fail
          rw [hz.out]
          exact ⟨rfl, rfl, grown_trans S6.g g6⟩
        | some d =>
          have hz := Lib.hid (show date s i = some ((y, m, d), j + gap (dsh s j) + 2 + gap (dsh s j) + 2) by rw [date_of HY.out hm hC.out, hd]; rfl)
          go_wp2_with fail
          refine (one_dash s j wc S2.r hs hj).mono ?_
          rintro e w2 ⟨rfl, s2⟩
          go_wp2_with fail
          refine (two_yes 1 12 hm s2.r hs hj1 rfl rfl).mono ?_
          rintro e w3 ⟨rfl, s3⟩
          have S4 := (S2.trans s2).trans s3
          have K3' := blk_grown s3.g (blk_grown s2.g K3 (some_ne (by omega))) (some_ne (by omega))
          have K4' := blk_grown s3.g (blk_grown s2.g K4 (some_ne (by omega))) (some_ne (by omega))
          have qH := Lib.hid (K4')
          have q0 := blk_cell qH.out 0
          have q1 := blk_cell qH.out 1
          have q2 := blk_cell qH.out 2
          have q4 := blk_free qH.out 0
          have q5 := blk_free qH.out 1
          have q6 := blk_free qH.out 2
          simp only [List.getElem?_toArray, List.getElem?_cons_zero, List.getElem?_cons_succ] at q0 q1 q2
          clear s2 s3 S2 K3 K4
          go_wp2_with fail
          clear qH q0 q1 q2 q4 q5 q6
          have S5 := S4.setNew hb (p := ⟨w.heap.size + 1, 1, none⟩) (by simp) (.int .i64 (m : Int))
          have K5 := (Below.heap_setCell w3 ⟨w.heap.size + 1, 1, none⟩ (.int .i64 (m : Int)) w.heap.size (by simp)).trans K3'
          have K6 : (w3.setCell ⟨w.heap.size + 1, 1, none⟩ (.int .i64 (m : Int))).heap[w.heap.size + 1]? = some (.cells #[.int .i64 y, .int .i64 (m : Int), .int .i64 0] 38 (0, 0)) := by simp [World.setCell, Array.getElem?_modify, K4']
          clear S4 K3' K4'
          generalize (w3.setCell ⟨w.heap.size + 1, 1, none⟩ (.int .i64 (m : Int))) = W5 at *
          have S6 : St b s w (j + gap (dsh s j) + 2 + gap (dsh s j)) W5 := by
            have := S5
            rw [hg'.out] at this ⊢
            exact this
          have K7 := K5
          have K8 := K6
          clear S5 K5 K6
          refine (two_yes 1 31 hd S6.r hs hj5 rfl rfl).mono ?_
          rintro e w6 ⟨rfl, s6⟩
          have S7 := S6.trans s6
          have K3' := blk_grown s6.g K7 (some_ne (by omega))
          have K4' := blk_grown s6.g K8 (some_ne (by omega))
          have qH := Lib.hid (K3')
          have q0 := blk_cell qH.out 0
          have q1 := blk_cell qH.out 1
          have q2 := blk_cell qH.out 2
          have q4 := blk_free qH.out 0
          have q5 := blk_free qH.out 1
          have q6 := blk_free qH.out 2
          simp only [List.getElem?_toArray, List.getElem?_cons_zero, List.getElem?_cons_succ] at q0 q1 q2
          have pH := Lib.hid (K4')
          have p0 := blk_cell pH.out 0
          have p1 := blk_cell pH.out 1
          have p2 := blk_cell pH.out 2
          have p4 := blk_free pH.out 0
          have p5 := blk_free pH.out 1
          have p6 := blk_free pH.out 2
          simp only [List.getElem?_toArray, List.getElem?_cons_zero, List.getElem?_cons_succ] at p0 p1 p2
          clear K3' K4' K7 K8
          go_wp2_with fail
          rw [hz.out]
          refine bodyPost_ret (v := .agg #[.int .i64 y, .int .i64 (m : Int), .int .i64 (d : Int)]) (by simp [results, Tryz.results40, go_sem, q0, q1, q2]) rfl ?_
          exact ⟨rfl, (((S7.setNew hb (by simp) _).setNew hb (Nat.le_refl _) _).setNew hb (Nat.le_refl _) _).setNew hb (Nat.le_refl _) _⟩
      | true =>
        have hdv := (dv_yes hL).1
        have hL' := Lib.hid hL
        clear hL
        cases hD : dsh s (j + gap (dsh s j) + 2) with
        | false =>
          have hz := Lib.hid (date_undashed HY.out hm (by rw [hL'.out] at hD ⊢; rw [hD]; rfl))
          have hdv2 := (dv_no hD).2
          clear hD
          go_wp2_with fail
          refine (one_dash s j wc S2.r hs hj).mono ?_
          rintro e w2 ⟨rfl, s2⟩
          go_wp2_with fail
          refine (two_yes 1 12 hm s2.r hs hj1 rfl rfl).mono ?_
          rintro e w3 ⟨rfl, s3⟩
          have S4 := (S2.trans s2).trans s3
          have K3' := blk_grown s3.g (blk_grown s2.g K3 (some_ne (by omega))) (some_ne (by omega))
          have K4' := blk_grown s3.g (blk_grown s2.g K4 (some_ne (by omega))) (some_ne (by omega))
          have qH := Lib.hid (K4')
          have q0 := blk_cell qH.out 0
          have q1 := blk_cell qH.out 1
          have q2 := blk_cell qH.out 2
          have q4 := blk_free qH.out 0
          have q5 := blk_free qH.out 1
          have q6 := blk_free qH.out 2
          simp only [List.getElem?_toArray, List.getElem?_cons_zero, List.getElem?_cons_succ] at q0 q1 q2
          clear s2 s3 S2 K3 K4
          go_wp2_with fail
          clear qH q0 q1 q2 q4 q5 q6
          have S5 := S4.setNew hb (p := ⟨w.heap.size + 1, 1, none⟩) (by simp) (.int .i64 (m : Int))
          have K5 := (Below.heap_setCell w3 ⟨w.heap.size + 1, 1, none⟩ (.int .i64 (m : Int)) w.heap.size (by simp)).trans K3'
          have K6 : (w3.setCell ⟨w.heap.size + 1, 1, none⟩ (.int .i64 (m : Int))).heap[w.heap.size + 1]? = some (.cells #[.int .i64 y, .int .i64 (m : Int), .int .i64 0] 38 (0, 0)) := by simp [World.setCell, Array.getElem?_modify, K4']
          clear S4 K3' K4'
          generalize (w3.setCell ⟨w.heap.size + 1, 1, none⟩ (.int .i64 (m : Int))) = W5 at *
          refine (one_dash s (j + gap (dsh s j) + 2) W5 S5.r hs hj2).mono ?_
          rintro e w5 ⟨rfl, s5⟩
          go_wp2_with (go_at_call 23; refine (wrong_any _ _).mono ?_; rintro e w4 ⟨rfl, hw⟩; rw [hw]; clear hw)
          rw [hz.out]
          exact ⟨rfl, rfl, (S5.trans s5).g⟩
        | true =>
          have hdv2 := (dv_yes hD).2
          have hD' := Lib.hid hD
          have hC := Lib.hid (show (dsh s j && !dsh s (j + gap (dsh s j) + 2)) = false by rw [hL'.out] at hD ⊢; rw [hD]; rfl)
          have hj5 : j + gap (dsh s j) + 2 + gap (dsh s j) ≤ s.size := by rw [hD] at hj3; rw [hL'.out] at hj3 ⊢; exact hj3
          clear hD
          cases hd : two s (j + gap (dsh s j) + 2 + gap (dsh s j)) 1 31 with
          | none =>
            have hz := Lib.hid (show date s i = none by rw [date_of HY.out hm hC.out, hd]; rfl)
            go_wp2_with fail
            refine (one_dash s j wc S2.r hs hj).mono ?_
            rintro e w2 ⟨rfl, s2⟩
            go_wp2_with fail
            refine (two_yes 1 12 hm s2.r hs hj1 rfl rfl).mono ?_
            rintro e w3 ⟨rfl, s3⟩
            have S4 := (S2.trans s2).trans s3
            have K3' := blk_grown s3.g (blk_grown s2.g K3 (some_ne (by omega))) (some_ne (by omega))
            have K4' := blk_grown s3.g (blk_grown s2.g K4 (some_ne (by omega))) (some_ne (by omega))
            have qH := Lib.hid (K4')
            have q0 := blk_cell qH.out 0
            have q1 := blk_cell qH.out 1
            have q2 := blk_cell qH.out 2
            have q4 := blk_free qH.out 0
            have q5 := blk_free qH.out 1
            have q6 := blk_free qH.out 2
            simp only [List.getElem?_toArray, List.getElem?_cons_zero, List.getElem?_cons_succ] at q0 q1 q2
            clear s2 s3 S2 K3 K4
            go_wp2_with fail
            clear qH q0 q1 q2 q4 q5 q6
            have S5 := S4.setNew hb (p := ⟨w.heap.size + 1, 1, none⟩) (by simp) (.int .i64 (m : Int))
            have K5 := (Below.heap_setCell w3 ⟨w.heap.size + 1, 1, none⟩ (.int .i64 (m : Int)) w.heap.size (by simp)).trans K3'
            have K6 : (w3.setCell ⟨w.heap.size + 1, 1, none⟩ (.int .i64 (m : Int))).heap[w.heap.size + 1]? = some (.cells #[.int .i64 y, .int .i64 (m : Int), .int .i64 0] 38 (0, 0)) := by simp [World.setCell, Array.getElem?_modify, K4']
            clear S4 K3' K4'
            generalize (w3.setCell ⟨w.heap.size + 1, 1, none⟩ (.int .i64 (m : Int))) = W5 at *
            refine (one_dash s (j + gap (dsh s j) + 2) W5 S5.r hs hj2).mono ?_
            rintro e w5 ⟨rfl, s5⟩
            have S6 : St b s w (j + gap (dsh s j) + 2 + gap (dsh s j)) w5 := by
              have := S5.trans s5
              rw [hD'.out] at this
              rw [hL'.out] at this ⊢
              exact this
            have K7 := blk_grown s5.g K5 (some_ne (by omega))
            have K8 := blk_grown s5.g K6 (some_ne (by omega))
            clear S5 K5 K6 s5
            go_wp2_with fail
            refine (two_no 1 31 hd S6.r hs hj5 rfl rfl).mono ?_
            rintro e w6 ⟨rfl, g6⟩
            go_wp2_with fail
            rw [hz.out]
            exact ⟨rfl, rfl, grown_trans S6.g g6⟩
          | some d =>
            have hz := Lib.hid (show date s i = some ((y, m, d), j + gap (dsh s j) + 2 + gap (dsh s j) + 2) by rw [date_of HY.out hm hC.out, hd]; rfl)
            go_wp2_with fail
            refine (one_dash s j wc S2.r hs hj).mono ?_
            rintro e w2 ⟨rfl, s2⟩
            go_wp2_with fail
            refine (two_yes 1 12 hm s2.r hs hj1 rfl rfl).mono ?_
            rintro e w3 ⟨rfl, s3⟩
            have S4 := (S2.trans s2).trans s3
            have K3' := blk_grown s3.g (blk_grown s2.g K3 (some_ne (by omega))) (some_ne (by omega))
            have K4' := blk_grown s3.g (blk_grown s2.g K4 (some_ne (by omega))) (some_ne (by omega))
            have qH := Lib.hid (K4')
            have q0 := blk_cell qH.out 0
            have q1 := blk_cell qH.out 1
            have q2 := blk_cell qH.out 2
            have q4 := blk_free qH.out 0
            have q5 := blk_free qH.out 1
            have q6 := blk_free qH.out 2
            simp only [List.getElem?_toArray, List.getElem?_cons_zero, List.getElem?_cons_succ] at q0 q1 q2
            clear s2 s3 S2 K3 K4
            go_wp2_with fail
            clear qH q0 q1 q2 q4 q5 q6
            have S5 := S4.setNew hb (p := ⟨w.heap.size + 1, 1, none⟩) (by simp) (.int .i64 (m : Int))
            have K5 := (Below.heap_setCell w3 ⟨w.heap.size + 1, 1, none⟩ (.int .i64 (m : Int)) w.heap.size (by simp)).trans K3'
            have K6 : (w3.setCell ⟨w.heap.size + 1, 1, none⟩ (.int .i64 (m : Int))).heap[w.heap.size + 1]? = some (.cells #[.int .i64 y, .int .i64 (m : Int), .int .i64 0] 38 (0, 0)) := by simp [World.setCell, Array.getElem?_modify, K4']
            clear S4 K3' K4'
            generalize (w3.setCell ⟨w.heap.size + 1, 1, none⟩ (.int .i64 (m : Int))) = W5 at *
            refine (one_dash s (j + gap (dsh s j) + 2) W5 S5.r hs hj2).mono ?_
            rintro e w5 ⟨rfl, s5⟩
            have S6 : St b s w (j + gap (dsh s j) + 2 + gap (dsh s j)) w5 := by
              have := S5.trans s5
              rw [hD'.out] at this
              rw [hL'.out] at this ⊢
              exact this
            have K7 := blk_grown s5.g K5 (some_ne (by omega))
            have K8 := blk_grown s5.g K6 (some_ne (by omega))
            clear S5 K5 K6 s5
            go_wp2_with fail
            refine (two_yes 1 31 hd S6.r hs hj5 rfl rfl).mono ?_
            rintro e w6 ⟨rfl, s6⟩
            have S7 := S6.trans s6
            have K3' := blk_grown s6.g K7 (some_ne (by omega))
            have K4' := blk_grown s6.g K8 (some_ne (by omega))
            have qH := Lib.hid (K3')
            have q0 := blk_cell qH.out 0
            have q1 := blk_cell qH.out 1
            have q2 := blk_cell qH.out 2
            have q4 := blk_free qH.out 0
            have q5 := blk_free qH.out 1
            have q6 := blk_free qH.out 2
            simp only [List.getElem?_toArray, List.getElem?_cons_zero, List.getElem?_cons_succ] at q0 q1 q2
            have pH := Lib.hid (K4')
            have p0 := blk_cell pH.out 0
            have p1 := blk_cell pH.out 1
            have p2 := blk_cell pH.out 2
            have p4 := blk_free pH.out 0
            have p5 := blk_free pH.out 1
            have p6 := blk_free pH.out 2
            simp only [List.getElem?_toArray, List.getElem?_cons_zero, List.getElem?_cons_succ] at p0 p1 p2
            clear K3' K4' K7 K8
            go_wp2_with fail
            rw [hz.out]
            refine bodyPost_ret (v := .agg #[.int .i64 y, .int .i64 (m : Int), .int .i64 (d : Int)]) (by simp [results, Tryz.results40, go_sem, q0, q1, q2]) rfl ?_
            exact ⟨rfl, (((S7.setNew hb (by simp) _).setNew hb (Nat.le_refl _) _).setNew hb (Nat.le_refl _) _).setNew hb (Nat.le_refl _) _⟩

end Go.Proofs.YtkhpdiilghncgaaGreatDoor
