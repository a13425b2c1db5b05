/- The reader's offset. -/
import Derived.Test.YtkhpdiilghncgaaGreatDoorGf
namespace Go.Proofs.YtkhpdiilghncgaaGreatDoor
open Go.RowKit
set_option linter.unusedVariables false

/-- New blocks, and writes to two rows alone. -/
structure Gw (b c : Nat) (w w' : World) : Prop where
  os : w'.os = w.os
  tape : w'.tape = w.tape
  output : w'.output = w.output
  size : w.heap.size ≤ w'.heap.size
  block : ∀ k, k < w.heap.size → k ≠ b → k ≠ c → w'.heap[k]? = w.heap[k]?
theorem Gw.of {b c : Nat} {w w' : World} (h : w.grownBy w' (some b)) : Gw b c w w' := ⟨h.os, h.tape, h.output, h.size, fun k hk h1 _ => h.block k hk (some_ne h1)⟩
theorem Gw.of2 {b c : Nat} {w w' : World} (h : w.grownBy w' (some c)) : Gw b c w w' := ⟨h.os, h.tape, h.output, h.size, fun k hk _ h2 => h.block k hk (some_ne h2)⟩
theorem Gw.trans {b c : Nat} {w w' w'' : World} (h : Gw b c w w') (k : Gw b c w' w'') : Gw b c w w'' :=
  ⟨k.os.trans h.os, k.tape.trans h.tape, k.output.trans h.output, Nat.le_trans h.size k.size, fun i hi h1 h2 => (k.block i (Nat.lt_of_lt_of_le hi h.size) h1 h2).trans (h.block i hi h1 h2)⟩
theorem Gw.set2 {b c : Nat} {w w' : World} (h : Gw b c w w') (o : Nat) (v : Value) : Gw b c w (w'.setCell ⟨c, o, none⟩ v) :=
  h.trans (Gw.of2 (grown_set (grown_refl _ _) o v))
theorem Gw.blk {b c : Nat} {w w' : World} (h : Gw b c w w') {k : Nat} {o : Obj} (hk : w.heap[k]? = some o) (h1 : k ≠ b) (h2 : k ≠ c) : w'.heap[k]? = some o :=
  (h.block k (Array.getElem?_eq_some_iff.1 hk).1 h1 h2).trans hk
theorem Gw.alloc {b c : Nat} {w w' : World} (h : Gw b c w w') (o : Obj) : Gw b c w (w'.alloc o) := h.trans (Gw.of (World.grownBy_alloc _ _ _))
theorem Gw.setNew {b c : Nat} {w w' : World} (h : Gw b c w w') {p : Addr} (hp : w.heap.size ≤ p.block) (v : Value) : Gw b c w (w'.setCell p v) :=
  ⟨h.os, h.tape, h.output, by simpa [World.setCell] using h.size, fun k hk h1 h2 => (Below.heap_setCell _ _ _ _ (by omega)).trans (h.block k hk h1 h2)⟩
theorem Gw.refl (b c : Nat) (w : World) : Gw b c w w := ⟨rfl, rfl, rfl, Nat.le_refl _, fun _ _ _ _ => rfl⟩
/-- If both rows are new, nothing that was there has turned. -/
theorem Gw.none {b c : Nat} {w w1 w' : World} (h : w.grownBy w1 none) (k : Gw b c w1 w') (hb : w.heap.size ≤ b) (hc : w.heap.size ≤ c) : w.grownBy w' none :=
  ⟨k.os.trans h.os, k.tape.trans h.tape, k.output.trans h.output, Nat.le_trans h.size k.size, fun i hi _ => (k.block i (Nat.lt_of_lt_of_le hi h.size) (by omega) (by omega)).trans (h.block i hi (by simp))⟩

/-- The parts' block. -/
def pcells (dt : Value × Value × Value) (ht : Value) (tm : Value × Value × Value × Value) (kd off : Int) (zone : ByteArray) : Array Value :=
  #[dt.1, dt.2.1, dt.2.2, ht, tm.1, tm.2.1, tm.2.2.1, tm.2.2.2, .int .i64 kd, .int .i64 off, .string zone]
def Pb (w : World) (c : Nat) (a : Array Value) : Prop := w.heap[c]? = some (.cells a 40 (0, 0))
theorem Pb.step {b c : Nat} {w w' : World} {a : Array Value} (h : Pb w c a) (g : w.grownBy w' (some b)) (hne : c ≠ b) : Pb w' c a := blk_grown g h (some_ne hne)
theorem Pb.lt {w : World} {c : Nat} {a : Array Value} (h : Pb w c a) : c < w.heap.size := (Array.getElem?_eq_some_iff.1 h).1

theorem Pb.set {w : World} {c : Nat} {a : Array Value} (h : Pb w c a) (o : Nat) (v : Value) : Pb (w.setCell ⟨c, o, none⟩ v) c (a.setIfInBounds o v) := by
  unfold Pb at *; simp [World.setCell, Array.getElem?_modify, h]

theorem one_zulu {b : Nat} (s : ByteArray) (i : Nat) (w : World) (hr : Rd w b s i) (hs : s.size ≤ 140737488351232) (hi : i ≤ s.size) :
    Calls Tryz.prog 17 #[.pointer (some ⟨b, 0, none⟩), .string ⟨#[90, 122]⟩] w fun e w' => e = .returned (.int .u8 (if nx s i = 90 ∨ nx s i = 122 then nx s i else 0 : Nat)) ∧ St b s w (if nx s i = 90 ∨ nx s i = 122 then i + 1 else i) w' := by
  cases hc : isOne s i ⟨#[90, 122]⟩ with
  | true =>
    have hc' := hc
    rw [isOne_2 s i 90 122 (by decide) (by decide)] at hc
    simp at hc
    rw [if_pos hc, if_pos hc]
    exact one_yes b s _ i w hr hs hc'
  | false =>
    have hc' := hc
    rw [isOne_2 s i 90 122 (by decide) (by decide)] at hc
    simp at hc
    rw [if_neg (by omega), if_neg (by omega)]
    exact (one_no b s _ i w hr hs hi hc').mono fun e w' ⟨h1, h2⟩ => ⟨h1, (St.refl hr).dr h2⟩

set_option maxHeartbeats 1000000 in
theorem offset_yes {b c : Nat} {s : ByteArray} {i : Nat} {w : World} {dt : Value × Value × Value} {ht : Value} {tm : Value × Value × Value × Value} {zone : ByteArray} {kd k : Nat} {o : Int}
    (ho : offs s i = some ((kd, o), k)) (hr : Rd w b s i) (hp : Pb w c (pcells dt ht tm 0 0 zone)) (hbc : c ≠ b) (hs : s.size ≤ 140737488351232) (hi : i ≤ s.size) :
    Calls Tryz.prog 41 #[.pointer (some ⟨b, 0, none⟩), .pointer (some ⟨c, 0, none⟩)] w fun e w' => e = .returned (.tuple #[]) ∧ Gw b c w w' ∧ Rd w' b s k ∧ Pb w' c (pcells dt ht tm kd o zone) := by
  have H1 := Lib.hid (one_zulu s i w hr hs hi)
  by_cases cz : nx s i = 90 ∨ nx s i = 122
  · rw [if_pos cz, if_pos cz] at H1
    have hpos : decide (0 < nx s i) = true := by simp; omega
    simp [offs, cz] at ho
    obtain ⟨⟨rfl, rfl⟩, rfl⟩ := ho
    clear cz hr
    go_enter Tryz.func41, Tryz.ntmps41
    go_wp2_with fail
    refine H1.out.mono ?_
    rintro e w1 ⟨rfl, s1⟩
    have P1 := hp.step s1.g hbc
    have q0 := blk_cell P1 8
    have q1 := blk_free P1 8
    simp only [pcells, List.getElem?_toArray, List.getElem?_cons_zero, List.getElem?_cons_succ] at q0
    go_wp2_with fail
    refine bodyPost_ret (results_none rfl _ _ _) rfl ⟨rfl, (Gw.of s1.g).set2 _ _, s1.r.setOther (by simpa using hbc) _, ?_⟩
    exact P1.set 8 (.int .i64 1)
  · rw [if_neg cz, if_neg cz] at H1
    by_cases cs : nx s i = 43 ∨ nx s i = 45
    · cases hck : clock s (i + 1) 59 with
      | none => simp [offs, cz, cs, hck] at ho
      | some r =>
        obtain ⟨h, m, x, n, j⟩ := r
        have bd := clock_bd hck
        have hck' := Lib.hid hck
        have b1 : (h : Int) ≤ 23 := by omega
        have b2 : (m : Int) ≤ 59 := by omega
        have b3 : (x : Int) ≤ 59 := by omega
        have hx := nx_in (s := s) (i := i) (by omega)
        have hsl : sl s i = 1 := by simp [sl, cs]
        by_cases c45 : nx s i = 45
        · have hO : ((2 : Nat), -((h * 3600 + m * 60 + x : Nat) : Int)) = (kd, o) ∧ j = k := by simpa [offs, cz, cs, hck, c45] using ho
          obtain ⟨hO1, rfl⟩ := hO
          have e0 : ((sg s i : Int) == 0) = false := by simp [sg, c45]
          obtain ⟨_, e1, _⟩ := sg_45 c45
          clear bd hck ho
          have hsl' := Lib.hid hsl
          clear hsl
          go_enter Tryz.func41, Tryz.ntmps41
          go_wp2_with fail
          refine H1.out.mono ?_
          rintro e w1 ⟨rfl, s1⟩
          go_wp2_with fail
          refine (one_sign s i w1 s1.r hs hi).mono ?_
          rintro e w2 ⟨rfl, s2⟩
          rw [hsl'.out] at s2
          go_wp2_with fail
          refine (clock_yes 59 hck'.out s2.r hs hx rfl).mono ?_
          rintro e w3 ⟨rfl, s3⟩
          have P3 := ((hp.step s1.g hbc).step s2.g hbc).step s3.g hbc
          have q0 := blk_cell P3 8
          have q1 := blk_free P3 8
          have q2 := blk_cell P3 9
          have q3 := blk_free P3 9
          simp only [pcells, List.getElem?_toArray, List.getElem?_cons_zero, List.getElem?_cons_succ] at q0 q2
          go_wp2_with fail
          refine bodyPost_end (results_none rfl _ _ _) rfl ⟨rfl, (((Gw.of (grown_trans s1.g (grown_trans s2.g s3.g))).set2 _ _).set2 _ _).set2 _ _, ((s3.r.setOther (by simpa using hbc) _).setOther (by simpa using hbc) _).setOther (by simpa using hbc) _, ?_⟩
          have := ((P3.set 8 (.int .i64 2)).set 9 (.int .i64 ((h : Int) * 3600 + (m : Int) * 60 + (x : Int)))).set 9 (.int .i64 (-((h : Int) * 3600 + (m : Int) * 60 + (x : Int))))
          simp only [Prod.mk.injEq] at hO1
          obtain ⟨rfl, rfl⟩ := hO1
          exact this
        · have c43 : nx s i = 43 := by omega
          have hO : ((2 : Nat), ((h * 3600 + m * 60 + x : Nat) : Int)) = (kd, o) ∧ j = k := by simpa [offs, cz, c43, hck, c45] using ho
          obtain ⟨hO1, rfl⟩ := hO
          have e0 : ((sg s i : Int) == 0) = false := by simp [sg, c43]
          have e1 : ((sg s i : Int) == 45) = false := by simp [sg, c43]
          clear bd hck ho
          have hsl' := Lib.hid hsl
          clear hsl
          go_enter Tryz.func41, Tryz.ntmps41
          go_wp2_with fail
          refine H1.out.mono ?_
          rintro e w1 ⟨rfl, s1⟩
          go_wp2_with fail
          refine (one_sign s i w1 s1.r hs hi).mono ?_
          rintro e w2 ⟨rfl, s2⟩
          rw [hsl'.out] at s2
          go_wp2_with fail
          refine (clock_yes 59 hck'.out s2.r hs hx rfl).mono ?_
          rintro e w3 ⟨rfl, s3⟩
          have P3 := ((hp.step s1.g hbc).step s2.g hbc).step s3.g hbc
          have q0 := blk_cell P3 8
          have q1 := blk_free P3 8
          have q2 := blk_cell P3 9
          have q3 := blk_free P3 9
          simp only [pcells, List.getElem?_toArray, List.getElem?_cons_zero, List.getElem?_cons_succ] at q0 q2
          go_wp2_with fail
          refine bodyPost_end (results_none rfl _ _ _) rfl ⟨rfl, ((Gw.of (grown_trans s1.g (grown_trans s2.g s3.g))).set2 _ _).set2 _ _, (s3.r.setOther (by simpa using hbc) _).setOther (by simpa using hbc) _, ?_⟩
          have := (P3.set 8 (.int .i64 2)).set 9 (.int .i64 ((h : Int) * 3600 + (m : Int) * 60 + (x : Int)))
          simp only [Prod.mk.injEq] at hO1
          obtain ⟨rfl, rfl⟩ := hO1
          exact this
    · have hO : (0 : Nat) = kd ∧ (0 : Int) = o ∧ i = k := by simpa [offs, cz, cs, and_assoc] using ho
      obtain ⟨rfl, rfl, rfl⟩ := hO
      have hsl : sl s i = 0 := by simp [sl, cs]
      have e0 : ((sg s i : Int) == 0) = true := by
        have c1 : nx s i ≠ 43 := fun h => cs (.inl h)
        have c2 : nx s i ≠ 45 := fun h => cs (.inr h)
        simp [sg, c1, c2]
      have hsl' := Lib.hid hsl
      clear hsl ho hr
      go_enter Tryz.func41, Tryz.ntmps41
      go_wp2_with fail
      refine H1.out.mono ?_
      rintro e w1 ⟨rfl, s1⟩
      go_wp2_with fail
      refine (one_sign s i w1 s1.r hs hi).mono ?_
      rintro e w2 ⟨rfl, s2⟩
      rw [hsl'.out] at s2
      go_wp2_with fail
      exact bodyPost_ret (results_none rfl _ _ _) rfl ⟨rfl, Gw.of (grown_trans s1.g s2.g), s2.r, (hp.step s1.g hbc).step s2.g hbc⟩

theorem offset_no {b c : Nat} {s : ByteArray} {i : Nat} {w : World} (ho : offs s i = none) (hr : Rd w b s i) (hs : s.size ≤ 140737488351232) (hi : i ≤ s.size) :
    Calls Tryz.prog 41 #[.pointer (some ⟨b, 0, none⟩), .pointer (some ⟨c, 0, none⟩)] w fun e w' => e = .panicked eform ∧ w.grownBy w' (some b) := by
  have H1 := Lib.hid (one_zulu s i w hr hs hi)
  by_cases cz : nx s i = 90 ∨ nx s i = 122
  · simp [offs, cz] at ho
  · rw [if_neg cz, if_neg cz] at H1
    by_cases cs : nx s i = 43 ∨ nx s i = 45
    · cases hck : clock s (i + 1) 59 with
      | some r => simp [offs, cz, cs, hck] at ho
      | none =>
        have hck' := Lib.hid hck
        have hx := nx_in (s := s) (i := i) (by omega)
        have hsl' := Lib.hid (show sl s i = 1 by simp [sl, cs])
        have e0 : ((sg s i : Int) == 0) = false := by rcases cs with cs | cs <;> simp [sg, cs]
        clear hck ho hr
        go_enter Tryz.func41, Tryz.ntmps41
        go_wp2_with fail
        refine H1.out.mono ?_
        rintro e w1 ⟨rfl, s1⟩
        go_wp2_with fail
        refine (one_sign s i w1 s1.r hs hi).mono ?_
        rintro e w2 ⟨rfl, s2⟩
        rw [hsl'.out] at s2
        go_wp2_with fail
        refine (clock_no 59 hck'.out s2.r hs hx rfl).mono ?_
        rintro e w3 ⟨rfl, g3⟩
        go_wp2_with fail
        exact ⟨rfl, rfl, grown_trans s1.g (grown_trans s2.g g3)⟩
    · simp [offs, cz, cs] at ho

end Go.Proofs.YtkhpdiilghncgaaGreatDoor
