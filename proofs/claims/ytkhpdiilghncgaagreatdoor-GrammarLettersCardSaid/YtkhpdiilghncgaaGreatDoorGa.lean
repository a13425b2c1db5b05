/- The reader's small methods: next, digit, one, wrong. -/
import Derived.Test.YtkhpdiilghncgaaGreatDoorGp
import Derived.Test.YtkhpdiilghncgaaGreatDoorShelf
import Derived.Test.YtkhpdiilghncgaaGreatDoorProg
import Derived.WalkKit
import Derived.WalkSpells
import Derived.WalkLawsBesides
import Derived.Lib.Hide
import Derived.Deep.QuietTactic
import Derived.BigQuiet
import Derived.PlainAid
namespace Go.Proofs.YtkhpdiilghncgaaGreatDoor
open Go.RowKit
set_option linter.unusedVariables false

/-- The reader's block: its text, and the place. -/
def Rd (w : World) (b : Nat) (s : ByteArray) (i : Nat) : Prop := w.heap[b]? = some (.cells #[.string s, .int .i64 i] 51 (0, 0))

theorem Rd.c0 {w : World} {b : Nat} {s : ByteArray} {i : Nat} (h : Rd w b s i) : w.cell? ⟨b, 0, none⟩ = some (.string s) := by
  unfold Rd at h; simp [World.cell?, h]
theorem Rd.c1 {w : World} {b : Nat} {s : ByteArray} {i : Nat} (h : Rd w b s i) : w.cell? ⟨b, 1, none⟩ = some (.int .i64 i) := by
  unfold Rd at h; simp [World.cell?, h]
theorem Rd.f1 {w : World} {b : Nat} {s : ByteArray} {i : Nat} (h : Rd w b s i) : w.frozen? ⟨b, 1, none⟩ = false := by
  unfold Rd at h; simp [World.frozen?, h]
theorem Rd.drewN {w : World} {b : Nat} {s : ByteArray} {i : Nat} (h : Rd w b s i) (n : Nat) : Rd (w.drewN n) b s i := h
theorem Rd.drew {w : World} {b : Nat} {s : ByteArray} {i : Nat} (h : Rd w b s i) : Rd w.drew b s i := h
theorem Rd.set {w : World} {b : Nat} {s : ByteArray} {i : Nat} (h : Rd w b s i) (j : Nat) : Rd (w.setCell ⟨b, 1, none⟩ (.int .i64 j)) b s j := by
  unfold Rd at *; simp [World.setCell, Array.getElem?_modify, h]
theorem Rd.lt {w : World} {b : Nat} {s : ByteArray} {i : Nat} (h : Rd w b s i) : b < w.heap.size := (Array.getElem?_eq_some_iff.1 h).1
theorem Rd.alloc {w : World} {b : Nat} {s : ByteArray} {i : Nat} (h : Rd w b s i) (o : Obj) : Rd (w.alloc o) b s i := (Below.heap_alloc w o b h.lt).trans h

/-- After some draws. -/
def Dr (w w' : World) : Prop := ∃ n, w' = w.drewN n
theorem Dr.refl (w : World) : Dr w w := ⟨0, rfl⟩
theorem Dr.one (w : World) (n : Nat) : Dr w (w.drewN n) := ⟨n, rfl⟩
theorem Dr.trans {a b c : World} (h : Dr a b) (k : Dr b c) : Dr a c := by
  obtain ⟨n, rfl⟩ := h
  obtain ⟨m, rfl⟩ := k
  exact ⟨n + m, World.drewN_drewN a n m⟩
theorem Dr.rd {a c : World} (h : Dr a c) {b : Nat} {s : ByteArray} {i : Nat} (k : Rd a b s i) : Rd c b s i := by
  obtain ⟨n, rfl⟩ := h
  exact k
theorem Dr.two (w : World) (n m : Nat) : Dr w ((w.drewN n).drewN m) := ⟨n + m, World.drewN_drewN w n m⟩

set_option maxHeartbeats 400000 in
theorem next_any (b : Nat) (s : ByteArray) (i : Nat) (w : World) (hr : Rd w b s i) (hs : s.size ≤ 140737488351232) (hi : i ≤ s.size) :
    Calls Tryz.prog 47 #[.pointer (some ⟨b, 0, none⟩)] w fun e w' => e = .returned (.int .u8 (nx s i)) ∧ Dr w w' := by
  have h0 := hr.c0
  have h1 := hr.c1
  clear hr
  by_cases hlt : i < s.size
  · have hn := Lib.hid (nx_lt hlt)
    go_enter Tryz.func47, Tryz.ntmps47
    go_wp2
    go_quiet (fail)
    go_wp2
    go_quiet (fail)
    go_wp2
    go_ret
    rw [hn.out]
    exact ⟨rfl, Dr.two _ _ _⟩
  · have hn := Lib.hid (nx_end hlt)
    go_enter Tryz.func47, Tryz.ntmps47
    go_wp2
    go_quiet (fail)
    go_wp2
    go_ret
    rw [hn.out]
    exact ⟨rfl, Dr.one _ _⟩

set_option maxHeartbeats 400000 in
theorem digit_any (b : Nat) (s : ByteArray) (i : Nat) (w : World) (hr : Rd w b s i) (hs : s.size ≤ 140737488351232) (hi : i ≤ s.size) :
    Calls Tryz.prog 26 #[.pointer (some ⟨b, 0, none⟩)] w fun e w' => e = .returned (.bool (dg s i)) ∧ Dr w w' := by
  have h0 := hr.c0
  have h1 := hr.c1
  have hN := Lib.hid fun n => Calls.quiet_of (next_any b s i (w.drewN n) (hr.drewN n) hs hi)
  clear hr
  by_cases hlt : i < s.size
  · cases hc : decide ((48 : Int) ≤ (nx s i : Int)) with
    | true =>
      cases he : decide ((nx s i : Int) ≤ 57) with
      | true =>
        have hd : Hid (dg s i = true) := by simp at hc he; simp [dg, Hid]; omega
        go_enter Tryz.func26, Tryz.ntmps26
        go_wp2
        go_quiet ((go_at_call 47; exact hN.out _))
        go_wp2
        go_ret
        exact ⟨by rw [hd.out]; rfl, Dr.one _ _⟩
      | false =>
        have hd : Hid (dg s i = false) := by simp at hc he; simp [dg, Hid]; omega
        go_enter Tryz.func26, Tryz.ntmps26
        go_wp2
        go_quiet ((go_at_call 47; exact hN.out _))
        go_wp2
        go_ret
        exact ⟨by rw [hd.out]; rfl, Dr.one _ _⟩
    | false =>
      have hd : Hid (dg s i = false) := by simp at hc; simp [dg, Hid]; omega
      go_enter Tryz.func26, Tryz.ntmps26
      go_wp2
      go_quiet ((go_at_call 47; exact hN.out _))
      go_wp2
      go_ret
      exact ⟨by rw [hd.out]; rfl, Dr.one _ _⟩
  · have hl : decide ((i : Int) < (s.size : Int)) = false := by simp; omega
    have hd : Hid (dg s i = false) := by simp [dg, Hid, nx_end hlt]
    go_enter Tryz.func26, Tryz.ntmps26
    go_wp2
    go_quiet ((go_at_call 47; exact hN.out _))
    go_wp2
    go_ret
    exact ⟨by rw [hd.out]; rfl, Dr.one _ _⟩

/-- ErrForm, thrown. -/
def eform : List PanicEntry := [{ v := .iface 24 (.int .i64 6), recovered := false }]

theorem wrong_any (a : Addr) (w : World) :
    Calls Tryz.prog 23 #[.pointer (some a)] w fun e w' => e = .panicked eform ∧ w' = w := by
  unfold eform
  go_enter Tryz.func23, Tryz.ntmps23
  go_wp2
  exact ⟨rfl, rfl, rfl⟩

theorem index_any (of : ByteArray) (c : Nat) (w : World) :
    Calls Tryz.prog 29 #[.string of, .int .u8 c] w fun e w' => e = .returned (.int .i64 (ixb of c)) ∧ w' = w :=
  Tryz.strings_IndexByte of c w

/-- The reader at a place, behind a step: its text, its place; all else that was there is as it was. -/
structure St (b : Nat) (s : ByteArray) (w : World) (j : Nat) (w' : World) : Prop where
  g : w.grownBy w' (some b)
  r : Rd w' b s j
theorem grown_refl (w : World) (row : Option Nat) : w.grownBy w row := ⟨rfl, rfl, rfl, Nat.le_refl _, fun _ _ _ => rfl⟩
theorem grown_trans {a b c : World} {row : Option Nat} (h : a.grownBy b row) (k : b.grownBy c row) : a.grownBy c row :=
  ⟨k.os.trans h.os, k.tape.trans h.tape, k.output.trans h.output, Nat.le_trans h.size k.size, fun i hi hn => (k.block i (Nat.lt_of_lt_of_le hi h.size) hn).trans (h.block i hi hn)⟩
theorem grown_drewN {a b : World} {row : Option Nat} (h : a.grownBy b row) (n : Nat) : a.grownBy (b.drewN n) row := ⟨h.os, h.tape, h.output, h.size, h.block⟩
theorem grown_set {a b : World} {row : Nat} (h : a.grownBy b (some row)) (o : Nat) (v : Value) : a.grownBy (b.setCell ⟨row, o, none⟩ v) (some row) :=
  grown_trans h ⟨rfl, rfl, rfl, by simp [World.setCell], fun k _ hk => Below.heap_setCell _ _ _ _ (fun e => hk (by simp [e]))⟩
theorem grown_alloc {a b : World} {row : Option Nat} (h : a.grownBy b row) (o : Obj) : a.grownBy (b.alloc o) row := grown_trans h (World.grownBy_alloc _ _ _)

theorem Rd.setI {w : World} {b : Nat} {s : ByteArray} {i : Nat} (h : Rd w b s i) (j : Nat) (v : Int) (hv : v = (j : Int)) : Rd (w.setCell ⟨b, 1, none⟩ (.int .i64 v)) b s j := by
  subst hv
  exact h.set j
theorem St.refl {b : Nat} {s : ByteArray} {w : World} {i : Nat} (h : Rd w b s i) : St b s w i w := ⟨grown_refl _ _, h⟩
theorem St.trans {b : Nat} {s : ByteArray} {w w' w'' : World} {i j : Nat} (h : St b s w i w') (k : St b s w' j w'') : St b s w j w'' := ⟨grown_trans h.g k.g, k.r⟩
theorem St.drewN {b : Nat} {s : ByteArray} {w w' : World} {i : Nat} (h : St b s w i w') (n : Nat) : St b s w i (w'.drewN n) := ⟨grown_drewN h.g n, h.r⟩
theorem St.dr {b : Nat} {s : ByteArray} {w w' w'' : World} {i : Nat} (h : St b s w i w') (k : Dr w' w'') : St b s w i w'' := by
  obtain ⟨n, rfl⟩ := k
  exact h.drewN n
theorem St.set {b : Nat} {s : ByteArray} {w w' : World} {i : Nat} (h : St b s w i w') (j : Nat) : St b s w j (w'.setCell ⟨b, 1, none⟩ (.int .i64 j)) := ⟨grown_set h.g _ _, h.r.set j⟩
theorem St.setI {b : Nat} {s : ByteArray} {w w' : World} {i : Nat} (h : St b s w i w') (j : Nat) (v : Int) (hv : v = (j : Int)) : St b s w j (w'.setCell ⟨b, 1, none⟩ (.int .i64 v)) := by
  subst hv
  exact h.set j

theorem grown_setNew {a b : World} {row : Option Nat} (h : a.grownBy b row) {p : Addr} (hp : a.heap.size ≤ p.block) (v : Value) : a.grownBy (b.setCell p v) row :=
  ⟨h.os, h.tape, h.output, by simpa [World.setCell] using h.size, fun k hk hn => (Below.heap_setCell _ _ _ _ (by omega)).trans (h.block k hk hn)⟩
theorem Rd.setOther {w : World} {b : Nat} {s : ByteArray} {i : Nat} (h : Rd w b s i) {p : Addr} (hp : p.block ≠ b) (v : Value) : Rd (w.setCell p v) b s i :=
  (Below.heap_setCell _ _ _ _ (fun e => hp e.symm)).trans h
theorem St.setNew {b : Nat} {s : ByteArray} {w w' : World} {i : Nat} (h : St b s w i w') (hb : b < w.heap.size) {p : Addr} (hp : w.heap.size ≤ p.block) (v : Value) : St b s w i (w'.setCell p v) :=
  ⟨grown_setNew h.g hp v, h.r.setOther (by omega) v⟩
theorem St.alloc {b : Nat} {s : ByteArray} {w w' : World} {i : Nat} (h : St b s w i w') (o : Obj) : St b s w i (w'.alloc o) := ⟨grown_alloc h.g o, h.r.alloc o⟩
/-- A block that is known whole. -/
theorem blk_cell {w : World} {k : Nat} {cs : Array Value} {T : TypeId} {fr : Nat × Nat} (h : w.heap[k]? = some (.cells cs T fr)) (o : Nat) : w.cell? ⟨k, o, none⟩ = cs[o]? := by simp [World.cell?, h]
theorem blk_free {w : World} {k : Nat} {cs : Array Value} {T : TypeId} (h : w.heap[k]? = some (.cells cs T (0, 0))) (o : Nat) : w.frozen? ⟨k, o, none⟩ = false := by simp [World.frozen?, h]
theorem blk_new (w : World) (o : Obj) : (w.alloc o).heap[w.heap.size]? = some o := heap_alloc_new w o
theorem blk_grown {w w' : World} {row : Option Nat} (h : w.grownBy w' row) {k : Nat} {o : Obj} (hk : w.heap[k]? = some o) (hn : some k ≠ row) : w'.heap[k]? = some o :=
  (h.block k (Array.getElem?_eq_some_iff.1 hk).1 hn).trans hk
/-- What the walk wants of a block that is known whole, here and behind one new block. -/
theorem blk_facts {w : World} {k : Nat} {cs : Array Value} {T : TypeId} (h : w.heap[k]? = some (.cells cs T (0, 0))) :
    (∀ j, w.cell? ⟨k, j, none⟩ = cs[j]?) ∧ (∀ j, w.frozen? ⟨k, j, none⟩ = false) ∧ (∀ o j, (w.alloc o).cell? ⟨k, j, none⟩ = cs[j]?) ∧ (∀ o j, (w.alloc o).frozen? ⟨k, j, none⟩ = false) := by
  have hl := (Array.getElem?_eq_some_iff.1 h).1
  have ha : ∀ o, (w.alloc o).heap[k]? = some (.cells cs T (0, 0)) := fun o => (Below.heap_alloc w o k hl).trans h
  exact ⟨blk_cell h, blk_free h, fun o => blk_cell (ha o), fun o => blk_free (ha o)⟩

/-- What a method of the reader comes to: a value and a place, or ErrForm. -/
def Out (b : Nat) (s : ByteArray) (w : World) (r : Option (Value × Nat)) (e : Ending) (w' : World) : Prop :=
  match r with
  | some (v, j) => e = .returned v ∧ St b s w j w'
  | none => e = .panicked eform ∧ w.grownBy w' (some b)

set_option maxHeartbeats 400000 in
theorem one_no (b : Nat) (s of : ByteArray) (i : Nat) (w : World) (hr : Rd w b s i) (hs : s.size ≤ 140737488351232) (hi : i ≤ s.size) (h : isOne s i of = false) :
    Calls Tryz.prog 17 #[.pointer (some ⟨b, 0, none⟩), .string of] w fun e w' => e = .returned (.int .u8 0) ∧ Dr w w' := by
  have h0 := hr.c0
  have h1 := hr.c1
  have hN := Lib.hid (next_any b s i w hr hs hi)
  have hH := Lib.hid hr
  clear hr
  by_cases hlt : i < s.size
  · have hx : decide (ixb of (nx s i) < 0) = true := by simp [isOne, hlt] at h; simpa using h
    have hl : decide (s.size ≤ i) = false := by simp; omega
    clear h
    go_enter Tryz.func17, Tryz.ntmps17
    go_wp2_with (go_at_call 47; refine hN.out.mono ?_; rintro e w1 ⟨rfl, hd⟩)
    have hD := Lib.hid hd
    have hR := Lib.hid (hd.rd hH.out)
    have h0 := hR.out.c0
    have h1 := hR.out.c1
    have f1 := hR.out.f1
    clear hd
    go_quiet ((go_at_call 29; exact Calls.quiet_of_same (index_any _ _ _)))
    go_wp2
    go_ret
    exact ⟨rfl, hD.out.trans (Dr.one _ _)⟩
  · have hl : decide (s.size ≤ i) = true := by simp; omega
    clear h
    go_enter Tryz.func17, Tryz.ntmps17
    go_wp2_with (go_at_call 47; refine hN.out.mono ?_; rintro e w1 ⟨rfl, hd⟩)
    have hD := Lib.hid hd
    have hR := Lib.hid (hd.rd hH.out)
    have h0 := hR.out.c0
    have h1 := hR.out.c1
    have f1 := hR.out.f1
    clear hd
    go_quiet ((go_at_call 29; exact Calls.quiet_of_same (index_any _ _ _)))
    go_wp2
    go_ret
    exact ⟨rfl, hD.out.trans (Dr.one _ _)⟩

set_option maxHeartbeats 400000 in
theorem one_yes (b : Nat) (s of : ByteArray) (i : Nat) (w : World) (hr : Rd w b s i) (hs : s.size ≤ 140737488351232) (h : isOne s i of = true) :
    Calls Tryz.prog 17 #[.pointer (some ⟨b, 0, none⟩), .string of] w fun e w' => e = .returned (.int .u8 (nx s i)) ∧ St b s w (i + 1) w' := by
  have h0 := hr.c0
  have h1 := hr.c1
  have f1 := hr.f1
  have hH := Lib.hid hr
  have hlt : i < s.size := by simp [isOne] at h; exact h.1
  have hN := Lib.hid (next_any b s i w hr hs (by omega))
  have hx : decide (ixb of (nx s i) < 0) = false := by simp [isOne, hlt] at h; simpa using h
  have hl : decide (s.size ≤ i) = false := by simp; omega
  clear h hr
  go_enter Tryz.func17, Tryz.ntmps17
  go_wp2_with (go_at_call 47; refine hN.out.mono ?_; rintro e w1 ⟨rfl, hd⟩)
  have hD := Lib.hid hd
  have hR := Lib.hid (hd.rd hH.out)
  have h0 := hR.out.c0
  have h1 := hR.out.c1
  have f1 := hR.out.f1
  clear hd
  go_quiet ((go_at_call 29; exact Calls.quiet_of_same (index_any _ _ _)))
  go_wp2
  go_ret
  exact ⟨rfl, (((St.refl hH.out).dr hD.out).drewN nq).setI (i + 1) _ (by simp)⟩

end Go.Proofs.YtkhpdiilghncgaaGreatDoor
