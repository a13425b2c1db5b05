/- A panic caught; Clock. -/
import Derived.Test.YtkhpdiilghncgaaGreatDoorGd
import Derived.Defers
import Derived.Recover
import Derived.Laws.Pointers
namespace Go.Proofs.YtkhpdiilghncgaaGreatDoor
open Go.RowKit
set_option linter.unusedVariables false

theorem assert_errno (pv : Int) (w : World) : (Instr.typeAssert (.iface 24 (.int .i64 pv)) 20 24 true).run Tryz.prog w = .ok (.tuple #[.int .i64 pv, .bool true]) w := by kernel_rfl
theorem assert_nil (w : World) : (Instr.typeAssert .nilIface 20 24 true).run Tryz.prog w = .ok (.tuple #[.int .i64 0, .bool false]) w := by kernel_rfl

set_option maxHeartbeats 400000 in
theorem caught_panic {e : Addr} {f : FuncId} {cap : Array Value} {pv x : Int} {older : List PanicEntry} {w w2 : World} (hc : w.cell? e = some (.int .i64 x)) (hz : w.frozen? e = false)
    (hf : ∀ w : World, (callFunc f cap).run Tryz.prog w = .ok (.enter f cap) w) (hclear : Calls Tryz.prog f cap (w.setCell e (.int .i64 pv)) fun e' w' => e' = .returned (.tuple #[]) ∧ w' = w2) :
    CallsD Tryz.prog 15 #[.pointer (some e), .func (.func f) #[] cap] (.panicking ({ v := .iface 24 (.int .i64 pv), recovered := false } :: older)) w fun e' u' w' =>
      e' = .returned (.tuple #[]) ∧ u' = .panicking ({ v := .iface 24 (.int .i64 pv), recovered := true } :: older) ∧ w' = w2 := by
  have HC := Lib.hid hclear
  clear hclear
  refine callsD_of_wpS Tryz.func15 rfl fun c₀ cs hu => ?_
  simp only [Tryz.ntmps15, List.size_toArray, List.length_cons, List.length_nil, Nat.reduceAdd, Nat.reduceSub, Array.replicate_succ,
       Array.replicate_zero, List.push_toArray, List.append_toArray, List.nil_append, List.cons_append]
  apply wpS_seq
  apply wpS_region
  simp [wpOpsS, go_sem, recoverD, hu, Exit.thenS, assert_errno, assert_nil]
  refine wpS_of_wp ?_
  clear hu
  go_wp2_with fail
  refine HC.out.mono ?_
  rintro e' w' ⟨rfl, hw⟩
  rw [hw]
  clear hw
  go_wp2_with fail
  exact ⟨rfl, _, rfl, _, results_none rfl _ _ _, rfl, rfl, rfl⟩

set_option maxHeartbeats 400000 in
theorem caught_idle {e : Addr} {v : Value} {w : World} :
    CallsD Tryz.prog 15 #[.pointer (some e), v] .returning w fun e' u' w' =>
      e' = .returned (.tuple #[]) ∧ u' = .returning ∧ w' = w := by
  refine callsD_of_wpS Tryz.func15 rfl fun c₀ cs hu => ?_
  simp only [Tryz.ntmps15, List.size_toArray, List.length_cons, List.length_nil, Nat.reduceAdd, Nat.reduceSub, Array.replicate_succ,
       Array.replicate_zero, List.push_toArray, List.append_toArray, List.nil_append, List.cons_append]
  apply wpS_seq
  apply wpS_region
  simp [wpOpsS, go_sem, recoverD, hu, Exit.thenS, assert_errno, assert_nil]
  refine wpS_of_wp ?_
  go_wp2_with fail
  cases c₀
  simp_all [bodyPostS, results, Tryz.results15]

theorem some_ne {a b : Nat} (h : a ≠ b) : some a ≠ some b := fun e => h (Option.some.inj e)
/-- A new block's writes, and what a step of the reader's leaves: nothing that was there has turned. -/
theorem grown_new {w w1 w' : World} {b : Nat} (h : w.grownBy w1 none) (k : w1.grownBy w' (some b)) (hb : w.heap.size ≤ b) : w.grownBy w' none :=
  ⟨k.os.trans h.os, k.tape.trans h.tape, k.output.trans h.output, Nat.le_trans h.size k.size, fun i hi _ => (k.block i (Nat.lt_of_lt_of_le hi h.size) (by simp; omega)).trans (h.block i hi (by simp))⟩

set_option maxHeartbeats 400000 in
theorem clear_time {b : Nat} {v0 v1 v2 v3 : Value} {w : World} (h : w.heap[b]? = some (.cells #[v0, v1, v2, v3] 23 (0, 0))) :
    Calls Tryz.prog 16 #[.pointer (some ⟨b, 0, none⟩)] w fun e w' => e = .returned (.tuple #[]) ∧ w' = (((w.setCell ⟨b, 0, none⟩ (.int .i64 0)).setCell ⟨b, 1, none⟩ (.int .i64 0)).setCell ⟨b, 2, none⟩ (.int .i64 0)).setCell ⟨b, 3, none⟩ (.int .i64 0) := by
  have qH := Lib.hid (h)
  have q0 := blk_cell qH.out 0
  have q1 := blk_cell qH.out 1
  have q2 := blk_cell qH.out 2
  have q3 := blk_cell qH.out 3
  have q4 := blk_free qH.out 0
  have q5 := blk_free qH.out 1
  have q6 := blk_free qH.out 2
  have q7 := blk_free qH.out 3
  simp only [List.getElem?_toArray, List.getElem?_cons_zero, List.getElem?_cons_succ] at q0 q1 q2 q3
  clear h
  go_enter Tryz.func16, Tryz.ntmps16
  go_wp2_with fail
  go_end0
  exact ⟨rfl, rfl⟩

/-- What Clock hands back. -/
def clkV (r : Option (Nat × Nat × Nat × Nat)) : Value := match r with
  | some (h, m, x, v) => .tuple #[.agg #[.int .i64 (h : Int), .int .i64 (m : Int), .int .i64 (x : Int), .int .i64 (v : Int)], .int .i64 0]
  | none => .tuple #[.agg #[.int .i64 0, .int .i64 0, .int .i64 0, .int .i64 0], .int .i64 6]

theorem one_skip {b : Nat} (s : ByteArray) (w : World) (hr : Rd w b s 0) (hs : s.size ≤ 140737488351232) :
    Calls Tryz.prog 17 #[.pointer (some ⟨b, 0, none⟩), .string ⟨#[84, 116]⟩] w fun e w' => (∃ v, e = .returned v) ∧ St b s w (tskip s 0) w' := by
  cases hc : isOne s 0 ⟨#[84, 116]⟩ with
  | true =>
    have : tskip s 0 = 0 + 1 := by rw [isOne_2 s 0 84 116 (by decide) (by decide)] at hc; simp at hc; simp [tskip, hc]
    rw [this]
    exact (one_yes b s _ 0 w hr hs hc).mono fun e w' ⟨h1, h2⟩ => ⟨⟨_, h1⟩, h2⟩
  | false =>
    have : tskip s 0 = 0 := by rw [isOne_2 s 0 84 116 (by decide) (by decide)] at hc; simp at hc; simp [tskip, hc]
    rw [this]
    exact (one_no b s _ 0 w hr hs (by omega) hc).mono fun e w' ⟨h1, h2⟩ => ⟨⟨_, h1⟩, (St.refl hr).dr h2⟩
theorem tskip_le (s : ByteArray) : tskip s 0 ≤ s.size := by
  unfold tskip
  split
  · have := nx_in (s := s) (i := 0) (by omega); omega
  · omega

theorem set4 {w : World} {b : Nat} {a0 a1 a2 a3 : Value} {T : TypeId} (h : w.heap[b]? = some (.cells #[a0, a1, a2, a3] T (0, 0))) (v0 v1 v2 v3 : Value) :
    ((((w.setCell ⟨b, 0, none⟩ v0).setCell ⟨b, 1, none⟩ v1).setCell ⟨b, 2, none⟩ v2).setCell ⟨b, 3, none⟩ v3).heap[b]? = some (.cells #[v0, v1, v2, v3] T (0, 0)) := by
  simp [World.setCell, Array.getElem?_modify, h]

set_option maxHeartbeats 1000000 in
theorem clock_fn (s : ByteArray) (w : World) (hs : s.size ≤ 140737488351232) :
    Calls Tryz.prog 8 #[.string s] w fun e w' => e = .returned (clkV (clk s)) ∧ w.grownBy w' none := by
  have hmf : ∀ (fn : Fn) (first cap : Array Value) (w : World), (Instr.makeFunc fn first cap).run Tryz.prog w = .ok (.func fn first cap) w := fun _ _ _ _ => rfl
  cases ht : time s (tskip s 0) with
  | none =>
    have hz := Lib.hid (show clk s = none by simp [clk, ht])
    go_enter_defers Tryz.func8, Tryz.ntmps8
    go_wp2_with fail
    have g0 : w.grownBy (((w.alloc (.cells #[.int .i64 0, .int .i64 0, .int .i64 0, .int .i64 0] 23)).alloc (.cells #[.int .i64 0] 24)).alloc (.cells #[.string s, .int .i64 0] 51)) none := grown_alloc (grown_alloc (grown_alloc (grown_refl _ _) _) _) _
    have R3 : Rd (((w.alloc (.cells #[.int .i64 0, .int .i64 0, .int .i64 0, .int .i64 0] 23)).alloc (.cells #[.int .i64 0] 24)).alloc (.cells #[.string s, .int .i64 0] 51)) (w.heap.size + 1 + 1) s 0 := by
      have := blk_new ((w.alloc (.cells #[.int .i64 0, .int .i64 0, .int .i64 0, .int .i64 0] 23)).alloc (.cells #[.int .i64 0] 24)) (.cells #[.string s, .int .i64 0] 51)
      simpa [Rd] using this
    have k1 : (((w.alloc (.cells #[.int .i64 0, .int .i64 0, .int .i64 0, .int .i64 0] 23)).alloc (.cells #[.int .i64 0] 24)).alloc (.cells #[.string s, .int .i64 0] 51)).heap[w.heap.size + 1]? = some (.cells #[.int .i64 0] 24 (0, 0)) := by
      have := blk_new (w.alloc (.cells #[.int .i64 0, .int .i64 0, .int .i64 0, .int .i64 0] 23)) (.cells #[.int .i64 0] 24)
      exact blk_grown (World.grownBy_alloc _ _ none) (by simpa using this) (by simp)
    have k0 := blk_grown (row := none) (World.grownBy_alloc ((w.alloc (.cells #[.int .i64 0, .int .i64 0, .int .i64 0, .int .i64 0] 23)).alloc (.cells #[.int .i64 0] 24)) (.cells #[.string s, .int .i64 0] 51) none) (blk_grown (row := none) (World.grownBy_alloc _ (.cells #[.int .i64 0] 24) none) (blk_new w (.cells #[.int .i64 0, .int .i64 0, .int .i64 0, .int .i64 0] 23)) (by simp)) (by simp)
    generalize (((w.alloc (.cells #[.int .i64 0, .int .i64 0, .int .i64 0, .int .i64 0] 23)).alloc (.cells #[.int .i64 0] 24)).alloc (.cells #[.string s, .int .i64 0] 51)) = W3 at *
    refine (one_skip s W3 R3 hs).mono ?_
    rintro e w1 ⟨⟨v1, rfl⟩, s1⟩
    go_wp2_with fail
    refine (time_no ht s1.r hs (tskip_le s)).mono ?_
    rintro e w2 ⟨rfl, hg⟩
    have hg := grown_trans s1.g hg
    go_wp2_with fail
    have k0' := blk_grown hg k0 (some_ne (by omega))
    have k1' := blk_grown hg k1 (some_ne (by omega))
    refine leaves_cons (f := 15) (args := #[.pointer (some ⟨w.heap.size + 1, 0, none⟩), .func (.func 16) #[] #[.pointer (some ⟨w.heap.size, 0, none⟩)]]) (by simp) (by simp [go_sem]) ?_
    unfold eform
    refine (caught_panic (f := 16) (blk_cell k1' 0) (blk_free k1' 0) (fun _ => by simp [go_sem]) (clear_time ((Below.heap_setCell _ _ _ _ (by simp)).trans k0'))).mono ?_
    rintro e u' w'' ⟨rfl, rfl, rfl⟩
    have qH := Lib.hid (k0')
    have q0 := blk_cell qH.out 0
    have q1 := blk_cell qH.out 1
    have q2 := blk_cell qH.out 2
    have q3 := blk_cell qH.out 3
    have q4 := blk_free qH.out 0
    have q5 := blk_free qH.out 1
    have q6 := blk_free qH.out 2
    have q7 := blk_free qH.out 3
    simp only [List.getElem?_toArray, List.getElem?_cons_zero, List.getElem?_cons_succ] at q0 q1 q2 q3
    have r0 := blk_cell k1' 0
    simp only [List.getElem?_toArray, List.getElem?_cons_zero] at r0
    have rz : Hid (Leaves Tryz.prog Tryz.f8 = Leaves Tryz.prog Tryz.f8) := rfl
    rw [hz.out]
    simp [Leaves, settle, results, Tryz.results8, go_sem, q0, q1, q2, q3, r0, clkV]
    exact grown_setNew (grown_setNew (grown_setNew (grown_setNew (grown_setNew (grown_new g0 hg (by omega)) (by simp) _) (Nat.le_refl _) _) (Nat.le_refl _) _) (Nat.le_refl _) _) (Nat.le_refl _) _
  | some r =>
    obtain ⟨⟨h, m, x, v⟩, k⟩ := r
    by_cases hk : k = s.size
    · have hz := Lib.hid (show clk s = some (h, m, x, v) by simp [clk, ht, hk])
      go_enter_defers Tryz.func8, Tryz.ntmps8
      go_wp2_with fail
      have g0 : w.grownBy (((w.alloc (.cells #[.int .i64 0, .int .i64 0, .int .i64 0, .int .i64 0] 23)).alloc (.cells #[.int .i64 0] 24)).alloc (.cells #[.string s, .int .i64 0] 51)) none := grown_alloc (grown_alloc (grown_alloc (grown_refl _ _) _) _) _
      have R3 : Rd (((w.alloc (.cells #[.int .i64 0, .int .i64 0, .int .i64 0, .int .i64 0] 23)).alloc (.cells #[.int .i64 0] 24)).alloc (.cells #[.string s, .int .i64 0] 51)) (w.heap.size + 1 + 1) s 0 := by
        have := blk_new ((w.alloc (.cells #[.int .i64 0, .int .i64 0, .int .i64 0, .int .i64 0] 23)).alloc (.cells #[.int .i64 0] 24)) (.cells #[.string s, .int .i64 0] 51)
        simpa [Rd] using this
      have k1 : (((w.alloc (.cells #[.int .i64 0, .int .i64 0, .int .i64 0, .int .i64 0] 23)).alloc (.cells #[.int .i64 0] 24)).alloc (.cells #[.string s, .int .i64 0] 51)).heap[w.heap.size + 1]? = some (.cells #[.int .i64 0] 24 (0, 0)) := by
        have := blk_new (w.alloc (.cells #[.int .i64 0, .int .i64 0, .int .i64 0, .int .i64 0] 23)) (.cells #[.int .i64 0] 24)
        exact blk_grown (World.grownBy_alloc _ _ none) (by simpa using this) (by simp)
      have k0 := blk_grown (row := none) (World.grownBy_alloc ((w.alloc (.cells #[.int .i64 0, .int .i64 0, .int .i64 0, .int .i64 0] 23)).alloc (.cells #[.int .i64 0] 24)) (.cells #[.string s, .int .i64 0] 51) none) (blk_grown (row := none) (World.grownBy_alloc _ (.cells #[.int .i64 0] 24) none) (blk_new w (.cells #[.int .i64 0, .int .i64 0, .int .i64 0, .int .i64 0] 23)) (by simp)) (by simp)
      generalize (((w.alloc (.cells #[.int .i64 0, .int .i64 0, .int .i64 0, .int .i64 0] 23)).alloc (.cells #[.int .i64 0] 24)).alloc (.cells #[.string s, .int .i64 0] 51)) = W3 at *
      refine (one_skip s W3 R3 hs).mono ?_
      rintro e w1 ⟨⟨v1, rfl⟩, s1⟩
      go_wp2_with fail
      refine (time_yes ht s1.r hs (tskip_le s)).mono ?_
      rintro e w2 ⟨rfl, s2⟩
      have s2 := s1.trans s2
      have k0' := blk_grown s2.g k0 (some_ne (by omega))
      have k1' := blk_grown s2.g k1 (some_ne (by omega))
      have qH := Lib.hid (k0')
      have q0 := blk_cell qH.out 0
      have q1 := blk_cell qH.out 1
      have q2 := blk_cell qH.out 2
      have q3 := blk_cell qH.out 3
      have q4 := blk_free qH.out 0
      have q5 := blk_free qH.out 1
      have q6 := blk_free qH.out 2
      have q7 := blk_free qH.out 3
      simp only [List.getElem?_toArray, List.getElem?_cons_zero, List.getElem?_cons_succ] at q0 q1 q2 q3
      go_wp2_with fail
      clear qH q0 q1 q2 q3 q4 q5 q6 q7
      have G2 : w.grownBy ((((w2.setCell ⟨w.heap.size, 0, none⟩ (.int .i64 h)).setCell ⟨w.heap.size, 1, none⟩ (.int .i64 m)).setCell ⟨w.heap.size, 2, none⟩ (.int .i64 x)).setCell ⟨w.heap.size, 3, none⟩ (.int .i64 v)) none :=
        grown_setNew (grown_setNew (grown_setNew (grown_setNew (grown_new g0 s2.g (by omega)) (Nat.le_refl _) _) (Nat.le_refl _) _) (Nat.le_refl _) _) (Nat.le_refl _) _
      have R2 : Rd ((((w2.setCell ⟨w.heap.size, 0, none⟩ (.int .i64 h)).setCell ⟨w.heap.size, 1, none⟩ (.int .i64 m)).setCell ⟨w.heap.size, 2, none⟩ (.int .i64 x)).setCell ⟨w.heap.size, 3, none⟩ (.int .i64 v)) (w.heap.size + 1 + 1) s k :=
        (((s2.r.setOther (by simp; omega) _).setOther (by simp; omega) _).setOther (by simp; omega) _).setOther (by simp; omega) _
      have k0'' := set4 k0' (.int .i64 h) (.int .i64 m) (.int .i64 x) (.int .i64 v)
      have k1'' := (Below.heap_setCell (((w2.setCell ⟨w.heap.size, 0, none⟩ (.int .i64 h)).setCell ⟨w.heap.size, 1, none⟩ (.int .i64 m)).setCell ⟨w.heap.size, 2, none⟩ (.int .i64 x)) ⟨w.heap.size, 3, none⟩ (.int .i64 v) (w.heap.size + 1) (by simp)).trans ((Below.heap_setCell _ ⟨w.heap.size, 2, none⟩ (.int .i64 x) (w.heap.size + 1) (by simp)).trans ((Below.heap_setCell _ ⟨w.heap.size, 1, none⟩ (.int .i64 m) (w.heap.size + 1) (by simp)).trans ((Below.heap_setCell _ ⟨w.heap.size, 0, none⟩ (.int .i64 h) (w.heap.size + 1) (by simp)).trans k1')))
      clear k0' k1' s2 s1 k0 k1 R3 g0
      generalize ((((w2.setCell ⟨w.heap.size, 0, none⟩ (.int .i64 h)).setCell ⟨w.heap.size, 1, none⟩ (.int .i64 m)).setCell ⟨w.heap.size, 2, none⟩ (.int .i64 x)).setCell ⟨w.heap.size, 3, none⟩ (.int .i64 v)) = W4 at *
      refine (whole_yes R2 hs hk).mono ?_
      rintro e w5 ⟨rfl, s5⟩
      have k0' := blk_grown s5.g k0'' (some_ne (by omega))
      have k1' := blk_grown s5.g k1'' (some_ne (by omega))
      have qH := Lib.hid (k0')
      have q0 := blk_cell qH.out 0
      have q1 := blk_cell qH.out 1
      have q2 := blk_cell qH.out 2
      have q3 := blk_cell qH.out 3
      have q4 := blk_free qH.out 0
      have q5 := blk_free qH.out 1
      have q6 := blk_free qH.out 2
      have q7 := blk_free qH.out 3
      simp only [List.getElem?_toArray, List.getElem?_cons_zero, List.getElem?_cons_succ] at q0 q1 q2 q3
      have r0 := blk_cell k1' 0
      have r1 := blk_free k1' 0
      simp only [List.getElem?_toArray, List.getElem?_cons_zero] at r0
      go_wp2_with fail
      refine leaves_cons (f := 15) (args := #[.pointer (some ⟨w.heap.size + 1, 0, none⟩), .func (.func 16) #[] #[.pointer (some ⟨w.heap.size, 0, none⟩)]]) (by simp) (by simp [go_sem]) ?_
      refine caught_idle.mono ?_
      rintro e u' w'' ⟨rfl, rfl, rfl⟩
      rw [hz.out]
      simp [Leaves, settle, results, Tryz.results8, go_sem, q0, q1, q2, q3, r0, clkV]
      exact grown_setNew (grown_setNew (grown_setNew (grown_setNew (grown_setNew (grown_new G2 s5.g (by omega)) (Nat.le_refl _) _) (Nat.le_refl _) _) (Nat.le_refl _) _) (Nat.le_refl _) _) (by simp) _
    · have hz := Lib.hid (show clk s = none by simp [clk, ht, hk])
      have hkl : k < s.size := by have := time_in ht (tskip_le s); omega
      go_enter_defers Tryz.func8, Tryz.ntmps8
      go_wp2_with fail
      have g0 : w.grownBy (((w.alloc (.cells #[.int .i64 0, .int .i64 0, .int .i64 0, .int .i64 0] 23)).alloc (.cells #[.int .i64 0] 24)).alloc (.cells #[.string s, .int .i64 0] 51)) none := grown_alloc (grown_alloc (grown_alloc (grown_refl _ _) _) _) _
      have R3 : Rd (((w.alloc (.cells #[.int .i64 0, .int .i64 0, .int .i64 0, .int .i64 0] 23)).alloc (.cells #[.int .i64 0] 24)).alloc (.cells #[.string s, .int .i64 0] 51)) (w.heap.size + 1 + 1) s 0 := by
        have := blk_new ((w.alloc (.cells #[.int .i64 0, .int .i64 0, .int .i64 0, .int .i64 0] 23)).alloc (.cells #[.int .i64 0] 24)) (.cells #[.string s, .int .i64 0] 51)
        simpa [Rd] using this
      have k1 : (((w.alloc (.cells #[.int .i64 0, .int .i64 0, .int .i64 0, .int .i64 0] 23)).alloc (.cells #[.int .i64 0] 24)).alloc (.cells #[.string s, .int .i64 0] 51)).heap[w.heap.size + 1]? = some (.cells #[.int .i64 0] 24 (0, 0)) := by
        have := blk_new (w.alloc (.cells #[.int .i64 0, .int .i64 0, .int .i64 0, .int .i64 0] 23)) (.cells #[.int .i64 0] 24)
        exact blk_grown (World.grownBy_alloc _ _ none) (by simpa using this) (by simp)
      have k0 := blk_grown (row := none) (World.grownBy_alloc ((w.alloc (.cells #[.int .i64 0, .int .i64 0, .int .i64 0, .int .i64 0] 23)).alloc (.cells #[.int .i64 0] 24)) (.cells #[.string s, .int .i64 0] 51) none) (blk_grown (row := none) (World.grownBy_alloc _ (.cells #[.int .i64 0] 24) none) (blk_new w (.cells #[.int .i64 0, .int .i64 0, .int .i64 0, .int .i64 0] 23)) (by simp)) (by simp)
      generalize (((w.alloc (.cells #[.int .i64 0, .int .i64 0, .int .i64 0, .int .i64 0] 23)).alloc (.cells #[.int .i64 0] 24)).alloc (.cells #[.string s, .int .i64 0] 51)) = W3 at *
      refine (one_skip s W3 R3 hs).mono ?_
      rintro e w1 ⟨⟨v1, rfl⟩, s1⟩
      go_wp2_with fail
      refine (time_yes ht s1.r hs (tskip_le s)).mono ?_
      rintro e w2 ⟨rfl, s2⟩
      have s2 := s1.trans s2
      have k0' := blk_grown s2.g k0 (some_ne (by omega))
      have k1' := blk_grown s2.g k1 (some_ne (by omega))
      have qH := Lib.hid (k0')
      have q0 := blk_cell qH.out 0
      have q1 := blk_cell qH.out 1
      have q2 := blk_cell qH.out 2
      have q3 := blk_cell qH.out 3
      have q4 := blk_free qH.out 0
      have q5 := blk_free qH.out 1
      have q6 := blk_free qH.out 2
      have q7 := blk_free qH.out 3
      simp only [List.getElem?_toArray, List.getElem?_cons_zero, List.getElem?_cons_succ] at q0 q1 q2 q3
      go_wp2_with fail
      clear qH q0 q1 q2 q3 q4 q5 q6 q7
      have G2 : w.grownBy ((((w2.setCell ⟨w.heap.size, 0, none⟩ (.int .i64 h)).setCell ⟨w.heap.size, 1, none⟩ (.int .i64 m)).setCell ⟨w.heap.size, 2, none⟩ (.int .i64 x)).setCell ⟨w.heap.size, 3, none⟩ (.int .i64 v)) none :=
        grown_setNew (grown_setNew (grown_setNew (grown_setNew (grown_new g0 s2.g (by omega)) (Nat.le_refl _) _) (Nat.le_refl _) _) (Nat.le_refl _) _) (Nat.le_refl _) _
      have R2 : Rd ((((w2.setCell ⟨w.heap.size, 0, none⟩ (.int .i64 h)).setCell ⟨w.heap.size, 1, none⟩ (.int .i64 m)).setCell ⟨w.heap.size, 2, none⟩ (.int .i64 x)).setCell ⟨w.heap.size, 3, none⟩ (.int .i64 v)) (w.heap.size + 1 + 1) s k :=
        (((s2.r.setOther (by simp; omega) _).setOther (by simp; omega) _).setOther (by simp; omega) _).setOther (by simp; omega) _
      have k0'' := set4 k0' (.int .i64 h) (.int .i64 m) (.int .i64 x) (.int .i64 v)
      have k1'' := (Below.heap_setCell (((w2.setCell ⟨w.heap.size, 0, none⟩ (.int .i64 h)).setCell ⟨w.heap.size, 1, none⟩ (.int .i64 m)).setCell ⟨w.heap.size, 2, none⟩ (.int .i64 x)) ⟨w.heap.size, 3, none⟩ (.int .i64 v) (w.heap.size + 1) (by simp)).trans ((Below.heap_setCell _ ⟨w.heap.size, 2, none⟩ (.int .i64 x) (w.heap.size + 1) (by simp)).trans ((Below.heap_setCell _ ⟨w.heap.size, 1, none⟩ (.int .i64 m) (w.heap.size + 1) (by simp)).trans ((Below.heap_setCell _ ⟨w.heap.size, 0, none⟩ (.int .i64 h) (w.heap.size + 1) (by simp)).trans k1')))
      clear k0' k1' s2 s1 k0 k1 R3 g0
      generalize ((((w2.setCell ⟨w.heap.size, 0, none⟩ (.int .i64 h)).setCell ⟨w.heap.size, 1, none⟩ (.int .i64 m)).setCell ⟨w.heap.size, 2, none⟩ (.int .i64 x)).setCell ⟨w.heap.size, 3, none⟩ (.int .i64 v)) = W4 at *
      refine (whole_no R2 hs hkl).mono ?_
      rintro e w5 ⟨rfl, g5⟩
      have k0' := blk_grown g5 k0'' (some_ne (by omega))
      have k1' := blk_grown g5 k1'' (some_ne (by omega))
      go_wp2_with fail
      refine leaves_cons (f := 15) (args := #[.pointer (some ⟨w.heap.size + 1, 0, none⟩), .func (.func 16) #[] #[.pointer (some ⟨w.heap.size, 0, none⟩)]]) (by simp) (by simp [go_sem]) ?_
      unfold eform
      refine (caught_panic (f := 16) (blk_cell k1' 0) (blk_free k1' 0) (fun _ => by simp [go_sem]) (clear_time ((Below.heap_setCell _ _ _ _ (by simp)).trans k0'))).mono ?_
      rintro e u' w'' ⟨rfl, rfl, rfl⟩
      have qH := Lib.hid (k0')
      have q0 := blk_cell qH.out 0
      have q1 := blk_cell qH.out 1
      have q2 := blk_cell qH.out 2
      have q3 := blk_cell qH.out 3
      have q4 := blk_free qH.out 0
      have q5 := blk_free qH.out 1
      have q6 := blk_free qH.out 2
      have q7 := blk_free qH.out 3
      simp only [List.getElem?_toArray, List.getElem?_cons_zero, List.getElem?_cons_succ] at q0 q1 q2 q3
      have r0 := blk_cell k1' 0
      simp only [List.getElem?_toArray, List.getElem?_cons_zero] at r0
      have rz : Hid (Leaves Tryz.prog Tryz.f8 = Leaves Tryz.prog Tryz.f8) := rfl
      rw [hz.out]
      simp [Leaves, settle, results, Tryz.results8, go_sem, q0, q1, q2, q3, r0, clkV]
      exact grown_setNew (grown_setNew (grown_setNew (grown_setNew (grown_setNew (grown_new G2 g5 (by omega)) (by simp) _) (Nat.le_refl _) _) (Nat.le_refl _) _) (Nat.le_refl _) _) (Nat.le_refl _) _

end Go.Proofs.YtkhpdiilghncgaaGreatDoor
