/- grammar.Parse. -/
import Derived.Test.YtkhpdiilghncgaaGreatDoorGn
import Derived.Test.YtkhpdiilghncgaaGreatDoorGr
import Derived.Deep.RegionHeld3
namespace Go.Proofs.YtkhpdiilghncgaaGreatDoor
open Go.RowKit
set_option linter.unusedVariables false

def zparts : Array Value := pcells (.int .i64 0, .int .i64 0, .int .i64 0) (.bool false) (.int .i64 0, .int .i64 0, .int .i64 0, .int .i64 0) 0 0 ⟨#[]⟩
def st (w : World) (c o : Nat) (v : Value) : World := w.setCell ⟨c, o, none⟩ v
/-- The parts' block, made empty. -/
def clr (w : World) (c : Nat) : World :=
  ((((((((((w.setCell ⟨c, 0, none⟩ (.int .i64 0)).setCell ⟨c, 1, none⟩ (.int .i64 0)).setCell ⟨c, 2, none⟩ (.int .i64 0)).setCell ⟨c, 3, none⟩ (.bool false)).setCell ⟨c, 4, none⟩ (.int .i64 0)).setCell ⟨c, 5, none⟩ (.int .i64 0)).setCell ⟨c, 6, none⟩ (.int .i64 0)).setCell ⟨c, 7, none⟩ (.int .i64 0)).setCell ⟨c, 8, none⟩ (.int .i64 0)).setCell ⟨c, 9, none⟩ (.int .i64 0)).setCell ⟨c, 10, none⟩ (.string ⟨#[]⟩)

set_option maxHeartbeats 400000 in
theorem clear_parts {c : Nat} {dt : Value × Value × Value} {ht : Value} {tm : Value × Value × Value × Value} {kd o : Int} {z : ByteArray} {w : World} (h : Pb w c (pcells dt ht tm kd o z)) :
    Calls Tryz.prog 39 #[.pointer (some ⟨c, 0, none⟩)] w fun e w' => e = .returned (.tuple #[]) ∧ w' = clr w c := by
  have q0 := blk_cell h 0
  have q1 := blk_cell h 1
  have q2 := blk_cell h 2
  have q3 := blk_cell h 3
  have q4 := blk_cell h 4
  have q5 := blk_cell h 5
  have q6 := blk_cell h 6
  have q7 := blk_cell h 7
  have q8 := blk_cell h 8
  have q9 := blk_cell h 9
  have q10 := blk_cell h 10
  have qf : ∀ o, w.frozen? ⟨c, o, none⟩ = false := fun o => blk_free h o
  simp only [zparts, pcells, List.getElem?_toArray, List.getElem?_cons_zero, List.getElem?_cons_succ] at q0 q1 q2 q3 q4 q5 q6 q7 q8 q9 q10
  clear h
  go_enter Tryz.func39, Tryz.ntmps39
  go_wp2_with fail
  go_end0
  exact ⟨rfl, rfl⟩

set_option maxHeartbeats 1000000 in
theorem clr_pb {w : World} {c : Nat} {dt : Value × Value × Value} {ht : Value} {tm : Value × Value × Value × Value} {kd o : Int} {z : ByteArray} (h : Pb w c (pcells dt ht tm kd o z)) : Pb (clr w c) c zparts := by
  have h := ((((((((((h.set 0 (.int .i64 0)).set 1 (.int .i64 0)).set 2 (.int .i64 0)).set 3 (.bool false)).set 4 (.int .i64 0)).set 5 (.int .i64 0)).set 6 (.int .i64 0)).set 7 (.int .i64 0)).set 8 (.int .i64 0)).set 9 (.int .i64 0)).set 10 (.string ⟨#[]⟩)
  simpa [pcells, clr, zparts] using h
theorem clr_grown {w w' : World} {c : Nat} (h : w.grownBy w' none) (hc : w.heap.size ≤ c) : w.grownBy (clr w' c) none :=
  grown_setNew (grown_setNew (grown_setNew (grown_setNew (grown_setNew (grown_setNew (grown_setNew (grown_setNew (grown_setNew (grown_setNew (grown_setNew h hc _) hc _) hc _) hc _) hc _) hc _) hc _) hc _) hc _) hc _) hc _

/-- What Parse keeps while it reads: its blocks. -/
structure PF (w wr : World) (a : Array Value) : Prop where
  g : w.grownBy wr none
  p : Pb wr w.heap.size a
  e : wr.heap[w.heap.size + 1]? = some (.cells #[.int .i64 0] 24 (0, 0))
structure PS (s : ByteArray) (w wr : World) (i : Nat) (a : Array Value) : Prop extends PF w wr a where
  r : Rd wr (w.heap.size + 1 + 1) s i
theorem PF.reader {w wr wr' : World} {a : Array Value} (h : PF w wr a) (k : wr.grownBy wr' (some (w.heap.size + 1 + 1))) : PF w wr' a :=
  ⟨grown_new h.g k (by omega), blk_grown k h.p (some_ne (by omega)), blk_grown k h.e (some_ne (by omega))⟩
theorem PF.grow {w wr wr' : World} {a : Array Value} (h : PF w wr a) (k : wr.grownBy wr' none) : PF w wr' a :=
  ⟨grown_trans h.g k, blk_grown k h.p (by simp), blk_grown k h.e (by simp)⟩
theorem PS.reader {s : ByteArray} {w wr wr' : World} {i j : Nat} {a : Array Value} (h : PS s w wr i a) (k : St (w.heap.size + 1 + 1) s wr j wr') : PS s w wr' j a :=
  ⟨h.toPF.reader k.g, k.r⟩
theorem PF.both {w wr wr' : World} {a a' : Array Value} (h : PF w wr a) (k : Gw (w.heap.size + 1 + 1) w.heap.size wr wr') (p : Pb wr' w.heap.size a') : PF w wr' a' :=
  ⟨Gw.none h.g k (by omega) (by omega), p, k.blk h.e (by omega) (by omega)⟩
theorem PS.both {s : ByteArray} {w wr wr' : World} {i j : Nat} {a a' : Array Value} (h : PS s w wr i a) (k : Gw (w.heap.size + 1 + 1) w.heap.size wr wr') (r : Rd wr' (w.heap.size + 1 + 1) s j) (p : Pb wr' w.heap.size a') : PS s w wr' j a' :=
  ⟨h.toPF.both k p, r⟩
theorem PS.set {s : ByteArray} {w wr : World} {i : Nat} {a : Array Value} (h : PS s w wr i a) (o : Nat) (v : Value) : PS s w (wr.setCell ⟨w.heap.size, o, none⟩ v) i (a.setIfInBounds o v) :=
  ⟨⟨grown_setNew h.g (Nat.le_refl _) _, h.p.set o v, (Below.heap_setCell _ _ _ _ (by simp)).trans h.e⟩, h.r.setOther (by simp; omega) _⟩

theorem date_no {b : Nat} {s : ByteArray} {i : Nat} {w : World} (hd : date s i = none) (hr : Rd w b s i) (hs : s.size ≤ 140737488351232) (hi : i ≤ s.size) :
    Calls Tryz.prog 40 #[.pointer (some ⟨b, 0, none⟩)] w fun e w' => e = .panicked eform ∧ w.grownBy w' (some b) := by
  cases hy : year s i with
  | none => exact date_noyear b s i w hr hs hi hy
  | some v =>
    obtain ⟨y, j⟩ := v
    have h := date_year b s i j y w hr hs hi hy
    rw [hd] at h
    exact h
theorem date_yes {b : Nat} {s : ByteArray} {i k m d : Nat} {y : Int} {w : World} (hd : date s i = some ((y, m, d), k)) (hr : Rd w b s i) (hs : s.size ≤ 140737488351232) (hi : i ≤ s.size) :
    Calls Tryz.prog 40 #[.pointer (some ⟨b, 0, none⟩)] w fun e w' => e = .returned (.agg #[.int .i64 y, .int .i64 (m : Int), .int .i64 (d : Int)]) ∧ St b s w k w' := by
  cases hy : year s i with
  | none => simp [date, hy] at hd
  | some v =>
    obtain ⟨y', j⟩ := v
    have h := date_year b s i j y' w hr hs hi hy
    rw [hd] at h
    exact h
/-- The letter between the day and its time. -/
def sep (s : ByteArray) (i : Nat) : Bool := decide (nx s i = 84 ∨ nx s i = 116 ∨ nx s i = 32)
theorem sep_pos {s : ByteArray} {i : Nat} (h : sep s i = true) : 0 < nx s i ∧ i < s.size := by
  have : nx s i ≠ 0 := by simp [sep] at h; omega
  exact ⟨by omega, nx_in this⟩
theorem one_sep {b : Nat} (s : ByteArray) (i : Nat) (w : World) (hr : Rd w b s i) (hs : s.size ≤ 140737488351232) (hi : i ≤ s.size) :
    Calls Tryz.prog 17 #[.pointer (some ⟨b, 0, none⟩), .string ⟨#[84, 116, 32]⟩] w fun e w' => e = .returned (.int .u8 (if sep s i = true then nx s i else 0 : Nat)) ∧ St b s w (if sep s i = true then i + 1 else i) w' := by
  cases hc : isOne s i ⟨#[84, 116, 32]⟩ with
  | true =>
    have hc' := hc
    rw [isOne_3 s i 84 116 32 (by decide) (by decide) (by decide)] at hc
    simp at hc
    have hs1 : sep s i = true := by simp [sep]; omega
    rw [if_pos hs1, if_pos hs1]
    exact one_yes b s _ i w hr hs hc'
  | false =>
    have hc' := hc
    rw [isOne_3 s i 84 116 32 (by decide) (by decide) (by decide)] at hc
    simp at hc
    have hs1 : ¬ sep s i = true := by simp [sep]; omega
    rw [if_neg hs1, if_neg hs1]
    exact (one_no b s _ i w hr hs hi hc').mono fun e w' ⟨h1, h2⟩ => ⟨h1, (St.refl hr).dr h2⟩
theorem date_in {s : ByteArray} {k m d : Nat} {y : Int} (h : date s 0 = some ((y, m, d), k)) : k ≤ s.size ∧ 1 ≤ m ∧ m ≤ 12 ∧ 1 ≤ d ∧ d ≤ 31 ∧ -1000000 < y ∧ y < 1000000 := by
  unfold date at h
  cases hy : year s 0 with
  | none => rw [hy] at h; cases h
  | some v =>
    obtain ⟨y', j⟩ := v
    rw [hy] at h
    simp only at h
    have := year_in hy (Nat.zero_le _)
    cases hm : monthday s j with
    | none => rw [hm] at h; cases h
    | some v =>
      obtain ⟨⟨m', d'⟩, k'⟩ := v
      rw [hm] at h
      simp only [Option.some.injEq, Prod.mk.injEq] at h
      obtain ⟨⟨rfl, rfl, rfl⟩, rfl⟩ := h
      have := monthday_in hm this.1
      omega
theorem one_sep_no {b : Nat} {s : ByteArray} {i : Nat} {w : World} (h : sep s i = false) (hr : Rd w b s i) (hs : s.size ≤ 140737488351232) (hi : i ≤ s.size) :
    Calls Tryz.prog 17 #[.pointer (some ⟨b, 0, none⟩), .string ⟨#[84, 116, 32]⟩] w fun e w' => e = .returned (.int .u8 0) ∧ St b s w i w' := by
  have := one_sep s i w hr hs hi
  rw [if_neg (by rw [h]; simp), if_neg (by rw [h]; simp)] at this
  exact this
theorem one_sep_yes {b : Nat} {s : ByteArray} {i : Nat} {w : World} (h : sep s i = true) (hr : Rd w b s i) (hs : s.size ≤ 140737488351232) (hi : i ≤ s.size) :
    Calls Tryz.prog 17 #[.pointer (some ⟨b, 0, none⟩), .string ⟨#[84, 116, 32]⟩] w fun e w' => e = .returned (.int .u8 (nx s i)) ∧ St b s w (i + 1) w' := by
  have := one_sep s i w hr hs hi
  rw [if_pos h, if_pos h] at this
  exact this
theorem grown_cell {w w' : World} {k o : Nat} {v : Value} (g : w.grownBy w' none) (h : w.cell? ⟨k, o, none⟩ = some v) : w'.cell? ⟨k, o, none⟩ = some v := g.cell h (by simp)
/-- What Parse reads. -/
structure Pt where
  y : Int
  mo : Nat
  d : Nat
  ht : Bool
  t : Nat × Nat × Nat × Nat
  kd : Nat
  off : Int
  zone : ByteArray
def Pt.cells (p : Pt) : Array Value :=
  pcells (.int .i64 p.y, .int .i64 (p.mo : Int), .int .i64 (p.d : Int)) (.bool p.ht) (.int .i64 (p.t.1 : Int), .int .i64 (p.t.2.1 : Int), .int .i64 (p.t.2.2.1 : Int), .int .i64 (p.t.2.2.2 : Int)) (p.kd : Int) p.off p.zone
/-- The day's time, if one is there. -/
def tailF (s : ByteArray) (k : Nat) : Option ((Bool × (Nat × Nat × Nat × Nat) × Nat × Int) × Nat) :=
  if sep s k = true then
    match time s (k + 1) with
    | none => none
    | some (t, j) => match offs s j with
      | none => none
      | some ((kd, o), i) => some ((true, t, kd, o), i)
  else some ((false, (0, 0, 0, 0), 0, 0), k)
def parseF (s : ByteArray) : Except Int Pt :=
  match date s 0 with
  | none => .error 6
  | some ((y, m, d), k) => match tailF s k with
    | none => .error 6
    | some ((ht, t, kd, o), i) => match notesF s (s.size + 1) i true ⟨#[]⟩ [] with
      | none => .error 6
      | some ((z, l), j) =>
        if j < s.size then .error 6
        else if mlenF y m < d then .error 5
        else if calF l = 0 then .ok ⟨y, m, d, ht, t, kd, o, z⟩ else .error (calF l)
def parV : Except Int Pt → Value
  | .ok p => .tuple #[.agg p.cells, .int .i64 0]
  | .error n => .tuple #[.agg zparts, .int .i64 n]

theorem clr_err {wr : World} {c k : Nat} {cs : Array Value} {T : TypeId} (h : wr.heap[k]? = some (.cells cs T (0, 0))) (hk : k ≠ c) : (clr wr c).heap[k]? = some (.cells cs T (0, 0)) := by
  unfold clr
  iterate 11 refine (Below.heap_setCell _ _ _ _ (by simp; omega)).trans ?_
  exact h
/-- What Parse keeps. -/
def Kp (w : World) (a : Array Value) (B : Nat) (lv : Value) (l : List Nt) (w' : World) : Prop := PF w w' a ∧ NS w' B lv l
theorem Kp.cells {w w' : World} {v0 v1 v2 : Value} {ht : Value} {tm : Value × Value × Value × Value} {kd o : Int} {z : ByteArray} {B : Nat} {lv : Value} {l : List Nt} (h : Kp w (pcells (v0, v1, v2) ht tm kd o z) B lv l w') :
    w'.cell? ⟨w.heap.size, 0, none⟩ = some v0 ∧ w'.cell? ⟨w.heap.size, 1, none⟩ = some v1 ∧ w'.cell? ⟨w.heap.size, 2, none⟩ = some v2 ∧ Kp w (pcells (v0, v1, v2) ht tm kd o z) B lv l w' :=
  ⟨blk_cell h.1.p 0, blk_cell h.1.p 1, blk_cell h.1.p 2, h⟩
theorem Kp.drew {w w' : World} {a : Array Value} {B : Nat} {lv : Value} {l : List Nt} (h : Kp w a B lv l w') : Kp w a B lv l w'.drew :=
  ⟨⟨⟨h.1.g.os, h.1.g.tape, h.1.g.output, h.1.g.size, h.1.g.block⟩, h.1.p, h.1.e⟩, h.2⟩
theorem monthlen_kp (y : Int) (m : Nat) {w w' : World} {a : Array Value} {B : Nat} {lv : Value} {l : List Nt} (h1 : 1 ≤ m) (h2 : m ≤ 12) (h : Kp w a B lv l w') : Calls Tryz.prog 43 #[.int .i64 y, .int .i64 m] w' fun e w'' => e = .returned (.int .i64 (mlenF y m)) ∧ Kp w a B lv l w'' :=
  (monthlen_any y m w' h1 h2).mono fun e w'' ⟨he, hg⟩ => ⟨he, h.1.grow hg, h.2.grown hg⟩
theorem parse_rest {s : ByteArray} {y o : Int} {m d k kd i j : Nat} {ht : Bool} {t : Nat × Nat × Nat × Nat} {z : ByteArray} {l : List Nt} (hd : date s 0 = some ((y, m, d), k)) (HT : tailF s k = some ((ht, t, kd, o), i))
    (hn : notesF s (s.size + 1) i true ⟨#[]⟩ [] = some ((z, l), j)) (hj : ¬ j < s.size) : parseF s = if mlenF y m < d then .error 5 else if calF l = 0 then .ok ⟨y, m, d, ht, t, kd, o, z⟩ else .error (calF l) := by
  simp only [parseF, hd, HT, hn]
  rw [if_neg hj]
set_option maxHeartbeats 1000000 in
theorem parse_any (s : ByteArray) {m : Int} (w : World) (hs : s.size < 4294967281) (hm : w.cell? ⟨1, 0, none⟩ = some (.int .i64 m)) :
    Calls Tryz.prog 13 #[.string s] w fun e w' => e = .returned (parV (parseF s)) ∧ w.grownBy w' none := by
  have hmf : ∀ (fn : Fn) (first cap : Array Value) (w : World), (Instr.makeFunc fn first cap).run Tryz.prog w = .ok (.func fn first cap) w := fun _ _ _ _ => rfl
  cases hd : date s 0 with
  | none =>
    have hz := Lib.hid (show parseF s = .error 6 by simp [parseF, hd])
    go_enter_defers Tryz.func13, Tryz.ntmps13
    go_wp2_with fail
    have P0 : PS s w (((w.alloc (.cells zparts 40)).alloc (.cells #[.int .i64 0] 24)).alloc (.cells #[.string s, .int .i64 0] 51)) 0 zparts := ⟨⟨grown_alloc (grown_alloc (grown_alloc (grown_refl _ _) _) _) _, (Below.heap_alloc _ _ _ (by rw [heap_alloc_size, heap_alloc_size]; omega)).trans (alloc2 _ _ _), by have := alloc2 (w.alloc (.cells zparts 40)) (.cells #[.int .i64 0] 24) (.cells #[.string s, .int .i64 0] 51); rwa [heap_alloc_size] at this⟩, by have := blk_new ((w.alloc (.cells zparts 40)).alloc (.cells #[.int .i64 0] 24)) (.cells #[.string s, .int .i64 0] 51); rwa [heap_alloc_size, heap_alloc_size] at this⟩
    simp only [zparts, pcells] at P0
    generalize (((w.alloc (.cells #[.int .i64 0, .int .i64 0, .int .i64 0, .bool false, .int .i64 0, .int .i64 0, .int .i64 0, .int .i64 0, .int .i64 0, .int .i64 0, .string ⟨#[]⟩] 40)).alloc (.cells #[.int .i64 0] 24)).alloc (.cells #[.string s, .int .i64 0] 51)) = W3 at *
    have P0 : PS s w W3 0 zparts := P0
    refine (date_no hd P0.r (by omega) (by omega)).mono ?_
    rintro e w2 ⟨rfl, hg⟩
    have HF := P0.toPF.reader hg
    go_wp2_with fail
    refine leaves_cons (f := 15) (args := #[.pointer (some ⟨w.heap.size + 1, 0, none⟩), .func (.func 39) #[] #[.pointer (some ⟨w.heap.size, 0, none⟩)]]) (by simp) (by simp [go_sem]) ?_
    try unfold eform
    refine (caught_panic (f := 39) (blk_cell HF.e 0) (blk_free HF.e 0) (fun _ => by simp [go_sem]) (clear_parts ((Below.heap_setCell _ _ _ _ (by simp)).trans HF.p))).mono ?_
    rintro e u' w'' ⟨rfl, rfl, hw''⟩
    have HP := clr_pb ((Below.heap_setCell _ ⟨w.heap.size + 1, 0, none⟩ (.int .i64 6) _ (by simp)).trans HF.p)
    have HE : (clr (w2.setCell ⟨w.heap.size + 1, 0, none⟩ (.int .i64 6)) w.heap.size).heap[w.heap.size + 1]? = some (.cells #[.int .i64 6] 24 (0, 0)) := clr_err (by simp [World.setCell, Array.getElem?_modify, HF.e]) (show w.heap.size + 1 ≠ w.heap.size by omega)
    have HG := clr_grown (w' := w2.setCell ⟨w.heap.size + 1, 0, none⟩ (.int .i64 6)) (grown_setNew HF.g (by simp) _) (Nat.le_refl w.heap.size)
    rw [← hw''] at HP HE HG
    clear hw''
    have q0 := blk_cell HP 0
    have q1 := blk_cell HP 1
    have q2 := blk_cell HP 2
    have q3 := blk_cell HP 3
    have q4 := blk_cell HP 4
    have q5 := blk_cell HP 5
    have q6 := blk_cell HP 6
    have q7 := blk_cell HP 7
    have q8 := blk_cell HP 8
    have q9 := blk_cell HP 9
    have q10 := blk_cell HP 10
    have qf : ∀ o, w''.frozen? ⟨w.heap.size, o, none⟩ = false := fun o => blk_free HP o
    simp only [zparts, pcells, List.getElem?_toArray, List.getElem?_cons_zero, List.getElem?_cons_succ] at q0 q1 q2 q3 q4 q5 q6 q7 q8 q9 q10
    have r0 := blk_cell HE 0
    simp only [List.getElem?_toArray, List.getElem?_cons_zero] at r0
    rw [hz.out]
    simp [Leaves, settle, results, Tryz.results13, go_sem, q0, q1, q2, q3, q4, q5, q6, q7, q8, q9, q10, r0, parV, zparts, pcells]
    exact HG
  | some r =>
    obtain ⟨⟨y, mo, d⟩, k⟩ := r
    obtain ⟨hk, hm1, hm2, hd1, hd2, hy1, hy2⟩ := date_in hd
    have hml : 1 < w.heap.size := cell_lt hm
    cases hsep : sep s k with
    | false =>
      have HT : tailF s k = some ((false, (0, 0, 0, 0), 0, 0), k) := by unfold tailF; rw [if_neg (by rw [hsep]; simp)]
      go_enter_defers Tryz.func13, Tryz.ntmps13
      go_wp2_with fail
      have P0 : PS s w (((w.alloc (.cells zparts 40)).alloc (.cells #[.int .i64 0] 24)).alloc (.cells #[.string s, .int .i64 0] 51)) 0 zparts := ⟨⟨grown_alloc (grown_alloc (grown_alloc (grown_refl _ _) _) _) _, (Below.heap_alloc _ _ _ (by rw [heap_alloc_size, heap_alloc_size]; omega)).trans (alloc2 _ _ _), by have := alloc2 (w.alloc (.cells zparts 40)) (.cells #[.int .i64 0] 24) (.cells #[.string s, .int .i64 0] 51); rwa [heap_alloc_size] at this⟩, by have := blk_new ((w.alloc (.cells zparts 40)).alloc (.cells #[.int .i64 0] 24)) (.cells #[.string s, .int .i64 0] 51); rwa [heap_alloc_size, heap_alloc_size] at this⟩
      simp only [zparts, pcells] at P0
      generalize (((w.alloc (.cells #[.int .i64 0, .int .i64 0, .int .i64 0, .bool false, .int .i64 0, .int .i64 0, .int .i64 0, .int .i64 0, .int .i64 0, .int .i64 0, .string ⟨#[]⟩] 40)).alloc (.cells #[.int .i64 0] 24)).alloc (.cells #[.string s, .int .i64 0] 51)) = W3 at *
      have P0 : PS s w W3 0 zparts := P0
      go_wp2_with fail
      refine (date_yes hd P0.r (by omega) (by omega)).mono ?_
      rintro e w2 ⟨rfl, s2⟩
      have P2 := P0.reader s2
      have q0 := blk_cell P2.p 0
      have q1 := blk_cell P2.p 1
      have q2 := blk_cell P2.p 2
      have q3 := blk_cell P2.p 3
      have q4 := blk_cell P2.p 4
      have q5 := blk_cell P2.p 5
      have q6 := blk_cell P2.p 6
      have q7 := blk_cell P2.p 7
      have q8 := blk_cell P2.p 8
      have q9 := blk_cell P2.p 9
      have q10 := blk_cell P2.p 10
      have qf : ∀ o, w2.frozen? ⟨w.heap.size, o, none⟩ = false := fun o => blk_free P2.p o
      simp only [zparts, pcells, List.getElem?_toArray, List.getElem?_cons_zero, List.getElem?_cons_succ] at q0 q1 q2 q3 q4 q5 q6 q7 q8 q9 q10
      go_upto_if 16 with (go_at_call 17; refine (one_sep_no hsep (((P2.set 0 (.int .i64 y)).set 1 (.int .i64 (mo : Int))).set 2 (.int .i64 (d : Int))).r (by omega) hk).mono ?_; rintro e w3 ⟨rfl, s3⟩)
      have P3 := (((P2.set 0 (.int .i64 y)).set 1 (.int .i64 (mo : Int))).set 2 (.int .i64 (d : Int))).reader s3
      simp [zparts, pcells] at P3
      have P3 : PS s w w3 k (pcells (.int .i64 y, .int .i64 (mo : Int), .int .i64 (d : Int)) (.bool false) (.int .i64 0, .int .i64 0, .int .i64 0, .int .i64 0) 0 0 ⟨#[]⟩) := P3
      clear q0 q1 q2 q3 q4 q5 q6 q7 q8 q9 q10 qf s3 P2 P0 s2
      have H0 := P3
      have hi := hk
      have hmx : w3.cell? ⟨1, 0, none⟩ = some (.int .i64 m) := grown_cell H0.g hm
      cases hn : notesF s (s.size + 1) k true ⟨#[]⟩ [] with
      | none =>
        have hz := Lib.hid (show parseF s = .error 6 by simp [parseF, hd, HT, hn])
        go_wp2_with fail
        refine (notes_any H0.r H0.p (by omega) hs hi hmx (by omega) (by omega)).mono ?_
        rw [hn]
        rintro e w6 ⟨rfl, hg, z', hp⟩
        have HF := H0.toPF.both hg hp
        go_wp2_with fail
        refine leaves_cons (f := 15) (args := #[.pointer (some ⟨w.heap.size + 1, 0, none⟩), .func (.func 39) #[] #[.pointer (some ⟨w.heap.size, 0, none⟩)]]) (by simp) (by simp [go_sem]) ?_
        try unfold eform
        refine (caught_panic (f := 39) (blk_cell HF.e 0) (blk_free HF.e 0) (fun _ => by simp [go_sem]) (clear_parts ((Below.heap_setCell _ _ _ _ (by simp)).trans HF.p))).mono ?_
        rintro e u' w'' ⟨rfl, rfl, hw''⟩
        have HP := clr_pb ((Below.heap_setCell _ ⟨w.heap.size + 1, 0, none⟩ (.int .i64 6) _ (by simp)).trans HF.p)
        have HE : (clr (w6.setCell ⟨w.heap.size + 1, 0, none⟩ (.int .i64 6)) w.heap.size).heap[w.heap.size + 1]? = some (.cells #[.int .i64 6] 24 (0, 0)) := clr_err (by simp [World.setCell, Array.getElem?_modify, HF.e]) (show w.heap.size + 1 ≠ w.heap.size by omega)
        have HG := clr_grown (w' := w6.setCell ⟨w.heap.size + 1, 0, none⟩ (.int .i64 6)) (grown_setNew HF.g (by simp) _) (Nat.le_refl w.heap.size)
        rw [← hw''] at HP HE HG
        clear hw''
        have q0 := blk_cell HP 0
        have q1 := blk_cell HP 1
        have q2 := blk_cell HP 2
        have q3 := blk_cell HP 3
        have q4 := blk_cell HP 4
        have q5 := blk_cell HP 5
        have q6 := blk_cell HP 6
        have q7 := blk_cell HP 7
        have q8 := blk_cell HP 8
        have q9 := blk_cell HP 9
        have q10 := blk_cell HP 10
        have qf : ∀ o, w''.frozen? ⟨w.heap.size, o, none⟩ = false := fun o => blk_free HP o
        simp only [zparts, pcells, List.getElem?_toArray, List.getElem?_cons_zero, List.getElem?_cons_succ] at q0 q1 q2 q3 q4 q5 q6 q7 q8 q9 q10
        have r0 := blk_cell HE 0
        simp only [List.getElem?_toArray, List.getElem?_cons_zero] at r0
        rw [hz.out]
        simp [Leaves, settle, results, Tryz.results13, go_sem, q0, q1, q2, q3, q4, q5, q6, q7, q8, q9, q10, r0, parV, zparts, pcells]
        exact HG
      | some v =>
        obtain ⟨⟨z, l⟩, j⟩ := v
        obtain ⟨hl1, hl2, hl3, hl4⟩ := notesF_all hn (by simp) (by simp) hi
        go_wp2_with fail
        refine (notes_any H0.r H0.p (by omega) hs hi hmx (by omega) (by omega)).mono ?_
        rw [hn]
        rintro e w6 ⟨⟨lv, rfl, hN⟩, hg, hr, hp⟩
        have H6 := H0.both hg hr hp
        have hsz := H0.g.size
        clear hg hr hp
        go_wp2_with fail
        by_cases hj : j < s.size
        · have hz := Lib.hid (show parseF s = .error 6 by simp [parseF, hd, HT, hn, hj])
          refine (whole_no H6.r (by omega) hj).mono ?_
          rintro e w7 ⟨rfl, hg7⟩
          have HF := H6.toPF.reader hg7
          go_wp2_with fail
          refine leaves_cons (f := 15) (args := #[.pointer (some ⟨w.heap.size + 1, 0, none⟩), .func (.func 39) #[] #[.pointer (some ⟨w.heap.size, 0, none⟩)]]) (by simp) (by simp [go_sem]) ?_
          try unfold eform
          refine (caught_panic (f := 39) (blk_cell HF.e 0) (blk_free HF.e 0) (fun _ => by simp [go_sem]) (clear_parts ((Below.heap_setCell _ _ _ _ (by simp)).trans HF.p))).mono ?_
          rintro e u' w'' ⟨rfl, rfl, hw''⟩
          have HP := clr_pb ((Below.heap_setCell _ ⟨w.heap.size + 1, 0, none⟩ (.int .i64 6) _ (by simp)).trans HF.p)
          have HE : (clr (w7.setCell ⟨w.heap.size + 1, 0, none⟩ (.int .i64 6)) w.heap.size).heap[w.heap.size + 1]? = some (.cells #[.int .i64 6] 24 (0, 0)) := clr_err (by simp [World.setCell, Array.getElem?_modify, HF.e]) (show w.heap.size + 1 ≠ w.heap.size by omega)
          have HG := clr_grown (w' := w7.setCell ⟨w.heap.size + 1, 0, none⟩ (.int .i64 6)) (grown_setNew HF.g (by simp) _) (Nat.le_refl w.heap.size)
          rw [← hw''] at HP HE HG
          clear hw''
          have q0 := blk_cell HP 0
          have q1 := blk_cell HP 1
          have q2 := blk_cell HP 2
          have q3 := blk_cell HP 3
          have q4 := blk_cell HP 4
          have q5 := blk_cell HP 5
          have q6 := blk_cell HP 6
          have q7 := blk_cell HP 7
          have q8 := blk_cell HP 8
          have q9 := blk_cell HP 9
          have q10 := blk_cell HP 10
          have qf : ∀ o, w''.frozen? ⟨w.heap.size, o, none⟩ = false := fun o => blk_free HP o
          simp only [zparts, pcells, List.getElem?_toArray, List.getElem?_cons_zero, List.getElem?_cons_succ] at q0 q1 q2 q3 q4 q5 q6 q7 q8 q9 q10
          have r0 := blk_cell HE 0
          simp only [List.getElem?_toArray, List.getElem?_cons_zero] at r0
          rw [hz.out]
          simp [Leaves, settle, results, Tryz.results13, go_sem, q0, q1, q2, q3, q4, q5, q6, q7, q8, q9, q10, r0, parV, zparts, pcells]
          exact HG
        · refine (whole_yes H6.r (by omega) (by omega)).mono ?_
          rintro e w7 ⟨rfl, s7⟩
          have H7 := H6.reader s7
          have hN7 : NS w7 w3.heap.size lv l := NS.gw hN (b := w.heap.size + 1 + 1) (c := w.heap.size) (Gw.of s7.g) (by have := H0.r.lt; omega) (by have := H0.p.lt; omega)
          clear s7 hN
          have HS : Kp w (pcells (.int .i64 y, .int .i64 (mo : Int), .int .i64 (d : Int)) (.bool false) (.int .i64 0, .int .i64 0, .int .i64 0, .int .i64 0) 0 0 z) w3.heap.size lv l w7 := ⟨H7.toPF, hN7⟩
          obtain ⟨q0, q1, q2, -⟩ := HS.cells
          clear H7 hN7
          go_wp2_with fail
          go_region_held3 (fun w' => w'.cell? ⟨w.heap.size, 0, none⟩ = some (.int .i64 y) ∧ w'.cell? ⟨w.heap.size, 1, none⟩ = some (.int .i64 (mo : Int)) ∧ w'.cell? ⟨w.heap.size, 2, none⟩ = some (.int .i64 (d : Int)) ∧ Kp w (pcells (.int .i64 y, .int .i64 (mo : Int), .int .i64 (d : Int)) (.bool false) (.int .i64 0, .int .i64 0, .int .i64 0, .int .i64 0) 0 0 z) w3.heap.size lv l w') (exact Kp.cells (by first | assumption | exact Kp.drew (by assumption))) (first | (go_at_call 43; refine (monthlen_kp y mo hm1 hm2 (by first | assumption | exact Kp.drew (by assumption))).mono ?_; rintro e w' ⟨rfl, hkp⟩))
          have H8 := hkp.1
          have hN8 := hkp.2
          rename_i hkx
          clear hkx hkp HS q0 q1 q2
          cases hml : decide (mlenF y mo < (d : Int)) with
          | true =>
            have hz := Lib.hid (show parseF s = .error 5 by simp at hml; simp [parseF, hd, HT, hn, hj, hml])
            have HF := H8
            go_wp2_with fail
            refine leaves_cons (f := 15) (args := #[.pointer (some ⟨w.heap.size + 1, 0, none⟩), .func (.func 39) #[] #[.pointer (some ⟨w.heap.size, 0, none⟩)]]) (by simp) (by simp [go_sem]) ?_
            try unfold eform
            refine (caught_panic (f := 39) (blk_cell HF.e 0) (blk_free HF.e 0) (fun _ => by simp [go_sem]) (clear_parts ((Below.heap_setCell _ _ _ _ (by simp)).trans HF.p))).mono ?_
            rintro e u' w'' ⟨rfl, rfl, hw''⟩
            have HP := clr_pb ((Below.heap_setCell _ ⟨w.heap.size + 1, 0, none⟩ (.int .i64 5) _ (by simp)).trans HF.p)
            have HE : (clr (w'.setCell ⟨w.heap.size + 1, 0, none⟩ (.int .i64 5)) w.heap.size).heap[w.heap.size + 1]? = some (.cells #[.int .i64 5] 24 (0, 0)) := clr_err (by simp [World.setCell, Array.getElem?_modify, HF.e]) (show w.heap.size + 1 ≠ w.heap.size by omega)
            have HG := clr_grown (w' := w'.setCell ⟨w.heap.size + 1, 0, none⟩ (.int .i64 5)) (grown_setNew HF.g (by simp) _) (Nat.le_refl w.heap.size)
            rw [← hw''] at HP HE HG
            clear hw''
            have q0 := blk_cell HP 0
            have q1 := blk_cell HP 1
            have q2 := blk_cell HP 2
            have q3 := blk_cell HP 3
            have q4 := blk_cell HP 4
            have q5 := blk_cell HP 5
            have q6 := blk_cell HP 6
            have q7 := blk_cell HP 7
            have q8 := blk_cell HP 8
            have q9 := blk_cell HP 9
            have q10 := blk_cell HP 10
            have qf : ∀ o, w''.frozen? ⟨w.heap.size, o, none⟩ = false := fun o => blk_free HP o
            simp only [zparts, pcells, List.getElem?_toArray, List.getElem?_cons_zero, List.getElem?_cons_succ] at q0 q1 q2 q3 q4 q5 q6 q7 q8 q9 q10
            have r0 := blk_cell HE 0
            simp only [List.getElem?_toArray, List.getElem?_cons_zero] at r0
            rw [hz.out]
            simp [Leaves, settle, results, Tryz.results13, go_sem, q0, q1, q2, q3, q4, q5, q6, q7, q8, q9, q10, r0, parV, zparts, pcells]
            exact HG
          | false =>
            have hml' := Lib.hid (Int.not_lt.1 (of_decide_eq_false hml))
            go_wp2_with fail
            refine (calendar_any l lv _ w' hN8 (by omega) (fun n hn => ⟨Nat.lt_of_le_of_lt (hl1 n hn).1 hs, fun j b hb => value_ascii (hl1 n hn).2.2 b (List.mem_of_getElem? hb)⟩)).mono ?_
            rintro e w9 ⟨rfl, hg9⟩
            have HF := H8.grow hg9
            cases hca : (calF l != 0) with
            | true =>
              have hz := Lib.hid ((parse_rest hd HT hn hj).trans (by rw [if_neg (Int.not_lt.2 hml'.out), if_neg (by simpa using hca)]) : parseF s = .error (calF l))
              go_wp2_with fail
              refine leaves_cons (f := 15) (args := #[.pointer (some ⟨w.heap.size + 1, 0, none⟩), .func (.func 39) #[] #[.pointer (some ⟨w.heap.size, 0, none⟩)]]) (by simp) (by simp [go_sem]) ?_
              try unfold eform
              refine (caught_panic (f := 39) (blk_cell HF.e 0) (blk_free HF.e 0) (fun _ => by simp [go_sem]) (clear_parts ((Below.heap_setCell _ _ _ _ (by simp)).trans HF.p))).mono ?_
              rintro e u' w'' ⟨rfl, rfl, hw''⟩
              have HP := clr_pb ((Below.heap_setCell _ ⟨w.heap.size + 1, 0, none⟩ (.int .i64 (calF l)) _ (by simp)).trans HF.p)
              have HE : (clr (w9.setCell ⟨w.heap.size + 1, 0, none⟩ (.int .i64 (calF l))) w.heap.size).heap[w.heap.size + 1]? = some (.cells #[.int .i64 (calF l)] 24 (0, 0)) := clr_err (by simp [World.setCell, Array.getElem?_modify, HF.e]) (show w.heap.size + 1 ≠ w.heap.size by omega)
              have HG := clr_grown (w' := w9.setCell ⟨w.heap.size + 1, 0, none⟩ (.int .i64 (calF l))) (grown_setNew HF.g (by simp) _) (Nat.le_refl w.heap.size)
              rw [← hw''] at HP HE HG
              clear hw''
              have q0 := blk_cell HP 0
              have q1 := blk_cell HP 1
              have q2 := blk_cell HP 2
              have q3 := blk_cell HP 3
              have q4 := blk_cell HP 4
              have q5 := blk_cell HP 5
              have q6 := blk_cell HP 6
              have q7 := blk_cell HP 7
              have q8 := blk_cell HP 8
              have q9 := blk_cell HP 9
              have q10 := blk_cell HP 10
              have qf : ∀ o, w''.frozen? ⟨w.heap.size, o, none⟩ = false := fun o => blk_free HP o
              simp only [zparts, pcells, List.getElem?_toArray, List.getElem?_cons_zero, List.getElem?_cons_succ] at q0 q1 q2 q3 q4 q5 q6 q7 q8 q9 q10
              have r0 := blk_cell HE 0
              simp only [List.getElem?_toArray, List.getElem?_cons_zero] at r0
              rw [hz.out]
              simp [Leaves, settle, results, Tryz.results13, go_sem, q0, q1, q2, q3, q4, q5, q6, q7, q8, q9, q10, r0, parV, zparts, pcells]
              exact HG
            | false =>
              have q0 := blk_cell HF.p 0
              have q1 := blk_cell HF.p 1
              have q2 := blk_cell HF.p 2
              have q3 := blk_cell HF.p 3
              have q4 := blk_cell HF.p 4
              have q5 := blk_cell HF.p 5
              have q6 := blk_cell HF.p 6
              have q7 := blk_cell HF.p 7
              have q8 := blk_cell HF.p 8
              have q9 := blk_cell HF.p 9
              have q10 := blk_cell HF.p 10
              have qf : ∀ o, w9.frozen? ⟨w.heap.size, o, none⟩ = false := fun o => blk_free HF.p o
              simp only [zparts, pcells, List.getElem?_toArray, List.getElem?_cons_zero, List.getElem?_cons_succ] at q0 q1 q2 q3 q4 q5 q6 q7 q8 q9 q10
              have r0 := blk_cell HF.e 0
              have r1 := blk_free HF.e 0
              simp only [List.getElem?_toArray, List.getElem?_cons_zero] at r0
              go_wp2_with fail
              refine leaves_cons (f := 15) (args := #[.pointer (some ⟨w.heap.size + 1, 0, none⟩), .func (.func 39) #[] #[.pointer (some ⟨w.heap.size, 0, none⟩)]]) (by simp) (by simp [go_sem]) ?_
              refine caught_idle.mono ?_
              rintro e u' w'' ⟨rfl, rfl, rfl⟩
              have hz := Lib.hid ((parse_rest hd HT hn hj).trans (by rw [if_neg (Int.not_lt.2 hml'.out), if_pos (by simpa using hca)]) : parseF s = .ok ⟨y, mo, d, false, (0, 0, 0, 0), 0, 0, z⟩)
              rw [hz.out]
              simp [Leaves, settle, results, Tryz.results13, go_sem, q0, q1, q2, q3, q4, q5, q6, q7, q8, q9, q10, r0, parV, Pt.cells, pcells]
              iterate 12 refine grown_setNew ?_ (by simp) _
              exact HF.g
    | true =>
      obtain ⟨hpos, hkl⟩ := sep_pos hsep
      have dpos : decide (0 < nx s k) = true := by simpa using hpos
      cases ht : time s (k + 1) with
      | none =>
        have hz := Lib.hid (show parseF s = .error 6 by simp [parseF, hd, tailF, hsep, ht])
        go_enter_defers Tryz.func13, Tryz.ntmps13
        go_wp2_with fail
        have P0 : PS s w (((w.alloc (.cells zparts 40)).alloc (.cells #[.int .i64 0] 24)).alloc (.cells #[.string s, .int .i64 0] 51)) 0 zparts := ⟨⟨grown_alloc (grown_alloc (grown_alloc (grown_refl _ _) _) _) _, (Below.heap_alloc _ _ _ (by rw [heap_alloc_size, heap_alloc_size]; omega)).trans (alloc2 _ _ _), by have := alloc2 (w.alloc (.cells zparts 40)) (.cells #[.int .i64 0] 24) (.cells #[.string s, .int .i64 0] 51); rwa [heap_alloc_size] at this⟩, by have := blk_new ((w.alloc (.cells zparts 40)).alloc (.cells #[.int .i64 0] 24)) (.cells #[.string s, .int .i64 0] 51); rwa [heap_alloc_size, heap_alloc_size] at this⟩
        simp only [zparts, pcells] at P0
        generalize (((w.alloc (.cells #[.int .i64 0, .int .i64 0, .int .i64 0, .bool false, .int .i64 0, .int .i64 0, .int .i64 0, .int .i64 0, .int .i64 0, .int .i64 0, .string ⟨#[]⟩] 40)).alloc (.cells #[.int .i64 0] 24)).alloc (.cells #[.string s, .int .i64 0] 51)) = W3 at *
        have P0 : PS s w W3 0 zparts := P0
        go_wp2_with fail
        refine (date_yes hd P0.r (by omega) (by omega)).mono ?_
        rintro e w2 ⟨rfl, s2⟩
        have P2 := P0.reader s2
        have q0 := blk_cell P2.p 0
        have q1 := blk_cell P2.p 1
        have q2 := blk_cell P2.p 2
        have q3 := blk_cell P2.p 3
        have q4 := blk_cell P2.p 4
        have q5 := blk_cell P2.p 5
        have q6 := blk_cell P2.p 6
        have q7 := blk_cell P2.p 7
        have q8 := blk_cell P2.p 8
        have q9 := blk_cell P2.p 9
        have q10 := blk_cell P2.p 10
        have qf : ∀ o, w2.frozen? ⟨w.heap.size, o, none⟩ = false := fun o => blk_free P2.p o
        simp only [zparts, pcells, List.getElem?_toArray, List.getElem?_cons_zero, List.getElem?_cons_succ] at q0 q1 q2 q3 q4 q5 q6 q7 q8 q9 q10
        go_upto_if 16 with (go_at_call 17; refine (one_sep_yes hsep (((P2.set 0 (.int .i64 y)).set 1 (.int .i64 (mo : Int))).set 2 (.int .i64 (d : Int))).r (by omega) hk).mono ?_; rintro e w3 ⟨rfl, s3⟩)
        have P3 := (((P2.set 0 (.int .i64 y)).set 1 (.int .i64 (mo : Int))).set 2 (.int .i64 (d : Int))).reader s3
        simp [zparts, pcells] at P3
        have P3 : PS s w w3 (k + 1) (pcells (.int .i64 y, .int .i64 (mo : Int), .int .i64 (d : Int)) (.bool false) (.int .i64 0, .int .i64 0, .int .i64 0, .int .i64 0) 0 0 ⟨#[]⟩) := P3
        clear q0 q1 q2 q3 q4 q5 q6 q7 q8 q9 q10 qf s3 P2 P0 s2
        have q0 := blk_cell P3.p 0
        have q1 := blk_cell P3.p 1
        have q2 := blk_cell P3.p 2
        have q3 := blk_cell P3.p 3
        have q4 := blk_cell P3.p 4
        have q5 := blk_cell P3.p 5
        have q6 := blk_cell P3.p 6
        have q7 := blk_cell P3.p 7
        have q8 := blk_cell P3.p 8
        have q9 := blk_cell P3.p 9
        have q10 := blk_cell P3.p 10
        have qf : ∀ o, w3.frozen? ⟨w.heap.size, o, none⟩ = false := fun o => blk_free P3.p o
        simp only [zparts, pcells, List.getElem?_toArray, List.getElem?_cons_zero, List.getElem?_cons_succ] at q0 q1 q2 q3 q4 q5 q6 q7 q8 q9 q10
        have PB := P3.set 3 (.bool true)
        simp [pcells] at PB
        have PB : PS s w (w3.setCell ⟨w.heap.size, 3, none⟩ (.bool true)) (k + 1) (pcells (.int .i64 y, .int .i64 (mo : Int), .int .i64 (d : Int)) (.bool true) (.int .i64 0, .int .i64 0, .int .i64 0, .int .i64 0) 0 0 ⟨#[]⟩) := PB
        go_wp2_with fail
        refine (time_no ht PB.r (by omega) (by omega)).mono ?_
        rintro e w4 ⟨rfl, hg⟩
        have HF := PB.toPF.reader hg
        go_wp2_with fail
        refine leaves_cons (f := 15) (args := #[.pointer (some ⟨w.heap.size + 1, 0, none⟩), .func (.func 39) #[] #[.pointer (some ⟨w.heap.size, 0, none⟩)]]) (by simp) (by simp [go_sem]) ?_
        try unfold eform
        refine (caught_panic (f := 39) (blk_cell HF.e 0) (blk_free HF.e 0) (fun _ => by simp [go_sem]) (clear_parts ((Below.heap_setCell _ _ _ _ (by simp)).trans HF.p))).mono ?_
        rintro e u' w'' ⟨rfl, rfl, hw''⟩
        have HP := clr_pb ((Below.heap_setCell _ ⟨w.heap.size + 1, 0, none⟩ (.int .i64 6) _ (by simp)).trans HF.p)
        have HE : (clr (w4.setCell ⟨w.heap.size + 1, 0, none⟩ (.int .i64 6)) w.heap.size).heap[w.heap.size + 1]? = some (.cells #[.int .i64 6] 24 (0, 0)) := clr_err (by simp [World.setCell, Array.getElem?_modify, HF.e]) (show w.heap.size + 1 ≠ w.heap.size by omega)
        have HG := clr_grown (w' := w4.setCell ⟨w.heap.size + 1, 0, none⟩ (.int .i64 6)) (grown_setNew HF.g (by simp) _) (Nat.le_refl w.heap.size)
        rw [← hw''] at HP HE HG
        clear hw''
        have q0 := blk_cell HP 0
        have q1 := blk_cell HP 1
        have q2 := blk_cell HP 2
        have q3 := blk_cell HP 3
        have q4 := blk_cell HP 4
        have q5 := blk_cell HP 5
        have q6 := blk_cell HP 6
        have q7 := blk_cell HP 7
        have q8 := blk_cell HP 8
        have q9 := blk_cell HP 9
        have q10 := blk_cell HP 10
        have qf : ∀ o, w''.frozen? ⟨w.heap.size, o, none⟩ = false := fun o => blk_free HP o
        simp only [zparts, pcells, List.getElem?_toArray, List.getElem?_cons_zero, List.getElem?_cons_succ] at q0 q1 q2 q3 q4 q5 q6 q7 q8 q9 q10
        have r0 := blk_cell HE 0
        simp only [List.getElem?_toArray, List.getElem?_cons_zero] at r0
        rw [hz.out]
        simp [Leaves, settle, results, Tryz.results13, go_sem, q0, q1, q2, q3, q4, q5, q6, q7, q8, q9, q10, r0, parV, zparts, pcells]
        exact HG
      | some v =>
        obtain ⟨⟨h, mi, x, f⟩, k2⟩ := v
        have hk2 := time_in ht (by omega)
        cases ho : offs s k2 with
        | none =>
          have hz := Lib.hid (show parseF s = .error 6 by simp [parseF, hd, tailF, hsep, ht, ho])
          go_enter_defers Tryz.func13, Tryz.ntmps13
          go_wp2_with fail
          have P0 : PS s w (((w.alloc (.cells zparts 40)).alloc (.cells #[.int .i64 0] 24)).alloc (.cells #[.string s, .int .i64 0] 51)) 0 zparts := ⟨⟨grown_alloc (grown_alloc (grown_alloc (grown_refl _ _) _) _) _, (Below.heap_alloc _ _ _ (by rw [heap_alloc_size, heap_alloc_size]; omega)).trans (alloc2 _ _ _), by have := alloc2 (w.alloc (.cells zparts 40)) (.cells #[.int .i64 0] 24) (.cells #[.string s, .int .i64 0] 51); rwa [heap_alloc_size] at this⟩, by have := blk_new ((w.alloc (.cells zparts 40)).alloc (.cells #[.int .i64 0] 24)) (.cells #[.string s, .int .i64 0] 51); rwa [heap_alloc_size, heap_alloc_size] at this⟩
          simp only [zparts, pcells] at P0
          generalize (((w.alloc (.cells #[.int .i64 0, .int .i64 0, .int .i64 0, .bool false, .int .i64 0, .int .i64 0, .int .i64 0, .int .i64 0, .int .i64 0, .int .i64 0, .string ⟨#[]⟩] 40)).alloc (.cells #[.int .i64 0] 24)).alloc (.cells #[.string s, .int .i64 0] 51)) = W3 at *
          have P0 : PS s w W3 0 zparts := P0
          go_wp2_with fail
          refine (date_yes hd P0.r (by omega) (by omega)).mono ?_
          rintro e w2 ⟨rfl, s2⟩
          have P2 := P0.reader s2
          have q0 := blk_cell P2.p 0
          have q1 := blk_cell P2.p 1
          have q2 := blk_cell P2.p 2
          have q3 := blk_cell P2.p 3
          have q4 := blk_cell P2.p 4
          have q5 := blk_cell P2.p 5
          have q6 := blk_cell P2.p 6
          have q7 := blk_cell P2.p 7
          have q8 := blk_cell P2.p 8
          have q9 := blk_cell P2.p 9
          have q10 := blk_cell P2.p 10
          have qf : ∀ o, w2.frozen? ⟨w.heap.size, o, none⟩ = false := fun o => blk_free P2.p o
          simp only [zparts, pcells, List.getElem?_toArray, List.getElem?_cons_zero, List.getElem?_cons_succ] at q0 q1 q2 q3 q4 q5 q6 q7 q8 q9 q10
          go_upto_if 16 with (go_at_call 17; refine (one_sep_yes hsep (((P2.set 0 (.int .i64 y)).set 1 (.int .i64 (mo : Int))).set 2 (.int .i64 (d : Int))).r (by omega) hk).mono ?_; rintro e w3 ⟨rfl, s3⟩)
          have P3 := (((P2.set 0 (.int .i64 y)).set 1 (.int .i64 (mo : Int))).set 2 (.int .i64 (d : Int))).reader s3
          simp [zparts, pcells] at P3
          have P3 : PS s w w3 (k + 1) (pcells (.int .i64 y, .int .i64 (mo : Int), .int .i64 (d : Int)) (.bool false) (.int .i64 0, .int .i64 0, .int .i64 0, .int .i64 0) 0 0 ⟨#[]⟩) := P3
          clear q0 q1 q2 q3 q4 q5 q6 q7 q8 q9 q10 qf s3 P2 P0 s2
          have q0 := blk_cell P3.p 0
          have q1 := blk_cell P3.p 1
          have q2 := blk_cell P3.p 2
          have q3 := blk_cell P3.p 3
          have q4 := blk_cell P3.p 4
          have q5 := blk_cell P3.p 5
          have q6 := blk_cell P3.p 6
          have q7 := blk_cell P3.p 7
          have q8 := blk_cell P3.p 8
          have q9 := blk_cell P3.p 9
          have q10 := blk_cell P3.p 10
          have qf : ∀ o, w3.frozen? ⟨w.heap.size, o, none⟩ = false := fun o => blk_free P3.p o
          simp only [zparts, pcells, List.getElem?_toArray, List.getElem?_cons_zero, List.getElem?_cons_succ] at q0 q1 q2 q3 q4 q5 q6 q7 q8 q9 q10
          have PB := P3.set 3 (.bool true)
          simp [pcells] at PB
          have PB : PS s w (w3.setCell ⟨w.heap.size, 3, none⟩ (.bool true)) (k + 1) (pcells (.int .i64 y, .int .i64 (mo : Int), .int .i64 (d : Int)) (.bool true) (.int .i64 0, .int .i64 0, .int .i64 0, .int .i64 0) 0 0 ⟨#[]⟩) := PB
          go_wp2_with fail
          refine (time_yes ht PB.r (by omega) (by omega)).mono ?_
          rintro e w4 ⟨rfl, s4⟩
          have P4 := PB.reader s4
          clear q0 q1 q2 q3 q4 q5 q6 q7 q8 q9 q10 qf s4 PB
          have q0 := blk_cell P4.p 0
          have q1 := blk_cell P4.p 1
          have q2 := blk_cell P4.p 2
          have q3 := blk_cell P4.p 3
          have q4 := blk_cell P4.p 4
          have q5 := blk_cell P4.p 5
          have q6 := blk_cell P4.p 6
          have q7 := blk_cell P4.p 7
          have q8 := blk_cell P4.p 8
          have q9 := blk_cell P4.p 9
          have q10 := blk_cell P4.p 10
          have qf : ∀ o, w4.frozen? ⟨w.heap.size, o, none⟩ = false := fun o => blk_free P4.p o
          simp only [zparts, pcells, List.getElem?_toArray, List.getElem?_cons_zero, List.getElem?_cons_succ] at q0 q1 q2 q3 q4 q5 q6 q7 q8 q9 q10
          have PC := (((P4.set 4 (.int .i64 (h : Int))).set 5 (.int .i64 (mi : Int))).set 6 (.int .i64 (x : Int))).set 7 (.int .i64 (f : Int))
          simp [pcells] at PC
          go_wp2_with fail
          generalize (((w4.setCell ⟨w.heap.size, 4, none⟩ (.int .i64 (h : Int))).setCell ⟨w.heap.size, 5, none⟩ (.int .i64 (mi : Int))).setCell ⟨w.heap.size, 6, none⟩ (.int .i64 (x : Int))).setCell ⟨w.heap.size, 7, none⟩ (.int .i64 (f : Int)) = W5 at *
          clear q0 q1 q2 q3 q4 q5 q6 q7 q8 q9 q10 qf P4
          have PC : PS s w W5 k2 (pcells (.int .i64 y, .int .i64 (mo : Int), .int .i64 (d : Int)) (.bool true) (.int .i64 (h : Int), .int .i64 (mi : Int), .int .i64 (x : Int), .int .i64 (f : Int)) 0 0 ⟨#[]⟩) := PC
          refine (offset_no ho PC.r (by omega) hk2).mono ?_
          rintro e w5 ⟨rfl, hg⟩
          have HF := PC.toPF.reader hg
          go_wp2_with fail
          refine leaves_cons (f := 15) (args := #[.pointer (some ⟨w.heap.size + 1, 0, none⟩), .func (.func 39) #[] #[.pointer (some ⟨w.heap.size, 0, none⟩)]]) (by simp) (by simp [go_sem]) ?_
          try unfold eform
          refine (caught_panic (f := 39) (blk_cell HF.e 0) (blk_free HF.e 0) (fun _ => by simp [go_sem]) (clear_parts ((Below.heap_setCell _ _ _ _ (by simp)).trans HF.p))).mono ?_
          rintro e u' w'' ⟨rfl, rfl, hw''⟩
          have HP := clr_pb ((Below.heap_setCell _ ⟨w.heap.size + 1, 0, none⟩ (.int .i64 6) _ (by simp)).trans HF.p)
          have HE : (clr (w5.setCell ⟨w.heap.size + 1, 0, none⟩ (.int .i64 6)) w.heap.size).heap[w.heap.size + 1]? = some (.cells #[.int .i64 6] 24 (0, 0)) := clr_err (by simp [World.setCell, Array.getElem?_modify, HF.e]) (show w.heap.size + 1 ≠ w.heap.size by omega)
          have HG := clr_grown (w' := w5.setCell ⟨w.heap.size + 1, 0, none⟩ (.int .i64 6)) (grown_setNew HF.g (by simp) _) (Nat.le_refl w.heap.size)
          rw [← hw''] at HP HE HG
          clear hw''
          have q0 := blk_cell HP 0
          have q1 := blk_cell HP 1
          have q2 := blk_cell HP 2
          have q3 := blk_cell HP 3
          have q4 := blk_cell HP 4
          have q5 := blk_cell HP 5
          have q6 := blk_cell HP 6
          have q7 := blk_cell HP 7
          have q8 := blk_cell HP 8
          have q9 := blk_cell HP 9
          have q10 := blk_cell HP 10
          have qf : ∀ o, w''.frozen? ⟨w.heap.size, o, none⟩ = false := fun o => blk_free HP o
          simp only [zparts, pcells, List.getElem?_toArray, List.getElem?_cons_zero, List.getElem?_cons_succ] at q0 q1 q2 q3 q4 q5 q6 q7 q8 q9 q10
          have r0 := blk_cell HE 0
          simp only [List.getElem?_toArray, List.getElem?_cons_zero] at r0
          rw [hz.out]
          simp [Leaves, settle, results, Tryz.results13, go_sem, q0, q1, q2, q3, q4, q5, q6, q7, q8, q9, q10, r0, parV, zparts, pcells]
          exact HG
        | some v =>
          obtain ⟨⟨kd, o⟩, k3⟩ := v
          have HT : tailF s k = some ((true, (h, mi, x, f), kd, o), k3) := by unfold tailF; rw [if_pos hsep, ht]; simp only; rw [ho]
          have hi := offs_in ho hk2
          go_enter_defers Tryz.func13, Tryz.ntmps13
          go_wp2_with fail
          have P0 : PS s w (((w.alloc (.cells zparts 40)).alloc (.cells #[.int .i64 0] 24)).alloc (.cells #[.string s, .int .i64 0] 51)) 0 zparts := ⟨⟨grown_alloc (grown_alloc (grown_alloc (grown_refl _ _) _) _) _, (Below.heap_alloc _ _ _ (by rw [heap_alloc_size, heap_alloc_size]; omega)).trans (alloc2 _ _ _), by have := alloc2 (w.alloc (.cells zparts 40)) (.cells #[.int .i64 0] 24) (.cells #[.string s, .int .i64 0] 51); rwa [heap_alloc_size] at this⟩, by have := blk_new ((w.alloc (.cells zparts 40)).alloc (.cells #[.int .i64 0] 24)) (.cells #[.string s, .int .i64 0] 51); rwa [heap_alloc_size, heap_alloc_size] at this⟩
          simp only [zparts, pcells] at P0
          generalize (((w.alloc (.cells #[.int .i64 0, .int .i64 0, .int .i64 0, .bool false, .int .i64 0, .int .i64 0, .int .i64 0, .int .i64 0, .int .i64 0, .int .i64 0, .string ⟨#[]⟩] 40)).alloc (.cells #[.int .i64 0] 24)).alloc (.cells #[.string s, .int .i64 0] 51)) = W3 at *
          have P0 : PS s w W3 0 zparts := P0
          go_wp2_with fail
          refine (date_yes hd P0.r (by omega) (by omega)).mono ?_
          rintro e w2 ⟨rfl, s2⟩
          have P2 := P0.reader s2
          have q0 := blk_cell P2.p 0
          have q1 := blk_cell P2.p 1
          have q2 := blk_cell P2.p 2
          have q3 := blk_cell P2.p 3
          have q4 := blk_cell P2.p 4
          have q5 := blk_cell P2.p 5
          have q6 := blk_cell P2.p 6
          have q7 := blk_cell P2.p 7
          have q8 := blk_cell P2.p 8
          have q9 := blk_cell P2.p 9
          have q10 := blk_cell P2.p 10
          have qf : ∀ o, w2.frozen? ⟨w.heap.size, o, none⟩ = false := fun o => blk_free P2.p o
          simp only [zparts, pcells, List.getElem?_toArray, List.getElem?_cons_zero, List.getElem?_cons_succ] at q0 q1 q2 q3 q4 q5 q6 q7 q8 q9 q10
          go_upto_if 16 with (go_at_call 17; refine (one_sep_yes hsep (((P2.set 0 (.int .i64 y)).set 1 (.int .i64 (mo : Int))).set 2 (.int .i64 (d : Int))).r (by omega) hk).mono ?_; rintro e w3 ⟨rfl, s3⟩)
          have P3 := (((P2.set 0 (.int .i64 y)).set 1 (.int .i64 (mo : Int))).set 2 (.int .i64 (d : Int))).reader s3
          simp [zparts, pcells] at P3
          have P3 : PS s w w3 (k + 1) (pcells (.int .i64 y, .int .i64 (mo : Int), .int .i64 (d : Int)) (.bool false) (.int .i64 0, .int .i64 0, .int .i64 0, .int .i64 0) 0 0 ⟨#[]⟩) := P3
          clear q0 q1 q2 q3 q4 q5 q6 q7 q8 q9 q10 qf s3 P2 P0 s2
          have q0 := blk_cell P3.p 0
          have q1 := blk_cell P3.p 1
          have q2 := blk_cell P3.p 2
          have q3 := blk_cell P3.p 3
          have q4 := blk_cell P3.p 4
          have q5 := blk_cell P3.p 5
          have q6 := blk_cell P3.p 6
          have q7 := blk_cell P3.p 7
          have q8 := blk_cell P3.p 8
          have q9 := blk_cell P3.p 9
          have q10 := blk_cell P3.p 10
          have qf : ∀ o, w3.frozen? ⟨w.heap.size, o, none⟩ = false := fun o => blk_free P3.p o
          simp only [zparts, pcells, List.getElem?_toArray, List.getElem?_cons_zero, List.getElem?_cons_succ] at q0 q1 q2 q3 q4 q5 q6 q7 q8 q9 q10
          have PB := P3.set 3 (.bool true)
          simp [pcells] at PB
          have PB : PS s w (w3.setCell ⟨w.heap.size, 3, none⟩ (.bool true)) (k + 1) (pcells (.int .i64 y, .int .i64 (mo : Int), .int .i64 (d : Int)) (.bool true) (.int .i64 0, .int .i64 0, .int .i64 0, .int .i64 0) 0 0 ⟨#[]⟩) := PB
          go_wp2_with fail
          refine (time_yes ht PB.r (by omega) (by omega)).mono ?_
          rintro e w4 ⟨rfl, s4⟩
          have P4 := PB.reader s4
          clear q0 q1 q2 q3 q4 q5 q6 q7 q8 q9 q10 qf s4 PB
          have q0 := blk_cell P4.p 0
          have q1 := blk_cell P4.p 1
          have q2 := blk_cell P4.p 2
          have q3 := blk_cell P4.p 3
          have q4 := blk_cell P4.p 4
          have q5 := blk_cell P4.p 5
          have q6 := blk_cell P4.p 6
          have q7 := blk_cell P4.p 7
          have q8 := blk_cell P4.p 8
          have q9 := blk_cell P4.p 9
          have q10 := blk_cell P4.p 10
          have qf : ∀ o, w4.frozen? ⟨w.heap.size, o, none⟩ = false := fun o => blk_free P4.p o
          simp only [zparts, pcells, List.getElem?_toArray, List.getElem?_cons_zero, List.getElem?_cons_succ] at q0 q1 q2 q3 q4 q5 q6 q7 q8 q9 q10
          have PC := (((P4.set 4 (.int .i64 (h : Int))).set 5 (.int .i64 (mi : Int))).set 6 (.int .i64 (x : Int))).set 7 (.int .i64 (f : Int))
          simp [pcells] at PC
          go_wp2_with fail
          generalize (((w4.setCell ⟨w.heap.size, 4, none⟩ (.int .i64 (h : Int))).setCell ⟨w.heap.size, 5, none⟩ (.int .i64 (mi : Int))).setCell ⟨w.heap.size, 6, none⟩ (.int .i64 (x : Int))).setCell ⟨w.heap.size, 7, none⟩ (.int .i64 (f : Int)) = W5 at *
          clear q0 q1 q2 q3 q4 q5 q6 q7 q8 q9 q10 qf P4
          have PC : PS s w W5 k2 (pcells (.int .i64 y, .int .i64 (mo : Int), .int .i64 (d : Int)) (.bool true) (.int .i64 (h : Int), .int .i64 (mi : Int), .int .i64 (x : Int), .int .i64 (f : Int)) 0 0 ⟨#[]⟩) := PC
          refine (offset_yes ho PC.r PC.p (by omega) (by omega) hk2).mono ?_
          rintro e w5 ⟨rfl, hg, hr, hp⟩
          have H0 := PC.both hg hr hp
          clear hg hr hp
          have hmx : w5.cell? ⟨1, 0, none⟩ = some (.int .i64 m) := grown_cell H0.g hm
          cases hn : notesF s (s.size + 1) k3 true ⟨#[]⟩ [] with
          | none =>
            have hz := Lib.hid (show parseF s = .error 6 by simp [parseF, hd, HT, hn])
            go_wp2_with fail
            refine (notes_any H0.r H0.p (by omega) hs hi hmx (by omega) (by omega)).mono ?_
            rw [hn]
            rintro e w6 ⟨rfl, hg, z', hp⟩
            have HF := H0.toPF.both hg hp
            go_wp2_with fail
            refine leaves_cons (f := 15) (args := #[.pointer (some ⟨w.heap.size + 1, 0, none⟩), .func (.func 39) #[] #[.pointer (some ⟨w.heap.size, 0, none⟩)]]) (by simp) (by simp [go_sem]) ?_
            try unfold eform
            refine (caught_panic (f := 39) (blk_cell HF.e 0) (blk_free HF.e 0) (fun _ => by simp [go_sem]) (clear_parts ((Below.heap_setCell _ _ _ _ (by simp)).trans HF.p))).mono ?_
            rintro e u' w'' ⟨rfl, rfl, hw''⟩
            have HP := clr_pb ((Below.heap_setCell _ ⟨w.heap.size + 1, 0, none⟩ (.int .i64 6) _ (by simp)).trans HF.p)
            have HE : (clr (w6.setCell ⟨w.heap.size + 1, 0, none⟩ (.int .i64 6)) w.heap.size).heap[w.heap.size + 1]? = some (.cells #[.int .i64 6] 24 (0, 0)) := clr_err (by simp [World.setCell, Array.getElem?_modify, HF.e]) (show w.heap.size + 1 ≠ w.heap.size by omega)
            have HG := clr_grown (w' := w6.setCell ⟨w.heap.size + 1, 0, none⟩ (.int .i64 6)) (grown_setNew HF.g (by simp) _) (Nat.le_refl w.heap.size)
            rw [← hw''] at HP HE HG
            clear hw''
            have q0 := blk_cell HP 0
            have q1 := blk_cell HP 1
            have q2 := blk_cell HP 2
            have q3 := blk_cell HP 3
            have q4 := blk_cell HP 4
            have q5 := blk_cell HP 5
            have q6 := blk_cell HP 6
            have q7 := blk_cell HP 7
            have q8 := blk_cell HP 8
            have q9 := blk_cell HP 9
            have q10 := blk_cell HP 10
            have qf : ∀ o, w''.frozen? ⟨w.heap.size, o, none⟩ = false := fun o => blk_free HP o
            simp only [zparts, pcells, List.getElem?_toArray, List.getElem?_cons_zero, List.getElem?_cons_succ] at q0 q1 q2 q3 q4 q5 q6 q7 q8 q9 q10
            have r0 := blk_cell HE 0
            simp only [List.getElem?_toArray, List.getElem?_cons_zero] at r0
            rw [hz.out]
            simp [Leaves, settle, results, Tryz.results13, go_sem, q0, q1, q2, q3, q4, q5, q6, q7, q8, q9, q10, r0, parV, zparts, pcells]
            exact HG
          | some v =>
            obtain ⟨⟨z, l⟩, j⟩ := v
            obtain ⟨hl1, hl2, hl3, hl4⟩ := notesF_all hn (by simp) (by simp) hi
            go_wp2_with fail
            refine (notes_any H0.r H0.p (by omega) hs hi hmx (by omega) (by omega)).mono ?_
            rw [hn]
            rintro e w6 ⟨⟨lv, rfl, hN⟩, hg, hr, hp⟩
            have H6 := H0.both hg hr hp
            have hsz := H0.g.size
            clear hg hr hp
            go_wp2_with fail
            by_cases hj : j < s.size
            · have hz := Lib.hid (show parseF s = .error 6 by simp [parseF, hd, HT, hn, hj])
              refine (whole_no H6.r (by omega) hj).mono ?_
              rintro e w7 ⟨rfl, hg7⟩
              have HF := H6.toPF.reader hg7
              go_wp2_with fail
              refine leaves_cons (f := 15) (args := #[.pointer (some ⟨w.heap.size + 1, 0, none⟩), .func (.func 39) #[] #[.pointer (some ⟨w.heap.size, 0, none⟩)]]) (by simp) (by simp [go_sem]) ?_
              try unfold eform
              refine (caught_panic (f := 39) (blk_cell HF.e 0) (blk_free HF.e 0) (fun _ => by simp [go_sem]) (clear_parts ((Below.heap_setCell _ _ _ _ (by simp)).trans HF.p))).mono ?_
              rintro e u' w'' ⟨rfl, rfl, hw''⟩
              have HP := clr_pb ((Below.heap_setCell _ ⟨w.heap.size + 1, 0, none⟩ (.int .i64 6) _ (by simp)).trans HF.p)
              have HE : (clr (w7.setCell ⟨w.heap.size + 1, 0, none⟩ (.int .i64 6)) w.heap.size).heap[w.heap.size + 1]? = some (.cells #[.int .i64 6] 24 (0, 0)) := clr_err (by simp [World.setCell, Array.getElem?_modify, HF.e]) (show w.heap.size + 1 ≠ w.heap.size by omega)
              have HG := clr_grown (w' := w7.setCell ⟨w.heap.size + 1, 0, none⟩ (.int .i64 6)) (grown_setNew HF.g (by simp) _) (Nat.le_refl w.heap.size)
              rw [← hw''] at HP HE HG
              clear hw''
              have q0 := blk_cell HP 0
              have q1 := blk_cell HP 1
              have q2 := blk_cell HP 2
              have q3 := blk_cell HP 3
              have q4 := blk_cell HP 4
              have q5 := blk_cell HP 5
              have q6 := blk_cell HP 6
              have q7 := blk_cell HP 7
              have q8 := blk_cell HP 8
              have q9 := blk_cell HP 9
              have q10 := blk_cell HP 10
              have qf : ∀ o, w''.frozen? ⟨w.heap.size, o, none⟩ = false := fun o => blk_free HP o
              simp only [zparts, pcells, List.getElem?_toArray, List.getElem?_cons_zero, List.getElem?_cons_succ] at q0 q1 q2 q3 q4 q5 q6 q7 q8 q9 q10
              have r0 := blk_cell HE 0
              simp only [List.getElem?_toArray, List.getElem?_cons_zero] at r0
              rw [hz.out]
              simp [Leaves, settle, results, Tryz.results13, go_sem, q0, q1, q2, q3, q4, q5, q6, q7, q8, q9, q10, r0, parV, zparts, pcells]
              exact HG
            · refine (whole_yes H6.r (by omega) (by omega)).mono ?_
              rintro e w7 ⟨rfl, s7⟩
              have H7 := H6.reader s7
              have hN7 : NS w7 w5.heap.size lv l := NS.gw hN (b := w.heap.size + 1 + 1) (c := w.heap.size) (Gw.of s7.g) (by have := H0.r.lt; omega) (by have := H0.p.lt; omega)
              clear s7 hN
              have HS : Kp w (pcells (.int .i64 y, .int .i64 (mo : Int), .int .i64 (d : Int)) (.bool true) (.int .i64 (h : Int), .int .i64 (mi : Int), .int .i64 (x : Int), .int .i64 (f : Int)) (kd : Int) o z) w5.heap.size lv l w7 := ⟨H7.toPF, hN7⟩
              obtain ⟨q0, q1, q2, -⟩ := HS.cells
              clear H7 hN7
              go_wp2_with fail
              go_region_held3 (fun w' => w'.cell? ⟨w.heap.size, 0, none⟩ = some (.int .i64 y) ∧ w'.cell? ⟨w.heap.size, 1, none⟩ = some (.int .i64 (mo : Int)) ∧ w'.cell? ⟨w.heap.size, 2, none⟩ = some (.int .i64 (d : Int)) ∧ Kp w (pcells (.int .i64 y, .int .i64 (mo : Int), .int .i64 (d : Int)) (.bool true) (.int .i64 (h : Int), .int .i64 (mi : Int), .int .i64 (x : Int), .int .i64 (f : Int)) (kd : Int) o z) w5.heap.size lv l w') (exact Kp.cells (by first | assumption | exact Kp.drew (by assumption))) (first | (go_at_call 43; refine (monthlen_kp y mo hm1 hm2 (by first | assumption | exact Kp.drew (by assumption))).mono ?_; rintro e w' ⟨rfl, hkp⟩))
              have H8 := hkp.1
              have hN8 := hkp.2
              rename_i hkx
              clear hkx hkp HS q0 q1 q2
              cases hml : decide (mlenF y mo < (d : Int)) with
              | true =>
                have hz := Lib.hid (show parseF s = .error 5 by simp at hml; simp [parseF, hd, HT, hn, hj, hml])
                have HF := H8
                go_wp2_with fail
                refine leaves_cons (f := 15) (args := #[.pointer (some ⟨w.heap.size + 1, 0, none⟩), .func (.func 39) #[] #[.pointer (some ⟨w.heap.size, 0, none⟩)]]) (by simp) (by simp [go_sem]) ?_
                try unfold eform
                refine (caught_panic (f := 39) (blk_cell HF.e 0) (blk_free HF.e 0) (fun _ => by simp [go_sem]) (clear_parts ((Below.heap_setCell _ _ _ _ (by simp)).trans HF.p))).mono ?_
                rintro e u' w'' ⟨rfl, rfl, hw''⟩
                have HP := clr_pb ((Below.heap_setCell _ ⟨w.heap.size + 1, 0, none⟩ (.int .i64 5) _ (by simp)).trans HF.p)
                have HE : (clr (w'.setCell ⟨w.heap.size + 1, 0, none⟩ (.int .i64 5)) w.heap.size).heap[w.heap.size + 1]? = some (.cells #[.int .i64 5] 24 (0, 0)) := clr_err (by simp [World.setCell, Array.getElem?_modify, HF.e]) (show w.heap.size + 1 ≠ w.heap.size by omega)
                have HG := clr_grown (w' := w'.setCell ⟨w.heap.size + 1, 0, none⟩ (.int .i64 5)) (grown_setNew HF.g (by simp) _) (Nat.le_refl w.heap.size)
                rw [← hw''] at HP HE HG
                clear hw''
                have q0 := blk_cell HP 0
                have q1 := blk_cell HP 1
                have q2 := blk_cell HP 2
                have q3 := blk_cell HP 3
                have q4 := blk_cell HP 4
                have q5 := blk_cell HP 5
                have q6 := blk_cell HP 6
                have q7 := blk_cell HP 7
                have q8 := blk_cell HP 8
                have q9 := blk_cell HP 9
                have q10 := blk_cell HP 10
                have qf : ∀ o, w''.frozen? ⟨w.heap.size, o, none⟩ = false := fun o => blk_free HP o
                simp only [zparts, pcells, List.getElem?_toArray, List.getElem?_cons_zero, List.getElem?_cons_succ] at q0 q1 q2 q3 q4 q5 q6 q7 q8 q9 q10
                have r0 := blk_cell HE 0
                simp only [List.getElem?_toArray, List.getElem?_cons_zero] at r0
                rw [hz.out]
                simp [Leaves, settle, results, Tryz.results13, go_sem, q0, q1, q2, q3, q4, q5, q6, q7, q8, q9, q10, r0, parV, zparts, pcells]
                exact HG
              | false =>
                have hml' := Lib.hid (Int.not_lt.1 (of_decide_eq_false hml))
                go_wp2_with fail
                refine (calendar_any l lv _ w' hN8 (by omega) (fun n hn => ⟨Nat.lt_of_le_of_lt (hl1 n hn).1 hs, fun j b hb => value_ascii (hl1 n hn).2.2 b (List.mem_of_getElem? hb)⟩)).mono ?_
                rintro e w9 ⟨rfl, hg9⟩
                have HF := H8.grow hg9
                cases hca : (calF l != 0) with
                | true =>
                  have hz := Lib.hid ((parse_rest hd HT hn hj).trans (by rw [if_neg (Int.not_lt.2 hml'.out), if_neg (by simpa using hca)]) : parseF s = .error (calF l))
                  go_wp2_with fail
                  refine leaves_cons (f := 15) (args := #[.pointer (some ⟨w.heap.size + 1, 0, none⟩), .func (.func 39) #[] #[.pointer (some ⟨w.heap.size, 0, none⟩)]]) (by simp) (by simp [go_sem]) ?_
                  try unfold eform
                  refine (caught_panic (f := 39) (blk_cell HF.e 0) (blk_free HF.e 0) (fun _ => by simp [go_sem]) (clear_parts ((Below.heap_setCell _ _ _ _ (by simp)).trans HF.p))).mono ?_
                  rintro e u' w'' ⟨rfl, rfl, hw''⟩
                  have HP := clr_pb ((Below.heap_setCell _ ⟨w.heap.size + 1, 0, none⟩ (.int .i64 (calF l)) _ (by simp)).trans HF.p)
                  have HE : (clr (w9.setCell ⟨w.heap.size + 1, 0, none⟩ (.int .i64 (calF l))) w.heap.size).heap[w.heap.size + 1]? = some (.cells #[.int .i64 (calF l)] 24 (0, 0)) := clr_err (by simp [World.setCell, Array.getElem?_modify, HF.e]) (show w.heap.size + 1 ≠ w.heap.size by omega)
                  have HG := clr_grown (w' := w9.setCell ⟨w.heap.size + 1, 0, none⟩ (.int .i64 (calF l))) (grown_setNew HF.g (by simp) _) (Nat.le_refl w.heap.size)
                  rw [← hw''] at HP HE HG
                  clear hw''
                  have q0 := blk_cell HP 0
                  have q1 := blk_cell HP 1
                  have q2 := blk_cell HP 2
                  have q3 := blk_cell HP 3
                  have q4 := blk_cell HP 4
                  have q5 := blk_cell HP 5
                  have q6 := blk_cell HP 6
                  have q7 := blk_cell HP 7
                  have q8 := blk_cell HP 8
                  have q9 := blk_cell HP 9
                  have q10 := blk_cell HP 10
                  have qf : ∀ o, w''.frozen? ⟨w.heap.size, o, none⟩ = false := fun o => blk_free HP o
                  simp only [zparts, pcells, List.getElem?_toArray, List.getElem?_cons_zero, List.getElem?_cons_succ] at q0 q1 q2 q3 q4 q5 q6 q7 q8 q9 q10
                  have r0 := blk_cell HE 0
                  simp only [List.getElem?_toArray, List.getElem?_cons_zero] at r0
                  rw [hz.out]
                  simp [Leaves, settle, results, Tryz.results13, go_sem, q0, q1, q2, q3, q4, q5, q6, q7, q8, q9, q10, r0, parV, zparts, pcells]
                  exact HG
                | false =>
                  have q0 := blk_cell HF.p 0
                  have q1 := blk_cell HF.p 1
                  have q2 := blk_cell HF.p 2
                  have q3 := blk_cell HF.p 3
                  have q4 := blk_cell HF.p 4
                  have q5 := blk_cell HF.p 5
                  have q6 := blk_cell HF.p 6
                  have q7 := blk_cell HF.p 7
                  have q8 := blk_cell HF.p 8
                  have q9 := blk_cell HF.p 9
                  have q10 := blk_cell HF.p 10
                  have qf : ∀ o, w9.frozen? ⟨w.heap.size, o, none⟩ = false := fun o => blk_free HF.p o
                  simp only [zparts, pcells, List.getElem?_toArray, List.getElem?_cons_zero, List.getElem?_cons_succ] at q0 q1 q2 q3 q4 q5 q6 q7 q8 q9 q10
                  have r0 := blk_cell HF.e 0
                  have r1 := blk_free HF.e 0
                  simp only [List.getElem?_toArray, List.getElem?_cons_zero] at r0
                  go_wp2_with fail
                  refine leaves_cons (f := 15) (args := #[.pointer (some ⟨w.heap.size + 1, 0, none⟩), .func (.func 39) #[] #[.pointer (some ⟨w.heap.size, 0, none⟩)]]) (by simp) (by simp [go_sem]) ?_
                  refine caught_idle.mono ?_
                  rintro e u' w'' ⟨rfl, rfl, rfl⟩
                  have hz := Lib.hid ((parse_rest hd HT hn hj).trans (by rw [if_neg (Int.not_lt.2 hml'.out), if_pos (by simpa using hca)]) : parseF s = .ok ⟨y, mo, d, true, (h, mi, x, f), kd, o, z⟩)
                  rw [hz.out]
                  simp [Leaves, settle, results, Tryz.results13, go_sem, q0, q1, q2, q3, q4, q5, q6, q7, q8, q9, q10, r0, parV, Pt.cells, pcells]
                  iterate 12 refine grown_setNew ?_ (by simp) _
                  exact HF.g

end Go.Proofs.YtkhpdiilghncgaaGreatDoor
