/- analemma/wide: sums. -/
import Derived.Test.YtkhpdiilghncgaaGreatDoorWb
import Derived.Deep.LoopGhost
namespace Go.Proofs.YtkhpdiilghncgaaGreatDoor
open Go.RowKit Go.Shelf
set_option linter.unusedVariables false

def wcells (n : Int) : List Value := [.int .i64 (hiW n), .int .u64 (loW n)]
/-- A slice of wide numbers. -/
def WS (w : World) (base : Nat) (v : Value) (l : List Int) : Prop := w.ownsRow base 112 2 v l.length (l.flatMap wcells)
theorem wflat_at (l : List Int) (k : Nat) (h : k < l.length) : (l.flatMap wcells)[k * 2]? = some (.int .i64 (hiW l[k])) ∧ (l.flatMap wcells)[k * 2 + 1]? = some (.int .u64 (loW l[k])) := by
  induction l generalizing k with
  | nil => simp at h
  | cons a l ih =>
    cases k with
    | zero => simp [wcells]
    | succ k =>
      have := ih k (by simpa using h)
      rw [List.flatMap_cons]
      simp only [wcells, List.getElem_cons_succ]
      rw [show (k + 1) * 2 = k * 2 + 2 from by omega]
      simpa [List.getElem?_append, wcells] using this
theorem WS.at {w : World} {base g cap n : Nat} {l : List Int} (h : WS w base (.slice (some ⟨g, 0, none⟩) n cap) l) (k : Nat) (hk : k < l.length) :
    w.cell? ⟨g, k * 2, none⟩ = some (.int .i64 (hiW l[k])) ∧ w.cell? ⟨g, k * 2 + 1, none⟩ = some (.int .u64 (loW l[k])) := by
  have hn : n = l.length := by
    rcases h.2 with ⟨h2, _⟩ | ⟨_, _, _, h1, _⟩
    · cases h2
    · injection h1
  subst hn
  obtain ⟨a, b⟩ := wflat_at l k hk
  exact ⟨(h.cellAt _ (by omega)).trans a, (h.cellAt _ (by omega)).trans b⟩
theorem WS.grown {w w' : World} {base : Nat} {v : Value} {l : List Int} (h : WS w base v l) (g : w.grownBy w' none) : WS w' base v l :=
  World.ownsRow.kept h g (by cases v.ownBlock <;> simp)

theorem WS.zero {w : World} {base : Nat} {v : Value} {l : List Int} (h : WS w base v l) : WS w 0 v l := by
  refine ⟨h.1, ?_⟩
  rcases h.2 with h2 | ⟨g, cap, cur, h1, h2, h3⟩
  · exact .inl h2
  · exact .inr ⟨g, cap, cur, h1, Nat.zero_le _, h3⟩
theorem WS.set {w : World} {base g cap n b o : Nat} {u : Value} {l : List Int} (h : WS w base (.slice (some ⟨g, 0, none⟩) n cap) l) (hb : g ≠ b) : WS (w.setCell ⟨b, o, none⟩ u) base (.slice (some ⟨g, 0, none⟩) n cap) l := by
  refine ⟨h.1, ?_⟩
  rcases h.2 with ⟨h2, _⟩ | ⟨k, c, cur, h1, h2, h3, h4⟩
  · cases h2
  · have : k = g := by injection h1 with h1; injection h1 with h1; injection h1 with h1; exact h1.symm
    subst this
    exact .inr ⟨k, c, cur, h1, h2, (Below.heap_setCell _ _ _ _ (by simpa using hb)).trans h3, h4⟩
theorem loW_add (a b : Int) : (loW a + loW b) % 18446744073709551616 = loW (a + b) := by unfold loW; omega
theorem hiW_add {a b : Int} (h : I128 (a + b)) : IntKind.i64.wrap ((loW (hiW a) + loW (hiW b) + (loW a + loW b) / 18446744073709551616) % 18446744073709551616) = hiW (a + b) := by
  rw [IntKind.wrap_i64]
  unfold I128 at h
  unfold hiW loW
  omega
/-- What is kept round after round. -/
structure SL (l : List Int) (g cap : Nat) (w : World) (k : Nat) (wr : World) : Prop where
  gr : w.grownBy wr none
  row : WS wr 0 (.slice (some ⟨g, 0, none⟩) l.length cap) l
  s : wr.heap[w.heap.size + 1]? = some (.cells #[.int .i64 (hiW (l.take k).sum), .int .u64 (loW (l.take k).sum)] 112 (0, 0))
  r : wr.heap[w.heap.size]? = some (.cells #[.int .i64 0, .int .u64 0] 112 (0, 0))
  le : k ≤ l.length

theorem SL.step {l : List Int} {g cap k : Nat} {w wr : World} {n s : Int} (L : SL l g cap w k wr) (hlt : k < l.length) (hs : (l.take (k + 1)).sum = s + n) (hg : g < w.heap.size) (o1 o2 : Obj) :
    SL l g cap w (k + 1) ((((wr.alloc o1).alloc o2).setCell ⟨w.heap.size + 1, 0, none⟩ (.int .i64 (hiW (s + n)))).setCell ⟨w.heap.size + 1, 1, none⟩ (.int .u64 (loW (s + n)))) := by
  have G2 : wr.grownBy ((wr.alloc o1).alloc o2) none := grown_alloc (grown_alloc (grown_refl _ _) _) _
  refine ⟨grown_setNew (grown_setNew (grown_trans L.gr G2) (by simp) _) (by simp) _, ((L.row.grown G2).set (by omega)).set (by omega), ?_, ?_, hlt⟩
  · rw [hs]
    have := blk_grown G2 L.s (by simp)
    simp [World.setCell, Array.getElem?_modify, this]
  · exact (Below.heap_setCell _ _ _ _ (by simp)).trans ((Below.heap_setCell _ _ _ _ (by simp)).trans (blk_grown G2 L.r (by simp)))
set_option maxHeartbeats 1000000 in
theorem sum_any (l : List Int) (g cap base : Nat) (w : World) (h : WS w base (.slice (some ⟨g, 0, none⟩) l.length cap) l) (hsum : ∀ k, I128 (l.take k).sum) (hall : ∀ n ∈ l, I128 n) (hlen : l.length ≤ 1000000) :
    Calls Tryz.prog 102 #[.slice (some ⟨g, 0, none⟩) l.length cap] w fun e w' => e = .returned (.tuple #[W l.sum, .int .i64 0]) ∧ w.grownBy w' none := by
  have L0 : SL l g cap w 0 ((w.alloc (.cells #[.int .i64 0, .int .u64 0] 112)).alloc (.cells #[.int .i64 0, .int .u64 0] 112)) :=
    ⟨grown_alloc (grown_alloc (grown_refl _ _) _) _, WS.grown (WS.zero h) (grown_alloc (grown_alloc (grown_refl _ _) _) _), alloc_at1 _ _ _, alloc2 _ _ _, Nat.zero_le _⟩
  have hgl : g < w.heap.size := (World.ownsRow.lt h g rfl).2
  have HS := Lib.hid hsum
  have HA := Lib.hid hall
  clear hsum hall h
  go_enter Tryz.func102, Tryz.ntmps102
  go_wp2_with fail
  go_loopg [5, 15] l.length (fun n v5 v15 wr => ∃ k : Nat, n = l.length - k ∧ v5 = .int .i64 0 ∧ v15 = .int .i64 k ∧ SL l g cap w k wr)
  case atStart => exact ⟨0, by simp, rfl, rfl, L0⟩
  case round =>
    obtain ⟨k, rfl, rfl, rfl, L⟩ := hrel
    have HL := Lib.hid L
    clear L L0
    by_cases hlt : k < l.length
    · have dlt : decide ((k : Int) < l.length) = true := by simp; omega
      obtain ⟨z0, z1⟩ := HL.out.row.at k hlt
      have K4 := HL.out.s
      have q0 := blk_cell K4 0
      have q1 := blk_cell K4 1
      have q2 := blk_free K4 0
      have q3 := blk_free K4 1
      simp only [List.getElem?_toArray, List.getElem?_cons_zero, List.getElem?_cons_succ] at q0 q1
      have T1 : Hid ((l.take (k + 1)).sum = (l.take k).sum + l[k]) := Lib.hid (by rw [List.take_succ_eq_append_getElem hlt, List.sum_append]; simp)
      have T2 : Hid (I128 ((l.take k).sum + l[k])) := Lib.hid (by rw [← T1.out]; exact HS.out _)
      have T3 : Hid (I128 (l.take k).sum) := Lib.hid (HS.out _)
      have T4 : Hid (I128 l[k]) := Lib.hid (HA.out _ (List.getElem_mem _))
      generalize l[k] = n at z0 z1 T1 T2 T4
      generalize (l.take k).sum = s at K4 q0 q1 T1 T2 T3
      obtain ⟨l1, l2⟩ := loW_lt s
      obtain ⟨l3, l4⟩ := loW_lt n
      obtain ⟨m1, m2⟩ := loW_lt (hiW s)
      obtain ⟨m3, m4⟩ := loW_lt (hiW n)
      have c1 : 0 ≤ (loW s + loW n) / 18446744073709551616 := by omega
      have c2 : (loW s + loW n) / 18446744073709551616 ≤ 1 := by omega
      have e1 := loW_wrap (hiW s)
      have e2 := loW_wrap (hiW n)
      have e3 := loW_add s n
      have e4 := hiW_add T2.out
      have KA := (Below.heap_alloc wr (.cells #[.int .i64 (hiW n), .int .u64 (loW n)] 112) _ (Array.getElem?_eq_some_iff.1 K4).1).trans K4
      have KB := (Below.heap_alloc _ (.cells #[.int .i64 (hiW (s + n)), .int .u64 (loW (s + n))] 112) _ (Array.getElem?_eq_some_iff.1 KA).1).trans KA
      have r0 := blk_cell KA 0
      have r1 := blk_cell KA 1
      have r2 := blk_free KA 0
      have r3 := blk_free KA 1
      simp only [List.getElem?_toArray, List.getElem?_cons_zero, List.getElem?_cons_succ] at r0 r1
      have t0 := blk_cell KB 0
      have t1 := blk_cell KB 1
      have t2 := blk_free KB 0
      have t3 := blk_free KB 1
      simp only [List.getElem?_toArray, List.getElem?_cons_zero, List.getElem?_cons_succ] at t0 t1
      clear K4 KA KB
      cases s1 : decide (hiW s < 0) with
      | true =>
        cases s2 : decide (hiW n < 0) with
        | true =>
          have s3 : decide (hiW (s + n) < 0) = true := by simp [hiW_neg] at s1 s2 ⊢; omega
          go_wp2_with (first | simp only [add64_0 _ _ l1 l3] | simp only [add64 _ _ _ m1 m3 c1 c2])
          go_roundg (l.length - (k + 1))
          case rel => exact ⟨k + 1, rfl, rfl, rfl, HL.out.step hlt T1.out hgl _ _⟩
          case measure => omega
        | false =>
          go_wp2_with (first | simp only [add64_0 _ _ l1 l3] | simp only [add64 _ _ _ m1 m3 c1 c2])
          go_roundg (l.length - (k + 1))
          case rel => exact ⟨k + 1, rfl, rfl, rfl, HL.out.step hlt T1.out hgl _ _⟩
          case measure => omega
      | false =>
        cases s2 : decide (hiW n < 0) with
        | true =>
          go_wp2_with (first | simp only [add64_0 _ _ l1 l3] | simp only [add64 _ _ _ m1 m3 c1 c2])
          go_roundg (l.length - (k + 1))
          case rel => exact ⟨k + 1, rfl, rfl, rfl, HL.out.step hlt T1.out hgl _ _⟩
          case measure => omega
        | false =>
          have s3 : decide (hiW (s + n) < 0) = false := by simp [hiW_neg] at s1 s2 ⊢; omega
          go_wp2_with (first | simp only [add64_0 _ _ l1 l3] | simp only [add64 _ _ _ m1 m3 c1 c2])
          go_roundg (l.length - (k + 1))
          case rel => exact ⟨k + 1, rfl, rfl, rfl, HL.out.step hlt T1.out hgl _ _⟩
          case measure => omega
    · have dlt : decide ((k : Int) < l.length) = false := by simp; omega
      have hT : (l.take k).sum = l.sum := by rw [List.take_of_length_le (by omega)]
      have K4 := HL.out.s
      rw [hT] at K4
      have q0 := blk_cell K4 0
      have q1 := blk_cell K4 1
      have q2 := blk_free K4 0
      have q3 := blk_free K4 1
      simp only [List.getElem?_toArray, List.getElem?_cons_zero, List.getElem?_cons_succ] at q0 q1
      have K5 := HL.out.r
      have p0 := blk_cell K5 0
      have p1 := blk_cell K5 1
      have p2 := blk_free K5 0
      have p3 := blk_free K5 1
      simp only [List.getElem?_toArray, List.getElem?_cons_zero, List.getElem?_cons_succ] at p0 p1
      clear hT K4 K5
      go_wp2_with fail
      refine bodyPost_ret (v := .tuple #[W l.sum, .int .i64 0]) (by simp [results, Tryz.results102, go_sem, p0, p1]) rfl ⟨rfl, ?_⟩
      exact grown_setNew (grown_setNew HL.out.gr (by simp) _) (by simp) _

end Go.Proofs.YtkhpdiilghncgaaGreatDoor
