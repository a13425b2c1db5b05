/- The notes' calendar. -/
import Derived.Test.YtkhpdiilghncgaaGreatDoorGk
namespace Go.Proofs.YtkhpdiilghncgaaGreatDoor
open Go.RowKit
set_option linter.unusedVariables false

/-- A note of the calendar. -/
def isCa (n : Nt) : Bool := n.key.toList == [117, 45, 99, 97]
/-- What is wrong with the notes: an error's number, 0 for none. -/
def calF (l : List Nt) : Int :=
  if l.any (fun n => !isCa n && n.sharp) then 19
  else if decide (1 < (l.filter isCa).length) && (l.filter isCa).any (·.sharp) then 19
  else match l.filter isCa with
    | [] => 0
    | n :: _ => if Lib.equalFold n.val.data.toList (ByteArray.mk #[105, 115, 111, 56, 54, 48, 49]).data.toList then 0 else 8

theorem NS.grown {w w' : World} {base : Nat} {v : Value} {l : List Nt} (h : NS w base v l) (g : w.grownBy w' none) : NS w' base v l :=
  h.kept g (by cases v.ownBlock <;> simp)

theorem flat_at (l : List Nt) (k : Nat) (h : k < l.length) : (l.flatMap ntCells)[k * 3]? = some (.string l[k].key) ∧ (l.flatMap ntCells)[k * 3 + 1]? = some (.string l[k].val) ∧ (l.flatMap ntCells)[k * 3 + 2]? = some (.bool l[k].sharp) := by
  induction l generalizing k with
  | nil => simp at h
  | cons a l ih =>
    cases k with
    | zero => simp [ntCells]
    | succ k =>
      have := ih k (by simpa using h)
      rw [List.flatMap_cons]
      simp only [ntCells, List.getElem_cons_succ]
      rw [show (k + 1) * 3 = k * 3 + 3 from by omega]
      simpa [List.getElem?_append, ntCells] using this
theorem NS.at {w : World} {base g cap n : Nat} {l : List Nt} (h : NS w base (.slice (some ⟨g, 0, none⟩) n cap) l) (k : Nat) (hk : k < l.length) :
    w.cell? ⟨g, k * 3, none⟩ = some (.string l[k].key) ∧ w.cell? ⟨g, k * 3 + 1, none⟩ = some (.string l[k].val) ∧ w.cell? ⟨g, k * 3 + 2, none⟩ = some (.bool l[k].sharp) := by
  have hn : n = l.length := by
    rcases h.2 with ⟨h2, _⟩ | ⟨_, _, _, h1, _⟩
    · cases h2
    · injection h1
  subst hn
  obtain ⟨a, b, c⟩ := flat_at l k hk
  exact ⟨(h.cellAt _ (by omega)).trans a, (h.cellAt _ (by omega)).trans b, (h.cellAt _ (by omega)).trans c⟩

theorem alloc2 (w : World) (o o' : Obj) : ((w.alloc o).alloc o').heap[w.heap.size]? = some o := by
  have e1 : (w.alloc o).heap[w.heap.size]? = some o := by rw [← World.alloc_eq]; simp
  exact (Below.heap_alloc (w.alloc o) o' w.heap.size (by rw [heap_alloc_size]; omega)).trans e1
/-- What is kept round after round. -/
structure CL (l : List Nt) (v : Value) (base : Nat) (w : World) (k : Nat) (mv : Value) (sh : Bool) (wr : World) : Prop where
  row : NS wr base v l
  mine : NS wr w.heap.size mv ((l.take k).filter isCa)
  g : w.grownBy wr none
  le : k ≤ l.length
  sharp : sh = ((l.take k).filter isCa).any (·.sharp)
  fine : (l.take k).any (fun n => !isCa n && n.sharp) = false

theorem CL.yes {l : List Nt} {g cap m base : Nat} {w wr wr2 w5 : World} {k : Nat} {mv v' : Value} {sh : Bool} {n : Nt} (L : CL l (.slice (some ⟨g, 0, none⟩) m cap) base w k mv sh wr) (hgl : g < w.heap.size)
    (hlt : k < l.length) (T1 : l.take (k + 1) = l.take k ++ [n]) (hc : isCa n = true) (hg2 : wr.grownBy wr2 none) (hown : w5.ownsRow w.heap.size 139 3 v' (((l.take k).filter isCa).length + 1) (((l.take k).filter isCa).flatMap ntCells ++ ntCells n))
    (hg5 : wr2.grownBy w5 mv.ownBlock) : CL l (.slice (some ⟨g, 0, none⟩) m cap) base w (k + 1) v' (sh || n.sharp) w5 := by
  have hf : (l.take (k + 1)).filter isCa = (l.take k).filter isCa ++ [n] := by rw [T1, List.filter_append]; simp [hc]
  have hm2 : NS wr2 w.heap.size mv ((l.take k).filter isCa) := L.mine.grown hg2
  refine ⟨(L.row.grown hg2).kept hg5 (.inr ?_), ?_, ?_, by omega, ?_, ?_⟩
  · intro he
    have := World.ownsRow.lt L.mine g he.symm
    omega
  · unfold NS; rw [hf, List.flatMap_append, List.length_append]; simpa using hown
  · exact ⟨hg5.os.trans (grown_trans L.g hg2).os, hg5.tape.trans (grown_trans L.g hg2).tape, hg5.output.trans (grown_trans L.g hg2).output, Nat.le_trans (grown_trans L.g hg2).size hg5.size, fun i hi h => (hg5.block i (Nat.lt_of_lt_of_le hi (grown_trans L.g hg2).size) (fun he => by have := (World.ownsRow.lt L.mine i he.symm).1; omega)).trans ((grown_trans L.g hg2).block i hi h)⟩
  · rw [hf, List.any_append, L.sharp]; simp
  · rw [T1, List.any_append, L.fine]; simp [hc]
theorem CL.no {l : List Nt} {g cap m base : Nat} {w wr wr2 : World} {k : Nat} {mv : Value} {sh : Bool} {n : Nt} (L : CL l (.slice (some ⟨g, 0, none⟩) m cap) base w k mv sh wr)
    (hlt : k < l.length) (T1 : l.take (k + 1) = l.take k ++ [n]) (hc : isCa n = false) (hs : n.sharp = false) (hg2 : wr.grownBy wr2 none) : CL l (.slice (some ⟨g, 0, none⟩) m cap) base w (k + 1) mv sh wr2 := by
  have hf : (l.take (k + 1)).filter isCa = (l.take k).filter isCa := by rw [T1, List.filter_append]; simp [hc]
  refine ⟨L.row.grown hg2, by rw [hf]; exact L.mine.grown hg2, grown_trans L.g hg2, by omega, by rw [hf]; exact L.sharp, ?_⟩
  rw [T1, List.any_append, L.fine]; simp [hs]

set_option maxHeartbeats 2000000 in
theorem calendar_some (l : List Nt) (g cap : Nat) (base : Nat) (w : World) (h : NS w base (.slice (some ⟨g, 0, none⟩) l.length cap) l) (hl : l.length ≤ 4294967281)
    (hv : ∀ n ∈ l, n.val.size < 4294967281 ∧ ∀ (j : Nat) b, n.val.data.toList[j]? = some b → b.toNat < 128) :
    Calls Tryz.prog 44 #[.slice (some ⟨g, 0, none⟩) l.length cap] w fun e w' => e = .returned (.int .i64 (calF l)) ∧ w.grownBy w' none := by
  have hgl : g < w.heap.size := (World.ownsRow.lt h g rfl).2
  have L0 : CL l (.slice (some ⟨g, 0, none⟩) l.length cap) base w 0 (.slice none 0 0) false w := ⟨h, World.ownsRow_nil _ _ _ _, grown_refl _ _, by omega, by simp, by simp⟩
  clear h
  have HV := Lib.hid hv
  clear hv
  go_enter Tryz.func44, Tryz.ntmps44
  go_wp2_with fail
  go_loopg [3, 4, 9] l.length (fun n v3 v4 v9 wr => ∃ (k : Nat) (sh : Bool), n = l.length - k ∧ v4 = .bool sh ∧ v9 = .int .i64 k ∧ CL l (.slice (some ⟨g, 0, none⟩) l.length cap) base w k v3 sh wr)
  case atStart => exact ⟨0, false, by simp, rfl, rfl, L0⟩
  case round =>
    obtain ⟨k, sh, rfl, rfl, rfl, L⟩ := hrel
    have HL := Lib.hid L
    clear L L0
    by_cases hlt : k < l.length
    · have dlt : decide ((k : Int) < l.length) = true := by simp; omega
      obtain ⟨z0, z1, z2⟩ := HL.out.row.at k hlt
      have T1 : Hid (l.take (k + 1) = l.take k ++ [l[k]]) := Lib.hid (List.take_succ_eq_append_getElem hlt)
      have HX : Hid ((l.drop k).head? = some l[k]) := Lib.hid (by rw [List.head?_drop, List.getElem?_eq_getElem hlt])
      generalize l[k] = n at z0 z1 z2 T1 HX
      have hmem : Hid (n ∈ l) := Lib.hid (List.mem_of_mem_drop (List.mem_of_head? HX.out))
      cases hca : (n.key.toList == [117, 45, 99, 97]) with
      | true =>
        have HC : Hid (isCa n = true) := Lib.hid hca
        obtain ⟨i0, hi0, hz0, hz1, hz2⟩ := info_parts infoN
        have R4 : NS (wr.alloc (Obj.cells #[.string n.key, .string n.val, .bool n.sharp] 139)) w.heap.size u3 ((l.take k).filter isCa) := World.ownsRow.alloc HL.out.mine _
        have hlen : ((l.take k).filter isCa).length ≤ l.length := Nat.le_trans (List.length_filter_le _ _) (List.length_take_le' _ _)
        have HB : Hid (w.heap.size ≤ wr.heap.size) := Lib.hid HL.out.g.size
        go_wp2_with (at_builtin; refine wpList_append_own _ rfl _ _ 81 rfl w.heap.size 139 i0 (.agg #[.string ⟨#[]⟩, .string ⟨#[]⟩, .bool false]) 3 40 Tryz.underlying81 hi0 hz0 hz1 hz2 rfl (by decide) _ _ _ rfl (R4.alloc _) ⟨wr.heap.size + 1, 0, none⟩ 1 1 (ntCells n) rfl rfl ?c1 ?c2 ?c3 ?c4 ?c5 ?_)
        case c1 => have := cells_new (wr.alloc (Obj.cells #[.string n.key, .string n.val, .bool n.sharp] 139)) (ntCells n) 139; rwa [heap_alloc_size] at this
        case c2 => intro u hu; simp [ntCells] at hu; rcases hu with rfl | rfl | rfl <;> rfl
        case c3 => unfold maxLen; omega
        case c4 => omega
        case c5 => have := HB.out; show _ ≤ ((wr.alloc _).alloc _).heap.size; rw [heap_alloc_size, heap_alloc_size]; omega
        rintro v' w5 hown hg5 hv5
        have p2 : w5.cell? ⟨wr.heap.size, 2, none⟩ = some (.bool n.sharp) := by
          have h1 : ((wr.alloc (Obj.cells #[.string n.key, .string n.val, .bool n.sharp] 139)).alloc (Obj.cells #[.string n.key, .string n.val, .bool n.sharp] 139)).cell? ⟨wr.heap.size, 2, none⟩ = some (.bool n.sharp) := blk_cell (alloc2 _ _ _) 2
          refine hg5.cell h1 (fun he => ?_)
          exact Nat.lt_irrefl _ (World.ownsRow.lt HL.out.mine _ he.symm).2
        have HN := Lib.hid (HL.out.yes hgl hlt T1.out HC.out (grown_alloc (grown_alloc (grown_refl _ none) _) _) hown hg5)
        cases sh with
        | true =>
          go_wp2_with fail
          go_roundg (l.length - (k + 1))
          case rel => exact ⟨k + 1, _, rfl, rfl, rfl, HN.out⟩
          case measure => omega
        | false =>
          go_wp2_with fail
          go_roundg (l.length - (k + 1))
          case rel => exact ⟨k + 1, _, rfl, rfl, rfl, HN.out⟩
          case measure => omega
      | false =>
        have HC : Hid (isCa n = false) := Lib.hid hca
        cases hsn : n.sharp with
        | true =>
          have HR : Hid (calF l = 19) := Lib.hid (by unfold calF; rw [if_pos]; rw [List.any_eq_true]; exact ⟨n, hmem.out, by rw [HC.out, hsn]; rfl⟩)
          have HG := Lib.hid HL.out.g
          go_wp2_with fail
          go_ret
          rw [HR.out]
          exact ⟨rfl, grown_alloc HG.out _⟩
        | false =>
          have HN := Lib.hid (HL.out.no (wr2 := wr.alloc (Obj.cells #[.string n.key, .string n.val, .bool n.sharp] 139)) hlt T1.out HC.out hsn (grown_alloc (grown_refl _ none) _))
          rw [hsn] at HN
          go_wp2_with fail
          go_roundg (l.length - (k + 1))
          case rel => exact ⟨k + 1, _, rfl, rfl, rfl, HN.out⟩
          case measure => omega
    · have dlt : decide ((k : Int) < l.length) = false := by simp; omega
      have hkl : k = l.length := by have := HL.out.le; omega
      have hT : l.take k = l := by rw [hkl]; simp
      have HA : Hid (l.any (fun n => !isCa n && n.sharp) = false) := Lib.hid (by have := HL.out.fine; rwa [hT] at this)
      have HS : Hid (sh = (l.filter isCa).any (·.sharp)) := Lib.hid (by have := HL.out.sharp; rwa [hT] at this)
      have HM : Hid (NS wr w.heap.size u3 (l.filter isCa)) := Lib.hid (by have := HL.out.mine; rwa [hT] at this)
      have HG := Lib.hid HL.out.g
      clear hT
      obtain ⟨M, HF⟩ : ∃ M, Hid (l.filter isCa = M) := ⟨_, Lib.hid rfl⟩
      rw [HF.out] at HM HS
      have hVM : ∀ n ∈ M, n.val.size < 4294967281 ∧ ∀ (j : Nat) b, n.val.data.toList[j]? = some b → b.toNat < 128 := fun n hn => HV.out n (by rw [← HF.out] at hn; exact (List.mem_filter.1 hn).1)
      rcases M with _ | ⟨n, M⟩
      · have HR : Hid (calF l = 0) := Lib.hid (by unfold calF; rw [if_neg (by rw [HA.out]; simp), HF.out]; rfl)
        rcases HM.out.2 with ⟨rfl, _⟩ | ⟨g2, cap2, cur2, rfl, _⟩
        · go_wp2_with fail
          go_ret
          rw [HR.out]
          exact ⟨rfl, HG.out⟩
        · go_wp2_with fail
          go_ret
          rw [HR.out]
          exact ⟨rfl, HG.out⟩
      · have hvn := hVM n (by simp)
        have HB : Hid (∀ w, _) := Lib.hid (fun w => Tryz.strings_EqualFold n.val ⟨#[105, 115, 111, 56, 54, 48, 49]⟩ w hvn.1 hvn.2 (by intro j b hj; have := List.mem_of_getElem? hj; simp at this; rcases this with rfl | rfl | rfl | rfl | rfl | rfl | rfl <;> decide))
        rcases HM.out.2 with ⟨_, h2⟩ | ⟨g2, cap2, cur2, rfl, hh⟩
        · simp at h2
        have hat := (HM.out.at 0 (by simp))
        simp only [Nat.zero_mul, Nat.zero_add, List.getElem_cons_zero] at hat
        obtain ⟨z0, z1, z2⟩ := hat
        rcases M with _ | ⟨n2, M⟩
        · cases hfo : Lib.equalFold n.val.data.toList (ByteArray.mk #[105, 115, 111, 56, 54, 48, 49]).data.toList with
          | true =>
            have HR : Hid (calF l = 0) := Lib.hid (by unfold calF; rw [if_neg (by rw [HA.out]; simp), HF.out]; simp [hfo])
            rw [hfo] at HB
            go_wp2_with fail
            refine (HB.out _).mono ?_
            rintro e w6 ⟨rfl, hw⟩
            rw [hw]
            clear hw
            go_wp2_with fail
            go_ret
            rw [HR.out]
            exact ⟨rfl, HG.out⟩
          | false =>
            have HR : Hid (calF l = 8) := Lib.hid (by unfold calF; rw [if_neg (by rw [HA.out]; simp), HF.out]; simp [hfo])
            rw [hfo] at HB
            go_wp2_with fail
            refine (HB.out _).mono ?_
            rintro e w6 ⟨rfl, hw⟩
            rw [hw]
            clear hw
            go_wp2_with fail
            go_ret
            rw [HR.out]
            exact ⟨rfl, HG.out⟩
        · cases sh with
          | true =>
            have HR : Hid (calF l = 19) := Lib.hid (by unfold calF; rw [if_neg (by rw [HA.out]; simp), HF.out, ← HS.out]; simp)
            have dl : decide ((1 : Int) < ((M.length : Int) + 1 + 1)) = true := by simp; omega
            go_wp2_with fail
            go_ret
            rw [HR.out]
            exact ⟨rfl, HG.out⟩
          | false =>
            cases hfo : Lib.equalFold n.val.data.toList (ByteArray.mk #[105, 115, 111, 56, 54, 48, 49]).data.toList with
            | true =>
              have HR : Hid (calF l = 0) := Lib.hid (by unfold calF; rw [if_neg (by rw [HA.out]; simp), HF.out, ← HS.out]; simp [hfo])
              have dl : decide ((0 : Int) < ((M.length : Int) + 1 + 1)) = true := by simp; omega
              rw [hfo] at HB
              go_wp2_with fail
              refine (HB.out _).mono ?_
              rintro e w6 ⟨rfl, hw⟩
              rw [hw]
              clear hw
              go_wp2_with fail
              go_ret
              rw [HR.out]
              exact ⟨rfl, HG.out⟩
            | false =>
              have HR : Hid (calF l = 8) := Lib.hid (by unfold calF; rw [if_neg (by rw [HA.out]; simp), HF.out, ← HS.out]; simp [hfo])
              have dl : decide ((0 : Int) < ((M.length : Int) + 1 + 1)) = true := by simp; omega
              rw [hfo] at HB
              go_wp2_with fail
              refine (HB.out _).mono ?_
              rintro e w6 ⟨rfl, hw⟩
              rw [hw]
              clear hw
              go_wp2_with fail
              go_ret
              rw [HR.out]
              exact ⟨rfl, HG.out⟩

theorem calendar_nil (w : World) : Calls Tryz.prog 44 #[.slice none 0 0] w fun e w' => e = .returned (.int .i64 (calF [])) ∧ w.grownBy w' none := by
  go_enter Tryz.func44, Tryz.ntmps44
  go_wp2_with fail
  go_loopg [3, 4, 9] 0 (fun n v3 v4 v9 wr => v3 = .slice none 0 0 ∧ v4 = .bool false ∧ v9 = .int .i64 0 ∧ wr = w)
  case atStart => exact ⟨rfl, rfl, rfl, rfl⟩
  case round =>
    obtain ⟨rfl, rfl, rfl, rfl⟩ := hrel
    go_wp2_with fail
    go_ret
    exact ⟨rfl, grown_refl _ _⟩

/-- grammar.calendar, at every row of notes. -/
theorem calendar_any (l : List Nt) (v : Value) (base : Nat) (w : World) (h : NS w base v l) (hl : l.length ≤ 4294967281)
    (hv : ∀ n ∈ l, n.val.size < 4294967281 ∧ ∀ (j : Nat) b, n.val.data.toList[j]? = some b → b.toNat < 128) :
    Calls Tryz.prog 44 #[v] w fun e w' => e = .returned (.int .i64 (calF l)) ∧ w.grownBy w' none := by
  rcases h.2 with ⟨rfl, h2⟩ | ⟨g, cap, cur, rfl, hh⟩
  · have : l = [] := List.length_eq_zero_iff.1 h2
    subst this
    exact calendar_nil w
  · exact calendar_some l g cap base w h hl hv

end Go.Proofs.YtkhpdiilghncgaaGreatDoor
