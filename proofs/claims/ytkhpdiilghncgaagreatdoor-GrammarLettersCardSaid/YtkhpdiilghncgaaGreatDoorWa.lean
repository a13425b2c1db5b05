/- analemma/wide. -/
import Derived.Test.YtkhpdiilghncgaaGreatDoorGn
import Derived.Shelf.Spec.BitsCarry
namespace Go.Proofs.YtkhpdiilghncgaaGreatDoor
open Go.RowKit Go.Shelf
set_option linter.unusedVariables false

theorem add64 (x y c : Int) (hx : 0 ≤ x) (hy : 0 ≤ y) (hc0 : 0 ≤ c) (hc : c ≤ 1) (w : World) : (callFunc 130 #[.int .u64 x, .int .u64 y, .int .u64 c]).run Tryz.prog w =
    .ok (.value (.tuple #[.int .u64 ((x + y + c) % 18446744073709551616), .int .u64 ((x + y + c) / 18446744073709551616)])) w := by
  obtain ⟨x, rfl⟩ := Int.eq_ofNat_of_zero_le hx
  obtain ⟨y, rfl⟩ := Int.eq_ofNat_of_zero_le hy
  obtain ⟨c, rfl⟩ := Int.eq_ofNat_of_zero_le hc0
  rw [run_callFunc_extern Tryz.func130 (by kernel_rfl) (by kernel_rfl) (by kernel_rfl) (e := add64Entry) (by kernel_rfl), run_add64 x y c (by omega) (by omega) (by omega) (by omega)]
  simp only [Result.andThen]
/-- The borrow, under a name. -/
def bor (x y : Int) : Int := if x < y then 1 else 0
theorem sub64 (x y b : Int) (hx : 0 ≤ x) (hy : 0 ≤ y) (hy' : y < 18446744073709551616) (hb0 : 0 ≤ b) (hb : b ≤ 1) (w : World) : (callFunc 131 #[.int .u64 x, .int .u64 y, .int .u64 b]).run Tryz.prog w =
    .ok (.value (.tuple #[.int .u64 ((x - y - b) % 18446744073709551616), .int .u64 (bor x (y + b))])) w := by
  obtain ⟨x, rfl⟩ := Int.eq_ofNat_of_zero_le hx
  obtain ⟨y, rfl⟩ := Int.eq_ofNat_of_zero_le hy
  obtain ⟨b, rfl⟩ := Int.eq_ofNat_of_zero_le hb0
  have e1 : (((x + 18446744073709551616 - y - b) % 18446744073709551616 : Nat) : Int) = ((x : Int) - y - b) % 18446744073709551616 := by omega
  have e2 : ((if x < y + b then 1 else 0 : Nat) : Int) = bor (x : Int) (y + b) := by unfold bor; split <;> split <;> omega
  rw [← e1, ← e2]
  rw [run_callFunc_extern Tryz.func131 (by kernel_rfl) (by kernel_rfl) (by kernel_rfl) (e := sub64Entry) (by kernel_rfl), run_sub64 x y b (by omega)]
  rfl
theorem sub64_0 (x y : Int) (hx : 0 ≤ x) (hy : 0 ≤ y) (hy' : y < 18446744073709551616) (w : World) : (callFunc 131 #[.int .u64 x, .int .u64 y, .int .u64 0]).run Tryz.prog w =
    .ok (.value (.tuple #[.int .u64 ((x - y) % 18446744073709551616), .int .u64 (bor x y)])) w := by
  simpa using sub64 x y 0 hx hy hy' (Int.le_refl 0) (by decide) w
theorem add64_0 (x y : Int) (hx : 0 ≤ x) (hy : 0 ≤ y) (w : World) : (callFunc 130 #[.int .u64 x, .int .u64 y, .int .u64 0]).run Tryz.prog w =
    .ok (.value (.tuple #[.int .u64 ((x + y) % 18446744073709551616), .int .u64 ((x + y) / 18446744073709551616)])) w := by
  simpa using add64 x y 0 hx hy (Int.le_refl 0) (by decide) w

/-- A wide number's halves. -/
def hiW (n : Int) : Int := n / 18446744073709551616
def loW (n : Int) : Int := n % 18446744073709551616
abbrev W (n : Int) : Value := .agg #[.int .i64 (hiW n), .int .u64 (loW n)]
def I64 (n : Int) : Prop := -9223372036854775808 ≤ n ∧ n ≤ 9223372036854775807
def I128 (n : Int) : Prop := -170141183460469231731687303715884105728 ≤ n ∧ n ≤ 170141183460469231731687303715884105727

theorem hiW_i64 {n : Int} (h : I64 n) : n / 9223372036854775808 = hiW n := by unfold hiW; unfold I64 at h; omega
theorem loW_wrap (n : Int) : IntKind.u64.wrap n = loW n := by rw [IntKind.wrap_u64]; rfl
def cmpI (a b : Int) : Int := if a = b then 0 else if a < b then -1 else 1
theorem cmpI_eq {a b : Int} (h1 : hiW a = hiW b) (h2 : loW a = loW b) : cmpI a b = 0 := by unfold hiW loW at *; unfold cmpI; rw [if_pos (by omega)]
theorem cmpI_lt {a b : Int} (h : hiW a < hiW b ∨ hiW a = hiW b ∧ loW a < loW b) : cmpI a b = -1 := by unfold hiW loW at *; unfold cmpI; rw [if_neg (by omega), if_pos (by omega)]
theorem cmpI_gt {a b : Int} (h : hiW b < hiW a ∨ hiW a = hiW b ∧ loW b < loW a) : cmpI a b = 1 := by unfold hiW loW at *; unfold cmpI; rw [if_neg (by omega), if_neg (by omega)]
theorem of_any (n : Int) (w : World) (hn : I64 n) : Calls Tryz.prog 60 #[.int .i64 n] w fun e w' => e = .returned (W n) ∧ w.grownBy w' none := by
  have e1 := hiW_i64 hn
  have e2 := loW_wrap n
  go_enter Tryz.func60, Tryz.ntmps60
  go_wp2_with fail
  refine bodyPost_ret (v := W n) (by simp [results, Tryz.results60, go_sem]) rfl ⟨rfl, ?_⟩
  repeat (first | exact grown_refl _ _ | apply grown_alloc | apply grown_drewN)

theorem cmp_any (a b : Int) (w : World) : Calls Tryz.prog 65 #[W a, W b] w fun e w' => e = .returned (.int .i64 (cmpI a b)) ∧ w.grownBy w' none := by
  by_cases h1 : hiW a = hiW b
  · by_cases h2 : loW a = loW b
    · have HZ := Lib.hid (cmpI_eq h1 h2)
      go_enter Tryz.func65, Tryz.ntmps65
      go_wp2_with fail
      go_ret
      rw [HZ.out]
      refine ⟨rfl, ?_⟩
      repeat (first | exact grown_refl _ _ | apply grown_alloc | apply grown_drewN)
    · by_cases h3 : loW a < loW b
      · have HZ := Lib.hid (cmpI_lt (.inr ⟨h1, h3⟩))
        go_enter Tryz.func65, Tryz.ntmps65
        go_wp2_with fail
        go_ret
        rw [HZ.out]
        refine ⟨rfl, ?_⟩
        repeat (first | exact grown_refl _ _ | apply grown_alloc | apply grown_drewN)
      · have HZ := Lib.hid (cmpI_gt (a := a) (b := b) (.inr ⟨h1, by omega⟩))
        go_enter Tryz.func65, Tryz.ntmps65
        go_wp2_with fail
        go_ret
        rw [HZ.out]
        refine ⟨rfl, ?_⟩
        repeat (first | exact grown_refl _ _ | apply grown_alloc | apply grown_drewN)
  · by_cases h3 : hiW a < hiW b
    · have HZ := Lib.hid (cmpI_lt (.inl h3))
      go_enter Tryz.func65, Tryz.ntmps65
      go_wp2_with fail
      go_ret
      rw [HZ.out]
      refine ⟨rfl, ?_⟩
      repeat (first | exact grown_refl _ _ | apply grown_alloc | apply grown_drewN)
    · have HZ := Lib.hid (cmpI_gt (a := a) (b := b) (.inl (by omega)))
      go_enter Tryz.func65, Tryz.ntmps65
      go_wp2_with fail
      go_ret
      rw [HZ.out]
      refine ⟨rfl, ?_⟩
      repeat (first | exact grown_refl _ _ | apply grown_alloc | apply grown_drewN)
theorem W_zero : W 0 = .agg #[.int .i64 0, .int .u64 0] := rfl
theorem sign_any (a : Int) (w : World) : Calls Tryz.prog 62 #[W a] w fun e w' => e = .returned (.int .i64 (cmpI a 0)) ∧ w.grownBy w' none := by
  have HC := Lib.hid (fun w => cmp_any a 0 w)
  go_enter Tryz.func62, Tryz.ntmps62
  go_wp2_with (go_at_call 65; refine (HC.out _).mono ?_; rintro e w' ⟨rfl, hg⟩)
  go_ret
  exact ⟨rfl, grown_trans (grown_alloc (grown_refl _ _) _) hg⟩

theorem hiW_neg {n : Int} : hiW n < 0 ↔ n < 0 := by unfold hiW; omega
theorem loW_sub (a b : Int) : (loW a - loW b) % 18446744073709551616 = loW (a - b) := by unfold loW; omega
theorem hiW_sub {a b : Int} (h : I128 (a - b)) : IntKind.i64.wrap ((loW (hiW a) - loW (hiW b) - bor (loW a) (loW b)) % 18446744073709551616) = hiW (a - b) := by
  rw [IntKind.wrap_i64]
  unfold I128 at h
  unfold hiW loW bor
  split <;> omega
theorem loW_lt (a : Int) : 0 ≤ loW a ∧ loW a < 18446744073709551616 := by unfold loW; omega
theorem bor_01 (a b : Int) : 0 ≤ bor a b ∧ bor a b ≤ 1 := by unfold bor; split <;> decide
theorem sub_any (a b : Int) (w : World) (ha : I128 a) (hb : I128 b) (h : I128 (a - b)) : Calls Tryz.prog 103 #[W a, W b] w fun e w' => e = .returned (.tuple #[W (a - b), .int .i64 0]) ∧ w.grownBy w' none := by
  obtain ⟨l1, l2⟩ := loW_lt a
  obtain ⟨l3, l4⟩ := loW_lt b
  obtain ⟨m1, m2⟩ := loW_lt (hiW a)
  obtain ⟨m3, m4⟩ := loW_lt (hiW b)
  obtain ⟨b1, b2⟩ := bor_01 (loW a) (loW b)
  have e1 := loW_wrap (hiW a)
  have e2 := loW_wrap (hiW b)
  have e3 := loW_sub a b
  have e4 := hiW_sub h
  cases s1 : decide (hiW a < 0) with
  | true =>
    cases s2 : decide (hiW b < 0) with
    | true => 
      go_enter Tryz.func103, Tryz.ntmps103
      go_wp2_with (first | simp only [sub64_0 _ _ l1 l3 l4] | simp only [sub64 _ _ _ m1 m3 m4 b1 b2])
      refine bodyPost_ret (v := .tuple #[W (a - b), .int .i64 0]) (by simp [results, Tryz.results103, go_sem]) rfl ⟨rfl, ?_⟩
      repeat (first | exact grown_refl _ _ | apply grown_alloc | apply grown_drewN)
    | false =>
      cases s3 : decide (hiW (a - b) < 0) with
      | true => 
        go_enter Tryz.func103, Tryz.ntmps103
        go_wp2_with (first | simp only [sub64_0 _ _ l1 l3 l4] | simp only [sub64 _ _ _ m1 m3 m4 b1 b2])
        refine bodyPost_ret (v := .tuple #[W (a - b), .int .i64 0]) (by simp [results, Tryz.results103, go_sem]) rfl ⟨rfl, ?_⟩
        repeat (first | exact grown_refl _ _ | apply grown_alloc | apply grown_drewN)
      | false => simp [hiW_neg] at s1 s2 s3; unfold I128 at *; omega
  | false =>
    cases s2 : decide (hiW b < 0) with
    | true =>
      cases s3 : decide (hiW (a - b) < 0) with
      | true => simp [hiW_neg] at s1 s2 s3; unfold I128 at *; omega
      | false =>
        go_enter Tryz.func103, Tryz.ntmps103
        go_wp2_with (first | simp only [sub64_0 _ _ l1 l3 l4] | simp only [sub64 _ _ _ m1 m3 m4 b1 b2])
        refine bodyPost_ret (v := .tuple #[W (a - b), .int .i64 0]) (by simp [results, Tryz.results103, go_sem]) rfl ⟨rfl, ?_⟩
        repeat (first | exact grown_refl _ _ | apply grown_alloc | apply grown_drewN)
    | false =>
      go_enter Tryz.func103, Tryz.ntmps103
      go_wp2_with (first | simp only [sub64_0 _ _ l1 l3 l4] | simp only [sub64 _ _ _ m1 m3 m4 b1 b2])
      refine bodyPost_ret (v := .tuple #[W (a - b), .int .i64 0]) (by simp [results, Tryz.results103, go_sem]) rfl ⟨rfl, ?_⟩
      repeat (first | exact grown_refl _ _ | apply grown_alloc | apply grown_drewN)

theorem alloc_at (w : World) (o : Obj) : (w.alloc o).heap[w.heap.size]? = some o := by rw [← World.alloc_eq]; simp
theorem alloc_at1 (w : World) (o1 o : Obj) : ((w.alloc o1).alloc o).heap[w.heap.size + 1]? = some o := by have := alloc_at (w.alloc o1) o; rwa [heap_alloc_size] at this
theorem neg_any (a : Int) (w : World) (ha : I128 a) (h : I128 (0 - a)) : Calls Tryz.prog 64 #[W a] w fun e w' => e = .returned (.tuple #[W (0 - a), .int .i64 0]) ∧ w.grownBy w' none := by
  have HC := Lib.hid (fun w => sub_any 0 a w ⟨by decide, by decide⟩ ha h)
  clear ha h
  go_enter Tryz.func64, Tryz.ntmps64
  go_wp2_with fail
  refine (HC.out _).mono ?_
  rintro e w' ⟨rfl, hg⟩
  have K1 := blk_grown hg (alloc_at1 w _ _) (by simp)
  have q0 := blk_cell K1 0
  have q1 := blk_cell K1 1
  have q2 := blk_free K1 0
  have q3 := blk_free K1 1
  simp only [List.getElem?_toArray, List.getElem?_cons_zero, List.getElem?_cons_succ] at q0 q1
  go_wp2_with fail
  refine bodyPost_ret (v := .tuple #[W (0 - a), .int .i64 0]) (by simp [results, Tryz.results64, go_sem, q0, q1]) rfl ⟨rfl, ?_⟩
  exact grown_setNew (grown_setNew (grown_trans (grown_alloc (grown_alloc (grown_refl _ _) _) _) hg) (by simp) _) (by simp) _

theorem bare_any (n : Int) (w : World) (hn : I64 n) : Calls Tryz.prog 128 #[.int .i64 n] w fun e w' => e = .returned (.int .u64 (n.natAbs : Int)) ∧ w' = w := by
  cases h : decide (n < 0) with
  | true =>
    have e1 : IntKind.u64.wrap n = n + 18446744073709551616 := by rw [IntKind.wrap_u64]; unfold I64 at hn; simp at h; omega
    have e2 : IntKind.u64.wrap (-(n + 18446744073709551616)) = (n.natAbs : Int) := by rw [IntKind.wrap_u64]; unfold I64 at hn; simp at h; omega
    have HE := Lib.hid e2
    go_enter Tryz.func128, Tryz.ntmps128
    go_wp2_with fail
    go_ret
    exact ⟨rfl, by trivial⟩
  | false =>
    have e1 : IntKind.u64.wrap n = (n.natAbs : Int) := by rw [IntKind.wrap_u64]; unfold I64 at hn; simp at h; omega
    go_enter Tryz.func128, Tryz.ntmps128
    go_wp2_with fail
    go_ret
    exact ⟨rfl, by trivial⟩

/-- A number without a sign, given one. -/
def sgn (neg : Bool) (n : Int) : Int := if neg then -n else n
theorem signed_any (neg : Bool) (h l : Int) (w : World) (h1 : 0 ≤ h) (h2 : h < 9223372036854775808) (l1 : 0 ≤ l) (l2 : l < 18446744073709551616) : Calls Tryz.prog 129 #[.bool neg, .int .u64 h, .int .u64 l] w fun e w' =>
    e = .returned (.tuple #[W (sgn neg (h * 18446744073709551616 + l)), .int .i64 0]) ∧ w.grownBy w' none := by
  have h3 : h < 18446744073709551616 := by omega
  obtain ⟨b1, b2⟩ := bor_01 0 l
  cases neg with
  | true =>
    have e1 : (-l) % 18446744073709551616 = loW (sgn true (h * 18446744073709551616 + l)) := by unfold loW; simp only [sgn, if_true]; omega
    have e2 : IntKind.i64.wrap ((-h - bor 0 l) % 18446744073709551616) = hiW (sgn true (h * 18446744073709551616 + l)) := by
      rw [IntKind.wrap_i64]; unfold hiW bor; simp only [sgn, if_true]; split <;> omega
    by_cases hz : h * 18446744073709551616 + l = 0
    · have z1 : h = 0 := by omega
      have z2 : l = 0 := by omega
      subst z1
      subst z2
      have hb : bor 0 0 = 0 := rfl
      clear e1 e2
      go_enter Tryz.func129, Tryz.ntmps129
      go_wp2_with (first | simp only [sub64_0 0 0 (Int.le_refl 0) l1 l2] | simp only [sub64 0 0 _ (Int.le_refl 0) h1 h3 b1 b2])
      refine bodyPost_ret (v := .tuple #[W (sgn true (0 * 18446744073709551616 + 0)), .int .i64 0]) (by simp [results, Tryz.results129, go_sem] <;> decide) rfl ⟨rfl, ?_⟩
      repeat (first | exact grown_refl _ _ | apply grown_alloc | apply grown_drewN)
    · have s1 : decide (hiW (sgn true (h * 18446744073709551616 + l)) < 0) = true := by simp [hiW_neg, sgn]; omega
      have nz : ¬ hiW (sgn true (h * 18446744073709551616 + l)) = 0 := by simp at s1; omega
      go_enter Tryz.func129, Tryz.ntmps129
      go_wp2_with (first | simp only [sub64_0 0 l (Int.le_refl 0) l1 l2] | simp only [sub64 0 h _ (Int.le_refl 0) h1 h3 b1 b2])
      refine bodyPost_ret (v := .tuple #[W (sgn true (h * 18446744073709551616 + l)), .int .i64 0]) (by simp [results, Tryz.results129, go_sem] <;> decide) rfl ⟨rfl, ?_⟩
      repeat (first | exact grown_refl _ _ | apply grown_alloc | apply grown_drewN)
  | false =>
    have e2 : IntKind.i64.wrap h = h := by rw [IntKind.wrap_i64]; omega
    have e3 : hiW (sgn false (h * 18446744073709551616 + l)) = h := by show hiW (h * 18446744073709551616 + l) = h; unfold hiW; omega
    have e4 : loW (sgn false (h * 18446744073709551616 + l)) = l := by show loW (h * 18446744073709551616 + l) = l; unfold loW; omega
    have s1 : decide (h < 0) = false := by simp; omega
    have HE3 := Lib.hid e3
    have HE4 := Lib.hid e4
    clear e3 e4
    by_cases z1 : h = 0
    · by_cases z2 : l = 0
      ·
        go_enter Tryz.func129, Tryz.ntmps129
        go_wp2_with fail
        refine bodyPost_ret (v := .tuple #[W (sgn false (h * 18446744073709551616 + l)), .int .i64 0]) (by unfold W; rw [HE3.out, HE4.out]; simp [results, Tryz.results129, go_sem, *]) rfl ⟨rfl, ?_⟩
        repeat (first | exact grown_refl _ _ | apply grown_alloc | apply grown_drewN)
      ·
        go_enter Tryz.func129, Tryz.ntmps129
        go_wp2_with fail
        refine bodyPost_ret (v := .tuple #[W (sgn false (h * 18446744073709551616 + l)), .int .i64 0]) (by unfold W; rw [HE3.out, HE4.out]; simp [results, Tryz.results129, go_sem, *]) rfl ⟨rfl, ?_⟩
        repeat (first | exact grown_refl _ _ | apply grown_alloc | apply grown_drewN)
    ·
      go_enter Tryz.func129, Tryz.ntmps129
      go_wp2_with fail
      refine bodyPost_ret (v := .tuple #[W (sgn false (h * 18446744073709551616 + l)), .int .i64 0]) (by unfold W; rw [HE3.out, HE4.out]; simp [results, Tryz.results129, go_sem, *]) rfl ⟨rfl, ?_⟩
      repeat (first | exact grown_refl _ _ | apply grown_alloc | apply grown_drewN)

end Go.Proofs.YtkhpdiilghncgaaGreatDoor
