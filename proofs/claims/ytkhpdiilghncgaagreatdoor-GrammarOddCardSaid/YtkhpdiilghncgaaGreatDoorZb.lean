/- GrammarOdd shows of every input that its answer is true: the row's statement, its card. No condition. -/
import Derived.Test.YtkhpdiilghncgaaGreatDoorOw
import Derived.Test.YtkhpdiilghncgaaGreatDoorZa
import Derived.Test.YtkhpdiilghncgaaGreatDoorCards
import Derived.Test.YtkhpdiilghncgaaGreatDoorTie
import Derived.SevenTiedAt
namespace Go.Proofs.YtkhpdiilghncgaaGreatDoor
open Go.ChangeShapes Go.WideShapes Go.ChangeAt Go.RowKit
open Go.ChangeMaps (open_string shut_string)

theorem odd_reach {H : Type} {s t : ByteArray} {c : Int} (hsz : (DataW.weightsEach Tryz.prog [9, 5, 9] ([.lit (.string s.data.toList), .lit (.int .u8 c), .lit (.string t.data.toList)] : List (DataW H))).all (· ≤ reachBytes) = true) : s.size ≤ 140737488351232 ∧ t.size ≤ 140737488351232 := by
  exact ⟨reach_one hsz (by simp [DataW.weightsEach, DataW.weights]), reach_one hsz (by simp [DataW.weightsEach, DataW.weights])⟩
theorem odd_reads (os : Os) {H : Type} (enc : TypeId × Value → H) : ∃ places, DataW.whole enc Tryz.prog (((World.laidAll Tryz.prog os Rows.grammarOddRow.laid).forCall (fun _ _ => 0) ⟨#[], #[.string ⟨#[]⟩, .int .u8 0, .string ⟨#[]⟩], []⟩).memory) Tryz.f7.params.toList Rows.grammarOddSpec.vars false #[Value.string ⟨#[]⟩, .int .u8 0, .string ⟨#[]⟩].toList 8 = some ([.lit (.string []), .lit (.int .u8 0), .lit (.string [])], [], places) :=
  ⟨[], by kernel_rfl⟩
set_option maxRecDepth 100000 in
theorem odd_lifted (os : Os) (started : os.Started) (H : Type) (enc : TypeId × Value → H) (F : Stop.Interp) :
    ReturnsInHanded {} Tryz.checked os 7 .any ((OpenSpec.ofChange Rows.grammarOddSpec).preRow enc Tryz.prog Tryz.f7 Rows.grammarOddRow.domain false Rows.grammarOddRow.laid) (((OpenSpec.ofChange Rows.grammarOddSpec).at F).post enc Tryz.prog Tryz.f7 false true false false) := by
  obtain ⟨places, hx⟩ := odd_reads os enc
  refine returnsInHanded_of_row (C := Tryz.checked) (s := OpenSpec.ofChange Rows.grammarOddSpec) own started (by kernel_rfl) Tryz.func7
    (row_witness (enc := enc) (C := Tryz.checked) false (World.laidAll Tryz.prog os Rows.grammarOddRow.laid) #[.string ⟨#[]⟩, .int .u8 0, .string ⟨#[]⟩] (World.laidAll_os _ _ _) (World.shaped_of_ZipB (by kernel_rfl) (by kernel_rfl)) (by kernel_rfl)
      (OpenSpec.preRow_of_cond 8 hx (by kernel_rfl) (fun k hk => by cases hk) (by kernel_rfl) (by rw [MakeChecks.laidMetH_plain _ _ _ (by kernel_rfl)]; exact laidMet_laidAll _ (by kernel_rfl) (by kernel_rfl)))) ?_
  intro W base args ds gs before hval0 hW _ _ hsz hL hsh _
  have hval : ∀ (j : Nat) t v, Tryz.f7.params[j]? = some t → args[j]? = some v → Value.okWide Tryz.prog W .any base t v := hval0
  have hW' := hW
  obtain ⟨p, q, hA0, hV, rfl, hfz, hnd⟩ := hW
  have hA : DataW.TrodAll enc Tryz.prog W 0 (fun _ => true) true Tryz.f7.params.toList args.toList ds p := hA0
  rw [Tryz.params7] at hA hval
  obtain ⟨v0, vs0, d0, ds0, p0, q0, hargs, rfl, rfl, h0, r0⟩ := trodAll_cons hA
  obtain ⟨v1, vs1, d1, ds1, p1, q1, rfl, rfl, rfl, h1, r1⟩ := trodAll_cons r0
  obtain ⟨v2, vs2, d2, ds2, p2, q2, rfl, rfl, rfl, h2, r2⟩ := trodAll_cons r1
  obtain ⟨rfl, rfl, rfl⟩ := trodAll_nil r2
  obtain rfl : args = #[v0, v1, v2] := by cases args; simp_all
  obtain ⟨rfl, rfl⟩ := trodVars_none hV
  obtain ⟨a, rfl, rfl, rfl, wa⟩ := open_string Tryz.underlying9 (hval 0 9 v0 rfl rfl) h0
  obtain ⟨c, rfl, rfl, rfl, wc⟩ := open_int Tryz.underlying5 (hval 1 5 v1 rfl rfl) h1
  obtain ⟨b, rfl, rfl, rfl, wb⟩ := open_string Tryz.underlying9 (hval 2 9 v2 rfl rfl) h2
  clear hA0 hval0
  simp only [List.append_nil] at hW'
  have hs := odd_reach (H := H) (s := a) (t := b) (c := c) hsz
  have hc := bounds_u8 wc
  obtain ⟨n, rfl⟩ : ∃ n : Nat, c = n := ⟨c.toNat, by omega⟩
  obtain ⟨m, hm⟩ := maxlen_of hsh
  refine (odd_any a b n W hm hs.1 hs.2 (by omega)).mono fun e W' ⟨he, hg⟩ => ?_
  subst he
  exact ⟨_, rfl, _, _, _, [], [], [], hW', trodAll_mk1 (shut_bool Tryz.underlying4 _), trodAll_cons_mk (shut_string Tryz.underlying9 wa) (trodAll_cons_mk (shut_int Tryz.underlying5 wc) (trodAll_cons_mk (shut_string Tryz.underlying9 wb) trodAll_mk0)), rfl, (grown_below hg).frame _, fun h => by cases h⟩
theorem odd_said : Rows.GrammarOddSaid :=
  OpenClaim.holds_of_cond 7 Tryz.f7 rfl rfl rfl rfl rfl rfl rfl ⟨rfl, rfl, rfl, rfl, rfl⟩ rfl rfl rfl rfl rfl (by kernel_rfl) Tryz.func7 (by kernel_rfl)
    (of_decide_eq_true (by kernel_rfl)) (by unfold Func.isWrapper; first | (rw [if_pos (by decide +kernel)]; kernel_rfl) | (rw [if_neg (by decide +kernel)]; exact ⟨rfl, rfl⟩))
    (fun os started H enc _ F => by rw [OpenClaim.pre_eq_preRow]; exact odd_lifted os started H enc F)
theorem odd_plain (f : FuncId) (fn : Func) (hf : Tryz.pinned.checked.prog.funcNamed "analemma/analemmalaw24.GrammarOdd" = some f) (hfn : Tryz.pinned.checked.prog.funcs[f]? = some fn) :
    true = Tryz.pinned.checked.prog.looks [] ∧ ∀ (j : Nat) t, fn.params[j]? = some t → Tryz.pinned.checked.prog.wantsStandIn t = false := by
  obtain rfl : f = 7 := Option.some.inj ((show Tryz.prog.funcNamed "analemma/analemmalaw24.GrammarOdd" = some 7 by kernel_rfl).symm.trans hf) |>.symm
  obtain rfl : fn = Tryz.f7 := (Option.some.inj (Tryz.func7.symm.trans hfn)).symm
  refine ⟨by kernel_rfl, fun j t ht => ?_⟩
  rw [Tryz.params7] at ht
  have hm : t ∈ [9, 5, 9] := by simpa using Array.mem_of_getElem? ht
  have hall : ([9, 5, 9].all fun u => !Tryz.prog.wantsStandIn u) = true := by kernel_rfl
  exact (show Tryz.prog.wantsStandIn t = false by simpa using List.all_eq_true.1 hall t hm)
theorem odd_card : Rows.GrammarOddCardSaid :=
  Claim7.holds_tied_plain_at .later [] _ _ _ _ odd_said (fun _ h => by cases h) (by kernel_rfl) (fun _ h => by cases h) grammarOdd_row_tie rfl ⟨rfl, rfl⟩ (by kernel_rfl) rfl odd_plain (by kernel_rfl)
end Go.Proofs.YtkhpdiilghncgaaGreatDoor
