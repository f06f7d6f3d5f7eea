/- AsmJoins' row and its card: for all instructions a, b: the two texts together make the bytes of both; a wrong line between is told by its number. Conditions: the listed package variables stand as the program's text lays them (the card ties them). -/
import Derived.Test.YtmklpjelfonilaaGreatDoorK4
import Derived.Test.YtmklpjelfonilaaGreatDoorJ2
import Derived.ChangeMaps5
namespace Go.Proofs.YtmklpjelfonilaaGreatDoor
open Go.ChangeShapes Go.WideShapes Go.ChangeAt Go.RowKit
set_option linter.unusedVariables false
set_option linter.constructorNameAsVariable false

set_option maxRecDepth 1000000 in
theorem joins_contract (H : Type) (enc : TypeId × Value → H) (W : World) (base : Nat) (args : Array Value) (ds gs : List (DataW H)) (before : List MemPlace)
    (hval : ∀ (j : Nat) t v, Tryz.f7.params[j]? = some t → args[j]? = some v → Value.okWide Tryz.prog W .any base t v)
    (hW : DataW.Whole enc Tryz.prog Tryz.f7.params.toList Rows.asmJoinsSpec.vars false W args.toList ds gs before)
    (hL : laidMetH Tryz.prog theLaid W) (hsh : W.ShapedOpen Tryz.prog) :
    Calls Tryz.prog 7 args W fun e W' => ∃ v, e = .returned v ∧ Rows.asmJoinsSpec.post enc Tryz.prog Tryz.f7 false true false false W args v W' := by
  obtain ⟨hw, hm⟩ := env_of hL hsh
  have hW' := hW
  obtain ⟨p, q, hA0, hV, rfl, hfz, hnd⟩ := hW
  have hA : DataW.TrodAll enc Tryz.prog W 0 (fun _ => true) true Tryz.f7.params.toList args.toList ds p := hA0
  rw [Tryz.params7] at hA hval
  obtain ⟨v0, v1, v2, d0, d1, d2, p0, p1, p2, rfl, rfl, rfl, h0, h1, h2⟩ := trodAll_three hA
  obtain ⟨rfl, rfl⟩ := trodVars_none hV
  obtain ⟨is, hi, hiw, hil⟩ := open_insts (hval 0 41 v0 rfl rfl) h0
  obtain ⟨js, hj, hjw, hjl⟩ := open_insts (hval 1 41 v1 rfl rfl) h1
  obtain ⟨b, rfl, rfl, rfl⟩ := open_bool Tryz.underlying4 (hval 2 4 v2 rfl rfl) h2
  clear hA0
  simp only [List.append_nil] at hW'
  have hlt0 : ∀ x ∈ p0, x.block < W.heap.size := fun x hx => hW'.lt x (List.mem_append_left _ hx)
  have hlt1 : ∀ x ∈ p1, x.block < W.heap.size := fun x hx => hW'.lt x (List.mem_append_right _ hx)
  have hmx : maxLen ≤ 9223372036854775807 := by decide
  refine (AsmJoins_any v0 v1 is js b W hi hj hiw hjw (Nat.le_trans hil hmx) (Nat.le_trans hjl hmx) hw hm).mono fun e W' ⟨he, hb⟩ => ?_
  subst he
  exact ⟨_, rfl, post_of_below (pa := p0 ++ p1) (pv := []) hW' (fun _ _ _ => trodAll_cons_mk (shut_bool Tryz.underlying4 _) trodAll_mk0)
    (fun sp hs => by
      have := trodAll_mk3 (stays_arg (by kernel_rfl) (of_decide_eq_true (by kernel_rfl)) h0 hb hlt0 sp (fun x hx => hs x (List.mem_append_left _ hx))) (stays_arg (by kernel_rfl) (of_decide_eq_true (by kernel_rfl)) h1 hb hlt1 sp (fun x hx => hs x (List.mem_append_right _ hx))) (shut_bool Tryz.underlying4 b)
      rwa [List.append_nil] at this)
    (fun _ _ => rfl) (by simp) hb
    (ok_one (by kernel_rfl) rfl (okWide_bool_mk Tryz.underlying4 _))⟩

set_option maxRecDepth 100000 in
theorem joins_lifted (os : Os) (started : os.Started) (H : Type) (enc : TypeId × Value → H) (F : Stop.Interp) :
    ReturnsInHanded {} Tryz.checked os 7 .any ((OpenSpec.ofChange Rows.asmJoinsSpec).preRow enc Tryz.prog Tryz.f7 [] false theLaid) (((OpenSpec.ofChange Rows.asmJoinsSpec).at F).post enc Tryz.prog Tryz.f7 false true false false) := by
  obtain ⟨places, hx⟩ : ∃ places, DataW.whole enc Tryz.prog ((startW os).forCall (fun _ _ => 0) ⟨#[], #[.slice none 0 0, .slice none 0 0, .bool false], []⟩).memory Tryz.f7.params.toList Rows.asmJoinsSpec.vars false #[.slice none 0 0, .slice none 0 0, .bool false].toList 8 = some ([.nil, .nil, .lit (.bool false)], [], places) := ⟨[], by kernel_rfl⟩
  refine returnsInHanded_of_row (C := Tryz.checked) (s := OpenSpec.ofChange Rows.asmJoinsSpec) own started (by kernel_rfl) Tryz.func7
    (witness_of os #[.slice none 0 0, .slice none 0 0, .bool false] (by kernel_rfl)
      (OpenSpec.preRow_of_cond 8 hx (by kernel_rfl) (fun k hk => by cases hk) (by kernel_rfl) (start_laid os _))) ?_
  intro W base args ds gs before hval hW _ hcond _ hL hsh _
  exact joins_contract H enc W base args ds gs before hval hW hL hsh

theorem joins_said : Rows.AsmJoinsSaid :=
  OpenClaim.holds_of_cond 7 Tryz.f7 rfl rfl rfl rfl rfl rfl rfl ⟨rfl, rfl, rfl, rfl, rfl⟩ rfl rfl rfl rfl rfl (by kernel_rfl) Tryz.func7 (by kernel_rfl)
    (of_decide_eq_true (by kernel_rfl)) (by unfold Func.isWrapper; first | (rw [if_pos (by decide +kernel)]; kernel_rfl) | (rw [if_neg (by decide +kernel)]; exact ⟨rfl, rfl⟩))
    (fun os started H enc _ F => by rw [OpenClaim.pre_eq_preRow]; exact joins_lifted os started H enc F)

theorem joins_plain (f : FuncId) (fn : Func) (hf : Tryz.pinned.checked.prog.funcNamed "citadel/citadellaw22.AsmJoins" = some f) (hfn : Tryz.pinned.checked.prog.funcs[f]? = some fn) :
    true = Tryz.pinned.checked.prog.looks [] ∧ ∀ (j : Nat) t, fn.params[j]? = some t → Tryz.pinned.checked.prog.wantsStandIn t = false := by
  obtain rfl : f = 7 := Option.some.inj ((show Tryz.prog.funcNamed "citadel/citadellaw22.AsmJoins" = some 7 by kernel_rfl).symm.trans hf) |>.symm
  obtain rfl : fn = Tryz.f7 := (Option.some.inj (Tryz.func7.symm.trans hfn)).symm
  refine ⟨by kernel_rfl, fun j t ht => ?_⟩
  rw [Tryz.params7] at ht
  have hm : t ∈ [41, 41, 4] := by simpa using Array.mem_of_getElem? ht
  have hall : ([41, 41, 4].all fun u => !Tryz.prog.wantsStandIn u) = true := by kernel_rfl
  exact (show Tryz.prog.wantsStandIn t = false by simpa using List.all_eq_true.1 hall t hm)

/-- THE CARD. -/
theorem asmJoins_card : Rows.AsmJoinsCardSaid :=
  Claim7.holds_tied_plain_at .later [] _ _ _ _ joins_said (fun _ h => by cases h) (by kernel_rfl) (fun _ h => by cases h) asmJoins_row_tie rfl ⟨rfl, rfl⟩ (by kernel_rfl) rfl joins_plain (by kernel_rfl)
end Go.Proofs.YtmklpjelfonilaaGreatDoor
