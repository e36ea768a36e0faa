/- ScopeMany: for every two numbers, called in whatever memory in which the listed variables of Go's library read as listed, the law answers true, and its arguments read as they did. Condition: the bound on the bulk. -/
import Derived.Test.YtjehnhppfneidaaGreatDoorSmi
import Derived.Test.YtjehnhppfneidaaGreatDoorSmZ9a
import Derived.Test.YtjehnhppfneidaaGreatDoorCards
import Derived.Test.YtjehnhppfneidaaGreatDoorTie
set_option linter.unusedVariables false
set_option maxRecDepth 100000
namespace Go.Proofs.YtjehnhppfneidaaGreatDoor.law9
open Go Go.RowKit Go.ChangeShapes Go.Proofs.YP Go.Proofs.YtjehnhppfneidaaGreatDoor
theorem reads (os : Os) {H : Type} (enc : TypeId × Value → H) : ∃ places, DataW.whole enc Tryz.prog ((laidWorld os).forCall (fun _ _ => 0) ⟨#[], #[.int .i64 0, .int .i64 0], []⟩).memory Tryz.f9.params.toList Rows.scopeManySpec.vars false (#[.int .i64 0, .int .i64 0] : Array Value).toList 8 = some ([.lit (.int .i64 0), .lit (.int .i64 0)], [], places) :=
  ⟨[], by kernel_rfl⟩
theorem lifted (os : Os) (started : os.Started) (H : Type) (enc : TypeId × Value → H) (F : Stop.Interp) :
    ReturnsInHanded {} Tryz.checked os 9 .any ((Rows.OpenSpec.upto Rows.scopeManySpec).preRow enc Tryz.prog Tryz.f9 Rows.scopeManyUptoRow.domain false Rows.scopeManyUptoRow.laid) (((Rows.OpenSpec.upto Rows.scopeManySpec).at F).post enc Tryz.prog Tryz.f9 false true false false) := by
  obtain ⟨places, hx⟩ := reads os enc
  refine returnsInHanded_of_row (C := Tryz.checked) (s := Rows.OpenSpec.upto Rows.scopeManySpec) own started (by kernel_rfl) Tryz.func9
    (witness_row_atRef (enc := enc) (C := Tryz.checked) false (laidWorld os) #[.int .i64 0, .int .i64 0] rfl (by kernel_rfl) (by kernel_rfl) (by kernel_rfl)
      (OpenSpec.preRow_of_cond 8 hx (by kernel_rfl) (fun k hk => by cases hk; kernel_rfl) (by kernel_rfl) (laid_met os _))) ?_
  intro W base args ds gs before hval hW _ hcond _ hL _ _
  exact contract3 Tryz.params9 (by kernel_rfl) rfl (fun _ _ => rfl) says9 W base args ds gs before hval hW (hcond _ rfl) hL
theorem in1 : Tryz.prog.inPlace 9 = Rows.scopeManyUptoRow.inPlace := by kernel_rfl
theorem in2 : Tryz.prog.unfollowed 9 = true := by kernel_rfl
theorem in3 : Tryz.prog.recurses 9 = true := by kernel_rfl
theorem in4 : Tryz.prog.varsNamed 9 = Rows.scopeManyUptoRow.named := by kernel_rfl
theorem in5 : Tryz.prog.funcNamed "gumshoe/gumshoelaw05.ScopeMany" = some 9 := by kernel_rfl
theorem closed : joinedFacts Tryz.prog 9 Tryz.f9 Rows.scopeManySpec Rows.scopeManyUptoRow = true := by
  unfold joinedFacts
  rw [in1, in2, in3, in4]
  kernel_rfl
theorem saidUpto : Rows.ScopeManyUptoSaid :=
  OpenClaim.holds_of_cond 9 Tryz.f9 rfl rfl rfl rfl rfl rfl rfl ⟨rfl, rfl, rfl, rfl, rfl⟩ rfl rfl rfl rfl rfl in5 Tryz.func9 closed
    (of_decide_eq_true (by kernel_rfl)) (by unfold Func.isWrapper; first | (rw [if_pos (by decide +kernel)]; kernel_rfl) | (rw [if_neg (by decide +kernel)]; exact ⟨rfl, rfl⟩))
    (fun os started H enc _ F => by rw [OpenClaim.pre_eq_preRow]; exact lifted os started H enc F)
theorem plain (f : FuncId) (fn : Func) (hf : Tryz.pinned.checked.prog.funcNamed "gumshoe/gumshoelaw05.ScopeMany" = some f) (hfn : Tryz.pinned.checked.prog.funcs[f]? = some fn) :
    true = Tryz.pinned.checked.prog.looks [] ∧ ∀ (j : Nat) t, fn.params[j]? = some t → Tryz.pinned.checked.prog.wantsStandIn t = false := by
  obtain rfl : f = 9 := Option.some.inj (in5.symm.trans hf) |>.symm
  obtain rfl : fn = Tryz.f9 := (Option.some.inj (Tryz.func9.symm.trans hfn)).symm
  refine ⟨by kernel_rfl, fun j t ht => ?_⟩
  rw [Tryz.params9] at ht
  have hm : t ∈ [3, 3] := by simpa using Array.mem_of_getElem? ht
  have hall : ([3, 3].all fun u => !Tryz.prog.wantsStandIn u) = true := by kernel_rfl
  exact (show Tryz.prog.wantsStandIn t = false by simpa using List.all_eq_true.1 hall t hm)
end Go.Proofs.YtjehnhppfneidaaGreatDoor.law9
namespace Go.Proofs.YtjehnhppfneidaaGreatDoor
open Go
theorem scopeMany_upto_card : Rows.ScopeManyUptoCardSaid :=
  Claim7.holds_tied_plain_at .later [] _ _ _ _ law9.saidUpto (fun _ h => by cases h) (by kernel_rfl) (fun _ h => by cases h) scopeManyUpto_row_tie rfl ⟨rfl, rfl⟩ (by kernel_rfl) rfl law9.plain (by kernel_rfl)
#print axioms scopeMany_upto_card
end Go.Proofs.YtjehnhppfneidaaGreatDoor
