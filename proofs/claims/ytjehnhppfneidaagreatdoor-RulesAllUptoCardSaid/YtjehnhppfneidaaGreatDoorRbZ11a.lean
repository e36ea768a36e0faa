/- RulesAll: for every tree of bulk at most 1048576 (its parts and letters, what lies to spare in its slices too), called in whatever memory in which the listed variables of Go's library read as listed, the law answers true, and its argument reads as it did. Condition: the bound on the bulk. -/
import Derived.Test.YtjehnhppfneidaaGreatDoorRbk
import Derived.Test.YtjehnhppfneidaaGreatDoorCards
import Derived.Test.YtjehnhppfneidaaGreatDoorTie
set_option linter.unusedVariables false
set_option linter.unusedSimpArgs false
set_option linter.unusedSectionVars false
set_option maxRecDepth 100000
namespace Go.Proofs.YtjehnhppfneidaaGreatDoor.law11
open Go Go.RowKit Go.ChangeShapes Go.Proofs.YP Go.Proofs.YtjehnhppfneidaaGreatDoor
theorem reads (os : Os) {H : Type} (enc : TypeId × Value → H) : ∃ places, DataW.whole enc Tryz.prog ((laidWorld os).forCall (fun _ _ => 0) ⟨#[], #[treeV], []⟩).memory Tryz.f11.params.toList Rows.rulesAllSpec.vars false (#[treeV] : Array Value).toList 8 = some ([.agg [.lit (.int .i64 0), .lit (.string []), .lit (.int .i64 0), .nil, .lit (.int .i64 0)]], [], places) :=
 ⟨[], by kernel_rfl⟩
theorem lifted (os : Os) (started : os.Started) (H : Type) (enc : TypeId × Value → H) (F : Stop.Interp) :
  ReturnsInHanded {} Tryz.checked os 11 .any ((Rows.OpenSpec.upto Rows.rulesAllSpec).preRow enc Tryz.prog Tryz.f11 Rows.rulesAllUptoRow.domain false Rows.rulesAllUptoRow.laid) (((Rows.OpenSpec.upto Rows.rulesAllSpec).at F).post enc Tryz.prog Tryz.f11 false true false false) := by
 obtain ⟨places, hx⟩ := reads os enc
 refine returnsInHanded_of_row (C := Tryz.checked) (s := Rows.OpenSpec.upto Rows.rulesAllSpec) own started (by kernel_rfl) Tryz.func11
  (witness_row_atRef (enc := enc) (C := Tryz.checked) false (laidWorld os) #[treeV] rfl (by kernel_rfl) (by kernel_rfl) (by kernel_rfl)
   (OpenSpec.preRow_of_cond 8 hx (by kernel_rfl) (fun k hk => by cases hk; kernel_rfl) (by kernel_rfl) (laid_met os _))) ?_
 intro W base args ds gs before hval hW _ hcond _ hL _ _
 exact contract1 Tryz.params11 (by kernel_rfl) rfl (fun _ => rfl) says11 W base args ds gs before hval hW (hcond _ rfl) hL
theorem in1 : Tryz.prog.inPlace 11 = Rows.rulesAllUptoRow.inPlace := by kernel_rfl
theorem in2 : Tryz.prog.unfollowed 11 = true := by kernel_rfl
theorem in3 : Tryz.prog.recurses 11 = true := by kernel_rfl
theorem in4 : Tryz.prog.varsNamed 11 = Rows.rulesAllUptoRow.named := by kernel_rfl
theorem in5 : Tryz.prog.funcNamed "gumshoe/gumshoelaw12.RulesAll" = some 11 := by kernel_rfl
theorem closed : joinedFacts Tryz.prog 11 Tryz.f11 Rows.rulesAllSpec Rows.rulesAllUptoRow = true := by
 unfold joinedFacts
 rw [in1, in2, in3, in4]
 kernel_rfl
theorem saidUpto : Rows.RulesAllUptoSaid :=
 OpenClaim.holds_of_cond 11 Tryz.f11 rfl rfl rfl rfl rfl rfl rfl ⟨rfl, rfl, rfl, rfl, rfl⟩ rfl rfl rfl rfl rfl in5 Tryz.func11 closed
  (of_decide_eq_true (by kernel_rfl)) (by unfold Func.isWrapper; first | (rw [if_pos (by decide +kernel)]; kernel_rfl) | (rw [if_neg (by decide +kernel)]; exact ⟨rfl, rfl⟩))
  (fun os started H enc _ F => by rw [OpenClaim.pre_eq_preRow]; exact lifted os started H enc F)
theorem plain (f : FuncId) (fn : Func) (hf : Tryz.pinned.checked.prog.funcNamed "gumshoe/gumshoelaw12.RulesAll" = some f) (hfn : Tryz.pinned.checked.prog.funcs[f]? = some fn) :
  true = Tryz.pinned.checked.prog.looks [] ∧ ∀ (j : Nat) t, fn.params[j]? = some t → Tryz.pinned.checked.prog.wantsStandIn t = false := by
 obtain rfl : f = 11 := Option.some.inj (in5.symm.trans hf) |>.symm
 obtain rfl : fn = Tryz.f11 := (Option.some.inj (Tryz.func11.symm.trans hfn)).symm
 refine ⟨by kernel_rfl, fun j t ht => ?_⟩
 rw [Tryz.params11] at ht
 have hm : t ∈ [24] := by simpa using Array.mem_of_getElem? ht
 have hall : ([24].all fun u => !Tryz.prog.wantsStandIn u) = true := by kernel_rfl
 exact (show Tryz.prog.wantsStandIn t = false by simpa using List.all_eq_true.1 hall t hm)
end Go.Proofs.YtjehnhppfneidaaGreatDoor.law11
namespace Go.Proofs.YtjehnhppfneidaaGreatDoor
open Go
theorem rulesAll_upto_card : Rows.RulesAllUptoCardSaid :=
 Claim7.holds_tied_plain_at .later [] _ _ _ _ law11.saidUpto (fun _ h => by cases h) (by kernel_rfl) (fun _ h => by cases h) rulesAllUpto_row_tie rfl ⟨rfl, rfl⟩ (by kernel_rfl) rfl law11.plain (by kernel_rfl)
#print axioms rulesAll_upto_card
end Go.Proofs.YtjehnhppfneidaaGreatDoor
