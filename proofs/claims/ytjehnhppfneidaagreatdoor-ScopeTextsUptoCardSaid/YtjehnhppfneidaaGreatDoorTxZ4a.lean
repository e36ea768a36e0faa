/- ScopeTexts: for every text of bulk at most 1048576, called in whatever memory in which the listed variables of Go's library read as listed, the law answers true, and its argument reads as it did. Condition: the bound on the bulk. -/
import Derived.Test.YtjehnhppfneidaaGreatDoorTxj
import Derived.Test.YtjehnhppfneidaaGreatDoorCards
import Derived.Test.YtjehnhppfneidaaGreatDoorTie
set_option linter.unusedVariables false
set_option linter.unusedSimpArgs false
set_option linter.unusedSectionVars false
set_option maxRecDepth 100000
namespace Go.Proofs.YtjehnhppfneidaaGreatDoor.law4
open Go Go.RowKit Go.ChangeShapes Go.Proofs.YP Go.Proofs.YtjehnhppfneidaaGreatDoor
theorem reads (os : Os) {H : Type} (enc : TypeId × Value → H) : ∃ places, DataW.whole enc Tryz.prog ((laidWorld os).forCall (fun _ _ => 0) ⟨#[], #[.string ⟨#[]⟩], []⟩).memory Tryz.f4.params.toList Rows.scopeTextsSpec.vars false (#[.string ⟨#[]⟩] : Array Value).toList 8 = some ([.lit (.string [])], [], places) :=
 ⟨[], by kernel_rfl⟩
theorem lifted (os : Os) (started : os.Started) (H : Type) (enc : TypeId × Value → H) (F : Stop.Interp) :
  ReturnsInHanded {} Tryz.checked os 4 .any ((Rows.OpenSpec.upto Rows.scopeTextsSpec).preRow enc Tryz.prog Tryz.f4 Rows.scopeTextsUptoRow.domain false Rows.scopeTextsUptoRow.laid) (((Rows.OpenSpec.upto Rows.scopeTextsSpec).at F).post enc Tryz.prog Tryz.f4 false true false false) := by
 obtain ⟨places, hx⟩ := reads os enc
 refine returnsInHanded_of_row (C := Tryz.checked) (s := Rows.OpenSpec.upto Rows.scopeTextsSpec) own started (by kernel_rfl) Tryz.func4
  (witness_row_atRef (enc := enc) (C := Tryz.checked) false (laidWorld os) #[.string ⟨#[]⟩] rfl (by kernel_rfl) (by kernel_rfl) (by kernel_rfl)
   (OpenSpec.preRow_of_cond 8 hx (by kernel_rfl) (fun k hk => by cases hk; kernel_rfl) (by kernel_rfl) (laid_met os _))) ?_
 intro W base args ds gs before hval hW _ hcond _ hL _ _
 exact contract4 Tryz.params4 (by kernel_rfl) rfl (fun _ => rfl) says4 W base args ds gs before hval hW (hcond _ rfl) hL
theorem in1 : Tryz.prog.inPlace 4 = Rows.scopeTextsUptoRow.inPlace := by kernel_rfl
theorem in2 : Tryz.prog.unfollowed 4 = true := by kernel_rfl
theorem in3 : Tryz.prog.recurses 4 = true := by kernel_rfl
theorem in4 : Tryz.prog.varsNamed 4 = Rows.scopeTextsUptoRow.named := by kernel_rfl
theorem in5 : Tryz.prog.funcNamed "gumshoe/gumshoelaw05.ScopeTexts" = some 4 := by kernel_rfl
theorem closed : joinedFacts Tryz.prog 4 Tryz.f4 Rows.scopeTextsSpec Rows.scopeTextsUptoRow = true := by
 unfold joinedFacts
 rw [in1, in2, in3, in4]
 kernel_rfl
theorem saidUpto : Rows.ScopeTextsUptoSaid :=
 OpenClaim.holds_of_cond 4 Tryz.f4 rfl rfl rfl rfl rfl rfl rfl ⟨rfl, rfl, rfl, rfl, rfl⟩ rfl rfl rfl rfl rfl in5 Tryz.func4 closed
  (of_decide_eq_true (by kernel_rfl)) (by unfold Func.isWrapper; first | (rw [if_pos (by decide +kernel)]; kernel_rfl) | (rw [if_neg (by decide +kernel)]; exact ⟨rfl, rfl⟩))
  (fun os started H enc _ F => by rw [OpenClaim.pre_eq_preRow]; exact lifted os started H enc F)
theorem plain (f : FuncId) (fn : Func) (hf : Tryz.pinned.checked.prog.funcNamed "gumshoe/gumshoelaw05.ScopeTexts" = some f) (hfn : Tryz.pinned.checked.prog.funcs[f]? = some fn) :
  true = Tryz.pinned.checked.prog.looks [] ∧ ∀ (j : Nat) t, fn.params[j]? = some t → Tryz.pinned.checked.prog.wantsStandIn t = false := by
 obtain rfl : f = 4 := Option.some.inj (in5.symm.trans hf) |>.symm
 obtain rfl : fn = Tryz.f4 := (Option.some.inj (Tryz.func4.symm.trans hfn)).symm
 refine ⟨by kernel_rfl, fun j t ht => ?_⟩
 rw [Tryz.params4] at ht
 have hm : t ∈ [9] := by simpa using Array.mem_of_getElem? ht
 have hall : ([9].all fun u => !Tryz.prog.wantsStandIn u) = true := by kernel_rfl
 exact (show Tryz.prog.wantsStandIn t = false by simpa using List.all_eq_true.1 hall t hm)
end Go.Proofs.YtjehnhppfneidaaGreatDoor.law4
namespace Go.Proofs.YtjehnhppfneidaaGreatDoor
open Go
theorem scopeTexts_upto_card : Rows.ScopeTextsUptoCardSaid :=
 Claim7.holds_tied_plain_at .later [] _ _ _ _ law4.saidUpto (fun _ h => by cases h) (by kernel_rfl) (fun _ h => by cases h) scopeTextsUpto_row_tie rfl ⟨rfl, rfl⟩ (by kernel_rfl) rfl law4.plain (by kernel_rfl)
#print axioms scopeTexts_upto_card
end Go.Proofs.YtjehnhppfneidaaGreatDoor
