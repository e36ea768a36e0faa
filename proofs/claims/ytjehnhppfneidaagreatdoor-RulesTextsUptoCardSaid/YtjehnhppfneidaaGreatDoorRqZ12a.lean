/- RulesTexts: for every text of bulk at most 1048576, called in whatever memory in which the listed variables of Go's library read as listed, the law answers true, and its argument reads as it did. Condition: the bound on the bulk. -/
import Derived.Test.YtjehnhppfneidaaGreatDoorRql
import Derived.Test.YtjehnhppfneidaaGreatDoorCards
import Derived.Test.YtjehnhppfneidaaGreatDoorTie
set_option linter.unusedVariables false
set_option linter.unusedSimpArgs false
set_option linter.unusedSectionVars false
set_option maxRecDepth 100000
namespace Go.Proofs.YtjehnhppfneidaaGreatDoor.law12
open Go Go.RowKit Go.ChangeShapes Go.Proofs.YP Go.Proofs.YtjehnhppfneidaaGreatDoor
theorem reads (os : Os) {H : Type} (enc : TypeId × Value → H) : ∃ places, DataW.whole enc Tryz.prog ((laidWorld os).forCall (fun _ _ => 0) ⟨#[], #[.string ⟨#[]⟩], []⟩).memory Tryz.f12.params.toList Rows.rulesTextsSpec.vars false (#[.string ⟨#[]⟩] : Array Value).toList 8 = some ([.lit (.string [])], [], places) :=
 ⟨[], by kernel_rfl⟩
theorem lifted (os : Os) (started : os.Started) (H : Type) (enc : TypeId × Value → H) (F : Stop.Interp) :
  ReturnsInHanded {} Tryz.checked os 12 .any ((Rows.OpenSpec.upto Rows.rulesTextsSpec).preRow enc Tryz.prog Tryz.f12 Rows.rulesTextsUptoRow.domain false Rows.rulesTextsUptoRow.laid) (((Rows.OpenSpec.upto Rows.rulesTextsSpec).at F).post enc Tryz.prog Tryz.f12 false true false false) := by
 obtain ⟨places, hx⟩ := reads os enc
 refine returnsInHanded_of_row (C := Tryz.checked) (s := Rows.OpenSpec.upto Rows.rulesTextsSpec) own started (by kernel_rfl) Tryz.func12
  (witness_row_atRef (enc := enc) (C := Tryz.checked) false (laidWorld os) #[.string ⟨#[]⟩] rfl (by kernel_rfl) (by kernel_rfl) (by kernel_rfl)
   (OpenSpec.preRow_of_cond 8 hx (by kernel_rfl) (fun k hk => by cases hk; kernel_rfl) (by kernel_rfl) (laid_met os _))) ?_
 intro W base args ds gs before hval hW _ hcond _ hL _ _
 exact contract4 Tryz.params12 (by kernel_rfl) rfl (fun _ => rfl) says12 W base args ds gs before hval hW (hcond _ rfl) hL
theorem in1 : Tryz.prog.inPlace 12 = Rows.rulesTextsUptoRow.inPlace := by kernel_rfl
theorem in2 : Tryz.prog.unfollowed 12 = true := by kernel_rfl
theorem in3 : Tryz.prog.recurses 12 = true := by kernel_rfl
theorem in4 : Tryz.prog.varsNamed 12 = Rows.rulesTextsUptoRow.named := by kernel_rfl
theorem in5 : Tryz.prog.funcNamed "gumshoe/gumshoelaw12.RulesTexts" = some 12 := by kernel_rfl
theorem closed : joinedFacts Tryz.prog 12 Tryz.f12 Rows.rulesTextsSpec Rows.rulesTextsUptoRow = true := by
 unfold joinedFacts
 rw [in1, in2, in3, in4]
 kernel_rfl
theorem saidUpto : Rows.RulesTextsUptoSaid :=
 OpenClaim.holds_of_cond 12 Tryz.f12 rfl rfl rfl rfl rfl rfl rfl ⟨rfl, rfl, rfl, rfl, rfl⟩ rfl rfl rfl rfl rfl in5 Tryz.func12 closed
  (of_decide_eq_true (by kernel_rfl)) (by unfold Func.isWrapper; first | (rw [if_pos (by decide +kernel)]; kernel_rfl) | (rw [if_neg (by decide +kernel)]; exact ⟨rfl, rfl⟩))
  (fun os started H enc _ F => by rw [OpenClaim.pre_eq_preRow]; exact lifted os started H enc F)
theorem plain (f : FuncId) (fn : Func) (hf : Tryz.pinned.checked.prog.funcNamed "gumshoe/gumshoelaw12.RulesTexts" = some f) (hfn : Tryz.pinned.checked.prog.funcs[f]? = some fn) :
  true = Tryz.pinned.checked.prog.looks [] ∧ ∀ (j : Nat) t, fn.params[j]? = some t → Tryz.pinned.checked.prog.wantsStandIn t = false := by
 obtain rfl : f = 12 := Option.some.inj (in5.symm.trans hf) |>.symm
 obtain rfl : fn = Tryz.f12 := (Option.some.inj (Tryz.func12.symm.trans hfn)).symm
 refine ⟨by kernel_rfl, fun j t ht => ?_⟩
 rw [Tryz.params12] at ht
 have hm : t ∈ [9] := by simpa using Array.mem_of_getElem? ht
 have hall : ([9].all fun u => !Tryz.prog.wantsStandIn u) = true := by kernel_rfl
 exact (show Tryz.prog.wantsStandIn t = false by simpa using List.all_eq_true.1 hall t hm)
end Go.Proofs.YtjehnhppfneidaaGreatDoor.law12
namespace Go.Proofs.YtjehnhppfneidaaGreatDoor
open Go
theorem rulesTexts_upto_card : Rows.RulesTextsUptoCardSaid :=
 Claim7.holds_tied_plain_at .later [] _ _ _ _ law12.saidUpto (fun _ h => by cases h) (by kernel_rfl) (fun _ h => by cases h) rulesTextsUpto_row_tie rfl ⟨rfl, rfl⟩ (by kernel_rfl) rfl law12.plain (by kernel_rfl)
#print axioms rulesTexts_upto_card
end Go.Proofs.YtjehnhppfneidaaGreatDoor
