/- RulesVars: for every tree and line, of bulk at most 1048576 together (parts and letters, what lies to spare in the slices too), called in whatever memory in which the listed variables of Go's library read as listed, the law answers true, and its arguments read as they did. Condition: the bound on the bulk. -/
import Derived.Test.YtjehnhppfneidaaGreatDoorRmZ16a
import Derived.Test.YtjehnhppfneidaaGreatDoorCards
import Derived.Test.YtjehnhppfneidaaGreatDoorTie
set_option linter.unusedVariables false
set_option linter.unusedSimpArgs false
set_option linter.unusedSectionVars false
set_option maxRecDepth 100000
namespace Go.Proofs.YP
open Go Go.RowKit Go.ChangeShapes Go.Proofs.YtjehnhppfneidaaGreatDoor
section
variable {H : Type} {enc : TypeId × Value → H}
theorem two_of {ts : List TypeId} {t1 t2 : TypeId} {W : World} {args : Array Value} {ds : List (DataW H)} {p : List MemPlace} (h : DataW.TrodAll enc Tryz.prog W 0 (fun _ => true) true [t1, t2] args.toList ds p) :
  ∃ v1 v2 d1 d2 p1 p2, args = #[v1, v2] ∧ ds = [d1, d2] ∧ DataW.Trod enc Tryz.prog W 0 (fun _ => true) true t1 v1 d1 p1 ∧ DataW.Trod enc Tryz.prog W 0 (fun _ => true) true t2 v2 d2 p2 := by
 obtain ⟨v0, vs0, d0, ds0, p0, q0, hargs, rfl, rfl, h0, r0⟩ := trodAll_cons h
 obtain ⟨v1, vs1, d1, ds1, p1, q1, rfl, rfl, rfl, h1, r1⟩ := trodAll_cons r0
 obtain ⟨rfl, rfl, rfl⟩ := trodAll_nil r1
 exact ⟨v0, v1, d0, d1, p0, p1, by cases args; simp_all, rfl, h0, h1⟩
theorem int_of {W : World} {base : Nat} {v : Value} {d : DataW H} {p : List MemPlace} (hv : Value.okWide Tryz.prog W .any base 3 v) (h : DataW.Trod enc Tryz.prog W 0 (fun _ => true) true 3 v d p) :
  ∃ n, v = .int .i64 n ∧ ok64 n ∧ Rows.uptoBulk d = 1 := by
 obtain ⟨n, rfl, rfl, rfl, w0⟩ := open_int Tryz.underlying3 hv h
 exact ⟨n, rfl, wf_i64 w0, by simp [Rows.uptoBulk]⟩
theorem small2 {d1 d2 : DataW H} (h : Rows.uptoSmall H ([d1, d2] ++ []) = true) : Rows.uptoBulk d1 ≤ 1048576 ∧ Rows.uptoBulk d2 ≤ 1048576 := by
 have := of_decide_eq_true h
 simp only [List.append_nil, Rows.uptoBulkAll] at this
 omega
theorem contract2 {f : Nat} {fn : Func} {s : ChangeSpec} (hp : fn.params = #[24, 3]) (hr : fn.resultTypes = #[4]) (hv : s.vars = []) (hs : ∀ d1 d2 : DataW H, s.fn H [d1, d2] = { results := [.lit (.bool true)], args := [d1, d2] })
    (key : ∀ L : Int, ok64 L → ∀ t : T, t.ok → t.wt ≤ 1048576 → Says f [.agg t.enc, .int .i64 L]) (W : World) (base : Nat) (args : Array Value) (ds gs : List (DataW H)) (before : List MemPlace)
    (hval : ∀ (j : Nat) t v, fn.params[j]? = some t → args[j]? = some v → Value.okWide Tryz.prog W .any base t v)
    (hW : DataW.Whole enc Tryz.prog fn.params.toList s.vars false W args.toList ds gs before) (hB : Rows.uptoSmall H (ds ++ gs) = true) (hL : laidMetH Tryz.prog laids W) :
    Calls Tryz.prog f args W fun e W' => ∃ v, e = .returned v ∧ s.post enc Tryz.prog fn false true false false W args v W' := by
  have hW' := hW
  obtain ⟨p, q, hA, hV, rfl, -, -⟩ := hW
  rw [hv] at hV
  obtain ⟨rfl, rfl⟩ := trodVars_none hV
  rw [hp] at hA hval
  obtain ⟨v0, v1, d0, d1, p0, p1, rfl, rfl, h0, h1⟩ := two_of (ts := []) hA
  obtain ⟨cs, rfl⟩ := agg_of (hval 0 24 v0 rfl rfl)
  obtain ⟨L, rfl, hLk, -⟩ := int_of (hval 1 3 v1 rfl rfl) h1
  obtain ⟨n, hn⟩ := h0
  obtain ⟨t, ht, hw, hrv⟩ := open_tree n _ _ hn (small2 hB).1
  simp only at hw
  have hb := (small2 hB).1
  obtain ⟨k, st', e⟩ := key L hLk t ht (by omega)
  have hc : Calls Tryz.prog f #[.agg cs, .int .i64 L] W fun e w' => e = .returned (.bool true) ∧ Kept W w' :=
    calls_of e (hgt_of hL) (by simp only [RVs, RV]; exact ⟨_, _, rfl, ⟨cs, rfl, hrv⟩, _, _, rfl, rfl, rfl⟩)
  refine hc.mono fun e W' ⟨he, hk⟩ => ⟨_, he, ?_⟩
  exact law_post hv hr (by rw [hp]; intro t ht; have h : t = 24 ∨ t = 3 := by simpa using ht
                           rcases h with rfl | rfl <;> exact of_decide_eq_true (by kernel_rfl)) hW' (by simpa using hs d0 d1) hk
end
end Go.Proofs.YP
set_option maxRecDepth 100000
namespace Go.Proofs.YtjehnhppfneidaaGreatDoor.law16
open Go Go.RowKit Go.ChangeShapes Go.Proofs.YP Go.Proofs.YtjehnhppfneidaaGreatDoor
theorem reads (os : Os) {H : Type} (enc : TypeId × Value → H) : ∃ places, DataW.whole enc Tryz.prog ((laidWorld os).forCall (fun _ _ => 0) ⟨#[], #[treeV, .int .i64 0], []⟩).memory Tryz.f16.params.toList Rows.rulesVarsSpec.vars false (#[treeV, .int .i64 0] : Array Value).toList 8 = some ([.agg [.lit (.int .i64 0), .lit (.string []), .lit (.int .i64 0), .nil, .lit (.int .i64 0)], .lit (.int .i64 0)], [], places) :=
 ⟨[], by kernel_rfl⟩
theorem lifted (os : Os) (started : os.Started) (H : Type) (enc : TypeId × Value → H) (F : Stop.Interp) :
  ReturnsInHanded {} Tryz.checked os 16 .any ((Rows.OpenSpec.upto Rows.rulesVarsSpec).preRow enc Tryz.prog Tryz.f16 Rows.rulesVarsUptoRow.domain false Rows.rulesVarsUptoRow.laid) (((Rows.OpenSpec.upto Rows.rulesVarsSpec).at F).post enc Tryz.prog Tryz.f16 false true false false) := by
 obtain ⟨places, hx⟩ := reads os enc
 refine returnsInHanded_of_row (C := Tryz.checked) (s := Rows.OpenSpec.upto Rows.rulesVarsSpec) own started (by kernel_rfl) Tryz.func16
  (witness_row_atRef (enc := enc) (C := Tryz.checked) false (laidWorld os) #[treeV, .int .i64 0] rfl (by kernel_rfl) (by kernel_rfl) (by kernel_rfl)
   (OpenSpec.preRow_of_cond 8 hx (by kernel_rfl) (fun k hk => by cases hk; kernel_rfl) (by kernel_rfl) (laid_met os _))) ?_
 intro W base args ds gs before hval hW _ hcond _ hL _ _
 exact contract2 Tryz.params16 (by kernel_rfl) rfl (fun _ _ => rfl) says16 W base args ds gs before hval hW (hcond _ rfl) hL
theorem in1 : Tryz.prog.inPlace 16 = Rows.rulesVarsUptoRow.inPlace := by kernel_rfl
theorem in2 : Tryz.prog.unfollowed 16 = true := by kernel_rfl
theorem in3 : Tryz.prog.recurses 16 = true := by kernel_rfl
theorem in4 : Tryz.prog.varsNamed 16 = Rows.rulesVarsUptoRow.named := by kernel_rfl
theorem in5 : Tryz.prog.funcNamed "gumshoe/gumshoelaw12.RulesVars" = some 16 := by kernel_rfl
theorem closed : joinedFacts Tryz.prog 16 Tryz.f16 Rows.rulesVarsSpec Rows.rulesVarsUptoRow = true := by
 unfold joinedFacts
 rw [in1, in2, in3, in4]
 kernel_rfl
theorem saidUpto : Rows.RulesVarsUptoSaid :=
 OpenClaim.holds_of_cond 16 Tryz.f16 rfl rfl rfl rfl rfl rfl rfl ⟨rfl, rfl, rfl, rfl, rfl⟩ rfl rfl rfl rfl rfl in5 Tryz.func16 closed
  (of_decide_eq_true (by kernel_rfl)) (by unfold Func.isWrapper; first | (rw [if_pos (by decide +kernel)]; kernel_rfl) | (rw [if_neg (by decide +kernel)]; exact ⟨rfl, rfl⟩))
  (fun os started H enc _ F => by rw [OpenClaim.pre_eq_preRow]; exact lifted os started H enc F)
theorem plain (f : FuncId) (fn : Func) (hf : Tryz.pinned.checked.prog.funcNamed "gumshoe/gumshoelaw12.RulesVars" = some f) (hfn : Tryz.pinned.checked.prog.funcs[f]? = some fn) :
  true = Tryz.pinned.checked.prog.looks [] ∧ ∀ (j : Nat) t, fn.params[j]? = some t → Tryz.pinned.checked.prog.wantsStandIn t = false := by
 obtain rfl : f = 16 := Option.some.inj (in5.symm.trans hf) |>.symm
 obtain rfl : fn = Tryz.f16 := (Option.some.inj (Tryz.func16.symm.trans hfn)).symm
 refine ⟨by kernel_rfl, fun j t ht => ?_⟩
 rw [Tryz.params16] at ht
 have hm : t ∈ [24, 3] := by simpa using Array.mem_of_getElem? ht
 have hall : ([24, 3].all fun u => !Tryz.prog.wantsStandIn u) = true := by kernel_rfl
 exact (show Tryz.prog.wantsStandIn t = false by simpa using List.all_eq_true.1 hall t hm)
end Go.Proofs.YtjehnhppfneidaaGreatDoor.law16
namespace Go.Proofs.YtjehnhppfneidaaGreatDoor
open Go
theorem rulesVars_upto_card : Rows.RulesVarsUptoCardSaid :=
 Claim7.holds_tied_plain_at .later [] _ _ _ _ law16.saidUpto (fun _ h => by cases h) (by kernel_rfl) (fun _ h => by cases h) rulesVarsUpto_row_tie rfl ⟨rfl, rfl⟩ (by kernel_rfl) rfl law16.plain (by kernel_rfl)
#print axioms rulesVars_upto_card
end Go.Proofs.YtjehnhppfneidaaGreatDoor
