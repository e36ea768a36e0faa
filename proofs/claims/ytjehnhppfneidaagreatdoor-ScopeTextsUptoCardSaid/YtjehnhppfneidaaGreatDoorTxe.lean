/- Texts that the laws of the seat rest on: an abstract machine, what the functions answer in it, plain laws. -/
import Derived.Test.YtjehnhppfneidaaGreatDoorTxd
import Derived.Test.YtjehnhppfneidaaGreatDoorProg
import Derived.KernelRfl
set_option linter.unusedVariables false
set_option linter.unusedSimpArgs false
set_option linter.unusedSectionVars false
namespace Go.Proofs.YP
open Go
theorem ck4 : ckFn Tryz.prog tabs Tryz.f4 a4 = true := by kernel_rfl
theorem ck18 : ckFn Tryz.prog tabs Tryz.f18 a18 = true := by kernel_rfl
theorem ck20 : ckFn Tryz.prog tabs Tryz.f20 a20 = true := by kernel_rfl
theorem ck21 : ckFn Tryz.prog tabs Tryz.f21 a21 = true := by kernel_rfl
theorem ck22 : ckFn Tryz.prog tabs Tryz.f22 a22 = true := by kernel_rfl
theorem ck23 : ckFn Tryz.prog tabs Tryz.f23 a23 = true := by kernel_rfl
theorem ck24 : ckFn Tryz.prog tabs Tryz.f24 a24 = true := by kernel_rfl
theorem ck27 : ckFn Tryz.prog tabs Tryz.f27 a27 = true := by kernel_rfl
theorem ck41 : ckFn Tryz.prog tabs Tryz.f41 a41 = true := by kernel_rfl
theorem ck44 : ckFn Tryz.prog tabs Tryz.f44 a44 = true := by kernel_rfl
theorem ck45 : ckFn Tryz.prog tabs Tryz.f45 a45 = true := by kernel_rfl
theorem ck46 : ckFn Tryz.prog tabs Tryz.f46 a46 = true := by kernel_rfl
theorem ck47 : ckFn Tryz.prog tabs Tryz.f47 a47 = true := by kernel_rfl
theorem ck48 : ckFn Tryz.prog tabs Tryz.f48 a48 = true := by kernel_rfl
theorem ck57 : ckFn Tryz.prog tabs Tryz.f57 a57 = true := by kernel_rfl
theorem ck58 : ckFn Tryz.prog tabs Tryz.f58 a58 = true := by kernel_rfl
theorem ck60 : ckFn Tryz.prog tabs Tryz.f60 a60 = true := by kernel_rfl
theorem ck61 : ckFn Tryz.prog tabs Tryz.f61 a61 = true := by kernel_rfl
theorem ck62 : ckFn Tryz.prog tabs Tryz.f62 a62 = true := by kernel_rfl
theorem ck63 : ckFn Tryz.prog tabs Tryz.f63 a63 = true := by kernel_rfl
theorem ck68 : ckFn Tryz.prog tabs Tryz.f68 a68 = true := by kernel_rfl
theorem ck69 : ckFn Tryz.prog tabs Tryz.f69 a69 = true := by kernel_rfl
theorem ck70 : ckFn Tryz.prog tabs Tryz.f70 a70 = true := by kernel_rfl
theorem ck71 : ckFn Tryz.prog tabs Tryz.f71 a71 = true := by kernel_rfl
theorem ck72 : ckFn Tryz.prog tabs Tryz.f72 a72 = true := by kernel_rfl
theorem ck73 : ckFn Tryz.prog tabs Tryz.f73 a73 = true := by kernel_rfl
theorem ck74 : ckFn Tryz.prog tabs Tryz.f74 a74 = true := by kernel_rfl
theorem ck75 : ckFn Tryz.prog tabs Tryz.f75 a75 = true := by kernel_rfl
theorem ck76 : ckFn Tryz.prog tabs Tryz.f76 a76 = true := by kernel_rfl
theorem ck87 : ckFn Tryz.prog tabs Tryz.f87 a87 = true := by kernel_rfl
theorem ck88 : ckFn Tryz.prog tabs Tryz.f88 a88 = true := by kernel_rfl
theorem ck89 : ckFn Tryz.prog tabs Tryz.f89 a89 = true := by kernel_rfl
theorem ck90 : ckFn Tryz.prog tabs Tryz.f90 a90 = true := by kernel_rfl
theorem ck91 : ckFn Tryz.prog tabs Tryz.f91 a91 = true := by kernel_rfl
theorem ck92 : ckFn Tryz.prog tabs Tryz.f92 a92 = true := by kernel_rfl
theorem ck93 : ckFn Tryz.prog tabs Tryz.f93 a93 = true := by kernel_rfl
theorem ck94 : ckFn Tryz.prog tabs Tryz.f94 a94 = true := by kernel_rfl
theorem ck95 : ckFn Tryz.prog tabs Tryz.f95 a95 = true := by kernel_rfl
theorem ck96 : ckFn Tryz.prog tabs Tryz.f96 a96 = true := by kernel_rfl
theorem ck97 : ckFn Tryz.prog tabs Tryz.f97 a97 = true := by kernel_rfl
theorem ck98 : ckFn Tryz.prog tabs Tryz.f98 a98 = true := by kernel_rfl
theorem ck99 : ckFn Tryz.prog tabs Tryz.f99 a99 = true := by kernel_rfl
theorem ck103 : ckFn Tryz.prog tabs Tryz.f103 a103 = true := by kernel_rfl
theorem ck104 : ckFn Tryz.prog tabs Tryz.f104 a104 = true := by kernel_rfl
theorem ck105 : ckFn Tryz.prog tabs Tryz.f105 a105 = true := by kernel_rfl
theorem ck106 : ckFn Tryz.prog tabs Tryz.f106 a106 = true := by kernel_rfl
theorem ck107 : ckFn Tryz.prog tabs Tryz.f107 a107 = true := by kernel_rfl
theorem ck108 : ckFn Tryz.prog tabs Tryz.f108 a108 = true := by kernel_rfl
theorem ck109 : ckFn Tryz.prog tabs Tryz.f109 a109 = true := by kernel_rfl
theorem ck110 : ckFn Tryz.prog tabs Tryz.f110 a110 = true := by kernel_rfl
theorem ck111 : ckFn Tryz.prog tabs Tryz.f111 a111 = true := by kernel_rfl
theorem ck112 : ckFn Tryz.prog tabs Tryz.f112 a112 = true := by kernel_rfl
theorem ck113 : ckFn Tryz.prog tabs Tryz.f113 a113 = true := by kernel_rfl
theorem ck114 : ckFn Tryz.prog tabs Tryz.f114 a114 = true := by kernel_rfl
theorem ck116 : ckFn Tryz.prog tabs Tryz.f116 a116 = true := by kernel_rfl
theorem ck131 : ckFn Tryz.prog tabs Tryz.f131 a131 = true := by kernel_rfl
theorem ck132 : ckFn Tryz.prog tabs Tryz.f132 a132 = true := by kernel_rfl
theorem ck133 : ckFn Tryz.prog tabs Tryz.f133 a133 = true := by kernel_rfl
theorem ck134 : ckFn Tryz.prog tabs Tryz.f134 a134 = true := by kernel_rfl
theorem ck135 : ckFn Tryz.prog tabs Tryz.f135 a135 = true := by kernel_rfl
theorem ck136 : ckFn Tryz.prog tabs Tryz.f136 a136 = true := by kernel_rfl
theorem ck137 : ckFn Tryz.prog tabs Tryz.f137 a137 = true := by kernel_rfl
theorem ck138 : ckFn Tryz.prog tabs Tryz.f138 a138 = true := by kernel_rfl
theorem ck139 : ckFn Tryz.prog tabs Tryz.f139 a139 = true := by kernel_rfl
theorem ck140 : ckFn Tryz.prog tabs Tryz.f140 a140 = true := by kernel_rfl
theorem ck141 : ckFn Tryz.prog tabs Tryz.f141 a141 = true := by kernel_rfl
theorem ck142 : ckFn Tryz.prog tabs Tryz.f142 a142 = true := by kernel_rfl
theorem ck143 : ckFn Tryz.prog tabs Tryz.f143 a143 = true := by kernel_rfl
theorem ck144 : ckFn Tryz.prog tabs Tryz.f144 a144 = true := by kernel_rfl
theorem ck145 : ckFn Tryz.prog tabs Tryz.f145 a145 = true := by kernel_rfl
theorem ck146 : ckFn Tryz.prog tabs Tryz.f146 a146 = true := by kernel_rfl
theorem ck147 : ckFn Tryz.prog tabs Tryz.f147 a147 = true := by kernel_rfl
theorem ck148 : ckFn Tryz.prog tabs Tryz.f148 a148 = true := by kernel_rfl
theorem ck149 : ckFn Tryz.prog tabs Tryz.f149 a149 = true := by kernel_rfl
theorem ck150 : ckFn Tryz.prog tabs Tryz.f150 a150 = true := by kernel_rfl
theorem ck151 : ckFn Tryz.prog tabs Tryz.f151 a151 = true := by kernel_rfl
theorem ck152 : ckFn Tryz.prog tabs Tryz.f152 a152 = true := by kernel_rfl
theorem ck153 : ckFn Tryz.prog tabs Tryz.f153 a153 = true := by kernel_rfl
theorem ck154 : ckFn Tryz.prog tabs Tryz.f154 a154 = true := by kernel_rfl
theorem ck155 : ckFn Tryz.prog tabs Tryz.f155 a155 = true := by kernel_rfl
theorem ck156 : ckFn Tryz.prog tabs Tryz.f156 a156 = true := by kernel_rfl
theorem ck159 : ckFn Tryz.prog tabs Tryz.f159 a159 = true := by kernel_rfl
theorem ck160 : ckFn Tryz.prog tabs Tryz.f160 a160 = true := by kernel_rfl
theorem ck163 : ckFn Tryz.prog tabs Tryz.f163 a163 = true := by kernel_rfl
theorem ck164 : ckFn Tryz.prog tabs Tryz.f164 a164 = true := by kernel_rfl
theorem ck165 : ckFn Tryz.prog tabs Tryz.f165 a165 = true := by kernel_rfl
theorem ck166 : ckFn Tryz.prog tabs Tryz.f166 a166 = true := by kernel_rfl
theorem ck167 : ckFn Tryz.prog tabs Tryz.f167 a167 = true := by kernel_rfl
theorem ck168 : ckFn Tryz.prog tabs Tryz.f168 a168 = true := by kernel_rfl
theorem ck169 : ckFn Tryz.prog tabs Tryz.f169 a169 = true := by kernel_rfl
theorem ck170 : ckFn Tryz.prog tabs Tryz.f170 a170 = true := by kernel_rfl
theorem ck171 : ckFn Tryz.prog tabs Tryz.f171 a171 = true := by kernel_rfl
theorem ck172 : ckFn Tryz.prog tabs Tryz.f172 a172 = true := by kernel_rfl
theorem ck173 : ckFn Tryz.prog tabs Tryz.f173 a173 = true := by kernel_rfl
theorem ck175 : ckFn Tryz.prog tabs Tryz.f175 a175 = true := by kernel_rfl
theorem ck176 : ckFn Tryz.prog tabs Tryz.f176 a176 = true := by kernel_rfl
theorem ck177 : ckFn Tryz.prog tabs Tryz.f177 a177 = true := by kernel_rfl
theorem ck178 : ckFn Tryz.prog tabs Tryz.f178 a178 = true := by kernel_rfl
theorem ck181 : ckFn Tryz.prog tabs Tryz.f181 a181 = true := by kernel_rfl
theorem ck182 : ckFn Tryz.prog tabs Tryz.f182 a182 = true := by kernel_rfl
theorem ck184 : ckFn Tryz.prog tabs Tryz.f184 a184 = true := by kernel_rfl
theorem ck185 : ckFn Tryz.prog tabs Tryz.f185 a185 = true := by kernel_rfl
theorem ck186 : ckFn Tryz.prog tabs Tryz.f186 a186 = true := by kernel_rfl
theorem ck187 : ckFn Tryz.prog tabs Tryz.f187 a187 = true := by kernel_rfl
theorem ck188 : ckFn Tryz.prog tabs Tryz.f188 a188 = true := by kernel_rfl
theorem ck189 : ckFn Tryz.prog tabs Tryz.f189 a189 = true := by kernel_rfl
theorem ck190 : ckFn Tryz.prog tabs Tryz.f190 a190 = true := by kernel_rfl
def OKf (p : Nat × AFn) : Prop := ∃ F, Tryz.prog.funcs[p.1]? = some F ∧ ckFn Tryz.prog tabs F p.2 = true ∧ (F.name != "runtime.NumGoroutine") = true
def AllOK : List (Nat × AFn) → Prop
 | [] => True
 | p :: l => OKf p ∧ AllOK l
theorem AllOK.mem : ∀ {l : List (Nat × AFn)}, AllOK l → ∀ p ∈ l, OKf p
 | [], _, p, h => by cases h
 | q :: l, ⟨h1, h2⟩, p, h => by
  rcases List.mem_cons.1 h with rfl | h
  ·exact h1
  ·exact AllOK.mem h2 p h
theorem tabOK : AllOK fnTab :=
 ⟨⟨_, Tryz.func4, ck4, by kernel_rfl⟩, ⟨⟨_, Tryz.func18, ck18, by kernel_rfl⟩, ⟨⟨_, Tryz.func20, ck20, by kernel_rfl⟩, ⟨⟨_, Tryz.func21, ck21, by kernel_rfl⟩, ⟨⟨_, Tryz.func22, ck22, by kernel_rfl⟩, ⟨⟨_, Tryz.func23, ck23, by kernel_rfl⟩, ⟨⟨_, Tryz.func24, ck24, by kernel_rfl⟩, ⟨⟨_, Tryz.func27, ck27, by kernel_rfl⟩, ⟨⟨_, Tryz.func41, ck41, by kernel_rfl⟩, ⟨⟨_, Tryz.func44, ck44, by kernel_rfl⟩, ⟨⟨_, Tryz.func45, ck45, by kernel_rfl⟩, ⟨⟨_, Tryz.func46, ck46, by kernel_rfl⟩, ⟨⟨_, Tryz.func47, ck47, by kernel_rfl⟩, ⟨⟨_, Tryz.func48, ck48, by kernel_rfl⟩, ⟨⟨_, Tryz.func57, ck57, by kernel_rfl⟩, ⟨⟨_, Tryz.func58, ck58, by kernel_rfl⟩, ⟨⟨_, Tryz.func60, ck60, by kernel_rfl⟩, ⟨⟨_, Tryz.func61, ck61, by kernel_rfl⟩, ⟨⟨_, Tryz.func62, ck62, by kernel_rfl⟩, ⟨⟨_, Tryz.func63, ck63, by kernel_rfl⟩, ⟨⟨_, Tryz.func68, ck68, by kernel_rfl⟩, ⟨⟨_, Tryz.func69, ck69, by kernel_rfl⟩, ⟨⟨_, Tryz.func70, ck70, by kernel_rfl⟩, ⟨⟨_, Tryz.func71, ck71, by kernel_rfl⟩, ⟨⟨_, Tryz.func72, ck72, by kernel_rfl⟩, ⟨⟨_, Tryz.func73, ck73, by kernel_rfl⟩, ⟨⟨_, Tryz.func74, ck74, by kernel_rfl⟩, ⟨⟨_, Tryz.func75, ck75, by kernel_rfl⟩, ⟨⟨_, Tryz.func76, ck76, by kernel_rfl⟩, ⟨⟨_, Tryz.func87, ck87, by kernel_rfl⟩, ⟨⟨_, Tryz.func88, ck88, by kernel_rfl⟩, ⟨⟨_, Tryz.func89, ck89, by kernel_rfl⟩, ⟨⟨_, Tryz.func90, ck90, by kernel_rfl⟩, ⟨⟨_, Tryz.func91, ck91, by kernel_rfl⟩, ⟨⟨_, Tryz.func92, ck92, by kernel_rfl⟩, ⟨⟨_, Tryz.func93, ck93, by kernel_rfl⟩, ⟨⟨_, Tryz.func94, ck94, by kernel_rfl⟩, ⟨⟨_, Tryz.func95, ck95, by kernel_rfl⟩, ⟨⟨_, Tryz.func96, ck96, by kernel_rfl⟩, ⟨⟨_, Tryz.func97, ck97, by kernel_rfl⟩, ⟨⟨_, Tryz.func98, ck98, by kernel_rfl⟩, ⟨⟨_, Tryz.func99, ck99, by kernel_rfl⟩, ⟨⟨_, Tryz.func103, ck103, by kernel_rfl⟩, ⟨⟨_, Tryz.func104, ck104, by kernel_rfl⟩, ⟨⟨_, Tryz.func105, ck105, by kernel_rfl⟩, ⟨⟨_, Tryz.func106, ck106, by kernel_rfl⟩, ⟨⟨_, Tryz.func107, ck107, by kernel_rfl⟩, ⟨⟨_, Tryz.func108, ck108, by kernel_rfl⟩, ⟨⟨_, Tryz.func109, ck109, by kernel_rfl⟩, ⟨⟨_, Tryz.func110, ck110, by kernel_rfl⟩, ⟨⟨_, Tryz.func111, ck111, by kernel_rfl⟩, ⟨⟨_, Tryz.func112, ck112, by kernel_rfl⟩, ⟨⟨_, Tryz.func113, ck113, by kernel_rfl⟩, ⟨⟨_, Tryz.func114, ck114, by kernel_rfl⟩, ⟨⟨_, Tryz.func116, ck116, by kernel_rfl⟩, ⟨⟨_, Tryz.func131, ck131, by kernel_rfl⟩, ⟨⟨_, Tryz.func132, ck132, by kernel_rfl⟩, ⟨⟨_, Tryz.func133, ck133, by kernel_rfl⟩, ⟨⟨_, Tryz.func134, ck134, by kernel_rfl⟩, ⟨⟨_, Tryz.func135, ck135, by kernel_rfl⟩, ⟨⟨_, Tryz.func136, ck136, by kernel_rfl⟩, ⟨⟨_, Tryz.func137, ck137, by kernel_rfl⟩, ⟨⟨_, Tryz.func138, ck138, by kernel_rfl⟩, ⟨⟨_, Tryz.func139, ck139, by kernel_rfl⟩, ⟨⟨_, Tryz.func140, ck140, by kernel_rfl⟩, ⟨⟨_, Tryz.func141, ck141, by kernel_rfl⟩, ⟨⟨_, Tryz.func142, ck142, by kernel_rfl⟩, ⟨⟨_, Tryz.func143, ck143, by kernel_rfl⟩, ⟨⟨_, Tryz.func145, ck145, by kernel_rfl⟩, ⟨⟨_, Tryz.func146, ck146, by kernel_rfl⟩, ⟨⟨_, Tryz.func147, ck147, by kernel_rfl⟩, ⟨⟨_, Tryz.func148, ck148, by kernel_rfl⟩, ⟨⟨_, Tryz.func149, ck149, by kernel_rfl⟩, ⟨⟨_, Tryz.func150, ck150, by kernel_rfl⟩, ⟨⟨_, Tryz.func151, ck151, by kernel_rfl⟩, ⟨⟨_, Tryz.func152, ck152, by kernel_rfl⟩, ⟨⟨_, Tryz.func153, ck153, by kernel_rfl⟩, ⟨⟨_, Tryz.func154, ck154, by kernel_rfl⟩, ⟨⟨_, Tryz.func155, ck155, by kernel_rfl⟩, ⟨⟨_, Tryz.func156, ck156, by kernel_rfl⟩, ⟨⟨_, Tryz.func159, ck159, by kernel_rfl⟩, ⟨⟨_, Tryz.func160, ck160, by kernel_rfl⟩, ⟨⟨_, Tryz.func163, ck163, by kernel_rfl⟩, ⟨⟨_, Tryz.func164, ck164, by kernel_rfl⟩, ⟨⟨_, Tryz.func165, ck165, by kernel_rfl⟩, ⟨⟨_, Tryz.func166, ck166, by kernel_rfl⟩, ⟨⟨_, Tryz.func167, ck167, by kernel_rfl⟩, ⟨⟨_, Tryz.func168, ck168, by kernel_rfl⟩, ⟨⟨_, Tryz.func169, ck169, by kernel_rfl⟩, ⟨⟨_, Tryz.func170, ck170, by kernel_rfl⟩, ⟨⟨_, Tryz.func171, ck171, by kernel_rfl⟩, ⟨⟨_, Tryz.func172, ck172, by kernel_rfl⟩, ⟨⟨_, Tryz.func173, ck173, by kernel_rfl⟩, ⟨⟨_, Tryz.func175, ck175, by kernel_rfl⟩, ⟨⟨_, Tryz.func176, ck176, by kernel_rfl⟩, ⟨⟨_, Tryz.func177, ck177, by kernel_rfl⟩, ⟨⟨_, Tryz.func178, ck178, by kernel_rfl⟩, ⟨⟨_, Tryz.func181, ck181, by kernel_rfl⟩, ⟨⟨_, Tryz.func182, ck182, by kernel_rfl⟩, ⟨⟨_, Tryz.func184, ck184, by kernel_rfl⟩, ⟨⟨_, Tryz.func185, ck185, by kernel_rfl⟩, ⟨⟨_, Tryz.func186, ck186, by kernel_rfl⟩, ⟨⟨_, Tryz.func187, ck187, by kernel_rfl⟩, ⟨⟨_, Tryz.func188, ck188, by kernel_rfl⟩, ⟨⟨_, Tryz.func189, ck189, by kernel_rfl⟩, ⟨⟨_, Tryz.func190, ck190, by kernel_rfl⟩, trivial⟩⟩⟩⟩⟩⟩⟩⟩⟩⟩⟩⟩⟩⟩⟩⟩⟩⟩⟩⟩⟩⟩⟩⟩⟩⟩⟩⟩⟩⟩⟩⟩⟩⟩⟩⟩⟩⟩⟩⟩⟩⟩⟩⟩⟩⟩⟩⟩⟩⟩⟩⟩⟩⟩⟩⟩⟩⟩⟩⟩⟩⟩⟩⟩⟩⟩⟩⟩⟩⟩⟩⟩⟩⟩⟩⟩⟩⟩⟩⟩⟩⟩⟩⟩⟩⟩⟩⟩⟩⟩⟩⟩⟩⟩⟩⟩⟩⟩⟩⟩⟩⟩⟩⟩⟩⟩
theorem mixed : Tryz.prog.follows .mixedOrders = true := by kernel_rfl
theorem fnOK (f : Nat) (fn : AFn) (h : fnOf f = some fn) : ∃ F, Tryz.prog.funcs[f]? = some F ∧ ckFn Tryz.prog tabs F fn = true ∧ F.name ≠ "runtime.NumGoroutine" := by
 unfold fnOf at h
 cases hf : fnTab.find? (fun p => p.1 == f) with
 | none => simp [hf] at h
 | some p =>
  simp only [hf, Option.map_some, Option.some.injEq] at h
  have h1 := List.mem_of_find?_eq_some hf
  have h2 := List.find?_some hf
  simp only [beq_iff_eq] at h2
  obtain ⟨F, a, b, c⟩ := tabOK.mem p h1
  subst h2; subst h
  exact ⟨F, a, b, by simpa using c⟩
end Go.Proofs.YP
