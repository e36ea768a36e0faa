/- Texts that the laws of the seat rest on: an abstract machine, what the functions answer in it, plain laws. -/
import Derived.Test.YtjehnhppfneidaaGreatDoorRnc
import Derived.Test.YtjehnhppfneidaaGreatDoorProg
import Derived.KernelRfl
set_option linter.unusedVariables false
set_option linter.unusedSimpArgs false
set_option linter.unusedSectionVars false
namespace Go.Proofs.YP
open Go
theorem ck13 : ckFn Tryz.prog tabs Tryz.f13 a13 = true := by kernel_rfl
theorem ck19 : ckFn Tryz.prog tabs Tryz.f19 a19 = true := by kernel_rfl
theorem ck20 : ckFn Tryz.prog tabs Tryz.f20 a20 = true := by kernel_rfl
theorem ck24 : ckFn Tryz.prog tabs Tryz.f24 a24 = true := by kernel_rfl
theorem ck27 : ckFn Tryz.prog tabs Tryz.f27 a27 = true := by kernel_rfl
theorem ck32 : ckFn Tryz.prog tabs Tryz.f32 a32 = true := by kernel_rfl
theorem ck33 : ckFn Tryz.prog tabs Tryz.f33 a33 = true := by kernel_rfl
theorem ck35 : ckFn Tryz.prog tabs Tryz.f35 a35 = true := by kernel_rfl
theorem ck36 : ckFn Tryz.prog tabs Tryz.f36 a36 = true := by kernel_rfl
theorem ck40 : ckFn Tryz.prog tabs Tryz.f40 a40 = true := by kernel_rfl
theorem ck41 : ckFn Tryz.prog tabs Tryz.f41 a41 = true := by kernel_rfl
theorem ck46 : ckFn Tryz.prog tabs Tryz.f46 a46 = true := by kernel_rfl
theorem ck47 : ckFn Tryz.prog tabs Tryz.f47 a47 = true := by kernel_rfl
theorem ck48 : ckFn Tryz.prog tabs Tryz.f48 a48 = true := by kernel_rfl
theorem ck49 : ckFn Tryz.prog tabs Tryz.f49 a49 = true := by kernel_rfl
theorem ck50 : ckFn Tryz.prog tabs Tryz.f50 a50 = true := by kernel_rfl
theorem ck51 : ckFn Tryz.prog tabs Tryz.f51 a51 = true := by kernel_rfl
theorem ck52 : ckFn Tryz.prog tabs Tryz.f52 a52 = true := by kernel_rfl
theorem ck56 : ckFn Tryz.prog tabs Tryz.f56 a56 = true := by kernel_rfl
theorem ck57 : ckFn Tryz.prog tabs Tryz.f57 a57 = true := by kernel_rfl
theorem ck58 : ckFn Tryz.prog tabs Tryz.f58 a58 = true := by kernel_rfl
theorem ck60 : ckFn Tryz.prog tabs Tryz.f60 a60 = true := by kernel_rfl
theorem ck61 : ckFn Tryz.prog tabs Tryz.f61 a61 = true := by kernel_rfl
theorem ck62 : ckFn Tryz.prog tabs Tryz.f62 a62 = true := by kernel_rfl
theorem ck63 : ckFn Tryz.prog tabs Tryz.f63 a63 = true := by kernel_rfl
theorem ck73 : ckFn Tryz.prog tabs Tryz.f73 a73 = true := by kernel_rfl
theorem ck74 : ckFn Tryz.prog tabs Tryz.f74 a74 = true := by kernel_rfl
theorem ck75 : ckFn Tryz.prog tabs Tryz.f75 a75 = true := by kernel_rfl
theorem ck76 : ckFn Tryz.prog tabs Tryz.f76 a76 = true := by kernel_rfl
theorem ck77 : ckFn Tryz.prog tabs Tryz.f77 a77 = true := by kernel_rfl
theorem ck78 : ckFn Tryz.prog tabs Tryz.f78 a78 = true := by kernel_rfl
theorem ck79 : ckFn Tryz.prog tabs Tryz.f79 a79 = true := by kernel_rfl
theorem ck80 : ckFn Tryz.prog tabs Tryz.f80 a80 = true := by kernel_rfl
theorem ck81 : ckFn Tryz.prog tabs Tryz.f81 a81 = true := by kernel_rfl
theorem ck82 : ckFn Tryz.prog tabs Tryz.f82 a82 = true := by kernel_rfl
theorem ck87 : ckFn Tryz.prog tabs Tryz.f87 a87 = true := by kernel_rfl
theorem ck88 : ckFn Tryz.prog tabs Tryz.f88 a88 = true := by kernel_rfl
theorem ck89 : ckFn Tryz.prog tabs Tryz.f89 a89 = true := by kernel_rfl
theorem ck90 : ckFn Tryz.prog tabs Tryz.f90 a90 = true := by kernel_rfl
theorem ck91 : ckFn Tryz.prog tabs Tryz.f91 a91 = true := by kernel_rfl
theorem ck92 : ckFn Tryz.prog tabs Tryz.f92 a92 = true := by kernel_rfl
theorem ck93 : ckFn Tryz.prog tabs Tryz.f93 a93 = true := by kernel_rfl
theorem ck94 : ckFn Tryz.prog tabs Tryz.f94 a94 = true := by kernel_rfl
theorem ck95 : ckFn Tryz.prog tabs Tryz.f95 a95 = true := by kernel_rfl
theorem ck96 : ckFn Tryz.prog tabs Tryz.f96 a96 = true := by kernel_rfl
theorem ck97 : ckFn Tryz.prog tabs Tryz.f97 a97 = true := by kernel_rfl
theorem ck98 : ckFn Tryz.prog tabs Tryz.f98 a98 = true := by kernel_rfl
theorem ck99 : ckFn Tryz.prog tabs Tryz.f99 a99 = true := by kernel_rfl
theorem ck103 : ckFn Tryz.prog tabs Tryz.f103 a103 = true := by kernel_rfl
theorem ck104 : ckFn Tryz.prog tabs Tryz.f104 a104 = true := by kernel_rfl
theorem ck105 : ckFn Tryz.prog tabs Tryz.f105 a105 = true := by kernel_rfl
theorem ck106 : ckFn Tryz.prog tabs Tryz.f106 a106 = true := by kernel_rfl
theorem ck107 : ckFn Tryz.prog tabs Tryz.f107 a107 = true := by kernel_rfl
theorem ck108 : ckFn Tryz.prog tabs Tryz.f108 a108 = true := by kernel_rfl
theorem ck109 : ckFn Tryz.prog tabs Tryz.f109 a109 = true := by kernel_rfl
theorem ck110 : ckFn Tryz.prog tabs Tryz.f110 a110 = true := by kernel_rfl
theorem ck111 : ckFn Tryz.prog tabs Tryz.f111 a111 = true := by kernel_rfl
theorem ck112 : ckFn Tryz.prog tabs Tryz.f112 a112 = true := by kernel_rfl
theorem ck113 : ckFn Tryz.prog tabs Tryz.f113 a113 = true := by kernel_rfl
theorem ck114 : ckFn Tryz.prog tabs Tryz.f114 a114 = true := by kernel_rfl
theorem ck115 : ckFn Tryz.prog tabs Tryz.f115 a115 = true := by kernel_rfl
theorem ck116 : ckFn Tryz.prog tabs Tryz.f116 a116 = true := by kernel_rfl
theorem ck117 : ckFn Tryz.prog tabs Tryz.f117 a117 = true := by kernel_rfl
theorem ck118 : ckFn Tryz.prog tabs Tryz.f118 a118 = true := by kernel_rfl
theorem ck119 : ckFn Tryz.prog tabs Tryz.f119 a119 = true := by kernel_rfl
theorem ck120 : ckFn Tryz.prog tabs Tryz.f120 a120 = true := by kernel_rfl
theorem ck121 : ckFn Tryz.prog tabs Tryz.f121 a121 = true := by kernel_rfl
theorem ck122 : ckFn Tryz.prog tabs Tryz.f122 a122 = true := by kernel_rfl
theorem ck123 : ckFn Tryz.prog tabs Tryz.f123 a123 = true := by kernel_rfl
theorem ck124 : ckFn Tryz.prog tabs Tryz.f124 a124 = true := by kernel_rfl
theorem ck125 : ckFn Tryz.prog tabs Tryz.f125 a125 = true := by kernel_rfl
theorem ck126 : ckFn Tryz.prog tabs Tryz.f126 a126 = true := by kernel_rfl
theorem ck127 : ckFn Tryz.prog tabs Tryz.f127 a127 = true := by kernel_rfl
theorem ck131 : ckFn Tryz.prog tabs Tryz.f131 a131 = true := by kernel_rfl
theorem ck132 : ckFn Tryz.prog tabs Tryz.f132 a132 = true := by kernel_rfl
theorem ck133 : ckFn Tryz.prog tabs Tryz.f133 a133 = true := by kernel_rfl
theorem ck134 : ckFn Tryz.prog tabs Tryz.f134 a134 = true := by kernel_rfl
theorem ck135 : ckFn Tryz.prog tabs Tryz.f135 a135 = true := by kernel_rfl
theorem ck136 : ckFn Tryz.prog tabs Tryz.f136 a136 = true := by kernel_rfl
theorem ck137 : ckFn Tryz.prog tabs Tryz.f137 a137 = true := by kernel_rfl
theorem ck138 : ckFn Tryz.prog tabs Tryz.f138 a138 = true := by kernel_rfl
theorem ck139 : ckFn Tryz.prog tabs Tryz.f139 a139 = true := by kernel_rfl
theorem ck140 : ckFn Tryz.prog tabs Tryz.f140 a140 = true := by kernel_rfl
theorem ck141 : ckFn Tryz.prog tabs Tryz.f141 a141 = true := by kernel_rfl
theorem ck142 : ckFn Tryz.prog tabs Tryz.f142 a142 = true := by kernel_rfl
theorem ck143 : ckFn Tryz.prog tabs Tryz.f143 a143 = true := by kernel_rfl
theorem ck144 : ckFn Tryz.prog tabs Tryz.f144 a144 = true := by kernel_rfl
theorem ck145 : ckFn Tryz.prog tabs Tryz.f145 a145 = true := by kernel_rfl
theorem ck146 : ckFn Tryz.prog tabs Tryz.f146 a146 = true := by kernel_rfl
theorem ck147 : ckFn Tryz.prog tabs Tryz.f147 a147 = true := by kernel_rfl
theorem ck148 : ckFn Tryz.prog tabs Tryz.f148 a148 = true := by kernel_rfl
theorem ck149 : ckFn Tryz.prog tabs Tryz.f149 a149 = true := by kernel_rfl
theorem ck150 : ckFn Tryz.prog tabs Tryz.f150 a150 = true := by kernel_rfl
theorem ck151 : ckFn Tryz.prog tabs Tryz.f151 a151 = true := by kernel_rfl
theorem ck152 : ckFn Tryz.prog tabs Tryz.f152 a152 = true := by kernel_rfl
theorem ck153 : ckFn Tryz.prog tabs Tryz.f153 a153 = true := by kernel_rfl
theorem ck154 : ckFn Tryz.prog tabs Tryz.f154 a154 = true := by kernel_rfl
theorem ck155 : ckFn Tryz.prog tabs Tryz.f155 a155 = true := by kernel_rfl
theorem ck156 : ckFn Tryz.prog tabs Tryz.f156 a156 = true := by kernel_rfl
theorem ck157 : ckFn Tryz.prog tabs Tryz.f157 a157 = true := by kernel_rfl
theorem ck158 : ckFn Tryz.prog tabs Tryz.f158 a158 = true := by kernel_rfl
theorem ck159 : ckFn Tryz.prog tabs Tryz.f159 a159 = true := by kernel_rfl
theorem ck160 : ckFn Tryz.prog tabs Tryz.f160 a160 = true := by kernel_rfl
theorem ck163 : ckFn Tryz.prog tabs Tryz.f163 a163 = true := by kernel_rfl
theorem ck164 : ckFn Tryz.prog tabs Tryz.f164 a164 = true := by kernel_rfl
theorem ck165 : ckFn Tryz.prog tabs Tryz.f165 a165 = true := by kernel_rfl
theorem ck167 : ckFn Tryz.prog tabs Tryz.f167 a167 = true := by kernel_rfl
theorem ck168 : ckFn Tryz.prog tabs Tryz.f168 a168 = true := by kernel_rfl
theorem ck169 : ckFn Tryz.prog tabs Tryz.f169 a169 = true := by kernel_rfl
theorem ck170 : ckFn Tryz.prog tabs Tryz.f170 a170 = true := by kernel_rfl
theorem ck171 : ckFn Tryz.prog tabs Tryz.f171 a171 = true := by kernel_rfl
theorem ck172 : ckFn Tryz.prog tabs Tryz.f172 a172 = true := by kernel_rfl
theorem ck173 : ckFn Tryz.prog tabs Tryz.f173 a173 = true := by kernel_rfl
theorem ck175 : ckFn Tryz.prog tabs Tryz.f175 a175 = true := by kernel_rfl
theorem ck176 : ckFn Tryz.prog tabs Tryz.f176 a176 = true := by kernel_rfl
theorem ck177 : ckFn Tryz.prog tabs Tryz.f177 a177 = true := by kernel_rfl
theorem ck178 : ckFn Tryz.prog tabs Tryz.f178 a178 = true := by kernel_rfl
theorem ck181 : ckFn Tryz.prog tabs Tryz.f181 a181 = true := by kernel_rfl
theorem ck182 : ckFn Tryz.prog tabs Tryz.f182 a182 = true := by kernel_rfl
theorem ck184 : ckFn Tryz.prog tabs Tryz.f184 a184 = true := by kernel_rfl
theorem ck185 : ckFn Tryz.prog tabs Tryz.f185 a185 = true := by kernel_rfl
theorem ck186 : ckFn Tryz.prog tabs Tryz.f186 a186 = true := by kernel_rfl
theorem ck187 : ckFn Tryz.prog tabs Tryz.f187 a187 = true := by kernel_rfl
theorem ck188 : ckFn Tryz.prog tabs Tryz.f188 a188 = true := by kernel_rfl
theorem ck189 : ckFn Tryz.prog tabs Tryz.f189 a189 = true := by kernel_rfl
theorem ck190 : ckFn Tryz.prog tabs Tryz.f190 a190 = true := by kernel_rfl
def OKf (p : Nat × AFn) : Prop := ∃ F, Tryz.prog.funcs[p.1]? = some F ∧ ckFn Tryz.prog tabs F p.2 = true ∧ (F.name != "runtime.NumGoroutine") = true
def AllOK : List (Nat × AFn) → Prop
 | [] => True
 | p :: l => OKf p ∧ AllOK l
theorem AllOK.mem : ∀ {l : List (Nat × AFn)}, AllOK l → ∀ p ∈ l, OKf p
 | [], _, p, h => by cases h
 | q :: l, ⟨h1, h2⟩, p, h => by
  rcases List.mem_cons.1 h with rfl | h
  ·exact h1
  ·exact AllOK.mem h2 p h
theorem nm13 : (Tryz.f13.name != "runtime.NumGoroutine") = true := by kernel_rfl
theorem nm19 : (Tryz.f19.name != "runtime.NumGoroutine") = true := by kernel_rfl
theorem nm20 : (Tryz.f20.name != "runtime.NumGoroutine") = true := by kernel_rfl
theorem nm24 : (Tryz.f24.name != "runtime.NumGoroutine") = true := by kernel_rfl
theorem nm27 : (Tryz.f27.name != "runtime.NumGoroutine") = true := by kernel_rfl
theorem nm32 : (Tryz.f32.name != "runtime.NumGoroutine") = true := by kernel_rfl
theorem nm33 : (Tryz.f33.name != "runtime.NumGoroutine") = true := by kernel_rfl
theorem nm35 : (Tryz.f35.name != "runtime.NumGoroutine") = true := by kernel_rfl
theorem nm36 : (Tryz.f36.name != "runtime.NumGoroutine") = true := by kernel_rfl
theorem nm40 : (Tryz.f40.name != "runtime.NumGoroutine") = true := by kernel_rfl
theorem nm41 : (Tryz.f41.name != "runtime.NumGoroutine") = true := by kernel_rfl
theorem nm46 : (Tryz.f46.name != "runtime.NumGoroutine") = true := by kernel_rfl
theorem nm47 : (Tryz.f47.name != "runtime.NumGoroutine") = true := by kernel_rfl
theorem nm48 : (Tryz.f48.name != "runtime.NumGoroutine") = true := by kernel_rfl
theorem nm49 : (Tryz.f49.name != "runtime.NumGoroutine") = true := by kernel_rfl
theorem nm50 : (Tryz.f50.name != "runtime.NumGoroutine") = true := by kernel_rfl
theorem nm51 : (Tryz.f51.name != "runtime.NumGoroutine") = true := by kernel_rfl
theorem nm52 : (Tryz.f52.name != "runtime.NumGoroutine") = true := by kernel_rfl
theorem nm56 : (Tryz.f56.name != "runtime.NumGoroutine") = true := by kernel_rfl
theorem nm57 : (Tryz.f57.name != "runtime.NumGoroutine") = true := by kernel_rfl
theorem nm58 : (Tryz.f58.name != "runtime.NumGoroutine") = true := by kernel_rfl
theorem nm60 : (Tryz.f60.name != "runtime.NumGoroutine") = true := by kernel_rfl
theorem nm61 : (Tryz.f61.name != "runtime.NumGoroutine") = true := by kernel_rfl
theorem nm62 : (Tryz.f62.name != "runtime.NumGoroutine") = true := by kernel_rfl
theorem nm63 : (Tryz.f63.name != "runtime.NumGoroutine") = true := by kernel_rfl
theorem nm73 : (Tryz.f73.name != "runtime.NumGoroutine") = true := by kernel_rfl
theorem nm74 : (Tryz.f74.name != "runtime.NumGoroutine") = true := by kernel_rfl
theorem nm75 : (Tryz.f75.name != "runtime.NumGoroutine") = true := by kernel_rfl
theorem nm76 : (Tryz.f76.name != "runtime.NumGoroutine") = true := by kernel_rfl
theorem nm77 : (Tryz.f77.name != "runtime.NumGoroutine") = true := by kernel_rfl
theorem nm78 : (Tryz.f78.name != "runtime.NumGoroutine") = true := by kernel_rfl
theorem nm79 : (Tryz.f79.name != "runtime.NumGoroutine") = true := by kernel_rfl
theorem nm80 : (Tryz.f80.name != "runtime.NumGoroutine") = true := by kernel_rfl
theorem nm81 : (Tryz.f81.name != "runtime.NumGoroutine") = true := by kernel_rfl
theorem nm82 : (Tryz.f82.name != "runtime.NumGoroutine") = true := by kernel_rfl
theorem nm87 : (Tryz.f87.name != "runtime.NumGoroutine") = true := by kernel_rfl
theorem nm88 : (Tryz.f88.name != "runtime.NumGoroutine") = true := by kernel_rfl
theorem nm89 : (Tryz.f89.name != "runtime.NumGoroutine") = true := by kernel_rfl
theorem nm90 : (Tryz.f90.name != "runtime.NumGoroutine") = true := by kernel_rfl
theorem nm91 : (Tryz.f91.name != "runtime.NumGoroutine") = true := by kernel_rfl
theorem nm92 : (Tryz.f92.name != "runtime.NumGoroutine") = true := by kernel_rfl
theorem nm93 : (Tryz.f93.name != "runtime.NumGoroutine") = true := by kernel_rfl
theorem nm94 : (Tryz.f94.name != "runtime.NumGoroutine") = true := by kernel_rfl
theorem nm95 : (Tryz.f95.name != "runtime.NumGoroutine") = true := by kernel_rfl
theorem nm96 : (Tryz.f96.name != "runtime.NumGoroutine") = true := by kernel_rfl
theorem nm97 : (Tryz.f97.name != "runtime.NumGoroutine") = true := by kernel_rfl
theorem nm98 : (Tryz.f98.name != "runtime.NumGoroutine") = true := by kernel_rfl
theorem nm99 : (Tryz.f99.name != "runtime.NumGoroutine") = true := by kernel_rfl
theorem nm103 : (Tryz.f103.name != "runtime.NumGoroutine") = true := by kernel_rfl
theorem nm104 : (Tryz.f104.name != "runtime.NumGoroutine") = true := by kernel_rfl
theorem nm105 : (Tryz.f105.name != "runtime.NumGoroutine") = true := by kernel_rfl
theorem nm106 : (Tryz.f106.name != "runtime.NumGoroutine") = true := by kernel_rfl
theorem nm107 : (Tryz.f107.name != "runtime.NumGoroutine") = true := by kernel_rfl
theorem nm108 : (Tryz.f108.name != "runtime.NumGoroutine") = true := by kernel_rfl
theorem nm109 : (Tryz.f109.name != "runtime.NumGoroutine") = true := by kernel_rfl
theorem nm110 : (Tryz.f110.name != "runtime.NumGoroutine") = true := by kernel_rfl
theorem nm111 : (Tryz.f111.name != "runtime.NumGoroutine") = true := by kernel_rfl
theorem nm112 : (Tryz.f112.name != "runtime.NumGoroutine") = true := by kernel_rfl
theorem nm113 : (Tryz.f113.name != "runtime.NumGoroutine") = true := by kernel_rfl
theorem nm114 : (Tryz.f114.name != "runtime.NumGoroutine") = true := by kernel_rfl
theorem nm115 : (Tryz.f115.name != "runtime.NumGoroutine") = true := by kernel_rfl
theorem nm116 : (Tryz.f116.name != "runtime.NumGoroutine") = true := by kernel_rfl
theorem nm117 : (Tryz.f117.name != "runtime.NumGoroutine") = true := by kernel_rfl
theorem nm118 : (Tryz.f118.name != "runtime.NumGoroutine") = true := by kernel_rfl
theorem nm119 : (Tryz.f119.name != "runtime.NumGoroutine") = true := by kernel_rfl
theorem nm120 : (Tryz.f120.name != "runtime.NumGoroutine") = true := by kernel_rfl
theorem nm121 : (Tryz.f121.name != "runtime.NumGoroutine") = true := by kernel_rfl
theorem nm122 : (Tryz.f122.name != "runtime.NumGoroutine") = true := by kernel_rfl
theorem nm123 : (Tryz.f123.name != "runtime.NumGoroutine") = true := by kernel_rfl
theorem nm124 : (Tryz.f124.name != "runtime.NumGoroutine") = true := by kernel_rfl
theorem nm125 : (Tryz.f125.name != "runtime.NumGoroutine") = true := by kernel_rfl
theorem nm126 : (Tryz.f126.name != "runtime.NumGoroutine") = true := by kernel_rfl
theorem nm127 : (Tryz.f127.name != "runtime.NumGoroutine") = true := by kernel_rfl
theorem nm131 : (Tryz.f131.name != "runtime.NumGoroutine") = true := by kernel_rfl
theorem nm132 : (Tryz.f132.name != "runtime.NumGoroutine") = true := by kernel_rfl
theorem nm133 : (Tryz.f133.name != "runtime.NumGoroutine") = true := by kernel_rfl
theorem nm134 : (Tryz.f134.name != "runtime.NumGoroutine") = true := by kernel_rfl
theorem nm135 : (Tryz.f135.name != "runtime.NumGoroutine") = true := by kernel_rfl
theorem nm136 : (Tryz.f136.name != "runtime.NumGoroutine") = true := by kernel_rfl
theorem nm137 : (Tryz.f137.name != "runtime.NumGoroutine") = true := by kernel_rfl
theorem nm138 : (Tryz.f138.name != "runtime.NumGoroutine") = true := by kernel_rfl
theorem nm139 : (Tryz.f139.name != "runtime.NumGoroutine") = true := by kernel_rfl
theorem nm140 : (Tryz.f140.name != "runtime.NumGoroutine") = true := by kernel_rfl
theorem nm141 : (Tryz.f141.name != "runtime.NumGoroutine") = true := by kernel_rfl
theorem nm142 : (Tryz.f142.name != "runtime.NumGoroutine") = true := by kernel_rfl
theorem nm143 : (Tryz.f143.name != "runtime.NumGoroutine") = true := by kernel_rfl
theorem nm145 : (Tryz.f145.name != "runtime.NumGoroutine") = true := by kernel_rfl
theorem nm146 : (Tryz.f146.name != "runtime.NumGoroutine") = true := by kernel_rfl
theorem nm147 : (Tryz.f147.name != "runtime.NumGoroutine") = true := by kernel_rfl
theorem nm148 : (Tryz.f148.name != "runtime.NumGoroutine") = true := by kernel_rfl
theorem nm149 : (Tryz.f149.name != "runtime.NumGoroutine") = true := by kernel_rfl
theorem nm150 : (Tryz.f150.name != "runtime.NumGoroutine") = true := by kernel_rfl
theorem nm151 : (Tryz.f151.name != "runtime.NumGoroutine") = true := by kernel_rfl
theorem nm152 : (Tryz.f152.name != "runtime.NumGoroutine") = true := by kernel_rfl
theorem nm153 : (Tryz.f153.name != "runtime.NumGoroutine") = true := by kernel_rfl
theorem nm154 : (Tryz.f154.name != "runtime.NumGoroutine") = true := by kernel_rfl
theorem nm155 : (Tryz.f155.name != "runtime.NumGoroutine") = true := by kernel_rfl
theorem nm156 : (Tryz.f156.name != "runtime.NumGoroutine") = true := by kernel_rfl
theorem nm157 : (Tryz.f157.name != "runtime.NumGoroutine") = true := by kernel_rfl
theorem nm158 : (Tryz.f158.name != "runtime.NumGoroutine") = true := by kernel_rfl
theorem nm159 : (Tryz.f159.name != "runtime.NumGoroutine") = true := by kernel_rfl
theorem nm160 : (Tryz.f160.name != "runtime.NumGoroutine") = true := by kernel_rfl
theorem nm163 : (Tryz.f163.name != "runtime.NumGoroutine") = true := by kernel_rfl
theorem nm164 : (Tryz.f164.name != "runtime.NumGoroutine") = true := by kernel_rfl
theorem nm165 : (Tryz.f165.name != "runtime.NumGoroutine") = true := by kernel_rfl
theorem nm167 : (Tryz.f167.name != "runtime.NumGoroutine") = true := by kernel_rfl
theorem nm168 : (Tryz.f168.name != "runtime.NumGoroutine") = true := by kernel_rfl
theorem nm169 : (Tryz.f169.name != "runtime.NumGoroutine") = true := by kernel_rfl
theorem nm170 : (Tryz.f170.name != "runtime.NumGoroutine") = true := by kernel_rfl
theorem nm171 : (Tryz.f171.name != "runtime.NumGoroutine") = true := by kernel_rfl
theorem nm172 : (Tryz.f172.name != "runtime.NumGoroutine") = true := by kernel_rfl
theorem nm173 : (Tryz.f173.name != "runtime.NumGoroutine") = true := by kernel_rfl
theorem nm175 : (Tryz.f175.name != "runtime.NumGoroutine") = true := by kernel_rfl
theorem nm176 : (Tryz.f176.name != "runtime.NumGoroutine") = true := by kernel_rfl
theorem nm177 : (Tryz.f177.name != "runtime.NumGoroutine") = true := by kernel_rfl
theorem nm178 : (Tryz.f178.name != "runtime.NumGoroutine") = true := by kernel_rfl
theorem nm181 : (Tryz.f181.name != "runtime.NumGoroutine") = true := by kernel_rfl
theorem nm182 : (Tryz.f182.name != "runtime.NumGoroutine") = true := by kernel_rfl
theorem nm184 : (Tryz.f184.name != "runtime.NumGoroutine") = true := by kernel_rfl
theorem nm185 : (Tryz.f185.name != "runtime.NumGoroutine") = true := by kernel_rfl
theorem nm186 : (Tryz.f186.name != "runtime.NumGoroutine") = true := by kernel_rfl
theorem nm187 : (Tryz.f187.name != "runtime.NumGoroutine") = true := by kernel_rfl
theorem nm188 : (Tryz.f188.name != "runtime.NumGoroutine") = true := by kernel_rfl
theorem nm189 : (Tryz.f189.name != "runtime.NumGoroutine") = true := by kernel_rfl
theorem nm190 : (Tryz.f190.name != "runtime.NumGoroutine") = true := by kernel_rfl
theorem tabOK : AllOK fnTab :=
 ⟨⟨_, Tryz.func13, ck13, nm13⟩, ⟨⟨_, Tryz.func19, ck19, nm19⟩, ⟨⟨_, Tryz.func20, ck20, nm20⟩, ⟨⟨_, Tryz.func24, ck24, nm24⟩, ⟨⟨_, Tryz.func27, ck27, nm27⟩, ⟨⟨_, Tryz.func32, ck32, nm32⟩, ⟨⟨_, Tryz.func33, ck33, nm33⟩, ⟨⟨_, Tryz.func35, ck35, nm35⟩, ⟨⟨_, Tryz.func36, ck36, nm36⟩, ⟨⟨_, Tryz.func40, ck40, nm40⟩, ⟨⟨_, Tryz.func41, ck41, nm41⟩, ⟨⟨_, Tryz.func46, ck46, nm46⟩, ⟨⟨_, Tryz.func47, ck47, nm47⟩, ⟨⟨_, Tryz.func48, ck48, nm48⟩, ⟨⟨_, Tryz.func49, ck49, nm49⟩, ⟨⟨_, Tryz.func50, ck50, nm50⟩, ⟨⟨_, Tryz.func51, ck51, nm51⟩, ⟨⟨_, Tryz.func52, ck52, nm52⟩, ⟨⟨_, Tryz.func56, ck56, nm56⟩, ⟨⟨_, Tryz.func57, ck57, nm57⟩, ⟨⟨_, Tryz.func58, ck58, nm58⟩, ⟨⟨_, Tryz.func60, ck60, nm60⟩, ⟨⟨_, Tryz.func61, ck61, nm61⟩, ⟨⟨_, Tryz.func62, ck62, nm62⟩, ⟨⟨_, Tryz.func63, ck63, nm63⟩, ⟨⟨_, Tryz.func73, ck73, nm73⟩, ⟨⟨_, Tryz.func74, ck74, nm74⟩, ⟨⟨_, Tryz.func75, ck75, nm75⟩, ⟨⟨_, Tryz.func76, ck76, nm76⟩, ⟨⟨_, Tryz.func77, ck77, nm77⟩, ⟨⟨_, Tryz.func78, ck78, nm78⟩, ⟨⟨_, Tryz.func79, ck79, nm79⟩, ⟨⟨_, Tryz.func80, ck80, nm80⟩, ⟨⟨_, Tryz.func81, ck81, nm81⟩, ⟨⟨_, Tryz.func82, ck82, nm82⟩, ⟨⟨_, Tryz.func87, ck87, nm87⟩, ⟨⟨_, Tryz.func88, ck88, nm88⟩, ⟨⟨_, Tryz.func89, ck89, nm89⟩, ⟨⟨_, Tryz.func90, ck90, nm90⟩, ⟨⟨_, Tryz.func91, ck91, nm91⟩, ⟨⟨_, Tryz.func92, ck92, nm92⟩, ⟨⟨_, Tryz.func93, ck93, nm93⟩, ⟨⟨_, Tryz.func94, ck94, nm94⟩, ⟨⟨_, Tryz.func95, ck95, nm95⟩, ⟨⟨_, Tryz.func96, ck96, nm96⟩, ⟨⟨_, Tryz.func97, ck97, nm97⟩, ⟨⟨_, Tryz.func98, ck98, nm98⟩, ⟨⟨_, Tryz.func99, ck99, nm99⟩, ⟨⟨_, Tryz.func103, ck103, nm103⟩, ⟨⟨_, Tryz.func104, ck104, nm104⟩, ⟨⟨_, Tryz.func105, ck105, nm105⟩, ⟨⟨_, Tryz.func106, ck106, nm106⟩, ⟨⟨_, Tryz.func107, ck107, nm107⟩, ⟨⟨_, Tryz.func108, ck108, nm108⟩, ⟨⟨_, Tryz.func109, ck109, nm109⟩, ⟨⟨_, Tryz.func110, ck110, nm110⟩, ⟨⟨_, Tryz.func111, ck111, nm111⟩, ⟨⟨_, Tryz.func112, ck112, nm112⟩, ⟨⟨_, Tryz.func113, ck113, nm113⟩, ⟨⟨_, Tryz.func114, ck114, nm114⟩, ⟨⟨_, Tryz.func115, ck115, nm115⟩, ⟨⟨_, Tryz.func116, ck116, nm116⟩, ⟨⟨_, Tryz.func117, ck117, nm117⟩, ⟨⟨_, Tryz.func118, ck118, nm118⟩, ⟨⟨_, Tryz.func119, ck119, nm119⟩, ⟨⟨_, Tryz.func120, ck120, nm120⟩, ⟨⟨_, Tryz.func121, ck121, nm121⟩, ⟨⟨_, Tryz.func122, ck122, nm122⟩, ⟨⟨_, Tryz.func123, ck123, nm123⟩, ⟨⟨_, Tryz.func124, ck124, nm124⟩, ⟨⟨_, Tryz.func125, ck125, nm125⟩, ⟨⟨_, Tryz.func126, ck126, nm126⟩, ⟨⟨_, Tryz.func127, ck127, nm127⟩, ⟨⟨_, Tryz.func131, ck131, nm131⟩, ⟨⟨_, Tryz.func132, ck132, nm132⟩, ⟨⟨_, Tryz.func133, ck133, nm133⟩, ⟨⟨_, Tryz.func134, ck134, nm134⟩, ⟨⟨_, Tryz.func135, ck135, nm135⟩, ⟨⟨_, Tryz.func136, ck136, nm136⟩, ⟨⟨_, Tryz.func137, ck137, nm137⟩, ⟨⟨_, Tryz.func138, ck138, nm138⟩, ⟨⟨_, Tryz.func139, ck139, nm139⟩, ⟨⟨_, Tryz.func140, ck140, nm140⟩, ⟨⟨_, Tryz.func141, ck141, nm141⟩, ⟨⟨_, Tryz.func142, ck142, nm142⟩, ⟨⟨_, Tryz.func143, ck143, nm143⟩, ⟨⟨_, Tryz.func145, ck145, nm145⟩, ⟨⟨_, Tryz.func146, ck146, nm146⟩, ⟨⟨_, Tryz.func147, ck147, nm147⟩, ⟨⟨_, Tryz.func148, ck148, nm148⟩, ⟨⟨_, Tryz.func149, ck149, nm149⟩, ⟨⟨_, Tryz.func150, ck150, nm150⟩, ⟨⟨_, Tryz.func151, ck151, nm151⟩, ⟨⟨_, Tryz.func152, ck152, nm152⟩, ⟨⟨_, Tryz.func153, ck153, nm153⟩, ⟨⟨_, Tryz.func154, ck154, nm154⟩, ⟨⟨_, Tryz.func155, ck155, nm155⟩, ⟨⟨_, Tryz.func156, ck156, nm156⟩, ⟨⟨_, Tryz.func157, ck157, nm157⟩, ⟨⟨_, Tryz.func158, ck158, nm158⟩, ⟨⟨_, Tryz.func159, ck159, nm159⟩, ⟨⟨_, Tryz.func160, ck160, nm160⟩, ⟨⟨_, Tryz.func163, ck163, nm163⟩, ⟨⟨_, Tryz.func164, ck164, nm164⟩, ⟨⟨_, Tryz.func165, ck165, nm165⟩, ⟨⟨_, Tryz.func167, ck167, nm167⟩, ⟨⟨_, Tryz.func168, ck168, nm168⟩, ⟨⟨_, Tryz.func169, ck169, nm169⟩, ⟨⟨_, Tryz.func170, ck170, nm170⟩, ⟨⟨_, Tryz.func171, ck171, nm171⟩, ⟨⟨_, Tryz.func172, ck172, nm172⟩, ⟨⟨_, Tryz.func173, ck173, nm173⟩, ⟨⟨_, Tryz.func175, ck175, nm175⟩, ⟨⟨_, Tryz.func176, ck176, nm176⟩, ⟨⟨_, Tryz.func177, ck177, nm177⟩, ⟨⟨_, Tryz.func178, ck178, nm178⟩, ⟨⟨_, Tryz.func181, ck181, nm181⟩, ⟨⟨_, Tryz.func182, ck182, nm182⟩, ⟨⟨_, Tryz.func184, ck184, nm184⟩, ⟨⟨_, Tryz.func185, ck185, nm185⟩, ⟨⟨_, Tryz.func186, ck186, nm186⟩, ⟨⟨_, Tryz.func187, ck187, nm187⟩, ⟨⟨_, Tryz.func188, ck188, nm188⟩, ⟨⟨_, Tryz.func189, ck189, nm189⟩, ⟨⟨_, Tryz.func190, ck190, nm190⟩, trivial⟩⟩⟩⟩⟩⟩⟩⟩⟩⟩⟩⟩⟩⟩⟩⟩⟩⟩⟩⟩⟩⟩⟩⟩⟩⟩⟩⟩⟩⟩⟩⟩⟩⟩⟩⟩⟩⟩⟩⟩⟩⟩⟩⟩⟩⟩⟩⟩⟩⟩⟩⟩⟩⟩⟩⟩⟩⟩⟩⟩⟩⟩⟩⟩⟩⟩⟩⟩⟩⟩⟩⟩⟩⟩⟩⟩⟩⟩⟩⟩⟩⟩⟩⟩⟩⟩⟩⟩⟩⟩⟩⟩⟩⟩⟩⟩⟩⟩⟩⟩⟩⟩⟩⟩⟩⟩⟩⟩⟩⟩⟩⟩⟩⟩⟩⟩⟩⟩⟩⟩⟩⟩⟩⟩⟩
theorem mixed : Tryz.prog.follows .mixedOrders = true := by kernel_rfl
theorem fnOK (f : Nat) (fn : AFn) (h : fnOf f = some fn) : ∃ F, Tryz.prog.funcs[f]? = some F ∧ ckFn Tryz.prog tabs F fn = true ∧ F.name ≠ "runtime.NumGoroutine" := by
 unfold fnOf at h
 cases hf : fnTab.find? (fun p => p.1 == f) with
 | none => simp [hf] at h
 | some p =>
  simp only [hf, Option.map_some, Option.some.injEq] at h
  have h1 := List.mem_of_find?_eq_some hf
  have h2 := List.find?_some hf
  simp only [beq_iff_eq] at h2
  obtain ⟨F, a, b, c⟩ := tabOK.mem p h1
  subst h2; subst h
  exact ⟨F, a, b, by simpa using c⟩
end Go.Proofs.YP
