/- Short forms of functions, reckoned out of the program. -/
import Derived.Test.YtjehnhppfneidaaGreatDoorTxa
import Derived.Test.YtjehnhppfneidaaGreatDoorProg
namespace Go.Proofs.YP
open Go
set_option maxRecDepth 100000
set_option maxHeartbeats 40000000
def a18 : AFn := (⟨_, .trans (by cbv) (by (try simp only [mkA]) <;> rfl)⟩ : GX Tryz.prog 18 Tryz.f18).1
def a23 : AFn := (⟨_, .trans (by cbv) (by (try simp only [mkA]) <;> rfl)⟩ : GX Tryz.prog 23 Tryz.f23).1
def a44 : AFn := (⟨_, .trans (by cbv) (by (try simp only [mkA]) <;> rfl)⟩ : GX Tryz.prog 44 Tryz.f44).1
def a48 : AFn := (⟨_, .trans (by cbv) (by (try simp only [mkA]) <;> rfl)⟩ : GX Tryz.prog 48 Tryz.f48).1
def a61 : AFn := (⟨_, .trans (by cbv) (by (try simp only [mkA]) <;> rfl)⟩ : GX Tryz.prog 61 Tryz.f61).1
def a69 : AFn := (⟨_, .trans (by cbv) (by (try simp only [mkA]) <;> rfl)⟩ : GX Tryz.prog 69 Tryz.f69).1
def a73 : AFn := (⟨_, .trans (by cbv) (by (try simp only [mkA]) <;> rfl)⟩ : GX Tryz.prog 73 Tryz.f73).1
def a87 : AFn := (⟨_, .trans (by cbv) (by (try simp only [mkA]) <;> rfl)⟩ : GX Tryz.prog 87 Tryz.f87).1
def a91 : AFn := (⟨_, .trans (by cbv) (by (try simp only [mkA]) <;> rfl)⟩ : GX Tryz.prog 91 Tryz.f91).1
def a95 : AFn := (⟨_, .trans (by cbv) (by (try simp only [mkA]) <;> rfl)⟩ : GX Tryz.prog 95 Tryz.f95).1
def a99 : AFn := (⟨_, .trans (by cbv) (by (try simp only [mkA]) <;> rfl)⟩ : GX Tryz.prog 99 Tryz.f99).1
def a106 : AFn := (⟨_, .trans (by cbv) (by (try simp only [mkA]) <;> rfl)⟩ : GX Tryz.prog 106 Tryz.f106).1
def a110 : AFn := (⟨_, .trans (by cbv) (by (try simp only [mkA]) <;> rfl)⟩ : GX Tryz.prog 110 Tryz.f110).1
def a114 : AFn := (⟨_, .trans (by cbv) (by (try simp only [mkA]) <;> rfl)⟩ : GX Tryz.prog 114 Tryz.f114).1
def a133 : AFn := (⟨_, .trans (by cbv) (by (try simp only [mkA]) <;> rfl)⟩ : GX Tryz.prog 133 Tryz.f133).1
def a137 : AFn := (⟨_, .trans (by cbv) (by (try simp only [mkA]) <;> rfl)⟩ : GX Tryz.prog 137 Tryz.f137).1
def a141 : AFn := (⟨_, .trans (by cbv) (by (try simp only [mkA]) <;> rfl)⟩ : GX Tryz.prog 141 Tryz.f141).1
def a145 : AFn := (⟨_, .trans (by cbv) (by (try simp only [mkA]) <;> rfl)⟩ : GX Tryz.prog 145 Tryz.f145).1
def a149 : AFn := (⟨_, .trans (by cbv) (by (try simp only [mkA]) <;> rfl)⟩ : GX Tryz.prog 149 Tryz.f149).1
def a153 : AFn := (⟨_, .trans (by cbv) (by (try simp only [mkA]) <;> rfl)⟩ : GX Tryz.prog 153 Tryz.f153).1
def a159 : AFn := (⟨_, .trans (by cbv) (by (try simp only [mkA]) <;> rfl)⟩ : GX Tryz.prog 159 Tryz.f159).1
def a165 : AFn := (⟨_, .trans (by cbv) (by (try simp only [mkA]) <;> rfl)⟩ : GX Tryz.prog 165 Tryz.f165).1
def a169 : AFn := (⟨_, .trans (by cbv) (by (try simp only [mkA]) <;> rfl)⟩ : GX Tryz.prog 169 Tryz.f169).1
def a173 : AFn := (⟨_, .trans (by cbv) (by (try simp only [mkA]) <;> rfl)⟩ : GX Tryz.prog 173 Tryz.f173).1
def a178 : AFn := (⟨_, .trans (by cbv) (by (try simp only [mkA]) <;> rfl)⟩ : GX Tryz.prog 178 Tryz.f178).1
def a185 : AFn := (⟨_, .trans (by cbv) (by (try simp only [mkA]) <;> rfl)⟩ : GX Tryz.prog 185 Tryz.f185).1
def a189 : AFn := (⟨_, .trans (by cbv) (by (try simp only [mkA]) <;> rfl)⟩ : GX Tryz.prog 189 Tryz.f189).1
end Go.Proofs.YP
