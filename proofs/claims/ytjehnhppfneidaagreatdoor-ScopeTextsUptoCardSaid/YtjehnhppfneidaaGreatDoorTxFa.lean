/- Short forms of functions, reckoned out of the program. -/
import Derived.Test.YtjehnhppfneidaaGreatDoorTxa
import Derived.Test.YtjehnhppfneidaaGreatDoorProg
namespace Go.Proofs.YP
open Go
set_option maxRecDepth 100000
set_option maxHeartbeats 40000000
def a4 : AFn := (⟨_, .trans (by cbv) (by (try simp only [mkA]) <;> rfl)⟩ : GX Tryz.prog 4 Tryz.f4).1
def a22 : AFn := (⟨_, .trans (by cbv) (by (try simp only [mkA]) <;> rfl)⟩ : GX Tryz.prog 22 Tryz.f22).1
def a41 : AFn := (⟨_, .trans (by cbv) (by (try simp only [mkA]) <;> rfl)⟩ : GX Tryz.prog 41 Tryz.f41).1
def a47 : AFn := (⟨_, .trans (by cbv) (by (try simp only [mkA]) <;> rfl)⟩ : GX Tryz.prog 47 Tryz.f47).1
def a60 : AFn := (⟨_, .trans (by cbv) (by (try simp only [mkA]) <;> rfl)⟩ : GX Tryz.prog 60 Tryz.f60).1
def a68 : AFn := (⟨_, .trans (by cbv) (by (try simp only [mkA]) <;> rfl)⟩ : GX Tryz.prog 68 Tryz.f68).1
def a72 : AFn := (⟨_, .trans (by cbv) (by (try simp only [mkA]) <;> rfl)⟩ : GX Tryz.prog 72 Tryz.f72).1
def a76 : AFn := (⟨_, .trans (by cbv) (by (try simp only [mkA]) <;> rfl)⟩ : GX Tryz.prog 76 Tryz.f76).1
def a90 : AFn := (⟨_, .trans (by cbv) (by (try simp only [mkA]) <;> rfl)⟩ : GX Tryz.prog 90 Tryz.f90).1
def a94 : AFn := (⟨_, .trans (by cbv) (by (try simp only [mkA]) <;> rfl)⟩ : GX Tryz.prog 94 Tryz.f94).1
def a98 : AFn := (⟨_, .trans (by cbv) (by (try simp only [mkA]) <;> rfl)⟩ : GX Tryz.prog 98 Tryz.f98).1
def a105 : AFn := (⟨_, .trans (by cbv) (by (try simp only [mkA]) <;> rfl)⟩ : GX Tryz.prog 105 Tryz.f105).1
def a109 : AFn := (⟨_, .trans (by cbv) (by (try simp only [mkA]) <;> rfl)⟩ : GX Tryz.prog 109 Tryz.f109).1
def a113 : AFn := (⟨_, .trans (by cbv) (by (try simp only [mkA]) <;> rfl)⟩ : GX Tryz.prog 113 Tryz.f113).1
def a132 : AFn := (⟨_, .trans (by cbv) (by (try simp only [mkA]) <;> rfl)⟩ : GX Tryz.prog 132 Tryz.f132).1
def a136 : AFn := (⟨_, .trans (by cbv) (by (try simp only [mkA]) <;> rfl)⟩ : GX Tryz.prog 136 Tryz.f136).1
def a140 : AFn := (⟨_, .trans (by cbv) (by (try simp only [mkA]) <;> rfl)⟩ : GX Tryz.prog 140 Tryz.f140).1
def a144 : AFn := (⟨_, .trans (by cbv) (by (try simp only [mkA]) <;> rfl)⟩ : GX Tryz.prog 144 Tryz.f144).1
def a148 : AFn := (⟨_, .trans (by cbv) (by (try simp only [mkA]) <;> rfl)⟩ : GX Tryz.prog 148 Tryz.f148).1
def a152 : AFn := (⟨_, .trans (by cbv) (by (try simp only [mkA]) <;> rfl)⟩ : GX Tryz.prog 152 Tryz.f152).1
def a156 : AFn := (⟨_, .trans (by cbv) (by (try simp only [mkA]) <;> rfl)⟩ : GX Tryz.prog 156 Tryz.f156).1
def a164 : AFn := (⟨_, .trans (by cbv) (by (try simp only [mkA]) <;> rfl)⟩ : GX Tryz.prog 164 Tryz.f164).1
def a168 : AFn := (⟨_, .trans (by cbv) (by (try simp only [mkA]) <;> rfl)⟩ : GX Tryz.prog 168 Tryz.f168).1
def a172 : AFn := (⟨_, .trans (by cbv) (by (try simp only [mkA]) <;> rfl)⟩ : GX Tryz.prog 172 Tryz.f172).1
def a177 : AFn := (⟨_, .trans (by cbv) (by (try simp only [mkA]) <;> rfl)⟩ : GX Tryz.prog 177 Tryz.f177).1
def a184 : AFn := (⟨_, .trans (by cbv) (by (try simp only [mkA]) <;> rfl)⟩ : GX Tryz.prog 184 Tryz.f184).1
def a188 : AFn := (⟨_, .trans (by cbv) (by (try simp only [mkA]) <;> rfl)⟩ : GX Tryz.prog 188 Tryz.f188).1
end Go.Proofs.YP
