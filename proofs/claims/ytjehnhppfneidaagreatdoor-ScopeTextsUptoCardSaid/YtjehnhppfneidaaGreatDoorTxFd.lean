/- Short forms of functions, reckoned out of the program. -/
import Derived.Test.YtjehnhppfneidaaGreatDoorTxa
import Derived.Test.YtjehnhppfneidaaGreatDoorProg
namespace Go.Proofs.YP
open Go
set_option maxRecDepth 100000
set_option maxHeartbeats 40000000
def a21 : AFn := (⟨_, .trans (by cbv) (by (try simp only [mkA]) <;> rfl)⟩ : GX Tryz.prog 21 Tryz.f21).1
def a27 : AFn := (⟨_, .trans (by cbv) (by (try simp only [mkA]) <;> rfl)⟩ : GX Tryz.prog 27 Tryz.f27).1
def a46 : AFn := (⟨_, .trans (by cbv) (by (try simp only [mkA]) <;> rfl)⟩ : GX Tryz.prog 46 Tryz.f46).1
def a58 : AFn := (⟨_, .trans (by cbv) (by (try simp only [mkA]) <;> rfl)⟩ : GX Tryz.prog 58 Tryz.f58).1
def a63 : AFn := (⟨_, .trans (by cbv) (by (try simp only [mkA]) <;> rfl)⟩ : GX Tryz.prog 63 Tryz.f63).1
def a71 : AFn := (⟨_, .trans (by cbv) (by (try simp only [mkA]) <;> rfl)⟩ : GX Tryz.prog 71 Tryz.f71).1
def a75 : AFn := (⟨_, .trans (by cbv) (by (try simp only [mkA]) <;> rfl)⟩ : GX Tryz.prog 75 Tryz.f75).1
def a89 : AFn := (⟨_, .trans (by cbv) (by (try simp only [mkA]) <;> rfl)⟩ : GX Tryz.prog 89 Tryz.f89).1
def a93 : AFn := (⟨_, .trans (by cbv) (by (try simp only [mkA]) <;> rfl)⟩ : GX Tryz.prog 93 Tryz.f93).1
def a97 : AFn := (⟨_, .trans (by cbv) (by (try simp only [mkA]) <;> rfl)⟩ : GX Tryz.prog 97 Tryz.f97).1
def a104 : AFn := (⟨_, .trans (by cbv) (by (try simp only [mkA]) <;> rfl)⟩ : GX Tryz.prog 104 Tryz.f104).1
def a108 : AFn := (⟨_, .trans (by cbv) (by (try simp only [mkA]) <;> rfl)⟩ : GX Tryz.prog 108 Tryz.f108).1
def a112 : AFn := (⟨_, .trans (by cbv) (by (try simp only [mkA]) <;> rfl)⟩ : GX Tryz.prog 112 Tryz.f112).1
def a131 : AFn := (⟨_, .trans (by cbv) (by (try simp only [mkA]) <;> rfl)⟩ : GX Tryz.prog 131 Tryz.f131).1
def a135 : AFn := (⟨_, .trans (by cbv) (by (try simp only [mkA]) <;> rfl)⟩ : GX Tryz.prog 135 Tryz.f135).1
def a139 : AFn := (⟨_, .trans (by cbv) (by (try simp only [mkA]) <;> rfl)⟩ : GX Tryz.prog 139 Tryz.f139).1
def a143 : AFn := (⟨_, .trans (by cbv) (by (try simp only [mkA]) <;> rfl)⟩ : GX Tryz.prog 143 Tryz.f143).1
def a147 : AFn := (⟨_, .trans (by cbv) (by (try simp only [mkA]) <;> rfl)⟩ : GX Tryz.prog 147 Tryz.f147).1
def a151 : AFn := (⟨_, .trans (by cbv) (by (try simp only [mkA]) <;> rfl)⟩ : GX Tryz.prog 151 Tryz.f151).1
def a155 : AFn := (⟨_, .trans (by cbv) (by (try simp only [mkA]) <;> rfl)⟩ : GX Tryz.prog 155 Tryz.f155).1
def a163 : AFn := (⟨_, .trans (by cbv) (by (try simp only [mkA]) <;> rfl)⟩ : GX Tryz.prog 163 Tryz.f163).1
def a167 : AFn := (⟨_, .trans (by cbv) (by (try simp only [mkA]) <;> rfl)⟩ : GX Tryz.prog 167 Tryz.f167).1
def a171 : AFn := (⟨_, .trans (by cbv) (by (try simp only [mkA]) <;> rfl)⟩ : GX Tryz.prog 171 Tryz.f171).1
def a176 : AFn := (⟨_, .trans (by cbv) (by (try simp only [mkA]) <;> rfl)⟩ : GX Tryz.prog 176 Tryz.f176).1
def a182 : AFn := (⟨_, .trans (by cbv) (by (try simp only [mkA]) <;> rfl)⟩ : GX Tryz.prog 182 Tryz.f182).1
def a187 : AFn := (⟨_, .trans (by cbv) (by (try simp only [mkA]) <;> rfl)⟩ : GX Tryz.prog 187 Tryz.f187).1
end Go.Proofs.YP
