/- Short forms of functions, reckoned out of the program. -/
import Derived.Test.YtjehnhppfneidaaGreatDoorTxa
import Derived.Test.YtjehnhppfneidaaGreatDoorProg
namespace Go.Proofs.YP
open Go
set_option maxRecDepth 100000
set_option maxHeartbeats 40000000
def a20 : AFn := (⟨_, .trans (by cbv) (by (try simp only [mkA]) <;> rfl)⟩ : GX Tryz.prog 20 Tryz.f20).1
def a24 : AFn := (⟨_, .trans (by cbv) (by (try simp only [mkA]) <;> rfl)⟩ : GX Tryz.prog 24 Tryz.f24).1
def a45 : AFn := (⟨_, .trans (by cbv) (by (try simp only [mkA]) <;> rfl)⟩ : GX Tryz.prog 45 Tryz.f45).1
def a57 : AFn := (⟨_, .trans (by cbv) (by (try simp only [mkA]) <;> rfl)⟩ : GX Tryz.prog 57 Tryz.f57).1
def a62 : AFn := (⟨_, .trans (by cbv) (by (try simp only [mkA]) <;> rfl)⟩ : GX Tryz.prog 62 Tryz.f62).1
def a70 : AFn := (⟨_, .trans (by cbv) (by (try simp only [mkA]) <;> rfl)⟩ : GX Tryz.prog 70 Tryz.f70).1
def a74 : AFn := (⟨_, .trans (by cbv) (by (try simp only [mkA]) <;> rfl)⟩ : GX Tryz.prog 74 Tryz.f74).1
def a88 : AFn := (⟨_, .trans (by cbv) (by (try simp only [mkA]) <;> rfl)⟩ : GX Tryz.prog 88 Tryz.f88).1
def a92 : AFn := (⟨_, .trans (by cbv) (by (try simp only [mkA]) <;> rfl)⟩ : GX Tryz.prog 92 Tryz.f92).1
def a96 : AFn := (⟨_, .trans (by cbv) (by (try simp only [mkA]) <;> rfl)⟩ : GX Tryz.prog 96 Tryz.f96).1
def a103 : AFn := (⟨_, .trans (by cbv) (by (try simp only [mkA]) <;> rfl)⟩ : GX Tryz.prog 103 Tryz.f103).1
def a107 : AFn := (⟨_, .trans (by cbv) (by (try simp only [mkA]) <;> rfl)⟩ : GX Tryz.prog 107 Tryz.f107).1
def a111 : AFn := (⟨_, .trans (by cbv) (by (try simp only [mkA]) <;> rfl)⟩ : GX Tryz.prog 111 Tryz.f111).1
def a116 : AFn := (⟨_, .trans (by cbv) (by (try simp only [mkA]) <;> rfl)⟩ : GX Tryz.prog 116 Tryz.f116).1
def a134 : AFn := (⟨_, .trans (by cbv) (by (try simp only [mkA]) <;> rfl)⟩ : GX Tryz.prog 134 Tryz.f134).1
def a138 : AFn := (⟨_, .trans (by cbv) (by (try simp only [mkA]) <;> rfl)⟩ : GX Tryz.prog 138 Tryz.f138).1
def a142 : AFn := (⟨_, .trans (by cbv) (by (try simp only [mkA]) <;> rfl)⟩ : GX Tryz.prog 142 Tryz.f142).1
def a146 : AFn := (⟨_, .trans (by cbv) (by (try simp only [mkA]) <;> rfl)⟩ : GX Tryz.prog 146 Tryz.f146).1
def a150 : AFn := (⟨_, .trans (by cbv) (by (try simp only [mkA]) <;> rfl)⟩ : GX Tryz.prog 150 Tryz.f150).1
def a154 : AFn := (⟨_, .trans (by cbv) (by (try simp only [mkA]) <;> rfl)⟩ : GX Tryz.prog 154 Tryz.f154).1
def a160 : AFn := (⟨_, .trans (by cbv) (by (try simp only [mkA]) <;> rfl)⟩ : GX Tryz.prog 160 Tryz.f160).1
def a166 : AFn := (⟨_, .trans (by cbv) (by (try simp only [mkA]) <;> rfl)⟩ : GX Tryz.prog 166 Tryz.f166).1
def a170 : AFn := (⟨_, .trans (by cbv) (by (try simp only [mkA]) <;> rfl)⟩ : GX Tryz.prog 170 Tryz.f170).1
def a175 : AFn := (⟨_, .trans (by cbv) (by (try simp only [mkA]) <;> rfl)⟩ : GX Tryz.prog 175 Tryz.f175).1
def a181 : AFn := (⟨_, .trans (by cbv) (by (try simp only [mkA]) <;> rfl)⟩ : GX Tryz.prog 181 Tryz.f181).1
def a186 : AFn := (⟨_, .trans (by cbv) (by (try simp only [mkA]) <;> rfl)⟩ : GX Tryz.prog 186 Tryz.f186).1
def a190 : AFn := (⟨_, .trans (by cbv) (by (try simp only [mkA]) <;> rfl)⟩ : GX Tryz.prog 190 Tryz.f190).1
end Go.Proofs.YP
