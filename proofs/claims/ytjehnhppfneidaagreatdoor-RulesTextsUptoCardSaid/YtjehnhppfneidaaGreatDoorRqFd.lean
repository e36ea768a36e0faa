/- Short forms of functions, reckoned out of the program. -/
import Derived.Test.YtjehnhppfneidaaGreatDoorRqa
import Derived.Test.YtjehnhppfneidaaGreatDoorProg
namespace Go.Proofs.YP
open Go
set_option maxRecDepth 100000
set_option maxHeartbeats 40000000
def a22:AFn:=(⟨_,.trans (by cbv) (by(try simp only[mkA])<;>rfl)⟩:GX Tryz.prog 22 Tryz.f22).1
def a33:AFn:=(⟨_,.trans (by cbv) (by(try simp only[mkA])<;>rfl)⟩:GX Tryz.prog 33 Tryz.f33).1
def a44:AFn:=(⟨_,.trans (by cbv) (by(try simp only[mkA])<;>rfl)⟩:GX Tryz.prog 44 Tryz.f44).1
def a48:AFn:=(⟨_,.trans (by cbv) (by(try simp only[mkA])<;>rfl)⟩:GX Tryz.prog 48 Tryz.f48).1
def a52:AFn:=(⟨_,.trans (by cbv) (by(try simp only[mkA])<;>rfl)⟩:GX Tryz.prog 52 Tryz.f52).1
def a56:AFn:=(⟨_,.trans (by cbv) (by(try simp only[mkA])<;>rfl)⟩:GX Tryz.prog 56 Tryz.f56).1
def a61:AFn:=(⟨_,.trans (by cbv) (by(try simp only[mkA])<;>rfl)⟩:GX Tryz.prog 61 Tryz.f61).1
def a69:AFn:=(⟨_,.trans (by cbv) (by(try simp only[mkA])<;>rfl)⟩:GX Tryz.prog 69 Tryz.f69).1
def a73:AFn:=(⟨_,.trans (by cbv) (by(try simp only[mkA])<;>rfl)⟩:GX Tryz.prog 73 Tryz.f73).1
def a77:AFn:=(⟨_,.trans (by cbv) (by(try simp only[mkA])<;>rfl)⟩:GX Tryz.prog 77 Tryz.f77).1
def a81:AFn:=(⟨_,.trans (by cbv) (by(try simp only[mkA])<;>rfl)⟩:GX Tryz.prog 81 Tryz.f81).1
def a85:AFn:=(⟨_,.trans (by cbv) (by(try simp only[mkA])<;>rfl)⟩:GX Tryz.prog 85 Tryz.f85).1
def a89:AFn:=(⟨_,.trans (by cbv) (by(try simp only[mkA])<;>rfl)⟩:GX Tryz.prog 89 Tryz.f89).1
def a93:AFn:=(⟨_,.trans (by cbv) (by(try simp only[mkA])<;>rfl)⟩:GX Tryz.prog 93 Tryz.f93).1
def a97:AFn:=(⟨_,.trans (by cbv) (by(try simp only[mkA])<;>rfl)⟩:GX Tryz.prog 97 Tryz.f97).1
def a104:AFn:=(⟨_,.trans (by cbv) (by(try simp only[mkA])<;>rfl)⟩:GX Tryz.prog 104 Tryz.f104).1
def a108:AFn:=(⟨_,.trans (by cbv) (by(try simp only[mkA])<;>rfl)⟩:GX Tryz.prog 108 Tryz.f108).1
def a112:AFn:=(⟨_,.trans (by cbv) (by(try simp only[mkA])<;>rfl)⟩:GX Tryz.prog 112 Tryz.f112).1
def a116:AFn:=(⟨_,.trans (by cbv) (by(try simp only[mkA])<;>rfl)⟩:GX Tryz.prog 116 Tryz.f116).1
def a120:AFn:=(⟨_,.trans (by cbv) (by(try simp only[mkA])<;>rfl)⟩:GX Tryz.prog 120 Tryz.f120).1
def a124:AFn:=(⟨_,.trans (by cbv) (by(try simp only[mkA])<;>rfl)⟩:GX Tryz.prog 124 Tryz.f124).1
def a128:AFn:=(⟨_,.trans (by cbv) (by(try simp only[mkA])<;>rfl)⟩:GX Tryz.prog 128 Tryz.f128).1
def a132:AFn:=(⟨_,.trans (by cbv) (by(try simp only[mkA])<;>rfl)⟩:GX Tryz.prog 132 Tryz.f132).1
def a136:AFn:=(⟨_,.trans (by cbv) (by(try simp only[mkA])<;>rfl)⟩:GX Tryz.prog 136 Tryz.f136).1
def a140:AFn:=(⟨_,.trans (by cbv) (by(try simp only[mkA])<;>rfl)⟩:GX Tryz.prog 140 Tryz.f140).1
def a144:AFn:=(⟨_,.trans (by cbv) (by(try simp only[mkA])<;>rfl)⟩:GX Tryz.prog 144 Tryz.f144).1
def a148:AFn:=(⟨_,.trans (by cbv) (by(try simp only[mkA])<;>rfl)⟩:GX Tryz.prog 148 Tryz.f148).1
def a152:AFn:=(⟨_,.trans (by cbv) (by(try simp only[mkA])<;>rfl)⟩:GX Tryz.prog 152 Tryz.f152).1
def a156:AFn:=(⟨_,.trans (by cbv) (by(try simp only[mkA])<;>rfl)⟩:GX Tryz.prog 156 Tryz.f156).1
def a160:AFn:=(⟨_,.trans (by cbv) (by(try simp only[mkA])<;>rfl)⟩:GX Tryz.prog 160 Tryz.f160).1
def a166:AFn:=(⟨_,.trans (by cbv) (by(try simp only[mkA])<;>rfl)⟩:GX Tryz.prog 166 Tryz.f166).1
def a170:AFn:=(⟨_,.trans (by cbv) (by(try simp only[mkA])<;>rfl)⟩:GX Tryz.prog 170 Tryz.f170).1
def a175:AFn:=(⟨_,.trans (by cbv) (by(try simp only[mkA])<;>rfl)⟩:GX Tryz.prog 175 Tryz.f175).1
def a181:AFn:=(⟨_,.trans (by cbv) (by(try simp only[mkA])<;>rfl)⟩:GX Tryz.prog 181 Tryz.f181).1
def a186:AFn:=(⟨_,.trans (by cbv) (by(try simp only[mkA])<;>rfl)⟩:GX Tryz.prog 186 Tryz.f186).1
def a190:AFn:=(⟨_,.trans (by cbv) (by(try simp only[mkA])<;>rfl)⟩:GX Tryz.prog 190 Tryz.f190).1
end Go.Proofs.YP
