/- Short forms of functions, reckoned out of the program. -/
import Derived.Test.YtjehnhppfneidaaGreatDoorRqa
import Derived.Test.YtjehnhppfneidaaGreatDoorProg
namespace Go.Proofs.YP
open Go
set_option maxRecDepth 100000
set_option maxHeartbeats 40000000
def a21:AFn:=(⟨_,.trans (by cbv) (by(try simp only[mkA])<;>rfl)⟩:GX Tryz.prog 21 Tryz.f21).1
def a32:AFn:=(⟨_,.trans (by cbv) (by(try simp only[mkA])<;>rfl)⟩:GX Tryz.prog 32 Tryz.f32).1
def a41:AFn:=(⟨_,.trans (by cbv) (by(try simp only[mkA])<;>rfl)⟩:GX Tryz.prog 41 Tryz.f41).1
def a47:AFn:=(⟨_,.trans (by cbv) (by(try simp only[mkA])<;>rfl)⟩:GX Tryz.prog 47 Tryz.f47).1
def a51:AFn:=(⟨_,.trans (by cbv) (by(try simp only[mkA])<;>rfl)⟩:GX Tryz.prog 51 Tryz.f51).1
def a55:AFn:=(⟨_,.trans (by cbv) (by(try simp only[mkA])<;>rfl)⟩:GX Tryz.prog 55 Tryz.f55).1
def a60:AFn:=(⟨_,.trans (by cbv) (by(try simp only[mkA])<;>rfl)⟩:GX Tryz.prog 60 Tryz.f60).1
def a68:AFn:=(⟨_,.trans (by cbv) (by(try simp only[mkA])<;>rfl)⟩:GX Tryz.prog 68 Tryz.f68).1
def a72:AFn:=(⟨_,.trans (by cbv) (by(try simp only[mkA])<;>rfl)⟩:GX Tryz.prog 72 Tryz.f72).1
def a76:AFn:=(⟨_,.trans (by cbv) (by(try simp only[mkA])<;>rfl)⟩:GX Tryz.prog 76 Tryz.f76).1
def a80:AFn:=(⟨_,.trans (by cbv) (by(try simp only[mkA])<;>rfl)⟩:GX Tryz.prog 80 Tryz.f80).1
def a84:AFn:=(⟨_,.trans (by cbv) (by(try simp only[mkA])<;>rfl)⟩:GX Tryz.prog 84 Tryz.f84).1
def a88:AFn:=(⟨_,.trans (by cbv) (by(try simp only[mkA])<;>rfl)⟩:GX Tryz.prog 88 Tryz.f88).1
def a92:AFn:=(⟨_,.trans (by cbv) (by(try simp only[mkA])<;>rfl)⟩:GX Tryz.prog 92 Tryz.f92).1
def a96:AFn:=(⟨_,.trans (by cbv) (by(try simp only[mkA])<;>rfl)⟩:GX Tryz.prog 96 Tryz.f96).1
def a103:AFn:=(⟨_,.trans (by cbv) (by(try simp only[mkA])<;>rfl)⟩:GX Tryz.prog 103 Tryz.f103).1
def a107:AFn:=(⟨_,.trans (by cbv) (by(try simp only[mkA])<;>rfl)⟩:GX Tryz.prog 107 Tryz.f107).1
def a111:AFn:=(⟨_,.trans (by cbv) (by(try simp only[mkA])<;>rfl)⟩:GX Tryz.prog 111 Tryz.f111).1
def a115:AFn:=(⟨_,.trans (by cbv) (by(try simp only[mkA])<;>rfl)⟩:GX Tryz.prog 115 Tryz.f115).1
def a119:AFn:=(⟨_,.trans (by cbv) (by(try simp only[mkA])<;>rfl)⟩:GX Tryz.prog 119 Tryz.f119).1
def a123:AFn:=(⟨_,.trans (by cbv) (by(try simp only[mkA])<;>rfl)⟩:GX Tryz.prog 123 Tryz.f123).1
def a127:AFn:=(⟨_,.trans (by cbv) (by(try simp only[mkA])<;>rfl)⟩:GX Tryz.prog 127 Tryz.f127).1
def a131:AFn:=(⟨_,.trans (by cbv) (by(try simp only[mkA])<;>rfl)⟩:GX Tryz.prog 131 Tryz.f131).1
def a135:AFn:=(⟨_,.trans (by cbv) (by(try simp only[mkA])<;>rfl)⟩:GX Tryz.prog 135 Tryz.f135).1
def a139:AFn:=(⟨_,.trans (by cbv) (by(try simp only[mkA])<;>rfl)⟩:GX Tryz.prog 139 Tryz.f139).1
def a143:AFn:=(⟨_,.trans (by cbv) (by(try simp only[mkA])<;>rfl)⟩:GX Tryz.prog 143 Tryz.f143).1
def a147:AFn:=(⟨_,.trans (by cbv) (by(try simp only[mkA])<;>rfl)⟩:GX Tryz.prog 147 Tryz.f147).1
def a151:AFn:=(⟨_,.trans (by cbv) (by(try simp only[mkA])<;>rfl)⟩:GX Tryz.prog 151 Tryz.f151).1
def a155:AFn:=(⟨_,.trans (by cbv) (by(try simp only[mkA])<;>rfl)⟩:GX Tryz.prog 155 Tryz.f155).1
def a159:AFn:=(⟨_,.trans (by cbv) (by(try simp only[mkA])<;>rfl)⟩:GX Tryz.prog 159 Tryz.f159).1
def a165:AFn:=(⟨_,.trans (by cbv) (by(try simp only[mkA])<;>rfl)⟩:GX Tryz.prog 165 Tryz.f165).1
def a169:AFn:=(⟨_,.trans (by cbv) (by(try simp only[mkA])<;>rfl)⟩:GX Tryz.prog 169 Tryz.f169).1
def a173:AFn:=(⟨_,.trans (by cbv) (by(try simp only[mkA])<;>rfl)⟩:GX Tryz.prog 173 Tryz.f173).1
def a178:AFn:=(⟨_,.trans (by cbv) (by(try simp only[mkA])<;>rfl)⟩:GX Tryz.prog 178 Tryz.f178).1
def a185:AFn:=(⟨_,.trans (by cbv) (by(try simp only[mkA])<;>rfl)⟩:GX Tryz.prog 185 Tryz.f185).1
def a189:AFn:=(⟨_,.trans (by cbv) (by(try simp only[mkA])<;>rfl)⟩:GX Tryz.prog 189 Tryz.f189).1
end Go.Proofs.YP
