/- Short forms of functions, reckoned out of the program. -/
import Derived.Test.YtjehnhppfneidaaGreatDoorRqa
import Derived.Test.YtjehnhppfneidaaGreatDoorProg
namespace Go.Proofs.YP
open Go
set_option maxRecDepth 100000
set_option maxHeartbeats 40000000
def a20:AFn:=(⟨_,.trans (by cbv) (by(try simp only[mkA])<;>rfl)⟩:GX Tryz.prog 20 Tryz.f20).1
def a27:AFn:=(⟨_,.trans (by cbv) (by(try simp only[mkA])<;>rfl)⟩:GX Tryz.prog 27 Tryz.f27).1
def a35:AFn:=(⟨_,.trans (by cbv) (by(try simp only[mkA])<;>rfl)⟩:GX Tryz.prog 35 Tryz.f35).1
def a46:AFn:=(⟨_,.trans (by cbv) (by(try simp only[mkA])<;>rfl)⟩:GX Tryz.prog 46 Tryz.f46).1
def a50:AFn:=(⟨_,.trans (by cbv) (by(try simp only[mkA])<;>rfl)⟩:GX Tryz.prog 50 Tryz.f50).1
def a54:AFn:=(⟨_,.trans (by cbv) (by(try simp only[mkA])<;>rfl)⟩:GX Tryz.prog 54 Tryz.f54).1
def a58:AFn:=(⟨_,.trans (by cbv) (by(try simp only[mkA])<;>rfl)⟩:GX Tryz.prog 58 Tryz.f58).1
def a63:AFn:=(⟨_,.trans (by cbv) (by(try simp only[mkA])<;>rfl)⟩:GX Tryz.prog 63 Tryz.f63).1
def a71:AFn:=(⟨_,.trans (by cbv) (by(try simp only[mkA])<;>rfl)⟩:GX Tryz.prog 71 Tryz.f71).1
def a75:AFn:=(⟨_,.trans (by cbv) (by(try simp only[mkA])<;>rfl)⟩:GX Tryz.prog 75 Tryz.f75).1
def a79:AFn:=(⟨_,.trans (by cbv) (by(try simp only[mkA])<;>rfl)⟩:GX Tryz.prog 79 Tryz.f79).1
def a83:AFn:=(⟨_,.trans (by cbv) (by(try simp only[mkA])<;>rfl)⟩:GX Tryz.prog 83 Tryz.f83).1
def a87:AFn:=(⟨_,.trans (by cbv) (by(try simp only[mkA])<;>rfl)⟩:GX Tryz.prog 87 Tryz.f87).1
def a91:AFn:=(⟨_,.trans (by cbv) (by(try simp only[mkA])<;>rfl)⟩:GX Tryz.prog 91 Tryz.f91).1
def a95:AFn:=(⟨_,.trans (by cbv) (by(try simp only[mkA])<;>rfl)⟩:GX Tryz.prog 95 Tryz.f95).1
def a99:AFn:=(⟨_,.trans (by cbv) (by(try simp only[mkA])<;>rfl)⟩:GX Tryz.prog 99 Tryz.f99).1
def a106:AFn:=(⟨_,.trans (by cbv) (by(try simp only[mkA])<;>rfl)⟩:GX Tryz.prog 106 Tryz.f106).1
def a110:AFn:=(⟨_,.trans (by cbv) (by(try simp only[mkA])<;>rfl)⟩:GX Tryz.prog 110 Tryz.f110).1
def a114:AFn:=(⟨_,.trans (by cbv) (by(try simp only[mkA])<;>rfl)⟩:GX Tryz.prog 114 Tryz.f114).1
def a118:AFn:=(⟨_,.trans (by cbv) (by(try simp only[mkA])<;>rfl)⟩:GX Tryz.prog 118 Tryz.f118).1
def a122:AFn:=(⟨_,.trans (by cbv) (by(try simp only[mkA])<;>rfl)⟩:GX Tryz.prog 122 Tryz.f122).1
def a126:AFn:=(⟨_,.trans (by cbv) (by(try simp only[mkA])<;>rfl)⟩:GX Tryz.prog 126 Tryz.f126).1
def a130:AFn:=(⟨_,.trans (by cbv) (by(try simp only[mkA])<;>rfl)⟩:GX Tryz.prog 130 Tryz.f130).1
def a134:AFn:=(⟨_,.trans (by cbv) (by(try simp only[mkA])<;>rfl)⟩:GX Tryz.prog 134 Tryz.f134).1
def a138:AFn:=(⟨_,.trans (by cbv) (by(try simp only[mkA])<;>rfl)⟩:GX Tryz.prog 138 Tryz.f138).1
def a142:AFn:=(⟨_,.trans (by cbv) (by(try simp only[mkA])<;>rfl)⟩:GX Tryz.prog 142 Tryz.f142).1
def a146:AFn:=(⟨_,.trans (by cbv) (by(try simp only[mkA])<;>rfl)⟩:GX Tryz.prog 146 Tryz.f146).1
def a150:AFn:=(⟨_,.trans (by cbv) (by(try simp only[mkA])<;>rfl)⟩:GX Tryz.prog 150 Tryz.f150).1
def a154:AFn:=(⟨_,.trans (by cbv) (by(try simp only[mkA])<;>rfl)⟩:GX Tryz.prog 154 Tryz.f154).1
def a158:AFn:=(⟨_,.trans (by cbv) (by(try simp only[mkA])<;>rfl)⟩:GX Tryz.prog 158 Tryz.f158).1
def a164:AFn:=(⟨_,.trans (by cbv) (by(try simp only[mkA])<;>rfl)⟩:GX Tryz.prog 164 Tryz.f164).1
def a168:AFn:=(⟨_,.trans (by cbv) (by(try simp only[mkA])<;>rfl)⟩:GX Tryz.prog 168 Tryz.f168).1
def a172:AFn:=(⟨_,.trans (by cbv) (by(try simp only[mkA])<;>rfl)⟩:GX Tryz.prog 172 Tryz.f172).1
def a177:AFn:=(⟨_,.trans (by cbv) (by(try simp only[mkA])<;>rfl)⟩:GX Tryz.prog 177 Tryz.f177).1
def a184:AFn:=(⟨_,.trans (by cbv) (by(try simp only[mkA])<;>rfl)⟩:GX Tryz.prog 184 Tryz.f184).1
def a188:AFn:=(⟨_,.trans (by cbv) (by(try simp only[mkA])<;>rfl)⟩:GX Tryz.prog 188 Tryz.f188).1
end Go.Proofs.YP
