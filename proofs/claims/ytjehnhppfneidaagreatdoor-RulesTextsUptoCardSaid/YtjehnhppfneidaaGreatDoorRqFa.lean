/- Short forms of functions, reckoned out of the program. -/
import Derived.Test.YtjehnhppfneidaaGreatDoorRqa
import Derived.Test.YtjehnhppfneidaaGreatDoorProg
namespace Go.Proofs.YP
open Go
set_option maxRecDepth 100000
set_option maxHeartbeats 40000000
def a12:AFn:=(⟨_,.trans (by cbv) (by(try simp only[mkA])<;>rfl)⟩:GX Tryz.prog 12 Tryz.f12).1
def a24:AFn:=(⟨_,.trans (by cbv) (by(try simp only[mkA])<;>rfl)⟩:GX Tryz.prog 24 Tryz.f24).1
def a34:AFn:=(⟨_,.trans (by cbv) (by(try simp only[mkA])<;>rfl)⟩:GX Tryz.prog 34 Tryz.f34).1
def a45:AFn:=(⟨_,.trans (by cbv) (by(try simp only[mkA])<;>rfl)⟩:GX Tryz.prog 45 Tryz.f45).1
def a49:AFn:=(⟨_,.trans (by cbv) (by(try simp only[mkA])<;>rfl)⟩:GX Tryz.prog 49 Tryz.f49).1
def a53:AFn:=(⟨_,.trans (by cbv) (by(try simp only[mkA])<;>rfl)⟩:GX Tryz.prog 53 Tryz.f53).1
def a57:AFn:=(⟨_,.trans (by cbv) (by(try simp only[mkA])<;>rfl)⟩:GX Tryz.prog 57 Tryz.f57).1
def a62:AFn:=(⟨_,.trans (by cbv) (by(try simp only[mkA])<;>rfl)⟩:GX Tryz.prog 62 Tryz.f62).1
def a70:AFn:=(⟨_,.trans (by cbv) (by(try simp only[mkA])<;>rfl)⟩:GX Tryz.prog 70 Tryz.f70).1
def a74:AFn:=(⟨_,.trans (by cbv) (by(try simp only[mkA])<;>rfl)⟩:GX Tryz.prog 74 Tryz.f74).1
def a78:AFn:=(⟨_,.trans (by cbv) (by(try simp only[mkA])<;>rfl)⟩:GX Tryz.prog 78 Tryz.f78).1
def a82:AFn:=(⟨_,.trans (by cbv) (by(try simp only[mkA])<;>rfl)⟩:GX Tryz.prog 82 Tryz.f82).1
def a86:AFn:=(⟨_,.trans (by cbv) (by(try simp only[mkA])<;>rfl)⟩:GX Tryz.prog 86 Tryz.f86).1
def a90:AFn:=(⟨_,.trans (by cbv) (by(try simp only[mkA])<;>rfl)⟩:GX Tryz.prog 90 Tryz.f90).1
def a94:AFn:=(⟨_,.trans (by cbv) (by(try simp only[mkA])<;>rfl)⟩:GX Tryz.prog 94 Tryz.f94).1
def a98:AFn:=(⟨_,.trans (by cbv) (by(try simp only[mkA])<;>rfl)⟩:GX Tryz.prog 98 Tryz.f98).1
def a105:AFn:=(⟨_,.trans (by cbv) (by(try simp only[mkA])<;>rfl)⟩:GX Tryz.prog 105 Tryz.f105).1
def a109:AFn:=(⟨_,.trans (by cbv) (by(try simp only[mkA])<;>rfl)⟩:GX Tryz.prog 109 Tryz.f109).1
def a113:AFn:=(⟨_,.trans (by cbv) (by(try simp only[mkA])<;>rfl)⟩:GX Tryz.prog 113 Tryz.f113).1
def a117:AFn:=(⟨_,.trans (by cbv) (by(try simp only[mkA])<;>rfl)⟩:GX Tryz.prog 117 Tryz.f117).1
def a121:AFn:=(⟨_,.trans (by cbv) (by(try simp only[mkA])<;>rfl)⟩:GX Tryz.prog 121 Tryz.f121).1
def a125:AFn:=(⟨_,.trans (by cbv) (by(try simp only[mkA])<;>rfl)⟩:GX Tryz.prog 125 Tryz.f125).1
def a129:AFn:=(⟨_,.trans (by cbv) (by(try simp only[mkA])<;>rfl)⟩:GX Tryz.prog 129 Tryz.f129).1
def a133:AFn:=(⟨_,.trans (by cbv) (by(try simp only[mkA])<;>rfl)⟩:GX Tryz.prog 133 Tryz.f133).1
def a137:AFn:=(⟨_,.trans (by cbv) (by(try simp only[mkA])<;>rfl)⟩:GX Tryz.prog 137 Tryz.f137).1
def a141:AFn:=(⟨_,.trans (by cbv) (by(try simp only[mkA])<;>rfl)⟩:GX Tryz.prog 141 Tryz.f141).1
def a145:AFn:=(⟨_,.trans (by cbv) (by(try simp only[mkA])<;>rfl)⟩:GX Tryz.prog 145 Tryz.f145).1
def a149:AFn:=(⟨_,.trans (by cbv) (by(try simp only[mkA])<;>rfl)⟩:GX Tryz.prog 149 Tryz.f149).1
def a153:AFn:=(⟨_,.trans (by cbv) (by(try simp only[mkA])<;>rfl)⟩:GX Tryz.prog 153 Tryz.f153).1
def a157:AFn:=(⟨_,.trans (by cbv) (by(try simp only[mkA])<;>rfl)⟩:GX Tryz.prog 157 Tryz.f157).1
def a163:AFn:=(⟨_,.trans (by cbv) (by(try simp only[mkA])<;>rfl)⟩:GX Tryz.prog 163 Tryz.f163).1
def a167:AFn:=(⟨_,.trans (by cbv) (by(try simp only[mkA])<;>rfl)⟩:GX Tryz.prog 167 Tryz.f167).1
def a171:AFn:=(⟨_,.trans (by cbv) (by(try simp only[mkA])<;>rfl)⟩:GX Tryz.prog 171 Tryz.f171).1
def a176:AFn:=(⟨_,.trans (by cbv) (by(try simp only[mkA])<;>rfl)⟩:GX Tryz.prog 176 Tryz.f176).1
def a182:AFn:=(⟨_,.trans (by cbv) (by(try simp only[mkA])<;>rfl)⟩:GX Tryz.prog 182 Tryz.f182).1
def a187:AFn:=(⟨_,.trans (by cbv) (by(try simp only[mkA])<;>rfl)⟩:GX Tryz.prog 187 Tryz.f187).1
end Go.Proofs.YP
