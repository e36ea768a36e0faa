/- Texts that the laws of the seat rest on: an abstract machine, what the functions answer in it, plain laws. -/
import Derived.Test.YtjehnhppfneidaaGreatDoorRqd
import Derived.Test.YtjehnhppfneidaaGreatDoorProg
import Derived.KernelRfl
set_option linter.unusedVariables false
set_option linter.unusedSimpArgs false
set_option linter.unusedSectionVars false
namespace Go.Proofs.YP
open Go
theorem ck12:ckFn Tryz.prog tabs Tryz.f12 a12=true:=by kernel_rfl
theorem ck20:ckFn Tryz.prog tabs Tryz.f20 a20=true:=by kernel_rfl
theorem ck21:ckFn Tryz.prog tabs Tryz.f21 a21=true:=by kernel_rfl
theorem ck22:ckFn Tryz.prog tabs Tryz.f22 a22=true:=by kernel_rfl
theorem ck24:ckFn Tryz.prog tabs Tryz.f24 a24=true:=by kernel_rfl
theorem ck27:ckFn Tryz.prog tabs Tryz.f27 a27=true:=by kernel_rfl
theorem ck32:ckFn Tryz.prog tabs Tryz.f32 a32=true:=by kernel_rfl
theorem ck33:ckFn Tryz.prog tabs Tryz.f33 a33=true:=by kernel_rfl
theorem ck34:ckFn Tryz.prog tabs Tryz.f34 a34=true:=by kernel_rfl
theorem ck35:ckFn Tryz.prog tabs Tryz.f35 a35=true:=by kernel_rfl
theorem ck41:ckFn Tryz.prog tabs Tryz.f41 a41=true:=by kernel_rfl
theorem ck44:ckFn Tryz.prog tabs Tryz.f44 a44=true:=by kernel_rfl
theorem ck45:ckFn Tryz.prog tabs Tryz.f45 a45=true:=by kernel_rfl
theorem ck46:ckFn Tryz.prog tabs Tryz.f46 a46=true:=by kernel_rfl
theorem ck47:ckFn Tryz.prog tabs Tryz.f47 a47=true:=by kernel_rfl
theorem ck48:ckFn Tryz.prog tabs Tryz.f48 a48=true:=by kernel_rfl
theorem ck49:ckFn Tryz.prog tabs Tryz.f49 a49=true:=by kernel_rfl
theorem ck50:ckFn Tryz.prog tabs Tryz.f50 a50=true:=by kernel_rfl
theorem ck51:ckFn Tryz.prog tabs Tryz.f51 a51=true:=by kernel_rfl
theorem ck52:ckFn Tryz.prog tabs Tryz.f52 a52=true:=by kernel_rfl
theorem ck53:ckFn Tryz.prog tabs Tryz.f53 a53=true:=by kernel_rfl
theorem ck54:ckFn Tryz.prog tabs Tryz.f54 a54=true:=by kernel_rfl
theorem ck55:ckFn Tryz.prog tabs Tryz.f55 a55=true:=by kernel_rfl
theorem ck56:ckFn Tryz.prog tabs Tryz.f56 a56=true:=by kernel_rfl
theorem ck57:ckFn Tryz.prog tabs Tryz.f57 a57=true:=by kernel_rfl
theorem ck58:ckFn Tryz.prog tabs Tryz.f58 a58=true:=by kernel_rfl
theorem ck60:ckFn Tryz.prog tabs Tryz.f60 a60=true:=by kernel_rfl
theorem ck61:ckFn Tryz.prog tabs Tryz.f61 a61=true:=by kernel_rfl
theorem ck62:ckFn Tryz.prog tabs Tryz.f62 a62=true:=by kernel_rfl
theorem ck63:ckFn Tryz.prog tabs Tryz.f63 a63=true:=by kernel_rfl
theorem ck68:ckFn Tryz.prog tabs Tryz.f68 a68=true:=by kernel_rfl
theorem ck69:ckFn Tryz.prog tabs Tryz.f69 a69=true:=by kernel_rfl
theorem ck70:ckFn Tryz.prog tabs Tryz.f70 a70=true:=by kernel_rfl
theorem ck71:ckFn Tryz.prog tabs Tryz.f71 a71=true:=by kernel_rfl
theorem ck72:ckFn Tryz.prog tabs Tryz.f72 a72=true:=by kernel_rfl
theorem ck73:ckFn Tryz.prog tabs Tryz.f73 a73=true:=by kernel_rfl
theorem ck74:ckFn Tryz.prog tabs Tryz.f74 a74=true:=by kernel_rfl
theorem ck75:ckFn Tryz.prog tabs Tryz.f75 a75=true:=by kernel_rfl
theorem ck76:ckFn Tryz.prog tabs Tryz.f76 a76=true:=by kernel_rfl
theorem ck77:ckFn Tryz.prog tabs Tryz.f77 a77=true:=by kernel_rfl
theorem ck78:ckFn Tryz.prog tabs Tryz.f78 a78=true:=by kernel_rfl
theorem ck79:ckFn Tryz.prog tabs Tryz.f79 a79=true:=by kernel_rfl
theorem ck80:ckFn Tryz.prog tabs Tryz.f80 a80=true:=by kernel_rfl
theorem ck81:ckFn Tryz.prog tabs Tryz.f81 a81=true:=by kernel_rfl
theorem ck82:ckFn Tryz.prog tabs Tryz.f82 a82=true:=by kernel_rfl
theorem ck83:ckFn Tryz.prog tabs Tryz.f83 a83=true:=by kernel_rfl
theorem ck84:ckFn Tryz.prog tabs Tryz.f84 a84=true:=by kernel_rfl
theorem ck85:ckFn Tryz.prog tabs Tryz.f85 a85=true:=by kernel_rfl
theorem ck86:ckFn Tryz.prog tabs Tryz.f86 a86=true:=by kernel_rfl
theorem ck87:ckFn Tryz.prog tabs Tryz.f87 a87=true:=by kernel_rfl
theorem ck88:ckFn Tryz.prog tabs Tryz.f88 a88=true:=by kernel_rfl
theorem ck89:ckFn Tryz.prog tabs Tryz.f89 a89=true:=by kernel_rfl
theorem ck90:ckFn Tryz.prog tabs Tryz.f90 a90=true:=by kernel_rfl
theorem ck91:ckFn Tryz.prog tabs Tryz.f91 a91=true:=by kernel_rfl
theorem ck92:ckFn Tryz.prog tabs Tryz.f92 a92=true:=by kernel_rfl
theorem ck93:ckFn Tryz.prog tabs Tryz.f93 a93=true:=by kernel_rfl
theorem ck94:ckFn Tryz.prog tabs Tryz.f94 a94=true:=by kernel_rfl
theorem ck95:ckFn Tryz.prog tabs Tryz.f95 a95=true:=by kernel_rfl
theorem ck96:ckFn Tryz.prog tabs Tryz.f96 a96=true:=by kernel_rfl
theorem ck97:ckFn Tryz.prog tabs Tryz.f97 a97=true:=by kernel_rfl
theorem ck98:ckFn Tryz.prog tabs Tryz.f98 a98=true:=by kernel_rfl
theorem ck99:ckFn Tryz.prog tabs Tryz.f99 a99=true:=by kernel_rfl
theorem Jg6:ckFn Tryz.prog tabs Tryz.f103 a103=true:=by kernel_rfl
theorem Jg5:ckFn Tryz.prog tabs Tryz.f104 a104=true:=by kernel_rfl
theorem Jg4:ckFn Tryz.prog tabs Tryz.f105 a105=true:=by kernel_rfl
theorem Jg3:ckFn Tryz.prog tabs Tryz.f106 a106=true:=by kernel_rfl
theorem Jg2:ckFn Tryz.prog tabs Tryz.f107 a107=true:=by kernel_rfl
theorem Jg1:ckFn Tryz.prog tabs Tryz.f108 a108=true:=by kernel_rfl
theorem Jg0:ckFn Tryz.prog tabs Tryz.f109 a109=true:=by kernel_rfl
theorem Jgz:ckFn Tryz.prog tabs Tryz.f110 a110=true:=by kernel_rfl
theorem Jgy:ckFn Tryz.prog tabs Tryz.f111 a111=true:=by kernel_rfl
theorem Jgx:ckFn Tryz.prog tabs Tryz.f112 a112=true:=by kernel_rfl
theorem Jgw:ckFn Tryz.prog tabs Tryz.f113 a113=true:=by kernel_rfl
theorem Jgv:ckFn Tryz.prog tabs Tryz.f114 a114=true:=by kernel_rfl
theorem Jgu:ckFn Tryz.prog tabs Tryz.f115 a115=true:=by kernel_rfl
theorem Jgt:ckFn Tryz.prog tabs Tryz.f116 a116=true:=by kernel_rfl
theorem Jgs:ckFn Tryz.prog tabs Tryz.f117 a117=true:=by kernel_rfl
theorem Jgr:ckFn Tryz.prog tabs Tryz.f118 a118=true:=by kernel_rfl
theorem Jgq:ckFn Tryz.prog tabs Tryz.f119 a119=true:=by kernel_rfl
theorem Jgp:ckFn Tryz.prog tabs Tryz.f120 a120=true:=by kernel_rfl
theorem Jgo:ckFn Tryz.prog tabs Tryz.f121 a121=true:=by kernel_rfl
theorem Jgn:ckFn Tryz.prog tabs Tryz.f122 a122=true:=by kernel_rfl
theorem Jgm:ckFn Tryz.prog tabs Tryz.f123 a123=true:=by kernel_rfl
theorem Jgl:ckFn Tryz.prog tabs Tryz.f124 a124=true:=by kernel_rfl
theorem Jgk:ckFn Tryz.prog tabs Tryz.f125 a125=true:=by kernel_rfl
theorem Jgj:ckFn Tryz.prog tabs Tryz.f126 a126=true:=by kernel_rfl
theorem Jgi:ckFn Tryz.prog tabs Tryz.f127 a127=true:=by kernel_rfl
theorem Jgh:ckFn Tryz.prog tabs Tryz.f128 a128=true:=by kernel_rfl
theorem Jgg:ckFn Tryz.prog tabs Tryz.f129 a129=true:=by kernel_rfl
theorem Jgf:ckFn Tryz.prog tabs Tryz.f130 a130=true:=by kernel_rfl
theorem Jge:ckFn Tryz.prog tabs Tryz.f131 a131=true:=by kernel_rfl
theorem Jgd:ckFn Tryz.prog tabs Tryz.f132 a132=true:=by kernel_rfl
theorem Jgc:ckFn Tryz.prog tabs Tryz.f133 a133=true:=by kernel_rfl
theorem Jgb:ckFn Tryz.prog tabs Tryz.f134 a134=true:=by kernel_rfl
theorem Jga:ckFn Tryz.prog tabs Tryz.f135 a135=true:=by kernel_rfl
theorem Jf9:ckFn Tryz.prog tabs Tryz.f136 a136=true:=by kernel_rfl
theorem Jf8:ckFn Tryz.prog tabs Tryz.f137 a137=true:=by kernel_rfl
theorem Jf7:ckFn Tryz.prog tabs Tryz.f138 a138=true:=by kernel_rfl
theorem Jf6:ckFn Tryz.prog tabs Tryz.f139 a139=true:=by kernel_rfl
theorem Jf5:ckFn Tryz.prog tabs Tryz.f140 a140=true:=by kernel_rfl
theorem Jf4:ckFn Tryz.prog tabs Tryz.f141 a141=true:=by kernel_rfl
theorem Jf3:ckFn Tryz.prog tabs Tryz.f142 a142=true:=by kernel_rfl
theorem Jf2:ckFn Tryz.prog tabs Tryz.f143 a143=true:=by kernel_rfl
theorem Jj0:ckFn Tryz.prog tabs Tryz.f144 a144=true:=by kernel_rfl
theorem Jf1:ckFn Tryz.prog tabs Tryz.f145 a145=true:=by kernel_rfl
theorem Jf0:ckFn Tryz.prog tabs Tryz.f146 a146=true:=by kernel_rfl
theorem Jfz:ckFn Tryz.prog tabs Tryz.f147 a147=true:=by kernel_rfl
theorem Jfy:ckFn Tryz.prog tabs Tryz.f148 a148=true:=by kernel_rfl
theorem Jfx:ckFn Tryz.prog tabs Tryz.f149 a149=true:=by kernel_rfl
theorem Jfw:ckFn Tryz.prog tabs Tryz.f150 a150=true:=by kernel_rfl
theorem Jfv:ckFn Tryz.prog tabs Tryz.f151 a151=true:=by kernel_rfl
theorem Jfu:ckFn Tryz.prog tabs Tryz.f152 a152=true:=by kernel_rfl
theorem Jft:ckFn Tryz.prog tabs Tryz.f153 a153=true:=by kernel_rfl
theorem Jfs:ckFn Tryz.prog tabs Tryz.f154 a154=true:=by kernel_rfl
theorem Jfr:ckFn Tryz.prog tabs Tryz.f155 a155=true:=by kernel_rfl
theorem Jfq:ckFn Tryz.prog tabs Tryz.f156 a156=true:=by kernel_rfl
theorem Jfp:ckFn Tryz.prog tabs Tryz.f157 a157=true:=by kernel_rfl
theorem Jfo:ckFn Tryz.prog tabs Tryz.f158 a158=true:=by kernel_rfl
theorem Jfn:ckFn Tryz.prog tabs Tryz.f159 a159=true:=by kernel_rfl
theorem Jfm:ckFn Tryz.prog tabs Tryz.f160 a160=true:=by kernel_rfl
theorem Jfl:ckFn Tryz.prog tabs Tryz.f163 a163=true:=by kernel_rfl
theorem Jfk:ckFn Tryz.prog tabs Tryz.f164 a164=true:=by kernel_rfl
theorem Jfj:ckFn Tryz.prog tabs Tryz.f165 a165=true:=by kernel_rfl
theorem Jfi:ckFn Tryz.prog tabs Tryz.f166 a166=true:=by kernel_rfl
theorem Jfh:ckFn Tryz.prog tabs Tryz.f167 a167=true:=by kernel_rfl
theorem Jfg:ckFn Tryz.prog tabs Tryz.f168 a168=true:=by kernel_rfl
theorem Jff:ckFn Tryz.prog tabs Tryz.f169 a169=true:=by kernel_rfl
theorem Jfe:ckFn Tryz.prog tabs Tryz.f170 a170=true:=by kernel_rfl
theorem Jfd:ckFn Tryz.prog tabs Tryz.f171 a171=true:=by kernel_rfl
theorem Jfc:ckFn Tryz.prog tabs Tryz.f172 a172=true:=by kernel_rfl
theorem Jfb:ckFn Tryz.prog tabs Tryz.f173 a173=true:=by kernel_rfl
theorem Jfa:ckFn Tryz.prog tabs Tryz.f175 a175=true:=by kernel_rfl
theorem Je9:ckFn Tryz.prog tabs Tryz.f176 a176=true:=by kernel_rfl
theorem Je8:ckFn Tryz.prog tabs Tryz.f177 a177=true:=by kernel_rfl
theorem Je7:ckFn Tryz.prog tabs Tryz.f178 a178=true:=by kernel_rfl
theorem Je6:ckFn Tryz.prog tabs Tryz.f181 a181=true:=by kernel_rfl
theorem Je5:ckFn Tryz.prog tabs Tryz.f182 a182=true:=by kernel_rfl
theorem Je4:ckFn Tryz.prog tabs Tryz.f184 a184=true:=by kernel_rfl
theorem Je3:ckFn Tryz.prog tabs Tryz.f185 a185=true:=by kernel_rfl
theorem Je2:ckFn Tryz.prog tabs Tryz.f186 a186=true:=by kernel_rfl
theorem Je1:ckFn Tryz.prog tabs Tryz.f187 a187=true:=by kernel_rfl
theorem Je0:ckFn Tryz.prog tabs Tryz.f188 a188=true:=by kernel_rfl
theorem Jez:ckFn Tryz.prog tabs Tryz.f189 a189=true:=by kernel_rfl
theorem Jey:ckFn Tryz.prog tabs Tryz.f190 a190=true:=by kernel_rfl
def OKf(p:Nat×AFn):Prop:=∃F,Tryz.prog.funcs[p.1]?=some F/\ckFn Tryz.prog tabs F p.2=true/\(F.name != "runtime.NumGoroutine")=true
def AllOK:List (Nat×AFn)->Prop
 |[]=>True
 |p::l=>OKf p/\AllOK l
theorem AllOK.mem:∀{l:List (Nat×AFn)},AllOK l->∀p∈l,OKf p
 |[],_,p,h=>by cases h
 |q::l,⟨h1,h2⟩,p,h=>by
  rcases List.mem_cons.1 h with rfl|h
  ·exact h1
  ·exact AllOK.mem h2 p h
theorem tabOK:AllOK fnTab:=
 ⟨⟨_,Tryz.func12,ck12,by kernel_rfl⟩,⟨⟨_,Tryz.func20,ck20,by kernel_rfl⟩,⟨⟨_,Tryz.func21,ck21,by kernel_rfl⟩,⟨⟨_,Tryz.func22,ck22,by kernel_rfl⟩,⟨⟨_,Tryz.func24,ck24,by kernel_rfl⟩,⟨⟨_,Tryz.func27,ck27,by kernel_rfl⟩,⟨⟨_,Tryz.func32,ck32,by kernel_rfl⟩,⟨⟨_,Tryz.func33,ck33,by kernel_rfl⟩,⟨⟨_,Tryz.func34,ck34,by kernel_rfl⟩,⟨⟨_,Tryz.func35,ck35,by kernel_rfl⟩,⟨⟨_,Tryz.func41,ck41,by kernel_rfl⟩,⟨⟨_,Tryz.func44,ck44,by kernel_rfl⟩,⟨⟨_,Tryz.func45,ck45,by kernel_rfl⟩,⟨⟨_,Tryz.func46,ck46,by kernel_rfl⟩,⟨⟨_,Tryz.func47,ck47,by kernel_rfl⟩,⟨⟨_,Tryz.func48,ck48,by kernel_rfl⟩,⟨⟨_,Tryz.func49,ck49,by kernel_rfl⟩,⟨⟨_,Tryz.func50,ck50,by kernel_rfl⟩,⟨⟨_,Tryz.func51,ck51,by kernel_rfl⟩,⟨⟨_,Tryz.func52,ck52,by kernel_rfl⟩,⟨⟨_,Tryz.func53,ck53,by kernel_rfl⟩,⟨⟨_,Tryz.func54,ck54,by kernel_rfl⟩,⟨⟨_,Tryz.func55,ck55,by kernel_rfl⟩,⟨⟨_,Tryz.func56,ck56,by kernel_rfl⟩,⟨⟨_,Tryz.func57,ck57,by kernel_rfl⟩,⟨⟨_,Tryz.func58,ck58,by kernel_rfl⟩,⟨⟨_,Tryz.func60,ck60,by kernel_rfl⟩,⟨⟨_,Tryz.func61,ck61,by kernel_rfl⟩,⟨⟨_,Tryz.func62,ck62,by kernel_rfl⟩,⟨⟨_,Tryz.func63,ck63,by kernel_rfl⟩,⟨⟨_,Tryz.func68,ck68,by kernel_rfl⟩,⟨⟨_,Tryz.func69,ck69,by kernel_rfl⟩,⟨⟨_,Tryz.func70,ck70,by kernel_rfl⟩,⟨⟨_,Tryz.func71,ck71,by kernel_rfl⟩,⟨⟨_,Tryz.func72,ck72,by kernel_rfl⟩,⟨⟨_,Tryz.func73,ck73,by kernel_rfl⟩,⟨⟨_,Tryz.func74,ck74,by kernel_rfl⟩,⟨⟨_,Tryz.func75,ck75,by kernel_rfl⟩,⟨⟨_,Tryz.func76,ck76,by kernel_rfl⟩,⟨⟨_,Tryz.func77,ck77,by kernel_rfl⟩,⟨⟨_,Tryz.func78,ck78,by kernel_rfl⟩,⟨⟨_,Tryz.func79,ck79,by kernel_rfl⟩,⟨⟨_,Tryz.func80,ck80,by kernel_rfl⟩,⟨⟨_,Tryz.func81,ck81,by kernel_rfl⟩,⟨⟨_,Tryz.func82,ck82,by kernel_rfl⟩,⟨⟨_,Tryz.func83,ck83,by kernel_rfl⟩,⟨⟨_,Tryz.func84,ck84,by kernel_rfl⟩,⟨⟨_,Tryz.func85,ck85,by kernel_rfl⟩,⟨⟨_,Tryz.func86,ck86,by kernel_rfl⟩,⟨⟨_,Tryz.func87,ck87,by kernel_rfl⟩,⟨⟨_,Tryz.func88,ck88,by kernel_rfl⟩,⟨⟨_,Tryz.func89,ck89,by kernel_rfl⟩,⟨⟨_,Tryz.func90,ck90,by kernel_rfl⟩,⟨⟨_,Tryz.func91,ck91,by kernel_rfl⟩,⟨⟨_,Tryz.func92,ck92,by kernel_rfl⟩,⟨⟨_,Tryz.func93,ck93,by kernel_rfl⟩,⟨⟨_,Tryz.func94,ck94,by kernel_rfl⟩,⟨⟨_,Tryz.func95,ck95,by kernel_rfl⟩,⟨⟨_,Tryz.func96,ck96,by kernel_rfl⟩,⟨⟨_,Tryz.func97,ck97,by kernel_rfl⟩,⟨⟨_,Tryz.func98,ck98,by kernel_rfl⟩,⟨⟨_,Tryz.func99,ck99,by kernel_rfl⟩,⟨⟨_,Tryz.func103,Jg6,by kernel_rfl⟩,⟨⟨_,Tryz.func104,Jg5,by kernel_rfl⟩,⟨⟨_,Tryz.func105,Jg4,by kernel_rfl⟩,⟨⟨_,Tryz.func106,Jg3,by kernel_rfl⟩,⟨⟨_,Tryz.func107,Jg2,by kernel_rfl⟩,⟨⟨_,Tryz.func108,Jg1,by kernel_rfl⟩,⟨⟨_,Tryz.func109,Jg0,by kernel_rfl⟩,⟨⟨_,Tryz.func110,Jgz,by kernel_rfl⟩,⟨⟨_,Tryz.func111,Jgy,by kernel_rfl⟩,⟨⟨_,Tryz.func112,Jgx,by kernel_rfl⟩,⟨⟨_,Tryz.func113,Jgw,by kernel_rfl⟩,⟨⟨_,Tryz.func114,Jgv,by kernel_rfl⟩,⟨⟨_,Tryz.func115,Jgu,by kernel_rfl⟩,⟨⟨_,Tryz.func116,Jgt,by kernel_rfl⟩,⟨⟨_,Tryz.func117,Jgs,by kernel_rfl⟩,⟨⟨_,Tryz.func118,Jgr,by kernel_rfl⟩,⟨⟨_,Tryz.func119,Jgq,by kernel_rfl⟩,⟨⟨_,Tryz.func120,Jgp,by kernel_rfl⟩,⟨⟨_,Tryz.func121,Jgo,by kernel_rfl⟩,⟨⟨_,Tryz.func122,Jgn,by kernel_rfl⟩,⟨⟨_,Tryz.func123,Jgm,by kernel_rfl⟩,⟨⟨_,Tryz.func124,Jgl,by kernel_rfl⟩,⟨⟨_,Tryz.func125,Jgk,by kernel_rfl⟩,⟨⟨_,Tryz.func126,Jgj,by kernel_rfl⟩,⟨⟨_,Tryz.func127,Jgi,by kernel_rfl⟩,⟨⟨_,Tryz.func128,Jgh,by kernel_rfl⟩,⟨⟨_,Tryz.func129,Jgg,by kernel_rfl⟩,⟨⟨_,Tryz.func130,Jgf,by kernel_rfl⟩,⟨⟨_,Tryz.func131,Jge,by kernel_rfl⟩,⟨⟨_,Tryz.func132,Jgd,by kernel_rfl⟩,⟨⟨_,Tryz.func133,Jgc,by kernel_rfl⟩,⟨⟨_,Tryz.func134,Jgb,by kernel_rfl⟩,⟨⟨_,Tryz.func135,Jga,by kernel_rfl⟩,⟨⟨_,Tryz.func136,Jf9,by kernel_rfl⟩,⟨⟨_,Tryz.func137,Jf8,by kernel_rfl⟩,⟨⟨_,Tryz.func138,Jf7,by kernel_rfl⟩,⟨⟨_,Tryz.func139,Jf6,by kernel_rfl⟩,⟨⟨_,Tryz.func140,Jf5,by kernel_rfl⟩,⟨⟨_,Tryz.func141,Jf4,by kernel_rfl⟩,⟨⟨_,Tryz.func142,Jf3,by kernel_rfl⟩,⟨⟨_,Tryz.func143,Jf2,by kernel_rfl⟩,⟨⟨_,Tryz.func145,Jf1,by kernel_rfl⟩,⟨⟨_,Tryz.func146,Jf0,by kernel_rfl⟩,⟨⟨_,Tryz.func147,Jfz,by kernel_rfl⟩,⟨⟨_,Tryz.func148,Jfy,by kernel_rfl⟩,⟨⟨_,Tryz.func149,Jfx,by kernel_rfl⟩,⟨⟨_,Tryz.func150,Jfw,by kernel_rfl⟩,⟨⟨_,Tryz.func151,Jfv,by kernel_rfl⟩,⟨⟨_,Tryz.func152,Jfu,by kernel_rfl⟩,⟨⟨_,Tryz.func153,Jft,by kernel_rfl⟩,⟨⟨_,Tryz.func154,Jfs,by kernel_rfl⟩,⟨⟨_,Tryz.func155,Jfr,by kernel_rfl⟩,⟨⟨_,Tryz.func156,Jfq,by kernel_rfl⟩,⟨⟨_,Tryz.func157,Jfp,by kernel_rfl⟩,⟨⟨_,Tryz.func158,Jfo,by kernel_rfl⟩,⟨⟨_,Tryz.func159,Jfn,by kernel_rfl⟩,⟨⟨_,Tryz.func160,Jfm,by kernel_rfl⟩,⟨⟨_,Tryz.func163,Jfl,by kernel_rfl⟩,⟨⟨_,Tryz.func164,Jfk,by kernel_rfl⟩,⟨⟨_,Tryz.func165,Jfj,by kernel_rfl⟩,⟨⟨_,Tryz.func166,Jfi,by kernel_rfl⟩,⟨⟨_,Tryz.func167,Jfh,by kernel_rfl⟩,⟨⟨_,Tryz.func168,Jfg,by kernel_rfl⟩,⟨⟨_,Tryz.func169,Jff,by kernel_rfl⟩,⟨⟨_,Tryz.func170,Jfe,by kernel_rfl⟩,⟨⟨_,Tryz.func171,Jfd,by kernel_rfl⟩,⟨⟨_,Tryz.func172,Jfc,by kernel_rfl⟩,⟨⟨_,Tryz.func173,Jfb,by kernel_rfl⟩,⟨⟨_,Tryz.func175,Jfa,by kernel_rfl⟩,⟨⟨_,Tryz.func176,Je9,by kernel_rfl⟩,⟨⟨_,Tryz.func177,Je8,by kernel_rfl⟩,⟨⟨_,Tryz.func178,Je7,by kernel_rfl⟩,⟨⟨_,Tryz.func181,Je6,by kernel_rfl⟩,⟨⟨_,Tryz.func182,Je5,by kernel_rfl⟩,⟨⟨_,Tryz.func184,Je4,by kernel_rfl⟩,⟨⟨_,Tryz.func185,Je3,by kernel_rfl⟩,⟨⟨_,Tryz.func186,Je2,by kernel_rfl⟩,⟨⟨_,Tryz.func187,Je1,by kernel_rfl⟩,⟨⟨_,Tryz.func188,Je0,by kernel_rfl⟩,⟨⟨_,Tryz.func189,Jez,by kernel_rfl⟩,⟨⟨_,Tryz.func190,Jey,by kernel_rfl⟩,trivial⟩⟩⟩⟩⟩⟩⟩⟩⟩⟩⟩⟩⟩⟩⟩⟩⟩⟩⟩⟩⟩⟩⟩⟩⟩⟩⟩⟩⟩⟩⟩⟩⟩⟩⟩⟩⟩⟩⟩⟩⟩⟩⟩⟩⟩⟩⟩⟩⟩⟩⟩⟩⟩⟩⟩⟩⟩⟩⟩⟩⟩⟩⟩⟩⟩⟩⟩⟩⟩⟩⟩⟩⟩⟩⟩⟩⟩⟩⟩⟩⟩⟩⟩⟩⟩⟩⟩⟩⟩⟩⟩⟩⟩⟩⟩⟩⟩⟩⟩⟩⟩⟩⟩⟩⟩⟩⟩⟩⟩⟩⟩⟩⟩⟩⟩⟩⟩⟩⟩⟩⟩⟩⟩⟩⟩⟩⟩⟩⟩⟩⟩⟩⟩⟩⟩⟩⟩⟩⟩⟩⟩⟩⟩
theorem mixed:Tryz.prog.follows .mixedOrders=true:=by kernel_rfl
theorem fnOK(f:Nat)(fn:AFn)(h:fnOf f=some fn):∃F,Tryz.prog.funcs[f]?=some F/\ckFn Tryz.prog tabs F fn=true/\F.name≠ "runtime.NumGoroutine":=by
 unfold fnOf at h;cases hf:fnTab.find? (fun p=>p.1==f)with
 |none=>simp[hf]at h
 |some p=>
  simp only[hf,Option.map_some,Option.some.injEq]at h;have h1:=List.mem_of_find?_eq_some hf;have h2:=List.find?_some hf;simp only[beq_iff_eq]at h2;obtain⟨F,a,b,c⟩:=tabOK.mem p h1;subst h2;subst h;exact⟨F,a,b,by simpa using c⟩
end Go.Proofs.YP
