/- Texts that the laws of the seat rest on: an abstract machine, what the functions answer in it, plain laws. -/
import Derived.Test.YtjehnhppfneidaaGreatDoorRqg
import Derived.KernelRfl
set_option linter.unusedVariables false
set_option linter.unusedSimpArgs false
set_option linter.unusedSectionVars false
set_option maxHeartbeats 8000000
set_option maxRecDepth 20000
namespace Go.Proofs.YP
open Go
theorem f96(t:T)(k:Nat)(hk:1<=k):PureC k 96 [.agg t.enc] (.bool (isFn t.op)):=by
 intro E st hE;obtain⟨k,rfl⟩:=uK (k:=k) (by omega);obtain⟨op,s0,nn,l,x⟩:=t;refine Xai rfl rfl (by decide) fun s hs e0=>?_;by_cases h1:op=41
 ·subst h1;simp[hs,e0,Grow.appH,isFn]
 by_cases h2:op=10
 ·subst h2;simp[hs,e0,Grow.appH,isFn]
 simp[hs,e0,h1,h2,Grow.appH,isFn]
def plcF:Nat->List ByteArray->List (AV×AV)
 |_,[]=> []
 |i,w::r=>(.str w,.int .i64 i)::plcF (i+1) r
theorem Xjc(s:ByteArray):∀(i:Nat) (vs:List ByteArray),Xew true (.str s) (plcF i vs)=some ((ixS s vs).map fun j=>.int .i64 ((i+j:Nat):Int))
 |i,[]=>rfl
 |i,w::r=>by
  have ih:=Xjc s (i+1) r;simp only[plcF,Xew,Xgp,Xax,Xam,ixS];by_cases h:s=w
  ·simp[h]
  ·simp only[h,decide_false,Bool.false_eq_true,if_false,ih,Option.map_map]
   congr 2;funext j;simp;omega
theorem Xn5(s:ByteArray)(v:AV):∀(i:Nat) (vs:List ByteArray),ixS s vs=none->updA true (.str s) v (plcF i vs)=some (plcF i vs++ [(.str s,v)])
 |i,[],_=>rfl
 |i,w::r,h=>by
  simp only[ixS]at h;by_cases hw:s=w
  ·simp[hw]at h
  ·rw[if_neg hw,Option.map_eq_none_iff]at h;simp only[plcF,updA,Xgp,Xax,Xam,hw,decide_false,Bool.false_eq_true,if_false,Xn5 s v (i+1) r h,List.cons_append]
theorem Xlr(s:ByteArray):∀(i:Nat) (vs:List ByteArray),plcF i (vs++ [s])=plcF i vs++ [(.str s,.int .i64 ((i+vs.length:Nat):Int))]
 |i,[]=>by simp[plcF]
 |i,w::r=>by rw[List.cons_append,plcF,Xlr s (i+1) r,plcF,List.cons_append];simp;omega
theorem AccS.app{E:Env}{st:St}{vs:List ByteArray}{v:AV}(h:AccS E st.I vs v)(hr:E.rom<=st.I.length)(hl:vs.length<=100000000000)(H:List ABlk)(s:ByteArray)(q:Nat):
  ∃v' I',appA E ⟨H,st.I++ [(1,1)]⟩ 1 16 v (.sl (some q) 1 [.str s])=some (v',⟨H,I'⟩)/\AccS E I' (vs++ [s]) v'/\IFr (owns v) st.I I'/\OwnTo st.I v v':=by
 rcases h with⟨rfl,rfl⟩|⟨j,rfl,hj1,hj2⟩
 ·refine⟨.sl (some (st.I.length+1)) 1 [.str s],st.I++ [(1,1),(1,1)],by simp[appA,srcA],.inr ⟨st.I.length+1,rfl,by omega,by simp⟩,⟨by simp,fun j x n e=>?_⟩,.inr ⟨_,rfl,by omega⟩⟩;rw[List.getElem?_append_left (uB e)];exact e
 ·have hj3:(st.I++ [(1,1)])[j]?=some (vs.length,1):=by rw[List.getElem?_append_left (uB hj2)];exact hj2
  have hb1:(vs.length+1)*16<=70368744177664:=by omega
  have hb2:vs.length+1<=70368744177664:=by omega
  refine⟨.sl (some j) (vs.length+1) (vs.map .str++ [.str s]),(st.I++ [(1,1)]).set j (vs.length+1,1),by simp[appA,srcA,hj1,hj3,hb1,hb2],.inr ⟨j,by simp,hj1,?_⟩,⟨by simp,fun q x n e=>?_⟩,.inl rfl⟩
  ·have:=uB hj3;rw[List.getElem?_set_self this];simp
  ·have hne:¬j=q:=fun e'=>n (by rw[e'];rfl);rw[List.getElem?_set_ne hne,List.getElem?_append_left (uB e)];exact e
theorem f94{E:Env}{st:St}{fb mb:Nat}{a n p mk vv:AV}{vs:List ByteArray}(s:ByteArray)(hE:E.Wf st)(hf:st.H[fb]?=some (.cells 108 [a,n,p,vv,mk,.map mb]))(hm:st.H[mb]?=some (.map (plcF 0 vs)))(hv:AccS E st.I vs vv)(hne:fb≠mb)
  (hb1:E.base<=fb) (hb2:E.base<=mb) (hr1:E.rob<=fb) (hr2:E.rob<=mb) (hl:vs.length<=100000000000) (k:Nat) (hk:1<=k):
  CallQ k E 94 [.ptr fb 0,.str s] st fun r st'=>r=.ok (.tup [])/\∃vv',st'.H[fb]?=some (.cells 108 [a,n,p,vv',mk,.map mb])/\st'.H[mb]?=some (.map (plcF 0 (withS vs s)))/\(∀j,j≠fb->j≠mb->st'.H[j]?=st.H[j]?)/\st'.H.length=st.H.length/\
   AccS E st'.I (withS vs s) vv'/\IFr (owns vv) st.I st'.I/\OwnTo st.I vv vv':=by
 obtain⟨k,rfl⟩:=uK (k:=k) (by omega);refine Xaz rfl rfl (by decide) fun s0 hs e0 e1=>?_;have hfd:=Xjc s 0 vs;have hmem:=Xfa s vs;have hln:=hv.len;have hmw1:∀x y,Xaf E fb x y=true:=fun x y=>by simp[Xaf,hb1,hr1]
 have hmw2:∀x y,Xaf E mb x y=true:=fun x y=>by simp[Xaf,hb2,hr2]
 rcases hix:ixS s vs with _|j
 ·rw[hix]at hfd hmem;have hnm:¬s∈vs:=by simpa using hmem
  have hud:=Xn5 s (.int .i64 vs.length) 0 vs hix;have hfl:=uB hf;have hml:=uB hm;have hpa:=Xlr s 0 vs;rw[Nat.zero_add]at hpa;have q1:∀x,(st.H.set mb x)[fb]?=some (.cells 108 [a,n,p,vv,mk,.map mb]):=fun x=>by rw[List.getElem?_set_ne (Ne.symm hne)];exact hf
  obtain⟨v',I',happ,hac,hIf,hOw⟩:=hv.app hE.rom hl (st.H.set mb (.map (plcF 0 vs++ [(AV.str s,AV.int IntKind.i64 vs.length)]))) s st.I.length;have hvo:=hac.one;have hvc:=hac.cells;simp[-lenA,Nat.testBit,hs,e0,e1,hf,lkpA,hm,Xc7,hfd,hln,updB,hmw2,hud,q1];simp[hs,Xap,wrC,happ];simp[hs,Xag,q1,hmw1,wrC,hvo,hvc];refine⟨v',?_,?_,fun j hj1 hj2=>?_,by simpa [withS,hnm]using hac,hIf,hOw⟩
  ·exact List.getElem?_set_self (by simpa using hfl)
  ·rw[List.getElem?_set_ne hne,List.getElem?_set_self hml];simp[withS,hnm,hpa]
  ·rw[List.getElem?_set_ne (Ne.symm hj1),List.getElem?_set_ne (Ne.symm hj2)]
 ·rw[hix]at hfd hmem;have hnm:s∈vs:=by simpa using hmem.symm
  simp[-lenA,hs,e0,e1,hf,lkpA,hm,Xc7,hfd,hln,withS,hnm];exact⟨hv,.refl _ _,.inl rfl⟩
def VV(vs:List ByteArray)(vv:AV):Prop:=(vs=[]/\vv=.nils)\/∃o,vv=.sl o vs.length (vs.map .str)
theorem AccS.vv{E I vs v}(h:AccS E I vs v):VV vs v:=by
 rcases h with h|⟨j,e, -, -⟩
 ·exact .inl h
 ·exact .inr ⟨_,e⟩
def FR(H:List ABlk)(rb fb:Nat)(f:Fn):Prop:=fb≠rb/\∃mb vv,mb≠rb/\H[fb]?=some (.cells 108 [.int .i64 f.around,.str f.name,.int .i64 f.params,vv,.int .i64 f.mark,.map mb])/\VV f.vars vv/\H[mb]?=some (.map (plcF 0 f.vars))
theorem FR.fr{H H':List ABlk}{rb fb f}(h:FR H rb fb f)(k:HFr rb H H'):FR H' rb fb f:=by obtain⟨h1,mb,vv,h2,h3,h4,h5⟩:=h;exact⟨h1,mb,vv,h2,k.get _ _ h1 h3,h4,k.get _ _ h2 h5⟩
structure RSt(E:Env)(st:St)(rb i:Nat)(fs:List Fn)(mark:Nat):Prop where
 rob:E.rob<=rb
 rom:E.rom<=i
 ex:∃bs:List Nat,bs.length=fs.length/\st.H[rb]?=some (.cells 100 [.sl (some i) bs.length (bs.map fun b=>.ptr b 0),.int .i64 mark])/\st.I[i]?=some (bs.length,1)/\∀(j:Nat) (f:Fn),fs[j]?=some f->∃fb,bs[j]?=some fb/\FR st.H rb fb f
theorem RSt.fr{E:Env}{st st':St}{rb i fs mark}(h:RSt E st rb i fs mark)(k:HFr rb st.H st'.H)(hb:st'.H[rb]?=st.H[rb]?)(hi:st'.I[i]?=st.I[i]?):RSt E st' rb i fs mark:=by obtain⟨h1,h2,bs,h3,h4,h5,h6⟩:=h;exact⟨h1,h2,bs,h3,by rw[hb];exact h4,by rw[hi];exact h5,fun j f hj=>by obtain⟨fb,e,hf⟩:=h6 j f hj;exact⟨fb,e,hf.fr k⟩⟩
theorem f98{fs:List Fn}(hf:FsOk fs){rb i mark:Nat}{E E':Env}{st:St}(hr:RSt E' st rb i fs mark)(s:ByteArray)(a:Int)(ha: -1<=a)(ha2:a<fs.length)
  (k:Nat) (hk:510<=k):CallQ k E 98 [.ptr rb 0,.int .i64 a,.str s] st fun r st'=>r=.ok (.int .i64 (Xbu fs a s))/\Grow st st':=by
 obtain⟨k,rfl⟩:=uK (k:=k) (by omega);obtain⟨-, -,bs,hbl,hb, -,hfr⟩:=hr;refine Xa8 rfl rfl (by decide) fun s0 hs e0 e1 e2=>?_;have hlen:=hf.len;simp[hs,e0,e1,e2];generalize hres:Xbu fs a s=res
 refine Xau (fun n s0 m st'=> ∃a:Int, -1<=a/\a<fs.length/\n=(a+1).toNat/\s0.length=44/\m=[]/\st=st'/\lk s0 0=.ptr rb 0/\lk s0 1=.int .i64 a/\lk s0 2=.str s/\lk s0 7=.int .i64 (-1)/\Xbu fs a s=res) (a+1).toNat (by omega)
  ⟨a,ha,ha2,rfl,by simp[hs],rfl,rfl,by simp[hs,e0],by simp[hs,e1],by simp[hs,e2],by simp[hs],hres⟩ ?_
 clear e0 e1 e2 hs hres ha ha2;rintro _ s0 m _ ⟨a,ha,ha2,rfl,hs,rfl,rfl,e0,e1,e2,e7,hq⟩;by_cases h0:0<=a
 ·obtain⟨a,rfl⟩:∃a':Nat,a=a':=⟨a.toNat,by omega⟩;have hal:a<fs.length:=by omega
  obtain⟨f,hg⟩:∃f,fs[a]?=some f:=⟨_,List.getElem?_eq_getElem hal⟩;have hfe:=hf.each a f hg;obtain⟨fb,hgb, -,mb,vv, -,hfb, -,hmb⟩:=hfr a f hg;have hbla:a<bs.length:=by omega
  have hgb':bs[a]'hbla=fb:=by rw[List.getElem?_eq_getElem hbla]at hgb;simpa using hgb
  have hfd:=Xjc s 0 f.vars;rw[Xlk hf s h0 (by simpa using hg)]at hq;rcases hix:ixS s f.vars with _|j
  ·rw[hix]at hfd hq;simp only[Option.map_none]at hfd;simp only at hq;simp[hs,e0,e1,e2,hb,hbla,hgb',hfb,lkpA,hmb,Xc7,hfd];exact⟨_,by omega,f.around,hfe.1,by omega,rfl,by simp[hs],rfl,rfl,by simp[hs,e0],by simp[hs],by simp[hs,e2],by simp[hs,e7],hq⟩
  ·rw[hix]at hfd hq;simp only[Option.map_some,Nat.zero_add]at hfd;simp only at hq;have hjl:=Xlx s f.vars j hix;have hw1:=Xah (n:=(a:Int)*1000) (by omega);have hw2:=Xah (n:=(a:Int)*1000+j) (by omega);have hq':(a:Int)*1000+j=res:=by rw[<-hq];omega
   rw[hq']at hw2;simp[hs,e0,e1,e2,hb,hbla,hgb',hfb,lkpA,hmb,Xc7,hfd,hw1,hq',hw2,Grow.refl,Xa1]
 ·rw[Xjp s (by omega)]at hq;simp[hs,e0,e1,e2,e7,h0,hq,Grow.refl]
theorem f99k{E:Env}{st:St}{rb:Nat}{x:AV}{mark:Nat}(hb:st.H[rb]?=some (.cells 100 [x,.int .i64 mark]))(hr:E.rob<=rb)(n:Nat)(hm:mark+n<=100000000000)(k:Nat)(hk:1<=k):
  doCall (aCall prog k) E .keep (.fn 99) [.ptr rb 0,.int .i64 n] st=some (.ok (.int .i64 mark),⟨st.H.set rb (.cells 100 [x,.int .i64 (mark+n:Nat)]),st.I⟩):=by
 obtain⟨k,rfl⟩:=uK (k:=k) (by omega);have hlt:=uB hb
 have h:CallQ (k+1) {E with base:=st.H.length} 99 [.ptr rb 0,.int .i64 n] st fun r st'=>r=.ok (.int .i64 mark)/\st'=⟨st.H.set rb (.cells 100 [x,.int .i64 (mark+n:Nat)]),st.I⟩:=by
  refine Xaz rfl rfl (by decide) fun s0 hs e0 e1=>?_;have hset:∀x,(st.H.set rb x)[rb]?=some x:=fun x=>List.getElem?_set_self hlt;have hw1:=Xah (n:=(mark:Int)+n) (by omega);have hw2:=Xah (n:=(mark:Int)+n - n) (by omega);have hw3:(mark:Int)+n - n=mark:=by omega
  rw[hw3]at hw2;simp[hs,e0,e1,hb,Xag,Xaf,Xdw,hr,wrC,hset,hw1,hw2,hw3]
 obtain⟨⟨r,st'⟩,e1,h1,h2⟩:=h;simp only at h1 h2;subst h1 h2;simp only[doCall,e1,Xam,Xas];simp;rw[List.take_of_length_le (by simp)]
theorem VV.len{vs vv}(h:VV vs vv):lenA false vv=some (.int .i64 vs.length):=by rcases h with⟨rfl,rfl⟩|⟨o,rfl⟩<;>simp[lenA]
def Xct(e line:Int):AV:=.iface 65 (.agg [.int .i64 e,.int .i64 line])
theorem f61p{E:Env}{st:St}{rb fb:Nat}{x:AV}{n mark:Nat}{f:Fn}(hb:st.H[rb]?=some (.cells 100 [x,.int .i64 mark]))(hx:lenA false x=some (.int .i64 n))(hf:FR st.H rb fb f)(hlim:n=500\/200<f.vars.length)(line:Int)(k:Nat)(hk:1<=k):
  CallQ k E 61 [.ptr rb 0,.ptr fb 0,.int .i64 line] st fun r st'=>r=.pan (Xct 52 line)/\st'=st:=by
 obtain⟨k,rfl⟩:=uK (k:=k) (by omega);obtain⟨-,mb,vv, -,hfb,hvv, -⟩:=hf;have hln:=hvv.len;refine Xa8 rfl rfl (by decide) fun s0 hs e0 e1 e2=>?_;by_cases h5:(n:Int)=500
 ·simp[-lenA,hs,e0,e1,e2,hb,hx,h5,Xap,wrC,Xct]
 ·have h2:(200:Int)<f.vars.length:=by omega
  simp[-lenA,hs,e0,e1,e2,hb,hx,h5,hfb,hln,h2,Xap,wrC,Xct]
theorem f61a{E:Env}{st:St}{rb i fb:Nat}{fs:List Fn}{mark:Nat}{f:Fn}(hE:E.Wf st)(hr:RSt E st rb i fs mark)(hbase:E.base<=rb)(hf:FR st.H rb fb f)(h1:fs.length<500)(h2:f.vars.length<=200)(line:Int)(k:Nat)(hk:1<=k):
  CallQ k E 61 [.ptr rb 0,.ptr fb 0,.int .i64 line] st fun r st'=>r=.ok (.int .i64 fs.length)/\RSt E st' rb i (fs++ [f]) mark/\HFr rb st.H st'.H/\st'.H.length=st.H.length/\IFr (some i) st.I st'.I:=by
 obtain⟨k,rfl⟩:=uK (k:=k) (by omega);obtain⟨hrob,hrom,bs,hbl,hb,hi,hfr⟩:=hr;obtain⟨hne,mb,vv,hmn,hfb,hvv,hmb⟩:=id hf;have hln:=hvv.len;have hlt:=uB hb;refine Xa8 rfl rfl (by decide) fun s0 hs e0 e1 e2=>?_;have h5:¬(bs.length:Int)=500:=by omega
 have h2':¬(200:Int)<f.vars.length:=by omega
 have lsl:∀o n c,lenA false (.sl o n c)=some (.int .i64 n):=fun _ _ _=>rfl;have hmw:∀x y,Xaf E rb x y=true:=fun x y=>by simp[Xaf,hbase,hrob]
 have hset:∀x,(st.H.set rb x)[rb]?=some x:=fun x=>List.getElem?_set_self hlt;have hip:(st.I++ [(1,1)])[i]?=some (bs.length,1):=Xbx i _ hi;have hb1:(bs.length+1)*8<=70368744177664:=by omega
 have hb2:bs.length+1<=70368744177664:=by omega
 have hw1:=Xah (n:=(bs.length:Int)) (by omega);have hap:appA E ⟨st.H,st.I++ [(1,1)]⟩ 1 8 (.sl (some i) bs.length (bs.map fun b=>.ptr b 0)) (.sl (some st.I.length) 1 [.ptr fb 0])=some (.sl (some i) (bs.length+1) ((bs++ [fb]).map fun b=>.ptr b 0),⟨st.H,(st.I++ [(1,1)]).set i (bs.length+1,1)⟩):=by simp[appA,srcA,hrom,hip,hb1,hb2]
 simp[-lenA,lsl,hs,e0,e1,e2,hb,h5,hfb,hln,h2'];simp[hs,Xap,wrC,hap];simp[-lenA,lsl,hs,e0,hb,Xag,hmw,wrC,hset,hw1];refine⟨by rw[hbl],⟨hrob,hrom,bs++ [fb],by simp[hbl],by simpa using List.getElem?_set_self hlt,?_,fun j g hj=>?_⟩,.set _ _ _,⟨by simp,fun q x hq e=>?_⟩⟩
 ·rw[List.getElem?_set_self (uB hip)];simp
 ·by_cases hjl:j<fs.length
  ·rw[List.getElem?_append_left hjl]at hj;obtain⟨fb',e,hf'⟩:=hfr j g hj;exact⟨fb',by rw[List.getElem?_append_left (by omega)];exact e,hf'.fr (.set _ _ _)⟩
  ·rw[List.getElem?_append_right (by omega)]at hj;rcases hz:j - fs.length with _|q
   ·rw[hz]at hj;simp at hj;subst hj;exact⟨fb,by rw[List.getElem?_append_right (by omega),hbl,hz];rfl,hf.fr (.set _ _ _)⟩
   ·rw[hz]at hj;simp at hj
 ·rw[List.getElem?_set_ne (fun h=>hq (by rw[h]))];exact Xbx q x e
theorem f61b{E:Env}{st:St}{rb fb:Nat}{mark:Nat}{f:Fn}(hE:E.Wf st)(hb:st.H[rb]?=some (.cells 100 [.nils,.int .i64 mark]))(hrob:E.rob<=rb)(hbase:E.base<=rb)(hf:FR st.H rb fb f)(h2:f.vars.length<=200)(line:Int)(k:Nat)(hk:1<=k):
  CallQ k E 61 [.ptr rb 0,.ptr fb 0,.int .i64 line] st fun r st'=>r=.ok (.int .i64 0)/\∃i,st.I.length<=i/\RSt E st' rb i [f] mark/\HFr rb st.H st'.H/\st'.H.length=st.H.length/\IFr none st.I st'.I:=by
 obtain⟨k,rfl⟩:=uK (k:=k) (by omega);obtain⟨hne,mb,vv,hmn,hfb,hvv,hmb⟩:=id hf;have hln:=hvv.len;have hlt:=uB hb;refine Xa8 rfl rfl (by decide) fun s0 hs e0 e1 e2=>?_;have h2':¬(200:Int)<f.vars.length:=by omega
 have lsl:∀o n c,lenA false (.sl o n c)=some (.int .i64 n):=fun _ _ _=>rfl;have lnl:lenA false .nils=some (.int .i64 0):=rfl;have hmw:∀x y,Xaf E rb x y=true:=fun x y=>by simp[Xaf,hbase,hrob]
 have hset:∀x,(st.H.set rb x)[rb]?=some x:=fun x=>List.getElem?_set_self hlt;have hw1:=Xah (n:=(0:Int)) (by omega);have hap:appA E ⟨st.H,st.I++ [(1,1)]⟩ 1 8 .nils (.sl (some st.I.length) 1 [.ptr fb 0])=some (.sl (some (st.I.length+1)) 1 [.ptr fb 0],⟨st.H,st.I++ [(1,1),(1,1)]⟩):=by simp[appA,srcA]
 simp[-lenA,lsl,lnl,hs,e0,e1,e2,hb,hfb,hln,h2'];simp[hs,Xap,wrC,hap];simp[-lenA,lsl,hs,e0,hb,Xag,hmw,wrC,hset,hw1];refine⟨st.I.length+1,by omega,⟨hrob,by have:=hE.rom;omega,[fb],rfl,by simpa using List.getElem?_set_self hlt,by simp,fun j g hj=>?_⟩,.set _ _ _,⟨by simp,fun q x hq e=>?_⟩⟩
 ·rcases j with _|j
  ·simp at hj;subst hj;exact⟨fb,rfl,hf.fr (.set _ _ _)⟩
  ·simp at hj
 ·rw[List.getElem?_append_left (uB e)];exact e
@[congr] theorem Xv9{id:Nat}{Q:Q4}{x x':AExit}{s m st}(h:∀_:Unit,Xce x=x'):blkQ id Q x s m st=blkQ id Q x' s m st:=by rw[<-h (),Xbd]
@[congr] theorem Xwk{C:CSem}{E:Env}{lf rd b}{Q:Q4}{x x':AExit}{s m st}(h:∀_:Unit,Xce x=x'):thn C E lf rd b Q x s m st=thn C E lf rd b Q x' s m st:=by rw[<-h (),Xbd]
def dec1(t:T)(vs:List ByteArray):List ByteArray:=if isDec t.op then withS vs t.s else vs
theorem Xp3(t:T)(vs:List ByteArray):decT t vs=if isFn t.op then dec1 t vs else decL t.l (dec1 t vs):=by obtain⟨op,s,n,l,x⟩:=t;rfl
structure InvOk(B:Nat)(Inv:List ByteArray->St->Prop):Prop where
 dep:∀vs st st',Inv vs st->(∀j,j<B->st'.H[j]?=st.H[j]?)->st'.I=st.I->Inv vs st'
def YOK(E:Env)(l B K W:Nat)(Inv:List ByteArray->St->Prop):Prop:=∀k,K<=k->∀vs st t,vs.length+t.wt<=W->Inv vs st->E.Wf st->B<=st.H.length->
 Xnw k E l [.agg t.enc] st fun r st'=>r=.ok (.bool true)/\Inv (dec1 t vs) st'/\st.H.length<=st'.H.length/\st.I.length<=st'.I.length/\∀j x,B<=j->st.H[j]?=some x->st'.H[j]?=some x
theorem Xc9:∀(m:List Nat) (st:St),m.Nodup->(∀d∈m,st.H[d]?=some .dfr)->∃H',Xbf st m=some ⟨H',st.I⟩/\H'.length=st.H.length/\∀j,¬j∈m->H'[j]?=st.H[j]?
 |[],st,_,_=>⟨st.H,rfl,rfl,fun _ _=>rfl⟩
 |d::m,st,hn,h=>by
  have hd:=h d (by simp);rw[List.nodup_cons]at hn;obtain⟨H',e,hl,hg⟩:=Xc9 m {st with H:=st.H.set d .opq} hn.2 (fun d' hd'=>by show(st.H.set d .opq)[d']?=_;rw[List.getElem?_set_ne (by rintro rfl;exact hn.1 hd')];exact h d' (by simp[hd']));refine⟨H',by rw[Xbf,hd];exact e,by simpa using hl,fun j hj=>?_⟩;rw[hg j (fun h=>hj (by simp[h]))];show(st.H.set d .opq)[j]?=_;rw[List.getElem?_set_ne (by rintro rfl;exact hj (by simp))]
theorem f95(t:T)(k:Nat)(hk:1<=k)(E:Env)(st:St):CallQ k E 95 [.agg t.enc] st fun r st'=>r=.ok (.fn 143 [] [.ptr st.H.length 0])/\st'=⟨st.H++ [.cells 24 t.enc],st.I⟩:=by obtain⟨k,rfl⟩:=uK (k:=k) (by omega);obtain⟨op,s0,nn,l,x⟩:=t;refine Xai rfl rfl (by decide) fun s hs e0=>?_;simp[hs,e0]
theorem f143(n:Nat):∀t:T,t.wt<=n->∀(E:Env) (l B K W:Nat) (Inv:List ByteArray->St->Prop),W<=100000000000->InvOk B Inv->YOK E l B K W Inv->l<B->∀(st:St) (vs:List ByteArray) (b1:Nat),vs.length+t.wt<=W->Inv vs st->E.Wf st->B<=st.H.length->(∀vs st,Inv vs st->st.H[b1]?=some (.cells 24 t.enc))->
  ∀k,K+4*t.wt+10<=k->CallQ k E 143 [.yld l,.ptr b1 0] st fun r st'=>r=.ok (.tup [])/\Inv (decT t vs) st'/\st.H.length<=st'.H.length/\st.I.length<=st'.I.length/\∀j x,B<=j->st.H[j]?=some x->st'.H[j]?=some x:=by
 induction n with
 |zero=>intro t h;cases t;simp[T.wt]at h
 |succ n ih=>
  intro t ht E l B K W Inv hWb hI hy hl st vs b1 hW hinv hE hB hIb k hk;obtain⟨k,rfl⟩:=uK (k:=k) (by omega);have hmw:=Xaa hE;refine Xaz rfl rfl (by decide) fun s hs e0 e1=>?_;have hE1:E.Wf ⟨st.H++ [.cells 33 [.yld l]],st.I⟩:=hE.of (by simp) (by simp);have hinv1:Inv vs ⟨st.H++ [.cells 33 [.yld l]],st.I⟩:=hI.dep _ st _ hinv (fun j hj=>List.getElem?_append_left (by omega)) rfl;have cy:=hy k (by omega) vs _ t hW hinv1 hE1 (by simp;omega);have c96:=fun st3 (h3:E.Wf st3)=>(f96 t k (by omega)).full (E:=E) (st:=st3) rfl h3;have hd1:(dec1 t vs).length<=vs.length+1:=by unfold dec1;split;exact Xdc _ _;omega
  have hb1:=hIb _ _ hinv1;obtain⟨op,s0,nn,ls,line⟩:=t;simp only[T.enc,T.op_mk]at hb1 cy c96 hIb;simp only[T.wt]at ht hk hW;have hlw:=T.len_wtL ls;simp[hs,e0,e1,hb1];refine Xac cy fun p hp=>?_;obtain⟨r,st2⟩:=p;obtain⟨h1,h2,h3,h4,h5⟩:=hp;simp only[List.length_append,List.length_cons,List.length_nil,Nat.zero_add]at h1 h2 h3 h4 h5;subst h1;have q1:=hIb _ _ h2;have q2:st2.H[st.H.length]?=some (.cells 33 [.yld l]):=h5 _ _ hB (by simp);have hE2:E.Wf st2:=hE.of (H:=st2.H) (I:=st2.I) (by omega) h4;have hg0:∀j x,B<=j->st.H[j]?=some x->st2.H[j]?=some x:=fun j x hj e=>h5 j x hj (Xae e);have hdT:isFn op=true->decT (.mk op s0 nn ls line) vs=dec1 (.mk op s0 nn ls line) vs:=fun h=>by rw[Xp3];exact if_pos h
  have hdF:¬isFn op=true->decT (.mk op s0 nn ls line) vs=decL ls (dec1 (.mk op s0 nn ls line) vs):=fun h=>by rw[Xp3];exact if_neg h
  generalize hvs1:dec1 (.mk op s0 nn ls line) vs=vs1 at h2 hd1 hdT hdF;by_cases hfn:isFn op
  ·rw[hdT hfn];simp only[hfn]at c96;simp[hs,e1,q1,q2,c96 st2 hE2,hfn];exact⟨h2,by omega,h4,hg0⟩
  have hfn':isFn op=false:=by simpa using hfn
  rw[hdF hfn];simp only[hfn']at c96;simp[hs,e1,q1,q2,c96 st2 hE2,hfn']
  refine Xau (fun n s m st'=> ∃(j:Nat) (vs':List ByteArray),j<=ls.length/\n=ls.length - j/\s.length=29/\lk s 1=.ptr b1 0/\lk s 2=.ptr st.H.length 0/\lk s 15=.sl none ls.length (T.encL ls)/\lk s 16=.int .i64 ls.length/\lk s 17=.int .i64 j/\
   Inv vs' st'/\vs'.length<=vs.length+1+T.wtL (ls.take j)/\decL (ls.drop j) vs'=decL ls vs1/\st2.H.length<=st'.H.length/\st2.I.length<=st'.I.length/\(∀j x,B<=j->st2.H[j]?=some x->st'.H[j]?=some x)/\m.Nodup/\∀d∈m,st2.H.length<=d/\st'.H[d]?=some .dfr) ls.length (by omega)
   ⟨0,vs1,by omega,by omega,by simp[hs],by simp[hs,e1],by simp[hs],by simp[hs],by simp[hs],by simp[hs],h2,by omega,by simp,Nat.le_refl _,Nat.le_refl _,fun _ _ _ e=>e,by simp,by simp⟩ ?_
  clear hs e0 e1 s cy;rintro _ s m st' ⟨j,vs',hj,rfl,hs,e1,e2,e15,e16,e17,hiv,hvl,hq,hHl,hIl,hkeep,hnd,hdf⟩;by_cases hc:j<ls.length
  ·obtain⟨t,hg⟩:∃t,ls[j]?=some t:=⟨_,List.getElem?_eq_getElem hc⟩;rw[T.drop_cons hg,decL]at hq;have hrd:=T.rd hg;have hwt:=Xcm hg;have hwt1:=Xcu hg;have hwj:=Xah (n:=(j:Int)+1) (by omega);have hEs:E.Wf st':=hE2.of (H:=st'.H) (I:=st'.I) hHl hIl;have hmw2:=Xaa hEs;have c95:=f95 t k (by omega) E ⟨st'.H++ [.cells 24 t.enc],st'.I⟩;rw[T.enc_eq]at hrd c95;simp[hs,e15,e16,e17,hc,hrd,Xag,hmw2,wrC];refine Xac c95 fun p hp=>?_;obtain⟨r,st3⟩:=p;obtain⟨hr,hst3⟩:=hp;simp only at hr hst3;subst hr hst3;simp[hs];refine Xh4 (g:=143) (a:=[]) (b:=[.ptr (st'.H.length+1) 0]) (by simp[hs]) (st'.H.length+2) (st'.H.length+3) (by simp) (by simp) ?_;simp;have he4l:(((((s.set 18 (AV.bool true)).set 19 (AV.eptr (T.encL ls) (j*5))).set 20 (AV.agg [AV.int IntKind.i64 t.op,AV.str t.s,AV.int IntKind.i64 t.n,AV.sl none t.l.length (T.encL t.l),AV.int IntKind.i64 t.line])).set 4 (AV.ptr st'.H.length 0)).set 21 (AV.agg [AV.int IntKind.i64 t.op,AV.str t.s,AV.int IntKind.i64 t.n,AV.sl none t.l.length (T.encL t.l),AV.int IntKind.i64 t.line])).length=29:=by simp[hs]
   generalize hs4:((((((s.set 18 (AV.bool true)).set 19 (AV.eptr (T.encL ls) (j*5))).set 20 (AV.agg [AV.int IntKind.i64 t.op,AV.str t.s,AV.int IntKind.i64 t.n,AV.sl none t.l.length (T.encL t.l),AV.int IntKind.i64 t.line])).set 4 (AV.ptr st'.H.length 0)).set 21 (AV.agg [AV.int IntKind.i64 t.op,AV.str t.s,AV.int IntKind.i64 t.n,AV.sl none t.l.length (T.encL t.l),AV.int IntKind.i64 t.line])).set 22 (AV.fn 143 [] [AV.ptr (st'.H.length+1) 0]))=s4;have hs4l:s4.length=29:=by rw[<-hs4];simp[hs]
   have hs41:lk s4 1=.ptr b1 0:=by rw[<-hs4];simp[hs,e1]
   have hs42:lk s4 2=.ptr st.H.length 0:=by rw[<-hs4];simp[hs,e2]
   have hs415:lk s4 15=.sl none ls.length (T.encL ls):=by rw[<-hs4];simp[hs,e15]
   have hs416:lk s4 16=.int .i64 ls.length:=by rw[<-hs4];simp[hs,e16]
   have hs417:lk s4 17=.int .i64 j:=by rw[<-hs4];simp[hs,e17]
   clear hs4 he4l;generalize hB4:ABlk.loop LState.ready none 0 s4 [23] (ACode.reg [{dst:=some 5,op:=AOp.alloc 24 [AV.int IntKind.i64 0,AV.str {data:= #[]},AV.int IntKind.i64 0,AV.nils,AV.int IntKind.i64 0],guard:=none},{dst:=none,op:=AOp.st 5 (AO.t 5) (AO.t 23),guard:=none}]) (ACode.block 3 ((ACode.reg [{dst:=some 24,op:=AOp.ld none (AO.t 2),guard:=none},{dst:=some 25,op:=AOp.ld (some 5) (AO.t 5),guard:=none},{dst:=some 26,op:=AOp.callv Tr.no (AO.t 24) [AO.t 25],guard:=none},{dst:=some 27,op:=AOp.un UnOp.not (AO.t 26),guard:=none}]).seq (ACode.cond (AO.t 27) ACode.ret ACode.skip))) (st'.H.length+2)=lp;rw[<-T.enc_eq];have hB2:B<=st2.H.length:=by omega
   have hyi:YOK E (st'.H.length+3) (st'.H.length+4) (K+1) W (fun v s'=>Inv v s'/\∀q,B<=q->q<st'.H.length+4->s'.H[q]?=(st'.H++ [.cells 24 t.enc,.cells 24 t.enc,.dfr,lp])[q]?):=by
    intro k2 hk2 v s' x hW2 hv2 hE' hB';obtain⟨k2,rfl⟩:∃k',k2=k'+1:=⟨k2 - 1,by omega⟩;obtain⟨hv2,hv3⟩:=hv2;have hmw':=Xaa hE';have hlp:s'.H[st'.H.length+3]?=some lp:=by rw[hv3 _ (by omega) (by omega)];simp
    have hy33:s'.H[st.H.length]?=some (.cells 33 [.yld l]):=by rw[hv3 _ hB (by omega)];exact Xae (hkeep _ _ hB q2)
    subst hB4;refine Xdx hlp rfl (by have:=hEs.rob;omega) ?_;have hxe:=T.enc_eq x;rw[hxe];simp[hs4l,Xag,hmw',wrC];refine Xfi (Xae hlp) ?_;have w1:∀y z,((s'.H++y).set (st'.H.length+3) z)[st.H.length]?=some (.cells 33 [.yld l]):=fun y z=>by rw[List.getElem?_set_ne (by omega)];exact Xae hy33
    have w2:∀y z,((s'.H++y).set (st'.H.length+3) z)[s'.H.length]?=y[0]?:=fun y z=>by rw[List.getElem?_set_ne (by omega)];simp
    have cyx:=hy k2 (by omega) v ⟨(s'.H++ [ABlk.cells 24 x.enc]).set (st'.H.length+3) (ABlk.loop LState.busy none 0 s4 [23] (ACode.reg [{dst:=some 5,op:=AOp.alloc 24 [AV.int IntKind.i64 0,AV.str {data:= #[]},AV.int IntKind.i64 0,AV.nils,AV.int IntKind.i64 0],guard:=none},{dst:=none,op:=AOp.st 5 (AO.t 5) (AO.t 23),guard:=none}]) (ACode.block 3 ((ACode.reg [{dst:=some 24,op:=AOp.ld none (AO.t 2),guard:=none},{dst:=some 25,op:=AOp.ld (some 5) (AO.t 5),guard:=none},{dst:=some 26,op:=AOp.callv Tr.no (AO.t 24) [AO.t 25],guard:=none},{dst:=some 27,op:=AOp.un UnOp.not (AO.t 26),guard:=none}]).seq (ACode.cond (AO.t 27) ACode.ret ACode.skip))) (st'.H.length+2)),s'.I⟩ x hW2
     (hI.dep _ s' _ hv2 (fun q hq=>by show((s'.H++ [ABlk.cells 24 x.enc]).set (st'.H.length+3) _)[q]?=_;rw[List.getElem?_set_ne (by omega),List.getElem?_append_left (by omega)]) rfl)
     (hE'.of (by simp) (by simp)) (by simp;omega)
    rw[hxe]at cyx;have w3:st'.H.length+3≠s'.H.length:=by have:=(uB hlp);omega
    simp[hs4l,hs42,w1,w2,List.getElem_set_ne w3];refine Xac cyx fun p hp=>?_;obtain⟨r,s6⟩:=p;obtain⟨r1,r2,r3,r4,r5⟩:=hp;simp only[List.length_set,List.length_append,List.length_cons,List.length_nil,Nat.zero_add]at r1 r2 r3 r4 r5;subst r1;simp[hs4l];have hlp6:=r5 (st'.H.length+3) _ (by omega) (List.getElem?_set_self (by simp;omega));refine Xd2 hlp6 ?_;have hk5:∀q z,B<=q->q≠st'.H.length+3->s'.H[q]?=some z->s6.H[q]?=some z:=fun q z hq hne e=>r5 q z hq (by rw[List.getElem?_set_ne (Ne.symm hne)];exact Xae e);refine⟨rfl,⟨hI.dep _ s6 _ r2 (fun q hq=>List.getElem?_set_ne (by omega)) rfl,fun q hq1 hq2=>?_⟩,by simp;omega,r4,fun q z hq e=>?_⟩
    ·by_cases hq3:q=st'.H.length+3
     ·subst hq3;show(s6.H.set _ _)[_]?=_;rw[List.getElem?_set_self (uB hlp6)];simp
     ·show(s6.H.set _ _)[q]?=_;rw[List.getElem?_set_ne (Ne.symm hq3),<-hv3 q hq1 hq2];have hql:q<s'.H.length:=by omega
      rw[List.getElem?_eq_getElem hql];exact hk5 q _ hq1 hq3 (List.getElem?_eq_getElem hql)
    ·show(s6.H.set _ _)[q]?=_;rw[List.getElem?_set_ne (by omega)];exact hk5 q z (by omega) (by omega) e
   have cI:=ih t (by omega) E (st'.H.length+3) (st'.H.length+4) (K+1) W (fun v s'=>Inv v s'/\∀q,B<=q->q<st'.H.length+4->s'.H[q]?=(st'.H++ [.cells 24 t.enc,.cells 24 t.enc,.dfr,lp])[q]?) hWb
    ⟨fun v s1 s2 ⟨x1,x2⟩ hx hxi=>⟨hI.dep _ s1 _ x1 (fun q hq=>hx q (by omega)) hxi,fun q hq1 hq2=>by rw[hx q hq2];exact x2 q hq1 hq2⟩⟩ hyi (by omega)
    ⟨st'.H++ [.cells 24 t.enc,.cells 24 t.enc,.dfr,lp],st'.I⟩ vs' (st'.H.length+1) (by omega)
    ⟨hI.dep _ st' _ hiv (fun q hq=>List.getElem?_append_left (by omega)) rfl,fun _ _ _=>rfl⟩ (hEs.of (by simp) (by simp)) (by simp)
    (fun v s' ⟨_,x2⟩=>by rw[x2 _ (by omega) (by omega)];simp) k (by omega)
   refine Xac cI fun p hp=>?_;obtain⟨r,s7⟩:=p;obtain⟨r1,⟨r2,r3⟩,r4,r5,r6⟩:=hp;simp only[List.length_append,List.length_cons,List.length_nil,Nat.zero_add,Nat.reduceAdd]at r1 r2 r3 r4 r5 r6;subst r1;have h7:s7.H[st'.H.length+3]?=some lp:=by rw[r3 _ (by omega) (by omega)];simp
   subst hB4;refine⟨_,_,_,_,_,_,_,_,h7,nofun,?_⟩;simp[AJump.exit',hs4l,hs417,hwj];have hk7:∀q z,B<=q->st'.H[q]?=some z->s7.H[q]?=some z:=fun q z hq e=>by rw[r3 q hq (by have:=(uB e);omega)];exact Xae e
   refine⟨_,by omega,j+1,decT t vs',by omega,rfl,by simp[hs4l],by simp[hs4l,hs41],by simp[hs4l,hs42],by simp[hs4l,hs415],by simp[hs4l,hs416],by simp[hs4l],hI.dep _ s7 _ r2 (fun q hq=>List.getElem?_set_ne (by omega)) rfl,by have:=Xje t vs';omega,hq,by simp;omega,by show st2.I.length<=s7.I.length;have h:st'.I.length<=s7.I.length:=r5;omega,fun q z hq e=>?_,?_,?_⟩
   ·show(s7.H.set _ _)[q]?=_;have hz:=hkeep q z hq e;have hzl:=uB hz;rw[List.getElem?_set_ne (by omega)];exact hk7 q z hq hz
   ·rw[List.nodup_cons];refine⟨fun hm=>?_,hnd⟩;have:=(List.getElem?_eq_some_iff.1 (hdf _ hm).2).1;omega
   ·intro d hd;rcases List.mem_cons.1 hd with rfl|hd
    ·refine⟨by omega,?_⟩;show(s7.H.set _ _)[_]?=_;rw[List.getElem?_set_ne (by omega),r3 _ (by omega) (by omega)];simp
    ·have hz:=(hdf d hd).2;have hzl:=uB hz;refine⟨(hdf d hd).1,?_⟩;show(s7.H.set _ _)[d]?=_;rw[List.getElem?_set_ne (by omega)];exact hk7 d _ (by have:=(hdf d hd).1;omega) hz
  ·have hq:vs'=decL ls vs1:=by rw[<-hq,List.drop_eq_nil_of_le (by omega)];rfl
   obtain⟨H',et,hl',hg'⟩:=Xc9 m st' hnd (fun d hd=>(hdf d hd).2);have hnm:∀j,j<st2.H.length->¬j∈m:=fun j hj hm=>by have:=(hdf j hm).1;omega
   simp[hs,e16,e17,hc,endQ,et];refine⟨hq▸hI.dep _ st' _ hiv (fun j hj=>hg' j (hnm j (by omega))) rfl,by omega,by omega,fun j x hj e=>?_⟩;have hj2:=hg0 j x hj e;rw[hg' j (hnm j (uB hj2))];exact hkeep j x hj hj2
structure Fin62(E:Env)(st0:St)(a nm mk p:AV)(t:T)(vs:List ByteArray)(st:St):Prop where
 f:∃vv,st.H[st0.H.length+3]?=some (.cells 108 [a,nm,p,vv,mk,.map (st0.H.length+2)])/\AccS E st.I vs vv/\∀j,owns vv=some j->st0.I.length<=j
 m:st.H[st0.H.length+2]?=some (.map (plcF 0 vs))
 p:st.H[st0.H.length+4]?=some (.cells 104 [.ptr (st0.H.length+3) 0])
 b:st.H[st0.H.length+1]?=some (.cells 24 t.enc)
 old:∀j,j<st0.H.length->st.H[j]?=st0.H[j]?
 ifr:IFr none st0.I st.I
theorem Fin62.dep{E st0 a nm mk p t vs st st'}(h:Fin62 E st0 a nm mk p t vs st)(hb:∀j,j<st0.H.length+5->st'.H[j]?=st.H[j]?)(hi:st'.I=st.I):Fin62 E st0 a nm mk p t vs st':=by obtain⟨⟨vv,f1,f2,f3⟩,m,p',b,o,i⟩:=h;exact⟨⟨vv,by rw[hb _ (by omega)];exact f1,by rw[hi];exact f2,f3⟩,by rw[hb _ (by omega)];exact m,by rw[hb _ (by omega)];exact p',by rw[hb _ (by omega)];exact b,fun j hj=>by rw[hb _ (by omega)];exact o j hj,by rw[hi];exact i⟩
theorem Fin62.decl{E st0 a nm mk p t vs st}(h:Fin62 E st0 a nm mk p t vs st)(s:ByteArray)(h0:E.Wf st0)(hE:E.Wf st)(hl:vs.length<=100000000000)(k:Nat)(hk:1<=k):
  CallQ k E 94 [.ptr (st0.H.length+3) 0,.str s] st fun r st'=>r=.ok (.tup [])/\Fin62 E st0 a nm mk p t (withS vs s) st'/\st'.H.length=st.H.length/\st.I.length<=st'.I.length/\∀j,st0.H.length+5<=j->st'.H[j]?=st.H[j]?:=by
 obtain⟨⟨vv,f1,f2,f3⟩,m,p',b,o,i⟩:=h;have h1:=h0.base;have h2:=h0.rob;refine Xac (f94 s hE f1 m f2 (by omega) (by omega) (by omega) (by omega) (by omega) hl k hk) fun q hq=>?_;obtain⟨r,st'⟩:=q;obtain⟨r1,vv',r2,r3,r4,r5,r6,r7,r8⟩:=hq;refine⟨r1,⟨⟨vv',r2,r6,fun j hj=>?_⟩,r3,by rw[r4 _ (by omega) (by omega)];exact p',by rw[r4 _ (by omega) (by omega)];exact b,fun j hj=>by rw[r4 _ (by omega) (by omega)];exact o j hj,?_⟩,r5,r7.len,fun j hj=>r4 j (by omega) (by omega)⟩
 ·rcases r8 with e|⟨j',e,hj'⟩
  ·exact f3 j (by rw[<-e,hj])
  ·rw[e]at hj;cases hj;have:=i.len;omega
 ·refine⟨by have:=i.len;have:=r7.len;omega,fun j x _ e=>r7.get j x (fun hj=>?_) (i.get j x (by simp) e)⟩;have:=f3 j hj.symm;have:=uB e;omega
theorem f62(a:Int)(nm:ByteArray)(mk:Nat)(ps:List T)(pv:AV)(hpv:(ps=[]/\pv=.nils)\/pv=.sl none ps.length (T.encL ps))(s:ByteArray)(t:T)(E:Env)(st:St)(hE:E.Wf st)(hw:T.wtL ps+t.wt<=10000000000)(k:Nat)(hk:4*t.wt+30+ps.length<=k):
  CallQ k E 62 [.agg [.int .i64 a,.str nm,.int .i64 0,.nils,.int .i64 mk],pv,.str s,.agg t.enc] st fun r st'=> ∃fb,r=.ok (.ptr fb 0)/\st.H.length<=fb/\st.H.length<=st'.H.length/\(∀j,j<st.H.length->st'.H[j]?=st.H[j]?)/\IFr none st.I st'.I/\
   ∀rb,rb<st.H.length->FR st'.H rb fb {around:=a,name:=nm,params:=(ps.foldl (fun o x=>withS o x.s) []).length,vars:=decT t (if s=⟨#[]⟩then ps.foldl (fun o x=>withS o x.s) []else withS (ps.foldl (fun o x=>withS o x.s) []) s),mark:=mk}:=by
 obtain⟨k,rfl⟩:=uK (k:=k) (by omega);have hmw:=Xaa hE;have hmw4:∀x y,Xaf E (st.H.length+4) x y=true:=fun x y=>hmw _ _ _ (by omega);refine Xa4 rfl rfl (by decide) fun s0 hs e0 e1 e2 e3=>?_;have hpl:lenA false pv=some (.int .i64 ps.length):=by rcases hpv with⟨rfl,rfl⟩|rfl<;>simp[lenA]
 obtain⟨op,ts,tn,tl,tx⟩:=t;rw[Xa2,Xa2,Xa2,Xa2];generalize hpp:ps.foldl (fun o x=>withS o x.s) []=pp;generalize hv1:(if s=⟨#[]⟩then pp else withS pp s)=v1;refine Xco (fun s1 m st'=>m=[]/\s1.length=58/\lk s1 7=.ptr (st.H.length+1) 0/\lk s1 9=.ptr (st.H.length+4) 0/\Fin62 E st (.int .i64 a) (.str nm) (.int .i64 mk) (.int .i64 pp.length) (.mk op ts tn tl tx) v1 st'/\st.H.length+5<=st'.H.length/\v1.length<=ps.length+1) ?_ ?_;rotate_left
 ·rintro s1 _ st1 ⟨rfl,hs1,g7,g9,hF,hHl,hvl⟩;clear hs e0 e1 e2 e3 s0;have hE1:E.Wf st1:=hE.of (by omega) hF.ifr.len;have hgb:=hF.b;have hgp:=hF.p;have c95:=f95 (.mk op ts tn tl tx) k (by omega) E st1;simp only[T.enc]at hgb c95;simp[hs1,g7,hgb];refine Xac c95 fun p hp=>?_;obtain⟨r,st2⟩:=p;obtain⟨hr,hst2⟩:=hp;simp only at hr hst2;subst hr hst2;simp[hs1];refine Xh4 (g:=143) (a:=[]) (b:=[.ptr st1.H.length 0]) (by simp[hs1]) (st1.H.length+1) (st1.H.length+2) (by simp) (by simp) ?_;simp;have hs4l:(((s1.set 43 (AV.agg [AV.int IntKind.i64 op,AV.str ts,AV.int IntKind.i64 tn,AV.sl none tl.length (T.encL tl),AV.int IntKind.i64 tx])).set 44 (AV.fn 143 [] [AV.ptr st1.H.length 0]))).length=58:=by simp[hs1]
  have hs49:lk ((s1.set 43 (AV.agg [AV.int IntKind.i64 op,AV.str ts,AV.int IntKind.i64 tn,AV.sl none tl.length (T.encL tl),AV.int IntKind.i64 tx])).set 44 (AV.fn 143 [] [AV.ptr st1.H.length 0])) 9=.ptr (st.H.length+4) 0:=by simp[hs1,g9]
  generalize (s1.set 43 (AV.agg [AV.int IntKind.i64 op,AV.str ts,AV.int IntKind.i64 tn,AV.sl none tl.length (T.encL tl),AV.int IntKind.i64 tx])).set 44 (AV.fn 143 [] [AV.ptr st1.H.length 0])=s4 at hs4l hs49;clear hs1 g7 g9 s1;generalize hB4:ABlk.loop LState.ready none 0 s4 [45] (ACode.reg [{dst:=some 12,op:=AOp.alloc 24 [AV.int IntKind.i64 0,AV.str {data:= #[]},AV.int IntKind.i64 0,AV.nils,AV.int IntKind.i64 0],guard:=none},{dst:=none,op:=AOp.st 5 (AO.t 12) (AO.t 45),guard:=none}]) (ACode.block 3 ((ACode.reg [{dst:=some 46,op:=AOp.fa 0 (AO.t 12),guard:=none},{dst:=some 47,op:=AOp.ld none (AO.t 46),guard:=none}]).seq (ACode.block 4 (((ACode.reg [{dst:=some 49,op:=AOp.bin BK.num BinOp.eql (AO.t 47) (AO.c (AV.int IntKind.i64 30)),guard:=none},{dst:=some 48,op:=AOp.mv (AO.t 49),guard:=none}]).seq (ACode.cond (AO.t 48) ACode.skip ((ACode.reg [{dst:=some 50,op:=AOp.bin BK.num BinOp.eql (AO.t 47) (AO.c (AV.int IntKind.i64 35)),guard:=none},{dst:=some 48,op:=AOp.mv (AO.t 50),guard:=none}]).seq (ACode.cond (AO.t 48) ACode.skip ((ACode.reg [{dst:=some 51,op:=AOp.bin BK.num BinOp.eql (AO.t 47) (AO.c (AV.int IntKind.i64 38)),guard:=none},{dst:=some 48,op:=AOp.mv (AO.t 51),guard:=none}]).seq (ACode.cond (AO.t 48) ACode.skip (ACode.reg [{dst:=some 52,op:=AOp.bin BK.num BinOp.eql (AO.t 47) (AO.c (AV.int IntKind.i64 41)),guard:=none},{dst:=some 48,op:=AOp.mv (AO.t 52),guard:=none}]))))))).seq (ACode.cond (AO.t 48) (ACode.reg [{dst:=some 53,op:=AOp.ld none (AO.t 9),guard:=none},{dst:=some 54,op:=AOp.fa 1 (AO.t 12),guard:=none},{dst:=some 55,op:=AOp.ld none (AO.t 54),guard:=none},{dst:=some 56,op:=AOp.call Tr.no 94 [AO.t 53,AO.t 55],guard:=none}]) ACode.skip))))) (st1.H.length+1)=lp;have henc:(T.mk op ts tn tl tx).enc=[AV.int IntKind.i64 op,AV.str ts,AV.int IntKind.i64 tn,AV.sl none tl.length (T.encL tl),AV.int IntKind.i64 tx]:=rfl;rw[<-henc]
  have hyi:YOK E (st1.H.length+2) (st1.H.length+3) 3 (v1.length+(T.mk op ts tn tl tx).wt) (fun v s'=>Fin62 E st (.int .i64 a) (.str nm) (.int .i64 mk) (.int .i64 pp.length) (.mk op ts tn tl tx) v s'/\∀q,st.H.length+5<=q->q<st1.H.length+3->s'.H[q]?=(st1.H++ [.cells 24 (T.mk op ts tn tl tx).enc,.dfr,lp])[q]?):=by
   intro k2 hk2 v s' x hW2 hv2 hE' hB';obtain⟨k2,rfl⟩:∃k',k2=k'+1:=⟨k2 - 1,by omega⟩;obtain⟨hv2,hv3⟩:=hv2;have hmw':=Xaa hE';have hlp:s'.H[st1.H.length+2]?=some lp:=by rw[hv3 _ (by omega) (by omega)];simp
   subst hB4;refine Xdx hlp rfl (by have:=hE1.rob;omega) ?_;have hxe:=T.enc_eq x;rw[hxe];simp[hs4l,Xag,hmw',wrC];refine Xfi (Xae hlp) ?_;have w1:∀y z,((s'.H++y).set (st1.H.length+2) z)[st.H.length+4]?=some (.cells 104 [.ptr (st.H.length+3) 0]):=fun y z=>by rw[List.getElem?_set_ne (by omega)];exact Xae hv2.p
   have w3:st1.H.length+2≠s'.H.length:=by have:=(uB hlp);omega
   have w2:∀y z,((s'.H++y).set (st1.H.length+2) z)[s'.H.length]?=y[0]?:=fun y z=>by rw[List.getElem?_set_ne w3];simp
   have c94:=fun z=>(hv2.dep (st':=⟨(s'.H++ [ABlk.cells 24 x.enc]).set (st1.H.length+2) z,s'.I⟩) (fun j hj=>by show(List.set _ _ _)[_]?=_;rw[List.getElem?_set_ne (by omega),List.getElem?_append_left (by omega)]) rfl).decl x.s hE (hE'.of (by simp) (by simp)) (by have:=T.len_wtL ps;omega) k2 (by omega);rw[hxe]at c94;have hdx:dec1 x v=if isDec x.op then withS v x.s else v:=rfl
   by_cases hd:isDec x.op
   ·rw[if_pos hd]at hdx;simp only[isDec,Bool.or_eq_true,decide_eq_true_eq]at hd;rcases hd with((hd|hd)|hd)|hd
    all_goals
     rw[hd]at c94;simp[hs4l,hs49,w1,w2,List.getElem_set_ne w3,hd];refine Xac (c94 _) fun p hp=>?_;obtain⟨r,s6⟩:=p;obtain⟨r1,r2,r3,r4,r5⟩:=hp;simp only[List.length_set,List.length_append,List.length_cons,List.length_nil,Nat.zero_add]at r1 r2 r3 r4 r5;subst r1;simp[hs4l];have hlp6:=r5 (st1.H.length+2) (by omega);rw[List.getElem?_set_self (by simp;omega)]at hlp6;refine Xd2 hlp6 ?_;refine⟨rfl,⟨hdx▸r2.dep (fun q hq=>List.getElem?_set_ne (by omega)) rfl,fun q hq1 hq2=>?_⟩,by simp;omega,r4,fun q z hq e=>?_⟩
     ·by_cases hq3:q=st1.H.length+2
      ·subst hq3;show(s6.H.set _ _)[_]?=_;rw[List.getElem?_set_self (uB hlp6)];simp
      ·show(s6.H.set _ _)[q]?=_;rw[List.getElem?_set_ne (Ne.symm hq3),<-hv3 q hq1 hq2,r5 q hq1,List.getElem?_set_ne (Ne.symm hq3),List.getElem?_append_left (by omega)]
     ·show(s6.H.set _ _)[q]?=_;rw[List.getElem?_set_ne (by omega),r5 q (by omega),List.getElem?_set_ne (by omega)];exact Xae e
   ·rw[if_neg hd]at hdx;simp only[isDec,Bool.or_eq_true,decide_eq_true_eq,not_or]at hd;obtain⟨⟨⟨hd1,hd2⟩,hd3⟩,hd4⟩:=hd;simp[hs4l,hs49,w1,w2,List.getElem_set_ne w3,hd1,hd2,hd3,hd4];refine Xd2 (List.getElem?_set_self (by simp;omega)) ?_;rw[hdx];refine⟨rfl,⟨hv2.dep (fun q hq=>?_) rfl,fun q hq1 hq2=>?_⟩,by simp,Nat.le_refl _,fun q z hq e=>?_⟩
    ·show((List.set (List.set _ _ _) _ _))[q]?=_;rw[List.getElem?_set_ne (by omega),List.getElem?_set_ne (by omega),List.getElem?_append_left (by omega)]
    ·by_cases hq3:q=st1.H.length+2
     ·subst hq3;show((List.set (List.set _ _ _) _ _))[_]?=_;rw[List.getElem?_set_self (by simp;omega)];simp
     ·show((List.set (List.set _ _ _) _ _))[q]?=_;rw[List.getElem?_set_ne (Ne.symm hq3),List.getElem?_set_ne (Ne.symm hq3),List.getElem?_append_left (by omega)];exact hv3 q hq1 hq2
    ·show((List.set (List.set _ _ _) _ _))[q]?=_;rw[List.getElem?_set_ne (by omega),List.getElem?_set_ne (by omega)];exact Xae e
  have cI:=f143 (T.mk op ts tn tl tx).wt (.mk op ts tn tl tx) (Nat.le_refl _) E (st1.H.length+2) (st1.H.length+3) 3 (v1.length+(T.mk op ts tn tl tx).wt) _ (by have:=T.len_wtL ps;omega)
   ⟨fun v s1 s2 ⟨x1,x2⟩ hx hxi=>⟨x1.dep (fun q hq=>hx q (by omega)) hxi,fun q hq1 hq2=>by rw[hx q hq2];exact x2 q hq1 hq2⟩⟩ hyi (by omega)
   ⟨st1.H++ [.cells 24 (T.mk op ts tn tl tx).enc,.dfr,lp],st1.I⟩ v1 st1.H.length (Nat.le_refl _)
   ⟨hF.dep (fun q hq=>List.getElem?_append_left (by omega)) rfl,fun _ _ _=>rfl⟩ (hE1.of (by simp) (by simp)) (by simp)
   (fun v s' ⟨_,x2⟩=>by rw[x2 _ (by omega) (by omega)];simp) k (by omega)
  refine Xac cI fun p hp=>?_;obtain⟨r,s7⟩:=p;obtain⟨r1,⟨r2,r3⟩,r4,r5,r6⟩:=hp;simp only[List.length_append,List.length_cons,List.length_nil,Nat.zero_add,Nat.reduceAdd]at r1 r2 r3 r4 r5 r6;subst r1;have h7:s7.H[st1.H.length+2]?=some lp:=by rw[r3 _ (by omega) (by omega)];simp
  have hd7:s7.H[st1.H.length+1]?=some .dfr:=by rw[r3 _ (by omega) (by omega)];simp
  have hp7:=r2.p;have w4:∀z,(s7.H.set (st1.H.length+2) z)[st.H.length+4]?=some (.cells 104 [.ptr (st.H.length+3) 0]):=fun z=>by rw[List.getElem?_set_ne (by omega)];exact hp7
  have w5:∀z,(s7.H.set (st1.H.length+2) z)[st1.H.length+1]?=some .dfr:=fun z=>by rw[List.getElem?_set_ne (by omega)];exact hd7
  subst hB4;refine⟨_,_,_,_,_,_,_,_,h7,nofun,?_⟩;simp[AJump.exit',hs4l,hs49,w4,w5,endQ,Xbf];have hg8:∀x y q,q<st1.H.length+1->((s7.H.set (st1.H.length+2) x).set (st1.H.length+1) y)[q]?=s7.H[q]?:=fun x y q hq=>by rw[List.getElem?_set_ne (by omega),List.getElem?_set_ne (by omega)]
  obtain⟨⟨vv,x1,x2,x3⟩,x4,x5,x6,x7,x8⟩:=r2;refine⟨by omega,fun q hq=>by rw[hg8 _ _ q (by omega)];exact x7 q hq,x8,fun rb hrb=>⟨by omega,st.H.length+2,vv,by omega,by rw[hg8 _ _ _ (by omega)];exact x1,x2.vv,by rw[hg8 _ _ _ (by omega)];exact x4⟩⟩
 simp[-lenA,hs,e0,e1,e2,e3,Xag,hmw4,wrC,Xap,hpl];have hwl:ps.length<=T.wtL ps:=T.len_wtL ps
 refine Xau (fun n s1 m st'=> ∃(j:Nat) (vs':List ByteArray),j<=ps.length/\n=ps.length - j/\s1.length=58/\m=[]/\lk s1 2=.str s/\lk s1 7=.ptr (st.H.length+1) 0/\lk s1 9=.ptr (st.H.length+4) 0/\lk s1 17=pv/\lk s1 18=.int .i64 ps.length/\lk s1 19=.int .i64 j/\
  Fin62 E st (.int .i64 a) (.str nm) (.int .i64 mk) (.int .i64 0) (.mk op ts tn tl tx) vs' st'/\vs'.length<=j/\(ps.drop j).foldl (fun o x=>withS o x.s) vs'=pp/\st.H.length+5<=st'.H.length) ps.length (by omega)
  ⟨0,[],by omega,by omega,by simp[hs],rfl,by simp[hs,e2],by simp[hs],by simp[hs],by simp[hs],by simp[hs],by simp[hs],
   ⟨⟨.nils,by simp,.inl ⟨rfl,rfl⟩,nofun⟩,by simp[plcF],by simp,by simp[T.enc],fun j hj=>List.getElem?_append_left hj,.refl _ _⟩,by simp,by simpa using hpp,by simp⟩ ?_
 clear hs e0 e1 e2 e3 s0;rintro _ s0 m st' ⟨j,vs',hj,rfl,hs,rfl,e2,e7,e9,e17,e18,e19,hF,hvl,hq,hHl⟩;have hEs:E.Wf st':=hE.of (by omega) hF.ifr.len;by_cases hc:j<ps.length
 ·obtain⟨x,hg⟩:∃x,ps[j]?=some x:=⟨_,List.getElem?_eq_getElem hc⟩;rw[T.drop_cons hg,List.foldl_cons]at hq;have hrd:=T.rd hg;have hwj:=Xah (n:=(j:Int)+1) (by omega);have hmw2:=Xaa hEs
  have hpv':pv=.sl none ps.length (T.encL ps):=by
   rcases hpv with⟨rfl,_⟩|h
   ·simp at hc
   ·exact h
  subst hpv';have c94:=(hF.dep (st':=⟨st'.H++ [.cells 24 x.enc],st'.I⟩) (fun j hj=>List.getElem?_append_left (by omega)) rfl).decl x.s hE (hEs.of (by simp) (by simp)) (by omega) k (by omega);have hp4:=hF.p;have hxe:=T.enc_eq x;rw[hxe]at hrd c94;simp[hs,e7,e9,e17,e18,e19,hc,hrd,Xag,hmw2,wrC,Xae hp4];refine Xac c94 fun p hp=>?_;obtain⟨r,st2⟩:=p;obtain⟨r1,r2,r3,r4,r5⟩:=hp;simp only at r1 r2 r3 r4 r5;subst r1;simp[hs,e19,hwj];exact⟨_,by omega,j+1,_,by omega,rfl,by simp[hs],rfl,by simp[hs,e2],by simp[hs,e7],by simp[hs,e9],by simp[hs,e17],by simp[hs,e18],by simp[hs],r2,by have:=Xdc vs' x.s;omega,hq,by rw[r3];simp;omega⟩
 have hvp:vs'=pp:=by rw[<-hq,List.drop_eq_nil_of_le (by omega)];rfl
 subst hvp;obtain⟨⟨vv,f1,f2,f3⟩,m1,p1,b1,o1,i1⟩:=id hF;have hln:=f2.len;have hb1:=hE.base;have hb2:=hE.rob;have hmw3:∀x y,Xaf E (st.H.length+3) x y=true:=fun x y=>hmw _ _ _ (by omega);have hfl:st.H.length+3<st'.H.length:=by omega
 have hg:∀z j,j≠st.H.length+3->(st'.H.set (st.H.length+3) z)[j]?=st'.H[j]?:=fun z j h=>List.getElem?_set_ne (Ne.symm h)
 have hF2:Fin62 E st (.int .i64 a) (.str nm) (.int .i64 mk) (.int .i64 vs'.length) (.mk op ts tn tl tx) vs' ⟨st'.H.set (st.H.length+3) (.cells 108 [.int .i64 a,.str nm,.int .i64 vs'.length,vv,.int .i64 mk,.map (st.H.length+2)]),st'.I⟩:=
  ⟨⟨vv,List.getElem?_set_self hfl,f2,f3⟩,by show(List.set _ _ _)[_]?=_;rw[hg _ _ (by omega)];exact m1,by show(List.set _ _ _)[_]?=_;rw[hg _ _ (by omega)];exact p1,by show(List.set _ _ _)[_]?=_;rw[hg _ _ (by omega)];exact b1,
   fun j hj=>by show(List.set _ _ _)[_]?=_;rw[hg _ _ (by omega)];exact o1 j hj,i1⟩
 have hw1:vs'.length<=ps.length:=by omega
 have c94:=hF2.decl s hE (hEs.of (by simp) (by simp)) (by omega) k (by omega);have hg2:∀z,(st'.H.set (st.H.length+3) z)[st.H.length+4]?=some (.cells 104 [.ptr (st.H.length+3) 0]):=fun z=>by rw[hg _ _ (by omega)];exact p1
 by_cases hse:s=⟨#[]⟩
 ·subst hse;rw[if_pos rfl]at hv1;subst hv1;simp[-lenA,Nat.testBit,hs,e2,e9,e18,e19,hc,p1,f1,hln,Xag,hmw3,wrC];exact⟨rfl,rfl,by simp[hs],by simp[hs,e7],by simp[hs,e9],hF2,by simp;omega,by omega⟩
 ·rw[if_neg hse]at hv1;subst hv1;simp[-lenA,Nat.testBit,hs,e2,e9,e18,e19,hc,p1,f1,hln,Xag,hmw3,wrC,hse,hg2];refine Xac c94 fun p hp=>?_;obtain⟨r,st2⟩:=p;obtain⟨r1,r2,r3,r4,r5⟩:=hp;simp only[List.length_set]at r1 r2 r3 r4 r5;subst r1;simp[hs];exact⟨rfl,rfl,by simp[hs],by simp[hs,e7],by simp[hs,e9],r2,by omega,by have:=Xdc vs' s;omega⟩
def Jaj(E:Env)(b i:Nat)(st:St)(t:T)(w:Wk)(r:Rt AV)(st':St):Prop:=
 HFr b st.H st'.H/\IFr (some i) st.I st'.I/\((w.e=0/\∃v,r=.ok v/\NodeV st.I.length st'.I.length v t/\RSt E st' b i w.fs w.mark)\/(w.e≠0/\r=.pan (Xct w.e w.line)))
def Xsa(n:Nat):Prop:=∀t:T,t.wt<=n->t.fk->∀(at_:Nat) (loop:Bool) (w:Wk) (E:Env) (st:St) (b i:Nat),RSt E st b i w.fs w.mark->w.e=0->E.base<=b->E.Wf st->FsOk w.fs->at_<w.fs.length->w.mark+2*t.wt<=10000000000->t.wt<=4000000000->
 ∀k,5*t.wt+700<=k->CallQ k E 63 [.ptr b 0,.agg t.enc,.int .i64 at_,.bool loop] st (Jaj E b i st (wT at_ loop t w).1 (wT at_ loop t w).2)
def PFun(n:Nat):Prop:=∀t:T,t.wt<=n->t.fk->isFn t.op=true->∀(at_:Nat) (loop:Bool) (w:Wk) (E:Env) (st:St) (b i:Nat),RSt E st b i w.fs w.mark->w.e=0->E.base<=b->E.Wf st->FsOk w.fs->at_<w.fs.length->w.mark+2*t.wt<=10000000000->t.wt<=4000000000->
 ∀k,5*t.wt+699<=k->CallQ k E 97 [.ptr b 0,.agg t.enc,.int .i64 at_] st (Jaj E b i st (wT at_ loop t w).1 (wT at_ loop t w).2)
theorem RSt.lt{E st b i fs mark}(h:RSt E st b i fs mark):b<st.H.length:=by obtain⟨-, -,bs, -,hb, -⟩:=h;exact uB hb
theorem RSt.app{E:Env}{H:List ABlk}{I:List (Nat×Nat)}{b i fs mark}(h:RSt E ⟨H,I⟩ b i fs mark)(l:List ABlk):RSt E ⟨H++l,I⟩ b i fs mark:=
 h.fr (HFr.app b H l) (List.getElem?_append_left h.lt) rfl
theorem RSt.set24{E:Env}{H:List ABlk}{I:List (Nat×Nat)}{b i fs mark j c}{x:ABlk}(h:RSt E ⟨H,I⟩ b i fs mark)(hj:H[j]?=some (.cells 24 c)):RSt E ⟨H.set j x,I⟩ b i fs mark:=by
 obtain⟨h1,h2,bs,h3,h4,h5,h6⟩:=h;simp only at h4 h5 h6;have hne:∀{q y},H[q]?=some y->y≠ABlk.cells 24 c->(H.set j x)[q]?=some y:=fun{q y} e hy=>by rw[List.getElem?_set_ne];exact e;rintro rfl;rw[hj]at e;cases e;exact hy rfl
 refine⟨h1,h2,bs,h3,hne h4 (by simp),h5,fun q f hq=>?_⟩;obtain⟨fb,e,g1,mb,vv,g2,g3,g4,g5⟩:=h6 q f hq;exact⟨fb,e,g1,mb,vv,g2,hne g3 (by simp),g4,hne g5 (by simp)⟩
theorem f99r{E:Env}{st:St}{b i fs mark}(h:RSt E st b i fs mark)(n:Nat)(hm:mark+n<=100000000000)(k:Nat)(hk:1<=k):
  ∃H',doCall (aCall prog k) E .keep (.fn 99) [.ptr b 0,.int .i64 n] st=some (.ok (.int .i64 mark),⟨H',st.I⟩)/\HFr b st.H H'/\H'.length=st.H.length/\RSt E ⟨H',st.I⟩ b i fs (mark+n):=by
 obtain⟨h1,h2,bs,h3,h4,h5,h6⟩:=h;refine⟨_,f99k h4 h1 n hm k hk,.set _ _ _,by simp,h1,h2,bs,h3,List.getElem?_set_self (uB h4),h5,fun q f hq=>?_⟩;obtain⟨fb,e,g⟩:=h6 q f hq;exact⟨fb,e,g.fr (.set _ _ _)⟩
theorem f63s{n:Nat}(ihT:Xsa n)(ihF:PFun (n+1)):Xsa (n+1):=by
 intro t ht hfk at_ loop w E st b i hw he hbase hE hf ha hm hmx k hk;obtain⟨k,rfl⟩:=uK (k:=k) (by omega);have hbl:=hw.lt;have hmw:=Xaa hE;have c96:=(f96 t k (by omega)).full (E:=E) (st:=⟨st.H++ [.cells 24 t.enc,.cells 24 [.int .i64 0,.str ⟨#[]⟩,.int .i64 0,.nils,.int .i64 0]],st.I⟩) rfl (hE.of (by simp) (by simp));have hmw1:∀x y,Xaf E (st.H.length+1) x y=true:=fun x y=>hmw _ _ _ (by omega);by_cases hfn:isFn t.op=true
 ·have cF:=ihF t ht hfk hfn at_ loop w E ⟨st.H++ [.cells 24 t.enc,.cells 24 [.int .i64 0,.str ⟨#[]⟩,.int .i64 0,.nils,.int .i64 0]],st.I⟩ b i (hw.app _) he hbase (hE.of (by simp) (by simp)) hf ha hm hmx k (by omega);generalize wT at_ loop t w=res at cF⊢;obtain⟨op,s0,nn,l,line⟩:=t;simp only[T.op_mk]at hfn;simp only[T.enc,T.op_mk,hfn]at cF c96;refine Xa4 rfl rfl (by decide) fun s hs e0 e1 e2 e3=>?_;simp[hs,e0,e1,e2,e3,c96];refine Xac cF fun p hp=>?_;obtain⟨r,st'⟩:=p;obtain⟨h1,h2,h3⟩:=hp;simp only at h1 h2 h3;rcases h3 with⟨hz,v,rfl,h3,h4⟩|⟨hz,rfl⟩
  ·obtain⟨lv,rfl,hlv, -, -⟩:=h3.cells;have q1:st'.H[st.H.length+1]?=some (.cells 24 [.int .i64 0,.str ⟨#[]⟩,.int .i64 0,.nils,.int .i64 0]):=h1.get _ _ (by omega) (by simp);have hql:=uB q1;have qs:∀x,(st'.H.set (st.H.length+1) x)[st.H.length+1]?=some x:=fun x=>List.getElem?_set_self hql;simp[hs,q1,Xag,hmw1,wrC,hlv,qs];refine⟨((HFr.app b st.H _).trans h1).setN (by omega),h2,.inl ⟨hz,_,rfl,h3,h4.set24 q1⟩⟩
  ·simp[endQ];exact⟨(HFr.app b st.H _).trans h1,h2,.inr ⟨hz,rfl⟩⟩
 obtain⟨op,s0,nn,l,line⟩:=t;simp only[T.op_mk]at hfn;have hfn':isFn op=false:=by simpa using hfn
 simp only[T.wt]at hk hm hmx ht;simp only[T.enc,T.op_mk,hfn']at c96;have hres:wT at_ loop (.mk op s0 nn l line) w=(let q:=Xal at_ loop op s0 nn line w;let r:=wL at_ (q.2.1||decide (op=35)) l q.2.2;(.mk op s0 q.1 r.1 line,r.2)):=by simp only[wT,he,ne_eq,not_true,if_false,hfn',Bool.false_eq_true]
 rw[hres];simp only;have hle:=Xiz at_ loop op s0 nn line w hf;have hw0:=hw.app [.cells 24 [.int .i64 op,.str s0,.int .i64 nn,.sl none l.length (T.encL l),.int .i64 line],.cells 24 [.int .i64 0,.str ⟨#[]⟩,.int .i64 0,.nils,.int .i64 0]];have hE1:E.Wf ⟨st.H++ [.cells 24 [.int .i64 op,.str s0,.int .i64 nn,.sl none l.length (T.encL l),.int .i64 line],.cells 24 [.int .i64 0,.str ⟨#[]⟩,.int .i64 0,.nils,.int .i64 0]],st.I⟩:=hE.of (by simp) (by simp);have c98:=Xfb (w:=.int .i64 (Xbu w.fs at_ s0)) (f98 hf hw0 s0 at_ (by omega) (by omega) k (by omega)) (fun _=>rfl) rfl (E:=E);refine Xa4 rfl rfl (by decide) fun s hs e0 e1 e2 e3=>?_;rw[Xa2,Xa2,Xa2]
 refine Xco (fun s' m' st'=>m'=[]/\s'.length=93/\lk s' 0=.ptr b 0/\lk s' 2=.int .i64 at_/\lk s' 3=.bool ((Xal at_ loop op s0 nn line w).2.1||decide (op=35))/\lk s' 5=.ptr st.H.length 0/\lk s' 8=.ptr (st.H.length+1) 0/\lk s' 9=.int .i64 (Xal at_ loop op s0 nn line w).2.2.e/\
  ((Xal at_ loop op s0 nn line w).2.2.e≠0->(Xal at_ loop op s0 nn line w).2.2.line=line)/\st'.I=st.I/\HFr b st.H st'.H/\RSt E st' b i (Xal at_ loop op s0 nn line w).2.2.fs (Xal at_ loop op s0 nn line w).2.2.mark/\
  st'.H[st.H.length]?=some (.cells 24 [.int .i64 op,.str s0,.int .i64 (Xal at_ loop op s0 nn line w).1,.sl none l.length (T.encL l),.int .i64 line])/\st'.H[st.H.length+1]?=some (.cells 24 [.int .i64 0,.str ⟨#[]⟩,.int .i64 0,.nils,.int .i64 0])/\st.H.length+2<=st'.H.length) ?_ ?_
 ·have hA:∀z,RSt E ⟨st.H++ [.cells 24 [.int .i64 op,.str s0,.int .i64 z,.sl none l.length (T.encL l),.int .i64 line],.cells 24 [.int .i64 0,.str ⟨#[]⟩,.int .i64 0,.nils,.int .i64 0]],st.I⟩ b i w.fs w.mark:=fun z=>hw.app _;obtain⟨H',c99,hH1,hH2,hH3⟩:=f99r hw0 1 (by omega) k (by omega);simp only[List.length_append,List.length_cons,List.length_nil,Nat.zero_add,Nat.reduceAdd,Int.natCast_one]at hH1 hH2 c99;have k1:H'[st.H.length]?=some (.cells 24 [.int .i64 op,.str s0,.int .i64 nn,.sl none l.length (T.encL l),.int .i64 line]):=hH1.get _ _ (by omega) (by simp);have k2:H'[st.H.length+1]?=some (.cells 24 [.int .i64 0,.str ⟨#[]⟩,.int .i64 0,.nils,.int .i64 0]):=hH1.get _ _ (by omega) (by simp);have hmk:∀x y,Xaf E st.H.length x y=true:=fun x y=>hmw _ _ _ (Nat.le_refl _);by_cases o1:op=1
  ·subst o1;simp[hs,e0,e1,e2,e3,c96,c98,Xag,hmw,wrC];refine Xaq (fun hv=>?_) (fun hv=>?_)
   ·simp[hs];exact⟨rfl,rfl,by simp[hs],by simp[hs,e0],by simp[hs,e2],by simp[hs,e3,Xal,hv],by simp[hs],by simp[hs],by simp[hs,Xal,Wk.fail,he,hv],by simp[Xal,Wk.fail,he,hv],rfl,.app _ _ _,by simpa [Xal,hv]using hA _,by simp[Xal,hv],by simp,by simp⟩
   ·simp[hs];exact⟨rfl,rfl,by simp[hs],by simp[hs,e0],by simp[hs,e2],by simp[hs,e3,Xal,hv],by simp[hs],by simp[hs],by simp[hs,Xal,Wk.fail,he,hv],by simp[Xal,Wk.fail,he,hv],rfl,.app _ _ _,by simpa [Xal,hv]using hA _,by simp[Xal,hv],by simp,by simp⟩
  by_cases o30:op=30
  ·subst o30;simp[hs,e0,e1,e2,e3,c96,c98,Xag,hmw,wrC];exact⟨rfl,rfl,by simp[hs],by simp[hs,e0],by simp[hs,e2],by simp[hs,e3,Xal],by simp[hs],by simp[hs],by simp[hs,Xal,Wk.fail,he],by simp[Xal,Wk.fail,he],rfl,.app _ _ _,by simpa [Xal]using hA _,by simp[Xal],by simp,by simp⟩
  by_cases o35:op=35
  ·subst o35;simp[hs,e0,e1,e2,e3,c96,c98,Xag,hmw,wrC];exact⟨rfl,rfl,by simp[hs],by simp[hs,e0],by simp[hs,e2],by simp[hs,e3,Xal],by simp[hs],by simp[hs],by simp[hs,Xal,Wk.fail,he],by simp[Xal,Wk.fail,he],rfl,.app _ _ _,by simpa [Xal]using hA _,by simp[Xal],by simp,by simp⟩
  by_cases o38:op=38
  ·subst o38;simp[hs,e0,e1,e2,e3,c96,c98,Xag,hmw,wrC];exact⟨rfl,rfl,by simp[hs],by simp[hs,e0],by simp[hs,e2],by simp[hs,e3,Xal],by simp[hs],by simp[hs],by simp[hs,Xal,Wk.fail,he],by simp[Xal,Wk.fail,he],rfl,.app _ _ _,by simpa [Xal]using hA _,by simp[Xal],by simp,by simp⟩
  by_cases o11:op=11
  ·subst o11;simp[hs,e0,e1,e2,e3,c96,c99,Xag,hmw,wrC];simp[hs,e0,e2,e3,k1,Xag,hmk,wrC];exact⟨rfl,rfl,by simp[hs],by simp[hs,e0],by simp[hs,e2],by simp[hs,e3,Xal],by simp[hs],by simp[hs],by simp[hs,Xal,he],by simp[Xal,he],rfl,((HFr.app b st.H _).trans hH1).setN (Nat.le_refl _),by simpa [Xal]using hH3.set24 k1,by simpa [Xal]using List.getElem?_set_self (uB k1),by simpa using k2,by simp;omega⟩
  by_cases o16:op=16
  ·subst o16;simp[hs,e0,e1,e2,e3,c96,c99,Xag,hmw,wrC];simp[hs,e0,e2,e3,k1,Xag,hmk,wrC];exact⟨rfl,rfl,by simp[hs],by simp[hs,e0],by simp[hs,e2],by simp[hs,e3,Xal],by simp[hs],by simp[hs],by simp[hs,Xal,he],by simp[Xal,he],rfl,((HFr.app b st.H _).trans hH1).setN (Nat.le_refl _),by simpa [Xal]using hH3.set24 k1,by simpa [Xal]using List.getElem?_set_self (uB k1),by simpa using k2,by simp;omega⟩
  by_cases o15:op=15
  ·subst o15;simp[hs,e0,e1,e2,e3,c96,c99,Xag,hmw,wrC];simp[hs,e0,e2,e3,k1,Xag,hmk,wrC];exact⟨rfl,rfl,by simp[hs],by simp[hs,e0],by simp[hs,e2],by simp[hs,e3,Xal],by simp[hs],by simp[hs],by simp[hs,Xal,he],by simp[Xal,he],rfl,((HFr.app b st.H _).trans hH1).setN (Nat.le_refl _),by simpa [Xal]using hH3.set24 k1,by simpa [Xal]using List.getElem?_set_self (uB k1),by simpa using k2,by simp;omega⟩
  by_cases o36:op=36
  ·subst o36;by_cases ha0:at_=0
   ·simp[hs,e0,e1,e2,e3,c96,c98,Xag,hmw,wrC,ha0];exact⟨rfl,rfl,by simp[hs],by simp[hs,e0],by simp[hs,e2],by simp[hs,e3,Xal,ha0],by simp[hs],by simp[hs],by simp[hs,Xal,Wk.fail,he,ha0],by simp[Xal,Wk.fail,he,ha0],rfl,.app _ _ _,by simpa [Xal,ha0]using hA _,by simp[Xal,ha0],by simp,by simp⟩
   ·simp[hs,e0,e1,e2,e3,c96,c98,Xag,hmw,wrC,ha0];exact⟨rfl,rfl,by simp[hs],by simp[hs,e0],by simp[hs,e2],by simp[hs,e3,Xal,ha0],by simp[hs],by simp[hs],by simp[hs,Xal,Wk.fail,he,ha0],by simp[Xal,Wk.fail,he,ha0],rfl,.app _ _ _,by simpa [Xal,ha0]using hA _,by simp[Xal,ha0],by simp,by simp⟩
  by_cases o39:op=39
  ·subst o39;cases loop
   ·simp[hs,e0,e1,e2,e3,c96,c98,Xag,hmw,wrC];exact⟨rfl,rfl,by simp[hs],by simp[hs,e0],by simp[hs,e2],by simp[hs,e3,Xal],by simp[hs],by simp[hs],by simp[hs,Xal,Wk.fail,he],by simp[Xal,Wk.fail,he],rfl,.app _ _ _,by simpa [Xal]using hA _,by simp[Xal],by simp,by simp⟩
   ·simp[hs,e0,e1,e2,e3,c96,c98,Xag,hmw,wrC];exact⟨rfl,rfl,by simp[hs],by simp[hs,e0],by simp[hs,e2],by simp[hs,e3,Xal],by simp[hs],by simp[hs],by simp[hs,Xal,Wk.fail,he],by simp[Xal,Wk.fail,he],rfl,.app _ _ _,by simpa [Xal]using hA _,by simp[Xal],by simp,by simp⟩
  by_cases o40:op=40
  ·subst o40;cases loop
   ·simp[hs,e0,e1,e2,e3,c96,c98,Xag,hmw,wrC];exact⟨rfl,rfl,by simp[hs],by simp[hs,e0],by simp[hs,e2],by simp[hs,e3,Xal],by simp[hs],by simp[hs],by simp[hs,Xal,Wk.fail,he],by simp[Xal,Wk.fail,he],rfl,.app _ _ _,by simpa [Xal]using hA _,by simp[Xal],by simp,by simp⟩
   ·simp[hs,e0,e1,e2,e3,c96,c98,Xag,hmw,wrC];exact⟨rfl,rfl,by simp[hs],by simp[hs,e0],by simp[hs,e2],by simp[hs,e3,Xal],by simp[hs],by simp[hs],by simp[hs,Xal,Wk.fail,he],by simp[Xal,Wk.fail,he],rfl,.app _ _ _,by simpa [Xal]using hA _,by simp[Xal],by simp,by simp⟩
  by_cases o34:op=34
  ·subst o34;simp[hs,e0,e1,e2,e3,c96,c98,Xag,hmw,wrC];exact⟨rfl,rfl,by simp[hs],by simp[hs,e0],by simp[hs,e2],by simp[hs,e3,Xal],by simp[hs],by simp[hs],by simp[hs,Xal,Wk.fail,he],by simp[Xal,Wk.fail,he],rfl,.app _ _ _,by simpa [Xal]using hA _,by simp[Xal],by simp,by simp⟩
  simp[hs,e0,e1,e2,e3,c96,c98,Xag,hmw,wrC,o1,o30,o35,o38,o11,o16,o15,o36,o39,o40,o34];exact⟨rfl,rfl,by simp[hs],by simp[hs,e0],by simp[hs,e2],by simp[hs,e3,Xal,o1,o30,o35,o38,o11,o16,o15,o36,o39,o40,o34],by simp[hs],by simp[hs],by simp[hs,Xal,Wk.fail,he,o1,o30,o35,o38,o11,o16,o15,o36,o39,o40,o34],by simp[Xal,Wk.fail,he,o1,o30,o35,o38,o11,o16,o15,o36,o39,o40,o34],rfl,.app _ _ _,by simpa [Xal,o1,o30,o35,o38,o11,o16,o15,o36,o39,o40,o34]using hA _,by simp[Xal,o1,o30,o35,o38,o11,o16,o15,o36,o39,o40,o34],by simp,by simp⟩
 clear e0 e1 e2 e3 hs c98 c96 hE1 hw0;rintro s _ st1 ⟨rfl,hs,e0,e2,e3,e5,e8,e9,hln,hI1,hH1,hR1,hN,hZ,hL1⟩;generalize hst:Xal at_ loop op s0 nn line w=q at e3 e9 hln hR1 hN hle⊢;obtain⟨n1,L0,w1⟩:=q;simp only at e3 e9 hln hR1 hN hle⊢;generalize (L0||decide (op=35))=L1 at e3⊢;have hlw:=T.len_wtL l;have hw1m:=hle.1.mark;have ha1:at_<w1.fs.length:=by rw[hle.2];exact ha
 have hil:i<st.I.length:=by obtain⟨-, -,bs, -, -,h5, -⟩:=hw;exact uB h5
 by_cases hz:w1.e=0;rotate_left
 ·rw[Xn3 at_ L1 l w1 hz];simp[hs,e9,hz,e5,hN,Xap,wrC,endQ];refine⟨hH1,by rw[hI1];exact .refl _ _,.inr ⟨hz,by rw[hln hz];rfl⟩⟩
 obtain⟨-,hfkl⟩:=hfk;generalize hres2:wL at_ L1 l w1=res;simp[hs,e9,hz,e5,hN]
 refine Xau (fun n s m st'=> ∃(j:Nat) (ts:List T) (lv:AV) (w':Wk),j<=l.length/\n=l.length - j/\s.length=93/\m=[]/\lk s 0=.ptr b 0/\lk s 2=.int .i64 at_/\lk s 3=.bool L1/\lk s 5=.ptr st.H.length 0/\
  lk s 8=.ptr (st.H.length+1) 0/\lk s 10=lv/\lk s 75=.sl none l.length (T.encL l)/\lk s 76=.int .i64 l.length/\lk s 77=.int .i64 j/\
  st'.H[st.H.length]?=some (.cells 24 [.int .i64 op,.str s0,.int .i64 n1,.sl none l.length (T.encL l),.int .i64 line])/\st'.H[st.H.length+1]?=some (.cells 24 [.int .i64 0,.str ⟨#[]⟩,.int .i64 0,.nils,.int .i64 0])/\st.H.length+2<=st'.H.length/\
  HFr b st.H st'.H/\RSt E st' b i w'.fs w'.mark/\AccT st.I.length st'.I ts lv/\IFr (some i) st.I st'.I/\ts.length=j/\WkLe w1 w' (T.wtL (l.take j))/\w'.e=0/\
  (ts++(wL at_ L1 (l.drop j) w').1,(wL at_ L1 (l.drop j) w').2)=res) l.length (by omega)
  ⟨0,[],.nils,w1,by omega,by omega,by simp[hs],rfl,by simp[hs,e0],by simp[hs,e2],by simp[hs,e3],by simp[hs,e5],by simp[hs,e8],by simp[hs],by simp[hs],by simp[hs],by simp[hs],hN,hZ,hL1,hH1,hR1,.inl ⟨rfl,rfl⟩,by rw[hI1];exact .refl _ _,rfl,.refl hle.1.fs _,hz,by simpa using hres2⟩ ?_
 clear e0 e2 e3 e5 e8 e9 hs hN hZ hL1 hH1 hR1 hI1 hln hres2 st1;rintro _ s m st1 ⟨j,ts,lv,w',hj,rfl,hs,rfl,e0,e2,e3,e5,e8,e10,e75,e76,e77,hN,hZ,hL1,hH1,hR1,hacc,hIf,htl,hwk,hz',hq⟩;by_cases hc:j<l.length
 ·obtain⟨t,hg⟩:∃t,l[j]?=some t:=⟨_,List.getElem?_eq_getElem hc⟩;rw[T.drop_cons hg,wL]at hq;have hrd:=T.rd hg;have hwj:=Xah (n:=(j:Int)+1) (by omega);have hwt:=Xcm hg;have hwt1:=Xcu hg;have hEs:E.Wf st1:=hE.of (by omega) hIf.len;have hE2:E.Wf ⟨st1.H++ [.cells 24 t.enc],st1.I⟩:=hEs.of (by simp) (by simp);have hmk:=hwk.mark;have hmw2:=Xaa hEs;have hal:at_<w'.fs.length:=Nat.lt_of_lt_of_le ha1 hwk.pre.length_le;have cT:=ihT t (by omega) (T.fkL_get hfkl hg) at_ L1 w' E ⟨st1.H++ [.cells 24 t.enc],st1.I⟩ b i (hR1.app _) hz' hbase hE2 hwk.fs hal (by omega) (by omega) k (by omega);have hle2:=Xmw at_ L1 t w' hwk.fs hal;generalize wT at_ L1 t w'=r1 at cT hq hle2;obtain⟨t',w2⟩:=r1;simp only at cT hq hle2;have hlvo:=hacc.one;rw[T.enc_eq]at hrd cT;simp[hs,e0,e2,e3,e5,e8,e10,e75,e76,e77,hc,hrd,Xag,hmw2,wrC];refine Xac cT fun p hp=>?_;obtain⟨r,st2⟩:=p;obtain⟨h1,h2,h3⟩:=hp;simp only at h1 h2 h3;have hH2:HFr b st1.H st2.H:=(HFr.app b st1.H _).trans h1;rcases h3 with⟨hz2,v,rfl,h3,h4⟩|⟨hz2,rfl⟩
  ·obtain⟨lv2,rfl,hlv,hfin, -⟩:=h3.cells;have hacc2:=(hacc.fr (fun q e=>by cases e;exact hil) h2).old (I':=st2.I++ [(1,5)]) Xbx;have hIl:=hIf.len;have h2l:=h2.len;obtain⟨v',I3,happ,hacc3,hold⟩:=hacc2.app (E:=E) (H:=st2.H) (by simp;omega) hE.rom (by omega) t' st2.I.length;rw[T.enc_eq]at happ;simp[Nat.testBit,hs,e10,Xap,wrC,hlv,hfin,happ];simp[hs,e77,hwj];have hN2:=hH2.get _ _ (by omega) hN;have hZ2:=hH2.get _ _ (by omega) hZ;refine⟨_,by omega,j+1,ts++ [t'],v',w2,by omega,rfl,by simp[hs],rfl,by simp[hs,e0],by simp[hs,e2],by simp[hs,e3],by simp[hs,e5],by simp[hs,e8],by simp[hs],by simp[hs,e75],by simp[hs,e76],by simp[hs],hN2,hZ2,Nat.le_trans hL1 hH2.len,hH1.trans hH2,?_,hacc3,?_,by simp[htl],?_,hz2,by simpa using hq⟩
   ·refine h4.fr (.refl _ _) rfl ?_;obtain⟨-, -,bs, -, -,h5, -⟩:=h4;rw[h5];exact hold.get i _ hil (Xbx i _ h5)
   ·refine⟨Nat.le_trans (Nat.le_trans hIl h2l) (by have:=hold.len;simp at this;show st2.I.length<=I3.length;omega),fun q x hq e=>?_⟩;have hql:=uB e;exact hold.get q x hql (Xbx q x (h2.get q x hq (hIf.get q x hq e)))
   ·exact hwk.trans hle2 (by omega)
  ·rw[Xn3 at_ L1 _ w2 hz2]at hq;simp[endQ];rw[<-hq];exact⟨hH1.trans hH2,hIf.trans h2,.inr ⟨hz2,rfl⟩⟩
 ·rw[List.drop_eq_nil_of_le (by omega)]at hq;simp only[wL,List.append_nil]at hq;subst hq;have hlvo:=hacc.one;have hlvc:=hacc.cells;have hmk:∀x y,Xaf E st.H.length x y=true:=fun x y=>hmw _ _ _ (Nat.le_refl _);have hNl:st.H.length<st1.H.length:=by omega
  have g1:∀x,(st1.H.set st.H.length x)[st.H.length]?=some x:=fun x=>List.getElem?_set_self hNl;have g2:∀x,(st1.H.set st.H.length x)[st.H.length+1]?=some (.cells 24 [.int .i64 0,.str ⟨#[]⟩,.int .i64 0,.nils,.int .i64 0]):=fun x=>by rw[List.getElem?_set_ne (by omega)];exact hZ
  have g3:∀x y,((st1.H.set st.H.length x).set (st.H.length+1) y)[st.H.length+1]?=some y:=fun x y=>List.getElem?_set_self (by simp;omega);simp[hs,e10,e76,e77,hc,e5,e8,hN,Xag,hmk,hmw1,wrC,hlvo,hlvc,g1,g2,g3];refine⟨(hH1.setN (Nat.le_refl _)).setN (by omega),hIf,.inl ⟨hz',_,rfl,hacc.node op s0 n1 line,(hR1.set24 hN).set24 (g2 _)⟩⟩
theorem f144{E:Env}{st:St}(o:Option Nat)(l:List T)(h1:1<=l.length)(h2:l.length<=1048576)(k:Nat)(hk:1<=k):
  CallQ k E 144 [.sl o l.length (T.encL l)] st fun r st'=>r=.ok (.hs st.H.length l.length)/\st'=⟨st.H++ [.cells 24 (T.encL l)],st.I⟩:=by
 obtain⟨k,rfl⟩:=uK (k:=k) (by omega);have hone:=T.encL_one l;refine⟨(.ok (.hs st.H.length l.length),⟨st.H++ [.cells 24 (T.encL l)],st.I⟩),?_,rfl,rfl⟩;show Xna (aCall prog k) E [.sl o l.length (T.encL l)] st=_;simp[-List.all_eq_true,Xna,h1,h2,T.encL_fin,hone]
theorem Xl9(m:Nat):∀a b:List AV,AV.finL m (a++b)=AV.finL m a++AV.finL m b
 |[],b=>by simp
 |x::a,b=>by simp[Xl9 m a b]
theorem Jci(a r:List T)(t:T)(v:Int)(i:Nat)(hi:a.length=i):wrC (T.encL (a++t::r)) (i*5+2) [.int .i64 v]=T.encL (a++t.setN v::r):=by subst hi;obtain⟨op,s,n,l,x⟩:=t;have h1:(T.encL a).length=a.length*5:=T.encL_length a;simp only[wrC,T.encL_append,T.encL_cons,T.setN,T.enc,T.op_mk,T.s_mk,T.n_mk,T.l_mk,T.line_mk];rw[<-h1,List.take_append,List.drop_append,List.take_of_length_le (by omega),List.drop_eq_nil_of_le (by simp;omega),show(T.encL a).length+2+ [AV.int IntKind.i64 v].length - (T.encL a).length=3 by simp;omega,show(T.encL a).length+2 - (T.encL a).length=2 by omega];simp
theorem Xqw(a:List T)(t:T)(vs:List AV)(i:Nat)(hi:a.length=i)(hv:vs.length=5):wrC (T.encL (a++ [t])) (i*5) vs=T.encL a++vs:=by
 subst hi;have h1:(T.encL a).length=a.length*5:=T.encL_length a;have h2:(T.encL (a++ [t])).length=a.length*5+5:=by simp;omega
 simp only[wrC,hv];rw[List.drop_eq_nil_of_le (by omega),List.append_nil,T.encL_append,List.take_append_of_le_length (by omega),List.take_of_length_le (by omega)]
theorem f97s{n:Nat}(ihT:Xsa n):PFun (n+1):=by
  intro t ht hfk hfn at_ loop w E st b i hw he hbase hE hf ha hm hmx k hk;obtain⟨k,rfl⟩:=uK (k:=k) (by omega);have hbl:=hw.lt;have hmw:=Xaa hE;have hmw1:∀x y,Xaf E (st.H.length+1) x y=true:=fun x y=>hmw _ _ _ (by omega);have hmw0:∀x y,Xaf E st.H.length x y=true:=fun x y=>hmw _ _ _ (Nat.le_refl _);obtain⟨op,s0,nn,l,line⟩:=t;simp only[T.op_mk]at hfn;obtain⟨hl0,hfkl⟩:=hfk;have hl1m:=(hl0 hfn).2;obtain⟨ps,bd,rfl⟩:∃ps bd,l=ps++ [bd]:=⟨l.dropLast,l.getLast (hl0 hfn).1,(List.dropLast_concat_getLast _).symm⟩;simp only[T.wt]at hk hm hmx ht;generalize hl:ps++ [bd]=l at*;have hlw:=T.len_wtL l;have hll:l.length=ps.length+1:=by rw[<-hl];simp
  have hlm:=Xah (n:=(l.length:Int) - 1) (by omega);have hlp:=Xah (n:=(ps.length:Int)) (by omega);have hki:((l.length:Int) - 1)=(ps.length:Nat):=by omega
  have hgb:l[ps.length]?=some bd:=by rw[<-hl];simp
  have hrb:=T.rd hgb;have hwb:=T.wtL_get hgb;have hkl:ps.length<l.length:=by omega
  have htk:(T.encL l).take (ps.length*5)=T.encL ps:=by rw[<-hl,T.encL_append,List.take_left' (by simp)]
  have hww:T.wtL ps+bd.wt<=T.wtL l:=by have:=Xcm hgb;rwa [show l.take ps.length=ps by rw[<-hl];simp]at this
  refine Xa8 rfl rfl (by decide) fun s hs e0 e1 e2=>?_;rw[Xa2,Xa2,Xa2];generalize hs1:(if op=10 then s0 else⟨#[]⟩)=s1
  refine Xco (fun s' m' st'=>m'=[]/\s'.length=77/\lk s' 0=.ptr b 0/\lk s' 2=.int .i64 at_/\lk s' 4=.ptr st.H.length 0/\lk s' 6=.ptr (st.H.length+1) 0/\lk s' 7=.int .i64 ps.length/\lk s' 8=.str s1/\
    st'=⟨st.H++ [.cells 24 [.int .i64 op,.str s0,.int .i64 nn,.sl none l.length (T.encL l),.int .i64 line],.cells 24 [.int .i64 0,.str ⟨#[]⟩,.int .i64 0,.nils,.int .i64 0]],st.I⟩) ?_ ?_
  ·by_cases o10:op=10
   ·rw[if_pos o10]at hs1;simp[hs,e0,e1,e2,hki,hlp,o10];exact⟨rfl,rfl,by simp[hs],by simp[hs,e0],by simp[hs,e2],by simp[hs],by simp[hs],by simp[hs],by simp[hs,hs1],by simp[o10]⟩
   ·rw[if_neg o10]at hs1;simp[hs,e0,e1,e2,hki,hlp,o10];exact⟨rfl,rfl,by simp[hs],by simp[hs,e0],by simp[hs,e2],by simp[hs],by simp[hs],by simp[hs],by simp[hs,hs1],by simp⟩
  clear hs e0 e1 e2 s;rintro s _ _ ⟨rfl,hs,e0,e2,e4,e6,e7,e8,rfl⟩;have hw0:=hw.app [.cells 24 [.int .i64 op,.str s0,.int .i64 nn,.sl none l.length (T.encL l),.int .i64 line],.cells 24 [.int .i64 0,.str ⟨#[]⟩,.int .i64 0,.nils,.int .i64 0]];obtain⟨H',c99,hH1,hH2,hH3⟩:=f99r hw0 2 (by omega) k (by omega);simp only[List.length_append,List.length_cons,List.length_nil,Nat.zero_add,Nat.reduceAdd,Int.cast_ofNat_Int]at hH1 hH2 c99;have k1:H'[st.H.length]?=some (.cells 24 [.int .i64 op,.str s0,.int .i64 nn,.sl none l.length (T.encL l),.int .i64 line]):=hH1.get _ _ (by omega) (by simp);have k2:H'[st.H.length+1]?=some (.cells 24 [.int .i64 0,.str ⟨#[]⟩,.int .i64 0,.nils,.int .i64 0]):=hH1.get _ _ (by omega) (by simp);have hE1:E.Wf ⟨H',st.I⟩:=hE.of (by omega) (Nat.le_refl _);have hkle:ps.length<=l.length:=by omega
  have c62:=f62 at_ s0 w.mark ps (.sl none ps.length (T.encL ps)) (.inr rfl) s1 bd E ⟨H',st.I⟩ hE1 (by omega) k (by omega);have hbe:=T.enc_eq bd;rw[hbe]at hrb c62;simp[Nat.testBit,hs,e0,e2,e4,e6,e7,e8,c99,k1,htk,hkl,hkle,hrb,Xap,wrC];refine Xac c62 fun p hp=>?_;obtain⟨r,st2⟩:=p;obtain⟨fb,r1,r2,r3,r4,r5,r6⟩:=hp;simp only at r1 r2 r3 r4 r5 r6;subst r1;have hF2:=r6 b (by omega);have hK:HFr b H' st2.H:=⟨r3,fun j x _ e=>by rw[r4 j (uB e)];exact e⟩
  have hR2:RSt E st2 b i w.fs (w.mark+2):=hH3.fr hK (r4 b (by omega)) (by
    obtain⟨-, -,bs, -, -,h5, -⟩:=hH3;rw[h5];exact r5.get i _ (by simp) h5)
  have hE2:E.Wf st2:=hE1.of r3 r5.len;have k1':st2.H[st.H.length]?=_:=hK.get _ _ (by omega) k1;have k2':st2.H[st.H.length+1]?=_:=hK.get _ _ (by omega) k2;generalize hFe:({around:=(at_:Int),name:=s0,params:=(ps.foldl (fun o x=>withS o x.s) []).length,vars:=decT bd (if s1=⟨#[]⟩then ps.foldl (fun o x=>withS o x.s) []else withS (ps.foldl (fun o x=>withS o x.s) []) s1),mark:=w.mark}:Fn)=F at hF2
  have hfo:Xb8 op s0 l at_ w.mark=F:=by
    have hpar:Xc6 l=ps.foldl (fun o x=>withS o x.s) []:=by rw[<-hl];simp[Xc6]
    have hgl:l.getLast?=some bd:=by rw[<-hl];simp
    rw[<-hFe];simp only[Xb8,hpar,hgl,Option.getD_some]
    congr 2
    by_cases o10:op=10
    ·rw[if_pos o10]at hs1;subst hs1;by_cases hse:s0=⟨#[]⟩<;>simp[o10,hse]
    ·rw[if_neg o10]at hs1;subst hs1;simp[o10]
  have hwT:wT at_ loop (.mk op s0 nn l line) w=if w.fs.length=500\/200<F.vars.length then(.mk op s0 nn l line,({w with mark:=w.mark+2}:Wk).fail 52 line)else
      ((.mk op s0 w.fs.length (wP w.fs.length l {w with mark:=w.mark+2,fs:=w.fs++ [F]}).1 line),(wP w.fs.length l {w with mark:=w.mark+2,fs:=w.fs++ [F]}).2):=by
    simp only[wT,he,ne_eq,not_true,if_false,hfn,if_true,hfo]
  rw[hwT];have hlen500:=hf.len;have hHst2:HFr b st.H st2.H:=((HFr.app b st.H _).trans hH1).trans hK;by_cases hlim:w.fs.length=500\/200<F.vars.length
  ·rw[if_pos hlim];simp only;have c61:CallQ k E 61 [.ptr b 0,.ptr fb 0,.int .i64 line] st2 fun r st'=>r=.pan (Xct 52 line)/\st'=st2:=by obtain⟨-, -,bs,hbs,hb, -⟩:=hR2;exact f61p hb (by simp[lenA,hbs]) hF2 hlim line k (by omega)
   simp[Nat.testBit,hs,e0,e2,e4,e6,e7,e8,k1,k1'];refine Xac c61 fun p hp=>?_;obtain⟨r,st3⟩:=p;obtain⟨q1,q2⟩:=hp;simp only at q1 q2;subst q1 q2;simp[endQ,Xak,Xex,Nat.testBit];refine⟨hHst2,⟨r5.len,fun q x _ e=>r5.get q x (by simp) e⟩,.inr ⟨by simp[Wk.fail,he],by simp[Wk.fail,he]⟩⟩
  have c61:=f61a hE2 hR2 hbase hF2 (by omega) (by omega) line k (by omega);rw[if_neg hlim];simp only;simp[Nat.testBit,hs,e0,e2,e4,e6,e7,e8,k1,k1'];refine Xac c61 fun p hp=>?_;obtain⟨r,st3⟩:=p;obtain⟨q1,q2,q3,q4,q5⟩:=hp;simp only at q1 q2 q3 q4 q5;subst q1;have k1'':st3.H[st.H.length]?=_:=q3.get _ _ (by omega) k1';have k2'':st3.H[st.H.length+1]?=_:=q3.get _ _ (by omega) k2';have hNl:st.H.length<st3.H.length:=by omega
  have k3:∀x,(st3.H.set st.H.length x)[st.H.length]?=some x:=fun x=>List.getElem?_set_self hNl;have c144:=f144 (E:=E) (st:=⟨st3.H.set st.H.length (.cells 24 [.int .i64 op,.str s0,.int .i64 w.fs.length,.sl none l.length (T.encL l),.int .i64 line]),st3.I⟩) none l (by omega) (by omega) k (by omega);simp[Nat.testBit,hs,e0,e2,e4,e6,e7,e8,k1'',Xag,hmw0,wrC,k3];refine Xac c144 fun p hp=>?_;obtain⟨r,st4⟩:=p;obtain⟨q6,q7⟩:=hp;simp only[List.length_set]at q6 q7;subst q6;simp[hs,e7];have hR4:RSt E ⟨st3.H.set st.H.length (.cells 24 [.int .i64 op,.str s0,.int .i64 w.fs.length,.sl none l.length (T.encL l),.int .i64 line]),st3.I⟩ b i (w.fs++ [F]) (w.mark+2):=q2.set24 k1'';have hA4:=k3 (.cells 24 [.int .i64 op,.str s0,.int .i64 w.fs.length,.sl none l.length (T.encL l),.int .i64 line]);have hZ4:(st3.H.set st.H.length (.cells 24 [.int .i64 op,.str s0,.int .i64 w.fs.length,.sl none l.length (T.encL l),.int .i64 line]))[st.H.length+1]?=some (.cells 24 [.int .i64 0,.str ⟨#[]⟩,.int .i64 0,.nils,.int .i64 0]):=by rw[List.getElem?_set_ne (by omega)];exact k2''
  have hF4:HFr b st.H (st3.H.set st.H.length (.cells 24 [.int .i64 op,.str s0,.int .i64 w.fs.length,.sl none l.length (T.encL l),.int .i64 line])):=(hHst2.trans q3).setN (Nat.le_refl _);have hI4:IFr (some i) st.I st3.I:=⟨Nat.le_trans r5.len q5.len,fun q x hq e=>q5.get q x hq (r5.get q x (by simp) e)⟩;have hL4:(st3.H.set st.H.length (.cells 24 [.int .i64 op,.str s0,.int .i64 w.fs.length,.sl none l.length (T.encL l),.int .i64 line])).length=st3.H.length:=by simp
  generalize st3.H.set st.H.length (.cells 24 [.int .i64 op,.str s0,.int .i64 w.fs.length,.sl none l.length (T.encL l),.int .i64 line])=H4 at hR4 hA4 hZ4 hF4 hL4 q7;have hL3:st.H.length+2<=st3.H.length:=by omega
  generalize hI3:st3.I=I3 at hR4 hI4 q7;generalize hh:st3.H.length=hb at hL4 hL3;have hf2:FsOk (w.fs++ [F]):=hf.push (by omega) (by omega) (by rw[<-hFe];simp<;>omega) (by rw[<-hFe];simp<;>omega);have hme:(w.fs++ [F]).length=w.fs.length+1:=by simp
  refine Xau (fun n s m st'=> ∃j:Nat,j<=ps.length/\n=ps.length - j/\s.length=77/\m=[]/\lk s 0=.ptr b 0/\lk s 4=.ptr st.H.length 0/\lk s 6=.ptr (st.H.length+1) 0/\lk s 7=.int .i64 ps.length/\lk s 9=.int .i64 w.fs.length/\lk s 10=.hs hb l.length/\lk s 47=.int .i64 ps.length/\lk s 48=.int .i64 j/\
    st'=⟨H4++ [.cells 24 (T.encL ((ps.take j).map (fun x=>x.setN (Xbu (w.fs++ [F]) w.fs.length x.s))++l.drop j))],I3⟩) ps.length (by omega)
    ⟨0,by omega,by omega,by simp[hs],rfl,by simp[hs,e0],by simp[hs,e4],by simp[hs,e6],by simp[hs,e7],by simp[hs],by simp[hs],by simp[hs],by simp[hs],by simp[q7]⟩ ?_
  clear hs e0 e2 e4 e6 e7 e8 s;rintro _ s m _ ⟨j,hj,rfl,hs,rfl,e0,e4,e6,e7,e9,e10,e47,e48,rfl⟩;have hmwb:∀x y,Xaf E hb x y=true:=fun x y=>hmw _ _ _ (by omega);have g1:∀x,(H4++ [x])[hb]?=some x:=fun x=>by rw[<-hL4];simp
  have g2:∀x y,(H4++ [x]).set hb y=H4++ [y]:=fun x y=>by rw[<-hL4];simp
  by_cases hc:j<ps.length
  ·obtain⟨t,hg⟩:∃t,ps[j]?=some t:=⟨_,List.getElem?_eq_getElem hc⟩;have hgl:l[j]?=some t:=by rw[<-hl,List.getElem?_append_left hc];exact hg
   have hjl:j<l.length:=by omega
   have hwj:=Xah (n:=(j:Int)+1) (by omega);rw[T.drop_cons hgl];have hAl:((ps.take j).map (fun x=>x.setN (Xbu (w.fs++ [F]) w.fs.length x.s))).length=j:=by simp;omega
   have hwr:=Jci ((ps.take j).map (fun x=>x.setN (Xbu (w.fs++ [F]) w.fs.length x.s))) (l.drop (j+1)) t (Xbu (w.fs++ [F]) w.fs.length t.s) j hAl;have hat:((ps.take j).map (fun x=>x.setN (Xbu (w.fs++ [F]) w.fs.length x.s))++t::l.drop (j+1))[j]?=some t:=by rw[List.getElem?_append_right (by omega),hAl];simp
   have hcs:=T.cell hat 1 (by omega);have hts:t.enc[1]?=some (.str t.s):=by rw[T.enc_eq];rfl
   rw[hts]at hcs;have hlen:(T.encL ((ps.take j).map (fun x=>x.setN (Xbu (w.fs++ [F]) w.fs.length x.s))++t::l.drop (j+1))).length=l.length*5:=by rw[T.encL_length];simp;omega
   have hnew:(ps.take (j+1)).map (fun x=>x.setN (Xbu (w.fs++ [F]) w.fs.length x.s))++l.drop (j+1)=(ps.take j).map (fun x=>x.setN (Xbu (w.fs++ [F]) w.fs.length x.s))++t.setN (Xbu (w.fs++ [F]) w.fs.length t.s)::l.drop (j+1):=by rw[List.take_add_one,hg];simp
   generalize (ps.take j).map (fun x=>x.setN (Xbu (w.fs++ [F]) w.fs.length x.s))++t::l.drop (j+1)=ls at hwr hat hcs hlen⊢;have c98:=Xfb (w:=.int .i64 (Xbu (w.fs++ [F]) w.fs.length t.s)) (f98 hf2 (hR4.app [.cells 24 (T.encL ls)]) t.s w.fs.length (by omega) (by omega) k (by omega)) (fun _=>rfl) rfl (E:=E);have hb2:j*5+2+1<=l.length*5:=by omega
   simp[hs,e0,e4,e6,e7,e9,e10,e47,e48,hc,hjl,g1,hcs,c98];simp[hs,Xag,g1,g2,hmwb,hlen,hb2,hwr];simp[hs,e48,hwj];exact⟨_,by omega,j+1,by omega,rfl,by simp[hs],rfl,by simp[hs,e0],by simp[hs,e4],by simp[hs,e6],by simp[hs,e7],by simp[hs,e9],by simp[hs,e10],by simp[hs,e47],by simp[hs],by rw[hnew,List.map_take]⟩
  have hjp:j=ps.length:=by omega
  subst hjp;have hdl:l.drop ps.length=[bd]:=by rw[<-hl];simp
  have hwP:wP w.fs.length l {w with mark:=w.mark+2,fs:=w.fs++ [F]}=(ps.map (fun x=>x.setN (Xbu (w.fs++ [F]) w.fs.length x.s))++ [(wT w.fs.length false bd {w with mark:=w.mark+2,fs:=w.fs++ [F]}).1],(wT w.fs.length false bd {w with mark:=w.mark+2,fs:=w.fs++ [F]}).2):=by rw[<-hl];exact Xtd _ _ _ _
  rw[hwP,hdl,List.take_length];have hAl:(ps.map (fun x=>x.setN (Xbu (w.fs++ [F]) w.fs.length x.s))).length=ps.length:=by simp
  generalize ps.map (fun x=>x.setN (Xbu (w.fs++ [F]) w.fs.length x.s))=A at hAl⊢;have hat:(A++ [bd])[ps.length]?=some bd:=by rw[<-hAl];simp
  have hrd:=T.rd hat;have hI3l:=hI4.len;have hE4:E.Wf ⟨H4++ [.cells 24 (T.encL (A++ [bd]))],I3⟩:=hE.of (by simp;omega) hI3l;have cT:=ihT bd (by omega) (T.fkL_get hfkl hgb) w.fs.length false {w with mark:=w.mark+2,fs:=w.fs++ [F]} E ⟨H4++ [.cells 24 (T.encL (A++ [bd]))],I3⟩ b i (hR4.app _) he hbase hE4 hf2 (by simp) (by simp;omega) (by omega) k (by omega);generalize wT w.fs.length false bd {w with mark:=w.mark+2,fs:=w.fs++ [F]}=r1 at cT⊢;obtain⟨t',w3⟩:=r1;simp only at cT⊢;rw[hbe]at cT hrd;have hlen:(T.encL (A++ [bd])).length=l.length*5:=by rw[T.encL_length];simp;omega
  have hwr:=fun vs h=>Xqw A bd vs ps.length hAl h;generalize hls:T.encL (A++ [bd])=ls at hlen hwr cT hrd⊢;simp[hs,e0,e4,e6,e7,e9,e10,e47,e48,hkl,g1,hrd];refine Xac cT fun p hp=>?_;obtain⟨r,st5⟩:=p;obtain⟨h1,h2,h3⟩:=hp;simp only at h1 h2 h3;have hH5:HFr b st.H st5.H:=(hF4.trans (.app _ _ _)).trans h1;have hI5:IFr (some i) st.I st5.I:=hI4.trans h2;rcases h3 with⟨hz,v,rfl,h3,h4⟩|⟨hz,rfl⟩;rotate_left
  ·simp[endQ];exact⟨hH5,hI5,.inr ⟨hz,rfl⟩⟩
  obtain⟨lv,rfl,hlv,hfin, -⟩:=h3.cells;have j1:st5.H[hb]?=some (.cells 24 ls):=h1.get _ _ (by omega) (g1 _);have j2:st5.H[st.H.length]?=_:=h1.get _ _ (by omega) (Xae hA4);have j3:st5.H[st.H.length+1]?=_:=h1.get _ _ (by omega) (Xae hZ4);have hb2:ps.length*5+5<=l.length*5:=by omega
  have hw2:=hwr [.int .i64 t'.op,.str t'.s,.int .i64 t'.n,lv,.int .i64 t'.line] rfl;simp[hs,e4,e6,e7,e10,hkl,j1,Xag,hmwb,hlv,hlen,hb2,hw2];have hl5:hb<st5.H.length:=uB j1;have hrob2:E.rob<=hb:=by have:=hE.rob;omega
  have hfv:AV.finL 0 (T.encL A++ [.int .i64 t'.op,.str t'.s,.int .i64 t'.n,lv,.int .i64 t'.line])=T.encL (A++ [t']):=by rw[Xl9,T.encL_append,T.encL_fin,T.encL_cons,T.encL_nil,T.enc_eq];simp[hfin]
  have hll2:(A++ [t']).length=l.length:=by simp;omega
  have hR5:=(h4.set24 j1 (x:=.cells 24 (T.encL A++ [.int .i64 t'.op,.str t'.s,.int .i64 t'.n,lv,.int .i64 t'.line]))).set24 (List.getElem?_set_self hl5) (x:=.opq);generalize hX:(T.encL A++ [AV.int IntKind.i64 t'.op,AV.str t'.s,AV.int IntKind.i64 t'.n,lv,AV.int IntKind.i64 t'.line])=X at hfv hR5⊢;rw[List.set_set]at hR5;have y1:(st5.H.set hb (.cells 24 X))[hb]?=some (.cells 24 X):=List.getElem?_set_self hl5;have y2:(st5.H.set hb .opq)[st.H.length]?=some (.cells 24 [.int .i64 op,.str s0,.int .i64 w.fs.length,.sl none l.length (T.encL l),.int .i64 line]):=by rw[List.getElem?_set_ne (by omega)];exact j2
  have y3:(st5.H.set hb .opq)[st.H.length+1]?=some (.cells 24 [.int .i64 0,.str ⟨#[]⟩,.int .i64 0,.nils,.int .i64 0]):=by rw[List.getElem?_set_ne (by omega)];exact j3
  have hH6:HFr b st.H (st5.H.set hb .opq):=hH5.setN (by omega);have hl6:(st5.H.set hb ABlk.opq).length=st5.H.length:=by simp
  simp[frzA,y1,hrob2,hfv,hs,e4];generalize st5.H.set hb .opq=H6 at hR5 y2 y3 hH6 hl6⊢;have y4:∀x,(H6.set st.H.length x)[st.H.length]?=some x:=fun x=>List.getElem?_set_self (by omega);have y5:∀x,(H6.set st.H.length x)[st.H.length+1]?=some (.cells 24 [.int .i64 0,.str ⟨#[]⟩,.int .i64 0,.nils,.int .i64 0]):=fun x=>by rw[List.getElem?_set_ne (by omega)];exact y3
  have y6:∀x y,((H6.set st.H.length x).set (st.H.length+1) y)[st.H.length+1]?=some y:=fun x y=>List.getElem?_set_self (by simp;omega);simp[hs,e4,e6,y2,Xag,hmw0,hmw1,wrC,y4,y5,y6];refine⟨(hH6.setN (Nat.le_refl _)).setN (by omega),hI5,.inl ⟨hz,_,rfl,⟨_,rfl,.inr ⟨none,by rw[<-hll2];rfl,nofun⟩⟩,(hR5.set24 y2).set24 (y5 _)⟩⟩
theorem Xqo:∀n,Xsa n
 |0=>fun t ht=>absurd ht (by cases t;simp[T.wt])
 |n+1=>f63s (Xqo n) (f97s (Xqo n))
theorem f60{E:Env}{st:St}(hE:E.Wf st)(o:Option Nat)(e x:Int)(k:Nat)(hk:10<=k):
  CallQ k E 60 [.sl o 1 [Xct e x]] st fun r st'=> ∃j w,r=.ok (.iface 151 (.ptr j 0))/\st.H.length<=j/\st'.H[j]?=some (.cells 153 [.sl w 1 [Xct e x]])/\Grow st st':=by
 obtain⟨k,rfl⟩:∃k',k=k'+5:=⟨k - 5,by omega⟩;have hmw:=Xaa hE;refine Xai rfl rfl (by decide) fun s hs e0=>?_;have w1:=Xah (n:=(1:Int)) (by omega);have hrom:=hE.rom;have hrob:=hE.rob;simp[hs,e0,Xvk,Xle,Xct,w1,Xap,wrC,Xag,hmw,appA,srcA,hrom];exact Grow.app _ _ _
def okQ(P:List AV->St->Prop):QR:=fun r st=>match r with|.ok s=>P s st|.pan _=>False
@[simp ↓] theorem Jht(P s st):okQ P (.ok s) st=P s st:=rfl
def nrm0(P:St->Prop):Q4:=fun x _ m st=>x=.nrm/\m=[]/\P st
theorem Xsy{C:CSem}{E:Env}{caps:List AV}{rv:AV}{st:St}{P:St->Prop}
  (h:WO C E a59x (put (caps++List.replicate 13 AV.undef) (some 6) rv) st (okQ fun s1 st1=>WP C E 1 none a59y s1 [] st1 (nrm0 P))):obP (Xd3 C E caps rv st) P:=by
 obtain⟨⟨r,st1⟩,e,q⟩:=h;rcases r with s1|v
 ·obtain⟨⟨x,s2,m2,st2⟩,e2,q1,q2,q3⟩:=q;simp only at q1 q2 q3;subst q1 q2;exact⟨st2,by simp only[Xd3,e,Xam,e2],q3⟩
 ·exact q.elim
def resQ(C:CSem)(E:Env)(p2 p3 p4:AV)(Q:Rt AV->St->Prop):Q4:=fun x _ m st=>m=[]/\match x with
 |.ret=>obP (Xd3 C E [p2,p3,p4] .nili st) fun st4=> ∃a b c,loadA st4 none p2=some a/\loadA st4 (some 5) p3=some b/\loadA st4 none p4=some c/\Q (.ok (.tup [a,b,c])) st4
 |.pan v=>obP (Xd3 C E [p2,p3,p4] v st) fun st4=> ∃a b c,loadA st4 none p2=some a/\loadA st4 (some 5) p3=some b/\loadA st4 none p4=some c/\Q (.ok (.tup [a,b,c])) st4
 |_=>False
theorem Xtw(p2 p3 p4:AV){k:Nat}{E:Env}{args:List AV}{st:St}{Q:Rt AV->St->Prop}
  (h:WO (aCall prog k) E a42x (args++List.replicate (40 - args.length) AV.undef) st (okQ fun s0 st0=>WO (aCall prog k) E a42y s0 st0 (okQ fun s1 st1=>10<s1.length/\lk s1 2=p2/\lk s1 3=p3/\lk s1 4=p4/\
   WP (aCall prog k) E 1000 none a42z (s1.set 10 (.fn 59 [] [p2,p3,p4])) [] st1 (resQ (aCall prog k) E p2 p3 p4 Q)))):
  CallQ (k+1) E 42 args st Q:=by
 obtain⟨⟨r,st0⟩,e0,q⟩:=h;rcases r with s0|v;rotate_left
 ·exact q.elim
 obtain⟨⟨r,st1⟩,e1,q⟩:=q;rcases r with s1|v;rotate_left
 ·exact q.elim
 obtain⟨hl,rfl,rfl,rfl,⟨x,s3,m3,st3⟩,e3,q1,q2⟩:=q;have q1:m3=[]:=q1;subst q1;have e:aCall prog (k+1) E (.fn 42) args st=ov42 (aCall prog k) E args st:=rfl;show obP (aCall prog (k+1) E (.fn 42) args st) _;rw[e];have l2:lk (s1.set 10 (AV.fn 59 [] [lk s1 2,lk s1 3,lk s1 4])) 2=lk s1 2:=by rw[Xdj];simp
 have l3:lk (s1.set 10 (AV.fn 59 [] [lk s1 2,lk s1 3,lk s1 4])) 3=lk s1 3:=by rw[Xdj];simp
 have l4:lk (s1.set 10 (AV.fn 59 [] [lk s1 2,lk s1 3,lk s1 4])) 4=lk s1 4:=by rw[Xdj];simp
 have hres:∀st4 a b c,loadA st4 none (lk s1 2)=some a->loadA st4 (some 5) (lk s1 3)=some b->loadA st4 none (lk s1 4)=some c->resAll (s1.set 10 (AV.fn 59 [] [lk s1 2,lk s1 3,lk s1 4])) st4 Xjz=some [a,b,c]:=by intro st4 a b c h1 h2 h3;simp only[Xjz,resAll,resA,l2,l3,l4,h1,h2,h3,Xam]
 cases x with
 |ret=>
  obtain⟨st4,f1,a,b,c,f2,f3,f4,f5⟩:=q2;have f1:Xd3 (aCall prog k) E _ _ st3=some st4:=f1;exact⟨(.ok (.tup [a,b,c]),st4),by simp only[ov42,e0,Xam,e1,hl,decide_true,Xax,e3,l2,l3,l4,f1,hres _ _ _ _ f2 f3 f4,Xas,oneOr],f5⟩
 |pan v=>
  obtain⟨st4,f1,a,b,c,f2,f3,f4,f5⟩:=q2;have f1:Xd3 (aCall prog k) E _ _ st3=some st4:=f1;exact⟨(.ok (.tup [a,b,c]),st4),by simp only[ov42,e0,Xam,e1,hl,decide_true,Xax,e3,l2,l3,l4,f1,hres _ _ _ _ f2 f3 f4,Xas,oneOr],f5⟩
 |nrm=>exact q2.elim
 |exit=>exact q2.elim
theorem Xzt{E:Env}{st:St}(hE:E.Wf st)(p2 p3 p4:AV)(k:Nat):obP (Xd3 (aCall prog k) E [p2,p3,p4] .nili st) fun st4=>st4=⟨st.H++ [.cells 65 [.int .i64 0,.int .i64 0]],st.I⟩:=by
 refine Xsy ?_;have hmw:=Xaa hE;have hs:(put ([p2,p3,p4]++List.replicate 13 AV.undef) (some 6) .nili).length=16:=by simp[put]
 have e6:lk (put ([p2,p3,p4]++List.replicate 13 AV.undef) (some 6) .nili) 6=.nili:=rfl;generalize put ([p2,p3,p4]++List.replicate 13 AV.undef) (some 6) .nili=s at hs e6;rw[a59x];simp[hs,e6,taA,Xag,hmw,wrC];rw[a59y];simp[hs];exact⟨rfl,rfl,rfl⟩
theorem Xp1{E:Env}{st:St}(hE:E.Wf st)(N:Nat)(hb:E.base<=N)(hr:E.rob<=N){x y0:AV}{c:List AV}(h1:st.H[N+1]?=some (.cells 27 [x]))(h2:st.H[N+2]?=some (.cells 24 c))(hc:c.length=5)(h3:st.H[N+3]?=some (.cells 61 [y0]))(e ln:Int)(k:Nat)(hk:20<=k)
    {P:St->Prop} (hP:∀(st4:St) (j:Nat) (w:Option Nat),st4.H[N+1]?=some (.cells 27 [.nils])->st4.H[N+2]?=some (.cells 24 [.int .i64 0,.str ⟨#[]⟩,.int .i64 0,.nils,.int .i64 0])->st4.H[N+3]?=some (.cells 61 [.iface 151 (.ptr j 0)])->
      st4.H[j]?=some (.cells 153 [.sl w 1 [Xct e ln]])->(∀q z,q<N->st.H[q]?=some z->st4.H[q]?=some z)->st.H.length<=st4.H.length->IFr none st.I st4.I->P st4):
    obP (Xd3 (aCall prog k) E [.ptr (N+1) 0,.ptr (N+2) 0,.ptr (N+3) 0] (Xct e ln) st) P:=by
  refine Xsy ?_;have hmw:=Xaa hE;have hmw0:∀j x y,Xaf E (N+j) x y=true:=fun j x y=>by simp[Xaf];omega
  have hs:(put ([AV.ptr (N+1) 0,.ptr (N+2) 0,.ptr (N+3) 0]++List.replicate 13 AV.undef) (some 6) (Xct e ln)).length=16:=by simp[put]
  have e6:lk (put ([AV.ptr (N+1) 0,.ptr (N+2) 0,.ptr (N+3) 0]++List.replicate 13 AV.undef) (some 6) (Xct e ln)) 6=.iface 65 (.agg [.int .i64 e,.int .i64 ln]):=rfl;have e0:lk (put ([AV.ptr (N+1) 0,.ptr (N+2) 0,.ptr (N+3) 0]++List.replicate 13 AV.undef) (some 6) (Xct e ln)) 0=.ptr (N+1) 0:=rfl;have e1:lk (put ([AV.ptr (N+1) 0,.ptr (N+2) 0,.ptr (N+3) 0]++List.replicate 13 AV.undef) (some 6) (Xct e ln)) 1=.ptr (N+2) 0:=rfl;have e2:lk (put ([AV.ptr (N+1) 0,.ptr (N+2) 0,.ptr (N+3) 0]++List.replicate 13 AV.undef) (some 6) (Xct e ln)) 2=.ptr (N+3) 0:=rfl;generalize put ([AV.ptr (N+1) 0,.ptr (N+2) 0,.ptr (N+3) 0]++List.replicate 13 AV.undef) (some 6) (Xct e ln)=s at hs e6 e0 e1 e2;rw[a59x];have hE1:E.Wf ⟨st.H++ [.cells 65 [.int .i64 e,.int .i64 ln]],st.I⟩:=hE.of (by simp) (by simp);have c60:=f60 (st:=⟨st.H++ [.cells 65 [.int .i64 e,.int .i64 ln]],st.I++ [(1,1)]⟩) (hE.of (by simp) (by simp)) (some st.I.length) e ln k (by omega);simp only[Xct]at c60;simp[hs,e6,taA,Xag,hmw,wrC];rw[a59y];simp[hs,Xap,wrC];refine Xac c60 fun p hp=>?_;obtain⟨r,st2⟩:=p;obtain⟨j,w,r1,r2,r3,r4⟩:=hp;simp only[List.length_append,List.length_cons,List.length_nil]at r1 r2 r3 r4;subst r1;have g1:=r4.get (Xae h1);have g2:=r4.get (Xae h2);have g3:=r4.get (Xae h3);have hl2:st.H.length+1<=st2.H.length:=by have:=r4.H.length_le;simpa using this
  have hlt:=uB h3;have y1:∀x,(st2.H.set (N+1) x)[N+2]?=some (.cells 24 c):=fun x=>by rw[List.getElem?_set_ne (by omega)];exact g2
  have y2:∀x y,((st2.H.set (N+1) x).set (N+2) y)[N+3]?=some (.cells 61 [y0]):=fun x y=>by rw[List.getElem?_set_ne (by omega),List.getElem?_set_ne (by omega)];exact g3
  simp[hs,e0,e1,e2,g1,Xag,hmw0,wrC,hc,y1,y2];have hc5:c.drop 5=[]:=List.drop_eq_nil_of_le (by omega);have y3:∀x y z q,q≠N+1->q≠N+2->q≠N+3->(((st2.H.set (N+1) x).set (N+2) y).set (N+3) z)[q]?=st2.H[q]?:=fun x y z q h1 h2 h3=>by rw[List.getElem?_set_ne (by omega),List.getElem?_set_ne (by omega),List.getElem?_set_ne (by omega)]
  refine⟨rfl,rfl,hP _ j w ?_ ?_ ?_ ?_ (fun q z hq e=>?_) (by simp;omega) ?_⟩
  ·show(List.set _ _ _)[N+1]?=_;rw[List.getElem?_set_ne (by omega),List.getElem?_set_ne (by omega),List.getElem?_set_self (by omega)]
  ·show(List.set _ _ _)[N+2]?=_;rw[List.getElem?_set_ne (by omega),List.getElem?_set_self (by simp;omega),hc5]
  ·show(List.set _ _ _)[N+3]?=_;rw[List.getElem?_set_self (by simp;omega)]
  ·show(List.set _ _ _)[j]?=_;rw[y3 _ _ _ _ (by omega) (by omega) (by omega)];exact r3
  ·show(List.set _ _ _)[q]?=_;rw[y3 _ _ _ _ (by omega) (by omega) (by omega)];exact r4.get (Xae e)
  ·exact⟨by have:=r4.I.length_le;simp at this;show st.I.length<=st2.I.length;omega,fun q z _ e=>by obtain⟨tl,ht⟩:=r4.I;show st2.I[q]?=_;rw[<-ht,List.append_assoc,List.getElem?_append_left (uB e)];exact e⟩
theorem VV.fin{vs vv}(h:VV vs vv):vv.fin 0=.sl none vs.length (vs.map .str):=by
 rcases h with⟨rfl,rfl⟩|⟨o,rfl⟩
 ·rfl
 ·cases o<;>simp[finS]
theorem VV.one{vs vv}(h:VV vs vv):vv.one=true:=by rcases h with⟨rfl,rfl⟩|⟨o,rfl⟩<;>rfl
def AccF(m:Nat)(I:List (Nat×Nat))(fs:List Fn)(v:AV):Prop:=
 (fs=[]/\v=.nils)\/∃j,v=.sl (some j) fs.length (encFs fs)/\m<=j/\I[j]?=some (fs.length,5)
theorem AccF.one{m I fs v}(h:AccF m I fs v):v.one=true:=by rcases h with⟨-,rfl⟩|⟨j,rfl, -, -⟩<;>rfl
theorem AccF.cells{m I fs v}(h:AccF m I fs v):v.cells=[v]:=by rcases h with⟨-,rfl⟩|⟨j,rfl, -, -⟩<;>rfl
theorem AccF.app{E:Env}{H:List ABlk}{m:Nat}{I:List (Nat×Nat)}{fs:List Fn}{v:AV}(h:AccF m I fs v)(hm:m<=I.length)(hr:E.rom<=m)(hl:fs.length<=100000000000)(f:Fn)(vv:AV)(hv:VV f.vars vv)(q:Nat):
  ∃v' I',appA E ⟨H,I++ [(1,5)]⟩ 5 64 v (.sl (some q) 1 [.int .i64 f.around,.str f.name,.int .i64 f.params,vv,.int .i64 f.mark])=some (v',⟨H,I'⟩)/\AccF m I' (fs++ [f]) v'/\IOld m I I':=by
 have hfin:=hv.fin;have hone:=hv.one;rcases h with⟨rfl,rfl⟩|⟨j,rfl,hj,hi⟩
 ·refine⟨.sl (some (I.length+1)) 1 (encFs [f]),I++ [(1,5),(1,5)],?_,.inr ⟨I.length+1,by simp,by omega,by simp⟩,⟨by simp,fun j x _ e=>by rw[List.getElem?_append_left (uB e)];exact e⟩⟩;simp[appA,srcA,hone,hfin,Xck,Xho,Fn.enc]
 ·have hj1:E.rom<=j:=by omega
  have hi2:(I++ [(1,5)])[j]?=some (fs.length,5):=Xbx j _ hi;have hb1:(fs.length+1)*64<=70368744177664:=by omega
  have hb2:fs.length+1<=70368744177664:=by omega
  refine⟨.sl (some j) (fs.length+1) (encFs fs++f.enc),(I++ [(1,5)]).set j (fs.length+1,5),?_,.inr ⟨j,by simp[Xgo,Xck,Xho],hj,?_⟩,⟨by simp,fun q x hq e=>?_⟩⟩
  ·simp[appA,srcA,hone,hfin,hj1,hi2,hb1,hb2,Fn.enc]
  ·rw[List.getElem?_set_self (uB hi2)];simp
  ·rw[List.getElem?_set_ne (by omega)];exact Xbx q x e
def Wk0(t:T):Wk:={fs:=[{around:= -1,name:=⟨#[]⟩,params:=0,vars:=decT t [],mark:=0}],mark:=4,e:=0,line:=0}
def resW(t:T):T×Wk:=if 200<(decT t []).length then(t,(Wk0 t).fail 52 t.line)else wT 0 false t (Wk0 t)
theorem Xm5(t:T)(h:right t=true):resolve t=if(resW t).2.e≠0 then([],.mk 0 ⟨#[]⟩ 0 [] 0,(resW t).2.line,(resW t).2.e)else((resW t).2.fs,(resW t).1,0,0):=by
 simp only[resolve,h,Bool.not_true,Bool.false_eq_true,if_false,resW];split
 ·simp[Wk0,Wk.fail]
 ·rfl
def Xs2(t:T)(st:St)(r:Rt AV)(st':St):Prop:=
    (∀(j:Nat) (x:ABlk),st.H[j]?=some x->st'.H[j]?=some x)/\IFr none st.I st'.I/\
    (((resW t).2.e=0/\∃fv v,r=.ok (.tup [fv,v,.nili])/\NodeV st.I.length st'.I.length v (resW t).1/\AccF st.I.length st'.I (resW t).2.fs fv)\/
     ((resW t).2.e≠0/\∃(j:Nat) (w:Option Nat),r=.ok (.tup [.nils,.agg [.int .i64 0,.str ⟨#[]⟩,.int .i64 0,.nils,.int .i64 0],.iface 151 (.ptr j 0)])/\st'.H[j]?=some (.cells 153 [.sl w 1 [Xct (resW t).2.e (resW t).2.line]])))
theorem f42(t:T)(hfk:t.fk)(hwt:t.wt<=4000000000)(E:Env)(st:St)(hE:E.Wf st)(k:Nat)(hk:5*t.wt+2000<=k):CallQ k E 42 [.agg t.enc] st (Xs2 t st):=by
 obtain⟨k,rfl⟩:=uK (k:=k) (by omega);have hmw:=Xaa hE;have hmw0:∀j x y,Xaf E (st.H.length+j) x y=true:=fun j x y=>hmw _ _ _ (by omega);have hE1:E.Wf ⟨st.H++ [.cells 24 t.enc,.cells 27 [.nils],.cells 24 [.int .i64 0,.str ⟨#[]⟩,.int .i64 0,.nils,.int .i64 0],.cells 61 [.nili],.cells 100 [.nils,.int .i64 4]],st.I⟩:=hE.of (by simp) (by simp);have c62:=f62 (-1) ⟨#[]⟩ 0 [] .nils (.inl ⟨rfl,rfl⟩) ⟨#[]⟩ t E _ hE1 (by simp[T.wtL];omega) k (by simp;omega);obtain⟨op,s0,nn,l,line⟩:=t;simp only[T.enc]at c62 hE1;refine Xtw (.ptr (st.H.length+1) 0) (.ptr (st.H.length+2) 0) (.ptr (st.H.length+3) 0) ?_;have hs:([AV.agg (T.mk op s0 nn l line).enc]++List.replicate (40 - [AV.agg (T.mk op s0 nn l line).enc].length) AV.undef).length=40:=by simp
 have e0:lk ([AV.agg (T.mk op s0 nn l line).enc]++List.replicate (40 - [AV.agg (T.mk op s0 nn l line).enc].length) AV.undef) 0=.agg (T.mk op s0 nn l line).enc:=rfl;generalize [AV.agg (T.mk op s0 nn l line).enc]++List.replicate (40 - [AV.agg (T.mk op s0 nn l line).enc].length) AV.undef=s at hs e0⊢;rw[a42x];simp[hs,e0];rw[a42y];simp[hs,Xap,wrC];rw[a42z];have hs':((((((((s.set 1 (AV.ptr st.H.length 0)).set 2 (AV.ptr (st.H.length+1) 0)).set 3 (AV.ptr (st.H.length+2) 0)).set 4 (AV.ptr (st.H.length+3) 0)).set 8 (AV.agg [AV.nils,AV.int IntKind.i64 4])).set 9 (AV.ptr (st.H.length+4) 0)).set 5 (AV.ptr (st.H.length+4) 0)).set 10 (AV.fn 59 [] [AV.ptr (st.H.length+1) 0,AV.ptr (st.H.length+2) 0,AV.ptr (st.H.length+3) 0])).length=40:=by simp[hs]
 have e1:lk ((((((((s.set 1 (AV.ptr st.H.length 0)).set 2 (AV.ptr (st.H.length+1) 0)).set 3 (AV.ptr (st.H.length+2) 0)).set 4 (AV.ptr (st.H.length+3) 0)).set 8 (AV.agg [AV.nils,AV.int IntKind.i64 4])).set 9 (AV.ptr (st.H.length+4) 0)).set 5 (AV.ptr (st.H.length+4) 0)).set 10 (AV.fn 59 [] [AV.ptr (st.H.length+1) 0,AV.ptr (st.H.length+2) 0,AV.ptr (st.H.length+3) 0])) 1=.ptr st.H.length 0:=by simp[hs]
 have e2:lk ((((((((s.set 1 (AV.ptr st.H.length 0)).set 2 (AV.ptr (st.H.length+1) 0)).set 3 (AV.ptr (st.H.length+2) 0)).set 4 (AV.ptr (st.H.length+3) 0)).set 8 (AV.agg [AV.nils,AV.int IntKind.i64 4])).set 9 (AV.ptr (st.H.length+4) 0)).set 5 (AV.ptr (st.H.length+4) 0)).set 10 (AV.fn 59 [] [AV.ptr (st.H.length+1) 0,AV.ptr (st.H.length+2) 0,AV.ptr (st.H.length+3) 0])) 2=.ptr (st.H.length+1) 0:=by simp[hs]
 have e3:lk ((((((((s.set 1 (AV.ptr st.H.length 0)).set 2 (AV.ptr (st.H.length+1) 0)).set 3 (AV.ptr (st.H.length+2) 0)).set 4 (AV.ptr (st.H.length+3) 0)).set 8 (AV.agg [AV.nils,AV.int IntKind.i64 4])).set 9 (AV.ptr (st.H.length+4) 0)).set 5 (AV.ptr (st.H.length+4) 0)).set 10 (AV.fn 59 [] [AV.ptr (st.H.length+1) 0,AV.ptr (st.H.length+2) 0,AV.ptr (st.H.length+3) 0])) 3=.ptr (st.H.length+2) 0:=by simp[hs]
 have e4:lk ((((((((s.set 1 (AV.ptr st.H.length 0)).set 2 (AV.ptr (st.H.length+1) 0)).set 3 (AV.ptr (st.H.length+2) 0)).set 4 (AV.ptr (st.H.length+3) 0)).set 8 (AV.agg [AV.nils,AV.int IntKind.i64 4])).set 9 (AV.ptr (st.H.length+4) 0)).set 5 (AV.ptr (st.H.length+4) 0)).set 10 (AV.fn 59 [] [AV.ptr (st.H.length+1) 0,AV.ptr (st.H.length+2) 0,AV.ptr (st.H.length+3) 0])) 4=.ptr (st.H.length+3) 0:=by simp[hs]
 have e5:lk ((((((((s.set 1 (AV.ptr st.H.length 0)).set 2 (AV.ptr (st.H.length+1) 0)).set 3 (AV.ptr (st.H.length+2) 0)).set 4 (AV.ptr (st.H.length+3) 0)).set 8 (AV.agg [AV.nils,AV.int IntKind.i64 4])).set 9 (AV.ptr (st.H.length+4) 0)).set 5 (AV.ptr (st.H.length+4) 0)).set 10 (AV.fn 59 [] [AV.ptr (st.H.length+1) 0,AV.ptr (st.H.length+2) 0,AV.ptr (st.H.length+3) 0])) 5=.ptr (st.H.length+4) 0:=by simp[hs]
 generalize (((((((s.set 1 (AV.ptr st.H.length 0)).set 2 (AV.ptr (st.H.length+1) 0)).set 3 (AV.ptr (st.H.length+2) 0)).set 4 (AV.ptr (st.H.length+3) 0)).set 8 (AV.agg [AV.nils,AV.int IntKind.i64 4])).set 9 (AV.ptr (st.H.length+4) 0)).set 5 (AV.ptr (st.H.length+4) 0)).set 10 (AV.fn 59 [] [AV.ptr (st.H.length+1) 0,AV.ptr (st.H.length+2) 0,AV.ptr (st.H.length+3) 0])=s1 at hs' e1 e2 e3 e4 e5⊢;clear hs e0 s;have hs:=hs';simp[Nat.testBit,hs,e1,e5,Xap,wrC];refine Xac c62 fun p hp=>?_;obtain⟨r,st2⟩:=p;obtain⟨fb,r1,r2,r3,r4,r5,r6⟩:=hp;simp only[List.length_append,List.length_cons,List.length_nil,Nat.zero_add,Nat.reduceAdd]at r1 r2 r3 r4 r5 r6;subst r1;have hF:=r6 (st.H.length+4) (by omega);have hE2:E.Wf st2:=hE.of (by omega) r5.len;have b0:=r4 st.H.length (by omega);have b1:=r4 (st.H.length+1) (by omega);have b2:=r4 (st.H.length+2) (by omega);have b3:=r4 (st.H.length+3) (by omega);have b4:=r4 (st.H.length+4) (by omega);simp at b0 b1 b2 b3 b4 hF;have hold2:∀q z,q<st.H.length->st.H[q]?=some z->st2.H[q]?=some z:=fun q z hq e=>by rw[r4 q (by omega)];exact Xae e
 generalize hF0:({around:= -1,name:=⟨#[]⟩,params:=0,vars:=decT (.mk op s0 nn l line) [],mark:=0}:Fn)=F at hF;have hW0:Wk0 (.mk op s0 nn l line)={fs:=[F],mark:=4,e:=0,line:=0}:=by rw[<-hF0];rfl
 have hvars:decT (.mk op s0 nn l line) []=F.vars:=by rw[<-hF0]
 have hRW:resW (.mk op s0 nn l line)=if 200<F.vars.length then(.mk op s0 nn l line,({fs:=[F],mark:=4,e:=0,line:=0}:Wk).fail 52 line)else wT 0 false (.mk op s0 nn l line) {fs:=[F],mark:=4,e:=0,line:=0}:=by rw[resW,hW0,hvars];rfl
 simp[Nat.testBit,hs,e1,e5,b0];have hN:=hE.base;have hN2:=hE.rob;by_cases hlim:200<F.vars.length
 ·have c61:=f61p (E:=E) b4 (n:=0) rfl hF (.inr hlim) line k (by omega);rw[if_pos hlim]at hRW;refine Xac c61 fun p hp=>?_;obtain⟨r,st3⟩:=p;obtain⟨q1,q2⟩:=hp;simp only at q1 q2;subst q1 q2;simp[Xak,Xex,Nat.testBit];refine⟨rfl,Xp1 hE2 st.H.length hN hN2 b1 b2 rfl b3 52 line k (by omega) fun st4 j w x1 x2 x3 x4 x5 x6 x7=>⟨.nils,.agg [.int .i64 0,.str ⟨#[]⟩,.int .i64 0,.nils,.int .i64 0],.iface 151 (.ptr j 0),by simp[loadA,x1,rdC],by simp[loadA,x2,rdC],by simp[loadA,x3,rdC],?_,?_,.inr ?_⟩⟩
  ·exact fun q z e=>x5 q z (uB e) (hold2 q z (uB e) e)
  ·exact r5.trans x7
  ·rw[hRW];exact⟨by simp[Wk.fail],j,w,rfl,by simpa [Wk.fail]using x4⟩
 have c61:=f61b hE2 b4 (by omega) (by omega) hF (by omega) line k (by omega);rw[if_neg hlim]at hRW;refine Xac c61 fun p hp=>?_;obtain⟨r,st3⟩:=p;obtain⟨q1,i,q2,q3,q4,q5,q6⟩:=hp;simp only at q1 q2 q3 q4 q5 q6;subst q1;have hE3:E.Wf st3:=hE2.of (by omega) q6.len
 have hP:=Xqo (T.mk op s0 nn l line).wt (.mk op s0 nn l line) (Nat.le_refl _) hfk 0 false {fs:=[F],mark:=4,e:=0,line:=0} E st3 (st.H.length+4) i q3 rfl (by omega) hE3
  ⟨by simp,fun i f h=>by
   rcases i with _|i
   ·simp at h;subst h;rw[<-hF0]at hlim⊢;exact⟨by simp,by simp,by simp at hlim⊢;omega⟩
   ·simp at h⟩ (by simp) (by simp only[];omega) hwt k (by omega)
 have c0:=q4.get _ _ (by omega) b0;have c1:=q4.get _ _ (by omega) b1;have c2:=q4.get _ _ (by omega) b2;have c3:=q4.get _ _ (by omega) b3;simp only[T.enc,Int.natCast_zero]at hP;simp[Nat.testBit,hs,e1,e5,b0,c0];rw[<-hRW]at hP;refine Xac hP fun p hp=>?_;obtain⟨r,st4⟩:=p;obtain⟨h1,h2,h3⟩:=hp;simp only at h1 h2 h3;have c0:=h1.get _ _ (by omega) c0;have c1:=h1.get _ _ (by omega) c1;have c2:=h1.get _ _ (by omega) c2;have c3:=h1.get _ _ (by omega) c3;have hE4:E.Wf st4:=hE3.of h1.len h2.len;have hI4:IFr none st.I st4.I:=⟨Nat.le_trans r5.len (Nat.le_trans q6.len h2.len),fun q x hq e=>by have:=q6.get q x hq (r5.get q x hq e);refine h2.get q x (fun e'=>?_) this;have h:=Option.some.inj e';have:=(uB e);have:=r5.len;omega⟩;have hold4:∀q z,q<st.H.length->st.H[q]?=some z->st4.H[q]?=some z:=fun q z hq e=>h1.get _ _ (by omega) (q4.get _ _ (by omega) (hold2 q z hq e));have hl4:=h1.len;rcases h3 with⟨hz,v,rfl,h3,h4⟩|⟨hz,rfl⟩;rotate_left
 ·simp;refine⟨rfl,Xp1 hE4 st.H.length hN hN2 c1 c2 rfl c3 _ _ k (by omega) fun st5 j w x1 x2 x3 x4 x5 x6 x7=>⟨.nils,.agg [.int .i64 0,.str ⟨#[]⟩,.int .i64 0,.nils,.int .i64 0],.iface 151 (.ptr j 0),by simp[loadA,x1,rdC],by simp[loadA,x2,rdC],by simp[loadA,x3,rdC],?_,?_,.inr ?_⟩⟩
  ·exact fun q z e=>x5 q z (uB e) (hold4 q z (uB e) e)
  ·exact hI4.trans x7
  ·exact⟨hz,j,w,rfl,x4⟩
 obtain⟨lv,rfl,hlv,hfin, -⟩:=h3.cells;have hR5:RSt E ⟨st4.H.set (st.H.length+2) (.cells 24 [.int .i64 (resW (.mk op s0 nn l line)).1.op,.str (resW (.mk op s0 nn l line)).1.s,.int .i64 (resW (.mk op s0 nn l line)).1.n,lv,.int .i64 (resW (.mk op s0 nn l line)).1.line]),st4.I⟩ (st.H.length+4) i (resW (.mk op s0 nn l line)).2.fs (resW (.mk op s0 nn l line)).2.mark:=h4.set24 c2;obtain⟨-, -,bs,hbl,hb,hi,hfr⟩:=hR5;simp only at hb hi hfr;have hlt2:=uB c2;have d1:(st4.H.set (st.H.length+2) (.cells 24 [.int .i64 (resW (.mk op s0 nn l line)).1.op,.str (resW (.mk op s0 nn l line)).1.s,.int .i64 (resW (.mk op s0 nn l line)).1.n,lv,.int .i64 (resW (.mk op s0 nn l line)).1.line]))[st.H.length+1]?=some (.cells 27 [.nils]):=by rw[List.getElem?_set_ne (by omega)];exact c1
 have d2:(st4.H.set (st.H.length+2) (.cells 24 [.int .i64 (resW (.mk op s0 nn l line)).1.op,.str (resW (.mk op s0 nn l line)).1.s,.int .i64 (resW (.mk op s0 nn l line)).1.n,lv,.int .i64 (resW (.mk op s0 nn l line)).1.line]))[st.H.length+2]?=some (.cells 24 [.int .i64 (resW (.mk op s0 nn l line)).1.op,.str (resW (.mk op s0 nn l line)).1.s,.int .i64 (resW (.mk op s0 nn l line)).1.n,lv,.int .i64 (resW (.mk op s0 nn l line)).1.line]):=List.getElem?_set_self hlt2;have d3:(st4.H.set (st.H.length+2) (.cells 24 [.int .i64 (resW (.mk op s0 nn l line)).1.op,.str (resW (.mk op s0 nn l line)).1.s,.int .i64 (resW (.mk op s0 nn l line)).1.n,lv,.int .i64 (resW (.mk op s0 nn l line)).1.line]))[st.H.length+3]?=some (.cells 61 [.nili]):=by rw[List.getElem?_set_ne (by omega)];exact c3
 have hold5:∀q z,q<st.H.length->st.H[q]?=some z->(st4.H.set (st.H.length+2) (.cells 24 [.int .i64 (resW (.mk op s0 nn l line)).1.op,.str (resW (.mk op s0 nn l line)).1.s,.int .i64 (resW (.mk op s0 nn l line)).1.n,lv,.int .i64 (resW (.mk op s0 nn l line)).1.line]))[q]?=some z:=fun q z hq e=>by rw[List.getElem?_set_ne (by omega)];exact hold4 q z hq e
 simp[hs,e3,e5,c2,Xag,hmw0,wrC,hlv,hb];generalize hH5:st4.H.set (st.H.length+2) (.cells 24 [.int .i64 (resW (.mk op s0 nn l line)).1.op,.str (resW (.mk op s0 nn l line)).1.s,.int .i64 (resW (.mk op s0 nn l line)).1.n,lv,.int .i64 (resW (.mk op s0 nn l line)).1.line])=H5 at d1 d2 d3 hb hfr hold5⊢
 have hfl:(resW (.mk op s0 nn l line)).2.fs.length<=500:=by
  rw[hRW];refine(Xmw 0 false (.mk op s0 nn l line) _ ⟨by simp,fun i f h=>?_⟩ (by simp)).fs.len;rcases i with _|i
  ·simp at h;subst h;rw[<-hF0]at hlim⊢;exact⟨by simp,by simp,by simp at hlim⊢;omega⟩
  ·simp at h
 have hfle:st.I.length<=st4.I.length:=hI4.len
 have hPost:∀(fv:AV) (st':St),(∀(q:Nat) (z:ABlk),st.H[q]?=some z->st'.H[q]?=some z)->IOld st.I.length st4.I st'.I->AccF st.I.length st'.I (resW (.mk op s0 nn l line)).2.fs fv->Xs2 (.mk op s0 nn l line) st (.ok (.tup [fv,.agg [.int .i64 (resW (.mk op s0 nn l line)).1.op,.str (resW (.mk op s0 nn l line)).1.s,.int .i64 (resW (.mk op s0 nn l line)).1.n,lv,.int .i64 (resW (.mk op s0 nn l line)).1.line],.nili])) st':=by
  intro fv st' x1 x2 x3;refine⟨x1,⟨Nat.le_trans hfle x2.len,fun q z hq e=>x2.get q z (uB e) (hI4.get q z hq e)⟩,.inl ⟨hz,fv,_,rfl,?_,x3⟩⟩;obtain⟨lv',e,h⟩:=h3;refine⟨lv',by simpa using e,?_⟩;rcases h with h|⟨o,e',h⟩
  ·exact .inl h
  ·refine .inr ⟨o,e',fun j hj=>?_⟩;have:=h j hj;have:=q6.len;have:=r5.len;have:=x2.len;omega
 generalize (resW (.mk op s0 nn l line)).2.fs=fs at hbl hfr hfl hPost
 refine Xau (fun n s m st'=> ∃(j:Nat) (fv:AV),j<=bs.length/\n=bs.length - j/\s.length=40/\m=[]/\lk s 2=.ptr (st.H.length+1) 0/\lk s 3=.ptr (st.H.length+2) 0/\lk s 4=.ptr (st.H.length+3) 0/\lk s 24=.sl (some i) bs.length (bs.map fun b=>.ptr b 0)/\lk s 25=.int .i64 bs.length/\lk s 26=.int .i64 j/\
  st'.H[st.H.length+1]?=some (.cells 27 [fv])/\(∀q,q≠st.H.length+1->st'.H[q]?=H5[q]?)/\AccF st.I.length st'.I (fs.take j) fv/\IOld st.I.length st4.I st'.I) bs.length (by omega)
  ⟨0,.nils,by omega,by omega,by simp[hs],rfl,by simp[hs,e2],by simp[hs,e3],by simp[hs,e4],by simp[hs],by simp[hs],by simp[hs],d1,fun _ _=>rfl,.inl ⟨rfl,rfl⟩,.refl _ _⟩ ?_
 clear hs hs' e1 e2 e3 e4 e5 s1;rintro _ s m st' ⟨j,fv,hj,rfl,hs,rfl,e2,e3,e4,e24,e25,e26,x1,x2,hac,hio⟩;by_cases hc:j<bs.length
 ·obtain⟨f,hg⟩:∃f,fs[j]?=some f:=⟨_,List.getElem?_eq_getElem (by omega)⟩;obtain⟨fb',hgb, -,mb,vv, -,hfb,hvv, -⟩:=hfr j f hg;have hgb':bs[j]'hc=fb':=by rw[List.getElem?_eq_getElem hc]at hgb;simpa using hgb
  have hwj:=Xah (n:=(j:Int)+1) (by omega);have hne:fb'≠st.H.length+1:=by rintro rfl;rw[d1]at hfb;cases hfb
  have hfb2:=hfb;rw[<-x2 _ hne]at hfb2;have hil:=hio.len;obtain⟨v',I',happ,hac2,hio2⟩:=hac.app (E:=E) (H:=st'.H) (by omega) hE.rom (by simp;omega) f (.sl none f.vars.length (f.vars.map .str)) (.inr ⟨none,rfl⟩) st'.I.length;have hvf:=hvv.fin;have hvo:=hac2.one;have hvc:=hac2.cells;have hvv1:=hvv.one;simp[hs,e2,e24,e25,e26,hc,hgb'];have hrd:rdC (some 5) [AV.int IntKind.i64 f.around,AV.str f.name,AV.int IntKind.i64 f.params,vv,AV.int IntKind.i64 f.mark,AV.map mb] 0=some (.agg [.int .i64 f.around,.str f.name,.int .i64 f.params,vv,.int .i64 f.mark]):=by simp[rdC]
  simp[Nat.testBit,hs,e2,x1,hfb2,Xap,wrC,hvv1,hrd,hvf,happ,Xag,hmw0,hvc,hvo];simp[hs,e26,hwj];have hl1:=uB x1;refine⟨_,by omega,j+1,v',by omega,rfl,by simp[hs],rfl,by simp[hs,e2],by simp[hs,e3],by simp[hs,e4],by simp[hs,e24],by simp[hs,e25],by simp[hs],List.getElem?_set_self hl1,fun q hq=>?_,by rw[List.take_add_one,hg];exact hac2,hio.trans hio2⟩;rw[<-x2 q hq];exact List.getElem?_set_ne (Ne.symm hq)
 have hjb:fs.take j=fs:=List.take_of_length_le (by omega);rw[hjb]at hac;have hl1:=uB x1;have y2:st'.H[st.H.length+2]?=_:=(x2 _ (by omega)).trans d2;have y3:st'.H[st.H.length+3]?=_:=(x2 _ (by omega)).trans d3;have hl2:=uB y2;have hl3:=uB y3;have hfo:=hac.one;have hfc:=hac.cells;have hrd2:rdC (some 5) [AV.int IntKind.i64 (resW (.mk op s0 nn l line)).1.op,.str (resW (.mk op s0 nn l line)).1.s,.int .i64 (resW (.mk op s0 nn l line)).1.n,lv,.int .i64 (resW (.mk op s0 nn l line)).1.line] 0=some (.agg [.int .i64 (resW (.mk op s0 nn l line)).1.op,.str (resW (.mk op s0 nn l line)).1.s,.int .i64 (resW (.mk op s0 nn l line)).1.n,lv,.int .i64 (resW (.mk op s0 nn l line)).1.line]):=by simp[rdC]
 have w1:∀x,(st'.H.set (st.H.length+1) x)[st.H.length+2]?=_:=fun x=>(List.getElem?_set_ne (by omega)).trans y2;have w2:∀x y,((st'.H.set (st.H.length+1) x).set (st.H.length+2) y)[st.H.length+3]?=_:=fun x y=>(List.getElem?_set_ne (by omega)).trans ((List.getElem?_set_ne (by omega)).trans y3);simp[Nat.testBit,hs,e2,e3,e4,e25,e26,hc,x1,y2,y3,hrd2,Xag,hmw0,hfo,hfc,wrC,hlv,w1,w2]
 have hE6:E.Wf ⟨((st'.H.set (st.H.length+1) (.cells 27 [fv])).set (st.H.length+2) (.cells 24 [AV.int IntKind.i64 (resW (.mk op s0 nn l line)).1.op,.str (resW (.mk op s0 nn l line)).1.s,.int .i64 (resW (.mk op s0 nn l line)).1.n,lv,.int .i64 (resW (.mk op s0 nn l line)).1.line])).set (st.H.length+3) (.cells 61 [.nili]),st'.I⟩:=
  hE.of (by simp;omega) (Nat.le_trans hfle hio.len)
 refine⟨rfl,Xac (Xzt hE6 _ _ _ k) fun st6 h6=>?_⟩;subst h6;have v1:∀y,(((st'.H.set (st.H.length+1) (.cells 27 [fv])).set (st.H.length+2) (.cells 24 [AV.int IntKind.i64 (resW (.mk op s0 nn l line)).1.op,.str (resW (.mk op s0 nn l line)).1.s,.int .i64 (resW (.mk op s0 nn l line)).1.n,lv,.int .i64 (resW (.mk op s0 nn l line)).1.line])).set (st.H.length+3) (.cells 61 [.nili])++y)[st.H.length+1]?=some (.cells 27 [fv]):=fun y=>Xae (by rw[List.getElem?_set_ne (by omega),List.getElem?_set_ne (by omega),List.getElem?_set_self hl1]);have v2:∀y,(((st'.H.set (st.H.length+1) (.cells 27 [fv])).set (st.H.length+2) (.cells 24 [AV.int IntKind.i64 (resW (.mk op s0 nn l line)).1.op,.str (resW (.mk op s0 nn l line)).1.s,.int .i64 (resW (.mk op s0 nn l line)).1.n,lv,.int .i64 (resW (.mk op s0 nn l line)).1.line])).set (st.H.length+3) (.cells 61 [.nili])++y)[st.H.length+2]?=some (.cells 24 [AV.int IntKind.i64 (resW (.mk op s0 nn l line)).1.op,.str (resW (.mk op s0 nn l line)).1.s,.int .i64 (resW (.mk op s0 nn l line)).1.n,lv,.int .i64 (resW (.mk op s0 nn l line)).1.line]):=fun y=>Xae (by rw[List.getElem?_set_ne (by omega),List.getElem?_set_self (by simp;omega)]);have v3:∀y,(((st'.H.set (st.H.length+1) (.cells 27 [fv])).set (st.H.length+2) (.cells 24 [AV.int IntKind.i64 (resW (.mk op s0 nn l line)).1.op,.str (resW (.mk op s0 nn l line)).1.s,.int .i64 (resW (.mk op s0 nn l line)).1.n,lv,.int .i64 (resW (.mk op s0 nn l line)).1.line])).set (st.H.length+3) (.cells 61 [.nili])++y)[st.H.length+3]?=some (.cells 61 [.nili]):=fun y=>Xae (List.getElem?_set_self (by simp;omega));refine⟨fv,_,.nili,by simp only[loadA,v1];simp[rdC],by simp only[loadA,v2];exact hrd2,by simp only[loadA,v3];simp[rdC],hPost fv _ (fun q z e=>?_) hio hac⟩;have hq:=uB e;refine Xae ?_;rw[List.getElem?_set_ne (by omega),List.getElem?_set_ne (by omega),List.getElem?_set_ne (by omega),x2 q (by omega)];exact hold5 q z hq e
theorem f43a{E:Env}{st:St}{b ty:Nat}{x y:AV}(hb:st.H[b]?=some (.cells ty [x,y]))(k:Nat)(hk:1<=k):
  doCall (aCall prog k) E .full (.fn 43) [.nili,.iface 67 (.ptr b 0)] st=some (.ok (.bool false),st):=by
 obtain⟨k,rfl⟩:=uK (k:=k) (by omega);have h:aCall prog (k+1) {E with base:=st.H.length} (.fn 43) [.nili,.iface 67 (.ptr b 0)] st=some (.ok (.bool false),st):=by show ov43 (aCall prog k) {E with base:=st.H.length} [.nili,.iface 67 (.ptr b 0)] st=_;simp[ov43,hb]
 simp only[doCall,List.map_cons,List.map_nil,Xml,Xkg,AV.fin,h,Xam];simp
theorem f43b{E:Env}{st:St}{b j ty y:Nat}{w:Option Nat}{x1 x2:AV}{e l:Int}(hb:st.H[b]?=some (.cells ty [x1,x2]))(hj:st.H[j]?=some (.cells y [.sl w 1 [Xct e l]]))(hr:E.rob<=b)(k:Nat)(hk:1<=k):
  doCall (aCall prog k) E .full (.fn 43) [.iface 151 (.ptr j 0),.iface 67 (.ptr b 0)] st=some (.ok (.bool true),⟨st.H.set b (.cells ty [.int .i64 e,.int .i64 l]),st.I⟩):=by
 obtain⟨k,rfl⟩:=uK (k:=k) (by omega);have h:aCall prog (k+1) {E with base:=st.H.length} (.fn 43) [.iface 151 (.ptr j 0),.iface 67 (.ptr b 0)] st=some (.ok (.bool true),⟨st.H.set b (.cells ty [.int .i64 e,.int .i64 l]),st.I⟩):=by show ov43 (aCall prog k) {E with base:=st.H.length} [.iface 151 (.ptr j 0),.iface 67 (.ptr b 0)] st=_;simp[ov43,hb,hj,Xct,hr]
 simp only[doCall,List.map_cons,List.map_nil,Xml,Xkg,AV.fin,h,Xam];simp;exact List.take_of_length_le (by simp)
theorem f20(t:T)(ht:t.ok)(hw:t.wt<=4000000000)(k:Nat)(hk:5*t.wt+3000<=k):PureC k 20 [.agg t.enc] (resV (resolve t)):=by
  intro E st hE;obtain⟨k,rfl⟩:=uK (k:=k) (by omega);have hmw:=Xaa hE;have hE1:E.Wf ⟨st.H++ [.cells 24 t.enc,.cells 24 [.int .i64 0,.str ⟨#[]⟩,.int .i64 0,.nils,.int .i64 0]],st.I⟩:=hE.of (by simp) (by simp);have c41:=(f41 t ht k (by omega)).full rfl hE1;have hmw1:∀x y,Xaf E (st.H.length+1) x y=true:=fun x y=>hmw _ _ _ (by omega);cases hr:right t
  ·rw[hr]at c41;obtain⟨op,s0,nn,l,line⟩:=t;refine Xai rfl rfl (by decide) fun s hs e0=>?_;simp only[T.enc]at c41;have hres:resolve (.mk op s0 nn l line)=([],.mk 0 ⟨#[]⟩ 0 [] 0,0,30):=by simp[resolve,hr]
   rw[hres];simp[hs,e0,c41,Xap,wrC,Xag,hmw1];exact⟨⟨List.prefix_append _ _,List.prefix_rfl⟩,rfl⟩
  rw[hr]at c41;have c42:=f42 t (Xlp hr) hw E _ hE1 k (by omega);rw[Xm5 t hr];have hrl:resW t=resW t:=rfl;generalize hRW:resW t=RW at hrl;obtain⟨op,s0,nn,l,line⟩:=t;refine Xai rfl rfl (by decide) fun s hs e0=>?_;simp only[T.enc]at c41 c42;simp[hs,e0,c41];refine Xac c42 fun p hp=>?_;obtain⟨r,st2⟩:=p;obtain⟨h1,h2,h3⟩:=hp;rw[hRW]at h3;simp only at h1 h2 h3;have hl2:st.H.length+2<=st2.H.length:=by have:=(List.getElem?_eq_some_iff.1 (h1 (st.H.length+1) (.cells 24 [.int .i64 0,.str ⟨#[]⟩,.int .i64 0,.nils,.int .i64 0]) (by simp))).1;omega
  have hE2:E.Wf st2:=hE.of (by omega) h2.len;have hmw2:=Xaa hE2;have q1:=h1 (st.H.length+1) (.cells 24 [.int .i64 0,.str ⟨#[]⟩,.int .i64 0,.nils,.int .i64 0]) (by simp);have hgr:∀(H:List ABlk),(∀(q:Nat) (z:ABlk),q<st.H.length->st2.H[q]?=some z->H[q]?=some z)->st.H.length<=H.length->Grow st ⟨H,st2.I⟩:=fun H h h'=>⟨Xhc h' fun j z e=>h j z (uB e) (h1 j z (Xae e)),Xhc h2.len fun j z e=>h2.get j z (by simp) e⟩;rcases h3 with⟨hz,fv,v,rfl,h3,h4⟩|⟨hz,j,w,rfl,h3⟩
  ·obtain⟨lv,rfl,hlv,hfin, -⟩:=h3.cells;rw[if_neg (by simpa using hz)];have c43:=fun y=>f43a (E:=E) (st:=⟨st2.H++ [y,.cells 65 [.int .i64 0,.int .i64 0]],st2.I⟩) (b:=st2.H.length+1) (ty:=65) (x:=.int .i64 0) (y:=.int .i64 0) (by simp) k (by omega);have hfo:=h4.one;have a1:∀y,(st2.H++y)[st.H.length+1]?=_:=fun y=>Xae q1;have b1:∀y x,((st2.H++y).set (st.H.length+1) x)[st.H.length+1]?=some x:=fun y x=>List.getElem?_set_self (by rw[List.length_append];omega);have b3:∀y x,((st2.H++y).set (st.H.length+1) x)[st2.H.length]?=y[0]?:=fun y x=>by rw[List.getElem?_set_ne (by omega)];simp
   simp[hs,Xag,hmw2,wrC,hlv];simp[hs,c43];have w3:st.H.length+1≠st2.H.length:=by omega
   simp[Nat.testBit,hs,a1,b1,b3,Xag,hmw1,wrC,hlv,List.getElem_set_ne w3];have hfn:=h3.fin st.I.length (Nat.le_refl _);refine⟨hgr _ (fun q z hq e=>?_) (by simp;omega),?_⟩
   ·rw[List.getElem?_set_ne (by omega)];exact Xae e
   ·have hff:fv.fin st.I.length=.sl none RW.2.fs.length (encFs RW.2.fs):=by
       rcases h4 with⟨h4,rfl⟩|⟨j,rfl,hj, -⟩
       ·rw[h4];rfl
       ·have:¬j<st.I.length:=by omega
        simp[Xfw,this]
    simp at hfn;rw[hff,hfn];rfl
  ·rw[if_pos (by simpa using hz)];have c43:=fun y=>f43b (E:=E) (st:=⟨st2.H++ [y,.cells 65 [.int .i64 0,.int .i64 0]],st2.I⟩) (b:=st2.H.length+1) (ty:=65) (x1:=.int .i64 0) (x2:=.int .i64 0) (by simp) (Xae h3) (by have:=hE2.rob;omega) k (by omega);have a1:∀y,(st2.H++y)[st.H.length+1]?=_:=fun y=>Xae q1;have a2:∀x y,(st2.H++ [x,y])[st2.H.length+1]?=some y:=fun x y=>by simp
   have b1:∀y x,((st2.H++y).set (st.H.length+1) x)[st.H.length+1]?=some x:=fun y x=>List.getElem?_set_self (by rw[List.length_append];omega);have b3:∀x y z,((st2.H++ [x,y]).set (st.H.length+1) z)[st2.H.length+1]?=some y:=fun x y z=>by rw[List.getElem?_set_ne (by omega)];simp
   simp[hs,Xag,hmw2,wrC];simp[hs,c43];have w3:st.H.length+1≠st2.H.length+1:=by omega
   simp[Nat.testBit,hs,a1,a2,b1,b3,Xag,hmw1,wrC,Xap,List.getElem_set_ne w3];refine⟨hgr _ (fun q z hq e=>?_) (by simp;omega),rfl⟩;rw[List.getElem?_set_ne (by omega)];exact Xae e
theorem Xjd{fs:List Fn}{i:Nat}{f:Fn}(h:fs[i]?=some f):rdC (some 5) (encFs fs) (i*5)=some (.agg f.enc):=by
 have hlt:=uB h;have hd:fs.drop i=f::fs.drop (i+1):=by rw[List.drop_eq_getElem_cons hlt];congr 1;exact uV h
 have hl:f.enc.length=5:=by simp[Fn.enc]
 simp only[rdC,Xgn,Xgc,hd,Xck];rw[if_pos (by omega),List.take_append_of_le_length (by omega),<-hl,List.take_length]
theorem f22(fs:List Fn)(hf:fs.length<=100000000000)(hv:∀f∈fs,f.vars.length<=1000000)(k:Nat)(hk:fs.length+1000010<=k):PureC k 22 [.sl none fs.length (encFs fs),.sl none fs.length (encFs fs)] (.bool true):=by
 intro E st hE;obtain⟨k,rfl⟩:=uK (k:=k) (by omega);have lsl:∀o n c,lenA false (.sl o n c)=some (.int .i64 n):=fun _ _ _=>rfl;refine Xaz rfl rfl (by decide) fun s hs e0 e1=>?_;simp[hs,e0,e1]
 refine Xau (fun n s m st'=> ∃(j:Nat) (H:List ABlk),j<=fs.length/\n=fs.length - j/\s.length=81/\m=[]/\lk s 0=.sl none fs.length (encFs fs)/\lk s 1=.sl none fs.length (encFs fs)/\lk s 5=.int .i64 j/\st'=⟨st.H++H,st.I⟩) fs.length (by omega)
  ⟨0,[],by omega,by omega,by simp[hs],rfl,by simp[hs,e0],by simp[hs,e1],by simp[hs],by simp⟩ ?_
 clear hs e0 e1;rintro _ s m _ ⟨j,H,hj,rfl,hs,rfl,e0,e1,e5,rfl⟩;have hE2:E.Wf ⟨st.H++H,st.I⟩:=hE.of (by simp) (by simp);have hmw:=Xaa hE2;by_cases hc:j<fs.length
 ·obtain⟨f,hg⟩:∃f,fs[j]?=some f:=⟨_,List.getElem?_eq_getElem hc⟩;have hrd:=Xjd hg;have hwj:=Xah (n:=(j:Int)+1) (by omega);have hvf:=hv f (List.mem_of_getElem? hg);simp only[Fn.enc]at hrd;simp[hs,e0,e1,e5,hc,hrd,Xag,hmw,wrC];have hF:(st.H++(H++ [.cells 43 f.enc,.cells 43 f.enc]))[st.H.length+H.length]?=some (.cells 43 f.enc):=by rw[Xby];simp
  have hG:(st.H++(H++ [.cells 43 f.enc,.cells 43 f.enc]))[st.H.length+(H.length+1)]?=some (.cells 43 f.enc):=by rw[Xby];simp
  simp only[Fn.enc]at hF hG
  refine Xau (fun n s m st'=> ∃i:Nat,i<=f.vars.length/\n=f.vars.length - i/\s.length=81/\m=[]/\lk s 0=.sl none fs.length (encFs fs)/\lk s 1=.sl none fs.length (encFs fs)/\lk s 5=.int .i64 j/\lk s 6=.ptr (st.H.length+H.length) 0/\lk s 7=.ptr (st.H.length+(H.length+1)) 0/\lk s 8=.int .i64 i/\
   st'=⟨st.H++(H++ [.cells 43 [.int .i64 f.around,.str f.name,.int .i64 f.params,.sl none f.vars.length (f.vars.map .str),.int .i64 f.mark],.cells 43 [.int .i64 f.around,.str f.name,.int .i64 f.params,.sl none f.vars.length (f.vars.map .str),.int .i64 f.mark]]),st.I⟩) f.vars.length (by omega)
   ⟨0,by omega,by omega,by simp[hs],rfl,by simp[hs,e0],by simp[hs,e1],by simp[hs,e5],by simp[hs],by simp[hs];try omega,by simp[hs],by simp⟩ ?_
  clear hs e0 e1 e5;rintro _ s m _ ⟨i,hi,rfl,hs,rfl,e0,e1,e5,e6,e7,e8,rfl⟩;by_cases hd:i<f.vars.length
  ·have hwi:=Xah (n:=(i:Int)+1) (by omega);simp[Nat.testBit,hs,e6,e7,e8,hF,hG,hd];simp[hs,e8,hwi];exact⟨_,by omega,i+1,by omega,rfl,by simp[hs],rfl,by simp[hs,e0],by simp[hs,e1],by simp[hs,e5],by simp[hs,e6],by simp[hs,e7],by simp[hs],rfl⟩
  ·simp[hs,e6,e7,e8,hF,hG,hd,e5,hwj];exact⟨_,by omega,j+1,_,by omega,rfl,by simp[hs],rfl,by simp[hs,e0],by simp[hs,e1],by simp[hs],rfl⟩
 ·simp[hs,e0,e5,hc];exact Grow.appH _ _
theorem Xb3:∀(t:T),t.count<=t.wt
 |.mk _ s _ l _=>by have:=countL_wt l;simp only[T.count,T.wt];omega
where countL_wt:∀l:List T,T.countL l<=T.wtL l
 |[]=>by simp[T.countL,T.wtL]
 |t::r=>by have:=Xb3 t;have:=countL_wt r;simp only[T.countL,T.wtL];omega
mutual
theorem Xta(at_:Nat)(loop:Bool):∀(t:T) (w:Wk),(wT at_ loop t w).1.wt=t.wt
 |.mk op s n l x,w=>by
  simp only[wT];split
  ·rfl
  ·split
   ·split
    ·rfl
    ·simp only[T.wt,wP_wt]
   ·simp only[T.wt,wL_wt]
theorem wL_wt(at_:Nat)(loop:Bool):∀(l:List T) (w:Wk),T.wtL (wL at_ loop l w).1=T.wtL l
 |[],w=>rfl
 |t::r,w=>by simp only[wL,T.wtL,Xta,wL_wt]
theorem wP_wt(me:Nat):∀(l:List T) (w:Wk),T.wtL (wP me l w).1=T.wtL l
 |[],w=>rfl
 |[t],w=>by simp only[wP,T.wtL,Xta]
 |t::u::r,w=>by simp only[wP,T.wtL,wP_wt];obtain⟨op,s,n,l,x⟩:=t;simp only[T.setN,T.wt,T.op_mk,T.s_mk,T.l_mk,T.line_mk]
end
theorem Xdn(t:T):(resolve t).2.1.wt<=t.wt:=by
 have h1:1<=t.wt:=by cases t;simp[T.wt];omega
 have hz:(T.mk 0 ⟨#[]⟩ 0 [] 0).wt=1:=by simp[T.wt,T.wtL];rfl
 unfold resolve;simp only;split
 ·rw[hz];exact h1
 ·split
  ·rw[hz];exact h1
  ·split
   ·rw[hz];exact h1
   ·simp only[Xta];exact Nat.le_refl _
theorem Xm4(t:T):FsOk (resolve t).1:=by
 have h0:FsOk []:=⟨by simp,by simp⟩;unfold resolve;simp only;split
 ·exact h0
 ·split
  ·exact h0
  ·rename_i hlim;split
   ·exact h0
   ·refine(Xmw 0 false t _ ⟨by simp,fun i f h=>?_⟩ (by simp)).fs;rcases i with _|i
    ·simp at h;subst h;exact⟨by simp,by simp,by simp;omega⟩
    ·simp at h
def OLe{α:Type}(x y:Option α):Prop:=∀r,x=some r->y=some r
theorem OLe.refl{α:Type}(x:Option α):OLe x x:=fun _ h=>h
theorem OLe.none{α:Type}(y:Option α):OLe none y:=fun _ h=>nomatch h
theorem OLe.trans{α:Type}{x y z:Option α}(h:OLe x y)(k:OLe y z):OLe x z:=fun r e=>k r (h r e)
theorem OLe.bind{α β:Type}{x y:Option α}{f g:α->Option β}(h:OLe x y)(k:∀a,OLe (f a) (g a)):OLe (Xa6 x f) (Xa6 y g):=by
 intro r e;rcases x with _|a
 ·cases e
 ·rw[h a rfl];exact k a r e
theorem OLe.guard{α:Type}{b c:Bool}{x y:Option α}(h:b=true->c=true)(k:OLe x y):OLe (Xar b x) (Xar c y):=by
 intro r e;cases b
 ·cases e
 ·rw[h rfl];exact k r e
def CLe(C D:CSem):Prop:=∀E cal args st,OLe (C E cal args st) (D E cal args st)
theorem Xej{C D:CSem}(h:CLe C D)(E tr cal args st):OLe (doCall C E tr cal args st) (doCall D E tr cal args st):=by
 cases tr
 ·exact h _ _ _ _
 all_goals
  refine(h _ _ _ _).bind fun a=>?_;obtain⟨r,st'⟩:=a;cases r<;>exact .refl _
section
variable{GT:Nat->Option (List AV)}{C D:CSem}{E:Env}
theorem Xgx(h:CLe C D)(op s st):OLe (aExec GT C E op s st) (aExec GT D E op s st):=by
 cases op;case call tr f args=>exact Xej h _ _ _ _ _
 case callv tr x args=>
  unfold aExec;simp only;cases evA GT s x<;>first|exact Xej h _ _ _ _ _|exact .refl _
 all_goals exact .refl _
theorem Xr5(h:CLe C D)(o s st):OLe (Xie GT C E o s st) (Xie GT D E o s st):=by
 unfold Xie;split
 ·refine(Xgx h _ _ _).bind fun a=>?_;obtain⟨r,st'⟩:=a;cases r<;>exact .refl _
 ·exact .refl _
theorem Xhy(h:CLe C D):∀ops s st,OLe (aOps GT C E ops s st) (aOps GT D E ops s st)
 |[],s,st=>.refl _
 |o::r,s,st=>by
  refine(Xr5 h _ _ _).bind fun a=>?_;obtain⟨q,st'⟩:=a;cases q
  ·exact Xhy h r _ _
  ·exact .refl _
theorem Xjv(h:CLe C D)(o s st v)(e:sameAt GT C E o s st v=true):sameAt GT D E o s st v=true:=by
 unfold sameAt at e⊢;rcases hx:aExec GT C E o.op s st with _|⟨r,st'⟩
 ·rw[hx]at e;cases e
 ·rw[hx]at e;rw[Xgx h _ _ _ _ hx];exact e
theorem Xe7(h:CLe C D)(o s v m):∀l,Xbb GT C E o s v m l=true->Xbb GT D E o s v m l=true
 |[],e=>rfl
 |[(some q,st1)],e=>rfl
 |(none,st1)::r,e=>by unfold Xbb;rfl
 |(some q,st1)::(p,st)::r,e=>by
  unfold Xbb at e⊢;simp only[Bool.or_eq_true,Bool.and_eq_true]at e⊢;rcases e with e|⟨e1,e2⟩
  ·exact .inl e
  ·exact .inr ⟨Xjv h _ _ _ _ e1,Xe7 h o s v m _ e2⟩
theorem Xgy(h:CLe C D)(p:Nat):∀l sts s st,Xex GT C E p l sts s st=true->Xex GT D E p l sts s st=true
 |[],sts,s,st,e=>rfl
 |(o,m)::r,sts,s,st,e=>by
  unfold Xex at e⊢;split at e
  ·rename_i hm;rw[if_pos hm];exact Xgy h p r _ _ _ e
  ·rename_i hm;rw[if_neg hm];simp only[Bool.and_eq_true]at e⊢;refine⟨e.1,?_⟩;have e2:=e.2;split at e2
   ·rename_i hw;rw[if_pos hw];rcases hx:aExec GT C E o.op s st with _|⟨r',st'⟩
    ·rw[hx]at e2;cases e2
    ·rw[hx]at e2;rw[Xgx h _ _ _ _ hx];cases r'
     ·simp only[Bool.and_eq_true,Bool.or_eq_true]at e2⊢;refine⟨?_,Xgy h p r _ _ _ e2.2⟩;rcases e2.1 with e3|e3
      ·exact .inl e3
      ·exact .inr (Xe7 h _ _ _ _ _ e3)
     ·cases e2
   ·rename_i hw;rw[if_neg hw];exact Xgy h p r _ _ _ e2
theorem Xeu(h:CLe C D):∀l i ds sts s st,OLe (aDraw GT C E i l ds sts s st) (aDraw GT D E i l ds sts s st)
 |[],i,ds,sts,s,st=>.refl _
 |(o,m)::r,i,ds,sts,s,st=>by
  unfold aDraw;split
  ·refine(Xgx h _ _ _).bind fun a=>?_;obtain⟨q,st'⟩:=a;cases q
   ·simp only;split
    ·refine .guard (fun e=>?_) (Xeu h r _ _ _ _ _);rw[List.all_eq_true]at e⊢;intro d hd;have:=e d hd;simp only[Bool.or_eq_true]at this⊢;rcases this with e|e
     ·exact .inl e
     ·exact .inr (Xjv h _ _ _ _ e)
    ·split
     ·exact .guard (Xe7 h _ _ _ _ _) (Xeu h r _ _ _ _ _)
     ·exact Xeu h r _ _ _ _ _
   ·refine .guard (fun e=>?_) (.refl _);simp only[Bool.and_eq_true]at e⊢;exact⟨e.1,Xgy h _ _ _ _ _ e.2⟩
  ·split
   ·exact Xeu h r _ _ _ _ _
   ·exact Xeu h r _ _ _ _ _
theorem Xoy{f g:List AV->List Nat->St->Xe5}(h:∀s m st,OLe (f s m st) (g s m st)):∀n n' s m st,n<=n'->OLe (iter f n s m st) (iter g n' s m st)
 |0,_,s,m,st,_=>.none _
 |n+1,0,s,m,st,hn=>by omega
 |n+1,n'+1,s,m,st,hn=>by refine(h s m st).bind fun a=>?_;obtain⟨x,s',m',st'⟩:=a;cases x<;>first|exact Xoy h n n' _ _ _ (by omega)|exact .refl _
theorem Xhx(h:CLe C D){lf lf':Nat}(hl:lf<=lf')(rd:Option Nat):∀c s m st,OLe (aRun GT C E lf rd c s m st) (aRun GT D E lf' rd c s m st):=by
 intro c;induction c with
 |skip=>intro s m st;simp only[aRun];exact .refl _
 |reg ops=>
  intro s m st;simp only[aRun];refine(Xhy h _ _ _).bind fun a=>?_;obtain⟨q,st'⟩:=a;cases q<;>exact .refl _
 |dreg ops=>
  intro s m st;simp only[aRun];refine(Xeu h _ _ _ _ _ _).bind fun a=>?_;obtain⟨q,st'⟩:=a;cases q<;>exact .refl _
 |seq a b iha ihb=>
  intro s m st;simp only[aRun];refine(iha s m st).bind fun a=>?_;obtain⟨x,s',m',st'⟩:=a;cases x<;>first|exact ihb _ _ _|exact .refl _
 |cond c x y ihx ihy=>
  intro s m st;simp only[aRun];cases evA GT s c<;>try exact .refl _
  rename_i b;cases b
  ·exact ihy _ _ _
  ·exact ihx _ _ _
 |block id b ih=>
  intro s m st;simp only[aRun];refine(ih s m st).bind fun a=>?_;obtain⟨x,s',m',st'⟩:=a;cases x<;>exact .refl _
 |scope b ih=>intro s m st;simp only[aRun];exact ih _ _ _
 |loop b ih=>intro s m st;simp only[aRun];exact Xoy ih _ _ _ _ _ hl
 |rf f ps asg body _ _=>
  intro s m st;simp only[aRun];unfold Xfo;refine OLe.bind (.refl _) fun a=>?_;obtain⟨d,m',st1⟩:=a;simp only;cases evA GT s f<;>try exact .refl _
  refine(h _ _ _ _).bind fun a=>?_;exact .refl _
 |exit id=>intro s m st;simp only[aRun];exact .refl _
 |ret=>intro s m st;simp only[aRun];exact .refl _
 |bad=>intro s m st;simp only[aRun];exact .refl _
theorem Xqh(h:CLe C D){lf lf':Nat}(hl:lf<=lf')(l args st):OLe (Xd6 GT C E lf l args st) (Xd6 GT D E lf' l args st):=by
 unfold Xd6;split
 ·refine .guard (fun e=>e) ((Xhx h hl _ _ _ _ _).bind fun a=>?_);obtain⟨x,s',m',st'⟩:=a;cases x<;>try exact .refl _
  cases m'<;>try exact .refl _
  simp only;split
  ·refine(Xhx h hl _ _ _ _ _).bind fun a=>?_;exact .refl _
  ·exact .refl _
 ·exact .refl _
end
theorem Xme{C D:CSem}(h:CLe C D)(E caps rv st):OLe (Xd3 C E caps rv st) (Xd3 D E caps rv st):=by
 unfold Xd3;refine(Xhy h _ _ _).bind fun a=>?_;obtain⟨q,st'⟩:=a;cases q
 ·refine(Xhx h (Nat.le_refl _) _ _ _ _ _).bind fun a=>?_;exact .refl _
 ·exact .refl _
theorem Xtv{C D:CSem}(h:CLe C D)(E args st):OLe (ov42 C E args st) (ov42 D E args st):=by
 unfold ov42;refine(Xhy h _ _ _).bind fun a=>?_;obtain⟨q,st0⟩:=a;cases q;rotate_left
 ·exact .refl _
 refine(Xhy h _ _ _).bind fun a=>?_;obtain⟨q,st1⟩:=a;cases q;rotate_left
 ·exact .refl _
 refine .guard (fun e=>e) ((Xhx h (Nat.le_refl _) _ _ _ _ _).bind fun a=>?_);obtain⟨x,s',m',st'⟩:=a;cases x with
 |ret=>
  cases m' with
  |nil=>exact(Xme h _ _ _ _).bind fun a=>.refl _
  |cons _ _=>exact .none _
 |pan v=>
  cases m' with
  |nil=>exact(Xme h _ _ _ _).bind fun a=>.refl _
  |cons _ _=>exact .none _
 |nrm=>exact .none _
 |exit id=>exact .none _
theorem Xiv:∀k,CLe (aCall prog k) (aCall prog (k+1))
 |0=>fun E cal args st=>by unfold aCall;exact .none _
 |k+1=>by
  intro E cal args st;have ih:=Xiv k;rw[aCall,aCall];cases cal with
  |yld l=>exact Xqh ih (by omega) _ _ _
  |fn f=>
   simp only;rcases hov:prog.ovr f with _|g
   ·simp only;rcases prog.fn f with _|fn
    ·exact .refl _
    ·refine(Xhx ih (by omega) _ _ _ _ _).bind fun a=>?_;exact .refl _
   ·simp only;have hg:ovOf f=some g:=hov;unfold ovOf at hg;split at hg
    ·cases hg;exact Xtv ih _ _ _
    ·cases hg;exact .refl _
    ·cases hg;exact .refl _
    ·cases hg
theorem Xgh{k k':Nat}(h:k<=k'):CLe (aCall prog k) (aCall prog k'):=by
 induction h with
 |refl=>exact fun _ _ _ _=>.refl _
 |step _ ih=>exact fun E cal args st=>(ih E cal args st).trans (Xiv _ E cal args st)
section
variable{R:Type}
def fN(n:Nat)(k:Nat->R):R:=match n with
 |0=>k 0
 |m+1=>k (m+1)
@[simp] theorem Jjp(n:Nat)(k:Nat->R):fN n k=k n:=by cases n<;>rfl
def fI(n:Int)(k:Int->R):R:=match n with
 |.ofNat m=>fN m fun m=>k (.ofNat m)
 |.negSucc m=>fN m fun m=>k (.negSucc m)
@[simp] theorem Jjq(n:Int)(k:Int->R):fI n k=k n:=by cases n<;>simp[fI]
def fB(b:Bool)(k:Bool->R):R:=match b with
 |true=>k true
 |false=>k false
@[simp] theorem Jjr(b:Bool)(k:Bool->R):fB b k=k b:=by cases b<;>rfl
def fO(b:Option Nat)(k:Option Nat->R):R:=match b with
 |some i=>fN i fun i=>k (some i)
 |none=>k none
@[simp] theorem Jjo(b:Option Nat)(k:Option Nat->R):fO b k=k b:=by cases b<;>simp[fO]
def fBy:List UInt8->(List UInt8->R)->R
 |[],k=>k []
 |b::r,k=>fN b.toNat fun n=>fBy r fun r=>k (UInt8.ofNat n::r)
@[simp] theorem Xss:∀(l:List UInt8) (k:List UInt8->R),fBy l k=k l
 |[],k=>rfl
 |b::r,k=>by simp[fBy,Xss r]
def fS(s:ByteArray)(k:ByteArray->R):R:=fBy s.data.toList fun l=>k ⟨⟨l⟩⟩
@[simp] theorem Jjn(s:ByteArray)(k:ByteArray->R):fS s k=k s:=by simp[fS]
def fP{α:Type}:List α->(List α->R)->R
 |[],k=>k []
 |v::r,k=>fP r fun r=>k (v::r)
@[simp] theorem Jd5{α:Type}:∀(l:List α) (k:List α->R),fP l k=k l
 |[],k=>rfl
 |v::r,k=>by simp[fP,Jd5 r]
def f0(v:AV):(AV->R)->R:=match v with
 |.int j n=>fun k=>fI n fun n=>k (.int j n)
 |.bool b=>fun k=>fB b fun b=>k (.bool b)
 |.str s=>fun k=>k (.str s)
 |.nilp=>fun k=>k .nilp
 |.ptr b o=>fun k=>fN b fun b=>fN o fun o=>k (.ptr b o)
 |.eptr c o=>fun k=>fN o fun o=>k (.eptr c o)
 |.nils=>fun k=>k .nils
 |.sl w n c=>fun k=>fO w fun w=>fN n fun n=>k (.sl w n c)
 |.hs b n=>fun k=>fN b fun b=>fN n fun n=>k (.hs b n)
 |.nilm=>fun k=>k .nilm
 |.map b=>fun k=>fN b fun b=>k (.map b)
 |.nilf=>fun k=>k .nilf
 |.fn f x y=>fun k=>k (.fn f x y)
 |.yld b=>fun k=>fN b fun b=>k (.yld b)
 |.nili=>fun k=>k .nili
 |.iface t v=>fun k=>k (.iface t v)
 |.agg c=>fun k=>k (.agg c)
 |.tup c=>fun k=>k (.tup c)
@[simp] theorem Jjt(v:AV)(k:AV->R):f0 v k=k v:=by cases v<;>simp[f0]
def fL0:List AV->(List AV->R)->R
 |[],k=>k []
 |v::r,k=>f0 v fun v=>fL0 r fun r=>k (v::r)
@[simp] theorem Xze:∀(l:List AV) (k:List AV->R),fL0 l k=k l
 |[],k=>rfl
 |v::r,k=>by simp[fL0,Xze r]
def f1(v:AV):(AV->R)->R:=match v with
 |.sl w n c=>fun k=>fO w fun w=>fN n fun n=>fL0 c fun c=>k (.sl w n c)
 |.agg c=>fun k=>fL0 c fun c=>k (.agg c)
 |.tup c=>fun k=>fL0 c fun c=>k (.tup c)
 |.iface t v=>fun k=>f0 v fun v=>k (.iface t v)
 |.int j n=>fun k=>fI n fun n=>k (.int j n)
 |.bool b=>fun k=>fB b fun b=>k (.bool b)
 |.str s=>fun k=>k (.str s)
 |.nilp=>fun k=>k .nilp
 |.ptr b o=>fun k=>fN b fun b=>fN o fun o=>k (.ptr b o)
 |.eptr c o=>fun k=>fN o fun o=>k (.eptr c o)
 |.nils=>fun k=>k .nils
 |.hs b n=>fun k=>fN b fun b=>fN n fun n=>k (.hs b n)
 |.nilm=>fun k=>k .nilm
 |.map b=>fun k=>fN b fun b=>k (.map b)
 |.nilf=>fun k=>k .nilf
 |.fn f x y=>fun k=>k (.fn f x y)
 |.yld b=>fun k=>fN b fun b=>k (.yld b)
 |.nili=>fun k=>k .nili
@[simp] theorem Jjs(v:AV)(k:AV->R):f1 v k=k v:=by cases v<;>simp[f1]
def fL1:List AV->(List AV->R)->R
 |[],k=>k []
 |v::r,k=>f1 v fun v=>fL1 r fun r=>k (v::r)
@[simp] theorem Xsr:∀(l:List AV) (k:List AV->R),fL1 l k=k l
 |[],k=>rfl
 |v::r,k=>by simp[fL1,Xsr r]
mutual
/-- A value, whole. -/
def fV:AV->(AV->R)->R
 |.sl w n c,k=>fO w fun w=>fN n fun n=>fVL c fun c=>k (.sl w n c)
 |.agg c,k=>fVL c fun c=>k (.agg c)
 |.tup c,k=>fVL c fun c=>k (.tup c)
 |.iface t v,k=>fV v fun v=>k (.iface t v)
 |.int j n,k=>fI n fun n=>k (.int j n)
 |.bool b,k=>fB b fun b=>k (.bool b)
 |.str s,k=>fS s fun s=>k (.str s)
 |.nilp,k=>k .nilp
 |.ptr b o,k=>fN b fun b=>fN o fun o=>k (.ptr b o)
 |.eptr c o,k=>fVL c fun c=>fN o fun o=>k (.eptr c o)
 |.nils,k=>k .nils
 |.hs b n,k=>fN b fun b=>fN n fun n=>k (.hs b n)
 |.nilm,k=>k .nilm
 |.map b,k=>fN b fun b=>k (.map b)
 |.nilf,k=>k .nilf
 |.fn f x y,k=>fVL x fun x=>fVL y fun y=>k (.fn f x y)
 |.yld b,k=>fN b fun b=>k (.yld b)
 |.nili,k=>k .nili
def fVL:List AV->(List AV->R)->R
 |[],k=>k []
 |v::r,k=>fV v fun v=>fVL r fun r=>k (v::r)
end
mutual
theorem Xuv:∀(v:AV) (k:AV->R),fV v k=k v
 |.sl w n c,k=>by simp[fV,fVL_eq c]
 |.agg c,k=>by simp[fV,fVL_eq c]
 |.tup c,k=>by simp[fV,fVL_eq c]
 |.iface t v,k=>by simp[fV,Xuv v]
 |.eptr c o,k=>by simp[fV,fVL_eq c]
 |.fn f x y,k=>by simp[fV,fVL_eq x,fVL_eq y]
 |.int j n,k=>by simp[fV]
 |.bool b,k=>by simp[fV]
 |.str s,k=>by simp[fV]
 |.nilp,k=>by simp[fV]
 |.ptr b o,k=>by simp[fV]
 |.nils,k=>by simp[fV]
 |.hs b n,k=>by simp[fV]
 |.nilm,k=>by simp[fV]
 |.map b,k=>by simp[fV]
 |.nilf,k=>by simp[fV]
 |.yld b,k=>by simp[fV]
 |.nili,k=>by simp[fV]
theorem fVL_eq:∀(l:List AV) (k:List AV->R),fVL l k=k l
 |[],k=>by simp[fVL]
 |v::r,k=>by simp[fVL,Xuv v,fVL_eq r]
end
attribute [simp] Xuv fVL_eq
noncomputable def fPut (l:List AV):Nat->AV->(List AV->R)->R:=
 List.rec (motive:=fun _=>Nat->AV->(List AV->R)->R) (fun _ _ k=>k []) (fun u r ih d v k=>Nat.rec (motive:=fun _=>R) (k (v::r)) (fun m _=>ih m v fun r=>k (u::r)) d) l
@[simp] theorem Xuw:∀(l:List AV) (d:Nat) (v:AV) (k:List AV->R),fPut l d v k=k (l.set d v)
 |[],_,_,k=>rfl
 |_::r,0,v,k=>rfl
 |u::r,d+1,v,k=>by have:=Xuw r d v fun r=>k (u::r);exact this
def fBlk(b:ABlk)(k:ABlk->R):R:=match b with
 |.cells t c=>fL1 c fun c=>k (.cells t c)
 |b=>k b
@[simp] theorem Jd7(b:ABlk)(k:ABlk->R):fBlk b k=k b:=by cases b<;>simp[fBlk]
def fH:List ABlk->Nat->(List ABlk->R)->R
 |[],_,k=>k []
 |b::r,0,k=>fBlk b fun b=>fP r fun r=>k (b::r)
 |b::r,d+1,k=>fH r d fun r=>k (b::r)
@[simp] theorem Jd6:∀(l:List ABlk) (d:Nat) (k:List ABlk->R),fH l d k=k l
 |[],_,k=>rfl
 |b::r,0,k=>by simp[fH]
 |b::r,d+1,k=>by simp[fH,Jd6 r]
def fIs:List (Nat×Nat)->(List (Nat×Nat)->R)->R
 |[],k=>k []
 |(a,b)::r,k=>fN a fun a=>fN b fun b=>fIs r fun r=>k ((a,b)::r)
@[simp] theorem Xzf:∀(l:List (Nat×Nat)) (k:List (Nat×Nat)->R),fIs l k=k l
 |[],k=>rfl
 |(a,b)::r,k=>by simp[fIs,Xzf r]
def fSt(d:Nat)(st:St)(k:St->R):R:=fH st.H d fun H=>fIs st.I fun I=>k ⟨H,I⟩
@[simp] theorem Xzd(d:Nat)(st:St)(k:St->R):fSt d st k=k st:=by simp[fSt]
end
theorem Xva(a b:Nat):decide ((a:Int)<b)=Nat.blt a b:=by rw[Bool.eq_iff_iff];simp[Nat.blt_eq]
noncomputable def lkF (s:List AV):Nat->AV:=
 List.rec (motive:=fun _=>Nat->AV) (fun _=>AV.undef) (fun v _ ih n=>Nat.rec (motive:=fun _=>AV) v (fun m _=>ih m) n) s
theorem Xou:∀(s:List AV) (n:Nat),lkF s n=lk s n
 |[],n=>by simp[lkF,lk]
 |v::r,0=>by show v=_;simp[lk]
 |v::r,n+1=>by have:=Xou r n;simp only[lk,List.getElem?_cons_succ]at this⊢;exact this
noncomputable def evF (s:List AV) (o:AO):AV:=match o with
 |.t n=>lkF s n
 |.c v=>v
 |.g n=>evA tabs s (.g n)
theorem Xbg(s:List AV):evF s=evA tabs s:=by funext o;cases o<;>simp[evF,Xou,evA]
noncomputable def putF {R:Type} (d:Option Nat) (v:AV) (s:List AV) (k:List AV->R):R:=match d with
 |some d=>fPut s d v k
 |none=>k s
@[simp] theorem Xol{R:Type}(d:Option Nat)(v:AV)(s:List AV)(k:List AV->R):putF d v s k=k (put s d v):=by cases d<;>simp[putF,put]
abbrev RO:=Option (Rt (List AV)×St)
abbrev KO:=AV->List AV->St->RO
abbrev KP:=AV->St->RO
def Xf4(x:Option (Rt AV×St))(d:Option Nat)(s:List AV)(k:KO)(kp:KP):RO:=match x with
 |some (.ok v,st')=>k v (put s d v) st'
 |some (.pan v,st')=>kp v st'
 |none=>none
noncomputable def Xom (v:AV) (d:Option Nat) (s:List AV) (st:St) (k:KO):RO:=f1 v fun v=>putF d v s fun s=>k v s st
noncomputable def optK (x:Option AV) (d:Option Nat) (s:List AV) (st:St) (k:KO):RO:=match x with
 |some v=>Xom v d s st k
 |none=>none
noncomputable def effK (t:Nat) (x:Option (Rt AV×St)) (d:Option Nat) (s:List AV) (k:KO) (kp:KP):RO:=match x with
 |some (.ok v,st')=>f1 v fun v=>putF d v s fun s=>fSt t st' fun st'=>k v s st'
 |some (.pan v,st')=>kp v st'
 |none=>none
noncomputable def resK (x:Option (Rt AV×St)) (d:Option Nat) (s:List AV) (k:KO) (kp:KP):RO:=match x with
 |some (.ok v,st')=>f1 v fun v=>putF d v s fun s=>k v s st'
 |some (.pan v,st')=>kp v st'
 |none=>none
noncomputable def calK (x:Option (Rt AV×St)) (d:Option Nat) (s:List AV) (k:KO) (kp:KP):RO:=match x with
 |some (.ok v,st')=>fV v fun v=>putF d v s fun s=>fSt (st'.H.length+1) st' fun st'=>k v s st'
 |some (.pan v,st')=>kp v st'
 |none=>none
theorem Xq4(v d s st k kp):Xom v d s st k=Xf4 (some (.ok v,st)) d s k kp:=by simp[Xom,Xf4]
theorem Xf7(x d s st k kp):optK x d s st k=Xf4 (okOf x st) d s k kp:=by cases x<;>simp[optK,Xf4,Xom]
theorem Xhq(t x d s k kp):effK t x d s k kp=Xf4 x d s k kp:=by rcases x with _|⟨v|v,st'⟩<;>simp[effK,Xf4]
theorem Xbr(x d s k kp):resK x d s k kp=Xf4 x d s k kp:=by rcases x with _|⟨v|v,st'⟩<;>simp[resK,Xf4]
theorem Xbs(x d s k kp):calK x d s k kp=Xf4 x d s k kp:=by rcases x with _|⟨v|v,st'⟩<;>simp[calK,Xf4]
def Xqv(k:IntKind)(n:Int):Int:=match k,n with
 |.i64,.ofNat m=>if Nat.blt m 4294967296 then .ofNat m else IntKind.i64.wrap (.ofNat m)
 |k,n=>k.wrap n
theorem Xqu(k n):Xqv k n=k.wrap n:=by
 unfold Xqv;split
 ·rename_i m;split
  ·rename_i h;rw[Nat.blt_eq]at h;have:(Int.ofNat m:Int)=(m:Int):=rfl;rw[Xah];rw[this];omega
  ·rfl
 ·rfl
def ltF(a b:Int):Bool:=match a,b with
 |.ofNat a,.ofNat b=>Nat.blt a b
 |a,b=>decide (a<b)
theorem Xyn(a b):ltF a b=decide (a<b):=by
 unfold ltF;split
 ·rename_i a b;exact(Xva a b).symm
 ·rfl
def eqF(a b:Int):Bool:=match a,b with
 |.ofNat a,.ofNat b=>Nat.beq a b
 |a,b=>decide (a=b)
theorem Xzr(a b):eqF a b=decide (a=b):=by
 unfold eqF;split
 ·rename_i a b;rw[Bool.eq_iff_iff];simp only[Nat.beq_eq,decide_eq_true_eq];constructor
  ·intro h;rw[h]
  ·intro h;exact Int.ofNat.inj h
 ·rfl
def Xi8(k k':IntKind):Bool:=match k,k' with
 |.i64,.i64=>true
 |.u8,.u8=>true
 |k,k'=>decide (k=k')
theorem Xri(k k'):Xi8 k k'=decide (k=k'):=by cases k<;>cases k'<;>rfl
def iAdd(k k':IntKind)(a b:Int):Option AV:=Xar (Xi8 k k') (some (.int k (Xqv k (a+b))))
def iSub(k k':IntKind)(a b:Int):Option AV:=Xar (Xi8 k k') (some (.int k (Xqv k (a - b))))
def iEql(k k':IntKind)(a b:Int):Option AV:=Xar (Xi8 k k') (some (.bool (eqF a b)))
def iNeq(k k':IntKind)(a b:Int):Option AV:=Xar (Xi8 k k') (some (.bool (!eqF a b)))
def iLss(k k':IntKind)(a b:Int):Option AV:=Xar (Xi8 k k') (some (.bool (ltF a b)))
def iLeq(k k':IntKind)(a b:Int):Option AV:=Xar (Xi8 k k') (some (.bool (!ltF b a)))
def iGtr(k k':IntKind)(a b:Int):Option AV:=Xar (Xi8 k k') (some (.bool (ltF b a)))
def iGeq(k k':IntKind)(a b:Int):Option AV:=Xar (Xi8 k k') (some (.bool (!ltF a b)))
def iOth(op:BinOp)(k k':IntKind)(a b:Int):Option AV:=binA .num op (.int k a) (.int k' b)
def intF(op:BinOp):IntKind->IntKind->Int->Int->Option AV:=match op with
 |.add=>iAdd
 |.sub=>iSub
 |.eql=>iEql
 |.neq=>iNeq
 |.lss=>iLss
 |.leq=>iLeq
 |.gtr=>iGtr
 |.geq=>iGeq
 |op=>iOth op
theorem Xt8(op k k' a b):intF op k k' a b=binA .num op (.int k a) (.int k' b):=by
 have h1:(!decide (b<a))=decide (a<=b):=by rw[Bool.eq_iff_iff];simp
 have h2:(!decide (a<b))=decide (b<=a):=by rw[Bool.eq_iff_iff];simp
 cases op<;>simp[intF,iAdd,iSub,iEql,iNeq,iLss,iLeq,iGtr,iGeq,iOth,Xri,Xqu,Xzr,Xyn,h1,h2]
def beF:List UInt8->List UInt8->Bool
 |[],[]=>true
 |a::r,b::q=>match Nat.beq a.toNat b.toNat with
  |true=>beF r q
  |false=>false
 |_,_=>false
theorem Xqa:∀a b,beF a b=decide (a=b)
 |[],[]=>by simp[beF]
 |[],b::q=>by simp[beF]
 |a::r,[]=>by simp[beF]
 |a::r,b::q=>by
  simp only[beF,Xqa r q];rw[Bool.eq_iff_iff];cases h:Nat.beq a.toNat b.toNat
  ·simp only[Bool.false_eq_true,false_iff,decide_eq_true_eq,List.cons.injEq,not_and];rintro rfl;simp at h
  ·simp only[decide_eq_true_eq,List.cons.injEq];have:a=b:=UInt8.toNat_inj.1 (Nat.eq_of_beq_eq_true h);simp[this]
def strF(op:BinOp)(a b:ByteArray):Option AV:=match op with
 |.eql=>some (.bool (beF a.data.toList b.data.toList))
 |.neq=>some (.bool (!beF a.data.toList b.data.toList))
 |op=>strBin op a b
theorem Xht(a b:ByteArray):(a=b)=(a.data.toList=b.data.toList):=by
 apply propext;constructor
 ·intro h;rw[h]
 ·intro h;obtain⟨⟨a⟩⟩:=a;obtain⟨⟨b⟩⟩:=b;simp at h;rw[h]
theorem Xth(op a b):strF op a b=strBin op a b:=by cases op<;>simp only[strF,Xqa,strBin,Xht]
def asInt(v:AV):(IntKind->Int->Option AV)->Option AV:=match v with
 |.int k n=>fun f=>f k n
 |_=>fun _=>none
def Xvh(v:AV):(ByteArray->Option AV)->Option AV:=match v with
 |.str s=>fun f=>f s
 |_=>fun _=>none
def numF(op:BinOp)(x y:AV):Option AV:=asInt x fun k a=>asInt y fun k' b=>intF op k k' a b
def txtF(op:BinOp)(x y:AV):Option AV:=Xvh x fun a=>Xvh y fun b=>strF op a b
def binF(K:BK)(op:BinOp)(x y:AV):Option AV:=match K with
 |.num=>numF op x y
 |.str=>txtF op x y
 |K=>binA K op x y
theorem Xvg(K op x y):binF K op x y=binA K op x y:=by
 cases K;case num=>cases x<;>cases y<;>first|exact Xt8 _ _ _ _ _|(simp[binF,numF,asInt,binA])
 case str=>cases x<;>cases y<;>first|exact Xth _ _ _|(simp[binF,txtF,Xvh,binA])
 all_goals rfl
noncomputable def nthF (l:List UInt8):Nat->Option UInt8:=
 List.rec (motive:=fun _=>Nat->Option UInt8) (fun _=>none) (fun v _ ih n=>Nat.rec (motive:=fun _=>Option UInt8) (some v) (fun m _=>ih m) n) l
theorem Xoq:∀(s:List UInt8) (n:Nat),nthF s n=s[n]?
 |[],n=>by simp[nthF]
 |v::r,0=>by show some v=_;simp
 |v::r,n+1=>by have:=Xoq r n;simp only[List.getElem?_cons_succ];exact this
noncomputable def ixF (v i:AV) (st:St):Option (Rt AV×St):=match v,i with
 |.str s,.int _ (.ofNat j)=>match nthF s.data.toList j with
  |some b=>some (.ok (.int .u8 b.toNat),st)
  |none=>none
 |v,i=>ixsA v i st
theorem Xyw(v i st):ixF v i st=ixsA v i st:=by
 unfold ixF;split
 ·rename_i s k j;have h0:(0:Int)<=Int.ofNat j:=Int.natCast_nonneg j;have h1:(Int.ofNat j).toNat=j:=rfl;simp only[Xrl,h0,decide_true,Xax,h1,Xoq,Array.getElem?_toList];cases s.data[j]?<;>rfl
 ·rfl
def tkF:List UInt8->Nat->List UInt8
 |[],_=> []
 |_::_,0=> []
 |v::r,n+1=>v::tkF r n
def drF:List UInt8->Nat->List UInt8
 |[],_=> []
 |v::r,0=>v::r
 |_::r,n+1=>drF r n
theorem Xsf:∀l n,tkF l n=l.take n
 |[],n=>by cases n<;>rfl
 |v::r,0=>rfl
 |v::r,n+1=>by simp[tkF,Xsf r n]
theorem Xsx:∀l n,drF l n=l.drop n
 |[],n=>by cases n<;>rfl
 |v::r,0=>rfl
 |v::r,n+1=>by simp[drF,Xsx r n]
def exF'(s:ByteArray)(lo hi:Nat):ByteArray:=fBy (tkF (drF s.data.toList lo) (hi - lo)) fun l=>⟨⟨l⟩⟩
theorem Xu7(s:ByteArray)(lo hi:Nat):exF' s lo hi=s.extract lo hi:=by rw[exF',Xss,Xsf,Xsx,Xht];simp
def slF(sz:Option Nat)(x:AV)(lo hi:Nat):Option AV:=match sz,x with
 |none,.str s=>Xar (decide (lo<=hi) && decide (hi<=s.size)) (some (.str (exF' s lo hi)))
 |sz,x=>slcA sz x lo hi
theorem Xwq(sz x lo hi):slF sz x lo hi=slcA sz x lo hi:=by
 unfold slF;split
 ·simp[slcA,Xu7]
 ·rfl
section
variable(C:CSem)(E:Env)
def opSt(E:Env)(st:St)(n:Nat)(p x:AV):Option (Rt AV×St):=match Xag E st n p x with
 |some st'=>some (.ok AV.undef,st')
 |none=>none
def Xwj(p:AV)(st:St):Nat:=match p with
 |.ptr b _=>b
 |_=>st.H.length+1
def Xi4(ty:Nat)(z:List AV)(st:St):Option (Rt AV×St):=Xar (z.all AV.one) (some (.ok (.ptr st.H.length 0),{st with H:=st.H++ [.cells ty z]}))
def Xop(z:List AV)(ps:List (Nat×Nat×List AV)):Option AV:=match Xap z ps with
 |some cs=>some (.agg cs)
 |none=>none
def Xyb(own:Bool)(sz n:Nat)(z:List AV)(ps:List (Nat×Nat×List AV))(st:St):Option (Rt AV×St):=match Xap z ps with
 |some cs=>if own then some (.ok (.sl (some st.I.length) n (AV.finL 0 cs)),{st with I:=st.I++ [(n,sz)]})else some (.ok (.sl none n (AV.finL 0 cs)),st)
 |none=>none
def Xyc(E:Env)(st:St)(sz bytes:Nat)(x y:AV):Option (Rt AV×St):=match appA E st sz bytes x y with
 |some (v,st')=>some (.ok v,st')
 |none=>none
noncomputable def Xya (sz:Option Nat) (s:List AV) (x:AV) (lo hi:Option AO):Option AV:=match optN (evF s) 0 lo with
 |some a=>match optN (evF s) (lenN x) hi with
  |some b=>slF sz x a b
  |none=>none
 |none=>none
abbrev DT:=Env->Tr->Nat->List AV->St->Option (Rt AV×St)
abbrev HT:=CSem->DT->Env->Option Nat->List AV->St->KO->KP->RO
noncomputable def hMv (x:AO) (C:CSem) (D:DT) (E:Env) (d:Option Nat) (s:List AV) (st:St) (k:KO) (kp:KP):RO:=Xom (evF s x) d s st k
noncomputable def Xuc (c x y:AO) (C:CSem) (D:DT) (E:Env) (d:Option Nat) (s:List AV) (st:St) (k:KO) (kp:KP):RO:=resK (Xq5 (evF s c) (evF s x) (evF s y) st) d s k kp
noncomputable def Xo4 (ty:Nat) (z:List AV) (C:CSem) (D:DT) (E:Env) (d:Option Nat) (s:List AV) (st:St) (k:KO) (kp:KP):RO:=effK st.H.length (Xi4 ty z st) d s k kp
noncomputable def hBox (ty:Nat) (x:AO) (C:CSem) (D:DT) (E:Env) (d:Option Nat) (s:List AV) (st:St) (k:KO) (kp:KP):RO:=effK st.H.length (Xi4 ty (evF s x).cells st) d s k kp
noncomputable def Xo3 (z:List AV) (ps:List (Nat×Nat×AO)) (C:CSem) (D:DT) (E:Env) (d:Option Nat) (s:List AV) (st:St) (k:KO) (kp:KP):RO:=optK (Xop z (ps.map fun p=>(p.1,p.2.1,(evF s p.2.2).cells))) d s st k
noncomputable def hBsl (own:Bool) (sz n:Nat) (z:List AV) (ps:List (Nat×Nat×AO)) (C:CSem) (D:DT) (E:Env) (d:Option Nat) (s:List AV) (st:St) (k:KO) (kp:KP):RO:=effK (st.H.length+1) (Xyb own sz n z (ps.map fun p=>(p.1,p.2.1,(evF s p.2.2).cells)) st) d s k kp
noncomputable def hLd (n:Option Nat) (x:AO) (C:CSem) (D:DT) (E:Env) (d:Option Nat) (s:List AV) (st:St) (k:KO) (kp:KP):RO:=optK (loadA st n (evF s x)) d s st k
noncomputable def hSt (n:Nat) (p x:AO) (C:CSem) (D:DT) (E:Env) (d:Option Nat) (s:List AV) (st:St) (k:KO) (kp:KP):RO:=effK (Xwj (evF s p) st) (opSt E st n (evF s p) (evF s x)) d s k kp
noncomputable def hNck (x:AO) (C:CSem) (D:DT) (E:Env) (d:Option Nat) (s:List AV) (st:St) (k:KO) (kp:KP):RO:=resK (nckA (evF s x) st) d s k kp
noncomputable def hFa (off:Nat) (x:AO) (C:CSem) (D:DT) (E:Env) (d:Option Nat) (s:List AV) (st:St) (k:KO) (kp:KP):RO:=resK (faA off (evF s x) st) d s k kp
noncomputable def hIa (sz:Nat) (x i:AO) (C:CSem) (D:DT) (E:Env) (d:Option Nat) (s:List AV) (st:St) (k:KO) (kp:KP):RO:=resK (iaA sz (evF s x) (evF s i) st) d s k kp
noncomputable def hIaa (len sz:Nat) (x i:AO) (C:CSem) (D:DT) (E:Env) (d:Option Nat) (s:List AV) (st:St) (k:KO) (kp:KP):RO:=calK (aExec tabs C E (.iaa len sz x i) s st) d s k kp
noncomputable def hIxs (x i:AO) (C:CSem) (D:DT) (E:Env) (d:Option Nat) (s:List AV) (st:St) (k:KO) (kp:KP):RO:=resK (ixF (evF s x) (evF s i) st) d s k kp
noncomputable def hFld (off:Nat) (n:Option Nat) (x:AO) (C:CSem) (D:DT) (E:Env) (d:Option Nat) (s:List AV) (st:St) (k:KO) (kp:KP):RO:=resK (fldA off n (evF s x) st) d s k kp
noncomputable def hExt (n:Nat) (x:AO) (C:CSem) (D:DT) (E:Env) (d:Option Nat) (s:List AV) (st:St) (k:KO) (kp:KP):RO:=resK (extA n (evF s x) st) d s k kp
noncomputable def hBin (K:BK) (o:BinOp) (x y:AO) (C:CSem) (D:DT) (E:Env) (d:Option Nat) (s:List AV) (st:St) (k:KO) (kp:KP):RO:=optK (binF K o (evF s x) (evF s y)) d s st k
noncomputable def hUn (o:UnOp) (x:AO) (C:CSem) (D:DT) (E:Env) (d:Option Nat) (s:List AV) (st:St) (k:KO) (kp:KP):RO:=optK (unA o (evF s x)) d s st k
noncomputable def hCvi (j:IntKind) (x:AO) (C:CSem) (D:DT) (E:Env) (d:Option Nat) (s:List AV) (st:St) (k:KO) (kp:KP):RO:=resK (cviA j (evF s x) st) d s k kp
noncomputable def hCvs (x:AO) (C:CSem) (D:DT) (E:Env) (d:Option Nat) (s:List AV) (st:St) (k:KO) (kp:KP):RO:=calK (aExec tabs C E (.cvs x) s st) d s k kp
noncomputable def hMks (sz bytes:Nat) (z:List AV) (l c:AO) (C:CSem) (D:DT) (E:Env) (d:Option Nat) (s:List AV) (st:St) (k:KO) (kp:KP):RO:=calK (aExec tabs C E (.mks sz bytes z l c) s st) d s k kp
noncomputable def hMkh (ty bytes:Nat) (z:List AV) (l c:AO) (C:CSem) (D:DT) (E:Env) (d:Option Nat) (s:List AV) (st:St) (k:KO) (kp:KP):RO:=calK (aExec tabs C E (.mkh ty bytes z l c) s st) d s k kp
noncomputable def hFrz (x:AO) (C:CSem) (D:DT) (E:Env) (d:Option Nat) (s:List AV) (st:St) (k:KO) (kp:KP):RO:=calK (aExec tabs C E (.frz x) s st) d s k kp
noncomputable def hSlc (sz:Option Nat) (x:AO) (lo hi:Option AO) (C:CSem) (D:DT) (E:Env) (d:Option Nat) (s:List AV) (st:St) (k:KO) (kp:KP):RO:=optK (Xya sz s (evF s x) lo hi) d s st k
noncomputable def hLen (b:Bool) (x:AO) (C:CSem) (D:DT) (E:Env) (d:Option Nat) (s:List AV) (st:St) (k:KO) (kp:KP):RO:=optK (lenA b (evF s x)) d s st k
noncomputable def hApp (sz b:Nat) (x y:AO) (C:CSem) (D:DT) (E:Env) (d:Option Nat) (s:List AV) (st:St) (k:KO) (kp:KP):RO:=effK (st.H.length+1) (Xyc E st sz b (evF s x) (evF s y)) d s k kp
noncomputable def Xue (sz b:Nat) (x y v i:AO) (C:CSem) (D:DT) (E:Env) (d:Option Nat) (s:List AV) (st:St) (k:KO) (kp:KP):RO:=calK (aExec tabs C E (.appw sz b x y v i) s st) d s k kp
noncomputable def Xrq (x y:AO) (C:CSem) (D:DT) (E:Env) (d:Option Nat) (s:List AV) (st:St) (k:KO) (kp:KP):RO:=resK (Xt0 (evF s x) (evF s y) st) d s k kp
noncomputable def hMki (t:Nat) (x:AO) (C:CSem) (D:DT) (E:Env) (d:Option Nat) (s:List AV) (st:St) (k:KO) (kp:KP):RO:=calK (aExec tabs C E (.mki t x) s st) d s k kp
noncomputable def hMkf (f:Nat) (x y:List AO) (C:CSem) (D:DT) (E:Env) (d:Option Nat) (s:List AV) (st:St) (k:KO) (kp:KP):RO:=calK (aExec tabs C E (.mkf f x y) s st) d s k kp
noncomputable def hMkm (C:CSem) (D:DT) (E:Env) (d:Option Nat) (s:List AV) (st:St) (k:KO) (kp:KP):RO:=calK (aExec tabs C E .mkm s st) d s k kp
noncomputable def hLkp (str:Bool) (z:AV) (ok:Bool) (m k0:AO) (C:CSem) (D:DT) (E:Env) (d:Option Nat) (s:List AV) (st:St) (k:KO) (kp:KP):RO:=calK (aExec tabs C E (.lkp str z ok m k0) s st) d s k kp
noncomputable def hUpd (str:Bool) (m k0 v:AO) (C:CSem) (D:DT) (E:Env) (d:Option Nat) (s:List AV) (st:St) (k:KO) (kp:KP):RO:=calK (aExec tabs C E (.upd str m k0 v) s st) d s k kp
noncomputable def hTa (t:Nat) (ok:Bool) (z:AV) (x:AO) (C:CSem) (D:DT) (E:Env) (d:Option Nat) (s:List AV) (st:St) (k:KO) (kp:KP):RO:=calK (aExec tabs C E (.ta t ok z x) s st) d s k kp
noncomputable def hPan (x:AO) (C:CSem) (D:DT) (E:Env) (d:Option Nat) (s:List AV) (st:St) (k:KO) (kp:KP):RO:=calK (aExec tabs C E (.pan x) s st) d s k kp
noncomputable def Xud (tr:Tr) (f:Nat) (args:List AO) (C:CSem) (D:DT) (E:Env) (d:Option Nat) (s:List AV) (st:St) (k:KO) (kp:KP):RO:=calK (D E tr f (args.map (evF s)) st) d s k kp
noncomputable def Xl1 (tr:Tr) (f:AO) (args:List AO) (C:CSem) (D:DT) (E:Env) (d:Option Nat) (s:List AV) (st:St) (k:KO) (kp:KP):RO:=calK (aExec tabs C E (.callv tr f args) s st) d s k kp
noncomputable def disp (op:AOp):HT:=AOp.rec (motive:=fun _=>HT) hMv Xuc Xo4 hBox Xo3 hBsl hLd hSt hNck hFa hIa hIaa hIxs hFld hExt hBin hUn hCvi hCvs hMks hMkh hFrz hSlc hLen hApp Xue Xrq hMki hMkf hMkm hLkp hUpd hTa hPan Xud Xl1 op
noncomputable def exF (C:CSem) (D:DT) (E:Env) (op:AOp) (d:Option Nat) (s:List AV) (st:St) (k:KO) (kp:KP):RO:=disp op C D E d s st k kp
theorem Xzp(C:CSem)(D:DT)(E:Env)(x:AO)(d s st k kp):exF C D E (.mv x) d s st k kp=hMv x C D E d s st k kp:=rfl
theorem Xrt(C:CSem)(D:DT)(E:Env)(c x y:AO)(d s st k kp):exF C D E (.pick c x y) d s st k kp=Xuc c x y C D E d s st k kp:=rfl
theorem Xpu(C:CSem)(D:DT)(E:Env)(ty:Nat)(z:List AV)(d s st k kp):exF C D E (.alloc ty z) d s st k kp=Xo4 ty z C D E d s st k kp:=rfl
theorem Xu4(C:CSem)(D:DT)(E:Env)(ty:Nat)(x:AO)(d s st k kp):exF C D E (.box ty x) d s st k kp=hBox ty x C D E d s st k kp:=rfl
theorem Xpt(C:CSem)(D:DT)(E:Env)(z:List AV)(ps:List (Nat×Nat×AO))(d s st k kp):exF C D E (.build z ps) d s st k kp=Xo3 z ps C D E d s st k kp:=rfl
theorem Xu3(C:CSem)(D:DT)(E:Env)(own:Bool)(sz n:Nat)(z:List AV)(ps:List (Nat×Nat×AO))(d s st k kp):exF C D E (.bsl own sz n z ps) d s st k kp=hBsl own sz n z ps C D E d s st k kp:=rfl
theorem Xzq(C:CSem)(D:DT)(E:Env)(n:Option Nat)(x:AO)(d s st k kp):exF C D E (.ld n x) d s st k kp=hLd n x C D E d s st k kp:=rfl
theorem Xzo(C:CSem)(D:DT)(E:Env)(n:Nat)(p x:AO)(d s st k kp):exF C D E (.st n p x) d s st k kp=hSt n p x C D E d s st k kp:=rfl
theorem Xpg(C:CSem)(D:DT)(E:Env)(x:AO)(d s st k kp):exF C D E (.nck x) d s st k kp=hNck x C D E d s st k kp:=rfl
theorem Xsv(C:CSem)(D:DT)(E:Env)(off:Nat)(x:AO)(d s st k kp):exF C D E (.fa off x) d s st k kp=hFa off x C D E d s st k kp:=rfl
theorem Xsu(C:CSem)(D:DT)(E:Env)(sz:Nat)(x i:AO)(d s st k kp):exF C D E (.ia sz x i) d s st k kp=hIa sz x i C D E d s st k kp:=rfl
theorem Xpn(C:CSem)(D:DT)(E:Env)(len sz:Nat)(x i:AO)(d s st k kp):exF C D E (.iaa len sz x i) d s st k kp=hIaa len sz x i C D E d s st k kp:=rfl
theorem Xu2(C:CSem)(D:DT)(E:Env)(x i:AO)(d s st k kp):exF C D E (.ixs x i) d s st k kp=hIxs x i C D E d s st k kp:=rfl
theorem Xpp(C:CSem)(D:DT)(E:Env)(off:Nat)(n:Option Nat)(x:AO)(d s st k kp):exF C D E (.fld off n x) d s st k kp=hFld off n x C D E d s st k kp:=rfl
theorem Xpq(C:CSem)(D:DT)(E:Env)(n:Nat)(x:AO)(d s st k kp):exF C D E (.ext n x) d s st k kp=hExt n x C D E d s st k kp:=rfl
theorem Xu5(C:CSem)(D:DT)(E:Env)(K:BK)(o:BinOp)(x y:AO)(d s st k kp):exF C D E (.bin K o x y) d s st k kp=hBin K o x y C D E d s st k kp:=rfl
theorem Xzn(C:CSem)(D:DT)(E:Env)(o:UnOp)(x:AO)(d s st k kp):exF C D E (.un o x) d s st k kp=hUn o x C D E d s st k kp:=rfl
theorem Xps(C:CSem)(D:DT)(E:Env)(j:IntKind)(x:AO)(d s st k kp):exF C D E (.cvi j x) d s st k kp=hCvi j x C D E d s st k kp:=rfl
theorem Xpr(C:CSem)(D:DT)(E:Env)(x:AO)(d s st k kp):exF C D E (.cvs x) d s st k kp=hCvs x C D E d s st k kp:=rfl
theorem Xph(C:CSem)(D:DT)(E:Env)(sz bytes:Nat)(z:List AV)(l c:AO)(d s st k kp):exF C D E (.mks sz bytes z l c) d s st k kp=hMks sz bytes z l c C D E d s st k kp:=rfl
theorem Xpk(C:CSem)(D:DT)(E:Env)(ty bytes:Nat)(z:List AV)(l c:AO)(d s st k kp):exF C D E (.mkh ty bytes z l c) d s st k kp=hMkh ty bytes z l c C D E d s st k kp:=rfl
theorem Xpo(C:CSem)(D:DT)(E:Env)(x:AO)(d s st k kp):exF C D E (.frz x) d s st k kp=hFrz x C D E d s st k kp:=rfl
theorem Xu0(C:CSem)(D:DT)(E:Env)(sz:Option Nat)(x:AO)(lo hi:Option AO)(d s st k kp):exF C D E (.slc sz x lo hi) d s st k kp=hSlc sz x lo hi C D E d s st k kp:=rfl
theorem Xu1(C:CSem)(D:DT)(E:Env)(b:Bool)(x:AO)(d s st k kp):exF C D E (.len b x) d s st k kp=hLen b x C D E d s st k kp:=rfl
theorem Xu6(C:CSem)(D:DT)(E:Env)(sz b:Nat)(x y:AO)(d s st k kp):exF C D E (.app sz b x y) d s st k kp=hApp sz b x y C D E d s st k kp:=rfl
theorem Xrv(C:CSem)(D:DT)(E:Env)(sz b:Nat)(x y v i:AO)(d s st k kp):exF C D E (.appw sz b x y v i) d s st k kp=Xue sz b x y v i C D E d s st k kp:=rfl
theorem Xma(C:CSem)(D:DT)(E:Env)(x y:AO)(d s st k kp):exF C D E (.mini x y) d s st k kp=Xrq x y C D E d s st k kp:=rfl
theorem Xpj(C:CSem)(D:DT)(E:Env)(t:Nat)(x:AO)(d s st k kp):exF C D E (.mki t x) d s st k kp=hMki t x C D E d s st k kp:=rfl
theorem Xpl(C:CSem)(D:DT)(E:Env)(f:Nat)(x y:List AO)(d s st k kp):exF C D E (.mkf f x y) d s st k kp=hMkf f x y C D E d s st k kp:=rfl
theorem Xpi(C:CSem)(D:DT)(E:Env)(d s st k kp):exF C D E (.mkm) d s st k kp=hMkm C D E d s st k kp:=rfl
theorem Xpm(C:CSem)(D:DT)(E:Env)(str:Bool)(z:AV)(ok:Bool)(m k0:AO)(d s st k kp):exF C D E (.lkp str z ok m k0) d s st k kp=hLkp str z ok m k0 C D E d s st k kp:=rfl
theorem Xpe(C:CSem)(D:DT)(E:Env)(str:Bool)(m k0 v:AO)(d s st k kp):exF C D E (.upd str m k0 v) d s st k kp=hUpd str m k0 v C D E d s st k kp:=rfl
theorem Xst(C:CSem)(D:DT)(E:Env)(t:Nat)(ok:Bool)(z:AV)(x:AO)(d s st k kp):exF C D E (.ta t ok z x) d s st k kp=hTa t ok z x C D E d s st k kp:=rfl
theorem Xpf(C:CSem)(D:DT)(E:Env)(x:AO)(d s st k kp):exF C D E (.pan x) d s st k kp=hPan x C D E d s st k kp:=rfl
theorem Xru(C:CSem)(D:DT)(E:Env)(tr:Tr)(f:Nat)(args:List AO)(d s st k kp):exF C D E (.call tr f args) d s st k kp=Xud tr f args C D E d s st k kp:=rfl
theorem Xkb(C:CSem)(D:DT)(E:Env)(tr:Tr)(f:AO)(args:List AO)(d s st k kp):exF C D E (.callv tr f args) d s st k kp=Xl1 tr f args C D E d s st k kp:=rfl
theorem Xsw(D:DT)(hD:∀E tr f args st,D E tr f args st=doCall C E tr (.fn f) args st)(op d s st k kp):exF C D E op d s st k kp=Xf4 (aExec tabs C E op s st) d s k kp:=by
 cases op
 case slc sz x lo hi=>
  simp only[Xu0,hSlc,Xf7 _ _ _ _ _ kp,Xya,Xbg,Xwq];rw[Xzh]
  congr 1
  cases optN (evA tabs s) 0 lo with
  |none=>rfl
  |some a=>
   cases optN (evA tabs s) (lenN (evA tabs s x)) hi with
   |none=>rfl
   |some b=>rfl
 case app sz b x y=>
  simp only[Xu6,hApp,Xhq,Xyc,Xbg];rw[Xzm]
  congr 1
  rcases appA E st sz b (evA tabs s x) (evA tabs s y)with _|⟨v,st'⟩<;>rfl
 case st n p x=>
  simp only[Xzo,hSt,Xhq,opSt,Xbg];rw[Jet]
  congr 1
  cases Xag E st n (evA tabs s p) (evA tabs s x)<;>rfl
 case build z ps=>
  simp only[Xpt,Xo3,Xf7 _ _ _ _ _ kp,Xop,Xbg];rw[Xrs]
  congr 1
  cases Xap z (ps.map fun p=>(p.1,p.2.1,(evA tabs s p.2.2).cells))<;>rfl
 case bsl own sz n z ps=>
  simp only[Xu3,hBsl,Xhq,Xyb,Xbg];rw[Xzk]
  congr 1
  cases Xap z (ps.map fun p=>(p.1,p.2.1,(evA tabs s p.2.2).cells))<;>cases own<;>rfl
 case alloc ty z=>simp only[Xpu,Xo4,Xhq,Xi4];rfl
 case box ty x=>simp only[Xu4,hBox,Xhq,Xi4,Xbg];rfl
 case mv x=>simp only[Xzp,hMv,Xq4 _ _ _ _ _ kp,Xbg];rfl
 case pick c x y=>simp only[Xrt,Xuc,Xbr,Xbg,Xuy]
 case ixs x i=>simp only[Xu2,hIxs,Xbr,Xbg,Xyw,Xzj]
 case ld n x=>simp only[Xzq,hLd,Xf7 _ _ _ _ _ kp,Xbg,Jev]
 case bin K o x y=>simp only[Xu5,hBin,Xf7 _ _ _ _ _ kp,Xbg,Xvg,Xzl]
 case un o x=>simp only[Xzn,hUn,Xf7 _ _ _ _ _ kp,Xbg,Jes]
 case len b x=>simp only[Xu1,hLen,Xf7 _ _ _ _ _ kp,Xbg,Xzi]
 case call tr f args=>simp only[Xru,Xud,Xbs,Xbg,Xuz,hD]
 case nck=>first|(simp only[Xpg,hNck,Xbr,Xbg];rfl)|(simp only[Xpg,hNck,Xbs])
 case fa=>first|(simp only[Xsv,hFa,Xbr,Xbg];rfl)|(simp only[Xsv,hFa,Xbs])
 case ia=>first|(simp only[Xsu,hIa,Xbr,Xbg];rfl)|(simp only[Xsu,hIa,Xbs])
 case iaa=>first|(simp only[Xpn,hIaa,Xbr,Xbg];rfl)|(simp only[Xpn,hIaa,Xbs])
 case fld=>first|(simp only[Xpp,hFld,Xbr,Xbg];rfl)|(simp only[Xpp,hFld,Xbs])
 case ext=>first|(simp only[Xpq,hExt,Xbr,Xbg];rfl)|(simp only[Xpq,hExt,Xbs])
 case cvi=>first|(simp only[Xps,hCvi,Xbr,Xbg];rfl)|(simp only[Xps,hCvi,Xbs])
 case cvs=>first|(simp only[Xpr,hCvs,Xbr,Xbg];rfl)|(simp only[Xpr,hCvs,Xbs])
 case mks=>first|(simp only[Xph,hMks,Xbr,Xbg];rfl)|(simp only[Xph,hMks,Xbs])
 case mkh=>first|(simp only[Xpk,hMkh,Xbr,Xbg];rfl)|(simp only[Xpk,hMkh,Xbs])
 case frz=>first|(simp only[Xpo,hFrz,Xbr,Xbg];rfl)|(simp only[Xpo,hFrz,Xbs])
 case appw=>simp only[Xrv,Xue,Xbs]
 case mini=>first|(simp only[Xma,Xrq,Xbr,Xbg];rfl)|(simp only[Xma,Xrq,Xbs])
 case mki=>first|(simp only[Xpj,hMki,Xbr,Xbg];rfl)|(simp only[Xpj,hMki,Xbs])
 case mkf=>first|(simp only[Xpl,hMkf,Xbr,Xbg];rfl)|(simp only[Xpl,hMkf,Xbs])
 case mkm=>first|(simp only[Xpi,hMkm,Xbr,Xbg];rfl)|(simp only[Xpi,hMkm,Xbs])
 case lkp=>first|(simp only[Xpm,hLkp,Xbr,Xbg];rfl)|(simp only[Xpm,hLkp,Xbs])
 case upd=>first|(simp only[Xpe,hUpd,Xbr,Xbg];rfl)|(simp only[Xpe,hUpd,Xbs])
 case ta=>first|(simp only[Xst,hTa,Xbr,Xbg];rfl)|(simp only[Xst,hTa,Xbs])
 case pan=>first|(simp only[Xpf,hPan,Xbr,Xbg];rfl)|(simp only[Xpf,hPan,Xbs])
 case callv=>first|(simp only[Xkb,Xl1,Xbr,Xbg];rfl)|(simp only[Xkb,Xl1,Xbs])
noncomputable def Xn2 (o:AOper) (s:List AV):Bool:=match o.guard with
 |none=>true
 |some (t,b)=>match lkF s t with
  |.bool c=>c==b
  |_=>false
theorem Xli(o s):Xn2 o s=Xbz o s:=by
 unfold Xn2 Xbz;split
 ·rename_i h;simp[h]
 ·rename_i t b h;simp only[h,Xou,lk];rcases s[t]? with _|v
  ·rfl
  ·cases v<;>rfl
noncomputable def Xqi (D:DT) (ops:List AOper):List AV->St->RO:=
 List.rec (motive:=fun _=>List AV->St->RO) (fun s st=>some (.ok s,st)) (fun o _ ih s st=>match Xn2 o s with
  |true=>exF C D E o.op o.dst s st (fun _=>ih) fun v st'=>some (.pan v,st')
  |false=>putF o.dst AV.undef s fun s=>ih s st) ops
theorem Xji(D:DT)(hD:∀E tr f args st,D E tr f args st=doCall C E tr (.fn f) args st):∀ops s st,Xqi C E D ops s st=aOps tabs C E ops s st
 |[],s,st=>rfl
 |o::r,s,st=>by
  have hu:Xqi C E D (o::r) s st=match Xn2 o s with
   |true=>exF C D E o.op o.dst s st (fun _=>Xqi C E D r) fun v st'=>some (.pan v,st')
   |false=>putF o.dst AV.undef s fun s=>Xqi C E D r s st:=rfl
  rw[hu,aOps,Xie,Xli];by_cases hw:Xbz o s=true
  ·simp only[hw,↓reduceIte,Xsw C E D hD,Xf4];rcases aExec tabs C E o.op s st with _|⟨v|v,st'⟩
   ·rfl
   ·simp only[Xam];exact Xji D hD r _ _
   ·rfl
  ·simp only[Bool.not_eq_true]at hw;simp only[hw,Bool.false_eq_true,↓reduceIte,Xol,Xam];exact Xji D hD r _ _
noncomputable def Xf0 (D:DT):Nat->List (AOper×Nat)->List Done->List (Option Nat×St)->List AV->St->RO
  |_,[],_,_,s,st=>some (.ok s,st)
  |i,(o,m)::r,ds,sts,s,st=>match Xn2 o s with
    |true=>exF C D E o.op o.dst s st (fun v s' st'=>match Xak o.op with
        |true=>Xar (ds.all fun d=>m.testBit d.i||sameAt tabs C E d.o d.s st' d.v) (Xf0 D (i+1) r ds ((some i,st')::sts) s' st')
        |false=>match reads o.op with
          |true=>Xar (Xbb tabs C E o s v m sts) (Xf0 D (i+1) r (⟨i,o,s,v⟩::ds) sts s' st)
          |false=>Xf0 D (i+1) r ds sts s' st)
      fun v st'=>Xar (Xak o.op && Xex tabs C E i r sts s st) (some (.pan v,st'))
    |false=>match Xak o.op with
      |true=>putF o.dst AV.undef s fun s=>Xf0 D (i+1) r ds ((some i,st)::sts) s st
      |false=>putF o.dst AV.undef s fun s=>Xf0 D (i+1) r ds sts s st
theorem Xfz(D:DT)(hD:∀E tr f args st,D E tr f args st=doCall C E tr (.fn f) args st):∀ops i ds sts s st,Xf0 C E D i ops ds sts s st=aDraw tabs C E i ops ds sts s st
 |[],i,ds,sts,s,st=>by simp[Xf0,aDraw]
 |(o,m)::r,i,ds,sts,s,st=>by
  rw[Xf0,aDraw,Xli];by_cases hw:Xbz o s=true
  ·simp only[hw,↓reduceIte,Xsw C E D hD,Xf4];rcases aExec tabs C E o.op s st with _|⟨v|v,st'⟩
   ·rfl
   ·simp only[Xam];cases he:Xak o.op
    ·cases hr:reads o.op<;>simp[Xfz D hD r]
    ·simp[Xfz D hD r]
   ·rfl
  ·simp only[Bool.not_eq_true]at hw;simp only[hw,Bool.false_eq_true,↓reduceIte,Xol,Xfz D hD r];cases Xak o.op<;>simp
variable(lf:Nat)
noncomputable def Xoz (f:List AV->List Nat->St->Xe5) (n:Nat):List AV->List Nat->St->Xe5:=
 Nat.rec (motive:=fun _=>List AV->List Nat->St->Xe5) (fun _ _ _=>none) (fun _ ih s m st=>match f s m st with
  |some (.nrm,s',m',st')=>ih s' m' st'
  |r=>r) n
theorem Xly(f):∀n s m st,Xoz f n s m st=iter f n s m st
 |0,s,m,st=>rfl
 |n+1,s,m,st=>by
  have hu:Xoz f (n+1) s m st=match f s m st with
   |some (.nrm,s',m',st')=>Xoz f n s' m' st'
   |r=>r:=rfl
  rw[hu,iter];rcases f s m st with _|⟨x,s',m',st'⟩
  ·rfl
  ·cases x<;>first|exact Xly f n _ _ _|rfl
abbrev CT:=CSem->DT->Env->Nat->Option Nat->List AV->List Nat->St->Xe5
noncomputable def Jg7:CT:=fun _ _ _ _ _ s m st=>some (.nrm,s,m,st)
noncomputable def cReg (ops:List AOper):CT:=fun C D E _ _ s m st=>match Xqi C E D ops s st with
  |some (.ok s',st')=>some (.nrm,s',m,st')
  |some (.pan v,st')=>some (.pan v,s,m,st')
  |none=>none
noncomputable def Xve (ops:List (AOper×Nat)):CT:=fun C D E _ _ s m st=>match Xf0 C E D 0 ops [] [(none,st)] s st with
  |some (.ok s',st')=>some (.nrm,s',m,st')
  |some (.pan v,st')=>some (.pan v,s,m,st')
  |none=>none
noncomputable def cSeq (_ _:ACode) (a b:CT):CT:=fun C D E lf rd s m st=>match a C D E lf rd s m st with
  |some (.nrm,s',m',st')=>b C D E lf rd s' m' st'
  |r=>r
noncomputable def Jha (c:AO) (_ _:ACode) (x y:CT):CT:=fun C D E lf rd s m st=>match evF s c with
  |.bool b=>match b with
   |true=>x C D E lf rd s m st
   |false=>y C D E lf rd s m st
  |_=>none
noncomputable def Xz7 (id:Nat) (_:ACode) (b:CT):CT:=fun C D E lf rd s m st=>match b C D E lf rd s m st with
  |some (.exit j,s',m',st')=>if j=id then some (.nrm,s',m',st')else some (.exit j,s',m',st')
  |r=>r
noncomputable def Xz6 (_:ACode) (b:CT):CT:=b
noncomputable def Jg8 (_:ACode) (b:CT):CT:=fun C D E lf rd s m st=>Xoz (b C D E lf rd) lf s m st
noncomputable def cRf (f:AO) (ps:List Nat) (asg body:ACode) (_ _:CT):CT:=fun C D E _ rd s m st=>Xfo C E rd (evF s f) ps asg body s m st
noncomputable def Jg9 (id:Nat):CT:=fun _ _ _ _ _ s m st=>some (.exit id,s,m,st)
noncomputable def cRet:CT:=fun _ _ _ _ _ s m st=>some (.ret,s,m,st)
noncomputable def cBad:CT:=fun _ _ _ _ _ _ _ _=>none
noncomputable def Jex (c:ACode):CT:=ACode.rec (motive:=fun _=>CT) Jg7 cReg Xve cSeq Jha Xz7 Xz6 Jg8 cRf Jg9 cRet cBad c
noncomputable def Xd8 (D:DT) (rd:Option Nat) (c:ACode) (s:List AV) (m:List Nat) (st:St):Xe5:=Jex c C D E lf rd s m st
theorem Xr6(D:DT)(hD:∀E tr f args st,D E tr f args st=doCall C E tr (.fn f) args st)(rd:Option Nat):∀c s m st,Xd8 C E lf D rd c s m st=aRun tabs C E lf rd c s m st:=by
 intro c;induction c with
 |reg ops=>
  intro s m st;have hu:Xd8 C E lf D rd (.reg ops) s m st=cReg ops C D E lf rd s m st:=rfl;rw[hu,cReg,aRun,Xji C E D hD];rcases aOps tabs C E ops s st with _|⟨v|v,st'⟩<;>rfl
 |dreg ops=>
  intro s m st;have hu:Xd8 C E lf D rd (.dreg ops) s m st=Xve ops C D E lf rd s m st:=rfl;rw[hu,Xve,aRun,Xfz C E D hD];rcases aDraw tabs C E 0 ops [] [(none,st)] s st with _|⟨v|v,st'⟩<;>rfl
 |seq a b iha ihb=>
  intro s m st
  have hu:Xd8 C E lf D rd (.seq a b) s m st=match Xd8 C E lf D rd a s m st with
   |some (.nrm,s',m',st')=>Xd8 C E lf D rd b s' m' st'
   |r=>r:=rfl
  rw[hu,aRun,iha];rcases aRun tabs C E lf rd a s m st with _|⟨x,s',m',st'⟩
  ·rfl
  ·cases x<;>first|exact ihb _ _ _|rfl
 |cond c x y ihx ihy=>
  intro s m st
  have hu:Xd8 C E lf D rd (.cond c x y) s m st=match evF s c with
   |.bool b=>match b with
    |true=>Xd8 C E lf D rd x s m st
    |false=>Xd8 C E lf D rd y s m st
   |_=>none:=rfl
  rw[hu,aRun,ihx,ihy,Xbg];cases evA tabs s c<;>try rfl
  rename_i b;cases b<;>rfl
 |block id b ih=>
  intro s m st
  have hu:Xd8 C E lf D rd (.block id b) s m st=match Xd8 C E lf D rd b s m st with
   |some (.exit j,s',m',st')=>if j=id then some (.nrm,s',m',st')else some (.exit j,s',m',st')
   |r=>r:=rfl
  rw[hu,aRun,ih];rcases aRun tabs C E lf rd b s m st with _|⟨x,s',m',st'⟩
  ·rfl
  ·cases x<;>rfl
 |scope b ih=>
  intro s m st;have hu:Xd8 C E lf D rd (.scope b) s m st=Xd8 C E lf D rd b s m st:=rfl;rw[hu,aRun,ih]
 |loop b ih=>
  intro s m st;have hb:Xd8 C E lf D rd b=aRun tabs C E lf rd b:=by funext s m st;exact ih s m st
  have hu:Xd8 C E lf D rd (.loop b) s m st=Xoz (Xd8 C E lf D rd b) lf s m st:=rfl;rw[hu,aRun,hb,Xly]
 |rf f ps asg body _ _=>
  intro s m st;have hu:Xd8 C E lf D rd (.rf f ps asg body) s m st=Xfo C E rd (evF s f) ps asg body s m st:=rfl;rw[hu,aRun,Xbg]
 |_=>intros;rfl
end
def Xyr:List ByteArray:=[⟨#[98,114,101,97,107]⟩,⟨#[99,97,115,101]⟩,⟨#[99,97,116,99,104]⟩,⟨#[99,111,110,116,105,110,117,101]⟩,⟨#[100,101,98,117,103,103,101,114]⟩,⟨#[100,101,102,97,117,108,116]⟩,⟨#[100,101,108,101,116,101]⟩,⟨#[100,111]⟩,⟨#[101,108,115,101]⟩,⟨#[102,105,110,97,108,108,121]⟩,⟨#[102,111,114]⟩,⟨#[102,117,110,99,116,105,111,110]⟩,⟨#[105,102]⟩,⟨#[105,110]⟩,⟨#[105,110,115,116,97,110,99,101,111,102]⟩,⟨#[110,101,119]⟩,⟨#[114,101,116,117,114,110]⟩,⟨#[115,119,105,116,99,104]⟩,⟨#[116,104,105,115]⟩,⟨#[116,104,114,111,119]⟩,⟨#[116,114,121]⟩,⟨#[116,121,112,101,111,102]⟩,⟨#[118,97,114]⟩,⟨#[118,111,105,100]⟩,⟨#[119,104,105,108,101]⟩,⟨#[119,105,116,104]⟩,⟨#[110,117,108,108]⟩,⟨#[116,114,117,101]⟩,⟨#[102,97,108,115,101]⟩,⟨#[117,110,100,101,102,105,110,101,100]⟩,⟨#[105,110,112,117,116]⟩]
def inF(s:List UInt8):List ByteArray->Bool
 |[]=>false
 |w::r=>match beF s w.data.toList with
  |true=>true
  |false=>inF s r
theorem Xsk(s:ByteArray):∀l,inF s.data.toList l=decide (s∈l)
 |[]=>by simp[inF]
 |w::r=>by
  have hd:beF s.data.toList w.data.toList=decide (s=w):=by rw[Xqa];exact decide_eq_decide.2 (Iff.of_eq (Xht s w).symm)
  simp only[inF,hd,Xsk s r,List.mem_cons];by_cases h:s=w<;>simp[h]
theorem Xrh:Xlw=Xyr:=by decide+kernel
noncomputable def Xt9 (k:Nat) (C:CSem):DT:=fun E tr f args st=>match Nat.beq f 151 with
 |true=>match tr with
  |.full=>match args with
   |[.str s]=>match Nat.ble 300 k && (Nat.ble E.base st.H.length && (Nat.ble E.rob st.H.length && Nat.ble E.rom st.I.length))with
    |true=>some (.ok (.bool (inF s.data.toList Xyr)),st)
    |false=>doCall C E .full (.fn f) args st
   |args=>doCall C E .full (.fn f) args st
  |tr=>doCall C E tr (.fn f) args st
 |false=>doCall C E tr (.fn f) args st
theorem Xrp(k:Nat)(E:Env)(tr:Tr)(f:Nat)(args:List AV)(st:St):Xt9 k (aCall prog k) E tr f args st=doCall (aCall prog k) E tr (.fn f) args st:=by
 unfold Xt9;split
 ·rename_i hf;have hf:f=151:=Nat.eq_of_beq_eq_true hf;subst hf;split
  ·split
   ·rename_i s;split
    ·rename_i h;simp only[Bool.and_eq_true,Nat.ble_eq]at h;obtain⟨h1,h2,h3,h4⟩:=h;rw[(f151 s k h1).full rfl ⟨h2,h3,h4⟩,Xsk,Xc2,Xrh]
    ·rfl
   ·rfl
  ·rfl
 ·rfl
noncomputable def Xk3 (C:CSem) (k:Nat) (E:Env) (fn:AFn) (args:List AV) (st:St):Option (Rt AV×St):=
 fL1 (args++List.replicate (fn.ntmps - args.length) AV.undef) fun s=>fSt (st.H.length+1) st fun st=>match Xd8 C E k (Xt9 k C) none fn.body s [] st with
  |some (.nrm,s,m,st')=>Xa6 (Xbf st' m) fun st''=>Xe3 fn st'' s
  |some (.ret,s,m,st')=>Xa6 (Xbf st' m) fun st''=>Xe3 fn st'' s
  |some (.pan v,_,m,st')=>Xa6 (Xbf st' m) fun st''=>some (.pan v,st'')
  |some (.exit _,_,_,_)=>none
  |none=>none
noncomputable def Xh3 (n:Nat):CSem:=
 Nat.rec (motive:=fun _=>CSem) (fun _ _ _ _=>none) (fun k ih E cal args st=>match cal with
  |.yld l=>Xd6 tabs ih E k l args st
  |.fn f=>match ovOf f with
   |some g=>g ih E args st
   |none=>match fnOf f with
    |none=>none
    |some fn=>Xk3 ih k E fn args st) n
theorem Xh2:∀k,Xh3 k=aCall prog k
 |0=>rfl
 |k+1=>by
  funext E cal args st
  have hu:Xh3 (k+1) E cal args st=match cal with
   |.yld l=>Xd6 tabs (Xh3 k) E k l args st
   |.fn f=>match ovOf f with
    |some g=>g (Xh3 k) E args st
    |none=>match fnOf f with
     |none=>none
     |some fn=>Xk3 (Xh3 k) k E fn args st:=rfl
  rw[hu,aCall,Xh2 k];cases cal with
  |yld l=>rfl
  |fn f=>
   have h1:prog.ovr f=ovOf f:=rfl;have h2:prog.fn f=fnOf f:=rfl;simp only[h1,h2];cases ovOf f with
   |some g=>rfl
   |none=>
    simp only;cases fnOf f with
    |none=>rfl
    |some fn=>
     simp only[Xk3,Xsr,Xzd,Xr6 _ _ _ _ (Xrp k)];have h3:prog.GT=tabs:=rfl;rw[h3];rcases aRun tabs (aCall prog k) E k none fn.body (args++List.replicate (fn.ntmps - args.length) AV.undef) [] st with _|⟨x,s',m',st'⟩
     ·rfl
     ·cases x<;>rfl
theorem AccT.push{m I ts v}(h:AccT m I ts v)(x:Nat×Nat):AccT m (I++ [x]) ts v:=by
 rcases h with h|⟨j,e,hj,hi⟩
 ·exact .inl h
 ·exact .inr ⟨j,e,hj,by rw[List.getElem?_append_left (uB hi)];exact hi⟩
theorem AccT.fin{m I ts v}(h:AccT m I ts v)(q:Nat)(hq:q<=m):v.fin q=.sl none ts.length (T.encL ts):=by
 rcases h with⟨rfl,rfl⟩|⟨j,rfl,hj,hi⟩
 ·rfl
 ·have:¬j<q:=by omega
  simp[this]
def Tru(st:St)(r:Rt AV)(st':St):Prop:=∃v,r=.ok v/\Grow st st'/\v.fin st.I.length=.bool true
theorem Tru.of{st st':St}(h:Grow st st'):Tru st (.ok (.bool true)) st':=⟨_,rfl,h,rfl⟩
theorem Xef{m:Nat}{v:AV}{b:Bool}(h:v.fin m=.bool b):v=.bool b:=by
 cases v;case bool c=>simpa using h
 case sl o n c=>cases o<;>simp at h
 all_goals simp at h
abbrev E0:Env:={base:=0,rob:=0,rom:=0}
def Says(f:Nat)(args:List AV):Prop:=∃k st',aCall prog k E0 (.fn f) args ⟨[],[]⟩=some (.ok (.bool true),st')
theorem wf0:E0.Wf ⟨[],[]⟩:=⟨Nat.le_refl _,Nat.le_refl _,Nat.le_refl _⟩
theorem Xti{k f:Nat}{args:List AV}(h:CallQ k E0 f args ⟨[],[]⟩ fun r st'=> ∃v,r=.ok v/\Grow ⟨[],[]⟩ st'/\v.fin 0=.bool true):Says f args:=by obtain⟨⟨r,st'⟩,e,v,e1, -,e2⟩:=h;simp only at e1 e2;rw[e1,Xef e2]at e;exact⟨_,_,e⟩
structure InvOkN(B:Nat)(Inv:Nat->St->Prop):Prop where
 dep:∀c st st',Inv c st->(∀j,j<B->st'.H[j]?=st.H[j]?)->st'.I=st.I->Inv c st'
def YOKN(E:Env)(l B K W:Nat)(Inv:Nat->St->Prop):Prop:=∀k,K<=k->∀(c:Nat) (st:St) (t:T),c<W->Inv c st->E.Wf st->B<=st.H.length->
 Xnw k E l [.agg t.enc] st fun r st'=>r=.ok (.bool true)/\Inv (c+1) st'/\st.H.length<=st'.H.length/\st.I.length<=st'.I.length/\∀j x,B<=j->st.H[j]?=some x->st'.H[j]?=some x
theorem f115(t:T)(k:Nat)(hk:1<=k)(E:Env)(st:St):CallQ k E 115 [.agg t.enc] st fun r st'=>r=.ok (.fn 157 [] [.ptr st.H.length 0])/\st'=⟨st.H++ [.cells 24 t.enc],st.I⟩:=by obtain⟨k,rfl⟩:=uK (k:=k) (by omega);obtain⟨op,s0,nn,l,x⟩:=t;refine Xai rfl rfl (by decide) fun s hs e0=>?_;simp[hs,e0]
theorem f157(n:Nat):∀t:T,t.wt<=n->∀(E:Env) (l B K W:Nat) (Inv:Nat->St->Prop),W<=100000000000->InvOkN B Inv->YOKN E l B K W Inv->l<B->∀(st:St) (vs:Nat) (b1:Nat),vs+t.count<=W->Inv vs st->E.Wf st->B<=st.H.length->(∀vs st,Inv vs st->st.H[b1]?=some (.cells 24 t.enc))->
  ∀k,K+4*t.wt+10<=k->CallQ k E 157 [.yld l,.ptr b1 0] st fun r st'=>r=.ok (.tup [])/\Inv (vs+t.count) st'/\st.H.length<=st'.H.length/\st.I.length<=st'.I.length/\∀j x,B<=j->st.H[j]?=some x->st'.H[j]?=some x:=by
 induction n with
 |zero=>intro t h;cases t;simp[T.wt]at h
 |succ n ih=>
  intro t ht E l B K W Inv hWb hI hy hl st vs b1 hW hinv hE hB hIb k hk;obtain⟨k,rfl⟩:=uK (k:=k) (by omega);have hmw:=Xaa hE;refine Xaz rfl rfl (by decide) fun s hs e0 e1=>?_;have hE1:E.Wf ⟨st.H++ [.cells 33 [.yld l]],st.I⟩:=hE.of (by simp) (by simp);have hinv1:Inv vs ⟨st.H++ [.cells 33 [.yld l]],st.I⟩:=hI.dep _ st _ hinv (fun j hj=>List.getElem?_append_left (by omega)) rfl;have hcp:0<t.count:=by cases t;simp only[T.count];omega
  have cy:=hy k (by omega) vs _ t (by omega) hinv1 hE1 (by simp;omega);have hb1:=hIb _ _ hinv1;obtain⟨op,s0,nn,ls,line⟩:=t;simp only[T.enc]at hb1 cy hIb;simp only[T.wt]at ht hk;have hcnt:(T.mk op s0 nn ls line).count=1+T.countL ls:=rfl;rw[hcnt]at hW⊢;have hlw:=T.len_wtL ls;have hcl:=T.len_le ls;simp[hs,e0,e1,hb1];refine Xac cy fun p hp=>?_;obtain⟨r,st2⟩:=p;obtain⟨h1,h2,h3,h4,h5⟩:=hp;simp only[List.length_append,List.length_cons,List.length_nil,Nat.zero_add]at h1 h2 h3 h4 h5;subst h1;have q1:=hIb _ _ h2;have q2:st2.H[st.H.length]?=some (.cells 33 [.yld l]):=h5 _ _ hB (by simp);have hE2:E.Wf st2:=hE.of (H:=st2.H) (I:=st2.I) (by omega) h4;have hg0:∀j x,B<=j->st.H[j]?=some x->st2.H[j]?=some x:=fun j x hj e=>h5 j x hj (Xae e);simp[hs,e1,q1,q2]
  refine Xau (fun n s m st'=> ∃(j:Nat) (vs':Nat),j<=ls.length/\n=ls.length - j/\s.length=25/\lk s 1=.ptr b1 0/\lk s 2=.ptr st.H.length 0/\lk s 11=.sl none ls.length (T.encL ls)/\lk s 12=.int .i64 ls.length/\lk s 13=.int .i64 j/\
   Inv vs' st'/\vs'+T.countL (ls.drop j)=vs+1+T.countL ls/\st2.H.length<=st'.H.length/\st2.I.length<=st'.I.length/\(∀j x,B<=j->st2.H[j]?=some x->st'.H[j]?=some x)/\m.Nodup/\∀d∈m,st2.H.length<=d/\st'.H[d]?=some .dfr) ls.length (by omega)
   ⟨0,vs+1,by omega,by omega,by simp[hs],by simp[hs,e1],by simp[hs],by simp[hs],by simp[hs],by simp[hs],h2,by simp,Nat.le_refl _,Nat.le_refl _,fun _ _ _ e=>e,by simp,by simp⟩ ?_
  clear hs e0 e1 s cy;rintro _ s m st' ⟨j,vs',hj,rfl,hs,e1,e2,e15,e16,e17,hiv,hq,hHl,hIl,hkeep,hnd,hdf⟩;by_cases hc:j<ls.length
  ·obtain⟨t,hg⟩:∃t,ls[j]?=some t:=⟨_,List.getElem?_eq_getElem hc⟩;rw[T.drop_cons hg,T.countL]at hq;have hrd:=T.rd hg;have hwt:=Xcm hg;have hwt1:=Xcu hg;have hwj:=Xah (n:=(j:Int)+1) (by omega);have hEs:E.Wf st':=hE2.of (H:=st'.H) (I:=st'.I) hHl hIl;have hmw2:=Xaa hEs;have c115:=f115 t k (by omega) E ⟨st'.H++ [.cells 24 t.enc],st'.I⟩;rw[T.enc_eq]at hrd c115;simp[hs,e15,e16,e17,hc,hrd,Xag,hmw2,wrC];refine Xac c115 fun p hp=>?_;obtain⟨r,st3⟩:=p;obtain⟨hr,hst3⟩:=hp;simp only at hr hst3;subst hr hst3;simp[hs];refine Xh4 (g:=157) (a:=[]) (b:=[.ptr (st'.H.length+1) 0]) (by simp[hs]) (st'.H.length+2) (st'.H.length+3) (by simp) (by simp) ?_;simp;have he4l:(((((s.set 14 (AV.bool true)).set 15 (AV.eptr (T.encL ls) (j*5))).set 16 (AV.agg [AV.int IntKind.i64 t.op,AV.str t.s,AV.int IntKind.i64 t.n,AV.sl none t.l.length (T.encL t.l),AV.int IntKind.i64 t.line])).set 4 (AV.ptr st'.H.length 0)).set 17 (AV.agg [AV.int IntKind.i64 t.op,AV.str t.s,AV.int IntKind.i64 t.n,AV.sl none t.l.length (T.encL t.l),AV.int IntKind.i64 t.line])).length=25:=by simp[hs]
   generalize hs4:((((((s.set 14 (AV.bool true)).set 15 (AV.eptr (T.encL ls) (j*5))).set 16 (AV.agg [AV.int IntKind.i64 t.op,AV.str t.s,AV.int IntKind.i64 t.n,AV.sl none t.l.length (T.encL t.l),AV.int IntKind.i64 t.line])).set 4 (AV.ptr st'.H.length 0)).set 17 (AV.agg [AV.int IntKind.i64 t.op,AV.str t.s,AV.int IntKind.i64 t.n,AV.sl none t.l.length (T.encL t.l),AV.int IntKind.i64 t.line])).set 18 (AV.fn 157 [] [AV.ptr (st'.H.length+1) 0]))=s4;have hs4l:s4.length=25:=by rw[<-hs4];simp[hs]
   have hs41:lk s4 1=.ptr b1 0:=by rw[<-hs4];simp[hs,e1]
   have hs42:lk s4 2=.ptr st.H.length 0:=by rw[<-hs4];simp[hs,e2]
   have hs415:lk s4 11=.sl none ls.length (T.encL ls):=by rw[<-hs4];simp[hs,e15]
   have hs416:lk s4 12=.int .i64 ls.length:=by rw[<-hs4];simp[hs,e16]
   have hs417:lk s4 13=.int .i64 j:=by rw[<-hs4];simp[hs,e17]
   clear hs4 he4l;generalize hB4:ABlk.loop LState.ready none 0 s4 [19] (ACode.reg [{dst:=some 5,op:=AOp.alloc 24 [AV.int IntKind.i64 0,AV.str {data:= #[]},AV.int IntKind.i64 0,AV.nils,AV.int IntKind.i64 0],guard:=none},{dst:=none,op:=AOp.st 5 (AO.t 5) (AO.t 19),guard:=none}]) (ACode.block 3 ((ACode.reg [{dst:=some 20,op:=AOp.ld none (AO.t 2),guard:=none},{dst:=some 21,op:=AOp.ld (some 5) (AO.t 5),guard:=none},{dst:=some 22,op:=AOp.callv Tr.no (AO.t 20) [AO.t 21],guard:=none},{dst:=some 23,op:=AOp.un UnOp.not (AO.t 22),guard:=none}]).seq (ACode.cond (AO.t 23) ACode.ret ACode.skip))) (st'.H.length+2)=lp;rw[<-T.enc_eq];have hB2:B<=st2.H.length:=by omega
   have hyi:YOKN E (st'.H.length+3) (st'.H.length+4) (K+1) W (fun v s'=>Inv v s'/\∀q,B<=q->q<st'.H.length+4->s'.H[q]?=(st'.H++ [.cells 24 t.enc,.cells 24 t.enc,.dfr,lp])[q]?):=by
    intro k2 hk2 v s' x hW2 hv2 hE' hB';obtain⟨k2,rfl⟩:∃k',k2=k'+1:=⟨k2 - 1,by omega⟩;obtain⟨hv2,hv3⟩:=hv2;have hmw':=Xaa hE';have hlp:s'.H[st'.H.length+3]?=some lp:=by rw[hv3 _ (by omega) (by omega)];simp
    have hy33:s'.H[st.H.length]?=some (.cells 33 [.yld l]):=by rw[hv3 _ hB (by omega)];exact Xae (hkeep _ _ hB q2)
    subst hB4;refine Xdx hlp rfl (by have:=hEs.rob;omega) ?_;have hxe:=T.enc_eq x;rw[hxe];simp[hs4l,Xag,hmw',wrC];refine Xfi (Xae hlp) ?_;have w1:∀y z,((s'.H++y).set (st'.H.length+3) z)[st.H.length]?=some (.cells 33 [.yld l]):=fun y z=>by rw[List.getElem?_set_ne (by omega)];exact Xae hy33
    have w2:∀y z,((s'.H++y).set (st'.H.length+3) z)[s'.H.length]?=y[0]?:=fun y z=>by rw[List.getElem?_set_ne (by omega)];simp
    have cyx:=hy k2 (by omega) v ⟨(s'.H++ [ABlk.cells 24 x.enc]).set (st'.H.length+3) (ABlk.loop LState.busy none 0 s4 [19] (ACode.reg [{dst:=some 5,op:=AOp.alloc 24 [AV.int IntKind.i64 0,AV.str {data:= #[]},AV.int IntKind.i64 0,AV.nils,AV.int IntKind.i64 0],guard:=none},{dst:=none,op:=AOp.st 5 (AO.t 5) (AO.t 19),guard:=none}]) (ACode.block 3 ((ACode.reg [{dst:=some 20,op:=AOp.ld none (AO.t 2),guard:=none},{dst:=some 21,op:=AOp.ld (some 5) (AO.t 5),guard:=none},{dst:=some 22,op:=AOp.callv Tr.no (AO.t 20) [AO.t 21],guard:=none},{dst:=some 23,op:=AOp.un UnOp.not (AO.t 22),guard:=none}]).seq (ACode.cond (AO.t 23) ACode.ret ACode.skip))) (st'.H.length+2)),s'.I⟩ x hW2
     (hI.dep _ s' _ hv2 (fun q hq=>by show((s'.H++ [ABlk.cells 24 x.enc]).set (st'.H.length+3) _)[q]?=_;rw[List.getElem?_set_ne (by omega),List.getElem?_append_left (by omega)]) rfl)
     (hE'.of (by simp) (by simp)) (by simp;omega)
    rw[hxe]at cyx;have w3:st'.H.length+3≠s'.H.length:=by have:=(uB hlp);omega
    simp[hs4l,hs42,w1,w2,List.getElem_set_ne w3];refine Xac cyx fun p hp=>?_;obtain⟨r,s6⟩:=p;obtain⟨r1,r2,r3,r4,r5⟩:=hp;simp only[List.length_set,List.length_append,List.length_cons,List.length_nil,Nat.zero_add]at r1 r2 r3 r4 r5;subst r1;simp[hs4l];have hlp6:=r5 (st'.H.length+3) _ (by omega) (List.getElem?_set_self (by simp;omega));refine Xd2 hlp6 ?_;have hk5:∀q z,B<=q->q≠st'.H.length+3->s'.H[q]?=some z->s6.H[q]?=some z:=fun q z hq hne e=>r5 q z hq (by rw[List.getElem?_set_ne (Ne.symm hne)];exact Xae e);refine⟨rfl,⟨hI.dep _ s6 _ r2 (fun q hq=>List.getElem?_set_ne (by omega)) rfl,fun q hq1 hq2=>?_⟩,by simp;omega,r4,fun q z hq e=>?_⟩
    ·by_cases hq3:q=st'.H.length+3
     ·subst hq3;show(s6.H.set _ _)[_]?=_;rw[List.getElem?_set_self (uB hlp6)];simp
     ·show(s6.H.set _ _)[q]?=_;rw[List.getElem?_set_ne (Ne.symm hq3),<-hv3 q hq1 hq2];have hql:q<s'.H.length:=by omega
      rw[List.getElem?_eq_getElem hql];exact hk5 q _ hq1 hq3 (List.getElem?_eq_getElem hql)
    ·show(s6.H.set _ _)[q]?=_;rw[List.getElem?_set_ne (by omega)];exact hk5 q z (by omega) (by omega) e
   have cI:=ih t (by omega) E (st'.H.length+3) (st'.H.length+4) (K+1) W (fun v s'=>Inv v s'/\∀q,B<=q->q<st'.H.length+4->s'.H[q]?=(st'.H++ [.cells 24 t.enc,.cells 24 t.enc,.dfr,lp])[q]?) hWb
    ⟨fun v s1 s2 ⟨x1,x2⟩ hx hxi=>⟨hI.dep _ s1 _ x1 (fun q hq=>hx q (by omega)) hxi,fun q hq1 hq2=>by rw[hx q hq2];exact x2 q hq1 hq2⟩⟩ hyi (by omega)
    ⟨st'.H++ [.cells 24 t.enc,.cells 24 t.enc,.dfr,lp],st'.I⟩ vs' (st'.H.length+1) (by omega)
    ⟨hI.dep _ st' _ hiv (fun q hq=>List.getElem?_append_left (by omega)) rfl,fun _ _ _=>rfl⟩ (hEs.of (by simp) (by simp)) (by simp)
    (fun v s' ⟨_,x2⟩=>by rw[x2 _ (by omega) (by omega)];simp) k (by omega)
   refine Xac cI fun p hp=>?_;obtain⟨r,s7⟩:=p;obtain⟨r1,⟨r2,r3⟩,r4,r5,r6⟩:=hp;simp only[List.length_append,List.length_cons,List.length_nil,Nat.zero_add,Nat.reduceAdd]at r1 r2 r3 r4 r5 r6;subst r1;have h7:s7.H[st'.H.length+3]?=some lp:=by rw[r3 _ (by omega) (by omega)];simp
   subst hB4;refine⟨_,_,_,_,_,_,_,_,h7,nofun,?_⟩;simp[AJump.exit',hs4l,hs417,hwj];have hk7:∀q z,B<=q->st'.H[q]?=some z->s7.H[q]?=some z:=fun q z hq e=>by rw[r3 q hq (by have:=(uB e);omega)];exact Xae e
   refine⟨_,by omega,j+1,vs'+t.count,by omega,rfl,by simp[hs4l],by simp[hs4l,hs41],by simp[hs4l,hs42],by simp[hs4l,hs415],by simp[hs4l,hs416],by simp[hs4l],hI.dep _ s7 _ r2 (fun q hq=>List.getElem?_set_ne (by omega)) rfl,by omega,by simp;omega,by show st2.I.length<=s7.I.length;have h:st'.I.length<=s7.I.length:=r5;omega,fun q z hq e=>?_,?_,?_⟩
   ·show(s7.H.set _ _)[q]?=_;have hz:=hkeep q z hq e;have hzl:=uB hz;rw[List.getElem?_set_ne (by omega)];exact hk7 q z hq hz
   ·rw[List.nodup_cons];refine⟨fun hm=>?_,hnd⟩;have:=(List.getElem?_eq_some_iff.1 (hdf _ hm).2).1;omega
   ·intro d hd;rcases List.mem_cons.1 hd with rfl|hd
    ·refine⟨by omega,?_⟩;show(s7.H.set _ _)[_]?=_;rw[List.getElem?_set_ne (by omega),r3 _ (by omega) (by omega)];simp
    ·have hz:=(hdf d hd).2;have hzl:=uB hz;refine⟨(hdf d hd).1,?_⟩;show(s7.H.set _ _)[d]?=_;rw[List.getElem?_set_ne (by omega)];exact hk7 d _ (by have:=(hdf d hd).1;omega) hz
  ·have hq:vs'=vs+(1+T.countL ls):=by rw[List.drop_eq_nil_of_le (by omega)]at hq;simp only[T.countL]at hq;omega
   obtain⟨H',et,hl',hg'⟩:=Xc9 m st' hnd (fun d hd=>(hdf d hd).2);have hnm:∀j,j<st2.H.length->¬j∈m:=fun j hj hm=>by have:=(hdf j hm).1;omega
   simp[hs,e16,e17,hc,endQ,et];refine⟨hq▸hI.dep _ st' _ hiv (fun j hj=>hg' j (hnm j (by omega))) rfl,by omega,by omega,fun j x hj e=>?_⟩;have hj2:=hg0 j x hj e;rw[hg' j (hnm j (uB hj2))];exact hkeep j x hj hj2
theorem f78(x:T)(cb:Nat)(c:Nat)(hc:c<=100000000000)(E:Env)(st:St)(hE:E.Wf st)(h:st.H[cb]?=some (.cells 3 [.int .i64 c]))(hr:E.rob<=cb)(k:Nat)(hk:1<=k):
  CallQ k E 78 [.agg x.enc,.ptr cb 0] st fun r st'=>r=.ok (.bool true)/\st'=⟨(st.H++ [ABlk.cells 24 x.enc]).set cb (ABlk.cells 3 [.int .i64 ((c+1:Nat):Int)]),st.I⟩:=by
 obtain⟨k,rfl⟩:=uK (k:=k) (by omega);have hw:=Xah (n:=(c:Int)+1) (by omega);have hmw:∀n,Xaf E cb [.int .i64 c] [.int .i64 n]=true:=fun n=>by simp[Xaf,hr,Xdw,AV.refsL,AV.refs]
 have hl:=uB h;have h2:∀y,(st.H++y)[cb]?=some (.cells 3 [.int .i64 c]):=fun y=>by rw[List.getElem?_append_left hl];exact h
 obtain⟨op,s0,nn,l,line⟩:=x;refine Xaz rfl rfl (by decide) fun s hs e0 e1=>?_;simp[hs,e0,e1,h2,hw,Xag,hmw,wrC]
theorem f77(t:T)(hw:t.wt<=10000000000)(E:Env)(st:St)(hE:E.Wf st)(cb:Nat)(hcb:st.H[cb]?=some (.cells 3 [.int .i64 0]))(hr:E.rob<=cb)(k:Nat)(hk:4*t.wt+30<=k):
    CallQ k E 77 [.agg t.enc,.fn 78 [] [.ptr cb 0]] st fun r st'=>r=.ok (.tup [])/\st'.H[cb]?=some (.cells 3 [.int .i64 t.count])/\(∀j,j<st.H.length->j≠cb->st'.H[j]?=st.H[j]?)/\st.H.length<=st'.H.length/\st'.I=st.I:=by
  obtain⟨k,rfl⟩:=uK (k:=k) (by omega);have hcl:=uB hcb;have hcw:=Xb3 t;have c115:=f115 t k (by omega) E ⟨st.H++ [.cells 24 t.enc,.cells 33 [.fn 78 [] [.ptr cb 0]]],st.I⟩;have hgoal:∃u:T,u=t:=⟨t,rfl⟩;obtain⟨u,hu⟩:=hgoal;rw[show t.enc=[.int .i64 t.op,.str t.s,.int .i64 t.n,.sl none t.l.length (T.encL t.l),.int .i64 t.line]from T.enc_eq t]at c115⊢;refine Xaz rfl rfl (by decide) fun s hs e0 e1=>?_;simp[hs,e0,e1];refine Xac c115 fun p hp=>?_;obtain⟨r,st3⟩:=p;obtain⟨h1,h3⟩:=hp;simp only at h1 h3;subst h1 h3;simp[hs];refine Xh4 (g:=157) (a:=[]) (b:=[.ptr (st.H.length+2) 0]) (by simp[hs]) (st.H.length+3) (st.H.length+4) (by simp) (by simp) ?_;simp;have hs4l:((((s.set 2 (AV.ptr st.H.length 0)).set 3 (AV.ptr (st.H.length+1) 0)).set 5 (AV.agg [AV.int IntKind.i64 t.op,AV.str t.s,AV.int IntKind.i64 t.n,AV.sl none t.l.length (T.encL t.l),AV.int IntKind.i64 t.line])).set 6 (AV.fn 157 [] [AV.ptr (st.H.length+2) 0])).length=12:=by simp[hs]
  have hs43:lk ((((s.set 2 (AV.ptr st.H.length 0)).set 3 (AV.ptr (st.H.length+1) 0)).set 5 (AV.agg [AV.int IntKind.i64 t.op,AV.str t.s,AV.int IntKind.i64 t.n,AV.sl none t.l.length (T.encL t.l),AV.int IntKind.i64 t.line])).set 6 (AV.fn 157 [] [AV.ptr (st.H.length+2) 0])) 3=.ptr (st.H.length+1) 0:=by simp[hs]
  generalize ((((s.set 2 (AV.ptr st.H.length 0)).set 3 (AV.ptr (st.H.length+1) 0)).set 5 (AV.agg [AV.int IntKind.i64 t.op,AV.str t.s,AV.int IntKind.i64 t.n,AV.sl none t.l.length (T.encL t.l),AV.int IntKind.i64 t.line])).set 6 (AV.fn 157 [] [AV.ptr (st.H.length+2) 0]))=s4 at hs4l hs43;clear hs e0 e1 s c115;generalize hB4:ABlk.loop LState.ready none 0 s4 [7] (ACode.reg [{dst:=some 4,op:=AOp.alloc 24 [AV.int IntKind.i64 0,AV.str {data:= #[]},AV.int IntKind.i64 0,AV.nils,AV.int IntKind.i64 0],guard:=none},{dst:=none,op:=AOp.st 5 (AO.t 4) (AO.t 7),guard:=none}]) (ACode.block 1 ((ACode.reg [{dst:=some 8,op:=AOp.ld none (AO.t 3),guard:=none},{dst:=some 9,op:=AOp.ld (some 5) (AO.t 4),guard:=none},{dst:=some 10,op:=AOp.callv Tr.no (AO.t 8) [AO.t 9],guard:=none},{dst:=some 11,op:=AOp.un UnOp.not (AO.t 10),guard:=none}]).seq (ACode.cond (AO.t 11) (ACode.exit 0) ACode.skip))) (st.H.length+3)=lp;rw[<-T.enc_eq]
  have hyi:YOKN E (st.H.length+4) (st.H.length+5) 3 t.count (fun c s'=>s'.H[cb]?=some (.cells 3 [.int .i64 (c:Nat)])/\(∀j,j<st.H.length->j≠cb->s'.H[j]?=st.H[j]?)/\s'.I=st.I/\∀q,st.H.length<=q->q<st.H.length+5->s'.H[q]?=(st.H++ [.cells 24 t.enc,.cells 33 [.fn 78 [] [.ptr cb 0]],.cells 24 t.enc,.dfr,lp])[q]?):=by
    intro k2 hk2 c s' x hc hv hE' hB';obtain⟨k2,rfl⟩:∃k',k2=k'+1:=⟨k2 - 1,by omega⟩;obtain⟨v1,v2,v3,v4⟩:=hv;have hmw':=Xaa hE';have hlp:s'.H[st.H.length+4]?=some lp:=by rw[v4 _ (by omega) (by omega)];simp
    have h33:s'.H[st.H.length+1]?=some (.cells 33 [.fn 78 [] [.ptr cb 0]]):=by rw[v4 _ (by omega) (by omega)];simp
    subst hB4;refine Xdx hlp rfl (by have:=hE.rob;omega) ?_;have hxe:=T.enc_eq x;rw[hxe];simp[hs4l,Xag,hmw',wrC];refine Xfi (Xae hlp) ?_;have w1:∀y z,((s'.H++y).set (st.H.length+4) z)[st.H.length+1]?=some (.cells 33 [.fn 78 [] [.ptr cb 0]]):=fun y z=>by rw[List.getElem?_set_ne (by omega)];exact Xae h33
    have w3:st.H.length+4≠s'.H.length:=by have:=(uB hlp);omega
    have w2:∀y z,((s'.H++y).set (st.H.length+4) z)[s'.H.length]?=y[0]?:=fun y z=>by rw[List.getElem?_set_ne w3];simp
    have c78:=fun z=>f78 x cb c (by omega) E ⟨(s'.H++ [ABlk.cells 24 x.enc]).set (st.H.length+4) z,s'.I⟩ (hE'.of (by simp) (by simp)) (by show(List.set _ _ _)[_]?=_;rw[List.getElem?_set_ne (by omega)];exact Xae v1) hr k2 (by omega);rw[hxe]at c78;simp[hs4l,hs43,w1,w2,List.getElem_set_ne w3];refine Xac (c78 _) fun p hp=>?_;obtain⟨r,s6⟩:=p;obtain⟨r1,r2⟩:=hp;simp only at r1 r2;subst r1 r2;simp[hs4l];have hlp6:∀y z w,((((s'.H++y).set (st.H.length+4) z)++w).set cb (ABlk.cells 3 [AV.int IntKind.i64 ((c:Int)+1)]))[st.H.length+4]?=some z:=fun y z w=>by rw[List.getElem?_set_ne (by omega),List.getElem?_append_left (by simp;omega),List.getElem?_set_self (by simp;omega)]
    refine Xd2 (hlp6 _ _ _) ?_;refine⟨rfl,⟨?_,fun j hj hn=>?_,v3,fun q hq1 hq2=>?_⟩,by simp;omega,Nat.le_refl _,fun q z hq e=>?_⟩
    ·show(List.set _ _ _)[_]?=_;rw[List.getElem?_set_ne (by omega),List.getElem?_set_self (by simp;omega)];simp
    ·show(List.set _ _ _)[_]?=_;rw[List.getElem?_set_ne (by omega),List.getElem?_set_ne (Ne.symm hn),List.getElem?_append_left (by simp;omega),List.getElem?_set_ne (by omega),List.getElem?_append_left (by omega)];exact v2 j hj hn
    ·show(List.set _ _ _)[_]?=_;by_cases hq3:q=st.H.length+4
     ·subst hq3;rw[List.getElem?_set_self (by simp;omega)];simp
     ·rw[List.getElem?_set_ne (Ne.symm hq3),List.getElem?_set_ne (by omega),List.getElem?_append_left (by simp;omega),List.getElem?_set_ne (Ne.symm hq3),List.getElem?_append_left (by omega)];exact v4 q hq1 hq2
    ·show(List.set _ _ _)[_]?=_;have hql:=uB e;rw[List.getElem?_set_ne (by omega),List.getElem?_set_ne (by omega),List.getElem?_append_left (by simp;omega),List.getElem?_set_ne (by omega),List.getElem?_append_left hql];exact e
  have cI:=f157 t.wt t (Nat.le_refl _) E (st.H.length+4) (st.H.length+5) 3 t.count _ (by omega)
    ⟨fun c s1 s2 ⟨x1,x2,x3,x4⟩ hx hxi=>⟨by rw[hx _ (by omega)];exact x1,fun j hj hn=>by rw[hx _ (by omega)];exact x2 j hj hn,by rw[hxi];exact x3,fun q hq1 hq2=>by rw[hx q hq2];exact x4 q hq1 hq2⟩⟩ hyi (by omega)
    ⟨st.H++ [.cells 24 t.enc,.cells 33 [.fn 78 [] [.ptr cb 0]],.cells 24 t.enc,.dfr,lp],st.I⟩ 0 (st.H.length+2) (by omega)
    ⟨Xae hcb,fun j hj _=>List.getElem?_append_left hj,rfl,fun _ _ _=>rfl⟩ (hE.of (by simp) (by simp)) (by simp)
    (fun v s' ⟨_,_,_,x4⟩=>by rw[x4 _ (by omega) (by omega)];simp) k (by omega)
  refine Xac cI fun p hp=>?_;obtain⟨r,s7⟩:=p;obtain⟨r1,⟨r2,r3,r4,r5⟩,r6,r7,r8⟩:=hp;simp only[List.length_append,List.length_cons,List.length_nil,Nat.zero_add,Nat.reduceAdd]at r1 r2 r3 r4 r5 r6 r7 r8;subst r1;have h7:s7.H[st.H.length+4]?=some lp:=by rw[r5 _ (by omega) (by omega)];simp
  have h8:s7.H[st.H.length+3]?=some .dfr:=by rw[r5 _ (by omega) (by omega)];simp
  subst hB4;refine⟨_,_,_,_,_,_,_,_,h7,nofun,?_⟩;simp[AJump.exit',hs4l]
  have key:∀X:ABlk,endQ [] (fun r st'=>r=Rt.ok (AV.tup [])/\st'.H[cb]?=some (ABlk.cells 3 [AV.int IntKind.i64 t.count])/\(∀(j:Nat),j<st.H.length->j≠cb->st'.H[j]?=st.H[j]?)/\st.H.length<=st'.H.length/\st'.I=st.I)
      AExit.nrm s4 [st.H.length+3] ⟨s7.H.set (st.H.length+4) X,s7.I⟩:=fun X=>by
    obtain⟨H',et,hl',hg'⟩:=Xc9 [st.H.length+3] ⟨s7.H.set (st.H.length+4) X,s7.I⟩ (by simp) (fun d hd=>by simp only[List.mem_singleton]at hd;subst hd;show(List.set _ _ _)[_]?=_;rw[List.getElem?_set_ne (by omega)];exact h8);have hg2:∀j,j<st.H.length->H'[j]?=s7.H[j]?:=fun j hj=>by rw[hg' j (by simp;omega)];show(List.set _ _ _)[_]?=_;rw[List.getElem?_set_ne (by omega)]
    simp[endQ,et];refine⟨by rw[hg2 _ hcl,r2],fun j hj hn=>by rw[hg2 j hj];exact r3 j hj hn,by rw[hl'];simp;omega,r4⟩
  exact key _
theorem f50(t:T)(hw:t.wt<=10000000000)(k:Nat)(hk:4*t.wt+31<=k):PureC k 50 [.agg t.enc] (.int .i64 t.count):=by
 intro E st hE;obtain⟨k,rfl⟩:=uK (k:=k) (by omega);have hmw:=Xaa hE;have c77:=f77 t hw {E with base:=st.H.length+2} ⟨st.H++ [.cells 24 t.enc,.cells 3 [.int .i64 0]],st.I⟩ ⟨by simp,by have:=hE.rob;simp;omega,hE.rom⟩ (st.H.length+1) (by simp) (by have:=hE.rob;show E.rob<=_;omega) k (by omega);obtain⟨⟨r,st'⟩,e,h1,h2,h3,h4,h5⟩:=c77;simp only[List.length_append,List.length_cons,List.length_nil,Nat.zero_add,Nat.reduceAdd]at h1 h2 h3 h4 h5;subst h1
 have htk:st'.H.take (st.H.length+2)=st.H++ [.cells 24 t.enc,.cells 3 [.int .i64 t.count]]:=by
  apply List.ext_getElem?;intro j;by_cases hj:j<st.H.length+2
  ·rw[List.getElem?_take_of_lt hj];by_cases hj1:j=st.H.length+1
   ·subst hj1;rw[h2];simp
   ·rw[h3 j hj hj1];by_cases hj2:j=st.H.length
    ·subst hj2;simp
    ·rw[List.getElem?_append_left (by omega),List.getElem?_append_left (by omega)]
  ·rw[List.getElem?_eq_none (by rw[List.length_take];omega),List.getElem?_eq_none (by simp;omega)]
 have c77:doCall (aCall prog k) E .full (.fn 77) [.agg t.enc,.fn 78 [] [.ptr (st.H.length+1) 0]] ⟨st.H++ [.cells 24 t.enc,.cells 3 [.int .i64 0]],st.I⟩=some (.ok (.tup []),⟨st.H++ [.cells 24 t.enc,.cells 3 [.int .i64 t.count]],st.I⟩):=by
  have hargs:[AV.agg t.enc,.fn 78 [] [.ptr (st.H.length+1) 0]].map AV.arg=[AV.agg t.enc,.fn 78 [] [.ptr (st.H.length+1) 0]]:=by simp
  simp only[doCall,hargs,List.length_append,List.length_cons,List.length_nil,Nat.zero_add,Nat.reduceAdd];simp[e,htk,h5]
 rw[T.enc_eq]at c77;obtain⟨op,s0,nn,l,line⟩:=t;refine Xai rfl rfl (by decide) fun s hs e0=>?_;simp only[T.op_mk,T.s_mk,T.n_mk,T.l_mk,T.line_mk]at c77;simp[hs,e0,Xag,hmw,wrC,c77];exact Grow.appH _ _
structure Rule where
 kind:Int
 f:Int:=0
 x:Int:=0
 y:Int:=0
 z:Int:=0
 n:Int:=0
 m:Int:=0
 s:ByteArray:=⟨#[]⟩
 l:List Int:=[]
def Rule.enc(r:Rule):List AV:=[.int .i64 r.kind,.int .i64 r.f,.int .i64 r.x,.int .i64 r.y,.int .i64 r.z,.int .i64 r.n,.int .i64 r.m,.str r.s,.sl none r.l.length (r.l.map (.int .i64))]
def encR:List Rule->List AV
 |[]=> []
 |r::l=>r.enc++encR l
theorem Rule.enc_len(r:Rule):r.enc.length=9:=rfl
theorem Xgv:∀l,(encR l).length=l.length*9
 |[]=>rfl
 |r::l=>by simp only[encR,List.length_append,Rule.enc_len,Xgv l,List.length_cons];omega
theorem Xmb:∀a b,encR (a++b)=encR a++encR b
 |[],b=>rfl
 |r::a,b=>by simp only[List.cons_append,encR,Xmb a b,List.append_assoc]
@[simp] theorem Xgt(m:Nat):∀l:List Int,AV.finL m (l.map (.int .i64))=l.map (.int .i64)
 |[]=>by simp
 |a::r=>by simp[Xgt m r]
@[simp] theorem Xhh:∀l:List Int,AV.refsL (l.map (.int .i64))=[]
 |[]=>by simp
 |a::r=>by simp[Xhh r]
theorem Rule.enc_fin(m:Nat)(r:Rule):AV.finL m r.enc=r.enc:=by simp[Rule.enc,Xgt]
theorem Rule.enc_one(r:Rule):r.enc.all AV.one=true:=by simp[Rule.enc,AV.one]
theorem Rule.enc_refs(r:Rule):AV.refsL r.enc=[]:=by simp[Rule.enc,Xhh]
theorem Xhm(m:Nat):∀a b:List AV,AV.finL m (a++b)=AV.finL m a++AV.finL m b
 |[],b=>by simp
 |x::a,b=>by simp[Xhm m a b]
theorem Xfv(m:Nat):∀l,AV.finL m (encR l)=encR l
 |[]=>by simp[encR]
 |r::l=>by simp only[encR,Xhm,Rule.enc_fin,Xfv m l]
theorem Xk4:∀{l:List Rule} {i:Nat} {r:Rule},l[i]?=some r->rdC (some 9) (encR l) (i*9)=some (.agg r.enc)
 |[],i,r,h=>by simp at h
 |a::l,0,r,h=>by simp at h;subst h;simp[rdC,encR,Rule.enc]
 |a::l,i+1,r,h=>by have ih:=Xk4 (l:=l) (i:=i) (by simpa using h);have hl:=Rule.enc_len a;rw[show(i+1)*9=9+i*9 by omega];simp only[rdC,encR]at ih⊢;rw[<-List.drop_drop,List.drop_left' hl];simpa [hl,Xgv,Nat.add_assoc,Nat.add_comm,Nat.add_left_comm]using ih
def AccR(E:Env)(I:List (Nat×Nat))(rs:List Rule)(v:AV):Prop:=
 (rs=[]/\v=.nils)\/∃i,v=.sl (some i) rs.length (encR rs)/\E.rom<=i/\I[i]?=some (rs.length,9)
theorem AccR.one{E I rs v}(h:AccR E I rs v):v.one=true:=by rcases h with⟨-,rfl⟩|⟨j,rfl, -, -⟩<;>rfl
theorem AccR.cells{E I rs v}(h:AccR E I rs v):v.cells=[v]:=by rcases h with⟨-,rfl⟩|⟨j,rfl, -, -⟩<;>rfl
theorem AccR.push{E I rs v}(h:AccR E I rs v)(x:Nat×Nat):AccR E (I++ [x]) rs v:=by
 rcases h with h|⟨j,e,hj,hi⟩
 ·exact .inl h
 ·exact .inr ⟨j,e,hj,by rw[List.getElem?_append_left (uB hi)];exact hi⟩
theorem AccR.fin{E I rs v}(h:AccR E I rs v):v.fin 0=.sl none rs.length (encR rs):=by
 rcases h with⟨rfl,rfl⟩|⟨j,rfl,hj,hi⟩
 ·rfl
 ·simp[Xfv]
theorem AccR.app{E:Env}{I:List (Nat×Nat)}{rs:List Rule}{v:AV}(h:AccR E I rs v)(hr:E.rom<=I.length)(hl:rs.length<=100000000000)(H:List ABlk)(r:Rule)(q:Nat):
  ∃v' I',appA E ⟨H,I⟩ 9 96 v (.sl (some q) 1 r.enc)=some (v',⟨H,I'⟩)/\AccR E I' (rs++ [r]) v'/\IFr (owns v) I I'/\OwnTo I v v':=by
 have h1:r.enc.length=1*9:=rfl;have h2:=Rule.enc_one r;rcases h with⟨rfl,rfl⟩|⟨j,rfl,hj1,hj2⟩
 ·refine⟨.sl (some I.length) 1 r.enc,I++ [(1,9)],?_,.inr ⟨I.length,by simp[encR],hr,by simp⟩,⟨by simp,fun j x n e=>?_⟩,.inr ⟨_,rfl,Nat.le_refl _⟩⟩
  ·simp only[appA,srcA,h1,decide_true,h2,Bool.and_self,Xax,Xam,Rule.enc_fin];rfl
  ·rw[List.getElem?_append_left (uB e)];exact e
 ·have hb1:(rs.length+1)*96<=70368744177664:=by omega
  have hb2:rs.length+1<=70368744177664:=by omega
  refine⟨.sl (some j) (rs.length+1) (encR rs++r.enc),I.set j (rs.length+1,9),?_,.inr ⟨j,by simp[Xmb,encR],hj1,?_⟩,⟨by simp,fun q x n e=>?_⟩,.inl rfl⟩
  ·simp only[appA,srcA,h1,decide_true,h2,Bool.and_self,Xax,Xam,Rule.enc_fin,hj1,hj2,Xgv,hb1,hb2]
  ·rw[List.getElem?_set_self (uB hj2)];simp
  ·have hne:¬j=q:=fun e'=>n (by rw[e'];rfl);rw[List.getElem?_set_ne hne];exact e
def MkR(E:Env)(mb:Nat)(F B:AV)(rs:List Rule)(rv:AV)(st:St):Prop:=st.H[mb]?=some (.cells 80 [F,B,rv])/\AccR E st.I rs rv
structure MkTo(E:Env)(mb:Nat)(F B:AV)(rv:AV)(st st':St)(rs':List Rule):Prop where
 now:∃rv',MkR E mb F B rs' rv' st'/\OwnTo st.I rv rv'
 old:∀j,j<st.H.length->j≠mb->st'.H[j]?=st.H[j]?
 len:st.H.length<=st'.H.length
 ifr:IFr (owns rv) st.I st'.I
theorem MkTo.refl{E mb F B rs rv st}(h:MkR E mb F B rs rv st):MkTo E mb F B rv st st rs:=⟨⟨rv,h,.inl rfl⟩,fun _ _ _=>rfl,Nat.le_refl _,.refl _ _⟩
theorem MkTo.trans{E mb F B rs rs' rv st st' st''}(h:MkTo E mb F B rv st st' rs)(k:∀rv',MkR E mb F B rs rv' st'->MkTo E mb F B rv' st' st'' rs'):MkTo E mb F B rv st st'' rs':=by obtain⟨⟨rv',h1,h2⟩,h3,h4,h5⟩:=h;obtain⟨⟨rv'',k1,k2⟩,k3,k4,k5⟩:=k rv' h1;exact⟨⟨rv'',k1,h2.next h5.len k2⟩,fun j hj hn=>by rw[k3 j (by omega) hn];exact h3 j hj hn,Nat.le_trans h4 k4,h5.next h2 k5⟩
theorem OwnTo.push{I:List (Nat×Nat)}{x}{v v'}(h:OwnTo (I++ [x]) v v'):OwnTo I v v':=by
 rcases h with h|⟨j,e,hj⟩
 ·exact .inl h
 ·exact .inr ⟨j,e,by simp at hj;omega⟩
theorem IFr.push(o)(I:List (Nat×Nat))(x):IFr o I (I++ [x]):=⟨by simp,fun j y _ e=>by rw[List.getElem?_append_left (uB e)];exact e⟩
@[simp] theorem rd9(a b c d e f g h i:AV):rdC (some 9) [a,b,c,d,e,f,g,h,i] 0=some (.agg [a,b,c,d,e,f,g,h,i]):=rfl
def rSub(x y:Int):Rule:={kind:=3,x:=x,y:=y}
theorem f158(x y:Int)(k:Nat)(hk:1<=k):PureC k 158 [.int .i64 x,.int .i64 y] (.agg (rSub x y).enc):=by intro E st hE;obtain⟨k,rfl⟩:=uK (k:=k) (by omega);have hmw:=Xaa hE;refine Xaz rfl rfl (by decide) fun s hs e0 e1=>?_;simp[hs,e0,e1,Xag,hmw,wrC,Xap,rSub,Rule.enc,Grow.appH]
def vset(bs:List Int)(n:Int):Int:=(bs[(n.tdiv 1000).toNat]?.getD 0)+n.tmod 1000
theorem f82{E:Env}{st:St}{mb:Nat}{F rv:AV}{o:Option Nat}(bs:List Int)(n:Int)(a:Nat)(b:Int)(hm:st.H[mb]?=some (.cells 80 [F,.sl o bs.length (bs.map (.int .i64)),rv]))(ha:n.tdiv 1000=a)(hb:bs[a]?=some b)(hn:IntKind.i64.wrap (b+n.tmod 1000)=b+n.tmod 1000)(hw:IntKind.i64.wrap (a:Int)=a)
  (k:Nat) (hk:1<=k):CallQ k E 82 [.ptr mb 0,.int .i64 n] st fun r st'=>r=.ok (.int .i64 (b+n.tmod 1000))/\st'=st:=by
 obtain⟨k,rfl⟩:=uK (k:=k) (by omega);have hb1:(bs.map (AV.int IntKind.i64))[a]?=some (.int .i64 b):=by rw[List.getElem?_map,hb];rfl
 have hb2:=uV hb1;have hb3:=uB hb;have hb4:=uV hb;refine Xaz rfl rfl (by decide) fun s hs e0 e1=>?_;simp[hs,e0,e1,hm,ha,hw,hb1,hb2,hb3,hb4,hn]
theorem f51{E:Env}{st:St}{mb:Nat}{rv:AV}{o o':Option Nat}(fs:List Fn)(bs:List Int)(a:Nat)(f:Fn)(b:Int)(hm:st.H[mb]?=some (.cells 80 [.sl o' fs.length (encFs fs),.sl o bs.length (bs.map (.int .i64)),rv]))(hf:fs[a]?=some f)(hb:bs[a]?=some b)
  (h0:0<=b) (hn:b+f.vars.length<=1000000000000000000) (k:Nat) (hk:1<=k):CallQ k E 51 [.ptr mb 0,.int .i64 a] st fun r st'=>r=.ok (.tup [.int .i64 (b+f.vars.length),.int .i64 (b+f.vars.length+1),.int .i64 (b+f.vars.length+2)])/\st'=st:=by
 obtain⟨k,rfl⟩:=uK (k:=k) (by omega);have hb1:(bs.map (AV.int IntKind.i64))[a]?=some (.int .i64 b):=by rw[List.getElem?_map,hb];rfl
 have hb2:=uV hb1;have hb3:=uB hb;have hb4:=uV hb;have hv:(encFs fs)[a*5+3]?=some (.sl none f.vars.length (f.vars.map .str)):=Xb2 hf 3 (by omega);have hv2:=uV hv;have ha:=uB hf;have hv3:a*5+3<fs.length*5:=by omega
 have w1:=Xah (n:=b+f.vars.length) (by omega);have w2:=Xah (n:=b+f.vars.length+1) (by omega);have w3:=Xah (n:=b+f.vars.length+2) (by omega);refine Xaz rfl rfl (by decide) fun s hs e0 e1=>?_;simp[Nat.testBit,hs,e0,e1,hm,hb1,hb2,hb3,hb4,ha,hv,hv2,hv3,w1];simp[hs,w1,w2,w3]
def Rule.at(f:Int)(r:Rule):Rule:={r with f:=f}
theorem f117{E:Env}{st:St}{mb:Nat}{F B rv:AV}{rs:List Rule}(l:List Rule)(o:Option Nat)(f:Int)(hE:E.Wf st)(hm:MkR E mb F B rs rv st)(hb:E.base<=mb)(hr:E.rob<=mb)(hl:rs.length+l.length<=100000000000)(k:Nat)(hk:l.length+3<=k):
    CallQ k E 117 [.ptr mb 0,.int .i64 f,.sl o l.length (encR l)] st fun r st'=>r=.ok (.tup [])/\MkTo E mb F B rv st st' (rs++l.map (Rule.at f)):=by
  obtain⟨k,rfl⟩:=uK (k:=k) (by omega);have hmw1:∀x y,Xaf E mb x y=true:=fun x y=>by simp[Xaf,hb,hr]
  refine Xa8 rfl rfl (by decide) fun s hs e0 e1 e2=>?_;have hll:(encR l).length=l.length*9:=Xgv l;simp[hs,e0,e1,e2]
  refine Xau (fun n s m st'=> ∃(j:Nat),j<=l.length/\n=l.length - j/\s.length=27/\m=[]/\lk s 0=.ptr mb 0/\lk s 1=.int .i64 f/\lk s 8=.sl o l.length (encR l)/\lk s 9=.int .i64 l.length/\lk s 10=.int .i64 j/\
      MkTo E mb F B rv st st' (rs++(l.take j).map (Rule.at f))) l.length (by omega)
      ⟨0,by omega,by omega,by simp[hs],rfl,by simp[hs,e0],by simp[hs,e1],by simp[hs],by simp[hs],by simp[hs],by simpa using MkTo.refl hm⟩ ?_
  clear hs e0 e1 e2 s;rintro _ s m st' ⟨j,hj,rfl,hs,rfl,e0,e1,e8,e9,e10,hto⟩;by_cases hc:j<l.length
  ·obtain⟨r,hg⟩:∃r,l[j]?=some r:=⟨_,List.getElem?_eq_getElem hc⟩;have hrd:=Xk4 hg;have hwj:=Xah (n:=(j:Int)+1) (by omega);have hE':E.Wf st':=hE.of (H:=st'.H) (I:=st'.I) hto.len hto.ifr.len;have hmw2:=Xaa hE';have hto':=hto;obtain⟨⟨rv',⟨h1,h2⟩,h3⟩,h4,h5,h6⟩:=hto;have hml:=uB h1;have q1:∀y,(st'.H++y)[mb]?=some (.cells 80 [F,B,rv']):=fun y=>Xae h1;have q2:∀y:List ABlk,(st'.H++y)[st'.H.length]?=y[0]?:=fun y=>by simp
   obtain⟨v',I',happ,hac,hIf,hOw⟩:=(h2.push (1,9)).app (by have:=hE'.rom;simp;omega) (by simp;omega) (st'.H++ [.cells 55 (r.at f).enc]) (r.at f) st'.I.length;have hvo:=hac.one;have hvc:=hac.cells;have hnew:rs++(l.take j).map (Rule.at f)++ [r.at f]=rs++(l.take (j+1)).map (Rule.at f):=by rw[List.take_add_one,hg];simp
   rw[hnew]at hac;simp only[Rule.enc,Rule.at,List.append_assoc]at happ hrd;simp[hs,e0,e1,e8,e9,e10,hc,hrd,Xag,hmw2,wrC];simp[Nat.testBit,hs,e0,q1,Xap,wrC,happ,Xag,hmw1,hvo,hvc];simp[hs,e10,hwj];refine⟨_,by omega,j+1,by omega,rfl,by simp[hs],rfl,by simp[hs,e0],by simp[hs,e1],by simp[hs,e8],by simp[hs,e9],by simp[hs],⟨v',⟨?_,hac⟩,h3.next h6.len hOw.push⟩,fun q hq hn=>?_,by simp;omega,h6.next h3 ((IFr.push _ _ _).trans hIf)⟩
   ·exact List.getElem?_set_self (by simp;omega)
   ·show(List.set _ _ _)[_]?=_;rw[List.getElem?_set_ne (Ne.symm hn),List.getElem?_append_left (by omega)];exact h4 q hq hn
  ·have hjl:l.take j=l:=List.take_of_length_le (by omega);rw[hjl]at hto;simp[hs,e9,e10,hc];exact hto
theorem f80(t:T)(k0:Int)(k:Nat)(hk:1<=k)(E:Env)(st:St):CallQ k E 80 [.agg t.enc,.int .i64 k0] st fun r st'=>r=.ok (.fn 118 [] [.ptr (st.H.length+1) 0,.ptr st.H.length 0])/\st'=⟨st.H++ [ABlk.cells 24 t.enc,ABlk.cells 3 [.int .i64 k0]],st.I⟩:=by obtain⟨k,rfl⟩:=uK (k:=k) (by omega);obtain⟨op,s0,nn,l,x⟩:=t;refine Xaz rfl rfl (by decide) fun s hs e0 e1=>?_;simp[hs,e0,e1]
def pos(k0:Int)(ts:List T)(i:Nat):Int:=k0+1+(T.countL (ts.take i):Nat)
def YOKP(E:Env)(l B K:Nat)(ts:List T)(k0:Int)(Inv:Nat->St->Prop):Prop:=∀k,K<=k->∀(i:Nat) (st:St) (t:T),ts[i]?=some t->Inv i st->E.Wf st->B<=st.H.length->
 Xnw k E l [.int .i64 (pos k0 ts i),.agg t.enc] st fun r st'=>r=.ok (.bool true)/\Inv (i+1) st'/\st.H.length<=st'.H.length/\st.I.length<=st'.I.length/\∀j x,B<=j->st.H[j]?=some x->st'.H[j]?=some x
theorem Xbt{l:List T}{i:Nat}{t:T}(h:l[i]?=some t):T.countL (l.take (i+1))=T.countL (l.take i)+t.count:=by
 induction l generalizing i with
 |nil=>simp at h
 |cons a r ih=>
  rcases i with _|i
  ·simp at h;subst h;simp[T.countL]
  ·simp only[List.take_succ_cons,T.countL,ih (by simpa using h)];omega
theorem Xc1(l:List T)(i:Nat):T.countL (l.take i)<=T.countL l:=by
 induction l generalizing i with
 |nil=>simp[T.countL]
 |cons a r ih=>
  rcases i with _|i
  ·simp[T.countL]
  ·have:=ih i;simp only[List.take_succ_cons,T.countL];omega
theorem f118(t:T)(hw:t.wt<=10000000000)(k0:Int)(h0:0<=k0)(h1:k0<=100000000000){E:Env}{l B K:Nat}{Inv:Nat->St->Prop}(hI:InvOkN B Inv)(hy:YOKP E l B K t.l k0 Inv)(hl:l<B){st:St}{b1 b2:Nat}(hinv:Inv 0 st)(hE:E.Wf st)(hB:B<=st.H.length)
    (hIb:∀i st,Inv i st->st.H[b1]?=some (.cells 3 [.int .i64 k0])/\st.H[b2]?=some (.cells 24 t.enc)) (k:Nat) (hk:K+5<=k) (hk4:4*t.wt+40<=k):
    CallQ k E 118 [.yld l,.ptr b1 0,.ptr b2 0] st fun r st'=>r=.ok (.tup [])/\Inv t.l.length st'/\st.H.length<=st'.H.length/\st.I.length<=st'.I.length/\∀j x,B<=j->st.H[j]?=some x->st'.H[j]?=some x:=by
  obtain⟨k,rfl⟩:=uK (k:=k) (by omega);obtain⟨q1,q2⟩:=hIb _ _ hinv;obtain⟨op,s0,nn,ls,line⟩:=t;have hcw:=Xb3 (.mk op s0 nn ls line);simp only[T.count,T.wt]at hcw;simp only[T.wt]at hw hk4;have hcl:=T.len_le ls;have hw1:=Xah (n:=k0+1) (by omega);simp only[T.enc]at q2 hIb;simp only[T.l_mk]at hy⊢;refine Xa8 rfl rfl (by decide) fun s hs e0 e1 e2=>?_;simp[hs,e0,e1,e2,q1,q2,hw1]
  refine Xau (fun n s m st'=> ∃(j:Nat),j<=ls.length/\n=ls.length - j/\s.length=26/\m=[]/\lk s 0=.yld l/\lk s 4=.int .i64 (pos k0 ls j)/\lk s 10=.sl none ls.length (T.encL ls)/\lk s 11=.int .i64 ls.length/\lk s 12=.int .i64 j/\
      Inv j st'/\st.H.length<=st'.H.length/\st.I.length<=st'.I.length/\∀j x,B<=j->st.H[j]?=some x->st'.H[j]?=some x) ls.length (by omega)
      ⟨0,by omega,by omega,by simp[hs],rfl,by simp[hs,e0],by simp[hs,pos,T.countL],by simp[hs],by simp[hs],by simp[hs],hinv,Nat.le_refl _,Nat.le_refl _,fun _ _ _ e=>e⟩ ?_
  clear hs e0 e1 e2 s;rintro _ s m st' ⟨j,hj,rfl,hs,rfl,e0,e4,e10,e11,e12,hiv,hHl,hIl,hkeep⟩;by_cases hc:j<ls.length
  ·obtain⟨t,hg⟩:∃t,ls[j]?=some t:=⟨_,List.getElem?_eq_getElem hc⟩;have hrd:=T.rd hg;have hwj:=Xah (n:=(j:Int)+1) (by omega);have hwt:=Xcm hg;have hE':E.Wf st':=hE.of (H:=st'.H) (I:=st'.I) hHl hIl;have hmw2:=Xaa hE';have hct:=Xbt hg;have hc2:=Xc1 ls (j+1);have hps:pos k0 ls j+t.count=pos k0 ls (j+1):=by simp only[pos,hct];omega
   have hwp:IntKind.i64.wrap (pos k0 ls j+t.count)=pos k0 ls (j+1):=by rw[hps];exact Xah (by simp only[pos];omega)
   have cy:=hy k (by omega) j ⟨st'.H++ [.cells 24 t.enc],st'.I⟩ t hg (hI.dep _ st' _ hiv (fun q hq=>List.getElem?_append_left (by omega)) rfl) (hE'.of (by simp) (by simp)) (by simp;omega);have c50:=fun st3 (h:E.Wf st3)=>(f50 t (by omega) k (by omega)).full (E:=E) (st:=st3) rfl h;rw[T.enc_eq]at hrd cy c50;simp[hs,e0,e4,e10,e11,e12,hc,hrd,Xag,hmw2,wrC];refine Xac cy fun p hp=>?_;obtain⟨r,st2⟩:=p;obtain⟨r1,r2,r3,r4,r5⟩:=hp;simp only[List.length_append,List.length_cons,List.length_nil,Nat.zero_add]at r1 r2 r3 r4 r5;subst r1;have h6:st2.H[st'.H.length]?=some (.cells 24 [.int .i64 t.op,.str t.s,.int .i64 t.n,.sl none t.l.length (T.encL t.l),.int .i64 t.line]):=r5 _ _ (by omega) (by simp);have hE2:E.Wf st2:=hE'.of (H:=st2.H) (I:=st2.I) (by omega) r4;simp[hs,e4,h6,c50 st2 hE2,hwp];simp[hs,e12,hwj];exact⟨_,by omega,j+1,by omega,rfl,by simp[hs],rfl,by simp[hs,e0],by simp[hs],by simp[hs,e10],by simp[hs,e11],by simp[hs],r2,by omega,by omega,fun q x hq e=>r5 q x hq (Xae (hkeep q x hq e))⟩
  ·have:j=ls.length:=by omega
   subst this;simp[hs,e11,e12];exact⟨hiv,hHl,hIl,hkeep⟩
theorem Xdm{k:Nat}{E:Env}{f:Nat}{args:List AV}{st:St}{a:Rt AV}{b:St}(h:CallQ k E f args st fun r st'=>r=a/\st'=b):aCall prog k E (.fn f) args st=some (a,b):=by obtain⟨⟨r,st'⟩,e,e1,e2⟩:=h;simp only at e1 e2;rw[e,e1,e2]
theorem MkR.pre{E mb F B rs rv st st1}(h:MkR E mb F B rs rv st)(ho:∀j,j<st.H.length->st1.H[j]?=st.H[j]?)(hi:st.I<+:st1.I):MkR E mb F B rs rv st1:=by
 obtain⟨h1,h2⟩:=h;refine⟨by rw[ho _ (uB h1)];exact h1,?_⟩;obtain⟨y,hy⟩:=hi;rw[<-hy];rcases h2 with h2|⟨j,e,hj,hi⟩
 ·exact .inl h2
 ·exact .inr ⟨j,e,hj,by rw[List.getElem?_append_left (uB hi)];exact hi⟩
theorem MkTo.pre{E mb F B rv st st1 st' rs'}(h:MkTo E mb F B rv st1 st' rs')(ho:∀j,j<st.H.length->st1.H[j]?=st.H[j]?)(hl:st.H.length<=st1.H.length)(hi:st.I<+:st1.I):MkTo E mb F B rv st st' rs':=by
 obtain⟨⟨rv',h1,h2⟩,h3,h4,h5⟩:=h;have hil:=hi.length_le;obtain⟨y,hy⟩:=hi;refine⟨⟨rv',h1,?_⟩,fun j hj hn=>by rw[h3 j (by omega) hn];exact ho j hj,by omega,by have:=h5.len;omega,fun j x n e=>h5.get j x n ?_⟩
 ·rcases h2 with h2|⟨j,e,hj⟩
  ·exact .inl h2
  ·exact .inr ⟨j,e,by omega⟩
 ·rw[<-hy,List.getElem?_append_left (uB e)];exact e
structure MkS(E:Env)(mb:Nat)(fs:List Fn)(bs:List Int)(o o':Option Nat)(rs:List Rule)(rv:AV)(st:St):Prop where
 wf:E.Wf st
 base:E.base<=mb
 rob:E.rob<=mb
 now:MkR E mb (.sl o' fs.length (encFs fs)) (.sl o bs.length (bs.map (.int .i64))) rs rv st
 len:rs.length<=20000000000
theorem MkS.add{E mb fs bs o o' rs rv st}(h:MkS E mb fs bs o o' rs rv st){X:List ABlk}{Y:List (Nat×Nat)}(l:List Rule)(q:Option Nat)(f:Int)(hl:l.length<=10000000000)(k:Nat)(hk:l.length+3<=k):
  CallQ k E 117 [.ptr mb 0,.int .i64 f,.sl q l.length (encR l)] ⟨st.H++X,st.I++Y⟩ fun r st'=>r=.ok (.tup [])/\MkTo E mb (.sl o' fs.length (encFs fs)) (.sl o bs.length (bs.map (.int .i64))) rv st st' (rs++l.map (Rule.at f)):=by
 have ho:∀j,j<st.H.length->(⟨st.H++X,st.I++Y⟩:St).H[j]?=st.H[j]?:=fun j hj=>List.getElem?_append_left hj;refine(f117 l q f (h.wf.of (by simp) (by simp)) (h.now.pre (st1:=⟨st.H++X,st.I++Y⟩) ho (List.prefix_append _ _)) h.base h.rob (by have:=h.len;omega) k hk).mono fun r st' hp=>⟨hp.1,hp.2.pre ho (by simp) (List.prefix_append _ _)⟩
theorem f119{E mb fs bs o o' rs rv st}(h:MkS E mb fs bs o o' rs rv st)(t:T)(k0 f to:Int)(pv:AV)(a:Nat)(b:Int)(ha:t.n.tdiv 1000=a)(hb:bs[a]?=some b)(hn:IntKind.i64.wrap (b+t.n.tmod 1000)=b+t.n.tmod 1000)(hw:IntKind.i64.wrap (a:Int)=a)(k:Nat)(hk:10<=k):
  CallQ k E 119 [.ptr mb 0,.agg t.enc,.agg [.int .i64 k0,.int .i64 f,.int .i64 to],pv] st fun r st'=>r=.ok (.tup [])/\MkTo E mb (.sl o' fs.length (encFs fs)) (.sl o bs.length (bs.map (.int .i64))) rv st st' (rs++ [(rSub (b+t.n.tmod 1000) k0).at f]):=by
 obtain⟨k,rfl⟩:=uK (k:=k) (by omega);obtain⟨op,s0,nn,l,line⟩:=t;simp only[T.n_mk]at ha hn⊢;have hm:=h.now.1;have hE1:∀X,E.Wf ⟨st.H++X,st.I⟩:=fun X=>h.wf.of (by simp) (by simp);have c82:=fun(X:List ABlk)=>Xdm (f82 (E:=E) (st:=⟨st.H++X,st.I⟩) bs nn a b (Xae hm) ha hb hn hw k (by omega));have c158:=fun st3 (h3:E.Wf st3)=>(f158 (b+nn.tmod 1000) k0 k (by omega)).full (E:=E) (st:=st3) (by simp[Rule.enc,rSub]) h3;have c117:=fun X Y q=>h.add (X:=X) (Y:=Y) [rSub (b+nn.tmod 1000) k0] q f (by simp) k (by simp;omega);simp only[encR,rSub,Rule.enc,List.append_nil]at c158 c117;refine Xa4 rfl rfl (by decide) fun s hs e0 e1 e2 e3=>?_;simp[hs,e0,e1,e2];simp[Nat.testBit,hs,e0,c82,c158 _ (hE1 _),Xap,wrC];refine Xac (c117 _ _ _) fun p hp=>?_;obtain⟨r,st2⟩:=p;obtain⟨r1,r2⟩:=hp;simp only at r1;subst r1;simp[hs,Nat.testBit];exact r2
theorem MkS.next{E mb fs bs o o' rs rv st st' rs'}(h:MkS E mb fs bs o o' rs rv st)(k:MkTo E mb (.sl o' fs.length (encFs fs)) (.sl o bs.length (bs.map (.int .i64))) rv st st' rs')(hl:rs'.length<=20000000000):∃rv',MkS E mb fs bs o o' rs' rv' st':=by obtain⟨⟨rv',h1,h2⟩,h3,h4,h5⟩:=k;exact⟨rv',h.wf.of (H:=st'.H) (I:=st'.I) h4 h5.len,h.base,h.rob,h1,hl⟩
theorem MkS.more{E mb fs bs o o' rs rv st}(h:MkS E mb fs bs o o' rs rv st)(X:List ABlk):MkS E mb fs bs o o' rs rv ⟨st.H++X,st.I⟩:=
 ⟨h.wf.of (by simp) (by simp),h.base,h.rob,h.now.pre (fun j hj=>List.getElem?_append_left hj) List.prefix_rfl,h.len⟩
theorem MkTo.andThen{E mb F B rv rv2 st st' st'' rs rs'}(h:MkTo E mb F B rv st st' rs)(hm:MkR E mb F B rs rv2 st')(k:MkTo E mb F B rv2 st' st'' rs'):MkTo E mb F B rv st st'' rs':=
 h.trans fun rv' h1=>by
  have e:rv'=rv2:=by have:=h1.1.symm.trans hm.1;simpa using this
  rw[e];exact k
structure BehA(fs:List Fn)(bs:List Int)(f:Nat)(v:Int):Prop where
 ex:∃(g:Fn) (b:Int),fs[f]?=some g/\bs[f]?=some b/\0<=b/\b+g.vars.length<=1000000000000000/\v=b+g.vars.length
theorem MkS.beh{E mb fs bs o o' rs rv st}(h:MkS E mb fs bs o o' rs rv st){f:Nat}{v:Int}(hb:BehA fs bs f v)(X:List ABlk)(k:Nat)(hk:1<=k):
  aCall prog k E (.fn 51) [.ptr mb 0,.int .i64 f] ⟨st.H++X,st.I⟩=some (.ok (.tup [.int .i64 v,.int .i64 (v+1),.int .i64 (v+2)]),⟨st.H++X,st.I⟩):=by
 obtain⟨g,b,h1,h2,h3,h4,rfl⟩:=hb.ex;exact Xdm (f51 fs bs f g b (Xae h.now.1) h1 h2 h3 (by omega) k hk)
theorem MkTo.more{E mb F B rs rv st}(h:MkR E mb F B rs rv st)(X:List ABlk):MkTo E mb F B rv st ⟨st.H++X,st.I⟩ rs:=
 ⟨⟨rv,h.pre (fun j hj=>List.getElem?_append_left hj) List.prefix_rfl,.inl rfl⟩,fun j hj _=>List.getElem?_append_left hj,by simp,.refl _ _⟩
structure VarA(bs:List Int)(n v:Int):Prop where
 ex:∃(a:Nat) (b:Int),n.tdiv 1000=a/\bs[a]?=some b/\IntKind.i64.wrap (b+n.tmod 1000)=b+n.tmod 1000/\IntKind.i64.wrap (a:Int)=a/\v=b+n.tmod 1000
theorem MkS.var{E mb fs bs o o' rs rv st}(h:MkS E mb fs bs o o' rs rv st){n v:Int}(hb:VarA bs n v)(X:List ABlk)(k:Nat)(hk:1<=k):
  aCall prog k E (.fn 82) [.ptr mb 0,.int .i64 n] ⟨st.H++X,st.I⟩=some (.ok (.int .i64 v),⟨st.H++X,st.I⟩):=by
 obtain⟨a,b,h1,h2,h3,h4,rfl⟩:=hb.ex;exact Xdm (f82 bs n a b (Xae h.now.1) h1 h2 h3 h4 k hk)
theorem f120{E mb fs bs o o' rs rv st}(h:MkS E mb fs bs o o' rs rv st)(t:T)(k0 to:Int)(f:Nat)(pv:AV)(v:Int)(hv:BehA fs bs f v)(k:Nat)(hk:20<=k):
  CallQ k E 120 [.ptr mb 0,.agg t.enc,.agg [.int .i64 k0,.int .i64 f,.int .i64 to],pv] st fun r st'=>r=.ok (.tup [])/\MkTo E mb (.sl o' fs.length (encFs fs)) (.sl o bs.length (bs.map (.int .i64))) rv st st' (rs++ [(rSub v k0).at f]):=by
 obtain⟨k,rfl⟩:=uK (k:=k) (by omega);have hm:=h.now.1;have hE1:∀X,E.Wf ⟨st.H++X,st.I⟩:=fun X=>h.wf.of (by simp) (by simp);have hmw:=Xaa h.wf;have hmw1:∀j x y,Xaf E (st.H.length+j) x y=true:=fun j x y=>hmw _ _ _ (by omega);obtain⟨op,s0,nn,l,line⟩:=t;have c51:=fun X=>h.beh hv X k (by omega);have c158:=fun st3 (h3:E.Wf st3)=>(f158 (v) (k0) k (by omega)).full (E:=E) (st:=st3) (by simp[Rule.enc,rSub]) h3;have c117:=fun X Y q=>h.add (X:=X) (Y:=Y) [rSub v k0] q f (by simp) k (by simp;omega);simp only[encR,rSub,Rule.enc,List.append_nil]at c158 c117;refine Xa4 rfl rfl (by decide) fun s hs e0 e1 e2 e3=>?_;simp[hs,e0,e1,e2,c51];simp[Nat.testBit,hs,e0,c158 _ (hE1 _),Xap,wrC];refine Xac (c117 _ _ _) fun p hp=>?_;obtain⟨r,st2⟩:=p;obtain⟨r1,r2⟩:=hp;simp only at r1;subst r1;simp[hs,Nat.testBit];exact r2
theorem Jeq{E mb fs bs o o' rs rv st}(h:MkS E mb fs bs o o' rs rv st)(s0:ByteArray)(nn line:Int)(l:List T)(k0 to f:Int)(q:Option Nat)(p0:Int)(k:Nat)(hk:20<=k):
  CallQ k E 122 [.ptr mb 0,.agg (T.mk 13 s0 nn l line).enc,.agg [.int .i64 k0,.int .i64 f,.int .i64 to],.sl q 1 [.int .i64 p0]] st fun r st'=>r=.ok (.tup [])/\MkTo E mb (.sl o' fs.length (encFs fs)) (.sl o bs.length (bs.map (.int .i64))) rv st st' (rs++ [Rule.at f {kind:=4,x:=p0,y:=k0,s:=s0}]):=by
 obtain⟨k,rfl⟩:=uK (k:=k) (by omega);have hm:=h.now.1;have hE1:∀X,E.Wf ⟨st.H++X,st.I⟩:=fun X=>h.wf.of (by simp) (by simp);have hmw:=Xaa h.wf;have hmw1:∀j x y,Xaf E (st.H.length+j) x y=true:=fun j x y=>hmw _ _ _ (by omega);have c117:=fun X Y q=>h.add (X:=X) (Y:=Y) [{kind:=4,x:=p0,y:=k0,s:=s0}] q f (by simp) k (by simp;omega);simp only[encR,Rule.enc,List.append_nil]at c117;refine Xa4 rfl rfl (by decide) fun s hs e0 e1 e2 e3=>?_;simp[hs,e0,e1,e2];simp[Nat.testBit,hs,e0,e3,Xap,wrC,Xag,hmw,hmw1];refine Xac (c117 _ _ _) fun p hp=>?_;obtain⟨r,st2⟩:=p;obtain⟨r1,r2⟩:=hp;simp only at r1;subst r1;simp[hs,Nat.testBit];exact r2
theorem Jep{E mb fs bs o o' rs rv st}(h:MkS E mb fs bs o o' rs rv st)(s0:ByteArray)(nn line:Int)(l:List T)(k0 to f:Int)(q:Option Nat)(p0 p1:Int)(k:Nat)(hk:20<=k):
  CallQ k E 122 [.ptr mb 0,.agg (T.mk 14 s0 nn l line).enc,.agg [.int .i64 k0,.int .i64 f,.int .i64 to],.sl q 2 [.int .i64 p0,.int .i64 p1]] st fun r st'=>r=.ok (.tup [])/\MkTo E mb (.sl o' fs.length (encFs fs)) (.sl o bs.length (bs.map (.int .i64))) rv st st' (rs++ [Rule.at f {kind:=5,x:=p0,y:=k0}]):=by
 obtain⟨k,rfl⟩:=uK (k:=k) (by omega);have hm:=h.now.1;have hE1:∀X,E.Wf ⟨st.H++X,st.I⟩:=fun X=>h.wf.of (by simp) (by simp);have hmw:=Xaa h.wf;have hmw1:∀j x y,Xaf E (st.H.length+j) x y=true:=fun j x y=>hmw _ _ _ (by omega);have c117:=fun X Y q=>h.add (X:=X) (Y:=Y) [{kind:=5,x:=p0,y:=k0}] q f (by simp) k (by simp;omega);simp only[encR,Rule.enc,List.append_nil]at c117;refine Xa4 rfl rfl (by decide) fun s hs e0 e1 e2 e3=>?_;simp[hs,e0,e1,e2];simp[Nat.testBit,hs,e0,e3,Xap,wrC,Xag,hmw,hmw1];refine Xac (c117 _ _ _) fun p hp=>?_;obtain⟨r,st2⟩:=p;obtain⟨r1,r2⟩:=hp;simp only at r1;subst r1;simp[hs,Nat.testBit];exact r2
theorem Jel{E mb fs bs o o' rs rv st}(h:MkS E mb fs bs o o' rs rv st)(s0:ByteArray)(nn line:Int)(l:List T)(k0 to f:Int)(q:Option Nat)(p0 p1:Int)(k:Nat)(hk:20<=k):
  CallQ k E 124 [.ptr mb 0,.agg (T.mk 21 s0 nn l line).enc,.agg [.int .i64 k0,.int .i64 f,.int .i64 to],.sl q 2 [.int .i64 p0,.int .i64 p1]] st fun r st'=>r=.ok (.tup [])/\MkTo E mb (.sl o' fs.length (encFs fs)) (.sl o bs.length (bs.map (.int .i64))) rv st st' (rs++ [(rSub p1 k0).at f]):=by
 obtain⟨k,rfl⟩:=uK (k:=k) (by omega);have hm:=h.now.1;have hE1:∀X,E.Wf ⟨st.H++X,st.I⟩:=fun X=>h.wf.of (by simp) (by simp);have hmw:=Xaa h.wf;have hmw1:∀j x y,Xaf E (st.H.length+j) x y=true:=fun j x y=>hmw _ _ _ (by omega);have c158:=fun st3 (h3:E.Wf st3)=>(f158 (p1) (k0) k (by omega)).full (E:=E) (st:=st3) (by simp[Rule.enc,rSub]) h3;have c117:=fun X Y q=>h.add (X:=X) (Y:=Y) [rSub p1 k0] q f (by simp) k (by simp;omega);simp only[encR,rSub,Rule.enc,List.append_nil]at c158 c117;refine Xa4 rfl rfl (by decide) fun s hs e0 e1 e2 e3=>?_;simp[hs,e0,e1,e2,Xa1];simp[Nat.testBit,hs,e0,e3,c158 _ (hE1 _),Xap,wrC];refine Xac (c117 _ _ _) fun p hp=>?_;obtain⟨r,st2⟩:=p;obtain⟨r1,r2⟩:=hp;simp only at r1;subst r1;simp[hs,Nat.testBit,Xa1];exact r2
theorem Jek{E mb fs bs o o' rs rv st}(h:MkS E mb fs bs o o' rs rv st)(hl:rs.length<=10000000000)(s0:ByteArray)(nn line:Int)(l:List T)(k0 to f:Int)(q:Option Nat)(p0 p1:Int)(k:Nat)(hk:20<=k):
  CallQ k E 124 [.ptr mb 0,.agg (T.mk 22 s0 nn l line).enc,.agg [.int .i64 k0,.int .i64 f,.int .i64 to],.sl q 2 [.int .i64 p0,.int .i64 p1]] st fun r st'=>r=.ok (.tup [])/\MkTo E mb (.sl o' fs.length (encFs fs)) (.sl o bs.length (bs.map (.int .i64))) rv st st' (rs++ [(rSub p0 k0).at f,(rSub p1 k0).at f]):=by
 obtain⟨k,rfl⟩:=uK (k:=k) (by omega);have hm:=h.now.1;have hE1:∀X,E.Wf ⟨st.H++X,st.I⟩:=fun X=>h.wf.of (by simp) (by simp);have hmw:=Xaa h.wf;have hmw1:∀j x y,Xaf E (st.H.length+j) x y=true:=fun j x y=>hmw _ _ _ (by omega);have c158a:=fun st3 (h3:E.Wf st3)=>(f158 (p0) (k0) k (by omega)).full (E:=E) (st:=st3) (by simp[Rule.enc,rSub]) h3;have c158b:=fun st3 (h3:E.Wf st3)=>(f158 (p1) (k0) k (by omega)).full (E:=E) (st:=st3) (by simp[Rule.enc,rSub]) h3;have h1:=h.more [.cells 24 [.int .i64 22,.str s0,.int .i64 nn,.sl none l.length (T.encL l),.int .i64 line],.cells 87 [.int .i64 k0,.int .i64 f,.int .i64 to]];have c117:=fun Y q=>h1.add (X:=[]) (Y:=Y) [rSub p0 k0] q f (by simp) k (by simp;omega);simp only[encR,rSub,Rule.enc,List.append_nil]at c158a c158b c117;refine Xa4 rfl rfl (by decide) fun s hs e0 e1 e2 e3=>?_;simp[hs,e0,e1,e2,Xa1];simp[Nat.testBit,hs,e0,e3,c158a _ (hE1 _),Xap,wrC];refine Xac (c117 _ _) fun p hp=>?_;obtain⟨r,st2⟩:=p;obtain⟨r1,r2⟩:=hp;simp only at r1;subst r1;have hml:=uB hm;have g5:st2.H[st.H.length]?=some (.cells 24 [.int .i64 22,.str s0,.int .i64 nn,.sl none l.length (T.encL l),.int .i64 line]):=by rw[r2.old _ (by simp) (by omega)];simp
 have g6:st2.H[st.H.length+1]?=some (.cells 87 [.int .i64 k0,.int .i64 f,.int .i64 to]):=by rw[r2.old _ (by simp) (by omega)];simp
 obtain⟨rv2,h2⟩:=h1.next r2 (by simp;omega);have c117':=fun Y q=>h2.add (X:=[]) (Y:=Y) [rSub p1 k0] q f (by simp) k (by simp;omega);simp only[encR,rSub,Rule.enc,List.append_nil]at c117';have c158':=c158b st2 h2.wf;simp[hs,Nat.testBit,Xa1,e0,e3,g5,g6,c158',Xap,wrC];refine Xac (c117' _ _) fun p hp=>?_;obtain⟨r,st3⟩:=p;obtain⟨q1,q2⟩:=hp;simp only at q1;subst q1;simp[hs,Nat.testBit,Xa1];have q3:=(r2.pre (fun j hj=>List.getElem?_append_left hj) (by simp) List.prefix_rfl).andThen h2.now q2;simpa [rSub]using q3
theorem Jej{E mb fs bs o o' rs rv st}(h:MkS E mb fs bs o o' rs rv st)(s0:ByteArray)(nn line:Int)(l:List T)(k0 to f:Int)(q:Option Nat)(p0 p1 p2:Int)(k:Nat)(hk:20<=k):
  CallQ k E 124 [.ptr mb 0,.agg (T.mk 23 s0 nn l line).enc,.agg [.int .i64 k0,.int .i64 f,.int .i64 to],.sl q 3 [.int .i64 p0,.int .i64 p1,.int .i64 p2]] st fun r st'=>r=.ok (.tup [])/\MkTo E mb (.sl o' fs.length (encFs fs)) (.sl o bs.length (bs.map (.int .i64))) rv st st' (rs++ [(rSub p1 k0).at f,(rSub p2 k0).at f]):=by
 obtain⟨k,rfl⟩:=uK (k:=k) (by omega);have hm:=h.now.1;have hE1:∀X,E.Wf ⟨st.H++X,st.I⟩:=fun X=>h.wf.of (by simp) (by simp);have hmw:=Xaa h.wf;have hmw1:∀j x y,Xaf E (st.H.length+j) x y=true:=fun j x y=>hmw _ _ _ (by omega);have c158a:=fun st3 (h3:E.Wf st3)=>(f158 (p1) (k0) k (by omega)).full (E:=E) (st:=st3) (by simp[Rule.enc,rSub]) h3;have c158b:=fun st3 (h3:E.Wf st3)=>(f158 (p2) (k0) k (by omega)).full (E:=E) (st:=st3) (by simp[Rule.enc,rSub]) h3;have c117:=fun X Y q=>h.add (X:=X) (Y:=Y) [rSub p1 k0,rSub p2 k0] q f (by simp) k (by simp;omega);simp only[encR,rSub,Rule.enc,List.append_nil,List.cons_append,List.nil_append]at c158a c158b c117;refine Xa4 rfl rfl (by decide) fun s hs e0 e1 e2 e3=>?_;simp[hs,e0,e1,e2,Xa1];simp[Nat.testBit,hs,e0,e3,c158a _ (hE1 _),c158b _ (hE1 _),Xap,wrC];refine Xac (c117 _ _ _) fun p hp=>?_;obtain⟨r,st2⟩:=p;obtain⟨r1,r2⟩:=hp;simp only at r1;subst r1;simp[hs,Nat.testBit,Xa1];exact r2
theorem Jee{E mb fs bs o o' rs rv st}(h:MkS E mb fs bs o o' rs rv st)(t:T)(k0 to f:Int)(pv:AV)(hpv:pv=.nils)(k:Nat)(hk:20<=k):
  CallQ k E 126 [.ptr mb 0,.agg t.enc,.agg [.int .i64 k0,.int .i64 f,.int .i64 to],pv] st fun r st'=>r=.ok (.tup [])/\MkTo E mb (.sl o' fs.length (encFs fs)) (.sl o bs.length (bs.map (.int .i64))) rv st st' (rs++ []):=by
 obtain⟨k,rfl⟩:=uK (k:=k) (by omega);have hm:=h.now.1;have hE1:∀X,E.Wf ⟨st.H++X,st.I⟩:=fun X=>h.wf.of (by simp) (by simp);have hmw:=Xaa h.wf;have hmw1:∀j x y,Xaf E (st.H.length+j) x y=true:=fun j x y=>hmw _ _ _ (by omega);obtain⟨op,s0,nn,l,line⟩:=t;subst hpv;refine Xa4 rfl rfl (by decide) fun s hs e0 e1 e2 e3=>?_;simp[hs,e0,e1,e2,e3];exact MkTo.more h.now _
theorem Jed{E mb fs bs o o' rs rv st}(h:MkS E mb fs bs o o' rs rv st)(t:T)(k0 to f:Int)(q:Option Nat)(p0 v:Int)(hv:VarA bs t.n v)(k:Nat)(hk:20<=k):
  CallQ k E 126 [.ptr mb 0,.agg t.enc,.agg [.int .i64 k0,.int .i64 f,.int .i64 to],.sl q 1 [.int .i64 p0]] st fun r st'=>r=.ok (.tup [])/\MkTo E mb (.sl o' fs.length (encFs fs)) (.sl o bs.length (bs.map (.int .i64))) rv st st' (rs++ [(rSub p0 v).at f]):=by
 obtain⟨k,rfl⟩:=uK (k:=k) (by omega);have hm:=h.now.1;have hE1:∀X,E.Wf ⟨st.H++X,st.I⟩:=fun X=>h.wf.of (by simp) (by simp);have hmw:=Xaa h.wf;have hmw1:∀j x y,Xaf E (st.H.length+j) x y=true:=fun j x y=>hmw _ _ _ (by omega);obtain⟨op,s0,nn,l,line⟩:=t;simp only[T.n_mk]at hv;have c82:=fun X=>h.var hv X k (by omega);have c158:=fun st3 (h3:E.Wf st3)=>(f158 (p0) (v) k (by omega)).full (E:=E) (st:=st3) (by simp[Rule.enc,rSub]) h3;have c117:=fun X Y q=>h.add (X:=X) (Y:=Y) [rSub p0 v] q f (by simp) k (by simp;omega);simp only[encR,rSub,Rule.enc,List.append_nil]at c158 c117;refine Xa4 rfl rfl (by decide) fun s hs e0 e1 e2 e3=>?_;simp[hs,e0,e1,e2,e3];simp[Nat.testBit,hs,e0,e3,c82,c158 _ (hE1 _),Xap,wrC];refine Xac (c117 _ _ _) fun p hp=>?_;obtain⟨r,st2⟩:=p;obtain⟨r1,r2⟩:=hp;simp only at r1;subst r1;simp[hs,Nat.testBit];exact r2
theorem Xzg{E mb fs bs o o' rs rv st}(h:MkS E mb fs bs o o' rs rv st)(t:T)(k0 to f:Int)(pv:AV)(hpv:pv=.nils)(k:Nat)(hk:20<=k):
  CallQ k E 127 [.ptr mb 0,.agg t.enc,.agg [.int .i64 k0,.int .i64 f,.int .i64 to],pv] st fun r st'=>r=.ok (.tup [])/\MkTo E mb (.sl o' fs.length (encFs fs)) (.sl o bs.length (bs.map (.int .i64))) rv st st' (rs++ []):=by
 obtain⟨k,rfl⟩:=uK (k:=k) (by omega);have hm:=h.now.1;have hE1:∀X,E.Wf ⟨st.H++X,st.I⟩:=fun X=>h.wf.of (by simp) (by simp);have hmw:=Xaa h.wf;have hmw1:∀j x y,Xaf E (st.H.length+j) x y=true:=fun j x y=>hmw _ _ _ (by omega);obtain⟨op,s0,nn,l,line⟩:=t;subst hpv;refine Xa4 rfl rfl (by decide) fun s hs e0 e1 e2 e3=>?_;simp[hs,e0,e1,e2,e3];exact MkTo.more h.now _
theorem Jec{E mb fs bs o o' rs rv st}(h:MkS E mb fs bs o o' rs rv st)(s0:ByteArray)(nn line:Int)(l:List T)(k0 to:Int)(f:Nat)(q:Option Nat)(p0 v:Int)(hv:BehA fs bs f v)(k:Nat)(hk:20<=k):
  CallQ k E 127 [.ptr mb 0,.agg (T.mk 36 s0 nn l line).enc,.agg [.int .i64 k0,.int .i64 f,.int .i64 to],.sl q 1 [.int .i64 p0]] st fun r st'=>r=.ok (.tup [])/\MkTo E mb (.sl o' fs.length (encFs fs)) (.sl o bs.length (bs.map (.int .i64))) rv st st' (rs++ [(rSub p0 (v+1)).at f]):=by
 obtain⟨k,rfl⟩:=uK (k:=k) (by omega);have hm:=h.now.1;have hE1:∀X,E.Wf ⟨st.H++X,st.I⟩:=fun X=>h.wf.of (by simp) (by simp);have hmw:=Xaa h.wf;have hmw1:∀j x y,Xaf E (st.H.length+j) x y=true:=fun j x y=>hmw _ _ _ (by omega);have c51:=fun X=>h.beh hv X k (by omega);have c158:=fun st3 (h3:E.Wf st3)=>(f158 (p0) (v+1) k (by omega)).full (E:=E) (st:=st3) (by simp[Rule.enc,rSub]) h3;have c117:=fun X Y q=>h.add (X:=X) (Y:=Y) [rSub p0 (v+1)] q f (by simp) k (by simp;omega);simp only[encR,rSub,Rule.enc,List.append_nil]at c158 c117;refine Xa4 rfl rfl (by decide) fun s hs e0 e1 e2 e3=>?_;simp[hs,e0,e1,e2,e3,c51];simp[Nat.testBit,hs,e0,e3,c158 _ (hE1 _),Xap,wrC];refine Xac (c117 _ _ _) fun p hp=>?_;obtain⟨r,st2⟩:=p;obtain⟨r1,r2⟩:=hp;simp only at r1;subst r1;simp[hs,Nat.testBit];exact r2
theorem Jeb{E mb fs bs o o' rs rv st}(h:MkS E mb fs bs o o' rs rv st)(s0:ByteArray)(nn line:Int)(l:List T)(k0 to:Int)(f:Nat)(q:Option Nat)(p0 v:Int)(hv:BehA fs bs f v)(k:Nat)(hk:20<=k):
  CallQ k E 127 [.ptr mb 0,.agg (T.mk 37 s0 nn l line).enc,.agg [.int .i64 k0,.int .i64 f,.int .i64 to],.sl q 1 [.int .i64 p0]] st fun r st'=>r=.ok (.tup [])/\MkTo E mb (.sl o' fs.length (encFs fs)) (.sl o bs.length (bs.map (.int .i64))) rv st st' (rs++ [(rSub p0 (to)).at f]):=by
 obtain⟨k,rfl⟩:=uK (k:=k) (by omega);have hm:=h.now.1;have hE1:∀X,E.Wf ⟨st.H++X,st.I⟩:=fun X=>h.wf.of (by simp) (by simp);have hmw:=Xaa h.wf;have hmw1:∀j x y,Xaf E (st.H.length+j) x y=true:=fun j x y=>hmw _ _ _ (by omega);have c51:=fun X=>h.beh hv X k (by omega);have c158:=fun st3 (h3:E.Wf st3)=>(f158 (p0) (to) k (by omega)).full (E:=E) (st:=st3) (by simp[Rule.enc,rSub]) h3;have c117:=fun X Y q=>h.add (X:=X) (Y:=Y) [rSub p0 (to)] q f (by simp) k (by simp;omega);simp only[encR,rSub,Rule.enc,List.append_nil]at c158 c117;refine Xa4 rfl rfl (by decide) fun s hs e0 e1 e2 e3=>?_;simp[hs,e0,e1,e2,e3,c51];simp[Nat.testBit,hs,e0,e3,c158 _ (hE1 _),Xap,wrC];refine Xac (c117 _ _ _) fun p hp=>?_;obtain⟨r,st2⟩:=p;obtain⟨r1,r2⟩:=hp;simp only at r1;subst r1;simp[hs,Nat.testBit];exact r2
theorem Jeo{E mb fs bs o o' rs rv st}(h:MkS E mb fs bs o o' rs rv st)(s0:ByteArray)(nn line:Int)(l:List T)(t0:T)(hl:l[0]?=some t0)(h0:t0.op=1)(v:Int)(hv:VarA bs t0.n v)(k0 to f:Int)(q:Option Nat)(p0 p1:Int)(hp:0<=p0/\p0<=100000000000)(k:Nat)(hk:20<=k):
  CallQ k E 123 [.ptr mb 0,.agg (T.mk 17 s0 nn l line).enc,.agg [.int .i64 k0,.int .i64 f,.int .i64 to],.sl q 2 [.int .i64 p0,.int .i64 p1]] st fun r st'=>r=.ok (.tup [])/\MkTo E mb (.sl o' fs.length (encFs fs)) (.sl o bs.length (bs.map (.int .i64))) rv st st' (rs++ [Rule.at f (rSub p1 v:Rule),(rSub p1 k0).at f]):=by
 obtain⟨k,rfl⟩:=uK (k:=k) (by omega);have hm:=h.now.1;have hE1:∀X,E.Wf ⟨st.H++X,st.I⟩:=fun X=>h.wf.of (by simp) (by simp);have hmw:=Xaa h.wf;have hmw1:∀j x y,Xaf E (st.H.length+j) x y=true:=fun j x y=>hmw _ _ _ (by omega);have hrd:=T.rd hl;have hlp:0<l.length:=uB hl;have hwp:=Xah (n:=p0+1) (by omega);have c82:=fun X=>h.var hv X k (by omega);have c158v:=fun st3 (h3:E.Wf st3)=>(f158 (p1) (v) k (by omega)).full (E:=E) (st:=st3) (by simp[Rule.enc,rSub]) h3;have c158:=fun st3 (h3:E.Wf st3)=>(f158 (p1) (k0) k (by omega)).full (E:=E) (st:=st3) (by simp[Rule.enc,rSub]) h3;have c117:=fun X Y q=>h.add (X:=X) (Y:=Y) [(rSub p1 v:Rule),rSub p1 k0] q f (by simp) k (by simp;omega);obtain⟨u1,u2,u3,u4,u5⟩:=t0;simp only[T.op_mk,T.n_mk,T.s_mk,T.enc]at*;subst h0;simp only[encR,rSub,Rule.enc,List.append_nil,List.cons_append,List.nil_append]at c158 c117 c158v;refine Xa4 rfl rfl (by decide) fun s hs e0 e1 e2 e3=>?_;simp[hs,e0,e1,e2];simp[Nat.testBit,hs,e0,e3,Xap,wrC,Xag,hmw,hmw1,hwp,hlp,hrd,Xa1,c82,c158v _ (hE1 _),c158 _ (hE1 _)];refine Xac (c117 _ _ _) fun p hp=>?_;obtain⟨r,st2⟩:=p;obtain⟨r1,r2⟩:=hp;simp only at r1;subst r1;simp[hs,Nat.testBit,Xa1];exact r2
theorem Jen{E mb fs bs o o' rs rv st}(h:MkS E mb fs bs o o' rs rv st)(s0:ByteArray)(nn line:Int)(l:List T)(t0:T)(hl:l[0]?=some t0)(h0:t0.op=13)(k0 to f:Int)(q:Option Nat)(p0 p1:Int)(hp:0<=p0/\p0<=100000000000)(k:Nat)(hk:20<=k):
  CallQ k E 123 [.ptr mb 0,.agg (T.mk 17 s0 nn l line).enc,.agg [.int .i64 k0,.int .i64 f,.int .i64 to],.sl q 2 [.int .i64 p0,.int .i64 p1]] st fun r st'=>r=.ok (.tup [])/\MkTo E mb (.sl o' fs.length (encFs fs)) (.sl o bs.length (bs.map (.int .i64))) rv st st' (rs++ [Rule.at f ({kind:=6,x:=p0+1,y:=p1,s:=t0.s}:Rule),(rSub p1 k0).at f]):=by
 obtain⟨k,rfl⟩:=uK (k:=k) (by omega);have hm:=h.now.1;have hE1:∀X,E.Wf ⟨st.H++X,st.I⟩:=fun X=>h.wf.of (by simp) (by simp);have hmw:=Xaa h.wf;have hmw1:∀j x y,Xaf E (st.H.length+j) x y=true:=fun j x y=>hmw _ _ _ (by omega);have hrd:=T.rd hl;have hlp:0<l.length:=uB hl;have hwp:=Xah (n:=p0+1) (by omega);have c158:=fun st3 (h3:E.Wf st3)=>(f158 (p1) (k0) k (by omega)).full (E:=E) (st:=st3) (by simp[Rule.enc,rSub]) h3;have c117:=fun X Y q=>h.add (X:=X) (Y:=Y) [({kind:=6,x:=p0+1,y:=p1,s:=t0.s}:Rule),rSub p1 k0] q f (by simp) k (by simp;omega);obtain⟨u1,u2,u3,u4,u5⟩:=t0;simp only[T.op_mk,T.n_mk,T.s_mk,T.enc]at*;subst h0;simp only[encR,rSub,Rule.enc,List.append_nil,List.cons_append,List.nil_append]at c158 c117;refine Xa4 rfl rfl (by decide) fun s hs e0 e1 e2 e3=>?_;simp[hs,e0,e1,e2];simp[Nat.testBit,hs,e0,e3,Xap,wrC,Xag,hmw,hmw1,hwp,hlp,hrd,Xa1,c158 _ (hE1 _)];refine Xac (c117 _ _ _) fun p hp=>?_;obtain⟨r,st2⟩:=p;obtain⟨r1,r2⟩:=hp;simp only at r1;subst r1;simp[hs,Nat.testBit,Xa1];exact r2
theorem Jem{E mb fs bs o o' rs rv st}(h:MkS E mb fs bs o o' rs rv st)(s0:ByteArray)(nn line:Int)(l:List T)(t0:T)(hl:l[0]?=some t0)(h0:t0.op≠1)(h0':t0.op≠13)(k0 to f:Int)(q:Option Nat)(p0 p1:Int)(hp:0<=p0/\p0<=100000000000)(k:Nat)(hk:20<=k):
  CallQ k E 123 [.ptr mb 0,.agg (T.mk 17 s0 nn l line).enc,.agg [.int .i64 k0,.int .i64 f,.int .i64 to],.sl q 2 [.int .i64 p0,.int .i64 p1]] st fun r st'=>r=.ok (.tup [])/\MkTo E mb (.sl o' fs.length (encFs fs)) (.sl o bs.length (bs.map (.int .i64))) rv st st' (rs++ [Rule.at f ({kind:=7,x:=p0+1,y:=p1}:Rule),(rSub p1 k0).at f]):=by
 obtain⟨k,rfl⟩:=uK (k:=k) (by omega);have hm:=h.now.1;have hE1:∀X,E.Wf ⟨st.H++X,st.I⟩:=fun X=>h.wf.of (by simp) (by simp);have hmw:=Xaa h.wf;have hmw1:∀j x y,Xaf E (st.H.length+j) x y=true:=fun j x y=>hmw _ _ _ (by omega);have hrd:=T.rd hl;have hlp:0<l.length:=uB hl;have hwp:=Xah (n:=p0+1) (by omega);have c158:=fun st3 (h3:E.Wf st3)=>(f158 (p1) (k0) k (by omega)).full (E:=E) (st:=st3) (by simp[Rule.enc,rSub]) h3;have c117:=fun X Y q=>h.add (X:=X) (Y:=Y) [({kind:=7,x:=p0+1,y:=p1}:Rule),rSub p1 k0] q f (by simp) k (by simp;omega);obtain⟨u1,u2,u3,u4,u5⟩:=t0;simp only[T.op_mk,T.n_mk,T.s_mk,T.enc]at*;simp only[encR,rSub,Rule.enc,List.append_nil,List.cons_append,List.nil_append]at c158 c117;refine Xa4 rfl rfl (by decide) fun s hs e0 e1 e2 e3=>?_;simp[hs,e0,e1,e2];simp[Nat.testBit,hs,e0,e3,Xap,wrC,Xag,hmw,hmw1,hwp,hlp,hrd,Xa1,h0,h0',c158 _ (hE1 _)];refine Xac (c117 _ _ _) fun p hp=>?_;obtain⟨r,st2⟩:=p;obtain⟨r1,r2⟩:=hp;simp only at r1;subst r1;simp[hs,Nat.testBit,Xa1];exact r2
theorem Jei{E mb fs bs o o' rs rv st}(h:MkS E mb fs bs o o' rs rv st)(s0:ByteArray)(nn line:Int)(l:List T)(t0:T)(hl:l[0]?=some t0)(h0:t0.op=13)(k0 to f:Int)(q:Option Nat)(p0:Int)(ps:List Int)(hps:ps.length<=1000000000)(hp:0<=p0/\p0<=100000000000)(k:Nat)(hk:20<=k):
  CallQ k E 125 [.ptr mb 0,.agg (T.mk 15 s0 nn l line).enc,.agg [.int .i64 k0,.int .i64 f,.int .i64 to],.sl q (ps.length+1) ((p0::ps).map (.int .i64))] st fun r st'=>r=.ok (.tup [])/\MkTo E mb (.sl o' fs.length (encFs fs)) (.sl o bs.length (bs.map (.int .i64))) rv st st' (rs++ [Rule.at f ({kind:=8,x:=p0,y:=k0,z:=p0+1,n:=to,m:=nn,l:=ps}:Rule)]):=by
 obtain⟨k,rfl⟩:=uK (k:=k) (by omega);have hm:=h.now.1;have hE1:∀X,E.Wf ⟨st.H++X,st.I⟩:=fun X=>h.wf.of (by simp) (by simp);have hmw:=Xaa h.wf;have hmw1:∀j x y,Xaf E (st.H.length+j) x y=true:=fun j x y=>hmw _ _ _ (by omega);have hrd:=T.rd hl;have hlp:0<l.length:=uB hl;have hwp:=Xah (n:=p0+1) (by omega);have htk:List.take ps.length (ps.map (AV.int IntKind.i64))=ps.map (AV.int IntKind.i64):=List.take_of_length_le (by simp);have c117:=fun X Y q=>h.add (X:=X) (Y:=Y) [({kind:=8,x:=p0,y:=k0,z:=p0+1,n:=to,m:=nn,l:=ps}:Rule)] q f (by simp) k (by simp;omega);obtain⟨u1,u2,u3,u4,u5⟩:=t0;simp only[T.op_mk,T.n_mk,T.s_mk,T.enc]at*;subst h0;simp only[encR,Rule.enc,List.append_nil,List.cons_append,List.nil_append]at c117;refine Xa4 rfl rfl (by decide) fun s hs e0 e1 e2 e3=>?_;simp[hs,e0,e1,e2];simp[Nat.testBit,hs,e0,e3,Xap,wrC,Xag,hmw,hmw1,hwp,hlp,hrd,Xa1,slcA,Xak,htk];refine Xac (c117 _ _ _) fun p hp=>?_;obtain⟨r,st2⟩:=p;obtain⟨r1,r2⟩:=hp;simp only at r1;subst r1;simp[hs,Nat.testBit,Xa1];exact r2
theorem Jeh{E mb fs bs o o' rs rv st}(h:MkS E mb fs bs o o' rs rv st)(s0:ByteArray)(nn line:Int)(l:List T)(t0:T)(hl:l[0]?=some t0)(h0:t0.op=14)(k0 to f:Int)(q:Option Nat)(p0:Int)(ps:List Int)(hps:ps.length<=1000000000)(hp:0<=p0/\p0<=100000000000)(k:Nat)(hk:20<=k):
  CallQ k E 125 [.ptr mb 0,.agg (T.mk 15 s0 nn l line).enc,.agg [.int .i64 k0,.int .i64 f,.int .i64 to],.sl q (ps.length+1) ((p0::ps).map (.int .i64))] st fun r st'=>r=.ok (.tup [])/\MkTo E mb (.sl o' fs.length (encFs fs)) (.sl o bs.length (bs.map (.int .i64))) rv st st' (rs++ [Rule.at f ({kind:=8,x:=p0,y:=k0,z:=p0+1,n:=to,m:=nn,l:=ps}:Rule)]):=by
 obtain⟨k,rfl⟩:=uK (k:=k) (by omega);have hm:=h.now.1;have hE1:∀X,E.Wf ⟨st.H++X,st.I⟩:=fun X=>h.wf.of (by simp) (by simp);have hmw:=Xaa h.wf;have hmw1:∀j x y,Xaf E (st.H.length+j) x y=true:=fun j x y=>hmw _ _ _ (by omega);have hrd:=T.rd hl;have hlp:0<l.length:=uB hl;have hwp:=Xah (n:=p0+1) (by omega);have htk:List.take ps.length (ps.map (AV.int IntKind.i64))=ps.map (AV.int IntKind.i64):=List.take_of_length_le (by simp);have c117:=fun X Y q=>h.add (X:=X) (Y:=Y) [({kind:=8,x:=p0,y:=k0,z:=p0+1,n:=to,m:=nn,l:=ps}:Rule)] q f (by simp) k (by simp;omega);obtain⟨u1,u2,u3,u4,u5⟩:=t0;simp only[T.op_mk,T.n_mk,T.s_mk,T.enc]at*;subst h0;simp only[encR,Rule.enc,List.append_nil,List.cons_append,List.nil_append]at c117;refine Xa4 rfl rfl (by decide) fun s hs e0 e1 e2 e3=>?_;simp[hs,e0,e1,e2];simp[Nat.testBit,hs,e0,e3,Xap,wrC,Xag,hmw,hmw1,hwp,hlp,hrd,Xa1,slcA,Xak,htk];refine Xac (c117 _ _ _) fun p hp=>?_;obtain⟨r,st2⟩:=p;obtain⟨r1,r2⟩:=hp;simp only at r1;subst r1;simp[hs,Nat.testBit,Xa1];exact r2
theorem Jeg{E mb fs bs o o' rs rv st}(h:MkS E mb fs bs o o' rs rv st)(s0:ByteArray)(nn line:Int)(l:List T)(t0:T)(hl:l[0]?=some t0)(h0:t0.op≠13)(h0':t0.op≠14)(k0 to f:Int)(q:Option Nat)(p0:Int)(ps:List Int)(hps:ps.length<=1000000000)(hp:0<=p0/\p0<=100000000000)(k:Nat)(hk:20<=k):
  CallQ k E 125 [.ptr mb 0,.agg (T.mk 15 s0 nn l line).enc,.agg [.int .i64 k0,.int .i64 f,.int .i64 to],.sl q (ps.length+1) ((p0::ps).map (.int .i64))] st fun r st'=>r=.ok (.tup [])/\MkTo E mb (.sl o' fs.length (encFs fs)) (.sl o bs.length (bs.map (.int .i64))) rv st st' (rs++ [Rule.at f ({kind:=8,x:=p0,y:=k0,z:= -1,n:=to,m:=nn,l:=ps}:Rule)]):=by
 obtain⟨k,rfl⟩:=uK (k:=k) (by omega);have hm:=h.now.1;have hE1:∀X,E.Wf ⟨st.H++X,st.I⟩:=fun X=>h.wf.of (by simp) (by simp);have hmw:=Xaa h.wf;have hmw1:∀j x y,Xaf E (st.H.length+j) x y=true:=fun j x y=>hmw _ _ _ (by omega);have hrd:=T.rd hl;have hlp:0<l.length:=uB hl;have hwp:=Xah (n:=p0+1) (by omega);have htk:List.take ps.length (ps.map (AV.int IntKind.i64))=ps.map (AV.int IntKind.i64):=List.take_of_length_le (by simp);have c117:=fun X Y q=>h.add (X:=X) (Y:=Y) [({kind:=8,x:=p0,y:=k0,z:= -1,n:=to,m:=nn,l:=ps}:Rule)] q f (by simp) k (by simp;omega);obtain⟨u1,u2,u3,u4,u5⟩:=t0;simp only[T.op_mk,T.n_mk,T.s_mk,T.enc]at*;simp only[encR,Rule.enc,List.append_nil,List.cons_append,List.nil_append]at c117;refine Xa4 rfl rfl (by decide) fun s hs e0 e1 e2 e3=>?_;simp[hs,e0,e1,e2];simp[Nat.testBit,hs,e0,e3,Xap,wrC,Xag,hmw,hmw1,hwp,hlp,hrd,Xa1,slcA,Xak,htk,h0,h0'];refine Xac (c117 _ _ _) fun p hp=>?_;obtain⟨r,st2⟩:=p;obtain⟨r1,r2⟩:=hp;simp only at r1;subst r1;simp[hs,Nat.testBit,Xa1];exact r2
theorem Jef{E mb fs bs o o' rs rv st}(h:MkS E mb fs bs o o' rs rv st)(s0:ByteArray)(nn line:Int)(l:List T)(t0:T)(hl:l[0]?=some t0)(k0 to f:Int)(q:Option Nat)(p0:Int)(ps:List Int)(hps:ps.length<=1000000000)(hp:0<=p0/\p0<=100000000000)(k:Nat)(hk:20<=k):
  CallQ k E 125 [.ptr mb 0,.agg (T.mk 16 s0 nn l line).enc,.agg [.int .i64 k0,.int .i64 f,.int .i64 to],.sl q (ps.length+1) ((p0::ps).map (.int .i64))] st fun r st'=>r=.ok (.tup [])/\MkTo E mb (.sl o' fs.length (encFs fs)) (.sl o bs.length (bs.map (.int .i64))) rv st st' (rs++ [Rule.at f ({kind:=9,x:=p0,y:=k0,n:=to,m:=nn,l:=ps}:Rule)]):=by
 obtain⟨k,rfl⟩:=uK (k:=k) (by omega);have hm:=h.now.1;have hE1:∀X,E.Wf ⟨st.H++X,st.I⟩:=fun X=>h.wf.of (by simp) (by simp);have hmw:=Xaa h.wf;have hmw1:∀j x y,Xaf E (st.H.length+j) x y=true:=fun j x y=>hmw _ _ _ (by omega);have hrd:=T.rd hl;have hlp:0<l.length:=uB hl;have hwp:=Xah (n:=p0+1) (by omega);have htk:List.take ps.length (ps.map (AV.int IntKind.i64))=ps.map (AV.int IntKind.i64):=List.take_of_length_le (by simp);have c117:=fun X Y q=>h.add (X:=X) (Y:=Y) [({kind:=9,x:=p0,y:=k0,n:=to,m:=nn,l:=ps}:Rule)] q f (by simp) k (by simp;omega);obtain⟨u1,u2,u3,u4,u5⟩:=t0;simp only[T.op_mk,T.n_mk,T.s_mk,T.enc]at*;simp only[encR,Rule.enc,List.append_nil,List.cons_append,List.nil_append]at c117;refine Xa4 rfl rfl (by decide) fun s hs e0 e1 e2 e3=>?_;simp[hs,e0,e1,e2];simp[Nat.testBit,hs,e0,e3,Xap,wrC,Xag,hmw,hmw1,hwp,hlp,hrd,Xa1,slcA,Xak,htk];refine Xac (c117 _ _ _) fun p hp=>?_;obtain⟨r,st2⟩:=p;obtain⟨r1,r2⟩:=hp;simp only at r1;subst r1;simp[hs,Nat.testBit,Xa1];exact r2
end Go.Proofs.YP
