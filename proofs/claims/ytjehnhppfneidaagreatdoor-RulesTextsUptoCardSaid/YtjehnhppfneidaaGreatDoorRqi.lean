/- Texts that the laws of the seat rest on: an abstract machine, what the functions answer in it, plain laws. -/
import Derived.Test.YtjehnhppfneidaaGreatDoorRqh
set_option linter.unusedVariables false
set_option linter.unusedSimpArgs false
set_option linter.unusedSectionVars false
set_option maxHeartbeats 8000000
set_option maxRecDepth 20000
namespace Go.Proofs.YP
open Go
def Xlq(k0:Int)(f:Int)(x:T×Int):Rule:=Rule.at f {kind:=6,x:=k0,y:=x.2+1,s:=x.1.s}
theorem f121{E mb fs bs o o' rs rv st}(h:MkS E mb fs bs o o' rs rv st)(s0:ByteArray)(nn line:Int)(l:List T)(k0 to f:Int)(pv:AV)(ps:List Int)(hps:ps.length=l.length)(hpv:l≠ []->∃q,pv=.sl q ps.length (ps.map (.int .i64)))(hp:∀p∈ps,0<=p/\p<=100000000000)
    (hlen:rs.length+l.length+1<=10000000000) (k:Nat) (hk:l.length+20<=k):
    CallQ k E 121 [.ptr mb 0,.agg (T.mk 11 s0 nn l line).enc,.agg [.int .i64 k0,.int .i64 f,.int .i64 to],pv] st fun r st'=>r=.ok (.tup [])/\MkTo E mb (.sl o' fs.length (encFs fs)) (.sl o bs.length (bs.map (.int .i64))) rv st st' (rs++Rule.at f {kind:=1,x:=k0,m:=nn}::(l.zip ps).map (Xlq k0 f)):=by
  obtain⟨k,rfl⟩:=uK (k:=k) (by omega);have hm:=h.now.1;have hml:=uB hm;have h1:=h.more [.cells 24 [.int .i64 11,.str s0,.int .i64 nn,.sl none l.length (T.encL l),.int .i64 line],.cells 87 [.int .i64 k0,.int .i64 f,.int .i64 to]];have c117:=fun Y q=>h1.add (X:=[]) (Y:=Y) [{kind:=1,x:=k0,m:=nn}] q f (by simp) k (by simp;omega);simp only[encR,Rule.enc,List.append_nil]at c117;have hpre:=fun st' rs' (q:MkTo E mb (.sl o' fs.length (encFs fs)) (.sl o bs.length (bs.map (.int .i64))) rv ⟨st.H++ [.cells 24 [.int .i64 11,.str s0,.int .i64 nn,.sl none l.length (T.encL l),.int .i64 line],.cells 87 [.int .i64 k0,.int .i64 f,.int .i64 to]],st.I⟩ st' rs')=>q.pre (st:=st) (fun j hj=>List.getElem?_append_left hj) (by simp) List.prefix_rfl;generalize hst1:(⟨st.H++ [.cells 24 [.int .i64 11,.str s0,.int .i64 nn,.sl none l.length (T.encL l),.int .i64 line],.cells 87 [.int .i64 k0,.int .i64 f,.int .i64 to]],st.I⟩:St)=st1 at h1 hpre;have hg5:st1.H[st.H.length]?=some (.cells 24 [.int .i64 11,.str s0,.int .i64 nn,.sl none l.length (T.encL l),.int .i64 line]):=by rw[<-hst1];simp
  have hg6:st1.H[st.H.length+1]?=some (.cells 87 [.int .i64 k0,.int .i64 f,.int .i64 to]):=by rw[<-hst1];simp
  have hl1:st1.H.length=st.H.length+2:=by rw[<-hst1];simp
  refine Xa4 rfl rfl (by decide) fun s hs e0 e1 e2 e3=>?_;simp[hs,e0,e1,e2,Xap,wrC];refine Xac (c117 _ _) fun p hp2=>?_;obtain⟨r,st2⟩:=p;obtain⟨r1,r2⟩:=hp2;simp only at r1;subst r1;rw[hst1]at r2;have g5:st2.H[st.H.length]?=some (.cells 24 [.int .i64 11,.str s0,.int .i64 nn,.sl none l.length (T.encL l),.int .i64 line]):=by rw[r2.old _ (by omega) (by omega)];exact hg5
  simp[hs,g5]
  refine Xau (fun n s m st'=> ∃(j:Nat),j<=l.length/\n=l.length - j/\s.length=44/\m=[]/\lk s 0=.ptr mb 0/\lk s 3=pv/\lk s 6=.ptr (st.H.length+1) 0/\lk s 21=.sl none l.length (T.encL l)/\lk s 22=.int .i64 l.length/\lk s 23=.int .i64 j/\
      MkTo E mb (.sl o' fs.length (encFs fs)) (.sl o bs.length (bs.map (.int .i64))) rv st1 st' (rs++Rule.at f {kind:=1,x:=k0,m:=nn}::((l.zip ps).take j).map (Xlq k0 f))) l.length (by omega)
      ⟨0,by omega,by omega,by simp[hs],rfl,by simp[hs,e0],by simp[hs,e3],by simp[hs],by simp[hs],by simp[hs],by simp[hs],by simpa using r2⟩ ?_
  clear hs e0 e1 e2 e3 s;rintro _ s m st' ⟨j,hj,rfl,hs,rfl,e0,e3,e6,e21,e22,e23,hto⟩;by_cases hc:j<l.length
  ·obtain⟨t,hg⟩:∃t,l[j]?=some t:=⟨_,List.getElem?_eq_getElem hc⟩;obtain⟨p,hgp⟩:∃p,ps[j]?=some p:=⟨_,List.getElem?_eq_getElem (by omega)⟩;obtain⟨qq,hpv⟩:=hpv (by rintro rfl;simp at hc);have hrd:=T.rd hg;have hwj:=Xah (n:=(j:Int)+1) (by omega);have hpb:=hp p (List.mem_of_getElem? hgp);have hwp:=Xah (n:=p+1) (by omega)
   have hz:(l.zip ps).take (j+1)=(l.zip ps).take j++ [(t,p)]:=by
     have:(l.zip ps)[j]?=some (t,p):=by rw[List.getElem?_zip_eq_some];exact⟨hg,hgp⟩
     rw[List.take_add_one,this];rfl
   obtain⟨rv2,h2⟩:=h1.next hto (by simp;omega);have hmw2:=Xaa h2.wf;have g6:st'.H[st.H.length+1]?=some (.cells 87 [.int .i64 k0,.int .i64 f,.int .i64 to]):=by rw[hto.old _ (by omega) (by omega)];exact hg6
   have g6':∀y,(st'.H++y)[st.H.length+1]?=some (.cells 87 [.int .i64 k0,.int .i64 f,.int .i64 to]):=fun y=>Xae g6;have hb1:(ps.map (AV.int IntKind.i64))[j]?=some (.int .i64 p):=by rw[List.getElem?_map,hgp];rfl
   have hb2:=uV hb1;have hb4:=uV hgp;have hb5:j<ps.length:=by omega
   have c117':=fun X Y q=>h2.add (X:=X) (Y:=Y) [{kind:=6,x:=k0,y:=p+1,s:=t.s}] q f (by simp) k (by simp;omega);simp only[encR,Rule.enc,List.append_nil]at c117';rw[T.enc_eq]at hrd;subst hpv;simp[hs,e21,e22,e23,hc,hrd,Xag,hmw2,wrC];simp[Nat.testBit,hs,e0,e3,e6,g6',hb1,hb2,hb4,hb5,hwp,Xap,wrC];refine Xac (c117' _ _ _) fun p hp2=>?_;obtain⟨r,st3⟩:=p;obtain⟨q1,q2⟩:=hp2;simp only at q1;subst q1;simp[hs,Nat.testBit,e23,hwj];refine⟨_,by omega,j+1,by omega,rfl,by simp[hs],rfl,by simp[hs,e0],by simp[hs,e3],by simp[hs,e6],by simp[hs,e21],by simp[hs,e22],by simp[hs],?_⟩;have q3:=hto.andThen h2.now q2;rw[hz];simpa [Xlq]using q3
  ·have hjl:(l.zip ps).take j=l.zip ps:=List.take_of_length_le (by simp;omega);rw[hjl]at hto;simp[hs,e22,e23,hc];exact hpre _ _ hto
def mkTab:List (Int×Nat):=[(1,119),(8,120),(11,121),(13,122),(14,122),(17,123),(21,124),(22,124),(23,124),(15,125),(16,125),(30,126),(36,127),(37,127)]
def Xnb(mb:Nat):List (AV×AV):=mkTab.map fun p=>(.int .i64 p.1,.fn p.2 [.ptr mb 0] [])
def Xe2(op:Int):List (Int×Nat)->Option Nat
 |[]=>none
 |(a,g)::r=>if op=a then some g else Xe2 op r
theorem Xpc(mb:Nat)(op:Int):∀l:List (Int×Nat),Xew false (.int .i64 op) (l.map fun p=>(.int .i64 p.1,.fn p.2 [.ptr mb 0] []))=some ((Xe2 op l).map fun g=>.fn g [.ptr mb 0] [])
 |[]=>rfl
 |(a,g)::r=>by simp only[List.map_cons,Xew,Xgp,decide_true,Bool.not_false,Bool.and_self,Xax,Xam,Xpc mb op r,Xe2];by_cases h:op=a<;>simp[h]
theorem f81(mb:Nat)(k:Nat)(hk:1<=k)(E:Env)(st:St)(hE:E.Wf st):CallQ k E 81 [.ptr mb 0] st fun r st'=>r=.ok (.map st.H.length)/\st'=⟨st.H++ [ABlk.map (Xnb mb)],st.I⟩:=by obtain⟨k,rfl⟩:=uK (k:=k) (by omega);have hmw:=Xaa hE;refine Xai rfl rfl (by decide) fun s hs e0=>?_;simp[hs,e0,updB,hmw,Xc7,updA,Xgp,Xnb,mkTab]
def posF:Int->List T->List Int
 |_,[]=> []
 |a,t::r=>a::posF (a+t.count) r
theorem Xdy:∀(a:Int) (l:List T),(posF a l).length=l.length
 |_,[]=>rfl
 |a,t::r=>by simp only[posF,List.length_cons,Xdy _ r]
theorem Xi2:∀(a:Int) (l:List T) (p:Int),p∈posF a l->a<=p/\p<a+(T.countL l:Nat)
 |_,[],p,h=>by simp[posF]at h
 |a,t::r,p,h=>by
  have ht:0<t.count:=by cases t;simp only[T.count];omega
  simp only[posF,List.mem_cons]at h;simp only[T.countL];rcases h with rfl|h
  ·omega
  ·have:=Xi2 _ r p h;omega
theorem Xe9:∀(a:Int) (l:List T) (i:Nat),i<l.length->(posF a l)[i]?=some (a+(T.countL (l.take i):Nat))
 |_,[],i,h=>by simp at h
 |a,t::r,0,h=>by simp[posF,T.countL]
 |a,t::r,i+1,h=>by
  simp only[posF,List.getElem?_cons_succ,List.take_succ_cons,T.countL];rw[Xe9 _ r i (by simpa using h)]
  congr 1;omega
def AccI(E:Env)(I:List (Nat×Nat))(xs:List Int)(v:AV):Prop:=
 (xs=[]/\v=.nils)\/(xs≠ []/\∃i,v=.sl (some i) xs.length (xs.map (.int .i64))/\E.rom<=i/\I[i]?=some (xs.length,1))
def ValI(xs:List Int)(v:AV):Prop:=(xs=[]/\v=.nils)\/(xs≠ []/\∃q,v=.sl q xs.length (xs.map (.int .i64)))
theorem AccI.val{E I xs v}(h:AccI E I xs v):ValI xs v:=by
 rcases h with h|⟨hx,i,e, -, -⟩
 ·exact .inl h
 ·exact .inr ⟨hx,_,e⟩
def behV(fs:List Fn)(bs:List Int)(f:Nat):Int:=(bs[f]?.getD 0)+((fs[f]?.map fun g=>g.vars.length).getD 0:Nat)
def ownS(fs:List Fn)(bs:List Int)(t:T)(k0:Int)(f:Nat)(to:Int)(ps:List Int):List Rule:=
  let p0:=ps[0]?.getD 0;let p1:=ps[1]?.getD 0;let p2:=ps[2]?.getD 0
  if t.op=1 then [rSub (vset bs t.n) k0]
  else if t.op=8 then [rSub (behV fs bs f) k0]
  else if t.op=11 then{kind:=1,x:=k0,m:=t.n}::(t.l.zip ps).map fun x=> {kind:=6,x:=k0,y:=x.2+1,s:=x.1.s}
  else if t.op=13 then [{kind:=4,x:=p0,y:=k0,s:=t.s}]
  else if t.op=14 then [{kind:=5,x:=p0,y:=k0}]
  else if t.op=17 then
    (match t.l[0]? with
     |some t0=> [if t0.op=1 then rSub p1 (vset bs t0.n)else if t0.op=13 then{kind:=6,x:=p0+1,y:=p1,s:=t0.s}else{kind:=7,x:=p0+1,y:=p1},rSub p1 k0]
     |none=> [])
  else if t.op=21 then [rSub p1 k0]
  else if t.op=22 then [rSub p0 k0,rSub p1 k0]
  else if t.op=23 then [rSub p1 k0,rSub p2 k0]
  else if t.op=15 then
    (match t.l[0]? with
     |some t0=> [{kind:=8,x:=p0,y:=k0,z:=(if t0.op=(13:Int)\/t0.op=(14:Int)then p0+1 else -1),n:=to,m:=t.n,l:=ps.tail}]
     |none=> [])
  else if t.op=16 then [{kind:=9,x:=p0,y:=k0,n:=to,m:=t.n,l:=ps.tail}]
  else if t.op=30 then(match ps with|[]=> []|p::_=> [rSub p (vset bs t.n)])
  else if t.op=36 then(match ps with|[]=> []|p::_=> [rSub p (behV fs bs f+1)])
  else if t.op=37 then(match ps with|[]=> []|p::_=> [rSub p to])
  else []
def ownR(fs:List Fn)(bs:List Int)(t:T)(k0:Int)(f:Nat)(to:Int):List Rule:=(ownS fs bs t k0 f to (posF (k0+1) t.l)).map (Rule.at f)
structure LocOK(fs:List Fn)(bs:List Int)(t:T)(f:Nat):Prop where
 beh:BehA fs bs f (behV fs bs f)
 var:t.op=1\/t.op=30\/t.op=38->VarA bs t.n (vset bs t.n)
 mem:t.op=13->t.l.length=1
 idx:t.op=14->t.l.length=2
 set:t.op=17->t.l.length=2/\∀t0,t.l[0]?=some t0->t0.op=1->VarA bs t0.n (vset bs t0.n)
 two:t.op=21\/t.op=22->t.l.length=2
 three:t.op=23->t.l.length=3
 call:t.op=15\/t.op=16->t.l≠ []
 one:t.op=30\/t.op=36\/t.op=37->t.l.length<=1
theorem ValI.one{p:Int}{v:AV}(h:ValI [p] v):∃q,v=.sl q 1 [.int .i64 p]:=by
 rcases h with⟨h, -⟩|⟨-,q,e⟩
 ·cases h
 ·exact⟨q,e⟩
theorem ValI.nil{v:AV}(h:ValI [] v):v=.nils:=by
 rcases h with⟨-,h⟩|⟨h, -⟩
 ·exact h
 ·exact absurd rfl h
theorem len2{α:Type}{l:List α}(h:l.length=2):∃a b,l=[a,b]:=by rcases l with _|⟨a,_|⟨b,_|⟨c,r⟩⟩⟩<;>simp at h;exact⟨a,b,rfl⟩
theorem len3{α:Type}{l:List α}(h:l.length=3):∃a b c,l=[a,b,c]:=by rcases l with _|⟨a,_|⟨b,_|⟨c,_|⟨d,r⟩⟩⟩⟩<;>simp at h;exact⟨a,b,c,rfl⟩
theorem Xxk{E mb fs bs o o' rs rv st}(h:MkS E mb fs bs o o' rs rv st)(t:T)(k0 to:Int)(f:Nat)(hk0:0<=k0)(hk1:k0+1+(T.countL t.l:Nat)<=100000000000)(hc:LocOK fs bs t f)(pv:AV)(hpv:ValI (posF (k0+1) t.l) pv)
  (hlen:rs.length+t.l.length+1<=10000000000) (hll:t.l.length<=1000000000) (g:Nat) (hg:Xe2 t.op mkTab=some g) (k:Nat) (hk:t.l.length+30<=k):
  CallQ k E g [.ptr mb 0,.agg t.enc,.agg [.int .i64 k0,.int .i64 f,.int .i64 to],pv] st fun r st'=>r=.ok (.tup [])/\MkTo E mb (.sl o' fs.length (encFs fs)) (.sl o bs.length (bs.map (.int .i64))) rv st st' (rs++ownR fs bs t k0 f to):=by
 have hpl:=Xdy (k0+1) t.l;have hpm:=Xi2 (k0+1) t.l;obtain⟨op,s0,nn,l,line⟩:=t;simp only[T.op_mk,T.n_mk,T.s_mk,T.l_mk]at*;unfold ownR ownS;simp only[T.op_mk,T.n_mk,T.s_mk,T.l_mk];generalize hps:posF (k0+1) l=ps at*;obtain⟨c1,c2,c3,c9,c4,c5,c6,c7,c8⟩:=hc;simp only[T.op_mk,T.n_mk,T.s_mk,T.l_mk]at*;simp only[mkTab,Xe2]at hg;by_cases o1:op=1
 ·subst o1;simp at hg⊢;subst hg;obtain⟨a,b,e1,e2,e3,e4,e5⟩:=(c2 (.inl rfl)).ex;rw[e5];exact f119 h (.mk 1 s0 nn l line) k0 f to pv a b e1 e2 e3 e4 k (by omega)
 by_cases o8:op=8
 ·subst o8;simp at hg⊢;subst hg;exact f120 h (.mk 8 s0 nn l line) k0 to f pv _ c1 k (by omega)
 by_cases o11:op=11
 ·subst o11;simp at hg⊢;subst hg;have:=f121 h s0 nn line l k0 to f pv ps hpl (fun hne=>?_) (fun p hp=>by have:=hpm p hp;omega) (by omega) k (by omega)
  ·have hst:∀f',Xlq k0 f'=fun x=>({kind:=6,f:=f',x:=k0,y:=x.2+1,s:=x.1.s}:Rule):=fun _=>rfl;simpa [hst,Function.comp_def,Rule.at]using this
  ·rcases hpv with⟨e, -⟩|⟨-,e⟩
   ·rw[e]at hpl;exact absurd (List.length_eq_zero_iff.1 hpl.symm) hne
   ·exact e
 by_cases o13:op=13
 ·subst o13;simp at hg⊢;subst hg;obtain⟨p0,rfl⟩:=List.length_eq_one_iff.1 (hpl.trans (c3 rfl));obtain⟨q,rfl⟩:=hpv.one;exact Jeq h s0 nn line l k0 to f q p0 k (by omega)
 have two:ps.length=2->∃p0 p1 q,ps=[p0,p1]/\pv=.sl q 2 [.int .i64 p0,.int .i64 p1]/\0<=p0/\p0<=100000000000:=fun h2=>by
  obtain⟨p0,p1,rfl⟩:=len2 h2;rcases hpv with⟨e, -⟩|⟨-,q,e⟩
  ·cases e
  ·have:=hpm p0 (by simp);exact⟨p0,p1,q,rfl,e,by omega,by omega⟩
 by_cases o14:op=14
 ·subst o14;simp at hg⊢;subst hg;obtain⟨p0,p1,q,rfl,rfl,b1,b2⟩:=two (by have:=c9 rfl;omega);simpa using Jep h s0 nn line l k0 to f q p0 p1 k (by omega)
 by_cases o17:op=17
 ·subst o17;simp at hg;subst hg;obtain⟨h2,hv⟩:=c4 rfl;obtain⟨p0,p1,q,rfl,rfl,b1,b2⟩:=two (by omega);obtain⟨t0,t1,rfl⟩:=len2 h2;by_cases u1:t0.op=1
  ·have:=Jeo h s0 nn line [t0,t1] t0 rfl u1 _ (hv t0 rfl u1) k0 to f q p0 p1 ⟨b1,b2⟩ k (by omega);simpa [u1]using this
  by_cases u2:t0.op=13
  ·have:=Jen h s0 nn line [t0,t1] t0 rfl u2 k0 to f q p0 p1 ⟨b1,b2⟩ k (by omega);simpa [u2]using this
  ·have:=Jem h s0 nn line [t0,t1] t0 rfl u1 u2 k0 to f q p0 p1 ⟨b1,b2⟩ k (by omega);simpa [u1,u2]using this
 by_cases o21:op=21
 ·subst o21;simp at hg;subst hg;obtain⟨p0,p1,q,rfl,rfl,b1,b2⟩:=two (by have:=c5 (.inl rfl);omega);simpa using Jel h s0 nn line l k0 to f q p0 p1 k (by omega)
 by_cases o22:op=22
 ·subst o22;simp at hg;subst hg;obtain⟨p0,p1,q,rfl,rfl,b1,b2⟩:=two (by have:=c5 (.inr rfl);omega);simpa using Jek h (by omega) s0 nn line l k0 to f q p0 p1 k (by omega)
 by_cases o23:op=23
 ·subst o23;simp at hg;subst hg;obtain⟨p0,p1,p2,rfl⟩:=len3 (hpl.trans (c6 rfl));rcases hpv with⟨e, -⟩|⟨-,q,rfl⟩
  ·cases e
  simpa using Jej h s0 nn line l k0 to f q p0 p1 p2 k (by omega)
 have call:op=15\/op=16->∃t0 p0 r q,l[0]?=some t0/\ps=p0::r/\pv=.sl q (r.length+1) ((p0::r).map (.int .i64))/\0<=p0/\p0<=100000000000/\r.length<=1000000000:=fun ho=>by
  have hne:=c7 ho;obtain⟨t0,r0,rfl⟩:=List.exists_cons_of_ne_nil hne;rcases ps with _|⟨p0,r⟩
  ·simp at hpl
  have:=hpm p0 (by simp);rcases hpv with⟨e, -⟩|⟨-,q,e⟩
  ·cases e
  ·simp at hpl hll;exact⟨t0,p0,r,q,rfl,rfl,e,by omega,by omega,by omega⟩
 by_cases o15:op=15
 ·subst o15;simp at hg;subst hg;obtain⟨t0,p0,r,q,ht0,rfl,rfl,b1,b2,b3⟩:=call (.inl rfl);by_cases u1:t0.op=13
  ·simpa [ht0,u1]using Jei h s0 nn line l t0 ht0 u1 k0 to f q p0 r b3 ⟨b1,b2⟩ k (by omega)
  by_cases u2:t0.op=14
  ·simpa [ht0,u2]using Jeh h s0 nn line l t0 ht0 u2 k0 to f q p0 r b3 ⟨b1,b2⟩ k (by omega)
  ·simpa [ht0,u1,u2]using Jeg h s0 nn line l t0 ht0 u1 u2 k0 to f q p0 r b3 ⟨b1,b2⟩ k (by omega)
 by_cases o16:op=16
 ·subst o16;simp at hg;subst hg;obtain⟨t0,p0,r,q,ht0,rfl,rfl,b1,b2,b3⟩:=call (.inr rfl);simpa using Jef h s0 nn line l t0 ht0 k0 to f q p0 r b3 ⟨b1,b2⟩ k (by omega)
 have onep:ps.length<=1->ps=[]/\pv=.nils\/∃p q,ps=[p]/\pv=.sl q 1 [.int .i64 p]:=fun h1=>by
  rcases ps with _|⟨p,_|⟨p',r⟩⟩
  ·exact .inl ⟨rfl,hpv.nil⟩
  ·obtain⟨q,e⟩:=hpv.one;exact .inr ⟨p,q,rfl,e⟩
  ·simp at h1
 by_cases o30:op=30
 ·subst o30;simp at hg;subst hg;rcases onep (by have:=c8 (.inl rfl);omega)with⟨rfl,hp⟩|⟨p,q,rfl,rfl⟩
  ·simpa using Jee h (.mk 30 s0 nn l line) k0 to f pv hp k (by omega)
  ·simpa using Jed h (.mk 30 s0 nn l line) k0 to f q p _ (c2 (.inr (.inl rfl))) k (by omega)
 by_cases o36:op=36
 ·subst o36;simp at hg;subst hg;rcases onep (by have:=c8 (.inr (.inl rfl));omega)with⟨rfl,hp⟩|⟨p,q,rfl,rfl⟩
  ·simpa using Xzg h (.mk 36 s0 nn l line) k0 to f pv hp k (by omega)
  ·simpa using Jec h s0 nn line l k0 to f q p _ c1 k (by omega)
 by_cases o37:op=37
 ·subst o37;simp at hg;subst hg;rcases onep (by have:=c8 (.inr (.inr rfl));omega)with⟨rfl,hp⟩|⟨p,q,rfl,rfl⟩
  ·simpa using Xzg h (.mk 37 s0 nn l line) k0 to f pv hp k (by omega)
  ·simpa using Jeb h s0 nn line l k0 to f q p _ c1 k (by omega)
 ·simp[o1,o8,o11,o13,o14,o17,o21,o22,o23,o15,o16,o30,o36,o37]at hg
def hdR(fs:List Fn)(bs:List Int)(op:Int)(s:ByteArray)(n k0:Int)(f:Nat):List Rule:=
 let vf:=(fs[f]?.map (·.vars)).getD [];let g:=n.toNat;let vg:=(fs[g]?.map (·.vars)).getD [];let pg:=((fs[g]?.map (·.params)).getD 0:Nat)
 Rule.at f {kind:=2,x:=if op=41 then(bs[f]?.getD 0)+oi (ixS s vf)else k0,n:=n}::
  (if op=10/\(pg:Int)<=oi (ixS s vg)then [Rule.at f {kind:=2,x:=(bs[g]?.getD 0)+oi (ixS s vg),n:=n}]else [])
mutual
/-- A tree's rules: its set, its function, where it throws to; whether it is read. -/
def rT(fs:List Fn)(bs:List Int):T->Int->Nat->Int->Bool->List Rule
 |.mk op s n l x,k0,f,to,rd=>
  if isFn op then hdR fs bs op s n k0 f++rB fs bs n.toNat (k0+1) l
  else(if rd then ownR fs bs (.mk op s n l x) k0 f to else [])++rL fs bs op n f to 0 (k0+1) l
/-- Its parts'. -/
def rL(fs:List Fn)(bs:List Int)(op n:Int)(f:Nat)(to:Int):Nat->Int->List T->List Rule
 |_,_,[]=> []
 |i,a,t::r=>rT fs bs t a f (if op=38/\i=0 then vset bs n else to) (decide (op≠17)||decide (0<i))++rL fs bs op n f to (i+1) (a+t.count) r
/-- A function's body's. -/
def rB(fs:List Fn)(bs:List Int)(g:Nat):Int->List T->List Rule
 |_,[]=> []
 |a,t::r=>(if t.op=32 then rT fs bs t a g (behV fs bs g+2) true else [])++rB fs bs g (a+t.count) r
end
mutual
/-- What is asked of a tree that stands in a function. -/
def RW(fs:List Fn)(bs:List Int)(f:Nat):T->Prop
 |.mk op s n l x=>if isFn op then BehA fs bs f (behV fs bs f)/\(∃g:Nat,n=g/\BehA fs bs g (behV fs bs g))/\RWB fs bs n.toNat l else LocOK fs bs (.mk op s n l x) f/\RWL fs bs f l
def RWL(fs:List Fn)(bs:List Int)(f:Nat):List T->Prop
 |[]=>True
 |t::r=>RW fs bs f t/\RWL fs bs f r
def RWB(fs:List Fn)(bs:List Int)(g:Nat):List T->Prop
 |[]=>True
 |t::r=>(t.op=32->RW fs bs g t)/\RWB fs bs g r
end
theorem Xqk{fs bs f}:∀{l:List T} {i:Nat} {t:T},RWL fs bs f l->l[i]?=some t->RW fs bs f t
 |[],i,t,_,h=>by simp at h
 |a::r,0,t,h,e=>by simp at e;subst e;exact h.1
 |a::r,i+1,t,h,e=>Xqk h.2 (by simpa using e)
theorem Xql{fs bs f}:∀{l:List T} {i:Nat} {t:T},RWB fs bs f l->l[i]?=some t->t.op=32->RW fs bs f t
 |[],i,t,_,h,_=>by simp at h
 |a::r,0,t,h,e,ho=>by simp at e;subst e;exact h.1 ho
 |a::r,i+1,t,h,e,ho=>Xql h.2 (by simpa using e) ho
theorem Xt2{c:Prop}[Decidable c]{a b:List Rule}{n:Nat}(h1:a.length<=n)(h2:b.length<=n):(if c then a else b).length<=n:=by split<;>assumption
theorem Xi3(fs:List Fn)(bs:List Int)(t:T)(k0:Int)(f:Nat)(to:Int)(ps:List Int):(ownS fs bs t k0 f to ps).length<=2+t.l.length:=by
 unfold ownS;simp only;repeat' refine Xt2 ?_ ?_
 all_goals first|(simp;done)|(simp;omega)|(split<;>simp<;>omega)
theorem Xye(c:Prop)[Decidable c](a:Rule):(if c then [a]else []).length<=1:=by split<;>simp
theorem Xo2(fs:List Fn)(bs:List Int)(op:Int)(s:ByteArray)(n k0:Int)(f:Nat):(hdR fs bs op s n k0 f).length<=2:=by unfold hdR;simp only[List.length_cons];exact Nat.succ_le_succ (Xye _ _)
mutual
theorem Xoj(fs:List Fn)(bs:List Int):∀(t:T) (k0:Int) (f:Nat) (to:Int) (rd:Bool),(rT fs bs t k0 f to rd).length+1<=3*t.count
 |.mk op s n l x,k0,f,to,rd=>by
  have hl:=T.len_le l;simp only[rT,T.count];split
  ·have h1:=Xo2 fs bs op s n k0 f;have h2:=rB_len fs bs n.toNat (k0+1) l;simp only[List.length_append];omega
  ·have h1:=Xi3 fs bs (.mk op s n l x) k0 f to (posF (k0+1) l);have h2:=rL_len fs bs op n f to 0 (k0+1) l;simp only[T.l_mk]at h1
   have h3:(if rd=true then ownR fs bs (.mk op s n l x) k0 f to else []).length<=2+l.length:=by
    split
    ·simpa [ownR]using h1
    ·simp
   simp only[List.length_append];omega
theorem rL_len(fs:List Fn)(bs:List Int)(op n:Int)(f:Nat)(to:Int):∀(i:Nat) (a:Int) (l:List T),(rL fs bs op n f to i a l).length+l.length<=3*T.countL l
 |_,_,[]=>by simp[rL,T.countL]
 |i,a,t::r=>by have h1:=Xoj fs bs t a f (if op=38/\i=0 then vset bs n else to) (decide (op≠17)||decide (0<i));have h2:=rL_len fs bs op n f to (i+1) (a+t.count) r;simp only[rL,List.length_append,T.countL,List.length_cons];omega
theorem rB_len(fs:List Fn)(bs:List Int)(g:Nat):∀(a:Int) (l:List T),(rB fs bs g a l).length<=3*T.countL l
 |_,[]=>by simp[rB,T.countL]
 |a,t::r=>by
  have h1:=Xoj fs bs t a g (behV fs bs g+2) true;have h2:=rB_len fs bs g (a+t.count) r;have h3:(if t.op=32 then rT fs bs t a g (behV fs bs g+2) true else []).length<=3*t.count:=by split;omega;simp
  simp only[rB,List.length_append,T.countL];omega
end
def Made(E:Env)(mb:Nat)(fs:List Fn)(bs:List Int)(o o':Option Nat)(rv:AV)(st:St)(rs':List Rule):Rt AV->St->Prop:=fun r st'=>r=.ok (.tup [])/\MkTo E mb (.sl o' fs.length (encFs fs)) (.sl o bs.length (bs.map (.int .i64))) rv st st' rs'
def Xf1(n:Nat):Prop:=∀(t:T),t.wt<=n->t.wt<=10000000000->∀{E mb fs bs o o' rs rv st},MkS E mb fs bs o o' rs rv st->(∀G∈fs,G.vars.length<=500)->∀(k0 to:Int) (f:Nat) (rd:Bool),0<=k0->k0+(t.count:Nat)<=1000000000->rs.length+3*t.count<=10000000000->RW fs bs f t->
 ∀k,20*t.wt+1100<=k->CallQ k E 52 [.ptr mb 0,.agg t.enc,.agg [.int .i64 k0,.int .i64 f,.int .i64 to],.bool rd] st (Made E mb fs bs o o' rv st (rs++rT fs bs t k0 f to rd))
def Xs1(n:Nat):Prop:=∀(t:T),t.wt<=n->t.wt<=10000000000->isFn t.op=true->∀{E mb fs bs o o' rs rv st},MkS E mb fs bs o o' rs rv st->(∀G∈fs,G.vars.length<=500)->∀(k0 to:Int) (f:Nat),0<=k0->k0+(t.count:Nat)<=1000000000->rs.length+3*t.count<=10000000000->RW fs bs f t->
 ∀k,20*t.wt+1099<=k->CallQ k E 79 [.ptr mb 0,.agg t.enc,.agg [.int .i64 k0,.int .i64 f,.int .i64 to]] st (Made E mb fs bs o o' rv st (rs++rT fs bs t k0 f to true))
theorem AccI.push{E I rs v}(h:AccI E I rs v)(x:Nat×Nat):AccI E (I++ [x]) rs v:=by
 rcases h with h|⟨e0,j,e,hj,hi⟩
 ·exact .inl h
 ·exact .inr ⟨e0,j,e,hj,by rw[List.getElem?_append_left (uB hi)];exact hi⟩
theorem AccI.one{E I rs v}(h:AccI E I rs v):v.one=true:=by rcases h with⟨-,rfl⟩|⟨-,j,rfl, -, -⟩<;>rfl
theorem AccI.cells{E I rs v}(h:AccI E I rs v):v.cells=[v]:=by rcases h with⟨-,rfl⟩|⟨-,j,rfl, -, -⟩<;>rfl
theorem AccI.app{E:Env}{I:List (Nat×Nat)}{xs:List Int}{v:AV}{m:Nat}(h:AccI E I xs v)(hr:E.rom<=I.length)(hm:m<=I.length)(ho:∀j,owns v=some j->m<=j)(hl:xs.length<=100000000000)(H:List ABlk)(x:Int)(q:Nat):
  ∃v' I',appA E ⟨H,I⟩ 1 8 v (.sl (some q) 1 [.int .i64 x])=some (v',⟨H,I'⟩)/\AccI E I' (xs++ [x]) v'/\IOld m I I'/\∀j,owns v'=some j->m<=j:=by
 rcases h with⟨rfl,rfl⟩|⟨hx,j,rfl,hj1,hj2⟩
 ·refine⟨.sl (some I.length) 1 [.int .i64 x],I++ [(1,1)],by simp[appA,srcA],.inr ⟨by simp,I.length,by simp,hr,by simp⟩,.push _ _ _,fun j e=>?_⟩;simp[owns]at e;omega
 ·have hb1:(xs.length+1)*8<=70368744177664:=by omega
  have hb2:xs.length+1<=70368744177664:=by omega
  have hmj:=ho j rfl;refine⟨.sl (some j) (xs.length+1) (xs.map (.int .i64)++ [.int .i64 x]),I.set j (xs.length+1,1),by simp[appA,srcA,hj1,hj2,hb1,hb2],.inr ⟨by simp,j,by simp,hj1,?_⟩,⟨by simp,fun q x hq e=>?_⟩,fun j' e=>?_⟩
  ·rw[List.getElem?_set_self (uB hj2)];simp
  ·rw[List.getElem?_set_ne (by omega)];exact e
  ·simp[owns]at e;omega
theorem Xhd(a:Int):∀(l:List T) (i:Nat),(posF a l).take i=posF a (l.take i)
 |l,0=>by simp[posF]
 |[],i+1=>by simp[posF]
 |t::r,i+1=>by simp only[posF,List.take_succ_cons,Xhd _ r i]
theorem Xj1(a:Int)(l:List T)(i:Nat)(h:i<l.length):posF a (l.take (i+1))=posF a (l.take i)++ [a+(T.countL (l.take i):Nat)]:=by rw[<-Xhd,<-Xhd,List.take_add_one,Xe9 a l i h];rfl
@[simp] theorem rd3(a b c:AV):rdC (some 3) [a,b,c] 0=some (.agg [a,b,c]):=rfl
theorem rf52{E:Env}{st:St}(hE:E.Wf st)(t:T)(hw:t.wt<=10000000000)(k0:Int)(h0:0<=k0)(h1:k0<=100000000000)(s4:List AV)(hs4:s4.length=91)(h8:lk s4 8=.ptr (st.H.length+2) 0)(pl:List AV)(enc:List AV)(henc:enc=t.enc)(k:Nat)(hk:4*t.wt+60<=k)(Q:Q4)
    (hQ:∀st7 v,st.H.length+7<=st7.H.length->(∀j,j<st.H.length->st7.H[j]?=st.H[j]?)->st7.H[st.H.length]?=some (.cells 24 t.enc)->st7.H[st.H.length+1]?=some (.cells 87 pl)->st7.H[st.H.length+2]?=some (.cells 53 [v])->AccI E st7.I (posF (k0+1) t.l) v->st7.H[st.H.length+5]?=some .dfr->IOld st.I.length st.I st7.I->Q .nrm s4 [st.H.length+5] st7):
    obP (aCall prog k E (.fn 118) [.yld (st.H.length+6),.ptr (st.H.length+4) 0,.ptr (st.H.length+3) 0] ⟨st.H++ [.cells 24 enc,.cells 87 pl,.cells 53 [.nils],.cells 24 enc,.cells 3 [.int .i64 k0],.dfr,
        .loop .ready none 0 s4 [30,31] (.reg [⟨some 9,.mv (.t 30),none⟩]) (.block 1 (.reg [⟨some 32,.ld none (.t 8),none⟩,⟨some 33,.mv (.t 9),none⟩,⟨some 34,.bsl true 1 1 [.int .i64 0] [(0,1,.t 33)],none⟩,⟨some 35,.app 1 8 (.t 32) (.t 34),none⟩,⟨none,.st 1 (.t 8) (.t 35),none⟩])) (st.H.length+5)],st.I⟩)
      (rfQ (st.H.length+6) s4 [st.H.length+5] Q):=by
  subst henc;have hmw:=Xaa hE;have hcw:=Xb3 t;have hcl:t.l.length<=t.wt:=by obtain⟨op,s0,nn,l,line⟩:=t;have:=T.len_wtL l;simp only[T.wt,T.l_mk];omega
  generalize hB4:ABlk.loop LState.ready none 0 s4 [30,31] (ACode.reg [⟨some 9,.mv (.t 30),none⟩]) (ACode.block 1 (.reg [⟨some 32,.ld none (.t 8),none⟩,⟨some 33,.mv (.t 9),none⟩,⟨some 34,.bsl true 1 1 [.int .i64 0] [(0,1,.t 33)],none⟩,⟨some 35,.app 1 8 (.t 32) (.t 34),none⟩,⟨none,.st 1 (.t 8) (.t 35),none⟩])) (st.H.length+5)=lp
  have hyi:YOKP E (st.H.length+6) (st.H.length+7) 5 t.l k0 (fun i s'=>(∀j,j<st.H.length->s'.H[j]?=st.H[j]?)/\(∀q,st.H.length<=q->q<st.H.length+7->q≠st.H.length+2->s'.H[q]?=(st.H++ [.cells 24 t.enc,.cells 87 pl,.cells 53 [.nils],.cells 24 t.enc,.cells 3 [.int .i64 k0],.dfr,lp])[q]?)/\
      (∃v,s'.H[st.H.length+2]?=some (.cells 53 [v])/\AccI E s'.I (posF (k0+1) (t.l.take i)) v/\∀j,owns v=some j->st.I.length<=j)/\IOld st.I.length st.I s'.I):=by
    intro k2 hk2 i s' x hg hv hE' hB';obtain⟨k2,rfl⟩:∃k',k2=k'+1:=⟨k2 - 1,by omega⟩;obtain⟨v1,v2,⟨v,v3,v4,v5⟩,v6⟩:=hv;have hi:=uB hg;have hlp:s'.H[st.H.length+6]?=some lp:=by rw[v2 _ (by omega) (by omega) (by omega)];simp
    subst hB4;refine Xdx hlp rfl (by have:=hE.rob;omega) ?_;simp[hs4];refine Xfi hlp ?_;have w1:∀z,(s'.H.set (st.H.length+6) z)[st.H.length+2]?=some (.cells 53 [v]):=fun z=>by rw[List.getElem?_set_ne (by omega)];exact v3
    obtain⟨v',I',happ,hac,hio,how⟩:=(v4.push (1,1)).app (m:=st.I.length) (by have:=hE'.rom;simp;omega) (by have:=v6.len;simp;omega) v5 (by rw[Xdy];simp;omega) (s'.H.set (st.H.length+6) (ABlk.loop LState.busy none 0 s4 [30,31] (ACode.reg [⟨some 9,.mv (.t 30),none⟩]) (ACode.block 1 (.reg [⟨some 32,.ld none (.t 8),none⟩,⟨some 33,.mv (.t 9),none⟩,⟨some 34,.bsl true 1 1 [.int .i64 0] [(0,1,.t 33)],none⟩,⟨some 35,.app 1 8 (.t 32) (.t 34),none⟩,⟨none,.st 1 (.t 8) (.t 35),none⟩])) (st.H.length+5))) (pos k0 t.l i) s'.I.length;have hsn:=Xj1 (k0+1) t.l i hi;have hps:pos k0 t.l i=k0+1+(T.countL (t.l.take i):Nat):=rfl;rw[<-hps]at hsn;rw[<-hsn]at hac;have hmw0:∀j x y,Xaf E (st.H.length+j) x y=true:=fun j x y=>hmw _ _ _ (by omega);simp[hs4,h8,w1,Xap,wrC,happ,Xag,hmw0,hac.one,hac.cells];have hll:st.H.length+6<s'.H.length:=uB hlp;have hlp6:∀z w,((s'.H.set (st.H.length+6) z).set (st.H.length+2) w)[st.H.length+6]?=some z:=fun z w=>by rw[List.getElem?_set_ne (by omega),List.getElem?_set_self hll]
    have hil:=hio.len;refine Xd2 (hlp6 _ _) ?_;refine⟨rfl,⟨fun j hj=>?_,fun q hq1 hq2 hq3=>?_,⟨v',?_,hac,how⟩,v6.trans ((IOld.push _ _ _).trans hio)⟩,by simp,by simp at hil;exact Nat.le_of_succ_le hil,fun j x hj e=>?_⟩
    ·show(List.set _ _ _)[_]?=_;rw[List.getElem?_set_ne (by omega),List.getElem?_set_ne (by omega),List.getElem?_set_ne (by omega)];exact v1 j hj
    ·show(List.set _ _ _)[_]?=_;by_cases hq4:q=st.H.length+6
     ·subst hq4;rw[List.getElem?_set_self (by simp;omega)];simp
     ·rw[List.getElem?_set_ne (Ne.symm hq4),List.getElem?_set_ne (Ne.symm hq3),List.getElem?_set_ne (Ne.symm hq4)];exact v2 q hq1 hq2 hq3
    ·show(List.set _ _ _)[_]?=_;rw[List.getElem?_set_ne (by omega),List.getElem?_set_self (by simp;omega)]
    ·show(List.set _ _ _)[_]?=_;rw[List.getElem?_set_ne (by omega),List.getElem?_set_ne (by omega),List.getElem?_set_ne (by omega)];exact e
  have cI:=f118 t hw k0 h0 h1 (E:=E) (l:=st.H.length+6) (B:=st.H.length+7) (K:=5) (Inv:=_) ⟨fun i s1 s2 ⟨x1,x2,⟨v,x3,x4,x5⟩,x6⟩ hx hxi=>⟨fun j hj=>by rw[hx _ (by omega)];exact x1 j hj,fun q hq1 hq2 hq3=>by rw[hx q hq2];exact x2 q hq1 hq2 hq3,⟨v,by rw[hx _ (by omega)];exact x3,by rw[hxi];exact x4,x5⟩,by rw[hxi];exact x6⟩⟩ hyi (by omega)
    (st:=⟨st.H++ [.cells 24 t.enc,.cells 87 pl,.cells 53 [.nils],.cells 24 t.enc,.cells 3 [.int .i64 k0],.dfr,lp],st.I⟩) (b1:=st.H.length+4) (b2:=st.H.length+3)
    ⟨fun j hj=>List.getElem?_append_left hj,fun _ _ _ _=>rfl,⟨.nils,by simp,.inl ⟨by simp[posF],rfl⟩,fun j e=>by simp[owns]at e⟩,.refl _ _⟩ (hE.of (by simp) (by simp)) (by simp)
    (fun i s' ⟨_,x2,_⟩=>⟨by rw[x2 _ (by omega) (by omega) (by omega)];simp,by rw[x2 _ (by omega) (by omega) (by omega)];simp⟩) k (by omega) (by omega)
  refine Xac cI fun p hp=>?_;obtain⟨r,s7⟩:=p;obtain⟨r1,⟨r2,r3,⟨v,r4,r5, -⟩,r6⟩,r7,r8,r9⟩:=hp;simp only[List.length_append,List.length_cons,List.length_nil,Nat.zero_add,Nat.reduceAdd]at r1 r2 r3 r4 r5 r6 r7 r8 r9;subst r1;have h7:s7.H[st.H.length+6]?=some lp:=by rw[r3 _ (by omega) (by omega) (by omega)];simp
  subst hB4;refine⟨_,_,_,_,_,_,_,_,h7,nofun,?_⟩;simp[AJump.exit',hs4]
  have key:∀X:ABlk,Q .nrm s4 [st.H.length+5] ⟨s7.H.set (st.H.length+6) X,s7.I⟩:=fun X=>by
    have hh:∀j,j<st.H.length+6->(s7.H.set (st.H.length+6) X)[j]?=s7.H[j]?:=fun j hj=>List.getElem?_set_ne (by omega);rw[List.take_of_length_le (Nat.le_refl _)]at r5;refine hQ _ v (by simp;omega) (fun j hj=>(hh j (by omega)).trans (r2 j hj)) ?_ ?_ ((hh _ (by omega)).trans r4) r5 ?_ r6
    ·rw[hh _ (by omega),r3 _ (by omega) (by omega) (by omega)];simp
    ·rw[hh _ (by omega),r3 _ (by omega) (by omega) (by omega)];simp
    ·rw[hh _ (by omega),r3 _ (by omega) (by omega) (by omega)];simp
  exact key _
theorem Xra(fs:List Fn)(bs:List Int)(t:T)(k0:Int)(f:Nat)(to:Int)(h:Xe2 t.op mkTab=none):ownR fs bs t k0 f to=[]:=by
 have hn:∀a g,(a,g)∈mkTab->t.op≠a:=by
  have key:∀(l:List (Int×Nat)),Xe2 t.op l=none->∀a g,(a,g)∈l->t.op≠a:=fun l=>by
   induction l with
   |nil=>intro _ a g hm;cases hm
   |cons x r ih=>
    obtain⟨a0,g0⟩:=x;intro h a g hm;simp only[Xe2]at h;by_cases e:t.op=a0
    ·rw[if_pos e]at h;cases h
    ·rw[if_neg e]at h;rcases List.mem_cons.1 hm with hm|hm
     ·cases hm;exact e
     ·exact ih h a g hm
  exact key mkTab h
 have n1:=hn 1 119 (by simp[mkTab]);have n2:=hn 8 120 (by simp[mkTab]);have n3:=hn 11 121 (by simp[mkTab]);have n4:=hn 13 122 (by simp[mkTab]);have n5:=hn 14 122 (by simp[mkTab]);have n6:=hn 17 123 (by simp[mkTab]);have n7:=hn 21 124 (by simp[mkTab]);have n8:=hn 22 124 (by simp[mkTab]);have n9:=hn 23 124 (by simp[mkTab]);have n10:=hn 15 125 (by simp[mkTab]);have n11:=hn 16 125 (by simp[mkTab]);have n12:=hn 30 126 (by simp[mkTab]);have n13:=hn 36 127 (by simp[mkTab]);have n14:=hn 37 127 (by simp[mkTab]);simp[ownR,ownS,n1,n2,n3,n4,n5,n6,n7,n8,n9,n10,n11,n12,n13,n14]
theorem MkTo.upd{E mb F B rv st st' rs'}{H':List ABlk}(h:MkTo E mb F B rv st st' rs')(hm:mb<st.H.length)(hg:∀j,j<st.H.length->H'[j]?=st'.H[j]?)(hl:H'.length=st'.H.length):MkTo E mb F B rv st ⟨H',st'.I⟩ rs':=by obtain⟨⟨rv',⟨h1,h2⟩,h3⟩,h4,h5,h6⟩:=h;exact⟨⟨rv',⟨(hg _ hm).trans h1,h2⟩,h3⟩,fun j hj hn=>(hg j hj).trans (h4 j hj hn),by show _<=H'.length;omega,h6⟩
theorem Xky(fs:List Fn)(bs:List Int)(op n:Int)(f:Nat)(to:Int):∀(l:List T) (i:Nat) (a:Int) (j:Nat) (t:T),l[j]?=some t->
  rL fs bs op n f to i a (l.take (j+1))=rL fs bs op n f to i a (l.take j)++rT fs bs t (a+(T.countL (l.take j):Nat)) f (if op=38/\i+j=0 then vset bs n else to) (decide (op≠17)||decide (0<i+j))
 |[],i,a,j,t,h=>by simp at h
 |u::r,i,a,0,t,h=>by simp at h;subst h;simp[rL,T.countL]
 |u::r,i,a,j+1,t,h=>by have ih:=Xky fs bs op n f to r (i+1) (a+u.count) j t (by simpa using h);simp only[List.take_succ_cons,rL,T.countL,ih,List.append_assoc];rw[show i+1+j=i+(j+1) by omega,show a+(u.count:Int)+(T.countL (r.take j):Nat)=a+((u.count+T.countL (r.take j):Nat):Int) by push_cast;omega]
theorem Xhs(l:List T)(j:Nat)(h:j<=l.length):T.countL (l.take j)+(l.length - j)<=T.countL l:=by
 have:∀(l:List T) (j:Nat),T.countL l=T.countL (l.take j)+T.countL (l.drop j):=fun l=>by
  induction l with
  |nil=>intro j;simp[T.countL]
  |cons a r ih=>
   intro j;rcases j with _|j
   ·simp[T.countL]
   ·have:=ih j;simp only[List.take_succ_cons,List.drop_succ_cons,T.countL];omega
 have h1:=this l j;have h2:=T.len_le (l.drop j);rw[List.length_drop]at h2;omega
def Xd5:ACode:=(.seq (.reg [oO 55 (.bin .num .lss (.t 54) (.t 53))])
 (.seq (.cond (.t 55) (.skip) (.exit 2))
 (.seq (.block 3 (.seq (.reg [oV 56 54,oO 57 (.ia 5 (.t 52) (.t 54)),oO 58 (.ld (some 5) (.t 57)),oO 12 (.alloc 24 [(.int .i64 0),(.str ⟨#[]⟩),(.int .i64 0),.nils,(.int .i64 0)]),oV 11 56,oS (.st 5 (.t 12) (.t 58))])
 (.seq (.reg [oF 59 2 6,oL 60 59,oV 13 60])
 (.seq (.seq (.reg [oF 61 0 5,oL 62 61,oO 63 (.bin .num .eql (.t 62) (.c (.int .i64 38))),oV 64 63,oG 65 (.mv (.t 11)) 64 true,oG 66 (.bin .num .eql (.t 65) (.c (.int .i64 0))) 64 true,oO 67 (.pick (.t 64) (.t 66) (.c (.bool false)))])
 (.cond (.t 67) (.reg [oV 68 0,oF 69 2 5,oL 70 69,oO 71 (.call .no 82 [(.t 68),(.t 70)]),oV 13 71]) (.skip)))
 (.dreg [(oV 72 0,0),(oO 73 (.ld (some 5) (.t 12)),0),(oL 74 8,0),(oV 75 11,0),(oO 76 (.ia 1 (.t 74) (.t 75)),12),(oL 77 76,28),(oF 78 1 6,0),(oL 79 78,64),(oV 80 13,0),(oO 81 (.build [(.int .i64 0),(.int .i64 0),(.int .i64 0)] [(0,1,(.t 77)),(1,1,(.t 79)),(2,1,(.t 80))]),508),(oF 82 0 5,0),(oL 83 82,1024),(oO 84 (.bin .num .neq (.t 83) (.c (.int .i64 17))),3072),(oV 85 84,7168),(oG 86 (.mv (.t 11)) 85 false,15360),(oG 87 (.bin .num .gtr (.t 86) (.c (.int .i64 0))) 85 false,31744),(oO 88 (.pick (.t 85) (.c (.bool true)) (.t 87)),64512),(oO 89 (.call .no 52 [(.t 72),(.t 73),(.t 81),(.t 88)]),131071)])))))
 (.reg [oO 90 (.bin .num .add (.t 54) (.c (.int .i64 1))),oV 54 90]))))
theorem Xwx{E mb fs bs o o' rvj st' rs'}(hj':MkS E mb fs bs o o' rs' rvj st')(s0:ByteArray)(nn line:Int)(l:List T)(k0 to:Int)(f j b5 b6 b8:Nat)(qo:Option Nat)(s:List AV)(m:List Nat)
  (hs:s.length=91) (g0:lk s 0=.ptr mb 0) (g5:lk s 5=.ptr b5 0) (g6:lk s 6=.ptr b6 0) (g8:lk s 8=.ptr b8 0) (g52:lk s 52=.sl none l.length (T.encL l)) (g53:lk s 53=.int .i64 l.length) (g54:lk s 54=.int .i64 j)
  (t:T) (hg:l[j]?=some t) (hlb:l.length<=10000000000) (p5:st'.H[b5]?=some (.cells 24 [.int .i64 38,.str s0,.int .i64 nn,.sl none l.length (T.encL l),.int .i64 line])) (p6:st'.H[b6]?=some (.cells 87 [.int .i64 k0,.int .i64 f,.int .i64 to])) (p8:st'.H[b8]?=some (.cells 53 [.sl qo l.length ((posF (k0+1) l).map (.int .i64))]))
  (k:Nat) (hk:1<=k) (P:St->Prop) (Q:Q4) (hQ:∀s' st9,s'.length=91->lk s' 0=.ptr mb 0->lk s' 5=.ptr b5 0->lk s' 6=.ptr b6 0->lk s' 8=.ptr b8 0->lk s' 52=.sl none l.length (T.encL l)->lk s' 53=.int .i64 l.length->lk s' 54=.int .i64 ((j+1:Nat):Int)->P st9->Q .nrm s' m st9)
  (c:CallQ k E 52 [.ptr mb 0,.agg t.enc,.agg [.int .i64 (pos k0 l j),.int .i64 f,.int .i64 (vset bs nn)],.bool true] ⟨st'.H++ [.cells 24 t.enc],st'.I⟩ fun r st9=>r=.ok (.tup [])/\P st9)
  (j0:j=0) (hva:VarA bs nn (vset bs nn)):WP (aCall prog k) E k none Xd5 s m st' Q:=by
 have hc:j<l.length:=uB hg;have hrd:=T.rd hg;have hmw2:=Xaa hj'.wf;have hwj:=Xah (n:=(j:Int)+1) (by omega);have hw1:IntKind.i64.wrap 1=1:=Xah (by omega);have hpa:(posF (k0+1) l)[j]?=some (pos k0 l j):=Xe9 (k0+1) l j hc;have hb1:((posF (k0+1) l).map (AV.int IntKind.i64))[j]?=some (.int .i64 (pos k0 l j)):=by rw[List.getElem?_map,hpa];rfl
 have hb2:=uV hb1;have hb4:=uV hpa;rw[T.enc_eq]at hrd c;subst j0;have hb0:(posF (k0+1) l)[0]?=some (pos k0 l 0):=hpa;have c82:=fun X=>hj'.var hva X k hk;unfold Xd5;simp[hs,g0,g5,g6,g8,g52,g53,g54,hc,hrd,Xag,hmw2,wrC,Xae p5,Xae p6,Xae p8,Xak,c82,hc];simp[Nat.testBit,hs,g0,g5,g6,g8,Xap,wrC,Xae p5,Xae p6,Xae p8,hb1,hb2,hb4,hb0,Xak,hc];refine Xac c fun p hp=>?_;obtain⟨r,st9⟩:=p;obtain⟨r1,r2⟩:=hp;simp only at r1 r2;subst r1;simp[Nat.testBit,hs,Xak,g54,hwj,hw1,hc];exact hQ _ _ (by simp[hs]) (by simp[hs,g0]) (by simp[hs,g5]) (by simp[hs,g6]) (by simp[hs,g8]) (by simp[hs,g52]) (by simp[hs,g53]) (by simp[hs]) r2
theorem Xww{E mb fs bs o o' rvj st' rs'}(hj':MkS E mb fs bs o o' rs' rvj st')(s0:ByteArray)(nn line:Int)(l:List T)(k0 to:Int)(f j b5 b6 b8:Nat)(qo:Option Nat)(s:List AV)(m:List Nat)
  (hs:s.length=91) (g0:lk s 0=.ptr mb 0) (g5:lk s 5=.ptr b5 0) (g6:lk s 6=.ptr b6 0) (g8:lk s 8=.ptr b8 0) (g52:lk s 52=.sl none l.length (T.encL l)) (g53:lk s 53=.int .i64 l.length) (g54:lk s 54=.int .i64 j)
  (t:T) (hg:l[j]?=some t) (hlb:l.length<=10000000000) (p5:st'.H[b5]?=some (.cells 24 [.int .i64 38,.str s0,.int .i64 nn,.sl none l.length (T.encL l),.int .i64 line])) (p6:st'.H[b6]?=some (.cells 87 [.int .i64 k0,.int .i64 f,.int .i64 to])) (p8:st'.H[b8]?=some (.cells 53 [.sl qo l.length ((posF (k0+1) l).map (.int .i64))]))
  (k:Nat) (hk:1<=k) (P:St->Prop) (Q:Q4) (hQ:∀s' st9,s'.length=91->lk s' 0=.ptr mb 0->lk s' 5=.ptr b5 0->lk s' 6=.ptr b6 0->lk s' 8=.ptr b8 0->lk s' 52=.sl none l.length (T.encL l)->lk s' 53=.int .i64 l.length->lk s' 54=.int .i64 ((j+1:Nat):Int)->P st9->Q .nrm s' m st9)
  (c:CallQ k E 52 [.ptr mb 0,.agg t.enc,.agg [.int .i64 (pos k0 l j),.int .i64 f,.int .i64 (to)],.bool true] ⟨st'.H++ [.cells 24 t.enc],st'.I⟩ fun r st9=>r=.ok (.tup [])/\P st9)
  (j1:0<j):WP (aCall prog k) E k none Xd5 s m st' Q:=by
 have hc:j<l.length:=uB hg;have hrd:=T.rd hg;have hmw2:=Xaa hj'.wf;have hwj:=Xah (n:=(j:Int)+1) (by omega);have hw1:IntKind.i64.wrap 1=1:=Xah (by omega);have hpa:(posF (k0+1) l)[j]?=some (pos k0 l j):=Xe9 (k0+1) l j hc;have hb1:((posF (k0+1) l).map (AV.int IntKind.i64))[j]?=some (.int .i64 (pos k0 l j)):=by rw[List.getElem?_map,hpa];rfl
 have hb2:=uV hb1;have hb4:=uV hpa;rw[T.enc_eq]at hrd c;have j0:¬j=0:=by omega
 unfold Xd5;simp[hs,g0,g5,g6,g8,g52,g53,g54,hc,hrd,Xag,hmw2,wrC,Xae p5,Xae p6,Xae p8,Xak,j0,j1];simp[Nat.testBit,hs,g0,g5,g6,g8,Xap,wrC,Xae p5,Xae p6,Xae p8,hb1,hb2,hb4,hpa,Xak,j0,j1];refine Xac c fun p hp=>?_;obtain⟨r,st9⟩:=p;obtain⟨r1,r2⟩:=hp;simp only at r1 r2;subst r1;simp[Nat.testBit,hs,Xak,g54,hwj,hw1,j0,j1];exact hQ _ _ (by simp[hs]) (by simp[hs,g0]) (by simp[hs,g5]) (by simp[hs,g6]) (by simp[hs,g8]) (by simp[hs,g52]) (by simp[hs,g53]) (by simp[hs]) r2
theorem Xwv{E mb fs bs o o' rvj st' rs'}(hj':MkS E mb fs bs o o' rs' rvj st')(s0:ByteArray)(nn line:Int)(l:List T)(k0 to:Int)(f j b5 b6 b8:Nat)(qo:Option Nat)(s:List AV)(m:List Nat)
  (hs:s.length=91) (g0:lk s 0=.ptr mb 0) (g5:lk s 5=.ptr b5 0) (g6:lk s 6=.ptr b6 0) (g8:lk s 8=.ptr b8 0) (g52:lk s 52=.sl none l.length (T.encL l)) (g53:lk s 53=.int .i64 l.length) (g54:lk s 54=.int .i64 j)
  (t:T) (hg:l[j]?=some t) (hlb:l.length<=10000000000) (p5:st'.H[b5]?=some (.cells 24 [.int .i64 17,.str s0,.int .i64 nn,.sl none l.length (T.encL l),.int .i64 line])) (p6:st'.H[b6]?=some (.cells 87 [.int .i64 k0,.int .i64 f,.int .i64 to])) (p8:st'.H[b8]?=some (.cells 53 [.sl qo l.length ((posF (k0+1) l).map (.int .i64))]))
  (k:Nat) (hk:1<=k) (P:St->Prop) (Q:Q4) (hQ:∀s' st9,s'.length=91->lk s' 0=.ptr mb 0->lk s' 5=.ptr b5 0->lk s' 6=.ptr b6 0->lk s' 8=.ptr b8 0->lk s' 52=.sl none l.length (T.encL l)->lk s' 53=.int .i64 l.length->lk s' 54=.int .i64 ((j+1:Nat):Int)->P st9->Q .nrm s' m st9)
  (c:CallQ k E 52 [.ptr mb 0,.agg t.enc,.agg [.int .i64 (pos k0 l j),.int .i64 f,.int .i64 (to)],.bool false] ⟨st'.H++ [.cells 24 t.enc],st'.I⟩ fun r st9=>r=.ok (.tup [])/\P st9)
  (j0:j=0):WP (aCall prog k) E k none Xd5 s m st' Q:=by
 have hc:j<l.length:=uB hg;have hrd:=T.rd hg;have hmw2:=Xaa hj'.wf;have hwj:=Xah (n:=(j:Int)+1) (by omega);have hw1:IntKind.i64.wrap 1=1:=Xah (by omega);have hpa:(posF (k0+1) l)[j]?=some (pos k0 l j):=Xe9 (k0+1) l j hc;have hb1:((posF (k0+1) l).map (AV.int IntKind.i64))[j]?=some (.int .i64 (pos k0 l j)):=by rw[List.getElem?_map,hpa];rfl
 have hb2:=uV hb1;have hb4:=uV hpa;rw[T.enc_eq]at hrd c;subst j0;have hb0:(posF (k0+1) l)[0]?=some (pos k0 l 0):=hpa;unfold Xd5;simp[hs,g0,g5,g6,g8,g52,g53,g54,hc,hrd,Xag,hmw2,wrC,Xae p5,Xae p6,Xae p8,Xak,hc];simp[Nat.testBit,hs,g0,g5,g6,g8,Xap,wrC,Xae p5,Xae p6,Xae p8,hb1,hb2,hb4,hb0,Xak,hc];refine Xac c fun p hp=>?_;obtain⟨r,st9⟩:=p;obtain⟨r1,r2⟩:=hp;simp only at r1 r2;subst r1;simp[Nat.testBit,hs,Xak,g54,hwj,hw1,hc];exact hQ _ _ (by simp[hs]) (by simp[hs,g0]) (by simp[hs,g5]) (by simp[hs,g6]) (by simp[hs,g8]) (by simp[hs,g52]) (by simp[hs,g53]) (by simp[hs]) r2
theorem Xwu{E mb fs bs o o' rvj st' rs'}(hj':MkS E mb fs bs o o' rs' rvj st')(s0:ByteArray)(nn line:Int)(l:List T)(k0 to:Int)(f j b5 b6 b8:Nat)(qo:Option Nat)(s:List AV)(m:List Nat)
  (hs:s.length=91) (g0:lk s 0=.ptr mb 0) (g5:lk s 5=.ptr b5 0) (g6:lk s 6=.ptr b6 0) (g8:lk s 8=.ptr b8 0) (g52:lk s 52=.sl none l.length (T.encL l)) (g53:lk s 53=.int .i64 l.length) (g54:lk s 54=.int .i64 j)
  (t:T) (hg:l[j]?=some t) (hlb:l.length<=10000000000) (p5:st'.H[b5]?=some (.cells 24 [.int .i64 17,.str s0,.int .i64 nn,.sl none l.length (T.encL l),.int .i64 line])) (p6:st'.H[b6]?=some (.cells 87 [.int .i64 k0,.int .i64 f,.int .i64 to])) (p8:st'.H[b8]?=some (.cells 53 [.sl qo l.length ((posF (k0+1) l).map (.int .i64))]))
  (k:Nat) (hk:1<=k) (P:St->Prop) (Q:Q4) (hQ:∀s' st9,s'.length=91->lk s' 0=.ptr mb 0->lk s' 5=.ptr b5 0->lk s' 6=.ptr b6 0->lk s' 8=.ptr b8 0->lk s' 52=.sl none l.length (T.encL l)->lk s' 53=.int .i64 l.length->lk s' 54=.int .i64 ((j+1:Nat):Int)->P st9->Q .nrm s' m st9)
  (c:CallQ k E 52 [.ptr mb 0,.agg t.enc,.agg [.int .i64 (pos k0 l j),.int .i64 f,.int .i64 (to)],.bool true] ⟨st'.H++ [.cells 24 t.enc],st'.I⟩ fun r st9=>r=.ok (.tup [])/\P st9)
  (j1:0<j):WP (aCall prog k) E k none Xd5 s m st' Q:=by
 have hc:j<l.length:=uB hg;have hrd:=T.rd hg;have hmw2:=Xaa hj'.wf;have hwj:=Xah (n:=(j:Int)+1) (by omega);have hw1:IntKind.i64.wrap 1=1:=Xah (by omega);have hpa:(posF (k0+1) l)[j]?=some (pos k0 l j):=Xe9 (k0+1) l j hc;have hb1:((posF (k0+1) l).map (AV.int IntKind.i64))[j]?=some (.int .i64 (pos k0 l j)):=by rw[List.getElem?_map,hpa];rfl
 have hb2:=uV hb1;have hb4:=uV hpa;rw[T.enc_eq]at hrd c;have j0:¬j=0:=by omega
 unfold Xd5;simp[hs,g0,g5,g6,g8,g52,g53,g54,hc,hrd,Xag,hmw2,wrC,Xae p5,Xae p6,Xae p8,Xak,j0,j1];simp[Nat.testBit,hs,g0,g5,g6,g8,Xap,wrC,Xae p5,Xae p6,Xae p8,hb1,hb2,hb4,hpa,Xak,j0,j1];refine Xac c fun p hp=>?_;obtain⟨r,st9⟩:=p;obtain⟨r1,r2⟩:=hp;simp only at r1 r2;subst r1;simp[Nat.testBit,hs,Xak,g54,hwj,hw1,j0,j1];exact hQ _ _ (by simp[hs]) (by simp[hs,g0]) (by simp[hs,g5]) (by simp[hs,g6]) (by simp[hs,g8]) (by simp[hs,g52]) (by simp[hs,g53]) (by simp[hs]) r2
theorem Xwt{E mb fs bs o o' rvj st' rs'}(hj':MkS E mb fs bs o o' rs' rvj st')(op:Int)(s0:ByteArray)(nn line:Int)(l:List T)(k0 to:Int)(f j b5 b6 b8:Nat)(qo:Option Nat)(s:List AV)(m:List Nat)
  (hs:s.length=91) (g0:lk s 0=.ptr mb 0) (g5:lk s 5=.ptr b5 0) (g6:lk s 6=.ptr b6 0) (g8:lk s 8=.ptr b8 0) (g52:lk s 52=.sl none l.length (T.encL l)) (g53:lk s 53=.int .i64 l.length) (g54:lk s 54=.int .i64 j)
  (t:T) (hg:l[j]?=some t) (hlb:l.length<=10000000000) (p5:st'.H[b5]?=some (.cells 24 [.int .i64 op,.str s0,.int .i64 nn,.sl none l.length (T.encL l),.int .i64 line])) (p6:st'.H[b6]?=some (.cells 87 [.int .i64 k0,.int .i64 f,.int .i64 to])) (p8:st'.H[b8]?=some (.cells 53 [.sl qo l.length ((posF (k0+1) l).map (.int .i64))]))
  (k:Nat) (hk:1<=k) (P:St->Prop) (Q:Q4) (hQ:∀s' st9,s'.length=91->lk s' 0=.ptr mb 0->lk s' 5=.ptr b5 0->lk s' 6=.ptr b6 0->lk s' 8=.ptr b8 0->lk s' 52=.sl none l.length (T.encL l)->lk s' 53=.int .i64 l.length->lk s' 54=.int .i64 ((j+1:Nat):Int)->P st9->Q .nrm s' m st9)
  (c:CallQ k E 52 [.ptr mb 0,.agg t.enc,.agg [.int .i64 (pos k0 l j),.int .i64 f,.int .i64 (to)],.bool true] ⟨st'.H++ [.cells 24 t.enc],st'.I⟩ fun r st9=>r=.ok (.tup [])/\P st9)
  (o38:¬op=38) (o17:¬op=17):WP (aCall prog k) E k none Xd5 s m st' Q:=by
 have hc:j<l.length:=uB hg;have hrd:=T.rd hg;have hmw2:=Xaa hj'.wf;have hwj:=Xah (n:=(j:Int)+1) (by omega);have hw1:IntKind.i64.wrap 1=1:=Xah (by omega);have hpa:(posF (k0+1) l)[j]?=some (pos k0 l j):=Xe9 (k0+1) l j hc;have hb1:((posF (k0+1) l).map (AV.int IntKind.i64))[j]?=some (.int .i64 (pos k0 l j)):=by rw[List.getElem?_map,hpa];rfl
 have hb2:=uV hb1;have hb4:=uV hpa;rw[T.enc_eq]at hrd c;unfold Xd5;simp[hs,g0,g5,g6,g8,g52,g53,g54,hc,hrd,Xag,hmw2,wrC,Xae p5,Xae p6,Xae p8,Xak,o38,o17];simp[Nat.testBit,hs,g0,g5,g6,g8,Xap,wrC,Xae p5,Xae p6,Xae p8,hb1,hb2,hb4,hpa,Xak,o38,o17];refine Xac c fun p hp=>?_;obtain⟨r,st9⟩:=p;obtain⟨r1,r2⟩:=hp;simp only at r1 r2;subst r1;simp[Nat.testBit,hs,Xak,g54,hwj,hw1,o38,o17];exact hQ _ _ (by simp[hs]) (by simp[hs,g0]) (by simp[hs,g5]) (by simp[hs,g6]) (by simp[hs,g8]) (by simp[hs,g52]) (by simp[hs,g53]) (by simp[hs]) r2
theorem Jc3{E mb fs bs o o' rvj st' rs'}(hj':MkS E mb fs bs o o' rs' rvj st')(op:Int)(s0:ByteArray)(nn line:Int)(l:List T)(k0 to:Int)(f j b5 b6 b8:Nat)(qo:Option Nat)(s:List AV)(m:List Nat)
  (hs:s.length=91) (g0:lk s 0=.ptr mb 0) (g5:lk s 5=.ptr b5 0) (g6:lk s 6=.ptr b6 0) (g8:lk s 8=.ptr b8 0) (g52:lk s 52=.sl none l.length (T.encL l)) (g53:lk s 53=.int .i64 l.length) (g54:lk s 54=.int .i64 j)
  (t:T) (hg:l[j]?=some t) (hlb:l.length<=10000000000) (p5:st'.H[b5]?=some (.cells 24 [.int .i64 op,.str s0,.int .i64 nn,.sl none l.length (T.encL l),.int .i64 line])) (p6:st'.H[b6]?=some (.cells 87 [.int .i64 k0,.int .i64 f,.int .i64 to])) (p8:st'.H[b8]?=some (.cells 53 [.sl qo l.length ((posF (k0+1) l).map (.int .i64))]))
  (k:Nat) (hk:1<=k) (P:St->Prop) (Q:Q4) (hQ:∀s' st9,s'.length=91->lk s' 0=.ptr mb 0->lk s' 5=.ptr b5 0->lk s' 6=.ptr b6 0->lk s' 8=.ptr b8 0->lk s' 52=.sl none l.length (T.encL l)->lk s' 53=.int .i64 l.length->lk s' 54=.int .i64 ((j+1:Nat):Int)->P st9->Q .nrm s' m st9)
  (c:CallQ k E 52 [.ptr mb 0,.agg t.enc,.agg [.int .i64 (pos k0 l j),.int .i64 f,.int .i64 (if op=38/\j=0 then vset bs nn else to)],.bool (decide (op≠17)||decide (0<j))] ⟨st'.H++ [.cells 24 t.enc],st'.I⟩ fun r st9=>r=.ok (.tup [])/\P st9)
  (hva:op=38->VarA bs nn (vset bs nn)):WP (aCall prog k) E k none Xd5 s m st' Q:=by
 by_cases o38:op=38
 ·subst o38;by_cases j0:j=0
  ·exact Xwx hj' s0 nn line l k0 to f j b5 b6 b8 qo s m hs g0 g5 g6 g8 g52 g53 g54 t hg hlb p5 p6 p8 k hk P Q hQ (by simpa [j0]using c) j0 (hva rfl)
  ·exact Xww hj' s0 nn line l k0 to f j b5 b6 b8 qo s m hs g0 g5 g6 g8 g52 g53 g54 t hg hlb p5 p6 p8 k hk P Q hQ (by simpa [j0]using c) (by omega)
 by_cases o17:op=17
 ·subst o17;by_cases j0:j=0
  ·exact Xwv hj' s0 nn line l k0 to f j b5 b6 b8 qo s m hs g0 g5 g6 g8 g52 g53 g54 t hg hlb p5 p6 p8 k hk P Q hQ (by simpa [j0]using c) j0
  ·have j1:0<j:=by omega
   exact Xwu hj' s0 nn line l k0 to f j b5 b6 b8 qo s m hs g0 g5 g6 g8 g52 g53 g54 t hg hlb p5 p6 p8 k hk P Q hQ (by simpa [j1]using c) j1
 exact Xwt hj' op s0 nn line l k0 to f j b5 b6 b8 qo s m hs g0 g5 g6 g8 g52 g53 g54 t hg hlb p5 p6 p8 k hk P Q hQ (by simpa [o38,o17]using c) o38 o17
theorem f52(n:Nat)(ih:Xf1 n)(h79:Xs1 (n+1)):Xf1 (n+1):=by
  intro t ht hwb E mb fs bs o o' rs rv st h hvs k0 to f rd hk0 hk1 hrl hRW k hk;obtain⟨k,rfl⟩:=uK (k:=k) (by omega);by_cases hfn:isFn t.op
  ·have c79:=h79 t ht hwb hfn (h.more [.cells 24 t.enc,.cells 87 [.int .i64 k0,.int .i64 f,.int .i64 to]]) hvs k0 to f hk0 hk1 hrl hRW k (by omega);have hrT:rT fs bs t k0 f to true=rT fs bs t k0 f to rd:=by obtain⟨op,s0,nn,l,line⟩:=t;simp only[T.op_mk]at hfn;simp only[rT,hfn,if_true]
   rw[hrT]at c79;obtain⟨op,s0,nn,l,line⟩:=t;simp only[T.op_mk,T.enc]at*;have ho:op=41\/op=10:=by simpa [isFn]using hfn
   refine Xa4 rfl rfl (by decide) fun s hs e0 e1 e2 e3=>?_;rcases ho with rfl|rfl
   ·simp[hs,e0,e1,e2,Xak];refine Xac c79 fun p hp=>?_;obtain⟨r,st2⟩:=p;obtain⟨r1,r2⟩:=hp;simp only at r1;subst r1;simp[hs];exact⟨rfl,r2.pre (fun j hj=>List.getElem?_append_left hj) (by simp) List.prefix_rfl⟩
   ·simp[hs,e0,e1,e2,Xak];refine Xac c79 fun p hp=>?_;obtain⟨r,st2⟩:=p;obtain⟨r1,r2⟩:=hp;simp only at r1;subst r1;simp[hs];exact⟨rfl,r2.pre (fun j hj=>List.getElem?_append_left hj) (by simp) List.prefix_rfl⟩
  have c80:=f80 t k0 k (by omega) E ⟨st.H++ [.cells 24 t.enc,.cells 87 [.int .i64 k0,.int .i64 f,.int .i64 to],.cells 53 [.nils]],st.I⟩;have hE:=h.wf;have hmw:=Xaa hE;obtain⟨op,s0,nn,l,line⟩:=t;have hfo:op≠41/\op≠10:=by have h':¬(decide (op=41)||decide (op=10))=true:=hfn;simpa using h'
  obtain⟨ho1,ho2⟩:=hfo;simp only[T.op_mk,T.enc]at*;refine Xa4 rfl rfl (by decide) fun s hs e0 e1 e2 e3=>?_;simp[hs,e0,e1,e2,Xak,ho1,ho2];refine Xac c80 fun p hp=>?_;obtain⟨r,st2⟩:=p;obtain⟨r1,r2⟩:=hp;simp only at r1 r2;subst r1 r2;simp[hs];refine Xh4 (g:=118) (a:=[]) (b:=[.ptr (st.H.length+4) 0,.ptr (st.H.length+3) 0]) (by simp[hs]) (st.H.length+5) (st.H.length+6) (by simp) (by simp) ?_;simp;have g0:lk ((((((((((((((((s.set 5 (AV.ptr st.H.length 0)).set 6 (AV.ptr (st.H.length+1) 0)).set 14 (AV.ptr st.H.length 0)).set 15 (AV.int IntKind.i64 op)).set 16 (AV.bool false)).set 17 (AV.bool false)).set 18 (AV.ptr st.H.length 0)).set 19 (AV.int IntKind.i64 op)).set 20 (AV.bool false)).set 21 (AV.bool false)).set 8 (AV.ptr (st.H.length+2) 0)).set 26 (AV.agg [AV.int IntKind.i64 op,AV.str s0,AV.int IntKind.i64 nn,AV.sl none l.length (T.encL l),AV.int IntKind.i64 line])).set 27 (AV.ptr (st.H.length+1) 0)).set 28 (AV.int IntKind.i64 k0)).set 29 (AV.fn 118 [] [AV.ptr (st.H.length+3+1) 0,AV.ptr (st.H.length+3) 0]))) 0=.ptr mb 0:=by simp[hs,e0]
  have g3:lk ((((((((((((((((s.set 5 (AV.ptr st.H.length 0)).set 6 (AV.ptr (st.H.length+1) 0)).set 14 (AV.ptr st.H.length 0)).set 15 (AV.int IntKind.i64 op)).set 16 (AV.bool false)).set 17 (AV.bool false)).set 18 (AV.ptr st.H.length 0)).set 19 (AV.int IntKind.i64 op)).set 20 (AV.bool false)).set 21 (AV.bool false)).set 8 (AV.ptr (st.H.length+2) 0)).set 26 (AV.agg [AV.int IntKind.i64 op,AV.str s0,AV.int IntKind.i64 nn,AV.sl none l.length (T.encL l),AV.int IntKind.i64 line])).set 27 (AV.ptr (st.H.length+1) 0)).set 28 (AV.int IntKind.i64 k0)).set 29 (AV.fn 118 [] [AV.ptr (st.H.length+3+1) 0,AV.ptr (st.H.length+3) 0]))) 3=.bool rd:=by simp[hs,e3]
  have g5:lk ((((((((((((((((s.set 5 (AV.ptr st.H.length 0)).set 6 (AV.ptr (st.H.length+1) 0)).set 14 (AV.ptr st.H.length 0)).set 15 (AV.int IntKind.i64 op)).set 16 (AV.bool false)).set 17 (AV.bool false)).set 18 (AV.ptr st.H.length 0)).set 19 (AV.int IntKind.i64 op)).set 20 (AV.bool false)).set 21 (AV.bool false)).set 8 (AV.ptr (st.H.length+2) 0)).set 26 (AV.agg [AV.int IntKind.i64 op,AV.str s0,AV.int IntKind.i64 nn,AV.sl none l.length (T.encL l),AV.int IntKind.i64 line])).set 27 (AV.ptr (st.H.length+1) 0)).set 28 (AV.int IntKind.i64 k0)).set 29 (AV.fn 118 [] [AV.ptr (st.H.length+3+1) 0,AV.ptr (st.H.length+3) 0]))) 5=.ptr st.H.length 0:=by simp[hs]
  have g6:lk ((((((((((((((((s.set 5 (AV.ptr st.H.length 0)).set 6 (AV.ptr (st.H.length+1) 0)).set 14 (AV.ptr st.H.length 0)).set 15 (AV.int IntKind.i64 op)).set 16 (AV.bool false)).set 17 (AV.bool false)).set 18 (AV.ptr st.H.length 0)).set 19 (AV.int IntKind.i64 op)).set 20 (AV.bool false)).set 21 (AV.bool false)).set 8 (AV.ptr (st.H.length+2) 0)).set 26 (AV.agg [AV.int IntKind.i64 op,AV.str s0,AV.int IntKind.i64 nn,AV.sl none l.length (T.encL l),AV.int IntKind.i64 line])).set 27 (AV.ptr (st.H.length+1) 0)).set 28 (AV.int IntKind.i64 k0)).set 29 (AV.fn 118 [] [AV.ptr (st.H.length+3+1) 0,AV.ptr (st.H.length+3) 0]))) 6=.ptr (st.H.length+1) 0:=by simp[hs]
  have g8:lk ((((((((((((((((s.set 5 (AV.ptr st.H.length 0)).set 6 (AV.ptr (st.H.length+1) 0)).set 14 (AV.ptr st.H.length 0)).set 15 (AV.int IntKind.i64 op)).set 16 (AV.bool false)).set 17 (AV.bool false)).set 18 (AV.ptr st.H.length 0)).set 19 (AV.int IntKind.i64 op)).set 20 (AV.bool false)).set 21 (AV.bool false)).set 8 (AV.ptr (st.H.length+2) 0)).set 26 (AV.agg [AV.int IntKind.i64 op,AV.str s0,AV.int IntKind.i64 nn,AV.sl none l.length (T.encL l),AV.int IntKind.i64 line])).set 27 (AV.ptr (st.H.length+1) 0)).set 28 (AV.int IntKind.i64 k0)).set 29 (AV.fn 118 [] [AV.ptr (st.H.length+3+1) 0,AV.ptr (st.H.length+3) 0]))) 8=.ptr (st.H.length+2) 0:=by simp[hs]
  have gl:((((((((((((((((s.set 5 (AV.ptr st.H.length 0)).set 6 (AV.ptr (st.H.length+1) 0)).set 14 (AV.ptr st.H.length 0)).set 15 (AV.int IntKind.i64 op)).set 16 (AV.bool false)).set 17 (AV.bool false)).set 18 (AV.ptr st.H.length 0)).set 19 (AV.int IntKind.i64 op)).set 20 (AV.bool false)).set 21 (AV.bool false)).set 8 (AV.ptr (st.H.length+2) 0)).set 26 (AV.agg [AV.int IntKind.i64 op,AV.str s0,AV.int IntKind.i64 nn,AV.sl none l.length (T.encL l),AV.int IntKind.i64 line])).set 27 (AV.ptr (st.H.length+1) 0)).set 28 (AV.int IntKind.i64 k0)).set 29 (AV.fn 118 [] [AV.ptr (st.H.length+3+1) 0,AV.ptr (st.H.length+3) 0]))).length=91:=by simp[hs]
  generalize ((((((((((((((((s.set 5 (AV.ptr st.H.length 0)).set 6 (AV.ptr (st.H.length+1) 0)).set 14 (AV.ptr st.H.length 0)).set 15 (AV.int IntKind.i64 op)).set 16 (AV.bool false)).set 17 (AV.bool false)).set 18 (AV.ptr st.H.length 0)).set 19 (AV.int IntKind.i64 op)).set 20 (AV.bool false)).set 21 (AV.bool false)).set 8 (AV.ptr (st.H.length+2) 0)).set 26 (AV.agg [AV.int IntKind.i64 op,AV.str s0,AV.int IntKind.i64 nn,AV.sl none l.length (T.encL l),AV.int IntKind.i64 line])).set 27 (AV.ptr (st.H.length+1) 0)).set 28 (AV.int IntKind.i64 k0)).set 29 (AV.fn 118 [] [AV.ptr (st.H.length+3+1) 0,AV.ptr (st.H.length+3) 0])))=s4 at g0 g3 g5 g6 g8 gl⊢;clear hs e0 e1 e2 e3 s;refine rf52 hE (.mk op s0 nn l line) hwb k0 hk0 (by omega) _ gl g8 _ _ rfl k (by omega) _ ?_;intro st7 v q1 q2 q3 q4 q5 q6 q7 q8;simp only[T.enc,T.l_mk]at q3 q6;rw[Xmj,Xtg];have hml:=(List.getElem?_eq_some_iff.1 h.now.1).1
  have hM7:MkTo E mb (.sl o' fs.length (encFs fs)) (.sl o bs.length (bs.map (.int .i64))) rv st st7 rs:=by
    refine⟨⟨rv,⟨by rw[q2 _ hml];exact h.now.1,?_⟩,.inl rfl⟩,fun j hj _=>q2 j hj,by omega,q8.len,fun j x _ e=>q8.get j x (uB e) e⟩;rcases h.now.2 with h2|⟨j,e,hj,hi⟩
    ·exact .inl h2
    ·exact .inr ⟨j,e,hj,q8.get _ _ (uB hi) hi⟩
  obtain⟨rv7,h7⟩:=h.next hM7 (by omega);have c81:=Xdm (f81 mb k (by omega) E st7 h7.wf);have hfind:Xew false (.int .i64 op) (Xnb mb)=some ((Xe2 op mkTab).map fun g=>.fn g [.ptr mb 0] []):=Xpc mb op mkTab;have hl7:=T.len_le l;have hcn:(T.mk op s0 nn l line).count=1+T.countL l:=rfl;rw[hcn]at hk1 hrl;obtain⟨hloc,hRWL⟩:LocOK fs bs (.mk op s0 nn l line) f/\RWL fs bs f l:=by simp only[RW,isFn,ho1,ho2,decide_false,Bool.or_self,Bool.false_eq_true,if_false]at hRW;exact hRW
  refine Xco (fun s m st'=>m=[st.H.length+5]/\s.length=91/\lk s 0=.ptr mb 0/\lk s 5=.ptr st.H.length 0/\lk s 6=.ptr (st.H.length+1) 0/\lk s 8=.ptr (st.H.length+2) 0/\
    MkTo E mb (.sl o' fs.length (encFs fs)) (.sl o bs.length (bs.map (.int .i64))) rv7 st7 st' (rs++if rd then ownR fs bs (.mk op s0 nn l line) k0 f to else [])) ?_ ?_
  ·rcases hf:Xe2 op mkTab with _|g
   ·have hon:=Xra fs bs (.mk op s0 nn l line) k0 f to hf;rw[hf]at hfind;simp only[Option.map_none]at hfind;simp[Nat.testBit,gl,g0,g5,q3,Xae q3,c81,lkpA,Xc7,hfind,Xak];refine⟨rfl,rfl,by simp[gl],by simp[gl,g0],by simp[gl,g5],by simp[gl,g6],by simp[gl,g8],?_⟩;rw[hon];simpa using MkTo.more h7.now [.map (Xnb mb)]
   ·rw[hf]at hfind;simp only[Option.map_some]at hfind;cases rd
    ·simp[Nat.testBit,gl,g0,g3,g5,q3,Xae q3,c81,lkpA,Xc7,hfind,Xak];refine⟨rfl,rfl,by simp[gl],by simp[gl,g0],by simp[gl,g5],by simp[gl,g6],by simp[gl,g8],?_⟩;simpa using MkTo.more h7.now [.map (Xnb mb)]
    ·have cg:=Xxk (h7.more [.map (Xnb mb)]) (.mk op s0 nn l line) k0 to f hk0 (by simp only[T.l_mk];omega) hloc v q6.val (by simp only[T.l_mk];omega) (by simp only[T.l_mk];omega) g hf k (by have:=T.len_wtL l;simp only[T.wt]at hk;simp only[T.l_mk];omega);simp only[T.enc]at cg;simp[Nat.testBit,gl,g0,g3,g5,g6,g8,q3,q4,q5,Xae q3,Xae q4,Xae q5,c81,lkpA,Xc7,hfind,Xak];refine Xac cg fun p hp=>?_;obtain⟨r,st8⟩:=p;obtain⟨r1,r2⟩:=hp;simp only at r1;subst r1;simp[gl];refine⟨rfl,rfl,by simp[gl],by simp[gl,g0],by simp[gl,g5],by simp[gl,g6],by simp[gl,g8],?_⟩;simpa using r2.pre (st:=st7) (fun j hj=>List.getElem?_append_left hj) (by simp) List.prefix_rfl
  clear g0 g3 g5 g6 g8 gl s4;rintro s _ st8 ⟨rfl,hs,g0,g5,g6,g8,hM8⟩;generalize hown:(if rd=true then ownR fs bs (T.mk op s0 nn l line) k0 f to else [])=own at hM8
  have hownl:own.length<=2+l.length:=by
    rw[<-hown];split
    ·have:=Xi3 fs bs (.mk op s0 nn l line) k0 f to (posF (k0+1) l);simpa [ownR]using this
    ·simp
  have hrT:rT fs bs (T.mk op s0 nn l line) k0 f to rd=own++rL fs bs op nn f to 0 (k0+1) l:=by simp only[rT,isFn,ho1,ho2,decide_false,Bool.or_self,Bool.false_eq_true,if_false,hown]
  rw[hrT];have kp:∀st' rs',MkTo E mb (.sl o' fs.length (encFs fs)) (.sl o bs.length (bs.map (.int .i64))) rv7 st7 st' rs'->∀j,j<st7.H.length->j≠mb->st'.H[j]?=st7.H[j]?:=fun _ _ q=>q.old;have q38:=kp _ _ hM8 _ (by omega) (by omega:st.H.length≠mb);rw[q3]at q38;simp[hs,g5,q38]
  refine Xau (fun n s m st'=> ∃(j:Nat),j<=l.length/\n=l.length - j/\s.length=91/\m=[st.H.length+5]/\lk s 0=.ptr mb 0/\lk s 5=.ptr st.H.length 0/\lk s 6=.ptr (st.H.length+1) 0/\lk s 8=.ptr (st.H.length+2) 0/\lk s 52=.sl none l.length (T.encL l)/\lk s 53=.int .i64 l.length/\lk s 54=.int .i64 j/\
      MkTo E mb (.sl o' fs.length (encFs fs)) (.sl o bs.length (bs.map (.int .i64))) rv7 st7 st' (rs++own++rL fs bs op nn f to 0 (k0+1) (l.take j))) l.length (by have:=T.len_wtL l;simp only[T.wt]at hk;omega)
      ⟨0,by omega,by omega,by simp[hs],rfl,by simp[hs,g0],by simp[hs,g5],by simp[hs,g6],by simp[hs,g8],by simp[hs],by simp[hs],by simp[hs],by simpa [rL]using hM8⟩ ?_
  clear hs g0 g5 g6 g8 q38 s hM8 st8;rintro _ s m st' ⟨j,hj,rfl,hs,rfl,g0,g5,g6,g8,g52,g53,g54,hto⟩;by_cases hc:j<l.length;rotate_left
  ·have:j=l.length:=by omega
   subst this;rw[List.take_length]at hto;have h5:=kp _ _ hto (st.H.length+5) (by omega) (by omega);rw[q7]at h5;obtain⟨H',et,hl',hg'⟩:=Xc9 [st.H.length+5] st' (by simp) (fun d hd=>by simp only[List.mem_singleton]at hd;subst hd;exact h5);try unfold Xd5
   simp[hs,g53,g54,endQ,et];refine⟨rfl,?_⟩;have hM:=hM7.andThen h7.now hto;rw[List.append_assoc]at hM;exact hM.upd hml (fun j hj=>hg' j (by simp;omega)) hl'
  obtain⟨t,hg⟩:∃t,l[j]?=some t:=⟨_,List.getElem?_eq_getElem hc⟩;have hrd:=T.rd hg;have hwj:=Xah (n:=(j:Int)+1) (by omega);have hwt:=Xcm hg;have hct:=Xbt hg;have hcr:=Xhs l (j+1) (by omega);have hrLl:=rL_len fs bs op nn f to 0 (k0+1) (l.take j);have hsn:=Xky fs bs op nn f to l 0 (k0+1) j t hg;have hps:k0+1+(T.countL (l.take j):Nat)=pos k0 l j:=rfl;rw[hps,Nat.zero_add]at hsn;have hlt:(l.take j).length=j:=by simp;omega
  obtain⟨rvj,hj'⟩:=h7.next hto (by simp;omega);have kj:∀q,q<st.H.length+7->q≠mb->st'.H[q]?=st7.H[q]?:=fun q hq hn=>kp _ _ hto q (by omega) hn;have p5:st'.H[st.H.length]?=some (.cells 24 [.int .i64 op,.str s0,.int .i64 nn,.sl none l.length (T.encL l),.int .i64 line]):=by rw[kj _ (by omega) (by omega)];exact q3
  have p6:st'.H[st.H.length+1]?=some (.cells 87 [.int .i64 k0,.int .i64 f,.int .i64 to]):=by rw[kj _ (by omega) (by omega)];exact q4
  have p8:st'.H[st.H.length+2]?=some (.cells 53 [v]):=by rw[kj _ (by omega) (by omega)];exact q5
  obtain⟨qo,hv⟩:∃qo,v=.sl qo l.length ((posF (k0+1) l).map (.int .i64)):=by
    have hpl:=Xdy (k0+1) l;rcases q6.val with⟨e, -⟩|⟨-,qo,e⟩
    ·rw[e]at hpl;simp at hpl;omega
    ·rw[hpl]at e;exact⟨qo,e⟩
  have hpos:0<=pos k0 l j/\pos k0 l j+(t.count:Nat)<=1000000000:=by simp only[pos];omega
  have hmem:=Xqk hRWL hg;subst hv;have c:=ih t (by simp only[T.wt]at ht;omega) (by simp only[T.wt]at hwb;omega) (hj'.more [.cells 24 t.enc]) hvs (pos k0 l j) (if op=38/\j=0 then vset bs nn else to) f (decide (op≠17)||decide (0<j)) hpos.1 hpos.2 (by simp;omega) hmem k (by simp only[T.wt]at hk;omega);refine Jc3 hj' op s0 nn line l k0 to f j st.H.length (st.H.length+1) (st.H.length+2) qo s [st.H.length+5] hs g0 g5 g6 g8 g52 g53 g54 t hg (by have:=T.len_wtL l;simp only[T.wt]at hwb;omega) p5 p6 p8 k (by omega) _ _ ?_ c (fun h38=>hloc.var (.inr (.inr h38)));intro s' st9 hs n0 n5 n6 n8 n52 n53 n54 r2;refine⟨_,by omega,j+1,by omega,rfl,hs,rfl,n0,n5,n6,n8,n52,n53,n54,?_⟩;rw[hsn,<-List.append_assoc];exact hto.andThen hj'.now (r2.pre (fun q hq=>List.getElem?_append_left hq) (by simp) List.prefix_rfl)
def Xhv:ACode:=(.seq (.reg [oV 13 106])
 (.reg [oO 14 (.alloc 24 [(.int .i64 0),(.str ⟨#[]⟩),(.int .i64 0),.nils,(.int .i64 0)]),oS (.st 5 (.t 14) (.t 107))]))
def Xdt:ACode:=(.block 1 (.seq (.seq (.reg [oF 108 0 14,oL 109 108,oO 110 (.bin .num .neq (.t 109) (.c (.int .i64 32)))])
 (.cond (.t 110) (.exit 1) (.skip)))
 (.reg [oL 111 3,oO 112 (.ld (some 5) (.t 14)),oV 113 13,oL 114 6,oL 115 12,oO 116 (.build [(.int .i64 0),(.int .i64 0),(.int .i64 0)] [(0,1,(.t 113)),(1,1,(.t 114)),(2,1,(.t 115))]),oO 117 (.call .no 52 [(.t 111),(.t 112),(.t 116),(.c (.bool true))])])))
def y79c:ACode:=(.seq (.reg [oL 96 3,oL 97 6,oO 98 (.call .no 51 [(.t 96),(.t 97)]),oV 95 98,oO 99 (.ext 0 (.t 95)),oO 100 (.ext 1 (.t 95)),oO 101 (.ext 2 (.t 95)),oO 12 (.alloc 3 [(.int .i64 0)]),oV 10 99,oV 11 100,oS (.st 1 (.t 12) (.t 101))])
 (.seq (.skip)
 (.seq (.reg [oO 102 (.ld (some 5) (.t 4)),oF 103 0 5,oL 104 103,oO 105 (.call .no 80 [(.t 102),(.t 104)])])
 (.block 0 (.rf (.t 105) [106,107] Xhv Xdt)))))
def y79b:ACode:=(.seq (.seq (.reg [oV 60 7,oF 61 1 4,oL 62 61,oO 63 (.call .full 116 [(.t 60),(.t 62)]),oV 9 63])
 (.seq (.dreg [(oF 64 0 4,0),(oL 65 64,1),(oO 66 (.bin .num .eql (.t 65) (.c (.int .i64 10))),3),(oV 67 66,7),(oG 68 (.mv (.t 9)) 67 true,15),(oG 69 (.ld none (.t 3)) 67 true,15),(oG 70 (.nck (.t 69)) 67 true,47),(oG 71 (.fa 0 (.t 70)) 67 true,111),(oG 72 (.ld none (.t 71)) 67 true,239),(oG 73 (.ld none (.t 6)) 67 true,15),(oG 74 (.ia 5 (.t 72) (.t 73)) 67 true,1007),(oG 75 (.fa 2 (.t 74)) 67 true,2031),(oG 76 (.ld none (.t 75)) 67 true,4079),(oG 77 (.bin .num .geq (.t 68) (.t 76)) 67 true,8191),(oO 78 (.pick (.t 67) (.t 77) (.c (.bool false))),16383)])
 (.cond (.t 78) (.seq (.dreg [(oL 79 3,0),(oN 80 79,1),(oF 81 1 80,3),(oL 82 81,7),(oL 83 6,0),(oO 84 (.ia 1 (.t 82) (.t 83)),31),(oL 85 84,63),(oV 86 9,0),(oO 87 (.bin .num .add (.t 85) (.t 86)),255),(oF 88 2 8,511),(oS (.st 1 (.t 88) (.t 87)),1023)])
 (.reg [oL 89 3,oF 90 1 5,oL 91 90,oO 92 (.ld (some 9) (.t 8)),oO 93 (.bsl true 9 1 [(.int .i64 0),(.int .i64 0),(.int .i64 0),(.int .i64 0),(.int .i64 0),(.int .i64 0),(.int .i64 0),(.str ⟨#[]⟩),.nils] [(0,9,(.t 92))]),oO 94 (.call .no 117 [(.t 89),(.t 91),(.t 93)])])) (.skip))))
 y79c)
def y79a:ACode:=.seq (.reg [oO 3 (.box 78 (.t 0)),oO 4 (.box 24 (.t 1)),oO 5 (.box 87 (.t 2))])
 (.scope (.seq (.reg [oF 15 2 4,oL 16 15,oO 6 (.alloc 3 [(.int .i64 0)]),oS (.st 1 (.t 6) (.t 16))])
 (.seq (.dreg [(oL 17 3,0),(oN 18 17,1),(oF 19 0 18,3),(oL 20 19,7),(oL 21 6,0),(oO 22 (.ia 5 (.t 20) (.t 21)),31),(oF 23 3 22,63),(oL 24 23,127),(oV 7 24,255)])
 (.seq (.reg [oF 25 0 5,oL 26 25,oL 27 6,oO 28 (.build [(.int .i64 0),(.int .i64 0),(.int .i64 0),(.int .i64 0),(.int .i64 0),(.int .i64 0),(.int .i64 0),(.str ⟨#[]⟩),.nils] [(0,1,(.c (.int .i64 2))),(2,1,(.t 26)),(5,1,(.t 27))]),oO 8 (.alloc 55 [(.int .i64 0),(.int .i64 0),(.int .i64 0),(.int .i64 0),(.int .i64 0),(.int .i64 0),(.int .i64 0),(.str ⟨#[]⟩),.nils]),oS (.st 9 (.t 8) (.t 28))])
 (.seq (.seq (.reg [oF 29 0 4,oL 30 29,oO 31 (.bin .num .eql (.t 30) (.c (.int .i64 41)))])
 (.cond (.t 31) (.dreg [(oL 32 3,0),(oN 33 32,1),(oF 34 1 33,3),(oL 35 34,7),(oF 36 1 5,0),(oL 37 36,16),(oO 38 (.ia 1 (.t 35) (.t 37)),63),(oL 39 38,127),(oL 40 3,0),(oN 41 40,256),(oF 42 0 41,768),(oL 43 42,1792),(oF 44 1 5,0),(oL 45 44,4096),(oO 46 (.ia 5 (.t 43) (.t 45)),16128),(oF 47 3 46,32512),(oL 48 47,65280),(oF 49 1 4,0),(oL 50 49,131072),(oO 51 (.call .full 116 [(.t 48),(.t 50)]),524032),(oO 52 (.bin .num .add (.t 39) (.t 51)),1048575),(oF 53 2 8,2097151),(oS (.st 1 (.t 53) (.t 52)),4194303)]) (.skip)))
 (.seq (.reg [oL 54 3,oF 55 1 5,oL 56 55,oO 57 (.ld (some 9) (.t 8)),oO 58 (.bsl true 9 1 [(.int .i64 0),(.int .i64 0),(.int .i64 0),(.int .i64 0),(.int .i64 0),(.int .i64 0),(.int .i64 0),(.str ⟨#[]⟩),.nils] [(0,9,(.t 57))]),oO 59 (.call .no 117 [(.t 54),(.t 56),(.t 58)])])
 y79b))))))
theorem MkS.at'{E mb fs bs o o' rs rv st st1}(h:MkS E mb fs bs o o' rs rv st)(hm:st1.H[mb]?=st.H[mb]?)(hl:st.H.length<=st1.H.length)(hi:st1.I=st.I):MkS E mb fs bs o o' rs rv st1:=by obtain⟨h1,h2,h3,⟨h4,h5⟩,h6⟩:=h;exact⟨h1.of (H:=st1.H) (I:=st1.I) hl (by rw[hi];exact Nat.le_refl _),h2,h3,⟨hm.trans h4,by rw[hi];exact h5⟩,h6⟩
theorem MkTo.round{E mb F B rs1 rv rv1 st st1 st2 rs2}{l:Nat}{lp busy:ABlk}{X:List ABlk}(h:MkTo E mb F B rv st st1 rs1)(hm:MkR E mb F B rs1 rv1 st1)(hl:l<st.H.length)(hlm:l≠mb)(h1:st1.H[l]?=some lp)
  (k:MkTo E mb F B rv1 ⟨(st1.H++X).set l busy,st1.I⟩ st2 rs2):MkTo E mb F B rv st ⟨st2.H.set l lp,st2.I⟩ rs2:=by
 obtain⟨⟨rv',⟨a1,a2⟩,a3⟩,h3,h4,h5⟩:=h;have e:rv'=rv1:=by have:=a1.symm.trans hm.1;simpa using this
 subst e;obtain⟨⟨rv2,⟨b1,b2⟩,b3⟩,k3,k4,k5⟩:=k;simp only[List.length_set,List.length_append]at k3 k4 k5;refine⟨⟨rv2,⟨by show(List.set _ _ _)[_]?=_;rw[List.getElem?_set_ne hlm];exact b1,b2⟩,a3.next h5.len b3⟩,fun j hj hn=>?_,by show _<=(List.set _ _ _).length;simp;omega,h5.next a3 k5⟩;show(List.set _ _ _)[_]?=_;by_cases hjl:j=l
 ·subst hjl;rw[List.getElem?_set_self (by omega),<-h1];exact h3 j hj hn
 ·rw[List.getElem?_set_ne (Ne.symm hjl),k3 j (by omega) hn,List.getElem?_set_ne (Ne.symm hjl),List.getElem?_append_left (by omega)];exact h3 j hj hn
theorem Xok(fs:List Fn)(bs:List Int)(g:Nat):∀(l:List T) (a:Int) (j:Nat) (t:T),l[j]?=some t->
  rB fs bs g a (l.take (j+1))=rB fs bs g a (l.take j)++(if t.op=32 then rT fs bs t (a+(T.countL (l.take j):Nat)) g (behV fs bs g+2) true else [])
 |[],a,j,t,h=>by simp at h
 |u::r,a,0,t,h=>by simp at h;subst h;simp[rB,T.countL]
 |u::r,a,j+1,t,h=>by have ih:=Xok fs bs g r (a+u.count) j t (by simpa using h);simp only[List.take_succ_cons,rB,T.countL,ih,List.append_assoc];rw[show a+(u.count:Int)+(T.countL (r.take j):Nat)=a+((u.count+T.countL (r.take j):Nat):Int) by push_cast;omega]
theorem Jc1{E mb fs bs o o' rs rv st}(h:MkS E mb fs bs o o' rs rv st)(n:Nat)(ih:Xf1 n)(s4:List AV)(hs4:s4.length=118)(b0 b3 b12 g L d:Nat)(th:Int)(e3:lk s4 3=.ptr b0 0)(e6:lk s4 6=.ptr b3 0)(e12:lk s4 12=.ptr b12 0)
  (p0:st.H[b0]?=some (.cells 78 [.ptr mb 0])) (p3:st.H[b3]?=some (.cells 3 [.int .i64 g])) (p12:st.H[b12]?=some (.cells 3 [.int .i64 th])) (hL:st.H[L]?=some (.loop .ready none 0 s4 [106,107] Xhv Xdt d)) (hLm:L≠mb) (hLr:E.rob<=L)
  (x:T) (hx:x.wt<=n) (hxw:x.wt<=10000000000) (kx:Int) (hk0:0<=kx) (hk1:kx+(x.count:Nat)<=1000000000) (hrl:rs.length+3*x.count<=10000000000) (hRW:x.op=32->RW fs bs g x) (hvs:∀G∈fs,G.vars.length<=500) (k:Nat) (hk:20*x.wt+1101<=k):
  Xnw k E L [.int .i64 kx,.agg x.enc] st fun r st'=>r=.ok (.bool true)/\MkTo E mb (.sl o' fs.length (encFs fs)) (.sl o bs.length (bs.map (.int .i64))) rv st st' (rs++if x.op=32 then rT fs bs x kx g th true else []):=by
 obtain⟨k,rfl⟩:=uK (k:=k) (by omega);have hmw:=Xaa h.wf;have hll:L<st.H.length:=uB hL;generalize hlp:ABlk.loop .ready none 0 s4 [106,107] Xhv Xdt d=lp at hL;have hL':=hL;rw[<-hlp]at hL';refine Xdx hL' rfl hLr ?_;have hxe:=T.enc_eq x;rw[hxe];unfold Xhv;simp[hs4,Xag,hmw,wrC];rw[<-hxe];refine Xfi (Xae hL') ?_;generalize hbz:ABlk.loop LState.busy none 0 s4 [106,107] _ Xdt d=bz;have w:∀b y,b<st.H.length->b≠L->st.H[b]?=some y->((st.H++ [ABlk.cells 24 x.enc]).set L bz)[b]?=some y:=fun b y hb hn e=>by rw[List.getElem?_set_ne (Ne.symm hn),List.getElem?_append_left hb];exact e
 have hne:∀b y,st.H[b]?=some y->(∀z,y=.cells 78 z->b≠L):=fun b y e z hz hb=>by subst hb;rw[hL]at e;subst hz;rw[<-hlp]at e;cases e
 have q0:=w b0 _ (uB p0) (fun e=>by rw[e,hL,<-hlp]at p0;cases p0) p0;have q3:=w b3 _ (uB p3) (fun e=>by rw[e,hL,<-hlp]at p3;cases p3) p3;have q12:=w b12 _ (uB p12) (fun e=>by rw[e,hL,<-hlp]at p12;cases p12) p12;have qx:((st.H++ [ABlk.cells 24 x.enc]).set L bz)[st.H.length]?=some (.cells 24 x.enc):=by rw[List.getElem?_set_ne (by omega)];simp
 have hS:MkS E mb fs bs o o' rs rv ⟨(st.H++ [ABlk.cells 24 x.enc]).set L bz,st.I⟩:=h.at' (by
  show(List.set _ _ _)[_]?=_;rw[List.getElem?_set_ne hLm,List.getElem?_append_left (List.getElem?_eq_some_iff.1 h.now.1).1]) (by simp) rfl
 have hR:MkTo E mb (.sl o' fs.length (encFs fs)) (.sl o bs.length (bs.map (.int .i64))) rv st st rs:=MkTo.refl h.now;have c52:=fun h32=>ih x hx hxw hS hvs kx th g true hk0 hk1 hrl (hRW h32) k (by omega);generalize hst2:(⟨(st.H++ [ABlk.cells 24 x.enc]).set L bz,st.I⟩:St)=st2 at hS c52;have hH2:st2.H=(st.H++ [ABlk.cells 24 x.enc]).set L bz:=by rw[<-hst2]
 have hI2:st2.I=st.I:=by rw[<-hst2]
 rw[<-hH2]at q0 q3 q12 qx;have hz:st2.H[L]?=some bz:=by rw[hH2];exact List.getElem?_set_self (by simp;omega)
 rw[hxe]at qx c52;by_cases h32:x.op=32
 ·have c:=c52 h32;unfold Xdt;simp[hs4,e3,e6,e12,q0,q3,q12,qx,h32,Xap,wrC]at c⊢;refine Xac c fun p hp=>?_;obtain⟨r,s6⟩:=p;obtain⟨r1,r2⟩:=hp;simp only at r1;subst r1;simp[hs4];have h6:=r2.old L (uB hz) hLm;rw[hz,<-hbz]at h6;refine Xd2 h6 ⟨rfl,?_⟩;rw[<-hst2]at r2;have:=hR.round h.now hll hLm hL r2;rw[<-hlp]at this;rw[if_pos h32];exact this
 ·unfold Xdt;simp[hs4,e3,e6,e12,q0,q3,q12,qx,h32];have h6:=hz;rw[<-hbz]at h6;refine Xd2 h6 ⟨rfl,?_⟩;have:=hR.round h.now hll hLm hL (rs2:=rs) (X:=[ABlk.cells 24 x.enc]) (busy:=bz) (st2:=st2) (by rw[hst2];exact MkTo.refl hS.now);rw[<-hlp]at this;rw[if_neg h32,List.append_nil];exact this
theorem rf79{E mb fs bs o o' rs rv st}(h:MkS E mb fs bs o o' rs rv st)(n:Nat)(ih:Xf1 n)(t:T)(htw:t.wt<=n+1)(hw:t.wt<=10000000000)(s4:List AV)(hs4:s4.length=118)(b0 b3 g:Nat)(e3:lk s4 3=.ptr b0 0)(e6:lk s4 6=.ptr b3 0)(e12:lk s4 12=.ptr st.H.length 0)
  (p0:st.H[b0]?=some (.cells 78 [.ptr mb 0])) (p3:st.H[b3]?=some (.cells 3 [.int .i64 g])) (k0:Int) (hk0:0<=k0) (hk1:k0+(t.count:Nat)<=1000000000) (hrl:rs.length+3*T.countL t.l<=10000000000) (hRW:RWB fs bs g t.l) (hvs:∀G∈fs,G.vars.length<=500) (k:Nat) (hk:20*t.wt+1090<=k)
  (enc:List AV) (henc:enc=t.enc) (Q:Q4) (hQ:∀st',MkTo E mb (.sl o' fs.length (encFs fs)) (.sl o bs.length (bs.map (.int .i64))) rv st st' (rs++rB fs bs g (k0+1) t.l)->st.H.length+5<=st'.H.length->st'.H[st.H.length+3]?=some .dfr->Q .nrm s4 [st.H.length+3] st'):
  obP (aCall prog k E (.fn 118) [.yld (st.H.length+4),.ptr (st.H.length+2) 0,.ptr (st.H.length+1) 0] ⟨st.H++ [.cells 3 [.int .i64 (behV fs bs g+2)],.cells 24 enc,.cells 3 [.int .i64 k0],.dfr,.loop .ready none 0 s4 [106,107] Xhv Xdt (st.H.length+3)],st.I⟩)
   (rfQ (st.H.length+4) s4 [st.H.length+3] Q):=by
 subst henc;have hml:mb<st.H.length:=(List.getElem?_eq_some_iff.1 h.now.1).1;have hcw:=Xb3 t;have hbl:=List.getElem?_eq_some_iff.1 p0;have hbl3:=List.getElem?_eq_some_iff.1 p3;have hS3:=h.more [.cells 3 [.int .i64 (behV fs bs g+2)],.cells 24 t.enc,.cells 3 [.int .i64 k0],.dfr,.loop .ready none 0 s4 [106,107] Xhv Xdt (st.H.length+3)];generalize hst3:(⟨st.H++ [.cells 3 [.int .i64 (behV fs bs g+2)],.cells 24 t.enc,.cells 3 [.int .i64 k0],.dfr,.loop .ready none 0 s4 [106,107] Xhv Xdt (st.H.length+3)],st.I⟩:St)=st3 at hS3⊢;have hH3:st3.H=st.H++ [.cells 3 [.int .i64 (behV fs bs g+2)],.cells 24 t.enc,.cells 3 [.int .i64 k0],.dfr,.loop .ready none 0 s4 [106,107] Xhv Xdt (st.H.length+3)]:=by rw[<-hst3]
 have hI3:st3.I=st.I:=by rw[<-hst3]
 have hl3:st3.H.length=st.H.length+5:=by rw[hH3];simp
 have z0:st3.H[b0]?=some (.cells 78 [.ptr mb 0]):=by rw[hH3];exact Xae p0
 have z3:st3.H[b3]?=some (.cells 3 [.int .i64 g]):=by rw[hH3];exact Xae p3
 have z12:st3.H[st.H.length]?=some (.cells 3 [.int .i64 (behV fs bs g+2)]):=by rw[hH3];simp
 have z1:st3.H[st.H.length+1]?=some (.cells 24 t.enc):=by rw[hH3];simp
 have z2:st3.H[st.H.length+2]?=some (.cells 3 [.int .i64 k0]):=by rw[hH3];simp
 have zd:st3.H[st.H.length+3]?=some .dfr:=by rw[hH3];simp
 have zl:st3.H[st.H.length+4]?=some (.loop .ready none 0 s4 [106,107] Xhv Xdt (st.H.length+3)):=by rw[hH3];simp
 have hlm:st.H.length+4≠mb:=by omega
 have hb0:b0≠mb:=fun e=>by have:=h.now.1;rw[<-e,p0]at this;cases this
 have hb3:b3≠mb:=fun e=>by have:=h.now.1;rw[<-e,p3]at this;cases this
 clear hst3;have hwt:T.wtL t.l+1<=t.wt:=by obtain⟨op,s0,nn,l,x⟩:=t;simp only[T.wt,T.l_mk];omega
 have hct:T.countL t.l+1=t.count:=by obtain⟨op,s0,nn,l,x⟩:=t;simp only[T.count,T.l_mk];omega
 have hyi:YOKP E (st.H.length+4) (st.H.length+5) (20*T.wtL t.l+1101) t.l k0 (fun i s'=>MkTo E mb (.sl o' fs.length (encFs fs)) (.sl o bs.length (bs.map (.int .i64))) rv st3 s' (rs++rB fs bs g (k0+1) (t.l.take i))):=by
  intro k2 hk2 i s' x hg hv hE' hB';have hct2:=Xbt hg;have hct3:=Xc1 t.l (i+1);have hxw:=Xcm hg;have hrb:=rB_len fs bs g (k0+1) (t.l.take i);obtain⟨rv',hS'⟩:=hS3.next hv (by simp;omega);have hkeep:∀q z,q≠mb->st3.H[q]?=some z->s'.H[q]?=some z:=fun q z hq e=>by rw[hv.old q (uB e) hq];exact e
  have c:=Jc1 hS' n ih s4 hs4 b0 b3 st.H.length g (st.H.length+4) (st.H.length+3) (behV fs bs g+2) e3 e6 e12 (hkeep _ _ hb0 z0) (hkeep _ _ hb3 z3) (hkeep _ _ (by omega) z12) (hkeep _ _ hlm zl) hlm (by have:=h.wf.rob;omega)
   x (by omega) (by omega) (pos k0 t.l i) (by simp only[pos];omega) (by simp only[pos];omega) (by simp;omega) (fun ho=>Xql hRW hg ho) hvs k2 (by omega)
  refine Xac c fun p hp=>?_;obtain⟨r,s6⟩:=p;obtain⟨r1,r2⟩:=hp;have hsn:=Xok fs bs g t.l (k0+1) i x hg;refine⟨r1,?_,r2.len,r2.ifr.len,fun q z hq e=>?_⟩
  ·show MkTo _ _ _ _ _ _ _ (rs++rB fs bs g (k0+1) (t.l.take (i+1)));rw[hsn,<-List.append_assoc];exact hv.andThen hS'.now r2
  ·rw[r2.old q (uB e) (by omega)];exact e
 have cI:=f118 t hw k0 hk0 (by omega) (E:=E) (l:=st.H.length+4) (B:=st.H.length+5) (K:=20*T.wtL t.l+1101) (Inv:=_) ⟨fun i s1 s2 hv hx hxi=>?_⟩ hyi (by omega) (st:=st3) (b1:=st.H.length+2) (b2:=st.H.length+1)
  (by simpa [rB]using MkTo.refl hS3.now) hS3.wf (by omega) (fun i s' hv=>⟨by rw[hv.old _ (by omega) (by omega)];exact z2,by rw[hv.old _ (by omega) (by omega)];exact z1⟩) k (by omega) (by omega)
 ·refine Xac cI fun p hp=>?_;obtain⟨r,s7⟩:=p;obtain⟨r1,r2,r3,r4,r5⟩:=hp;simp only at r1 r2 r3;subst r1;rw[List.take_of_length_le (Nat.le_refl _)]at r2;have h7:s7.H[st.H.length+4]?=some (.loop .ready none 0 s4 [106,107] Xhv Xdt (st.H.length+3)):=by rw[r2.old _ (by omega) hlm];exact zl
  refine⟨_,_,_,_,_,_,_,_,h7,nofun,?_⟩;show Q .nrm s4 _ _;have r2':=r2.pre (st:=st) (fun j hj=>by rw[hH3];exact List.getElem?_append_left hj) (by omega) (by rw[hI3];exact List.prefix_rfl);refine hQ _ (r2'.upd hml (fun j hj=>List.getElem?_set_ne (by omega)) (by simp)) (by simp;omega) ?_;show(List.set _ _ _)[_]?=_;rw[List.getElem?_set_ne (by omega),r2.old _ (by omega) (by omega)];exact zd
 ·obtain⟨⟨rv',⟨a1,a2⟩,a3⟩,a4,a5,a6⟩:=hv
  have hll:st3.H.length<=s2.H.length:=by
   have e:s2.H[st.H.length+4]?=some (.loop .ready none 0 s4 [106,107] Xhv Xdt (st.H.length+3)):=by rw[hx _ (by omega),a4 _ (by omega) hlm];exact zl
   have:=uB e;omega
  exact⟨⟨rv',⟨by rw[hx _ (by omega)];exact a1,by rw[hxi];exact a2⟩,a3⟩,fun j hj hn=>by rw[hx j (by omega)];exact a4 j hj hn,hll,by rw[hxi];exact a6⟩
theorem f79c{E mb fs bs o o' rs rv st}(h:MkS E mb fs bs o o' rs rv st)(n:Nat)(ih:Xf1 n)(t:T)(htw:t.wt<=n+1)(hw:t.wt<=10000000000)(s:List AV)(hs:s.length=118)(b0 b1 b2 b3 g:Nat)(k0:Int)(fv tv:AV)(e3:lk s 3=.ptr b0 0)(e4:lk s 4=.ptr b1 0)(e5:lk s 5=.ptr b2 0)(e6:lk s 6=.ptr b3 0)
  (p0:st.H[b0]?=some (.cells 78 [.ptr mb 0])) (p1:st.H[b1]?=some (.cells 24 t.enc)) (p2:st.H[b2]?=some (.cells 87 [.int .i64 k0,fv,tv])) (p3:st.H[b3]?=some (.cells 3 [.int .i64 g]))
  (hg:BehA fs bs g (behV fs bs g)) (hk0:0<=k0) (hk1:k0+(t.count:Nat)<=1000000000) (hrl:rs.length+3*T.countL t.l<=10000000000) (hRW:RWB fs bs g t.l) (hvs:∀G∈fs,G.vars.length<=500) (k:Nat) (hk:20*t.wt+1090<=k):
  WP (aCall prog k) E k none y79c s [] st (endQ [] fun r st'=>r=.ok (.tup [])/\MkTo E mb (.sl o' fs.length (encFs fs)) (.sl o bs.length (bs.map (.int .i64))) rv st st' (rs++rB fs bs g (k0+1) t.l)):=by
 have hmw:=Xaa h.wf;have hml:mb<st.H.length:=(List.getElem?_eq_some_iff.1 h.now.1).1;have c51:=h.beh hg [] k (by omega);rw[List.append_nil]at c51;have c51:aCall prog k E (.fn 51) [.ptr mb 0,.int .i64 g] st=some (.ok (.tup [.int .i64 (behV fs bs g),.int .i64 (behV fs bs g+1),.int .i64 (behV fs bs g+2)]),st):=c51;have c80:=f80 t k0 k (by omega) E ⟨st.H++ [.cells 3 [.int .i64 (behV fs bs g+2)]],st.I⟩;generalize hte:t.enc=enc at p1 c80;have hel:enc.length=5:=by rw[<-hte];simp
 obtain⟨v1,v2,v3,v4,v5,rfl⟩:∃a b c d e,enc=[a,b,c,d,e]:=by rcases enc with _|⟨a,_|⟨b,_|⟨c,_|⟨d,_|⟨e,_|⟨f,r⟩⟩⟩⟩⟩⟩<;>simp at hel;exact⟨a,b,c,d,e,rfl⟩
 unfold y79c;simp[hs,e3,e4,e5,e6,p0,p1,p2,p3,c51,Xag,hmw,wrC,Xae p0,Xae p1,Xae p2];refine Xac c80 fun p hp=>?_;obtain⟨r,st2⟩:=p;obtain⟨r1,r2⟩:=hp;simp only at r1 r2;subst r1 r2;simp[hs];refine Xh4 (g:=118) (a:=[]) (b:=[.ptr (st.H.length+2) 0,.ptr (st.H.length+1) 0]) (by simp[hs]) (st.H.length+3) (st.H.length+4) (by simp) (by simp) ?_;simp;refine rf79 h n ih t htw hw _ (by simp[hs]) b0 b3 g (by simp[hs,e3]) (by simp[hs,e6]) (by simp[hs]) p0 p3 k0 hk0 hk1 hrl hRW hvs k hk _ hte.symm _ ?_;intro st' hM hl hd;rw[Xmj];obtain⟨H',et,hl',hg'⟩:=Xc9 [st.H.length+3] st' (by simp) (fun d hd'=>by simp only[List.mem_singleton]at hd';subst hd';exact hd);simp only[endQ,et,Xfp];simp;exact hM.upd hml (fun j hj=>hg' j (by simp;omega)) hl'
def rFn(x n:Int):Rule:={kind:=2,x:=x,n:=n}
theorem Jea{E mb fs bs o o' rs rv st}(h:MkS E mb fs bs o o' rs rv st)(s0:ByteArray)(nn line:Int)(l:List T)(s:List AV)(hs:s.length=118)(b1:Nat)(vg:List ByteArray)(hvl:vg.length<=1000000000000000)(e4:lk s 4=.ptr b1 0)(e7:lk s 7=.sl none vg.length (vg.map .str))
  (p1:st.H[b1]?=some (.cells 24 (T.mk 41 s0 nn l line).enc)) (k:Nat) (hk:vg.length+3<=k) (Q:Q4)
  (hQ:∀s',s'.length=118->lk s' 3=lk s 3->lk s' 4=lk s 4->lk s' 5=lk s 5->lk s' 6=lk s 6->WP (aCall prog k) E k none y79c s' [] st Q):
  WP (aCall prog k) E k none y79b s [] st Q:=by
 have c116:=(f116 none vg s0 (by omega) k (by omega)).full (E:=E) (st:=st) rfl h.wf;simp only[T.enc]at p1;simp only[i64]at c116;unfold y79b;simp[hs,e4,e7,p1,c116,Xak];simp[Nat.testBit,hs,e4,p1,Xak];exact hQ _ (by simp[hs]) (by simp[hs]) (by simp[hs]) (by simp[hs]) (by simp[hs])
theorem Jd9{E mb fs bs o o' rs rv st}(h:MkS E mb fs bs o o' rs rv st)(s0:ByteArray)(nn line:Int)(l:List T)(s:List AV)(hs:s.length=118)(b0 b1 b3 g:Nat)(G:Fn)(hG:fs[g]?=some G)(hvl:G.vars.length<=1000000000000000)(e3:lk s 3=.ptr b0 0)(e4:lk s 4=.ptr b1 0)(e6:lk s 6=.ptr b3 0)(e7:lk s 7=.sl none G.vars.length (G.vars.map .str))
  (p0:st.H[b0]?=some (.cells 78 [.ptr mb 0])) (p1:st.H[b1]?=some (.cells 24 (T.mk 10 s0 nn l line).enc)) (p3:st.H[b3]?=some (.cells 3 [.int .i64 g])) (hn:¬(G.params:Int)<=oi (ixS s0 G.vars)) (k:Nat) (hk:G.vars.length+3<=k) (Q:Q4)
  (hQ:∀s',s'.length=118->lk s' 3=lk s 3->lk s' 4=lk s 4->lk s' 5=lk s 5->lk s' 6=lk s 6->WP (aCall prog k) E k none y79c s' [] st Q):
  WP (aCall prog k) E k none y79b s [] st Q:=by
 have c116:=(f116 none G.vars s0 (by omega) k (by omega)).full (E:=E) (st:=st) rfl h.wf;simp only[T.enc]at p1;simp only[i64]at c116;have hm:=h.now.1;have hgl:=uB hG;have hp:(encFs fs)[g*5+2]?=some (.int .i64 G.params):=Xb2 hG 2 (by omega);have hp2:=uV hp;have hp3:g*5+2<fs.length*5:=by omega
 unfold y79b;simp[hs,e4,e7,p1,c116,Xak];simp[Nat.testBit,hs,e3,e4,e6,p0,p1,p3,hm,hgl,hp,hp2,hp3,hn,Xak];exact hQ _ (by simp[hs]) (by simp[hs]) (by simp[hs]) (by simp[hs]) (by simp[hs])
theorem Jd8{E mb fs bs o o' rs rv st}(h:MkS E mb fs bs o o' rs rv st)(s0:ByteArray)(nn line:Int)(l:List T)(s:List AV)(hs:s.length=118)(b0 b1 b2 b3 b4 g:Nat)(k0 f to x0 bg:Int)(G:Fn)(hG:fs[g]?=some G)(hvl:G.vars.length<=1000000000000000)(hbg:bs[g]?=some bg)(hbb:0<=bg/\bg<=1000000000000000)
  (e3:lk s 3=.ptr b0 0) (e4:lk s 4=.ptr b1 0) (e5:lk s 5=.ptr b2 0) (e6:lk s 6=.ptr b3 0) (e7:lk s 7=.sl none G.vars.length (G.vars.map .str)) (e8:lk s 8=.ptr b4 0)
  (p0:st.H[b0]?=some (.cells 78 [.ptr mb 0])) (p1:st.H[b1]?=some (.cells 24 (T.mk 10 s0 nn l line).enc)) (p2:st.H[b2]?=some (.cells 87 [.int .i64 k0,.int .i64 f,.int .i64 to])) (p3:st.H[b3]?=some (.cells 3 [.int .i64 g]))
  (p4:st.H[b4]?=some (.cells 55 [.int .i64 2,.int .i64 0,.int .i64 x0,.int .i64 0,.int .i64 0,.int .i64 nn,.int .i64 0,.str ⟨#[]⟩,.nils])) (hb:b0≠b4/\b1≠b4/\b2≠b4/\b3≠b4) (hmw4:∀x y,Xaf E b4 x y=true) (hmb:mb≠b4) (hn:(G.params:Int)<=oi (ixS s0 G.vars)) (k:Nat) (hk:G.vars.length+10<=k) (Q:Q4)
  (hQ:∀s' st',s'.length=118->lk s' 3=lk s 3->lk s' 4=lk s 4->lk s' 5=lk s 5->lk s' 6=lk s 6->MkTo E mb (.sl o' fs.length (encFs fs)) (.sl o bs.length (bs.map (.int .i64))) rv ⟨st.H.set b4 (.cells 55 [.int .i64 2,.int .i64 0,.int .i64 (bg+oi (ixS s0 G.vars)),.int .i64 0,.int .i64 0,.int .i64 nn,.int .i64 0,.str ⟨#[]⟩,.nils]),st.I⟩ st' (rs++ [(rFn (bg+oi (ixS s0 G.vars)) nn).at f])->WP (aCall prog k) E k none y79c s' [] st' Q):
  WP (aCall prog k) E k none y79b s [] st Q:=by
 have c116:=(f116 none G.vars s0 (by omega) k (by omega)).full (E:=E) (st:=st) rfl h.wf;simp only[T.enc]at p1;simp only[i64]at c116;have hm:=h.now.1;have hgl:=uB hG;have hp:(encFs fs)[g*5+2]?=some (.int .i64 G.params):=Xb2 hG 2 (by omega);have hp2:=uV hp;have hp3:g*5+2<fs.length*5:=by omega
 have hb1:(bs.map (AV.int IntKind.i64))[g]?=some (.int .i64 bg):=by rw[List.getElem?_map,hbg];rfl
 have hb2:=uV hb1;have hb3:=uB hbg;have hb4:=uV hbg
 have hoi: -1<=oi (ixS s0 G.vars)/\oi (ixS s0 G.vars)<=1000000000000000:=by
  rcases hx:ixS s0 G.vars with _|i
  ·simp[oi]
  ·have:=Xlx s0 _ i hx;simp[oi];omega
 have hwx:=Xah (n:=bg+oi (ixS s0 G.vars)) (by omega);obtain⟨n0,n1,n2,n3⟩:=hb;have hl4:=uB p4;have w:∀b y z,b≠b4->st.H[b]?=some y->(st.H.set b4 z)[b]?=some y:=fun b y z hb e=>by rw[List.getElem?_set_ne (Ne.symm hb)];exact e
 have q0:=fun z=>w b0 _ z n0 p0;have q1:=fun z=>w b1 _ z n1 p1;have q2:=fun z=>w b2 _ z n2 p2;have q3:=fun z=>w b3 _ z n3 p3;have qm:=fun z=>w mb _ z hmb hm;have q4:∀z,(st.H.set b4 z)[b4]?=some z:=fun z=>List.getElem?_set_self hl4;have hS:∀z,MkS E mb fs bs o o' rs rv ⟨st.H.set b4 z,st.I⟩:=fun z=>h.at' (by show(List.set _ _ _)[_]?=_;rw[List.getElem?_set_ne (Ne.symm hmb)]) (by simp) rfl;have c117:=fun z=>(hS z).add (X:=[]) (Y:=[(1,9)]) [rFn (bg+oi (ixS s0 G.vars)) nn] (some st.I.length) f (by simp) k (by simp;omega);simp only[encR,rFn,Rule.enc,List.append_nil]at c117;unfold y79b;simp[hs,e4,e7,p1,c116,Xak];simp[Nat.testBit,hs,e3,e4,e6,p0,p1,p3,hm,hgl,hp,hp2,hp3,hn,Xak];simp[Nat.testBit,hs,e3,e4,e6,e8,p0,p1,p3,p4,hm,hgl,hb1,hb2,hb3,hb4,hwx,Xag,hmw4,wrC,Xak];simp[Nat.testBit,hs,e3,e5,e8,q0,q2,q4,Xap,wrC];refine Xac (c117 _) fun p hp=>?_;obtain⟨r,st2⟩:=p;obtain⟨r1,r2⟩:=hp;simp only at r1;subst r1;simp[hs];exact hQ _ _ (by simp[hs]) (by simp[hs]) (by simp[hs]) (by simp[hs]) (by simp[hs]) r2
theorem Xhn{rs Q Q' x s m}{st:St}(h:endQ rs Q x s m st)(hq:∀r st,Q r st->Q' r st):endQ rs Q' x s m st:=by
 cases x with
 |exit j=>exact h
 |pan v=>exact Xac h fun _ p=>hq _ _ p
 |nrm=>exact Xac h fun _ p=>Xac p fun _ p=>hq _ _ p
 |ret=>exact Xac h fun _ p=>Xac p fun _ p=>hq _ _ p
def orL(a b:Bool):Bool:=a||b
@[congr] theorem Xxn{a a' b:Bool}(h:∀_:Unit,Xce a=a'):orL a b=orL a' b:=by rw[<-h (),Xbd]
@[simp] theorem Jat(b:Bool):orL true b=true:=rfl
@[simp] theorem Xxm(b:Bool):orL false b=b:=rfl
def andL(a b:Bool):Bool:=a && b
@[congr] theorem Xwc{a a' b:Bool}(h:∀_:Unit,Xce a=a'):andL a b=andL a' b:=by rw[<-h (),Xbd]
@[simp] theorem Jaf(b:Bool):andL true b=b:=rfl
@[simp] theorem Xwb(b:Bool):andL false b=false:=rfl
def Xmz(x:Option (Rt AV×St))(v:AV):Bool:=match x with
 |some (.ok u,_)=>u.beq v
 |_=>false
@[congr] theorem Xtj{x x':Option (Rt AV×St)}{v:AV}(h:∀_:Unit,Xce x=x'):Xmz x v=Xmz x' v:=by rw[<-h (),Xbd]
@[simp] theorem Jao(u:AV)(st:St)(v:AV):Xmz (some (.ok u,st)) v=u.beq v:=rfl
section
variable(C:CSem)(E:Env)
def allD(m:Nat)(st:St):List Done->Bool
 |[]=>true
 |d::r=>orL (m.testBit d.i) (Xmz (aExec tabs C E d.o.op d.s st) d.v) && allD m st r
end
section
variable{C:CSem}{E:Env}
@[simp] theorem Jb9(m:Nat)(st:St):allD C E m st []=true:=nr rfl
@[simp ↓] theorem Jag(m:Nat)(st:St)(i:Nat)(o:AOper)(s:List AV)(v:AV)(r:List Done):allD C E m st (⟨i,o,s,v⟩::r)=andL (orL (m.testBit i) (Xmz (aExec tabs C E o.op s st) v)) (allD C E m st r):=nr rfl
theorem Xvj(m:Nat)(st:St)(ds:List Done):(ds.all fun d=>m.testBit d.i||sameAt tabs C E d.o d.s st d.v)=allD C E m st ds:=by
 induction ds with
 |nil=>rfl
 |cons d r ih=>rw[List.all_cons,ih];rfl
theorem Xaj(i o m r ds sts s st)(Q:QR)(v st'):nxtD C E 2 i o m r ds sts s st Q (.ok v,st')=wG (allD C E m st' ds) (WD C E (i+1) r ds ((some i,st')::sts) (put s o.dst v) st' Q):=by rw[Xan,Xvj]
theorem Xao(o s v m e x q st r):Xbb tabs C E o s v m ((some e,x)::(q,st)::r)=orL (m.testBit e) (andL (Xmz (aExec tabs C E o.op s st) v) (Xbb tabs C E o s v m ((q,st)::r))):=by rw[Xav];rfl
end
theorem f79x(n:Nat)(ih:Xf1 n)(s0:ByteArray)(nn line:Int)(l:List T)(ht:(T.mk 41 s0 nn l line).wt<=n+1)(hwb:(T.mk 41 s0 nn l line).wt<=10000000000){E mb fs bs o o' rs rv st}(h:MkS E mb fs bs o o' rs rv st)(hvs:∀G∈fs,G.vars.length<=500)(k0 to:Int)(f:Nat)(hk0:0<=k0)
  (hk1:k0+((T.mk 41 s0 nn l line).count:Nat)<=1000000000) (hrl:rs.length+3*(T.mk 41 s0 nn l line).count<=10000000000) (hRW:RW fs bs f (T.mk 41 s0 nn l line)) (k:Nat) (hk:20*(T.mk 41 s0 nn l line).wt+1099<=k):
  CallQ k E 79 [.ptr mb 0,.agg (T.mk 41 s0 nn l line).enc,.agg [.int .i64 k0,.int .i64 f,.int .i64 to]] st (Made E mb fs bs o o' rv st (rs++rT fs bs (T.mk 41 s0 nn l line) k0 f to true)):=by
 obtain⟨k,rfl⟩:=uK (k:=k) (by omega);simp only[RW,isFn,decide_true,Bool.or_true,Bool.true_or,if_true]at hRW;obtain⟨hbf,⟨g,rfl,hbg⟩,hRWB⟩:=hRW;rw[Int.toNat_natCast]at hRWB;have hrT:rT fs bs (T.mk 41 s0 (g:Int) l line) k0 f to true=hdR fs bs 41 s0 g k0 f++rB fs bs g (k0+1) l:=by simp[rT,isFn]
 rw[hrT];obtain⟨F,bf,hF,hbf1,hbf2,hbf3,hbf4⟩:=hbf.ex;obtain⟨G,bg,hG,hbg1,hbg2,hbg3,hbg4⟩:=hbg.ex;have hvF:=hvs F (List.mem_of_getElem? hF);have hvG:=hvs G (List.mem_of_getElem? hG);have hm:=h.now.1;have hml:=uB hm;have hmw:=Xaa h.wf;have hmw1:∀j x y,Xaf E (st.H.length+j) x y=true:=fun j x y=>hmw _ _ _ (by omega);have hgl:=uB hG;have hv:(encFs fs)[g*5+3]?=some (.sl none G.vars.length (G.vars.map .str)):=Xb2 hG 3 (by omega);have hv2:=uV hv;have hv3:g*5+3<fs.length*5:=by omega
 have hfl:=uB hF;have hu:(encFs fs)[f*5+3]?=some (.sl none F.vars.length (F.vars.map .str)):=Xb2 hF 3 (by omega);have hu2:=uV hu;have hu3:f*5+3<fs.length*5:=by omega
 have hb1:(bs.map (AV.int IntKind.i64))[f]?=some (.int .i64 bf):=by rw[List.getElem?_map,hbf1];rfl
 have hb2:=uV hb1;have hb3:=uB hbf1;have hb4:=uV hbf1
 have hoi: -1<=oi (ixS s0 F.vars)/\oi (ixS s0 F.vars)<=1000:=by
  rcases hx:ixS s0 F.vars with _|i
  ·simp[oi]
  ·have:=Xlx s0 _ i hx;simp[oi];omega
 have hwx:=Xah (n:=bf+oi (ixS s0 F.vars)) (by omega);have c116:=fun st3 (h3:E.Wf st3)=>(f116 none F.vars s0 (by omega) k (by omega)).full (E:=E) (st:=st3) rfl h3;simp only[i64]at c116;have hE1:∀X,E.Wf ⟨st.H++X,st.I⟩:=fun X=>h.wf.of (by simp) (by simp);have hS1:=h.more [.cells 78 [.ptr mb 0],.cells 24 (T.mk 41 s0 (g:Int) l line).enc,.cells 87 [.int .i64 k0,.int .i64 f,.int .i64 to],.cells 3 [.int .i64 g],.cells 55 [.int .i64 2,.int .i64 0,.int .i64 (bf+oi (ixS s0 F.vars)),.int .i64 0,.int .i64 0,.int .i64 g,.int .i64 0,.str ⟨#[]⟩,.nils]];have c117:=hS1.add (X:=[]) (Y:=[(1,9)]) [rFn (bf+oi (ixS s0 F.vars)) g] (some st.I.length) f (by simp) k (by simp;omega);simp only[encR,rFn,Rule.enc,List.append_nil]at c117;refine Xa8 (c0:=y79a) rfl rfl (by decide) fun s hs e0 e1 e2=>?_;unfold y79a;simp only[T.enc]at e1 c117;simp[Nat.testBit,hs,e0,e1,e2,Xag,hmw,hmw1,wrC,Xap,Xak,Xae hm,hgl,hv,hv2,hv3];simp[-Xan, -Xav,Xaj,Xao,Nat.testBit,hs,e0,Xag,hmw,hmw1,wrC,Xap,Xak,Xae hm,hfl,hu,hu2,hu3,hb1,hb2,hb3,hb4,c116 _ (hE1 _),hwx];simp[Nat.testBit,hs,Xap,wrC,Xak];refine Xac c117 fun p hp=>?_;obtain⟨r,st2⟩:=p;obtain⟨r1,r2⟩:=hp;simp only at r1;subst r1;simp[hs];obtain⟨rv2,hS2⟩:=hS1.next r2 (by simp only[List.length_append,List.length_map,List.length_cons,List.length_nil];omega);have kp:∀j y,j<5->([.cells 78 [.ptr mb 0],.cells 24 (T.mk 41 s0 (g:Int) l line).enc,.cells 87 [.int .i64 k0,.int .i64 f,.int .i64 to],.cells 3 [.int .i64 g],.cells 55 [.int .i64 2,.int .i64 0,.int .i64 (bf+oi (ixS s0 F.vars)),.int .i64 0,.int .i64 0,.int .i64 g,.int .i64 0,.str ⟨#[]⟩,.nils]]:List ABlk)[j]?=some y->st2.H[st.H.length+j]?=some y:=fun j y hj e=>by rw[r2.old _ (by simp;omega) (by omega)];show(st.H++_)[_]?=_;rw[Xby];exact e
 have p0:=kp 0 _ (by omega) rfl;have p1:=kp 1 _ (by omega) rfl;have p2:=kp 2 _ (by omega) rfl;have p3:=kp 3 _ (by omega) rfl;have p4:=kp 4 _ (by omega) rfl;have hlen2:=r2.len;simp only[List.length_append,List.length_cons,List.length_nil]at hlen2;have r2':=r2.pre (st:=st) (fun j hj=>List.getElem?_append_left hj) (by simp) List.prefix_rfl;have hcn:(T.mk 41 s0 (g:Int) l line).count=1+T.countL l:=rfl;clear kp;have hh:hdR fs bs 41 s0 g k0 f=[(rFn (bf+oi (ixS s0 F.vars)) g).at f]:=by simp[hdR,hF,hbf1,rFn]
 rw[hh];refine Jea hS2 s0 g line l _ (by simp[hs]) (st.H.length+1) G.vars (by omega) (by simp[hs]) (by simp[hs]) p1 k (by omega) _ ?_;intro s' hs' n3 n4 n5 n6;refine Xjj (f79c hS2 n ih (.mk 41 s0 g l line) ht hwb s' hs' st.H.length (st.H.length+1) (st.H.length+2) (st.H.length+3) g k0 (.int .i64 f) (.int .i64 to) (by rw[n3];simp[hs]) (by rw[n4];simp[hs]) (by rw[n5];simp[hs]) (by rw[n6];simp[hs]) p0 p1 p2 p3 hbg hk0 hk1 (by simp;omega) hRWB hvs k (by omega)) fun x s m st' hq=>?_;refine Xhn hq fun r st' hq=>⟨hq.1,?_⟩;rw[<-List.append_assoc];exact r2'.andThen hS2.now (by simpa [rFn]using hq.2)
theorem f79y(n:Nat)(ih:Xf1 n)(s0:ByteArray)(nn line:Int)(l:List T)(ht:(T.mk 10 s0 nn l line).wt<=n+1)(hwb:(T.mk 10 s0 nn l line).wt<=10000000000){E mb fs bs o o' rs rv st}(h:MkS E mb fs bs o o' rs rv st)(hvs:∀G∈fs,G.vars.length<=500)(k0 to:Int)(f:Nat)(hk0:0<=k0)
  (hk1:k0+((T.mk 10 s0 nn l line).count:Nat)<=1000000000) (hrl:rs.length+3*(T.mk 10 s0 nn l line).count<=10000000000) (hRW:RW fs bs f (T.mk 10 s0 nn l line)) (k:Nat) (hk:20*(T.mk 10 s0 nn l line).wt+1099<=k):
  CallQ k E 79 [.ptr mb 0,.agg (T.mk 10 s0 nn l line).enc,.agg [.int .i64 k0,.int .i64 f,.int .i64 to]] st (Made E mb fs bs o o' rv st (rs++rT fs bs (T.mk 10 s0 nn l line) k0 f to true)):=by
 obtain⟨k,rfl⟩:=uK (k:=k) (by omega);simp only[RW,isFn,decide_true,Bool.or_true,Bool.true_or,if_true]at hRW;obtain⟨hbf,⟨g,rfl,hbg⟩,hRWB⟩:=hRW;rw[Int.toNat_natCast]at hRWB;have hrT:rT fs bs (T.mk 10 s0 (g:Int) l line) k0 f to true=hdR fs bs 10 s0 g k0 f++rB fs bs g (k0+1) l:=by simp[rT,isFn]
 rw[hrT];obtain⟨F,bf,hF,hbf1,hbf2,hbf3,hbf4⟩:=hbf.ex;obtain⟨G,bg,hG,hbg1,hbg2,hbg3,hbg4⟩:=hbg.ex;have hvF:=hvs F (List.mem_of_getElem? hF);have hvG:=hvs G (List.mem_of_getElem? hG);have hm:=h.now.1;have hml:=uB hm;have hmw:=Xaa h.wf;have hmw1:∀j x y,Xaf E (st.H.length+j) x y=true:=fun j x y=>hmw _ _ _ (by omega);have hgl:=uB hG;have hv:(encFs fs)[g*5+3]?=some (.sl none G.vars.length (G.vars.map .str)):=Xb2 hG 3 (by omega);have hv2:=uV hv;have hv3:g*5+3<fs.length*5:=by omega
 have hS1:=h.more [.cells 78 [.ptr mb 0],.cells 24 (T.mk 10 s0 (g:Int) l line).enc,.cells 87 [.int .i64 k0,.int .i64 f,.int .i64 to],.cells 3 [.int .i64 g],.cells 55 [.int .i64 2,.int .i64 0,.int .i64 k0,.int .i64 0,.int .i64 0,.int .i64 g,.int .i64 0,.str ⟨#[]⟩,.nils]];have c117:=hS1.add (X:=[]) (Y:=[(1,9)]) [rFn k0 g] (some st.I.length) f (by simp) k (by simp;omega);simp only[encR,rFn,Rule.enc,List.append_nil]at c117;refine Xa8 (c0:=y79a) rfl rfl (by decide) fun s hs e0 e1 e2=>?_;unfold y79a;simp only[T.enc]at e1 c117;simp[Nat.testBit,hs,e0,e1,e2,Xag,hmw,hmw1,wrC,Xap,Xak,Xae hm,hgl,hv,hv2,hv3];simp[Nat.testBit,hs,Xap,wrC,Xak];refine Xac c117 fun p hp=>?_;obtain⟨r,st2⟩:=p;obtain⟨r1,r2⟩:=hp;simp only at r1;subst r1;simp[hs];obtain⟨rv2,hS2⟩:=hS1.next r2 (by simp only[List.length_append,List.length_map,List.length_cons,List.length_nil];omega);have kp:∀j y,j<5->([.cells 78 [.ptr mb 0],.cells 24 (T.mk 10 s0 (g:Int) l line).enc,.cells 87 [.int .i64 k0,.int .i64 f,.int .i64 to],.cells 3 [.int .i64 g],.cells 55 [.int .i64 2,.int .i64 0,.int .i64 k0,.int .i64 0,.int .i64 0,.int .i64 g,.int .i64 0,.str ⟨#[]⟩,.nils]]:List ABlk)[j]?=some y->st2.H[st.H.length+j]?=some y:=fun j y hj e=>by rw[r2.old _ (by simp;omega) (by omega)];show(st.H++_)[_]?=_;rw[Xby];exact e
 have p0:=kp 0 _ (by omega) rfl;have p1:=kp 1 _ (by omega) rfl;have p2:=kp 2 _ (by omega) rfl;have p3:=kp 3 _ (by omega) rfl;have p4:=kp 4 _ (by omega) rfl;have hlen2:=r2.len;simp only[List.length_append,List.length_cons,List.length_nil]at hlen2;have r2':=r2.pre (st:=st) (fun j hj=>List.getElem?_append_left hj) (by simp) List.prefix_rfl;have hcn:(T.mk 10 s0 (g:Int) l line).count=1+T.countL l:=rfl;clear kp;by_cases hn:(G.params:Int)<=oi (ixS s0 G.vars)
 ·have hh:hdR fs bs 10 s0 g k0 f=[(rFn k0 g).at f]++ [(rFn (bg+oi (ixS s0 G.vars)) g).at f]:=by simp[hdR,hG,hbg1,rFn,hn]
  rw[hh];refine Jd8 hS2 s0 g line l _ (by simp[hs]) st.H.length (st.H.length+1) (st.H.length+2) (st.H.length+3) (st.H.length+4) g k0 f to k0 bg G hG (by omega) hbg1 (by omega) (by simp[hs]) (by simp[hs]) (by simp[hs]) (by simp[hs]) (by simp[hs]) (by simp[hs]) p0 p1 p2 p3 p4 (by omega) (hmw1 4) (by omega) hn k (by omega) _ ?_;intro s' st3 hs' n3 n4 n5 n6 r3;generalize hbk:ABlk.cells 55 _=bk at r3;have hS2':MkS E mb fs bs o o' (rs++ [(rFn k0 g).at f]) rv2 ⟨st2.H.set (st.H.length+4) bk,st2.I⟩:=hS2.at' (by show(List.set _ _ _)[_]?=_;rw[List.getElem?_set_ne (by omega)]) (by simp) rfl;obtain⟨rv3,hS3⟩:=hS2'.next r3 (by simp only[List.length_append,List.length_map,List.length_cons,List.length_nil];omega);have kp:∀j y,j<4->st2.H[st.H.length+j]?=some y->st3.H[st.H.length+j]?=some y:=fun j y hj e=>by rw[r3.old _ (by simp;omega) (by omega)];show(List.set _ _ _)[_]?=_;rw[List.getElem?_set_ne (by omega)];exact e
  refine Xjj (f79c hS3 n ih (.mk 10 s0 g l line) ht hwb s' hs' st.H.length (st.H.length+1) (st.H.length+2) (st.H.length+3) g k0 (.int .i64 f) (.int .i64 to) (by rw[n3];simp[hs]) (by rw[n4];simp[hs]) (by rw[n5];simp[hs]) (by rw[n6];simp[hs]) (kp 0 _ (by omega) p0) (kp 1 _ (by omega) p1) (kp 2 _ (by omega) p2) (kp 3 _ (by omega) p3) hbg hk0 hk1 (by simp;omega) hRWB hvs k (by omega)) fun x s m st' hq=>?_;refine Xhn hq fun r st' hq=>⟨hq.1,?_⟩;have r2s:MkTo E mb (.sl o' fs.length (encFs fs)) (.sl o bs.length (bs.map (.int .i64))) rv st ⟨st2.H.set (st.H.length+4) bk,st2.I⟩ (rs++ [(rFn k0 g).at f]):=MkTo.upd (by simpa [rFn]using r2') hml (fun j hj=>List.getElem?_set_ne (by omega)) (by simp);have r3':=r2s.andThen hS2'.now r3;have:=r3'.andThen hS3.now hq.2;simpa [rFn]using this
 ·have hh:hdR fs bs 10 s0 g k0 f=[(rFn k0 g).at f]:=by simp[hdR,hG,hbg1,rFn,hn]
  rw[hh];refine Jd9 hS2 s0 g line l _ (by simp[hs]) st.H.length (st.H.length+1) (st.H.length+3) g G hG (by omega) (by simp[hs]) (by simp[hs]) (by simp[hs]) (by simp[hs]) p0 p1 p3 hn k (by omega) _ ?_;intro s' hs' n3 n4 n5 n6;refine Xjj (f79c hS2 n ih (.mk 10 s0 g l line) ht hwb s' hs' st.H.length (st.H.length+1) (st.H.length+2) (st.H.length+3) g k0 (.int .i64 f) (.int .i64 to) (by rw[n3];simp[hs]) (by rw[n4];simp[hs]) (by rw[n5];simp[hs]) (by rw[n6];simp[hs]) p0 p1 p2 p3 hbg hk0 hk1 (by simp;omega) hRWB hvs k (by omega)) fun x s m st' hq=>?_;refine Xhn hq fun r st' hq=>⟨hq.1,?_⟩;rw[<-List.append_assoc];exact r2'.andThen hS2.now (by simpa [rFn]using hq.2)
theorem f79(n:Nat)(ih:Xf1 n):Xs1 (n+1):=by
 intro t ht hwb hfn E mb fs bs o o' rs rv st h hvs k0 to f hk0 hk1 hrl hRW k hk;obtain⟨op,s0,nn,l,line⟩:=t;have h':(decide (op=41)||decide (op=10))=true:=hfn;have ho:op=41\/op=10:=by simpa using h'
 rcases ho with rfl|rfl
 ·exact f79x n ih s0 nn line l ht hwb h hvs k0 to f hk0 hk1 hrl hRW k hk
 ·exact f79y n ih s0 nn line l ht hwb h hvs k0 to f hk0 hk1 hrl hRW k hk
theorem Xn8:∀n,Xf1 n
 |0=>fun t h=>by cases t;simp[T.wt]at h
 |n+1=>f52 n (Xn8 n) (f79 n (Xn8 n))
def y33e:ACode:=(.seq (.dreg [(oV 113 10,0),(oO 114 (.ld (some 5) (.t 7)),0),(oF 115 1 14,0),(oL 116 115,4),(oO 117 (.ia 5 (.t 116) (.c (.int .i64 0))),12),(oF 118 4 117,28),(oL 119 118,60),(oO 120 (.build [(.int .i64 0),(.int .i64 0),(.int .i64 0)] [(0,1,(.c (.int .i64 0))),(1,1,(.c (.int .i64 0))),(2,1,(.t 119))]),124),(oO 121 (.call .no 52 [(.t 113),(.t 114),(.t 120),(.c (.bool true))]),255)])
 (.seq (.reg [oV 122 10,oN 123 122,oF 124 2 123,oL 125 124,oF 126 2 14,oS (.st 1 (.t 126) (.t 125))])
 (.seq (.dreg [(oV 127 6,0),(oO 128 (.ld (some 3) (.t 14)),0),(oV 2 127,1),(oS (.st 3 (.t 3) (.t 128)),7),(oO 4 (.mv (.c (.int .i64 0))),15),(oO 5 (.mv (.c (.int .i64 0))),31)])
 (.ret))))
def l33c:ACode:=(.seq (.reg [oO 89 (.bin .num .lss (.t 88) (.t 87))])
 (.seq (.cond (.t 89) (.skip) (.exit 4))
 (.seq (.block 5 (.seq (.reg [oV 90 88,oV 18 90])
 (.dreg [(oF 91 1 17,0),(oL 92 91,1),(oV 93 10,0),(oN 94 93,4),(oF 95 1 94,12),(oL 96 95,28),(oV 97 15,0),(oO 98 (.ia 1 (.t 96) (.t 97)),124),(oL 99 98,252),(oV 100 18,0),(oO 101 (.bin .num .add (.t 99) (.t 100)),1020),(oO 102 (.bsl true 1 1 [(.int .i64 0)] [(0,1,(.t 101))]),2044),(oO 103 (.app 1 8 (.t 92) (.t 102)),4095),(oF 104 1 17,8191),(oS (.st 1 (.t 104) (.t 103)),16383)])))
 (.reg [oO 105 (.bin .num .add (.t 88) (.c (.int .i64 1))),oV 88 105]))))
def l33b:ACode:=(.seq (.reg [oO 69 (.bin .num .lss (.t 68) (.t 67))])
 (.seq (.cond (.t 69) (.skip) (.exit 2))
 (.seq (.block 3 (.seq (.reg [oV 70 68,oO 71 (.ia 5 (.t 66) (.t 68)),oO 72 (.ld (some 5) (.t 71)),oO 16 (.alloc 43 [(.int .i64 0),(.str ⟨#[]⟩),(.int .i64 0),.nils,(.int .i64 0)]),oV 15 70,oS (.st 5 (.t 16) (.t 72))])
 (.seq (.reg [oF 73 4 16,oL 74 73,oO 75 (.build [(.int .i64 0),.nils,(.int .i64 0),(.int .i64 0),(.int .i64 0)] [(0,1,(.t 74))]),oO 17 (.alloc 82 [(.int .i64 0),.nils,(.int .i64 0),(.int .i64 0),(.int .i64 0)]),oS (.st 5 (.t 17) (.t 75))])
 (.seq (.reg [oV 77 10,oV 78 15,oO 79 (.call .no 51 [(.t 77),(.t 78)]),oV 76 79,oO 80 (.ext 0 (.t 76)),oO 81 (.ext 1 (.t 76)),oO 82 (.ext 2 (.t 76)),oF 83 2 17,oS (.st 1 (.t 83) (.t 80)),oF 84 3 17,oS (.st 1 (.t 84) (.t 81)),oF 85 4 17,oS (.st 1 (.t 85) (.t 82))])
 (.seq (.seq (.reg [oF 86 2 16,oL 87 86,oO 88 (.mv (.c (.int .i64 0)))])
 (.block 4 (.loop l33c)))
 (.reg [oF 106 1 14,oL 107 106,oO 108 (.ld (some 5) (.t 17)),oO 109 (.bsl true 5 1 [(.int .i64 0),.nils,(.int .i64 0),(.int .i64 0),(.int .i64 0)] [(0,5,(.t 108))]),oO 110 (.app 5 56 (.t 107) (.t 109)),oF 111 1 14,oS (.st 1 (.t 111) (.t 110))]))))))
 (.reg [oO 112 (.bin .num .add (.t 68) (.c (.int .i64 1))),oV 68 112]))))
def l33a:ACode:=(.seq (.reg [oO 39 (.bin .num .lss (.t 38) (.t 37))])
 (.seq (.cond (.t 39) (.skip) (.exit 0))
 (.seq (.block 1 (.seq (.reg [oO 40 (.ia 5 (.t 36) (.t 38)),oO 41 (.ld (some 5) (.t 40)),oO 13 (.alloc 43 [(.int .i64 0),(.str ⟨#[]⟩),(.int .i64 0),.nils,(.int .i64 0)]),oS (.st 5 (.t 13) (.t 41))])
 (.seq (.reg [oV 42 10,oV 43 10,oN 44 43,oF 45 1 44,oL 46 45,oV 47 11,oO 48 (.bsl true 1 1 [(.int .i64 0)] [(0,1,(.t 47))]),oO 49 (.app 1 8 (.t 46) (.t 48)),oN 50 42,oF 51 1 50,oS (.st 1 (.t 51) (.t 49))])
 (.reg [oV 52 11,oF 53 3 13,oL 54 53,oO 55 (.len false (.t 54)),oO 56 (.bin .num .add (.t 55) (.c (.int .i64 3))),oO 57 (.bin .num .add (.t 52) (.t 56)),oV 11 57]))))
 (.reg [oO 58 (.bin .num .add (.t 38) (.c (.int .i64 1))),oV 38 58]))))
def y33d:ACode:=(.seq (.seq (.reg [oV 66 6,oO 67 (.len false (.t 66)),oO 68 (.mv (.c (.int .i64 0)))])
 (.block 2 (.loop l33b)))
 y33e)
def y33c:ACode:=(.seq (.reg [oV 59 11,oO 60 (.bin .num .add (.t 59) (.c (.int .i64 9))),oO 61 (.build [(.int .i64 0),.nils,.nils] [(0,1,(.t 60))]),oO 14 (.alloc 49 [(.int .i64 0),.nils,.nils]),oS (.st 3 (.t 14) (.t 61))])
 (.seq (.seq (.reg [oF 62 0 14,oL 63 62,oO 64 (.bin .num .gtr (.t 63) (.c (.int .i64 100000)))])
 (.cond (.t 64) (.seq (.reg [oO 65 (.build [(.int .i64 0),.nils,.nils] []),oO 2 (.mv (.c .nils)),oS (.st 3 (.t 3) (.t 65)),oO 4 (.mv (.c (.int .i64 0))),oO 5 (.mv (.c (.int .i64 52)))])
 (.ret)) (.skip)))
 y33d))
def y33b:ACode:=(.seq (.seq (.reg [oV 36 6,oO 37 (.len false (.t 36)),oO 38 (.mv (.c (.int .i64 0)))])
 (.block 0 (.loop l33a)))
 y33c)
def y33a:ACode:=.seq (.reg [oO 1 (.box 24 (.t 0)),oO 2 (.mv (.c .nils)),oO 3 (.alloc 49 [(.int .i64 0),.nils,.nils]),oO 4 (.mv (.c (.int .i64 0))),oO 5 (.mv (.c (.int .i64 0)))])
 (.seq (.reg [oO 20 (.ld (some 5) (.t 1)),oO 21 (.call .full 20 [(.t 20)]),oV 19 21,oO 22 (.ext 0 (.t 19)),oO 23 (.ext 1 (.t 19)),oO 24 (.ext 2 (.t 19)),oO 25 (.ext 3 (.t 19)),oO 7 (.alloc 24 [(.int .i64 0),(.str ⟨#[]⟩),(.int .i64 0),.nils,(.int .i64 0)]),oV 6 22,oS (.st 5 (.t 7) (.t 23)),oV 8 24,oV 9 25])
 (.seq (.seq (.reg [oV 26 9,oO 27 (.bin .num .neq (.t 26) (.c (.int .i64 0)))])
 (.cond (.t 27) (.seq (.reg [oO 28 (.build [(.int .i64 0),.nils,.nils] []),oV 29 8,oV 30 9,oO 2 (.mv (.c .nils)),oS (.st 3 (.t 3) (.t 28)),oV 4 29,oV 5 30])
 (.ret)) (.skip)))
 (.seq (.reg [oV 31 6,oO 32 (.build [.nils,.nils,.nils] [(0,1,(.t 31))]),oO 33 (.box 80 (.t 32)),oV 10 33])
 (.seq (.reg [oO 34 (.ld (some 5) (.t 7)),oO 35 (.call .full 50 [(.t 34)]),oV 11 35])
 y33b))))
def baseL:Int->List Fn->List Int
 |_,[]=> []
 |a,f::r=>a::baseL (a+(f.vars.length+3:Nat)) r
def baseE:Int->List Fn->Int
 |a,[]=>a
 |a,f::r=>baseE (a+(f.vars.length+3:Nat)) r
theorem Xem:∀(a:Int) (l:List Fn),(baseL a l).length=l.length
 |_,[]=>rfl
 |a,f::r=>by simp only[baseL,List.length_cons,Xem _ r]
theorem Xgf:∀(l:List Fn) (a:Int) (j:Nat) (f:Fn),l[j]?=some f->baseE a (l.take (j+1))=baseE a (l.take j)+(f.vars.length+3:Nat)
 |[],a,j,f,h=>by simp at h
 |g::r,a,0,f,h=>by simp at h;subst h;simp[baseE]
 |g::r,a,j+1,f,h=>by simp only[List.take_succ_cons,baseE];exact Xgf r _ j f (by simpa using h)
theorem Xge:∀(l:List Fn) (a:Int) (j:Nat) (f:Fn),l[j]?=some f->baseL a (l.take (j+1))=baseL a (l.take j)++ [baseE a (l.take j)]
 |[],a,j,f,h=>by simp at h
 |g::r,a,0,f,h=>by simp at h;subst h;simp[baseL,baseE]
 |g::r,a,j+1,f,h=>by simp only[List.take_succ_cons,baseL,baseE,List.cons_append];rw[Xge r _ j f (by simpa using h)]
theorem Xd4:∀(l:List Fn) (a:Int) (j:Nat),j<l.length->(baseL a l)[j]?=some (baseE a (l.take j))
 |[],a,j,h=>by simp at h
 |g::r,a,0,h=>by simp[baseL,baseE]
 |g::r,a,j+1,h=>by simp only[baseL,List.getElem?_cons_succ,List.take_succ_cons,baseE];exact Xd4 r _ j (by simpa using h)
theorem Xc8:∀(l:List Fn) (a:Int) (j:Nat),(∀f∈l,f.vars.length<=500)->a<=baseE a (l.take j)/\baseE a (l.take j)<=a+503*(l.length:Int)
 |[],a,j,h=>by simp[baseE]
 |g::r,a,0,h=>by simp[baseE];omega
 |g::r,a,j+1,h=>by have h1:=h g (by simp);have:=Xc8 r (a+(g.vars.length+3:Nat)) j (fun f hf=>h f (by simp[hf]));simp only[List.take_succ_cons,baseE,List.length_cons];omega
theorem Xw3{E:Env}{st:St}(hE:E.Wf st)(m0:Nat)(hm0:m0<=st.I.length)(mb b3:Nat)(hmw3:∀x y,Xaf E mb x y=true)(s:List AV)(hs:s.length=129)(fs:List Fn)(at_:Int)(xs:List Int)(bv rv:AV)(j:Nat)(f:Fn)(hg:fs[j]?=some f)(hfl:fs.length<=10000000000)
  (e10:lk s 10=.ptr mb 0) (e11:lk s 11=.int .i64 at_) (e36:lk s 36=.sl none fs.length (encFs fs)) (e37:lk s 37=.int .i64 fs.length) (e38:lk s 38=.int .i64 j)
  (hm:st.H[mb]?=some (.cells 80 [.sl none fs.length (encFs fs),bv,rv])) (hac:AccI E st.I xs bv) (how:∀j,owns bv=some j->m0<=j) (hxl:xs.length<=100000000000) (hat:0<=at_/\at_<=100000000000000) (hvl:f.vars.length<=500) (m:List Nat) (k:Nat) (Q:Q4)
  (hQ:∀s' st' bv',s'.length=129->(∀i,i=3\/i=6\/i=7\/i=10->lk s' i=lk s i)->lk s' 11=.int .i64 (at_+(f.vars.length+3:Nat))->lk s' 36=lk s 36->lk s' 37=lk s 37->lk s' 38=.int .i64 ((j+1:Nat):Int)->
   st'.H[mb]?=some (.cells 80 [.sl none fs.length (encFs fs),bv',rv])->AccI E st'.I (xs++ [at_]) bv'->(∀j,owns bv'=some j->m0<=j)->(∀q,q<st.H.length->q≠mb->st'.H[q]?=st.H[q]?)->st.H.length<=st'.H.length->IOld m0 st.I st'.I->Q .nrm s' m st'):
  WP (aCall prog k) E k none l33a s m st Q:=by
 have hmw:=Xaa hE;have hjl:=uB hg;have hrd:=Xjd hg;have hwj:=Xah (n:=(j:Int)+1) (by omega);have hw1:=Xah (n:=(f.vars.length:Int)+3) (by omega);have hw2:=Xah (n:=at_+((f.vars.length:Int)+3)) (by omega);have hml:=uB hm;simp only[Fn.enc]at hrd;obtain⟨v',I',happ,hac',hio,how'⟩:=(hac.push (1,1)).app (m:=m0) (by have:=hE.rom;simp;omega) (by simp;omega) how hxl (st.H++ [.cells 43 f.enc]) at_ st.I.length;simp only[Fn.enc]at happ;have hvo:=hac'.one;have hvc:=hac'.cells;unfold l33a;simp[hs,e10,e11,e36,e37,e38,hjl,hrd,Xag,hmw,wrC];simp[hs,e10,e11,Xae hm,Xap,wrC,happ,Xag,hmw3,hvo,hvc];have n3:∀x,((st.H++ [ABlk.cells 43 f.enc]).set mb x)[st.H.length]?=some (.cells 43 f.enc):=fun x=>by rw[List.getElem?_set_ne (by omega)];simp
 simp only[Fn.enc]at n3;have n4:mb≠st.H.length:=by omega
 simp[hs,e11,e38,n3,n4,List.getElem_set_ne n4,hw1,hw2,hwj];refine hQ _ _ v' (by simp[hs]) (fun i hi=>by rcases hi with rfl|rfl|rfl|rfl<;>simp[hs]) (by simp[hs]) (by simp[hs]) (by simp[hs]) (by simp[hs]) ?_ hac' how' (fun q hq hn=>?_) (by simp) ((IOld.push _ _ _).trans hio)
 ·show(List.set _ _ _)[_]?=_;rw[List.getElem?_set_self (by simp;omega)]
 ·show(List.set _ _ _)[_]?=_;rw[List.getElem?_set_ne (Ne.symm hn),List.getElem?_append_left hq]
structure FS where
 mark:Int
 params:List Int
 this:Int
 ret:Int
 throw:Int
def FS.enc(x:FS):List AV:=[.int .i64 x.mark,.sl none x.params.length (x.params.map (.int .i64)),.int .i64 x.this,.int .i64 x.ret,.int .i64 x.throw]
def Xbn:List FS->List AV
 |[]=> []
 |x::r=>x.enc++Xbn r
theorem FS.enc_len(x:FS):x.enc.length=5:=rfl
theorem Xhp:∀l,(Xbn l).length=l.length*5
 |[]=>rfl
 |x::l=>by simp only[Xbn,List.length_append,FS.enc_len,Xhp l,List.length_cons];omega
theorem Xkd:∀a b,Xbn (a++b)=Xbn a++Xbn b
 |[],b=>rfl
 |r::a,b=>by simp only[List.cons_append,Xbn,Xkd a b,List.append_assoc]
theorem FS.enc_fin(m:Nat)(r:FS):AV.finL m r.enc=r.enc:=by simp[FS.enc,Xgt]
theorem FS.enc_one(r:FS):r.enc.all AV.one=true:=by simp[FS.enc,AV.one]
theorem FS.enc_refs(r:FS):AV.refsL r.enc=[]:=by simp[FS.enc,Xhh]
theorem Xeh(m:Nat):∀l,AV.finL m (Xbn l)=Xbn l
 |[]=>by simp[Xbn]
 |r::l=>by simp only[Xbn,Xhm,FS.enc_fin,Xeh m l]
theorem Xip:∀l,AV.refsL (Xbn l)=[]
 |[]=>by simp[Xbn]
 |r::l=>by simp only[Xbn,Xcs,FS.enc_refs,Xip l,List.append_nil]
theorem Xmd:∀{l:List FS} {i:Nat} {x:FS},l[i]?=some x->∀j,j<5->(Xbn l)[i*5+j]?=x.enc[j]?
 |[],i,x,h,j,hj=>by simp at h
 |a::l,0,x,h,j,hj=>by simp at h;subst h;simp only[Xbn,Nat.zero_mul,Nat.zero_add];rw[List.getElem?_append_left (by rw[FS.enc_len];exact hj)]
 |a::l,i+1,x,h,j,hj=>by
  have ih:=Xmd (l:=l) (i:=i) (by simpa using h) j hj;simp only[Xbn];rw[List.getElem?_append_right (by rw[FS.enc_len];omega),FS.enc_len,<-ih]
  congr 1;omega
theorem Xmc:∀{l:List FS} {i:Nat} {r:FS},l[i]?=some r->rdC (some 5) (Xbn l) (i*5)=some (.agg r.enc)
 |[],i,r,h=>by simp at h
 |a::l,0,r,h=>by simp at h;subst h;simp[rdC,Xbn,FS.enc]
 |a::l,i+1,r,h=>by have ih:=Xmc (l:=l) (i:=i) (by simpa using h);have hl:=FS.enc_len a;rw[show(i+1)*5=5+i*5 by omega];simp only[rdC,Xbn]at ih⊢;rw[<-List.drop_drop,List.drop_left' hl];simpa [hl,Xhp,Nat.add_assoc,Nat.add_comm,Nat.add_left_comm]using ih
def AccX(E:Env)(I:List (Nat×Nat))(rs:List FS)(v:AV):Prop:=
 (rs=[]/\v=.nils)\/(rs≠ []/\∃i,v=.sl (some i) rs.length (Xbn rs)/\E.rom<=i/\I[i]?=some (rs.length,5))
theorem AccX.one{E I rs v}(h:AccX E I rs v):v.one=true:=by rcases h with⟨-,rfl⟩|⟨-,j,rfl, -, -⟩<;>rfl
theorem AccX.cells{E I rs v}(h:AccX E I rs v):v.cells=[v]:=by rcases h with⟨-,rfl⟩|⟨-,j,rfl, -, -⟩<;>rfl
theorem AccX.old{E I I' rs v}{m:Nat}(h:AccX E I rs v)(ho:∀j,owns v=some j->j<m)(hi:IOld m I I'):AccX E I' rs v:=by
 rcases h with h|⟨h0,j,e,hj,hx⟩
 ·exact .inl h
 ·exact .inr ⟨h0,j,e,hj,hi.get _ _ (ho j (by rw[e];rfl)) hx⟩
theorem AccX.push{E I rs v}(h:AccX E I rs v)(x:Nat×Nat):AccX E (I++ [x]) rs v:=by
 rcases h with h|⟨h0,j,e,hj,hi⟩
 ·exact .inl h
 ·exact .inr ⟨h0,j,e,hj,by rw[List.getElem?_append_left (uB hi)];exact hi⟩
theorem AccX.fin{E I rs v}(h:AccX E I rs v)(m:Nat)(ho:∀j,owns v=some j->m<=j):v.fin m=.sl none rs.length (Xbn rs):=by
 rcases h with⟨rfl,rfl⟩|⟨-,j,rfl,hj,hi⟩
 ·rfl
 ·have:=ho j rfl;have:¬j<m:=by omega
  simp[Xeh,this]
theorem AccX.app{E:Env}{I:List (Nat×Nat)}{rs:List FS}{v:AV}{m:Nat}(h:AccX E I rs v)(hr:E.rom<=I.length)(hm:m<=I.length)(ho:∀j,owns v=some j->m<=j)(hl:rs.length<=100000000000)(H:List ABlk)(r:FS)(q:Nat):
  ∃v' I',appA E ⟨H,I⟩ 5 56 v (.sl (some q) 1 r.enc)=some (v',⟨H,I'⟩)/\AccX E I' (rs++ [r]) v'/\IOld m I I'/\(∀j,owns v'=some j->m<=j):=by
 have h1:r.enc.length=1*5:=rfl;have h2:=FS.enc_one r;rcases h with⟨rfl,rfl⟩|⟨h0,j,rfl,hj1,hj2⟩
 ·refine⟨.sl (some I.length) 1 r.enc,I++ [(1,5)],?_,.inr ⟨by simp,I.length,by simp[Xbn],hr,by simp⟩,.push _ _ _,fun j e=>by simp[owns]at e;omega⟩;simp only[appA,srcA,h1,decide_true,h2,Bool.and_self,Xax,Xam,FS.enc_fin];rfl
 ·have hb1:(rs.length+1)*56<=70368744177664:=by omega
  have hb2:rs.length+1<=70368744177664:=by omega
  have hmj:=ho j rfl;refine⟨.sl (some j) (rs.length+1) (Xbn rs++r.enc),I.set j (rs.length+1,5),?_,.inr ⟨by simp,j,by simp[Xkd,Xbn],hj1,?_⟩,⟨by simp,fun q x n e=>?_⟩,fun j' e=>?_⟩
  ·simp only[appA,srcA,h1,decide_true,h2,Bool.and_self,Xax,Xam,FS.enc_fin,hj1,hj2,Xhp,hb1,hb2]
  ·rw[List.getElem?_set_self (uB hj2)];simp
  ·rw[List.getElem?_set_ne (by omega)];exact e
  ·simp[owns]at e;omega
def parL(b:Int):Nat->List Int
 |0=> []
 |n+1=>parL b n++ [b+n]
theorem Xeq(b:Int):∀n,(parL b n).length=n
 |0=>rfl
 |n+1=>by simp[parL,Xeq b n]
theorem AccI.fin0{E I xs v}(h:AccI E I xs v):v.fin 0=.sl none xs.length (xs.map (.int .i64)):=by
 rcases h with⟨rfl,rfl⟩|⟨-,j,rfl, -, -⟩
 ·rfl
 ·simp[Xgt]
theorem Xw1{E:Env}{st:St}(hE:E.Wf st)(m0:Nat)(hm0:m0<=st.I.length)(mb W j n:Nat)(hmwW:∀x y,Xaf E W x y=true)(s:List AV)(hs:s.length=129)(F rv pv z0 z2 z3 z4:AV)(bs:List Int)(o:Option Nat)(b:Int)(hb:bs[j]?=some b)(hbb:0<=b/\b<=100000000000000)(kk:Nat)(hkk:kk<n)(hn:n<=1000)
  (e10:lk s 10=.ptr mb 0) (e15:lk s 15=.int .i64 j) (e17:lk s 17=.ptr W 0) (e87:lk s 87=.int .i64 n) (e88:lk s 88=.int .i64 kk)
  (hm:st.H[mb]?=some (.cells 80 [F,.sl o bs.length (bs.map (.int .i64)),rv])) (hW:st.H[W]?=some (.cells 82 [z0,pv,z2,z3,z4])) (hac:AccI E st.I (parL b kk) pv) (how:∀j,owns pv=some j->m0<=j) (m:List Nat) (k:Nat) (Q:Q4)
  (hQ:∀s' st' pv',s'.length=129->(∀i,i<88->i≠18->lk s' i=lk s i)->lk s' 88=.int .i64 ((kk+1:Nat):Int)->st'.H[W]?=some (.cells 82 [z0,pv',z2,z3,z4])->AccI E st'.I (parL b (kk+1)) pv'->(∀j,owns pv'=some j->m0<=j)->
   (∀q,q≠W->st'.H[q]?=st.H[q]?)->st'.H.length=st.H.length->IOld m0 st.I st'.I->Q .nrm s' m st'):
  WP (aCall prog k) E k none l33c s m st Q:=by
 have hwj:=Xah (n:=(kk:Int)+1) (by omega);have hwb:=Xah (n:=b+(kk:Int)) (by omega);have hb1:(bs.map (AV.int IntKind.i64))[j]?=some (.int .i64 b):=by rw[List.getElem?_map,hb];rfl
 have hb2:=uV hb1;have hb3:=uB hb;have hb4:=uV hb;obtain⟨v',I',happ,hac',hio,how'⟩:=(hac.push (1,1)).app (m:=m0) (by have:=hE.rom;simp;omega) (by simp;omega) how (by rw[Xeq];omega) st.H (b+kk) st.I.length;have hvo:=hac'.one;have hvc:=hac'.cells;have hpo:=hac.one;unfold l33c;simp[hs,e87,e88,hkk];simp[Nat.testBit,hs,e10,e15,e17,hm,hW,hb1,hb2,hb3,hb4,hwb,Xap,wrC,happ,Xag,hmwW,hvo,hvc];simp[hs,e88,hwj];refine hQ _ _ v' (by simp[hs]) (fun i h1 h2=>?_) (by simp[hs]) ?_ hac' how' (fun q hq=>?_) (by simp) ((IOld.push _ _ _).trans hio)
 ·simp only[Xdj,List.length_set];repeat' rw[if_neg (by omega)]
 ·show(List.set _ _ _)[_]?=_;rw[List.getElem?_set_self (uB hW)]
 ·show(List.set _ _ _)[_]?=_;rw[List.getElem?_set_ne (Ne.symm hq)]
def fsF(b:Int)(f:Fn):FS:={mark:=f.mark,params:=parL b f.params,this:=b+f.vars.length,ret:=b+f.vars.length+1,throw:=b+f.vars.length+2}
theorem AccX.ownLt{E I rs v}(h:AccX E I rs v):∀j,owns v=some j->j<I.length:=fun j e=>by
 rcases h with⟨rfl,rfl⟩|⟨-,i,rfl, -,hx⟩
 ·simp[owns]at e
 ·simp[owns]at e;subst e;exact uB hx
theorem IOld.le{m m':Nat}{I I':List (Nat×Nat)}(h:IOld m I I')(hm:m'<=m):IOld m' I I':=⟨h.len,fun j x hj e=>h.get j x (by omega) e⟩
theorem Xw2{E:Env}{st:St}(hE:E.Wf st)(m0:Nat)(hm0:m0<=st.I.length)(mb V:Nat)(hmwV:∀x y,Xaf E V x y=true)(s:List AV)(hs:s.length=129)(fs:List Fn)(bs:List Int)(o:Option Nat)(rv fv sets zz:AV)(rs:List FS)(j:Nat)(f:Fn)(hg:fs[j]?=some f)(hfl:fs.length<=10000000000)(b:Int)(hb:bs[j]?=some b)(hbb:0<=b/\b<=10000000000000)
    (hpl:f.params<=1000) (hvl:f.vars.length<=1000) (e10:lk s 10=.ptr mb 0) (e14:lk s 14=.ptr V 0) (e66:lk s 66=.sl none fs.length (encFs fs)) (e67:lk s 67=.int .i64 fs.length) (e68:lk s 68=.int .i64 j)
    (hm:st.H[mb]?=some (.cells 80 [.sl none fs.length (encFs fs),.sl o bs.length (bs.map (.int .i64)),rv])) (hV:st.H[V]?=some (.cells 49 [sets,fv,zz])) (hac:AccX E st.I rs fv) (how:∀j,owns fv=some j->m0<=j) (hrl:rs.length<=100000000000) (m:List Nat) (k:Nat) (hk:1002<=k) (Q:Q4)
    (hQ:∀s' st' fv',s'.length=129->(∀i,i=3\/i=6\/i=7\/i=10\/i=14\/i=66\/i=67->lk s' i=lk s i)->lk s' 68=.int .i64 ((j+1:Nat):Int)->st'.H[V]?=some (.cells 49 [sets,fv',zz])->AccX E st'.I (rs++ [fsF b f]) fv'->(∀j,owns fv'=some j->m0<=j)->
      (∀q,q<st.H.length->q≠V->st'.H[q]?=st.H[q]?)->st.H.length<=st'.H.length->IOld m0 st.I st'.I->Q .nrm s' m st'):
    WP (aCall prog k) E k none l33b s m st Q:=by
  have hmw:=Xaa hE;have hmw1:∀x y,Xaf E (st.H.length+1) x y=true:=fun x y=>hmw _ _ _ (by omega);have hmw1':∀q x y,Xaf E (st.H.length+q) x y=true:=fun q x y=>hmw _ _ _ (by omega);have hjl:=uB hg;have hrd:=Xjd hg;have hwj:=Xah (n:=(j:Int)+1) (by omega);have hVl:=uB hV;have hml:=uB hm;have hVm:V≠mb:=fun e=>by rw[e,hm]at hV;cases hV
  simp only[Fn.enc]at hrd;have c51:=Xdm (f51 (E:=E) (st:=⟨st.H++ [.cells 43 f.enc,.cells 82 [.int .i64 f.mark,.nils,.int .i64 0,.int .i64 0,.int .i64 0]],st.I⟩) fs bs j f b (Xae hm) hg hb hbb.1 (by omega) k (by omega));simp only[Fn.enc]at c51;unfold l33b;simp[hs,e10,e14,e66,e67,e68,hjl,hrd,Xag,hmw,hmw1,hmw1',wrC,Xap];simp[hs,e10,c51,Xag,hmw1,hmw1',wrC]
  refine Xau (fun n s' m' st'=> ∃(kk:Nat) (pv:AV),kk<=f.params/\n=f.params - kk/\s'.length=129/\m'=m/\(∀i,i=3\/i=6\/i=7\/i=10\/i=14\/i=66\/i=67\/i=68->lk s' i=lk s i)/\lk s' 15=.int .i64 j/\lk s' 17=.ptr (st.H.length+1) 0/\lk s' 87=.int .i64 f.params/\lk s' 88=.int .i64 kk/\
      st'.H[st.H.length+1]?=some (.cells 82 [.int .i64 f.mark,pv,.int .i64 (b+f.vars.length),.int .i64 (b+f.vars.length+1),.int .i64 (b+f.vars.length+2)])/\AccI E st'.I (parL b kk) pv/\(∀j,owns pv=some j->st.I.length<=j)/\(∀q,q<st.H.length->st'.H[q]?=st.H[q]?)/\st'.H.length=st.H.length+2/\IOld st.I.length st.I st'.I) f.params (by omega)
    ⟨0,.nils,by omega,by omega,by simp[hs],rfl,fun i hi=>by rcases hi with rfl|rfl|rfl|rfl|rfl|rfl|rfl|rfl<;>simp[hs],by simp[hs],by simp[hs],by simp[hs],by simp[hs],by simp,.inl ⟨rfl,rfl⟩,fun j e=>by simp[owns]at e,fun q hq=>by show(_++_)[_]?=_;rw[List.getElem?_append_left hq],by simp,.refl _ _⟩ ?_
  clear hs;rintro _ s' m' st' ⟨kk,pv,hkk,rfl,hs,rfl,hsl,e15,e17,e87,e88,hW,hacp,howp,hold,hlen,hio⟩;have hE':E.Wf st':=hE.of (H:=st'.H) (I:=st'.I) (by omega) hio.len;by_cases hc:kk<f.params
  ·refine Xw1 hE' st.I.length hio.len mb (st.H.length+1) j f.params hmw1 s' hs (.sl none fs.length (encFs fs)) rv pv _ _ _ _ bs o b hb (by omega) kk hc hpl (by rw[hsl 10 (by omega)];exact e10) e15 e17 e87 e88 (by rw[hold mb hml];exact hm) hW hacp howp m' k _ ?_;intro s2 st2 pv' r1 r2 r3 r4 r5 r6 r7 r8 r9;exact⟨_,by omega,kk+1,pv',by omega,rfl,r1,rfl,fun i hi=>by rw[r2 i (by omega) (by omega)];exact hsl i hi,by rw[r2 15 (by omega) (by omega)];exact e15,by rw[r2 17 (by omega) (by omega)];exact e17,by rw[r2 87 (by omega) (by omega)];exact e87,r3,r4,r5,r6,fun q hq=>by rw[r7 q (by omega)];exact hold q hq,by omega,hio.trans r9⟩
  have:kk=f.params:=by omega
  subst this;have hV':st'.H[V]?=some (.cells 49 [sets,fv,zz]):=by rw[hold V hVl];exact hV
  have hac2:AccX E st'.I rs fv:=hac.old hac.ownLt hio;have hfin:=hacp.fin0;have hpo:=hacp.one;have hpc:=hacp.cells;have hpl2:=Xeq b f.params;rw[hpl2]at hfin;obtain⟨v',I',happ,hac',hio',how'⟩:=(hac2.push (1,5)).app (m:=m0) (by have:=hE'.rom;simp;omega) (by have:=hio.len;simp;omega) how hrl st'.H (fsF b f) st'.I.length;have hvo:=hac'.one;have hvc:=hac'.cells;simp only[fsF,FS.enc,hpl2]at happ;have e14':lk s' 14=.ptr V 0:=by rw[hsl 14 (by omega)];exact e14
  have e68':lk s' 68=.int .i64 j:=by rw[hsl 68 (by omega)];exact e68
  unfold l33c;simp[hs,e87,e88];simp[hs,e14',e17,hV',hW,Xap,wrC,hfin,happ,Xag,hmwV,hvo,hvc,hpo];simp[hs,e68',hwj];refine hQ _ _ v' (by simp[hs]) (fun i hi=>?_) (by simp[hs]) ?_ hac' how' (fun q hq hn=>?_) (by simp;omega) ((hio.le hm0).trans ((IOld.push _ _ _).trans hio'))
  ·rw[<-hsl i (by omega)];rcases hi with rfl|rfl|rfl|rfl|rfl|rfl|rfl<;>simp[hs]
  ·show(List.set _ _ _)[_]?=_;rw[List.getElem?_set_self (by omega)]
  ·show(List.set _ _ _)[_]?=_;rw[List.getElem?_set_ne (Ne.symm hn)];exact hold q hq
def fsL:Int->List Fn->List FS
 |_,[]=> []
 |a,f::r=>fsF a f::fsL (a+(f.vars.length+3:Nat)) r
theorem Xhi:∀(a:Int) (l:List Fn),(fsL a l).length=l.length
 |_,[]=>rfl
 |a,f::r=>by simp only[fsL,List.length_cons,Xhi _ r]
theorem Xi9:∀(l:List Fn) (a:Int) (j:Nat) (f:Fn),l[j]?=some f->fsL a (l.take (j+1))=fsL a (l.take j)++ [fsF (baseE a (l.take j)) f]
 |[],a,j,f,h=>by simp at h
 |g::r,a,0,f,h=>by simp at h;subst h;simp[fsL,baseE]
 |g::r,a,j+1,f,h=>by simp only[List.take_succ_cons,fsL,baseE,List.cons_append];rw[Xi9 r _ j f (by simpa using h)]
abbrev RRes:=List Fn×(Int×List FS×List Rule)×Int×Int
def rulesM(t:T):RRes:=
 let r:=resolve t
 if r.2.2.2≠0 then([],(0,[],[]),r.2.2.1,r.2.2.2)
 else
  let a:Int:=(r.2.1.count:Nat);let n:=baseE a r.1+9
  if 100000<n then([],(0,[],[]),0,52)
  else(r.1,(n,fsL a r.1,rT r.1 (baseL a r.1) r.2.1 0 0 (behV r.1 (baseL a r.1) 0+2) true),0,0)
def rulV(r:RRes):AV:=.tup [.sl none r.1.length (encFs r.1),.agg [.int .i64 r.2.1.1,.sl none r.2.1.2.1.length (Xbn r.2.1.2.1),.sl none r.2.1.2.2.length (encR r.2.1.2.2)],.int .i64 r.2.2.1,.int .i64 r.2.2.2]
abbrev Xj0:List ARes:=[.tmp 2,.cell 3 (some 3),.tmp 4,.tmp 5]
def Pur(st:St)(w:AV)(r:Rt AV)(st':St):Prop:=∃v,r=.ok v/\Grow st st'/\v.fin st.I.length=w
structure C33(st0:St)(q:T)(fs:List Fn)(bv:AV)(s:List AV)(st:St):Prop where
 sl:s.length=129
 e3:lk s 3=.ptr (st0.H.length+1) 0
 e6:lk s 6=.sl none fs.length (encFs fs)
 e7:lk s 7=.ptr (st0.H.length+2) 0
 e10:lk s 10=.ptr (st0.H.length+3) 0
 h1:st.H[st0.H.length+1]?=some (.cells 49 [.int .i64 0,.nils,.nils])
 h2:st.H[st0.H.length+2]?=some (.cells 24 q.enc)
 h3:st.H[st0.H.length+3]?=some (.cells 80 [.sl none fs.length (encFs fs),bv,.nils])
 old:∀j,j<st0.H.length->st.H[j]?=st0.H[j]?
 io:IOld st0.I.length st0.I st.I
theorem C33.len{st0 q fs bv s st}(h:C33 st0 q fs bv s st):st0.H.length+4<=st.H.length:=by have:=(List.getElem?_eq_some_iff.1 h.h3).1;omega
theorem C33.next{st0 q fs bv s st s' st'}(h:C33 st0 q fs bv s st)(hs:s'.length=129)(hsl:∀i,i=3\/i=6\/i=7\/i=10->lk s' i=lk s i)(hH:∀j,j<st0.H.length+4->st'.H[j]?=st.H[j]?)(hI:IOld st0.I.length st.I st'.I):C33 st0 q fs bv s' st':=
 ⟨hs,(hsl 3 (by omega)).trans h.e3,(hsl 6 (by omega)).trans h.e6,(hsl 7 (by omega)).trans h.e7,(hsl 10 (by omega)).trans h.e10,(hH _ (by omega)).trans h.h1,(hH _ (by omega)).trans h.h2,(hH _ (by omega)).trans h.h3,fun j hj=>(hH j (by omega)).trans (h.old j hj),h.io.trans hI⟩
theorem C33.wf{E:Env}{st0 q fs bv s st}(hE:E.Wf st0)(h:C33 st0 q fs bv s st):E.Wf st:=hE.of (H:=st.H) (I:=st.I) (by have:=h.len;omega) h.io.len
theorem Grow.of33{st0:St}{st':St}(h1:∀j,j<st0.H.length->st'.H[j]?=st0.H[j]?)(hl:st0.H.length<=st'.H.length)(h2:IOld st0.I.length st0.I st'.I):Grow st0 st':=
 ⟨Xhc hl fun j x e=>by rw[h1 j (uB e)];exact e,Xhc h2.len fun j x e=>h2.get j x (uB e) e⟩
theorem f33e{E:Env}{st0 st:St}(hE:E.Wf st0)(q:T)(fs:List Fn)(bs:List Int)(o:Option Nat)(s:List AV)(h:C33 st0 q fs (.sl o bs.length (bs.map (.int .i64))) s st)(V:Nat)(hV0:st0.H.length+4<=V)(e14:lk s 14=.ptr V 0)(sets:Int)(fv:AV)(F:List FS)
    (hV:st.H[V]?=some (.cells 49 [.int .i64 sets,fv,.nils])) (hac:AccX E st.I F fv) (how:∀j,owns fv=some j->st0.I.length<=j) (x0:FS) (hx0:F[0]?=some x0) (hqw:q.wt<=1000000000) (hvs:∀G∈fs,G.vars.length<=500) (hRW:RW fs bs 0 q) (k:Nat) (hk:20*q.wt+1200<=k):
    WP (aCall prog k) E k none y33e s [] st (endQ Xj0 (Pur st0 (rulV (fs,(sets,F,rT fs bs q 0 0 x0.throw true),0,0)))):=by
  obtain⟨hs,e3,e6,e7,e10,h1,h2,h3,hold,hio⟩:=h;have hVl:=uB hV;have hEs:E.Wf st:=hE.of (H:=st.H) (I:=st.I) (by omega) hio.len;have hmw:=Xaa hE;have hmw1:∀x y,Xaf E (st0.H.length+1) x y=true:=fun x y=>hmw _ _ _ (by omega);have hmwV:∀x y,Xaf E V x y=true:=fun x y=>hmw _ _ _ (by omega);have hS:MkS E (st0.H.length+3) fs bs o none [] .nils st:=⟨hEs,by have:=hE.base;omega,by have:=hE.rob;omega,⟨h3,.inl ⟨rfl,rfl⟩⟩,by simp⟩;have hcw:=Xb3 q;have c52:=Xn8 q.wt q (Nat.le_refl _) (by omega) hS hvs 0 x0.throw 0 true (Int.le_refl _) (by omega) (by simp;omega) hRW k (by omega);have hF0:=Xmd hx0 4 (by omega);have hF0:(Xbn F)[4]?=some (.int .i64 x0.throw):=by simpa [FS.enc]using hF0
  have hF1:=uV hF0;have hF2:=uB hF0;have hFl:0<F.length:=uB hx0
  obtain⟨i,rfl,hi1,hi2⟩:∃i,fv=.sl (some i) F.length (Xbn F)/\E.rom<=i/\st.I[i]?=some (F.length,5):=by
    rcases hac with⟨e, -⟩|⟨-,i,x⟩
    ·rw[e]at hFl;simp at hFl
    ·exact⟨i,x⟩
  have hi3:=how i rfl;have hi4:¬i<st0.I.length:=by omega
  have hqe:=T.enc_eq q;rw[hqe]at h2 c52;unfold y33e;simp only[Int.natCast_zero]at c52;simp[Nat.testBit,hs,e3,e6,e7,e10,e14,h2,hV,hF0,hF1,hF2,hFl,Xap,wrC,Xak];refine Xac c52 fun p hp=>?_;obtain⟨r,st9⟩:=p;obtain⟨r1,r2⟩:=hp;simp only at r1;subst r1;have r2:MkTo E (st0.H.length+3) (.sl none fs.length (encFs fs)) (.sl o bs.length (bs.map (.int .i64))) .nils st st9 ([]++rT fs bs q 0 0 x0.throw true):=r2;obtain⟨⟨rv',⟨z1,z2⟩,z3⟩,z4,z5,z6⟩:=r2;have zV:st9.H[V]?=_:=(z4 V hVl (by omega)).trans hV;have zL:st9.H[st0.H.length+1]?=_:=(z4 _ (by omega) (by omega)).trans h1;have hro:=z2.one;have hrc:=z2.cells
  have hrf:rv'.fin st0.I.length=.sl none (rT fs bs q 0 0 x0.throw true).length (encR (rT fs bs q 0 0 x0.throw true)):=by
    rcases z2 with⟨e,rfl⟩|⟨j,rfl,hj,hx⟩
    ·simp only[List.nil_append]at e;rw[e];rfl
    ·have:¬j<st0.I.length:=by
        rcases z3 with z3|⟨j',z3,z3'⟩
        ·simp[owns]at z3
        ·simp[owns]at z3;have:=hio.len;omega
     simp[this,Xfv]
  have n1:V≠st0.H.length+1:=by omega
  have hl9:st0.H.length+1<st9.H.length:=by omega
  have a1:∀x,(st9.H.set V x)[st0.H.length+1]?=some (.cells 49 [.int .i64 0,.nils,.nils]):=fun x=>by rw[List.getElem?_set_ne n1];exact zL
  have a2:∀x,(st9.H.set V x)[V]?=some x:=fun x=>List.getElem?_set_self (by omega);have a3:∀x y,((st9.H.set V x).set (st0.H.length+1) y)[st0.H.length+1]?=some y:=fun x y=>List.getElem?_set_self (by simp;omega);have hg:∀x y,Grow st0 ⟨(st9.H.set V x).set (st0.H.length+1) y,st9.I⟩:=fun x y=>.of33 (fun j hj=>by show(List.set _ _ _)[_]?=_;rw[List.getElem?_set_ne (by omega),List.getElem?_set_ne (by omega),z4 j (by omega) (by omega)];exact hold j hj) (by simp;omega) (hio.trans ⟨z6.len,fun j x _ e=>z6.get j x nofun e⟩);simp[Nat.testBit,hs,Xak,e10,e14,z1,zV,Xag,hmwV,hro,hrc,wrC];simp[Nat.testBit,hs,e3,e6,e14,a1,a2,a3,Xag,hmw1,hro,hrc,wrC,Xak];exact⟨_,rfl,hg _ _,by simp[rulV,Xeh,hrf,hi4]⟩
theorem f33d{E:Env}{st0 st:St}(hE:E.Wf st0)(q:T)(fs:List Fn)(a:Int)(ha:0<=a/\a<=10000000000)(hfl:fs.length<=1000)(hf0:0<fs.length)(o:Option Nat)(s:List AV)(h:C33 st0 q fs (.sl o (baseL a fs).length ((baseL a fs).map (.int .i64))) s st)(V:Nat)(hV0:st0.H.length+4<=V)(e14:lk s 14=.ptr V 0)(sets:Int)
    (hV:st.H[V]?=some (.cells 49 [.int .i64 sets,.nils,.nils])) (hqw:q.wt<=1000000000) (hvs:∀G∈fs,G.vars.length<=500) (hps:∀G∈fs,G.params<=500) (hRW:RW fs (baseL a fs) 0 q) (k:Nat) (hk:20*q.wt+2000<=k):
    WP (aCall prog k) E k none y33d s [] st (endQ Xj0 (Pur st0 (rulV (fs,(sets,fsL a fs,rT fs (baseL a fs) q 0 0 (behV fs (baseL a fs) 0+2) true),0,0)))):=by
  have hmwV:∀x y,Xaf E V x y=true:=fun x y=>Xaa hE _ _ _ (by omega);unfold y33d;simp[h.sl,h.e6]
  refine Xau (fun n s' m' st'=> ∃(j:Nat) (fv:AV),j<=fs.length/\n=fs.length - j/\m'=[]/\C33 st0 q fs (.sl o (baseL a fs).length ((baseL a fs).map (.int .i64))) s' st'/\lk s' 14=.ptr V 0/\lk s' 66=.sl none fs.length (encFs fs)/\lk s' 67=.int .i64 fs.length/\lk s' 68=.int .i64 j/\
      st'.H[V]?=some (.cells 49 [.int .i64 sets,fv,.nils])/\AccX E st'.I (fsL a (fs.take j)) fv/\(∀j,owns fv=some j->st0.I.length<=j)) fs.length (by omega)
    ⟨0,.nils,by omega,by omega,rfl,h.next (by simp[h.sl]) (fun i hi=>by rcases hi with rfl|rfl|rfl|rfl<;>simp[h.sl]) (fun _ _=>rfl) (.refl _ _),by simp[h.sl,e14],by simp[h.sl],by simp[h.sl],by simp[h.sl],hV,.inl ⟨rfl,rfl⟩,fun j e=>by simp[owns]at e⟩ ?_
  rintro _ s' m' st' ⟨j,fv,hj,rfl,rfl,hC,e14,e66,e67,e68,hV,hac,how⟩;clear h;by_cases hc:j<fs.length
  ·obtain⟨f,hg⟩:∃f,fs[j]?=some f:=⟨_,List.getElem?_eq_getElem hc⟩;have hfm:=List.mem_of_getElem? hg;have hbe:=Xc8 fs a j hvs;refine Xw2 (hC.wf hE) st0.I.length hC.io.len (st0.H.length+3) V hmwV s' hC.sl fs (baseL a fs) o .nils fv (.int .i64 sets) .nils _ j f hg (by omega) (baseE a (fs.take j)) (Xd4 fs a j hc) (by omega) (by have:=hps f hfm;omega) (by have:=hvs f hfm;omega) hC.e10 e14 e66 e67 e68 hC.h3 hV hac how (by rw[Xhi];simp;omega) _ k (by omega) _ ?_;intro s2 st2 fv' r1 r2 r3 r4 r5 r6 r7 r8 r9;have hl:=hC.len;exact⟨_,by omega,j+1,fv',by omega,rfl,rfl,hC.next r1 (fun i hi=>r2 i (by omega)) (fun q hq=>r7 q (by omega) (by omega)) r9,by rw[r2 14 (by omega)];exact e14,by rw[r2 66 (by omega)];exact e66,by rw[r2 67 (by omega)];exact e67,r3,r4,by rw[Xi9 fs a j f hg];exact r5,r6⟩
  have:j=fs.length:=by omega
  subst this;rw[List.take_length]at hac;obtain⟨G0,hG0⟩:∃G,fs[0]?=some G:=⟨_,List.getElem?_eq_getElem hf0⟩;have hx0:(fsL a fs)[0]?=some (fsF a G0):=by obtain⟨g,r,rfl⟩:=List.exists_cons_of_length_pos hf0;simp at hG0;subst hG0;simp[fsL]
  have hth:(fsF a G0).throw=behV fs (baseL a fs) 0+2:=by
    have hb0:(baseL a fs)[0]?=some a:=by rw[Xd4 fs a 0 hf0];simp[baseE]
    simp[behV,hb0,hG0,fsF]
  have hend:=f33e hE q fs (baseL a fs) o (s'.set 69 (.bool false)) (hC.next (by simp[hC.sl]) (fun i hi=>by rcases hi with rfl|rfl|rfl|rfl<;>simp[hC.sl]) (fun _ _=>rfl) (.refl _ _)) V hV0 (by simp[hC.sl,e14]) sets fv (fsL a fs) hV hac how _ hx0 hqw hvs hRW k (by omega);rw[hth]at hend;unfold l33b;simp[hC.sl,e67,e68];exact hend
theorem f33c{E:Env}{st0 st:St}(hE:E.Wf st0)(q:T)(fs:List Fn)(a:Int)(ha:0<=a/\a<=10000000000)(hfl:fs.length<=1000)(hf0:0<fs.length)(o:Option Nat)(s:List AV)(h:C33 st0 q fs (.sl o (baseL a fs).length ((baseL a fs).map (.int .i64))) s st)(e11:lk s 11=.int .i64 (baseE a fs))
  (hqw:q.wt<=1000000000) (hvs:∀G∈fs,G.vars.length<=500) (hps:∀G∈fs,G.params<=500) (hRW:RW fs (baseL a fs) 0 q) (k:Nat) (hk:20*q.wt+2000<=k):
  WP (aCall prog k) E k none y33c s [] st (endQ Xj0 (Pur st0 (rulV (if 100000<baseE a fs+9 then([],(0,[],[]),0,52)else(fs,(baseE a fs+9,fsL a fs,rT fs (baseL a fs) q 0 0 (behV fs (baseL a fs) 0+2) true),0,0))))):=by
 have hEs:=h.wf hE;have hl:=h.len;have hmw:=Xaa hEs;have hmw1:∀x y,Xaf E (st0.H.length+1) x y=true:=fun x y=>Xaa hE _ _ _ (by omega);have hbe:=Xc8 fs a fs.length hvs;rw[List.take_length]at hbe;have hw9:=Xah (n:=baseE a fs+9) (by omega);have a1:∀x,(st.H++x)[st0.H.length+1]?=some (.cells 49 [.int .i64 0,.nils,.nils]):=fun x=>Xae h.h1;by_cases hc:100000<baseE a fs+9
 ·rw[if_pos hc];have a3:∀x y,((st.H++x).set (st0.H.length+1) y)[st0.H.length+1]?=some y:=fun x y=>List.getElem?_set_self (by simp;omega);have hg:∀x y,Grow st0 ⟨(st.H++x).set (st0.H.length+1) y,st.I⟩:=fun x y=>.of33 (fun j hj=>by show(List.set _ _ _)[_]?=_;rw[List.getElem?_set_ne (by omega),List.getElem?_append_left (by omega)];exact h.old j hj) (by simp;omega) h.io;unfold y33c;simp[h.sl,h.e3,e11,hw9,Xap,wrC,Xag,hmw,hc,a1,hmw1,a3];exact⟨_,rfl,hg _ _,by simp[rulV,Xbn,encR,encFs]⟩
 ·rw[if_neg hc];unfold y33c;simp[h.sl,h.e3,e11,hw9,Xap,wrC,Xag,hmw,hc];refine f33d hE q fs a ha hfl hf0 o _ ?_ st.H.length hl ?_ _ ?_ hqw hvs hps hRW k hk
  ·exact h.next (by simp[h.sl]) (fun i hi=>by rcases hi with rfl|rfl|rfl|rfl<;>simp[h.sl]) (fun j hj=>by show(_++_)[_]?=_;rw[List.getElem?_append_left (by omega)]) (.refl _ _)
  ·simp[h.sl]
  ·simp
theorem f33b{E:Env}{st0 st:St}(hE:E.Wf st0)(q:T)(fs:List Fn)(a:Int)(ha:0<=a/\a<=10000000000)(hfl:fs.length<=1000)(hf0:0<fs.length)(s:List AV)(h:C33 st0 q fs .nils s st)(e11:lk s 11=.int .i64 a)
    (hqw:q.wt<=1000000000) (hvs:∀G∈fs,G.vars.length<=500) (hps:∀G∈fs,G.params<=500) (hRW:RW fs (baseL a fs) 0 q) (k:Nat) (hk:20*q.wt+2000<=k):
    WP (aCall prog k) E k none y33b s [] st (endQ Xj0 (Pur st0 (rulV (if 100000<baseE a fs+9 then([],(0,[],[]),0,52)else(fs,(baseE a fs+9,fsL a fs,rT fs (baseL a fs) q 0 0 (behV fs (baseL a fs) 0+2) true),0,0))))):=by
  have hmw3:∀x y,Xaf E (st0.H.length+3) x y=true:=fun x y=>Xaa hE _ _ _ (by omega);unfold y33b;simp[h.sl,h.e6]
  refine Xau (fun n s' m' st'=> ∃(j:Nat) (bv:AV),j<=fs.length/\n=fs.length - j/\m'=[]/\C33 st0 q fs bv s' st'/\lk s' 11=.int .i64 (baseE a (fs.take j))/\lk s' 36=.sl none fs.length (encFs fs)/\lk s' 37=.int .i64 fs.length/\lk s' 38=.int .i64 j/\
      AccI E st'.I (baseL a (fs.take j)) bv/\(∀j,owns bv=some j->st0.I.length<=j)) fs.length (by omega)
    ⟨0,.nils,by omega,by omega,rfl,h.next (by simp[h.sl]) (fun i hi=>by rcases hi with rfl|rfl|rfl|rfl<;>simp[h.sl]) (fun _ _=>rfl) (.refl _ _),by simp[h.sl,e11,baseE],by simp[h.sl],by simp[h.sl],by simp[h.sl],.inl ⟨rfl,rfl⟩,fun j e=>by simp[owns]at e⟩ ?_
  rintro _ s' m' st' ⟨j,bv,hj,rfl,rfl,hC,e11,e36,e37,e38,hac,how⟩;clear h;by_cases hc:j<fs.length
  ·obtain⟨f,hg⟩:∃f,fs[j]?=some f:=⟨_,List.getElem?_eq_getElem hc⟩;have hfm:=List.mem_of_getElem? hg;have hbe:=Xc8 fs a j hvs;refine Xw3 (hC.wf hE) st0.I.length hC.io.len (st0.H.length+3) 0 hmw3 s' hC.sl fs _ _ bv .nils j f hg (by omega) hC.e10 e11 e36 e37 e38 hC.h3 hac how (by rw[Xem];simp;omega) (by omega) (hvs f hfm) _ k _ ?_;intro s2 st2 bv' r1 r2 r3 r4 r5 r6 r7 r8 r9 r10 r11 r12;have hl:=hC.len;refine⟨_,by omega,j+1,bv',by omega,rfl,rfl,?_,by rw[Xgf fs a j f hg];exact r3,r4.trans e36,r5.trans e37,r6,by rw[Xge fs a j f hg];exact r8,r9⟩;exact⟨r1,(r2 3 (by omega)).trans hC.e3,(r2 6 (by omega)).trans hC.e6,(r2 7 (by omega)).trans hC.e7,(r2 10 (by omega)).trans hC.e10,by rw[r10 _ (by omega) (by omega)];exact hC.h1,by rw[r10 _ (by omega) (by omega)];exact hC.h2,r7,fun i hi=>by rw[r10 i (by omega) (by omega)];exact hC.old i hi,hC.io.trans r12⟩
  have:j=fs.length:=by omega
  subst this;rw[List.take_length]at hac e11;have hbl:=Xem a fs
  obtain⟨i,rfl⟩:∃i,bv=.sl (some i) (baseL a fs).length ((baseL a fs).map (.int .i64)):=by
    rcases hac with⟨e, -⟩|⟨-,i,e, -, -⟩
    ·rw[e]at hbl;simp at hbl;omega
    ·exact⟨i,e⟩
  have hend:=f33c hE q fs a ha hfl hf0 (some i) (s'.set 39 (.bool false)) (hC.next (by simp[hC.sl]) (fun i hi=>by rcases hi with rfl|rfl|rfl|rfl<;>simp[hC.sl]) (fun _ _=>rfl) (.refl _ _)) (by simp[hC.sl,e11]) hqw hvs hps hRW k hk;unfold l33a;simp[hC.sl,e37,e38];exact hend
theorem f33(t:T)(ht:t.ok)(hw:t.wt<=1000000000)(hqw:(resolve t).2.1.wt<=1000000000)(hfl:(resolve t).1.length<=1000)(hf0:(resolve t).2.2.2=0->0<(resolve t).1.length)(hvs:∀G∈(resolve t).1,G.vars.length<=500)(hps:∀G∈(resolve t).1,G.params<=500)
  (hRW:(resolve t).2.2.2=0->RW (resolve t).1 (baseL ((resolve t).2.1.count:Nat) (resolve t).1) 0 (resolve t).2.1) (k:Nat) (hk:20*t.wt+20*(resolve t).2.1.wt+10000<=k):PureC k 33 [.agg t.enc] (rulV (rulesM t)):=by
 intro E st hE;obtain⟨k,rfl⟩:=uK (k:=k) (by omega);have hmw:=Xaa hE;have hmw1:∀j x y,Xaf E (st.H.length+j) x y=true:=fun j x y=>hmw _ _ _ (by omega);have hrr:(resV (resolve t)).refs=[]:=by simp[resV,Xdp,T.enc_refs]
 have c20:=fun st3 (h:E.Wf st3)=>(f20 t ht (by omega) k (by omega)).full (E:=E) (st:=st3) hrr h;have hcw:=Xb3 (resolve t).2.1;unfold rulesM;generalize resolve t=R at*;obtain⟨fs,q,x,y⟩:=R;simp only at*;have c50:=fun st3 (h:E.Wf st3)=>(f50 q (by omega) k (by omega)).full (E:=E) (st:=st3) rfl h;obtain⟨op,s0,nn,l,line⟩:=t;have hqe:=T.enc_eq q;simp only[T.enc,resV]at c20;rw[hqe]at c20 c50;refine Xai (c0:=y33a) rfl rfl (by decide) fun s hs e0=>?_;have hE1:∀y,E.Wf ⟨st.H++y,st.I⟩:=fun y=>hE.of (by simp) (by simp);unfold y33a;by_cases hy:y=0
 ·subst hy;simp[hs,e0,c20 _ (hE1 _),Xag,hmw1,wrC,Xap,c50 _ (hE1 _)];refine f33b hE q fs (q.count:Nat) (by omega) hfl (hf0 rfl) _ ?_ ?_ hqw hvs hps (hRW rfl) k (by omega)
  ·exact⟨by simp[hs],by simp[hs],by simp[hs],by simp[hs],by simp[hs],by simp,by simp[hqe],by simp,fun j hj=>List.getElem?_append_left hj,.refl _ _⟩
  ·simp[hs]
 ·simp[hs,e0,c20 _ (hE1 _),Xag,hmw1,wrC,Xap,hy];exact⟨Grow.appH _ _,by simp[rulV,Xbn,encR,encFs]⟩
mutual
theorem Xg3(at_:Nat)(loop:Bool):∀(t:T) (w:Wk),w.e≠0->wT at_ loop t w=(t,w)
 |.mk op s n l x,w,h=>by simp only[wT,if_pos h]
end
theorem Xix(at_:Nat)(loop:Bool):∀(l:List T) (w:Wk),w.e≠0->(wL at_ loop l w).2=w
 |[],w,_=>rfl
 |t::r,w,h=>by simp only[wL,Xg3 at_ loop t w h,Xix at_ loop r w h]
theorem Xpd(w:Wk)(e x:Int)(he:e≠0):(w.fail e x).e≠0:=by
 unfold Wk.fail;split
 ·exact he
 ·assumption
theorem Xgu(w:Wk)(e x:Int):(w.fail e x).fs=w.fs:=by unfold Wk.fail;split<;>rfl
theorem Xim(w:Wk)(e x:Int):(w.fail e x).mark=w.mark:=by unfold Wk.fail;split<;>rfl
theorem Xfl(at_:Nat)(loop:Bool)(op:Int)(s:ByteArray)(n x:Int)(w:Wk):(Xal at_ loop op s n x w).2.2.fs=w.fs:=by
 unfold Xal;repeat' (first|split|(simp only[];split))
 all_goals first|rfl|simp[Xgu]
theorem Xmx(at_:Nat)(loop:Bool)(op:Int)(s:ByteArray)(n x:Int)(w:Wk):(Xal at_ loop op s n x w).2.2.mark=if op=11\/op=16\/op=15 then w.mark+1 else w.mark:=by
 by_cases h1:op=1
 ·subst h1;simp only[Xal,if_true];split<;>simp[Xim]
 by_cases h2:op=30\/op=35\/op=38
 ·have:¬(op=11\/op=16\/op=15):=by omega
  simp only[Xal,if_neg h1,if_pos h2,if_neg this]
 by_cases h3:op=11\/op=16\/op=15
 ·simp only[Xal,if_neg h1,if_neg h2,if_pos h3]
 simp only[Xal,if_neg h1,if_neg h2,if_neg h3];repeat' split
 all_goals simp[Xim]
mutual
theorem Xjo(at_:Nat)(loop:Bool):∀(t:T) (w:Wk),w.fs<+:(wT at_ loop t w).2.fs
 |.mk op s n l x,w=>by
  simp only[wT];split
  ·exact List.prefix_rfl
  ·split
   ·split
    ·rw[Xgu];exact List.prefix_rfl
    ·exact(List.prefix_append w.fs [Xb8 op s l at_ w.mark]).trans (wP_pfx w.fs.length l {w with mark:=w.mark+2,fs:=w.fs++ [Xb8 op s l at_ w.mark]})
   ·have:=wL_pfx at_ ((Xal at_ loop op s n x w).2.1||decide (op=35)) l (Xal at_ loop op s n x w).2.2;rw[Xfl]at this;exact this
theorem wL_pfx(at_:Nat)(loop:Bool):∀(l:List T) (w:Wk),w.fs<+:(wL at_ loop l w).2.fs
 |[],w=>List.prefix_rfl
 |t::r,w=>(Xjo at_ loop t w).trans (wL_pfx at_ loop r _)
theorem wP_pfx(me:Nat):∀(l:List T) (w:Wk),w.fs<+:(wP me l w).2.fs
 |[],w=>List.prefix_rfl
 |[t],w=>by simp only[wP];exact Xjo me false t w
 |t::u::r,w=>by simp only[wP];exact wP_pfx me (u::r) w
end
theorem Xcf{α:Type}{a b:List α}(h:a<+:b){i:Nat}{x:α}(e:a[i]?=some x):b[i]?=some x:=by obtain⟨t,rfl⟩:=h;rw[List.getElem?_append_left (uB e),e]
def isVr(op:Int):Bool:=decide (op=1)||decide (op=30)||decide (op=35)||decide (op=38)
def VarOk(fs:List Fn)(n:Int)(s:ByteArray):Prop:=0<=n/\∃f,fs[(n / 1000).toNat]?=some f/\f.vars[(n % 1000).toNat]?=some s
def FunOk(fs:List Fn)(n:Int)(s:ByteArray):Prop:=1<=n/\∃f,fs[n.toNat]?=some f/\f.name=s
mutual
def goodT(fs:List Fn):T->Prop
 |.mk op s n l _=>(isVr op=true->VarOk fs n s)/\(isFn op=true->FunOk fs n s)/\goodL fs l
def goodL(fs:List Fn):List T->Prop
 |[]=>True
 |t::r=>goodT fs t/\goodL fs r
end
theorem VarOk.mono{fs fs':List Fn}(h:fs<+:fs'){n s}(v:VarOk fs n s):VarOk fs' n s:=by obtain⟨h1,f,h2,h3⟩:=v;exact⟨h1,f,Xcf h h2,h3⟩
theorem FunOk.mono{fs fs':List Fn}(h:fs<+:fs'){n s}(v:FunOk fs n s):FunOk fs' n s:=by obtain⟨h1,f,h2,h3⟩:=v;exact⟨h1,f,Xcf h h2,h3⟩
mutual
theorem goodT.mono{fs fs':List Fn}(h:fs<+:fs'):∀t,goodT fs t->goodT fs' t
 |.mk op s n l x,g=>⟨fun e=>(g.1 e).mono h,fun e=>(g.2.1 e).mono h,goodL.mono h l g.2.2⟩
theorem goodL.mono{fs fs':List Fn}(h:fs<+:fs'):∀l,goodL fs l->goodL fs' l
 |[],_=>trivial
 |t::r,g=>⟨goodT.mono h t g.1,goodL.mono h r g.2⟩
end
structure WR(w:Wk):Prop where
 four:4<=w.mark
 each:∀(i:Nat) (f:Fn),w.fs[i]?=some f->f.around<i/\ -1<=f.around/\(0<i->0<=f.around/\4<=f.mark)/\f.params<=f.vars.length/\f.vars.length<=200/\f.mark<w.mark
 rise:∀(i:Nat) (f g:Fn),w.fs[i]?=some f->w.fs[i+1]?=some g->f.mark<g.mark
theorem WR.more{w w':Wk}(h:WR w)(h1:w'.fs=w.fs)(h2:w.mark<=w'.mark):WR w':=by refine⟨Nat.le_trans h.four h2,fun i f e=>?_,fun i f g=>by rw[h1];exact h.rise i f g⟩;rw[h1]at e;obtain⟨a,b,c,d,x,y⟩:=h.each i f e;exact⟨a,b,c,d,x,by omega⟩
theorem Xox(s:ByteArray):∀(l:List ByteArray) (i:Nat),ixS s l=some i->l[i]?=some s
 |[],i,h=>by simp[ixS]at h
 |w::r,i,h=>by
  simp only[ixS]at h;split at h
  ·rename_i e;cases h;simp[e]
  ·cases hr:ixS s r with
   |none=>simp[hr]at h
   |some j=>simp[hr]at h;subst h;simpa using Xox s r j hr
theorem Xn4{fs:List Fn}(hfs:∀(i:Nat) (f:Fn),fs[i]?=some f->f.vars.length<=200)(s:ByteArray):∀(n:Nat) (at_:Int),0<=varF fs n at_ s->VarOk fs (varF fs n at_ s) s
 |0,at_,h=>by simp[varF]at h
 |n+1,at_,h=>by
  simp only[varF]at h⊢;split at h
  ·omega
  ·rename_i ha;rw[if_neg ha];cases hf:fs[at_.toNat]? with
   |none=>simp[hf]at h
   |some f=>
    simp only[hf]at h⊢;cases hi:ixS s f.vars with
    |none=>simp only[hi]at h⊢;exact Xn4 hfs s n f.around h
    |some i=>
     simp only[hi]at h⊢;have hg:=Xox s _ _ hi;have hl:=uB hg;have:=hfs _ f hf;refine⟨h,f,?_,?_⟩
     ·rw[show(1000*at_+(i:Int)) / 1000=at_ by omega];exact hf
     ·rw[show((1000*at_+(i:Int)) % 1000).toNat=i by omega];exact hg
theorem Xiy{w:Wk}(h:WR w)(s:ByteArray)(at_:Int)(hv:0<=Xbu w.fs at_ s):VarOk w.fs (Xbu w.fs at_ s) s:=
 Xn4 (fun i f e=>(h.each i f e).2.2.2.2.1) s _ _ hv
def InV(fs:List Fn)(at_:Nat)(s:ByteArray):Prop:=∃f,fs[at_]?=some f/\s∈f.vars
theorem InV.mono{fs fs':List Fn}(h:fs<+:fs'){at_ s}(v:InV fs at_ s):InV fs' at_ s:=by obtain⟨f,h1,h2⟩:=v;exact⟨f,Xcf h h1,h2⟩
theorem Xlj{fs:List Fn}{at_:Nat}{s:ByteArray}(h:InV fs at_ s):0<=Xbu fs at_ s:=by
 obtain⟨f,h1,h2⟩:=h;have h3:=Xfa s f.vars;simp only[h2,decide_true,Option.isSome_iff_exists]at h3;obtain⟨i,hi⟩:=h3;have:((at_:Int)+1).toNat=at_+1:=by omega
 simp only[Xbu,this,varF,Int.toNat_natCast,h1,hi];rw[if_neg (by omega)];omega
theorem Xg1{l:List ByteArray}{s x:ByteArray}(h:x∈l):x∈withS l s:=by
 unfold withS;split
 ·exact h
 ·simp[h]
theorem Xf2(l:List ByteArray)(s:ByteArray):s∈withS l s:=by
 unfold withS;split
 ·assumption
 ·simp
theorem Xlh(l:List ByteArray)(s:ByteArray):l.length<=(withS l s).length:=by unfold withS;split<;>simp
mutual
theorem Xmf:∀(t:T) (out:List ByteArray) (x:ByteArray),x∈out->x∈decT t out
 |.mk op s n l y,out,x,h=>by
  simp only[decT];have h1:x∈(if isDec op=true then withS out s else out):=by split;exact Xg1 h;exact h
  split
  ·exact h1
  ·exact decL_sub l _ x h1
theorem decL_sub:∀(l:List T) (out:List ByteArray) (x:ByteArray),x∈out->x∈decL l out
 |[],out,x,h=>h
 |t::r,out,x,h=>decL_sub r _ x (Xmf t out x h)
end
mutual
theorem Xp2:∀(t:T) (out:List ByteArray),out.length<=(decT t out).length
 |.mk op s n l y,out=>by
  simp only[decT];have h1:out.length<=(if isDec op=true then withS out s else out).length:=by split;exact Xlh _ _;exact Nat.le_refl _
  split
  ·exact h1
  ·exact Nat.le_trans h1 (decL_ge l _)
theorem decL_ge:∀(l:List T) (out:List ByteArray),out.length<=(decL l out).length
 |[],out=>Nat.le_refl _
 |t::r,out=>Nat.le_trans (Xp2 t out) (decL_ge r _)
end
theorem Xik:∀(l:List T) (o:List ByteArray) (x:ByteArray),(x∈o\/∃u∈l,u.s=x)->x∈l.foldl (fun o x=>withS o x.s) o
 |[],o,x,h=>by simpa using h
 |t::r,o,x,h=>by
  simp only[List.foldl_cons];refine Xik r _ x ?_;rcases h with h|⟨u,hu,rfl⟩
  ·exact .inl (Xg1 h)
  ·rcases List.mem_cons.1 hu with rfl|hu
   ·exact .inl (Xf2 _ _)
   ·exact .inr ⟨u,hu,rfl⟩
theorem Xk2(op:Int)(s:ByteArray)(l:List T)(at_:Int)(mark:Nat):(∀u∈l.dropLast,u.s∈(Xb8 op s l at_ mark).vars)/\(∃out,(Xb8 op s l at_ mark).vars=decT (l.getLast?.getD default) out)/\(Xb8 op s l at_ mark).params<=(Xb8 op s l at_ mark).vars.length:=by
 have h1:∀x,x∈Xc6 l->x∈(Xb8 op s l at_ mark).vars:=fun x hx=>by
  simp only[Xb8];refine Xmf _ _ _ ?_;split
  ·exact Xg1 hx
  ·exact hx
 refine⟨fun u hu=>h1 _ (Xik _ _ _ (.inr ⟨u,hu,rfl⟩)),⟨_,rfl⟩,?_⟩;simp only[Xb8];refine Nat.le_trans ?_ (Xp2 _ _);split
 ·exact Xlh _ _
 ·exact Nat.le_refl _
theorem WR.push{w:Wk}(h:WR w)(op:Int)(s:ByteArray)(l:List T)(at_:Nat)(ha:at_<w.fs.length)(hv:(Xb8 op s l at_ w.mark).vars.length<=200):
  WR {w with mark:=w.mark+2,fs:=w.fs++ [Xb8 op s l at_ w.mark]}:=by
 have hp:=(Xk2 op s l at_ w.mark).2.2;refine⟨by have:=h.four;simp only;omega,fun i f e=>?_,fun i f g e1 e2=>?_⟩
 ·simp only at e⊢;rcases Nat.lt_trichotomy i w.fs.length with hi|hi|hi
  ·rw[List.getElem?_append_left hi]at e;obtain⟨a,b,c,d,x,y⟩:=h.each i f e;exact⟨a,b,c,d,x,by omega⟩
  ·subst hi;simp at e;subst e;have:=h.four;exact⟨by simp only[Xb8];omega,by simp only[Xb8];omega,fun _=>⟨by simp only[Xb8];omega,by simp only[Xb8];omega⟩,hp,hv,by simp only[Xb8];omega⟩
  ·rw[List.getElem?_eq_none (by simp;omega)]at e;cases e
 ·simp only at e1 e2;rcases Nat.lt_trichotomy (i+1) w.fs.length with hi|hi|hi
  ·rw[List.getElem?_append_left (by omega)]at e1;rw[List.getElem?_append_left hi]at e2;exact h.rise i f g e1 e2
  ·rw[List.getElem?_append_left (by omega)]at e1;rw[hi]at e2;simp at e2;subst e2;exact(h.each i f e1).2.2.2.2.2
  ·rw[List.getElem?_eq_none (by simp;omega)]at e2;cases e2
mutual
theorem Xkm(at_:Nat)(loop:Bool):∀(t:T) (w:Wk),t.wf->WR w->at_<w.fs.length->(∃out,∀s∈decT t out,InV w.fs at_ s)->(wT at_ loop t w).2.e=0->
    WR (wT at_ loop t w).2/\goodT (wT at_ loop t w).2.fs (wT at_ loop t w).1
  |.mk op s n l x,w,h,hw,ha,hd,he=>by
    by_cases hwe:w.e≠0
    ·rw[Xg3 _ _ _ _ hwe]at he;exact absurd he hwe
    simp only[wT,if_neg hwe]at he⊢;split at he
    ·rename_i hf;rw[if_pos hf];split at he
     ·exact absurd he (Xpd _ _ _ (by decide))
     ·rename_i hlim;rw[if_neg hlim];simp only[not_or,Nat.not_lt]at hlim;have hv:=Xk2 op s l at_ w.mark;have hbd:∃out,∀y∈decT (l.getLast?.getD default) out,InV (w.fs++ [Xb8 op s l at_ w.mark]) w.fs.length y:=by obtain⟨out,ho⟩:=hv.2.1;exact⟨out,fun y hy=>⟨Xb8 op s l at_ w.mark,by simp,by rw[ho];exact hy⟩⟩
      have hr:=wP_good w.fs.length l _ h.2.2.2.2 (h.2.1 hf).2 (hw.push op s l at_ ha hlim.2) (by simp) (fun u hu=>⟨Xb8 op s l at_ w.mark,by simp,hv.1 u hu⟩) (fun b hb=>by rw[hb]at hbd;exact hbd) he;refine⟨hr.1,?_⟩
      have hop:isVr op=false:=by
        have:op=10\/op=41:=by simp[isFn]at hf;omega
        rcases this with rfl|rfl<;>rfl
      refine⟨by simp[hop],fun _=>⟨by omega,Xb8 op s l at_ w.mark,?_,rfl⟩,hr.2⟩;exact Xcf (wP_pfx w.fs.length l _) (by simp)
    ·rename_i hf;rw[if_neg hf];simp only at he⊢;have hqf:=Xfl at_ loop op s n x w;have hqm:=Xmx at_ loop op s n x w;have hwq:WR (Xal at_ loop op s n x w).2.2:=hw.more hqf (by rw[hqm];split<;>omega);have hqe:(Xal at_ loop op s n x w).2.2.e=0:=by refine Classical.byContradiction fun hc=>?_;rw[Xix _ _ _ _ hc]at he;exact hc he
     have hdl:∃out,∀y∈decL l out,InV (Xal at_ loop op s n x w).2.2.fs at_ y:=by obtain⟨out,ho⟩:=hd;simp only[decT,if_neg hf]at ho;exact⟨_,fun y hy=>by rw[hqf];exact ho y hy⟩
     have hr:=wL_good at_ ((Xal at_ loop op s n x w).2.1||decide (op=35)) l _ h.2.2.2.2 hwq (by rw[hqf];exact ha) hdl he;refine⟨hr.1,fun hv=>?_,fun hf'=>absurd hf' hf,hr.2⟩;have hp:w.fs<+:(wL at_ ((Xal at_ loop op s n x w).2.1||decide (op=35)) l (Xal at_ loop op s n x w).2.2).2.fs:=by have:=wL_pfx at_ ((Xal at_ loop op s n x w).2.1||decide (op=35)) l (Xal at_ loop op s n x w).2.2;rw[hqf]at this;exact this
     refine VarOk.mono hp ?_;by_cases h1:op=1
     ·subst h1;simp only[Xal,if_true]at hqe⊢;refine Xiy hw s _ (Classical.byContradiction fun hc=>?_);rw[if_pos (by omega)]at hqe;exact Xpd _ _ _ (by decide) hqe
     ·have h2:op=30\/op=35\/op=38:=by simp only[isVr,Bool.or_eq_true,decide_eq_true_eq]at hv;omega
      simp only[Xal,if_neg h1,if_pos h2];refine Xiy hw s _ (Xlj ?_);obtain⟨out,ho⟩:=hd;refine ho s ?_;simp only[decT,if_neg hf];refine decL_sub _ _ _ ?_;have hdc:isDec op=true:=by rcases h2 with rfl|rfl|rfl<;>rfl
      rw[if_pos hdc];exact Xf2 _ _
theorem wL_good(at_:Nat)(loop:Bool):∀(l:List T) (w:Wk),T.wfL l->WR w->at_<w.fs.length->(∃out,∀s∈decL l out,InV w.fs at_ s)->(wL at_ loop l w).2.e=0->
    WR (wL at_ loop l w).2/\goodL (wL at_ loop l w).2.fs (wL at_ loop l w).1
  |[],w,_,hw,_,_,_=>⟨hw,trivial⟩
  |t::r,w,h,hw,ha,hd,he=>by
    simp only[wL]at he⊢;obtain⟨out,ho⟩:=hd;simp only[decL]at ho;have he1:(wT at_ loop t w).2.e=0:=by refine Classical.byContradiction fun hc=>?_;rw[Xix _ _ _ _ hc]at he;exact hc he
    have h1:=Xkm at_ loop t w h.1 hw ha ⟨out,fun y hy=>ho y (decL_sub _ _ _ hy)⟩ he1;have hp:=Xjo at_ loop t w;have h2:=wL_good at_ loop r _ h.2 h1.1 (Nat.lt_of_lt_of_le ha hp.length_le) ⟨_,fun y hy=>(ho y hy).mono hp⟩ he;exact⟨h2.1,goodT.mono (wL_pfx at_ loop r _) _ h1.2,h2.2⟩
theorem wP_good(me:Nat):∀(l:List T) (w:Wk),T.wfL l->(∀u∈l.dropLast,u.op=1)->WR w->me<w.fs.length->(∀u∈l.dropLast,InV w.fs me u.s)->(∀b,l.getLast?.getD default=b->∃out,∀s∈decT b out,InV w.fs me s)->(wP me l w).2.e=0->
    WR (wP me l w).2/\goodL (wP me l w).2.fs (wP me l w).1
  |[],w,_,_,hw,_,_,_,_=>⟨hw,trivial⟩
  |[t],w,h,_,hw,ha,_,hd,he=>by simp only[wP]at he⊢;have h1:=Xkm me false t w h.1 hw ha (hd t rfl) he;exact⟨h1.1,h1.2,trivial⟩
  |t::u::r,w,h,hp,hw,ha,hv,hd,he=>by simp only[wP]at he⊢;have h2:=wP_good me (u::r) w h.2 (fun v hm=>hp v (by simp[hm])) hw ha (fun v hm=>hv v (by simp[hm])) (fun b hb=>hd b (by simpa using hb)) he;refine⟨h2.1,?_,h2.2⟩;have h1:t.op=1:=hp t (by simp);have hs:=hv t (by simp);have hwf:=h.1;obtain⟨op,s,n,l,x⟩:=t;simp only[T.op_mk]at h1;subst h1;have hl:l=[]:=hwf.2.2.2.1.2 rfl;subst hl;refine⟨fun _=>?_,fun hf=>by simp[isFn]at hf,trivial⟩;exact(Xiy hw s _ (Xlj hs)).mono (wP_pfx me (u::r) w)
end
theorem WR.init(v:List ByteArray)(hv:v.length<=200):WR {fs:=[{around:= -1,name:=⟨#[]⟩,params:=0,vars:=v,mark:=0}],mark:=4,e:=0,line:=0}:=by
 refine⟨Nat.le_refl _,fun i f e=>?_,fun i f g e1 e2=>by simp at e2⟩;rcases i with _|i
 ·simp at e;subst e;exact⟨by simp,by simp,by simp,by simp,hv,by simp⟩
 ·simp at e
theorem Xcr(t:T)(h:(resolve t).2.2.2=0):goodT (resolve t).1 (resolve t).2.1/\
  (∀(i:Nat) (f:Fn),(resolve t).1[i]?=some f->f.around<i/\(0<i->0<=f.around/\4<=f.mark)/\f.params<=f.vars.length/\f.vars.length<=200)/\
  (∀(i:Nat) (f g:Fn),(resolve t).1[i]?=some f->(resolve t).1[i+1]?=some g->f.mark<g.mark)/\0<(resolve t).1.length:=by
 obtain⟨hr,hl,w,hw,he,hres⟩:=Xcy t h;have hwr:WR w:=by rw[hw];exact WR.init _ hl
 have ha:0<w.fs.length:=by rw[hw];simp
 have hg:=Xkm 0 false t w (Xgr hr) hwr ha ⟨[],fun s hs=>⟨_,by rw[hw];rfl,hs⟩⟩ he;have hp:=(Xjo 0 false t w).length_le;rw[hres];refine⟨hg.2,fun i f e=>?_,hg.1.rise,by simp only;omega⟩;obtain⟨a,b,c,d,x,y⟩:=hg.1.each i f e;exact⟨a,c,d,x⟩
def isMk(op:Int):Bool:=decide (op=11)||decide (op=16)||decide (op=15)
structure Frm(op:Int)(l:List T):Prop where
 mem:op=13->l.length=1
 idx:op=14->l.length=2
 set:op=17->l.length=2
 two:op=21\/op=22->l.length=2
 three:op=23->l.length=3
 call:op=15\/op=16->0<l.length
 one:op=30\/op=36->l.length<=1
 throw:op=37->l.length=1
 fn:isFn op=true->∀u∈l,u.op=32\/(u.op=1/\u.l=[])
 lhs:op=17->∀u,l[0]?=some u->u.op=1\/u.op=13\/u.op=14
mutual
def frm:T->Prop
 |.mk op _ _ l _=>Frm op l/\frmL l
def frmL:List T->Prop
 |[]=>True
 |t::r=>frm t/\frmL r
end
theorem Xo6:∀{l:List T},(∀t∈l,frm t)->frmL l
 |[],_=>trivial
 |a::r,h=>⟨h a (by simp),Xo6 fun t ht=>h t (by simp[ht])⟩
theorem Xhl(f:T->Bool)(op:Int)(len:Nat):∀(i:Nat) (l:List T),fitL f op len i l=true->∀(j:Nat) (u:T),l[j]?=some u->Xbc op len (i+j) u.op=true/\f u=true
 |i,[],_,j,u,h=>by simp at h
 |i,x::r,hf,0,u,h=>by simp at h;subst h;simp only[fitL,Bool.and_eq_true]at hf;exact hf.1
 |i,x::r,hf,j+1,u,h=>by
  simp only[fitL,Bool.and_eq_true]at hf;have:=Xhl f op len (i+1) r hf.2 j u (by simpa using h)
  rwa [show i+1+j=i+(j+1) by omega]at this
theorem Xl5(h:Nat)(u:T)(e:fit h u=true)(h1:u.op=1):u.l=[]:=by
 obtain⟨op,s,n,l,x⟩:=u;simp only[T.op_mk]at h1;subst h1;rcases h with _|h
 ·simp[fit]at e
 simp only[fit,Bool.and_eq_true]at e;rcases l with _|⟨a,r⟩
 ·rfl
 ·have:=e.1.1;simp[okF,Xaw,forms,TX.ok]at this;omega
theorem Xo9:∀(h:Nat) (t:T),fit h t=true->frm t
 |0,_,e=>by simp[fit]at e
 |h+1,.mk op s n l x,e=>by
  simp only[fit,Bool.and_eq_true]at e;obtain⟨⟨e1,e2⟩,e3⟩:=e;have hsub:frmL l:=Xo6 fun t ht=>Xo9 h t (Xfs _ _ _ _ _ e3 t ht);have hp:=Xhl _ _ _ _ _ e3;refine⟨⟨?_,?_,?_,?_,?_,?_,?_,?_,fun hf u hu=>?_,?_⟩,hsub⟩
  ·rintro rfl;simp[okF,Xaw,forms]at e1;omega
  ·rintro rfl;simp[okF,Xaw,forms]at e1;omega
  ·rintro rfl;simp[okF,Xaw,forms]at e1;omega
  ·rintro(rfl|rfl)<;>(simp[okF,Xaw,forms]at e1;omega)
  ·rintro rfl;simp[okF,Xaw,forms]at e1;omega
  ·rintro(rfl|rfl)<;>(simp[okF,Xaw,forms]at e1;omega)
  ·rintro(rfl|rfl)<;>(simp[okF,Xaw,forms]at e1;omega)
  ·rintro rfl;simp[okF,Xaw,forms]at e1;omega
  ·obtain⟨j,hj⟩:=List.mem_iff_getElem?.1 hu;obtain⟨h1,h2⟩:=hp j u hj;have hop:op=10\/op=41:=by simp[isFn]at hf;omega
   simp only[Xbc,if_pos hop]at h1;split at h1
   ·exact .inl (of_decide_eq_true h1)
   ·have h1:=of_decide_eq_true h1;exact .inr ⟨h1,Xl5 h u h2 h1⟩
  ·rintro rfl u hu;obtain⟨h1, -⟩:=hp 0 u hu;simpa [Xbc,or_assoc]using h1
theorem Xod{t:T}(h:right t=true):frm t:=by simp only[right,rBlk,Bool.and_eq_true]at h;exact Xo9 _ _ h.2
theorem Xen:∀l:List T,bareL l=l.map Xdu
 |[]=>rfl
 |t::r=>by simp[bareL,Xen r]
theorem Xlb(t:T):(Xdu t).op=t.op:=by cases t;rfl
theorem Xsz(t:T):(Xdu t).l=bareL t.l:=by cases t;rfl
mutual
theorem Xl2:∀t:T,frm (Xdu t)->frm t
 |.mk op s n l x,h=>by
  simp only[Xdu,frm]at h⊢;obtain⟨⟨h1,h2,h3,h4,h5,h6,h7,h8,h9,h10⟩,hr⟩:=h;rw[Xen]at h1 h2 h3 h4 h5 h6 h7 h8 h9 h10;simp only[List.length_map]at h1 h2 h3 h4 h5 h6 h7 h8;refine⟨⟨h1,h2,h3,h4,h5,h6,h7,h8,fun hf u hu=>?_,fun ho u hu=>?_⟩,frmL_bare l hr⟩
  ·have:=h9 hf (Xdu u) (List.mem_map.2 ⟨u,hu,rfl⟩);rw[Xlb,Xsz,Xen]at this;simpa using this
  ·have:=h10 ho (Xdu u) (by rw[List.getElem?_map,hu];rfl)
   rwa [Xlb]at this
theorem frmL_bare:∀l:List T,frmL (bareL l)->frmL l
 |[],_=>trivial
 |t::r,h=>⟨Xl2 t h.1,frmL_bare r h.2⟩
end
theorem Xhb(t:T)(h:(resolve t).2.2.2=0):frm (resolve t).2.1:=by obtain⟨hr, -⟩:=Xcy t h;exact Xl2 _ (by rw[(Xgk t h).1];exact Xod hr)
theorem BehA.of{fs:List Fn}{a:Int}(ha:0<=a/\a<=10000000000)(hfl:fs.length<=1000)(hvs:∀G∈fs,G.vars.length<=500){f:Nat}(hf:f<fs.length):BehA fs (baseL a fs) f (behV fs (baseL a fs) f):=by obtain⟨G,hG⟩:∃G,fs[f]?=some G:=⟨_,List.getElem?_eq_getElem hf⟩;have hb:=Xd4 fs a f hf;have hbe:=Xc8 fs a f hvs;have hv:=hvs G (List.mem_of_getElem? hG);exact⟨G,_,hG,hb,by omega,by omega,by simp[behV,hb,hG]⟩
theorem VarA.of{fs:List Fn}{a:Int}(ha:0<=a/\a<=10000000000)(hfl:fs.length<=1000)(hvs:∀G∈fs,G.vars.length<=500){n:Int}{s:ByteArray}(hv:VarOk fs n s):VarA (baseL a fs) n (vset (baseL a fs) n):=by
 obtain⟨h0,G,hG,hs⟩:=hv;have hf:=uB hG;have hb:=Xd4 fs a _ hf;have hbe:=Xc8 fs a (n / 1000).toNat hvs;have h1:n.tdiv 1000=((n / 1000).toNat:Int):=by rw[Int.tdiv_eq_ediv_of_nonneg h0];omega
 have h2:n.tmod 1000=n % 1000:=Int.tmod_eq_emod_of_nonneg h0;refine⟨(n / 1000).toNat,_,h1,hb,?_,?_,?_⟩
 ·exact Xah (by rw[h2];omega)
 ·exact Xah (by omega)
 ·simp only[vset,h1,Int.toNat_natCast,hb,Option.getD_some]
theorem Xj8{fs}:∀{l:List T} {i:Nat} {t:T},goodL fs l->l[i]?=some t->goodT fs t
 |[],i,t,_,h=>by simp at h
 |a::r,0,t,h,e=>by simp at e;subst e;exact h.1
 |a::r,i+1,t,h,e=>Xj8 h.2 (by simpa using e)
mutual
theorem Xvm{fs:List Fn}{bs:List Int}(hB:∀f,f<fs.length->BehA fs bs f (behV fs bs f))(hV:∀n s,VarOk fs n s->VarA bs n (vset bs n)):∀(t:T) (f:Nat),f<fs.length->goodT fs t->frm t->RW fs bs f t
 |.mk op s n l x,f,hf,hg,hr=>by
  simp only[RW];by_cases hfn:isFn op=true
  ·rw[if_pos hfn];obtain⟨h1,F,h2,h3⟩:=hg.2.1 hfn;have hgl:=uB h2;refine⟨hB f hf,⟨n.toNat,by omega,hB _ hgl⟩,RWB_of hB hV l _ hgl hg.2.2 hr.2⟩
  ·rw[if_neg hfn];obtain⟨⟨r1,r2,r3,r4,r5,r6,r7,r8, -, -⟩,r9⟩:=hr;refine⟨⟨hB f hf,fun ho=>?_,r1,r2,fun ho=>⟨r3 ho,fun t0 ht0 h1=>?_⟩,r4,r5,fun ho=>?_,fun ho=>?_⟩,RWL_of hB hV l f hf hg.2.2 r9⟩
   ·simp only[T.op_mk]at ho;exact hV n s (hg.1 (by rcases ho with rfl|rfl|rfl<;>rfl))
   ·have hg0:=Xj8 hg.2.2 ht0;obtain⟨op0,s0,n0,l0,x0⟩:=t0;simp only[T.op_mk]at h1;subst h1;exact hV n0 s0 (hg0.1 rfl)
   ·have:=r6 ho;simp only[T.l_mk];rintro rfl;simp at this
   ·simp only[T.op_mk,T.l_mk]at ho⊢;rcases ho with ho|ho|ho
    ·exact r7 (.inl ho)
    ·exact r7 (.inr ho)
    ·rw[r8 ho];exact Nat.le_refl _
theorem RWL_of{fs:List Fn}{bs:List Int}(hB:∀f,f<fs.length->BehA fs bs f (behV fs bs f))(hV:∀n s,VarOk fs n s->VarA bs n (vset bs n)):∀(l:List T) (f:Nat),f<fs.length->goodL fs l->frmL l->RWL fs bs f l
 |[],_,_,_,_=>trivial
 |t::r,f,hf,hg,hr=>⟨Xvm hB hV t f hf hg.1 hr.1,RWL_of hB hV r f hf hg.2 hr.2⟩
theorem RWB_of{fs:List Fn}{bs:List Int}(hB:∀f,f<fs.length->BehA fs bs f (behV fs bs f))(hV:∀n s,VarOk fs n s->VarA bs n (vset bs n)):∀(l:List T) (g:Nat),g<fs.length->goodL fs l->frmL l->RWB fs bs g l
 |[],_,_,_,_=>trivial
 |t::r,g,hf,hg,hr=>⟨fun _=>Xvm hB hV t g hf hg.1 hr.1,RWB_of hB hV r g hf hg.2 hr.2⟩
end
theorem Xcq(t:T):(resolve t).1.length<=500/\(∀G∈(resolve t).1,G.vars.length<=200/\G.params<=200):=by
 refine⟨(Xm4 t).len,?_⟩;by_cases h:(resolve t).2.2.2=0
 ·obtain⟨-,h2, -⟩:=Xcr t h;intro G hG;obtain⟨i,hi⟩:=List.mem_iff_getElem?.1 hG;obtain⟨-, -,h3,h4⟩:=h2 i G hi;exact⟨h4,by omega⟩
 ·rw[(Xkw t h).1];simp
theorem Xii(t:T)(hw:t.wt<=1000000000)(h:(resolve t).2.2.2=0):RW (resolve t).1 (baseL ((resolve t).2.1.count:Nat) (resolve t).1) 0 (resolve t).2.1:=by
 have hwt:=Xdn t;have hcw:=Xb3 (resolve t).2.1;obtain⟨h1,h2⟩:=Xcq t;have hvs:∀G∈(resolve t).1,G.vars.length<=500:=fun G hG=>by have:=(h2 G hG).1;omega
 obtain⟨hgood, -, -,h0⟩:=Xcr t h;exact Xvm (fun f hf=>BehA.of ⟨by omega,by omega⟩ (by omega) hvs hf) (fun n s hv=>VarA.of ⟨by omega,by omega⟩ (by omega) hvs hv) _ 0 h0 hgood (Xhb t h)
theorem Xks(t:T)(ht:t.ok)(hw:t.wt<=1000000000)(k:Nat)(hk:40*t.wt+10000<=k):PureC k 33 [.agg t.enc] (rulV (rulesM t)):=by have hwt:=Xdn t;obtain⟨h1,h2⟩:=Xcq t;exact f33 t ht hw (by omega) (by omega) (fun h=>(Xcr t h).2.2.2) (fun G hG=>by have:=(h2 G hG).1;omega) (fun G hG=>by have:=(h2 G hG).2;omega) (Xii t hw) k (by omega)
theorem Xjy(r:RRes):(rulV r).refs=[]:=by
 have h:∀l:List Rule,AV.refsL (encR l)=[]:=fun l=>by
  induction l with
  |nil=>rfl
  |cons a r ih=>simp only[encR,Xcs,Rule.enc_refs,ih,List.append_nil]
 simp[rulV,Xdp,Xip,h]
theorem f53(n:Nat):∀t:T,t.wt<=n->t.wt<=100000000000->∀(E:Env) (st:St) (k:Nat),E.Wf st->n+2<=k->CallQ k E 53 [.agg t.enc] st fun r st'=>r=.ok (.int .i64 (t.count:Nat))/\Grow st st':=by
 induction n with
 |zero=>intro t h;cases t;simp[T.wt]at h
 |succ n ih=>
  intro t ht htm E st k hE hk;obtain⟨k,rfl⟩:=uK (k:=k) (by omega);have hcw:=Xb3 t;obtain⟨op,s0,nn,l,line⟩:=t;simp only[T.wt]at ht htm;have hlw:=T.len_wtL l;simp only[T.count,T.wt]at hcw;refine Xai rfl rfl (by decide) fun s hs e0=>?_;simp[hs,e0]
  refine Xau (fun n s m st'=> ∃j:Nat,j<=l.length/\n=l.length - j/\s.length=21/\m=[]/\lk s 1=.ptr st.H.length 0/\lk s 3=.int .i64 ((1+T.countL (l.take j):Nat):Int)/\lk s 4=.int .i64 j/\
   Grow ⟨st.H++ [.cells 24 [.int .i64 op,.str s0,.int .i64 nn,.sl none l.length (T.encL l),.int .i64 line]],st.I⟩ st') l.length (by omega)
   ⟨0,by omega,by omega,by simp[hs],rfl,by simp[hs],by simp[hs,T.countL],by simp[hs],.refl _⟩ ?_
  clear hs e0 s;rintro _ s m st' ⟨j,hj,rfl,hs,rfl,e1,e3,e4,hg⟩;have q0:st'.H[st.H.length]?=some (.cells 24 [.int .i64 op,.str s0,.int .i64 nn,.sl none l.length (T.encL l),.int .i64 line]):=Xcf hg.H (by simp);have hE':E.Wf st':=hE.of (H:=st'.H) (I:=st'.I) (by have:=hg.H.length_le;simp at this;omega) hg.I.length_le;by_cases hc:j<l.length
  ·obtain⟨t,hgt⟩:∃t,l[j]?=some t:=⟨_,List.getElem?_eq_getElem hc⟩;have hrd:=T.rd hgt;have hwj:=Xah (n:=(j:Int)+1) (by omega);have hwt:=T.wtL_get hgt;have hts:=Xbt hgt;have htl:=Xc1 l (j+1);have hwc:=Xah (n:=(1:Int)+(T.countL (l.take j):Nat)+(t.count:Nat)) (by omega);have c53:=ih t (by omega) (by omega) E st' k hE' (by omega);rw[T.enc_eq]at hrd c53
   push_cast at e3
   simp[hs,e1,e3,e4,q0,hc,hrd];refine Xac c53 fun p hp=>?_;obtain⟨r,st2⟩:=p;obtain⟨r1,r2⟩:=hp;simp only at r1 r2;subst r1;simp[hs,e3,e4,hwc,hwj];refine⟨_,by omega,j+1,by omega,rfl,by simp[hs],rfl,by simp[hs,e1],?_,by simp[hs],hg.trans r2⟩;simp[hs,hts];omega
  ·have:j=l.length:=by omega
   subst this;rw[List.take_length]at e3
   push_cast at e3
   simp[hs,e1,e3,e4,q0];exact⟨by simp[T.count],(List.prefix_append _ _).trans hg.H,hg.I⟩
theorem f84(t:T)(hw:t.wt<=10000000000)(k0:Int)(h0:0<=k0)(h1:k0<=100000000000)(E:Env)(st:St)(k:Nat)(hE:E.Wf st)(hk:t.wt+10<=k):
    CallQ k E 84 [.agg t.enc,.int .i64 k0] st fun r st'=> ∃v,r=.ok v/\AccI E st'.I (posF (k0+1) t.l) v/\(∀j,owns v=some j->st.I.length<=j)/\st.H<+:st'.H/\IOld st.I.length st.I st'.I:=by
  obtain⟨k,rfl⟩:=uK (k:=k) (by omega);have hcw:=Xb3 t;obtain⟨op,s0,nn,l,line⟩:=t;simp only[T.wt]at hw hk;have hlw:=T.len_wtL l;simp only[T.count,T.wt]at hcw;have hll:=T.len_le l;have hw1:=Xah (n:=k0+1) (by omega);refine Xaz rfl rfl (by decide) fun s hs e0 e1=>?_;simp[hs,e0,e1,hw1]
  refine Xau (fun n s m st'=> ∃(j:Nat) (v:AV),j<=l.length/\n=l.length - j/\s.length=30/\m=[]/\lk s 2=.ptr st.H.length 0/\lk s 5=v/\lk s 6=.int .i64 (pos k0 l j)/\lk s 7=.int .i64 j/\
      (st.H++ [.cells 24 [.int .i64 op,.str s0,.int .i64 nn,.sl none l.length (T.encL l),.int .i64 line]])<+:st'.H/\AccI E st'.I (posF (k0+1) (l.take j)) v/\(∀j,owns v=some j->st.I.length<=j)/\IOld st.I.length st.I st'.I) l.length (by omega)
      ⟨0,.nils,by omega,by omega,by simp[hs],rfl,by simp[hs],by simp[hs],by simp[hs,pos,T.countL],by simp[hs],List.prefix_rfl,.inl ⟨by simp[posF],rfl⟩,fun j e=>by simp[owns]at e,.refl _ _⟩ ?_
  clear hs e0 e1 s;rintro _ s m st' ⟨j,v,hj,rfl,hs,rfl,e2,e5,e6,e7,hg,hac,how,hio⟩;have q0:st'.H[st.H.length]?=some (.cells 24 [.int .i64 op,.str s0,.int .i64 nn,.sl none l.length (T.encL l),.int .i64 line]):=Xcf hg (by simp);have hE':E.Wf st':=hE.of (H:=st'.H) (I:=st'.I) (by have:=hg.length_le;simp at this;omega) hio.len;by_cases hc:j<l.length
  ·obtain⟨t,hgt⟩:∃t,l[j]?=some t:=⟨_,List.getElem?_eq_getElem hc⟩;have hrd:=T.rd hgt;have hwj:=Xah (n:=(j:Int)+1) (by omega);have hwt:=T.wtL_get hgt;have hct:=Xbt hgt;have hc2:=Xc1 l (j+1);have hps:pos k0 l j+t.count=pos k0 l (j+1):=by simp only[pos,hct];omega
   have hwp:IntKind.i64.wrap (pos k0 l j+t.count)=pos k0 l (j+1):=by rw[hps];exact Xah (by simp only[pos];omega)
   obtain⟨v',I',happ,hac',hio',how'⟩:=(hac.push (1,1)).app (m:=st.I.length) (by have:=hE'.rom;simp;omega) (by have:=hio.len;simp;omega) how (by rw[Xdy];simp;omega) st'.H (pos k0 l j) st'.I.length;have hsn:=Xj1 (k0+1) l j hc;have hpj:pos k0 l j=k0+1+(T.countL (l.take j):Nat):=rfl;rw[<-hpj]at hsn;rw[<-hsn]at hac';have c53:=f53 t.wt t (Nat.le_refl _) (by omega) E ⟨st'.H,I'⟩ k (hE'.of (by simp) (by have:=hio'.len;simp at this;omega)) (by omega);rw[T.enc_eq]at hrd c53;simp[hs,e2,e5,e6,e7,q0,hc,Xap,wrC,happ,hrd];refine Xac c53 fun p hp=>?_;obtain⟨r,st2⟩:=p;obtain⟨r1,r2⟩:=hp;simp only at r1 r2;subst r1;simp[hs,e6,e7,hwp,hwj];have hI2:∀q x,I'[q]?=some x->st2.I[q]?=some x:=fun q x e=>Xcf r2.I e;refine⟨_,by omega,j+1,v',by omega,rfl,by simp[hs],rfl,by simp[hs,e2],by simp[hs],by simp[hs],by simp[hs],hg.trans r2.H,?_,how',hio.trans ((IOld.push _ _ _).trans (hio'.trans ⟨r2.I.length_le,fun q x _ e=>hI2 q x e⟩))⟩;rcases hac' with h|⟨hx,q,e,hq1,hq2⟩
   ·exact .inl h
   ·exact .inr ⟨hx,q,e,hq1,hI2 q _ hq2⟩
  ·have:j=l.length:=by omega
   subst this;rw[List.take_length]at hac;simp[hs,e2,e5,e7,q0];exact⟨hac,how,(List.prefix_append _ _).trans hg,hio⟩
def DkR(E:Env)(mb:Nat)(F B:AV)(nx:Int)(rs:List Rule)(rv:AV)(st:St):Prop:=st.H[mb]?=some (.cells 90 [F,B,.int .i64 nx,rv])/\AccR E st.I rs rv
structure DkTo(E:Env)(mb:Nat)(F B:AV)(rv:AV)(st st':St)(nx:Int)(rs':List Rule):Prop where
 now:∃rv',DkR E mb F B nx rs' rv' st'/\OwnTo st.I rv rv'
 old:∀j,j<st.H.length->j≠mb->st'.H[j]?=st.H[j]?
 len:st.H.length<=st'.H.length
 ifr:IFr (owns rv) st.I st'.I
theorem DkTo.andThen{E mb F B rv rv2 nx nx' st st' st'' rs rs'}(h:DkTo E mb F B rv st st' nx rs)(hm:DkR E mb F B nx rs rv2 st')(k:DkTo E mb F B rv2 st' st'' nx' rs'):DkTo E mb F B rv st st'' nx' rs':=by
 obtain⟨⟨rv',⟨h1,h1'⟩,h2⟩,h3,h4,h5⟩:=h;have e:rv'=rv2:=by have:=h1.symm.trans hm.1;simpa using this
 subst e;obtain⟨⟨rv'',k1,k2⟩,k3,k4,k5⟩:=k;exact⟨⟨rv'',k1,h2.next h5.len k2⟩,fun j hj hn=>by rw[k3 j (by omega) hn];exact h3 j hj hn,Nat.le_trans h4 k4,h5.next h2 k5⟩
theorem DkR.pre{E mb F B nx rs rv st st1}(h:DkR E mb F B nx rs rv st)(ho:st1.H[mb]?=st.H[mb]?)(hi:st.I<+:st1.I):DkR E mb F B nx rs rv st1:=by
 obtain⟨h1,h2⟩:=h;refine⟨ho.trans h1,?_⟩;obtain⟨y,hy⟩:=hi;rw[<-hy];rcases h2 with h2|⟨j,e,hj,hi⟩
 ·exact .inl h2
 ·exact .inr ⟨j,e,hj,by rw[List.getElem?_append_left (uB hi)];exact hi⟩
theorem DkTo.pre{E mb F B rv st st1 st' nx rs'}(h:DkTo E mb F B rv st1 st' nx rs')(ho:∀j,j<st.H.length->st1.H[j]?=st.H[j]?)(hl:st.H.length<=st1.H.length)(hi:st.I<+:st1.I):DkTo E mb F B rv st st' nx rs':=by
 obtain⟨⟨rv',h1,h2⟩,h3,h4,h5⟩:=h;have hil:=hi.length_le;obtain⟨y,hy⟩:=hi;refine⟨⟨rv',h1,?_⟩,fun j hj hn=>by rw[h3 j (by omega) hn];exact ho j hj,by omega,by have:=h5.len;omega,fun j x n e=>h5.get j x n ?_⟩
 ·rcases h2 with h2|⟨j,e,hj⟩
  ·exact .inl h2
  ·exact .inr ⟨j,e,by omega⟩
 ·rw[<-hy,List.getElem?_append_left (uB e)];exact e
structure DkS(E:Env)(mb:Nat)(fs:List Fn)(bs:List Int)(o o':Option Nat)(nx:Int)(rs:List Rule)(rv:AV)(st:St):Prop where
 wf:E.Wf st
 base:E.base<=mb
 rob:E.rob<=mb
 now:DkR E mb (.sl o' fs.length (encFs fs)) (.sl o bs.length (bs.map (.int .i64))) nx rs rv st
 len:rs.length<=20000000000
theorem DkS.next{E mb fs bs o o' nx nx' rs rv st st' rs'}(h:DkS E mb fs bs o o' nx rs rv st)(k:DkTo E mb (.sl o' fs.length (encFs fs)) (.sl o bs.length (bs.map (.int .i64))) rv st st' nx' rs')(hl:rs'.length<=20000000000):∃rv',DkS E mb fs bs o o' nx' rs' rv' st':=by obtain⟨⟨rv',h1,h2⟩,h3,h4,h5⟩:=k;exact⟨rv',h.wf.of (H:=st'.H) (I:=st'.I) h4 h5.len,h.base,h.rob,h1,hl⟩
theorem DkS.more{E mb fs bs o o' nx rs rv st}(h:DkS E mb fs bs o o' nx rs rv st)(X:List ABlk):DkS E mb fs bs o o' nx rs rv ⟨st.H++X,st.I⟩:=
 ⟨h.wf.of (by simp) (by simp),h.base,h.rob,h.now.pre (List.getElem?_append_left (List.getElem?_eq_some_iff.1 h.now.1).1) List.prefix_rfl,h.len⟩
theorem f128{E mb fs bs o o' nx rs rv st}(h:DkS E mb fs bs o o' nx rs rv st)(r:Rule)(lv:AV)(hlv:lv.fin 0=.sl none r.l.length (r.l.map (.int .i64)))(hlo:lv.one=true)(hlc:lv.cells=[lv])(hlen:rs.length<=10000000000)(k:Nat)(hk:1<=k):
  CallQ k E 128 [.ptr mb 0,.agg [.int .i64 r.kind,.int .i64 r.f,.int .i64 r.x,.int .i64 r.y,.int .i64 r.z,.int .i64 r.n,.int .i64 r.m,.str r.s,lv]] st fun q st'=>q=.ok (.tup [])/\DkTo E mb (.sl o' fs.length (encFs fs)) (.sl o bs.length (bs.map (.int .i64))) rv st st' nx (rs++ [r]):=by
 obtain⟨k,rfl⟩:=uK (k:=k) (by omega);have hm:=h.now.1;have hml:=uB hm;have hmw1:∀x y,Xaf E mb x y=true:=fun x y=>by simp[Xaf,h.base,h.rob]
 obtain⟨v',I',happ,hac,hIf,hOw⟩:=(h.now.2.push (1,9)).app (by have:=h.wf.rom;simp;omega) (by omega) (st.H++ [.cells 55 [.int .i64 r.kind,.int .i64 r.f,.int .i64 r.x,.int .i64 r.y,.int .i64 r.z,.int .i64 r.n,.int .i64 r.m,.str r.s,lv]]) r st.I.length;have hvo:=hac.one;have hvc:=hac.cells;simp only[Rule.enc]at happ;refine Xaz rfl rfl (by decide) fun s hs e0 e1=>?_;simp[hs,e0,e1,hlo];simp[-Xan, -Xav,Xaj,Xao,Nat.testBit,hs,e0,Xae hm,Xap,wrC,hlv,hlo,happ,Xag,hmw1,hvo,hvc,Xak];refine⟨⟨v',⟨?_,hac⟩,hOw.push⟩,fun q hq hn=>?_,by simp,(IFr.push _ _ _).trans hIf⟩
 ·exact List.getElem?_set_self (by simp;omega)
 ·show(List.set _ _ _)[_]?=_;rw[List.getElem?_set_ne (Ne.symm hn),List.getElem?_append_left hq]
theorem f54{E:Env}{st:St}{mb:Nat}{nx rv:AV}{o o':Option Nat}{fs:List Fn}{bs:List Int}{f:Nat}{v:Int}(hm:st.H[mb]?=some (.cells 90 [.sl o' fs.length (encFs fs),.sl o bs.length (bs.map (.int .i64)),nx,rv]))(hv0:BehA fs bs f v)(q:Int)(hq:0<=q/\q<=10)
  (k:Nat) (hk:1<=k):aCall prog k E (.fn 54) [.ptr mb 0,.int .i64 f,.int .i64 q] st=some (.ok (.int .i64 (v+q)),st):=by
 obtain⟨g,b,hf,hb,h0,hn,rfl⟩:=hv0.ex;refine Xdm (a:=.ok (.int .i64 (b+g.vars.length+q))) (b:=st) ?_;obtain⟨k,rfl⟩:=uK (k:=k) (by omega);have hb1:(bs.map (AV.int IntKind.i64))[f]?=some (.int .i64 b):=by rw[List.getElem?_map,hb];rfl
 have hb2:=uV hb1;have hb3:=uB hb;have hb4:=uV hb;have hv:(encFs fs)[f*5+3]?=some (.sl none g.vars.length (g.vars.map .str)):=Xb2 hf 3 (by omega);have hv2:=uV hv;have ha:=uB hf;have hv3:f*5+3<fs.length*5:=by omega
 have w1:=Xah (n:=b+g.vars.length) (by omega);have w2:=Xah (n:=b+g.vars.length+q) (by omega);refine Xa8 rfl rfl (by decide) fun s hs e0 e1 e2=>?_;simp[Nat.testBit,hs,e0,e1,e2,hm,hb1,hb2,hb3,hb4,ha,hv,hv2,hv3,w1,w2,Xak]
theorem f86{E:Env}{st:St}{mb:Nat}{F nx rv:AV}{o:Option Nat}{bs:List Int}{n v:Int}(hm:st.H[mb]?=some (.cells 90 [F,.sl o bs.length (bs.map (.int .i64)),nx,rv]))(hv0:VarA bs n v)(k:Nat)(hk:1<=k):aCall prog k E (.fn 86) [.ptr mb 0,.int .i64 n] st=some (.ok (.int .i64 v),st):=by
 obtain⟨a,b,ha,hb,hn,hw,rfl⟩:=hv0.ex;refine Xdm (a:=.ok (.int .i64 (b+n.tmod 1000))) (b:=st) ?_;obtain⟨k,rfl⟩:=uK (k:=k) (by omega);have hb1:(bs.map (AV.int IntKind.i64))[a]?=some (.int .i64 b):=by rw[List.getElem?_map,hb];rfl
 have hb2:=uV hb1;have hb3:=uB hb;have hb4:=uV hb;refine Xaz rfl rfl (by decide) fun s hs e0 e1=>?_;simp[hs,e0,e1,hm,ha,hw,hb1,hb2,hb3,hb4,hn]
theorem f130(t:T)(k:Nat)(hk:1<=k)(E:Env)(st:St):CallQ k E 130 [.agg t.enc] st fun r st'=>r=.ok (.bool (decide (t.op=13\/t.op=14)))/\st'=⟨st.H++ [.cells 24 t.enc],st.I⟩:=by
 obtain⟨k,rfl⟩:=uK (k:=k) (by omega);obtain⟨op,s0,nn,l,x⟩:=t;refine Xai rfl rfl (by decide) fun s hs e0=>?_;by_cases h1:op=13
 ·simp[hs,e0,h1]
 ·by_cases h2:op=14
  ·simp[hs,e0,h2]
  ·simp[hs,e0,h1,h2]
def ixN(s:ByteArray)(l:List ByteArray)(i:Nat):Option Nat:=(ixS s (l.drop i)).map (·+i)
theorem Xrx{l:List ByteArray}{i:Nat}(h:i<l.length):l.drop i=l[i]::l.drop (i+1):=List.drop_eq_getElem_cons h
theorem f129{E:Env}{st:St}{mb:Nat}{nx rv:AV}{o o':Option Nat}{fs:List Fn}{bs:List Int}{f:Nat}{G:Fn}{b:Int}(hm:st.H[mb]?=some (.cells 90 [.sl o' fs.length (encFs fs),.sl o bs.length (bs.map (.int .i64)),nx,rv]))(hf:fs[f]?=some G)(hb:bs[f]?=some b)(h0:0<=b)(hn:b+G.vars.length<=1000000000000000)(x:ByteArray)(i:Nat)
    (k:Nat) (hk:G.vars.length+3<=k):aCall prog k E (.fn 129) [.ptr mb 0,.int .i64 f,.str x,.int .i64 i] st=some (.ok (.int .i64 (match ixN x G.vars i with|some j=>b+j|none=> -1)),st):=by
  refine Xdm (a:=.ok (.int .i64 (match ixN x G.vars i with|some j=>b+j|none=> -1))) (b:=st) ?_;obtain⟨k,rfl⟩:=uK (k:=k) (by omega);have hb1:(bs.map (AV.int IntKind.i64))[f]?=some (.int .i64 b):=by rw[List.getElem?_map,hb];rfl
  have hb2:=uV hb1;have hb3:=uB hb;have hb4:=uV hb;have hv:(encFs fs)[f*5+3]?=some (.sl none G.vars.length (G.vars.map .str)):=Xb2 hf 3 (by omega);have hv2:=uV hv;have ha:=uB hf;have hv3:f*5+3<fs.length*5:=by omega
  generalize hV:G.vars=V at*;refine Xa4 rfl rfl (by decide) fun s hs e0 e1 e2 e3=>?_;simp[hs,e0,e1,e2,e3,hm,ha,hv,hv2,hv3]
  refine Xau (fun n s m st'=> ∃j:Nat,n=V.length - j/\s.length=41/\m=[]/\lk s 0=.ptr mb 0/\lk s 1=.int .i64 f/\lk s 2=.str x/\lk s 9=.sl none V.length (V.map .str)/\lk s 10=.int .i64 j/\st'=st/\ixN x V j=ixN x V i) (V.length - i) (by omega)
    ⟨i,rfl,by simp[hs],rfl,by simp[hs,e0],by simp[hs,e1],by simp[hs,e2],by simp[hs],by simp[hs],rfl,rfl⟩ ?_
  clear hs e0 e1 e2 e3 s;rintro _ s m _ ⟨j,rfl,hs,rfl,e0,e1,e2,e9,e10,rfl,hq⟩;by_cases hc:j<V.length
  ·have hwj:=Xah (n:=(j:Int)+1) (by omega);have hwb:=Xah (n:=b+(j:Int)) (by omega);obtain⟨y,hy⟩:∃y,V[j]?=some y:=⟨_,List.getElem?_eq_getElem hc⟩;have hy1:(V.map AV.str)[j]?=some (.str y):=by rw[List.getElem?_map,hy];rfl
   have hy2:=uV hy1;have hy3:=uV hy;have hd:=Xrx hc;rw[hy3]at hd;by_cases hx:y=x
   ·subst hx;have:ixN y V j=some j:=by simp[ixN,hd,ixS]
    rw[this]at hq;simp[hs,e0,e1,e2,e9,e10,hc,hy,hy1,hy2,hy3,hm,hb1,hb2,hb3,hb4,hwb,<-hq]
   ·have h1:ixN x V (j+1)=ixN x V i:=by
       rw[<-hq];have hne:¬x=y:=fun e=>hx e.symm;simp only[ixN,hd,ixS,if_neg hne,Option.map_map]
       congr 1
       funext z;simp only[Function.comp];omega
    simp[hs,e0,e1,e2,e9,e10,hc,hy,hy1,hy2,hy3,hx];simp[hs,e10,hwj];exact⟨_,by omega,j+1,rfl,by simp[hs],rfl,by simp[hs,e0],by simp[hs,e1],by simp[hs,e2],by simp[hs,e9],by simp[hs],rfl,h1⟩
  ·have:ixN x V j=none:=by simp[ixN,List.drop_eq_nil_of_le (Nat.le_of_not_lt hc),ixS]
   rw[this]at hq;simp[hs,e9,e10,hc,<-hq]
theorem Xbh{k f N rs c0 E a b c d e g st Q}(hf:fnOf f=some ⟨N,rs,c0⟩)(ho:ovOf f=none)(hn:6<=N)
  (h:∀s,s.length=N->lk s 0=a->lk s 1=b->lk s 2=c->lk s 3=d->lk s 4=e->lk s 5=g->WP (aCall prog k) E k none c0 s [] st (endQ rs Q)):CallQ (k+1) E f [a,b,c,d,e,g] st Q:=
 Xfh ho hf (by simpa using hn) fun s hl ha=>h s hl (ha 0 _ rfl) (ha 1 _ rfl) (ha 2 _ rfl) (ha 3 _ rfl) (ha 4 _ rfl) (ha 5 _ rfl)
theorem DkS.add{E mb fs bs o o' nx rs rv st}(h:DkS E mb fs bs o o' nx rs rv st)(X:List ABlk)(r:Rule)(lv:AV)(hlv:lv.fin 0=.sl none r.l.length (r.l.map (.int .i64)))(hlo:lv.one=true)(hlc:lv.cells=[lv])(hlen:rs.length<=10000000000)(k:Nat)(hk:1<=k):
  CallQ k E 128 [.ptr mb 0,.agg [.int .i64 r.kind,.int .i64 r.f,.int .i64 r.x,.int .i64 r.y,.int .i64 r.z,.int .i64 r.n,.int .i64 r.m,.str r.s,lv]] ⟨st.H++X,st.I⟩ fun q st'=>q=.ok (.tup [])/\DkTo E mb (.sl o' fs.length (encFs fs)) (.sl o bs.length (bs.map (.int .i64))) rv st st' nx (rs++ [r]):=
 (f128 (h.more X) r lv hlv hlo hlc hlen k hk).mono fun q st' hp=>⟨hp.1,hp.2.pre (fun j hj=>List.getElem?_append_left hj) (by simp) List.prefix_rfl⟩
theorem d54{E:Env}{st:St}{mb:Nat}{nx rv:AV}{o o':Option Nat}{fs:List Fn}{bs:List Int}{f:Nat}{v:Int}(hm:st.H[mb]?=some (.cells 90 [.sl o' fs.length (encFs fs),.sl o bs.length (bs.map (.int .i64)),nx,rv]))(hb:BehA fs bs f v)(q:Int)(hq:0<=q/\q<=10)(k:Nat)(hk:1<=k):
  doCall (aCall prog k) E .full (.fn 54) [.ptr mb 0,.int .i64 f,.int .i64 q] st=some (.ok (.int .i64 (v+q)),st)/\doCall (aCall prog k) E .quiet (.fn 54) [.ptr mb 0,.int .i64 f,.int .i64 q] st=some (.ok (.int .i64 (v+q)),st):=by
 have h:=fun E=>f54 (E:=E) hm hb q hq k hk;constructor<;>simp[doCall,h]
theorem Jd1{E mb fs bs o o' nx rs rv st}(h:DkS E mb fs bs o o' nx rs rv st)(s0:ByteArray)(nn line:Int)(l:List T)(k0 to:Int)(f:Nat)(pv:AV)(v:Int)(hv:VarA bs nn v)(hlen:rs.length<=9000000000)(k:Nat)(hk:20<=k):
  CallQ k E 85 [.ptr mb 0,.agg (T.mk 1 s0 nn l line).enc,.int .i64 k0,pv,.int .i64 f,.int .i64 to] st fun r st'=>r=.ok (.tup [])/\DkTo E mb (.sl o' fs.length (encFs fs)) (.sl o bs.length (bs.map (.int .i64))) rv st st' nx (rs++ [({kind:=3,f:=f,x:=v,y:=k0,z:=0,n:=0,m:=0,s:=⟨#[]⟩,l:=[]}:Rule)]):=by
 obtain⟨k,rfl⟩:=uK (k:=k) (by omega);have hm:=h.now.1;have hmw:=Xaa h.wf;have hmw1:∀j x y,Xaf E (st.H.length+j) x y=true:=fun j x y=>hmw _ _ _ (by omega);have c86:=f86 (E:=E) (st:=⟨st.H++ [.cells 24 [.int .i64 1,.str s0,.int .i64 nn,.sl none l.length (T.encL l),.int .i64 line]],st.I⟩) (Xae hm) hv k (by omega);have c:=h.add [.cells 24 [.int .i64 1,.str s0,.int .i64 nn,.sl none l.length (T.encL l),.int .i64 line]] ({kind:=3,f:=f,x:=v,y:=k0,z:=0,n:=0,m:=0,s:=⟨#[]⟩,l:=[]}:Rule) .nils (by simp) rfl rfl (by omega) k (by omega);dsimp only at c;refine Xbh rfl rfl (by decide) fun s hs e0 e1 e2 e3 e4 e5=>?_;simp[-Xan, -Xav,Xaj,Xao,Nat.testBit,hs,e0,e1,e2,e3,e4,e5,c86,Xap,wrC,Xak];refine Xac c fun p hp=>?_;obtain⟨r,st2⟩:=p;obtain⟨r1,r2⟩:=hp;simp only at r1;subst r1;simp[-Xan, -Xav,Xaj,Xao,Nat.testBit,hs,Xak];exact r2
theorem Jd0{E mb fs bs o o' nx rs rv st}(h:DkS E mb fs bs o o' nx rs rv st)(s0:ByteArray)(nn line:Int)(l:List T)(k0 to:Int)(f:Nat)(pv:AV)(v:Int)(hb:BehA fs bs f v)(hlen:rs.length<=9000000000)(k:Nat)(hk:20<=k):
  CallQ k E 85 [.ptr mb 0,.agg (T.mk 8 s0 nn l line).enc,.int .i64 k0,pv,.int .i64 f,.int .i64 to] st fun r st'=>r=.ok (.tup [])/\DkTo E mb (.sl o' fs.length (encFs fs)) (.sl o bs.length (bs.map (.int .i64))) rv st st' nx (rs++ [({kind:=3,f:=f,x:=v,y:=k0,z:=0,n:=0,m:=0,s:=⟨#[]⟩,l:=[]}:Rule)]):=by
 obtain⟨k,rfl⟩:=uK (k:=k) (by omega);have hm:=h.now.1;have hmw:=Xaa h.wf;have hmw1:∀j x y,Xaf E (st.H.length+j) x y=true:=fun j x y=>hmw _ _ _ (by omega);have c54:=(d54 (E:=E) (st:=⟨st.H++ [.cells 24 [.int .i64 8,.str s0,.int .i64 nn,.sl none l.length (T.encL l),.int .i64 line]],st.I⟩) (Xae hm) hb 0 (by omega) k (by omega)).1;have c:=h.add [.cells 24 [.int .i64 8,.str s0,.int .i64 nn,.sl none l.length (T.encL l),.int .i64 line]] ({kind:=3,f:=f,x:=v,y:=k0,z:=0,n:=0,m:=0,s:=⟨#[]⟩,l:=[]}:Rule) .nils (by simp) rfl rfl (by omega) k (by omega);dsimp only at c;refine Xbh rfl rfl (by decide) fun s hs e0 e1 e2 e3 e4 e5=>?_;simp[-Xan, -Xav,Xaj,Xao,Nat.testBit,hs,e0,e1,e2,e3,e4,e5,c54,Xap,wrC,Xak];refine Xac c fun p hp=>?_;obtain⟨r,st2⟩:=p;obtain⟨r1,r2⟩:=hp;simp only at r1;subst r1;simp[-Xan, -Xav,Xaj,Xao,Nat.testBit,hs,Xak];exact r2
theorem Xy7{E mb fs bs o o' nx rs rv st}(h:DkS E mb fs bs o o' nx rs rv st)(s0:ByteArray)(nn line:Int)(l:List T)(k0 to:Int)(f:Nat)(q:Option Nat)(p0:Int)(hlen:rs.length<=9000000000)(k:Nat)(hk:20<=k):
  CallQ k E 85 [.ptr mb 0,.agg (T.mk 13 s0 nn l line).enc,.int .i64 k0,.sl q 1 [.int .i64 p0],.int .i64 f,.int .i64 to] st fun r st'=>r=.ok (.tup [])/\DkTo E mb (.sl o' fs.length (encFs fs)) (.sl o bs.length (bs.map (.int .i64))) rv st st' nx (rs++ [({kind:=4,f:=f,x:=p0,y:=k0,z:=0,n:=0,m:=0,s:=s0,l:=[]}:Rule)]):=by
 obtain⟨k,rfl⟩:=uK (k:=k) (by omega);have hm:=h.now.1;have hmw:=Xaa h.wf;have hmw1:∀j x y,Xaf E (st.H.length+j) x y=true:=fun j x y=>hmw _ _ _ (by omega);have c:=h.add [.cells 24 [.int .i64 13,.str s0,.int .i64 nn,.sl none l.length (T.encL l),.int .i64 line]] ({kind:=4,f:=f,x:=p0,y:=k0,z:=0,n:=0,m:=0,s:=s0,l:=[]}:Rule) .nils (by simp) rfl rfl (by omega) k (by omega);dsimp only at c;refine Xbh rfl rfl (by decide) fun s hs e0 e1 e2 e3 e4 e5=>?_;simp[-Xan, -Xav,Xaj,Xao,Nat.testBit,hs,e0,e1,e2,e3,e4,e5,Xap,wrC,Xak];refine Xac c fun p hp=>?_;obtain⟨r,st2⟩:=p;obtain⟨r1,r2⟩:=hp;simp only at r1;subst r1;simp[-Xan, -Xav,Xaj,Xao,Nat.testBit,hs,Xak];exact r2
theorem Xy6{E mb fs bs o o' nx rs rv st}(h:DkS E mb fs bs o o' nx rs rv st)(s0:ByteArray)(nn line:Int)(l:List T)(k0 to:Int)(f:Nat)(q:Option Nat)(p0 p1:Int)(hp:0<=p0/\p0<=100000000000)(hlen:rs.length<=9000000000)(k:Nat)(hk:20<=k):
  CallQ k E 85 [.ptr mb 0,.agg (T.mk 14 s0 nn l line).enc,.int .i64 k0,.sl q 2 [.int .i64 p0,.int .i64 p1],.int .i64 f,.int .i64 to] st fun r st'=>r=.ok (.tup [])/\DkTo E mb (.sl o' fs.length (encFs fs)) (.sl o bs.length (bs.map (.int .i64))) rv st st' nx (rs++ [({kind:=5,f:=f,x:=p0,y:=k0,z:=0,n:=0,m:=0,s:=⟨#[]⟩,l:=[]}:Rule)]):=by
 obtain⟨k,rfl⟩:=uK (k:=k) (by omega);have hm:=h.now.1;have hmw:=Xaa h.wf;have hmw1:∀j x y,Xaf E (st.H.length+j) x y=true:=fun j x y=>hmw _ _ _ (by omega);have c:=h.add [.cells 24 [.int .i64 14,.str s0,.int .i64 nn,.sl none l.length (T.encL l),.int .i64 line]] ({kind:=5,f:=f,x:=p0,y:=k0,z:=0,n:=0,m:=0,s:=⟨#[]⟩,l:=[]}:Rule) .nils (by simp) rfl rfl (by omega) k (by omega);dsimp only at c;refine Xbh rfl rfl (by decide) fun s hs e0 e1 e2 e3 e4 e5=>?_;simp[-Xan, -Xav,Xaj,Xao,Nat.testBit,hs,e0,e1,e2,e3,e4,e5,Xap,wrC,Xak];refine Xac c fun p hp=>?_;obtain⟨r,st2⟩:=p;obtain⟨r1,r2⟩:=hp;simp only at r1;subst r1;simp[-Xan, -Xav,Xaj,Xao,Nat.testBit,hs,Xak];exact r2
theorem Xy4{E mb fs bs o o' nx rs rv st}(h:DkS E mb fs bs o o' nx rs rv st)(s0:ByteArray)(nn line:Int)(l:List T)(k0 to:Int)(f:Nat)(q:Option Nat)(p0 p1:Int)(hp:0<=p0/\p0<=100000000000)(hlen:rs.length<=9000000000)(k:Nat)(hk:20<=k):
  CallQ k E 85 [.ptr mb 0,.agg (T.mk 21 s0 nn l line).enc,.int .i64 k0,.sl q 2 [.int .i64 p0,.int .i64 p1],.int .i64 f,.int .i64 to] st fun r st'=>r=.ok (.tup [])/\DkTo E mb (.sl o' fs.length (encFs fs)) (.sl o bs.length (bs.map (.int .i64))) rv st st' nx (rs++ [({kind:=3,f:=f,x:=p1,y:=k0,z:=0,n:=0,m:=0,s:=⟨#[]⟩,l:=[]}:Rule)]):=by
 obtain⟨k,rfl⟩:=uK (k:=k) (by omega);have hm:=h.now.1;have hmw:=Xaa h.wf;have hmw1:∀j x y,Xaf E (st.H.length+j) x y=true:=fun j x y=>hmw _ _ _ (by omega);have c:=h.add [.cells 24 [.int .i64 21,.str s0,.int .i64 nn,.sl none l.length (T.encL l),.int .i64 line]] ({kind:=3,f:=f,x:=p1,y:=k0,z:=0,n:=0,m:=0,s:=⟨#[]⟩,l:=[]}:Rule) .nils (by simp) rfl rfl (by omega) k (by omega);dsimp only at c;refine Xbh rfl rfl (by decide) fun s hs e0 e1 e2 e3 e4 e5=>?_;simp[-Xan, -Xav,Xaj,Xao,Nat.testBit,hs,e0,e1,e2,e3,e4,e5,Xap,wrC,Xak];refine Xac c fun p hp=>?_;obtain⟨r,st2⟩:=p;obtain⟨r1,r2⟩:=hp;simp only at r1;subst r1;simp[-Xan, -Xav,Xaj,Xao,Nat.testBit,hs,Xak];exact r2
theorem Xy5{E mb fs bs o o' nx rs rv st}(h:DkS E mb fs bs o o' nx rs rv st)(s0:ByteArray)(nn line:Int)(l:List T)(k0 to:Int)(f:Nat)(q:Option Nat)(p0:Int)(rr:List Int)(hlen:rs.length<=9000000000)(k:Nat)(hk:20<=k):
  CallQ k E 85 [.ptr mb 0,.agg (T.mk 16 s0 nn l line).enc,.int .i64 k0,.sl q (rr.length+1) ((p0::rr).map (.int .i64)),.int .i64 f,.int .i64 to] st fun r st'=>r=.ok (.tup [])/\DkTo E mb (.sl o' fs.length (encFs fs)) (.sl o bs.length (bs.map (.int .i64))) rv st st' nx (rs++ [({kind:=9,f:=f,x:=p0,y:=k0,z:=0,n:=to,m:=nn,s:=⟨#[]⟩,l:=rr}:Rule)]):=by
 obtain⟨k,rfl⟩:=uK (k:=k) (by omega);have hm:=h.now.1;have hmw:=Xaa h.wf;have hmw1:∀j x y,Xaf E (st.H.length+j) x y=true:=fun j x y=>hmw _ _ _ (by omega);have htk:List.take rr.length (rr.map (AV.int IntKind.i64))=rr.map (AV.int IntKind.i64):=List.take_of_length_le (by simp);have c:=h.add [.cells 24 [.int .i64 16,.str s0,.int .i64 nn,.sl none l.length (T.encL l),.int .i64 line]] ({kind:=9,f:=f,x:=p0,y:=k0,z:=0,n:=to,m:=nn,s:=⟨#[]⟩,l:=rr}:Rule) (.sl none rr.length (rr.map (.int .i64))) (by simp) rfl rfl (by omega) k (by omega);dsimp only at c;refine Xbh rfl rfl (by decide) fun s hs e0 e1 e2 e3 e4 e5=>?_;simp[-Xan, -Xav,Xaj,Xao,Nat.testBit,hs,e0,e1,e2,e3,e4,e5,htk,Xap,wrC,Xak];refine Xac c fun p hp=>?_;obtain⟨r,st2⟩:=p;obtain⟨r1,r2⟩:=hp;simp only at r1;subst r1;simp[-Xan, -Xav,Xaj,Xao,Nat.testBit,hs,Xak];exact r2
theorem Xuk{E mb fs bs o o' nx rs rv st}(h:DkS E mb fs bs o o' nx rs rv st)(s0:ByteArray)(nn line:Int)(l:List T)(k0 to:Int)(f:Nat)(q:Option Nat)(p0:Int)(v:Int)(hv:VarA bs nn v)(hlen:rs.length<=9000000000)(k:Nat)(hk:20<=k):
  CallQ k E 85 [.ptr mb 0,.agg (T.mk 30 s0 nn l line).enc,.int .i64 k0,.sl q 1 [.int .i64 p0],.int .i64 f,.int .i64 to] st fun r st'=>r=.ok (.tup [])/\DkTo E mb (.sl o' fs.length (encFs fs)) (.sl o bs.length (bs.map (.int .i64))) rv st st' nx (rs++ [({kind:=3,f:=f,x:=p0,y:=v,z:=0,n:=0,m:=0,s:=⟨#[]⟩,l:=[]}:Rule)]):=by
 obtain⟨k,rfl⟩:=uK (k:=k) (by omega);have hm:=h.now.1;have hmw:=Xaa h.wf;have hmw1:∀j x y,Xaf E (st.H.length+j) x y=true:=fun j x y=>hmw _ _ _ (by omega);have c86:=f86 (E:=E) (st:=⟨st.H++ [.cells 24 [.int .i64 30,.str s0,.int .i64 nn,.sl none l.length (T.encL l),.int .i64 line]],st.I⟩) (Xae hm) hv k (by omega);have c:=h.add [.cells 24 [.int .i64 30,.str s0,.int .i64 nn,.sl none l.length (T.encL l),.int .i64 line]] ({kind:=3,f:=f,x:=p0,y:=v,z:=0,n:=0,m:=0,s:=⟨#[]⟩,l:=[]}:Rule) .nils (by simp) rfl rfl (by omega) k (by omega);dsimp only at c;refine Xbh rfl rfl (by decide) fun s hs e0 e1 e2 e3 e4 e5=>?_;simp[-Xan, -Xav,Xaj,Xao,Nat.testBit,hs,e0,e1,e2,e3,e4,e5,c86,Xap,wrC,Xak];refine Xac c fun p hp=>?_;obtain⟨r,st2⟩:=p;obtain⟨r1,r2⟩:=hp;simp only at r1;subst r1;simp[-Xan, -Xav,Xaj,Xao,Nat.testBit,hs,Xak];exact r2
theorem Xui{E mb fs bs o o' nx rs rv st}(h:DkS E mb fs bs o o' nx rs rv st)(s0:ByteArray)(nn line:Int)(l:List T)(k0 to:Int)(f:Nat)(q:Option Nat)(p0:Int)(v:Int)(hb:BehA fs bs f v)(hlen:rs.length<=9000000000)(k:Nat)(hk:20<=k):
  CallQ k E 85 [.ptr mb 0,.agg (T.mk 36 s0 nn l line).enc,.int .i64 k0,.sl q 1 [.int .i64 p0],.int .i64 f,.int .i64 to] st fun r st'=>r=.ok (.tup [])/\DkTo E mb (.sl o' fs.length (encFs fs)) (.sl o bs.length (bs.map (.int .i64))) rv st st' nx (rs++ [({kind:=3,f:=f,x:=p0,y:=v+1,z:=0,n:=0,m:=0,s:=⟨#[]⟩,l:=[]}:Rule)]):=by
 obtain⟨k,rfl⟩:=uK (k:=k) (by omega);have hm:=h.now.1;have hmw:=Xaa h.wf;have hmw1:∀j x y,Xaf E (st.H.length+j) x y=true:=fun j x y=>hmw _ _ _ (by omega);have c54:=(d54 (E:=E) (st:=⟨st.H++ [.cells 24 [.int .i64 36,.str s0,.int .i64 nn,.sl none l.length (T.encL l),.int .i64 line]],st.I⟩) (Xae hm) hb 1 (by omega) k (by omega)).2;have c:=h.add [.cells 24 [.int .i64 36,.str s0,.int .i64 nn,.sl none l.length (T.encL l),.int .i64 line]] ({kind:=3,f:=f,x:=p0,y:=v+1,z:=0,n:=0,m:=0,s:=⟨#[]⟩,l:=[]}:Rule) .nils (by simp) rfl rfl (by omega) k (by omega);dsimp only at c;refine Xbh rfl rfl (by decide) fun s hs e0 e1 e2 e3 e4 e5=>?_;simp[-Xan, -Xav,Xaj,Xao,Nat.testBit,hs,e0,e1,e2,e3,e4,e5,c54,Xap,wrC,Xak];refine Xac c fun p hp=>?_;obtain⟨r,st2⟩:=p;obtain⟨r1,r2⟩:=hp;simp only at r1;subst r1;simp[-Xan, -Xav,Xaj,Xao,Nat.testBit,hs,Xak];exact r2
theorem Xuh{E mb fs bs o o' nx rs rv st}(h:DkS E mb fs bs o o' nx rs rv st)(s0:ByteArray)(nn line:Int)(l:List T)(k0 to:Int)(f:Nat)(q:Option Nat)(p0:Int)(hlen:rs.length<=9000000000)(k:Nat)(hk:20<=k):
  CallQ k E 85 [.ptr mb 0,.agg (T.mk 37 s0 nn l line).enc,.int .i64 k0,.sl q 1 [.int .i64 p0],.int .i64 f,.int .i64 to] st fun r st'=>r=.ok (.tup [])/\DkTo E mb (.sl o' fs.length (encFs fs)) (.sl o bs.length (bs.map (.int .i64))) rv st st' nx (rs++ [({kind:=3,f:=f,x:=p0,y:=to,z:=0,n:=0,m:=0,s:=⟨#[]⟩,l:=[]}:Rule)]):=by
 obtain⟨k,rfl⟩:=uK (k:=k) (by omega);have hm:=h.now.1;have hmw:=Xaa h.wf;have hmw1:∀j x y,Xaf E (st.H.length+j) x y=true:=fun j x y=>hmw _ _ _ (by omega);have c:=h.add [.cells 24 [.int .i64 37,.str s0,.int .i64 nn,.sl none l.length (T.encL l),.int .i64 line]] ({kind:=3,f:=f,x:=p0,y:=to,z:=0,n:=0,m:=0,s:=⟨#[]⟩,l:=[]}:Rule) .nils (by simp) rfl rfl (by omega) k (by omega);dsimp only at c;refine Xbh rfl rfl (by decide) fun s hs e0 e1 e2 e3 e4 e5=>?_;simp[-Xan, -Xav,Xaj,Xao,Nat.testBit,hs,e0,e1,e2,e3,e4,e5,Xap,wrC,Xak];refine Xac c fun p hp=>?_;obtain⟨r,st2⟩:=p;obtain⟨r1,r2⟩:=hp;simp only at r1;subst r1;simp[-Xan, -Xav,Xaj,Xao,Nat.testBit,hs,Xak];exact r2
theorem Xul{E mb fs bs o o' nx rs rv st}(h:DkS E mb fs bs o o' nx rs rv st)(s0:ByteArray)(nn line:Int)(l:List T)(k0 to:Int)(f:Nat)(hlen:rs.length<=9000000000)(k:Nat)(hk:20<=k):
  CallQ k E 85 [.ptr mb 0,.agg (T.mk 30 s0 nn l line).enc,.int .i64 k0,.nils,.int .i64 f,.int .i64 to] st fun r st'=>r=.ok (.tup [])/\DkTo E mb (.sl o' fs.length (encFs fs)) (.sl o bs.length (bs.map (.int .i64))) rv st st' nx rs:=by
 obtain⟨k,rfl⟩:=uK (k:=k) (by omega);have hm:=h.now.1;have hmw:=Xaa h.wf;have hmw1:∀j x y,Xaf E (st.H.length+j) x y=true:=fun j x y=>hmw _ _ _ (by omega);refine Xbh rfl rfl (by decide) fun s hs e0 e1 e2 e3 e4 e5=>?_;simp[hs,e0,e1,e2,e3,e4,e5,Xak];exact⟨⟨rv,h.now.pre (List.getElem?_append_left (List.getElem?_eq_some_iff.1 h.now.1).1) List.prefix_rfl,.inl rfl⟩,fun j hj _=>List.getElem?_append_left hj,by simp,.refl _ _⟩
theorem Xuj{E mb fs bs o o' nx rs rv st}(h:DkS E mb fs bs o o' nx rs rv st)(s0:ByteArray)(nn line:Int)(l:List T)(k0 to:Int)(f:Nat)(hlen:rs.length<=9000000000)(k:Nat)(hk:20<=k):
  CallQ k E 85 [.ptr mb 0,.agg (T.mk 36 s0 nn l line).enc,.int .i64 k0,.nils,.int .i64 f,.int .i64 to] st fun r st'=>r=.ok (.tup [])/\DkTo E mb (.sl o' fs.length (encFs fs)) (.sl o bs.length (bs.map (.int .i64))) rv st st' nx rs:=by
 obtain⟨k,rfl⟩:=uK (k:=k) (by omega);have hm:=h.now.1;have hmw:=Xaa h.wf;have hmw1:∀j x y,Xaf E (st.H.length+j) x y=true:=fun j x y=>hmw _ _ _ (by omega);refine Xbh rfl rfl (by decide) fun s hs e0 e1 e2 e3 e4 e5=>?_;simp[hs,e0,e1,e2,e3,e4,e5,Xak];exact⟨⟨rv,h.now.pre (List.getElem?_append_left (List.getElem?_eq_some_iff.1 h.now.1).1) List.prefix_rfl,.inl rfl⟩,fun j hj _=>List.getElem?_append_left hj,by simp,.refl _ _⟩
theorem Xy3{E mb fs bs o o' nx rs rv st}(h:DkS E mb fs bs o o' nx rs rv st)(s0:ByteArray)(nn line:Int)(l:List T)(k0 to:Int)(f:Nat)(q:Option Nat)(p0 p1:Int)(hp:0<=p0/\p0<=100000000000)(hlen:rs.length<=9000000000)(k:Nat)(hk:20<=k):
  CallQ k E 85 [.ptr mb 0,.agg (T.mk 22 s0 nn l line).enc,.int .i64 k0,.sl q 2 [.int .i64 p0,.int .i64 p1],.int .i64 f,.int .i64 to] st fun r st'=>r=.ok (.tup [])/\DkTo E mb (.sl o' fs.length (encFs fs)) (.sl o bs.length (bs.map (.int .i64))) rv st st' nx (rs++ [({kind:=3,f:=f,x:=p0,y:=k0,z:=0,n:=0,m:=0,s:=⟨#[]⟩,l:=[]}:Rule),({kind:=3,f:=f,x:=p1,y:=k0,z:=0,n:=0,m:=0,s:=⟨#[]⟩,l:=[]}:Rule)]):=by
 obtain⟨k,rfl⟩:=uK (k:=k) (by omega);have hm:=h.now.1;have hmw:=Xaa h.wf;have hmw1:∀j x y,Xaf E (st.H.length+j) x y=true:=fun j x y=>hmw _ _ _ (by omega);have c:=h.add [.cells 24 [.int .i64 22,.str s0,.int .i64 nn,.sl none l.length (T.encL l),.int .i64 line]] ({kind:=3,f:=f,x:=p0,y:=k0,z:=0,n:=0,m:=0,s:=⟨#[]⟩,l:=[]}:Rule) .nils (by simp) rfl rfl (by omega) k (by omega);dsimp only at c;refine Xbh rfl rfl (by decide) fun s hs e0 e1 e2 e3 e4 e5=>?_;simp[-Xan, -Xav,Xaj,Xao,Nat.testBit,hs,e0,e1,e2,e3,e4,e5,Xap,wrC,Xak];refine Xac c fun p hp=>?_;obtain⟨r,st2⟩:=p;obtain⟨r1,r2⟩:=hp;simp only at r1;subst r1;obtain⟨rv2,h2⟩:=h.next r2 (by simp;omega);have c2:=f128 h2 ({kind:=3,f:=f,x:=p1,y:=k0,z:=0,n:=0,m:=0,s:=⟨#[]⟩,l:=[]}:Rule) .nils (by simp) rfl rfl (by simp;omega) k (by omega);dsimp only at c2;simp[-Xan, -Xav,Xaj,Xao,Nat.testBit,hs,e0,e2,e3,e4,Xap,wrC,Xak];refine Xac c2 fun p hp=>?_;obtain⟨r',st3⟩:=p;obtain⟨q1,q2⟩:=hp;simp only at q1;subst q1;simp[hs];have:=r2.andThen h2.now q2;simpa using this
theorem Xy2{E mb fs bs o o' nx rs rv st}(h:DkS E mb fs bs o o' nx rs rv st)(s0:ByteArray)(nn line:Int)(l:List T)(k0 to:Int)(f:Nat)(q:Option Nat)(p0 p1 p2:Int)(hlen:rs.length<=9000000000)(k:Nat)(hk:20<=k):
  CallQ k E 85 [.ptr mb 0,.agg (T.mk 23 s0 nn l line).enc,.int .i64 k0,.sl q 3 [.int .i64 p0,.int .i64 p1,.int .i64 p2],.int .i64 f,.int .i64 to] st fun r st'=>r=.ok (.tup [])/\DkTo E mb (.sl o' fs.length (encFs fs)) (.sl o bs.length (bs.map (.int .i64))) rv st st' nx (rs++ [({kind:=3,f:=f,x:=p1,y:=k0,z:=0,n:=0,m:=0,s:=⟨#[]⟩,l:=[]}:Rule),({kind:=3,f:=f,x:=p2,y:=k0,z:=0,n:=0,m:=0,s:=⟨#[]⟩,l:=[]}:Rule)]):=by
 obtain⟨k,rfl⟩:=uK (k:=k) (by omega);have hm:=h.now.1;have hmw:=Xaa h.wf;have hmw1:∀j x y,Xaf E (st.H.length+j) x y=true:=fun j x y=>hmw _ _ _ (by omega);have c:=h.add [.cells 24 [.int .i64 23,.str s0,.int .i64 nn,.sl none l.length (T.encL l),.int .i64 line]] ({kind:=3,f:=f,x:=p1,y:=k0,z:=0,n:=0,m:=0,s:=⟨#[]⟩,l:=[]}:Rule) .nils (by simp) rfl rfl (by omega) k (by omega);dsimp only at c;refine Xbh rfl rfl (by decide) fun s hs e0 e1 e2 e3 e4 e5=>?_;simp[-Xan, -Xav,Xaj,Xao,Nat.testBit,hs,e0,e1,e2,e3,e4,e5,Xap,wrC,Xak];refine Xac c fun p hp=>?_;obtain⟨r,st2⟩:=p;obtain⟨r1,r2⟩:=hp;simp only at r1;subst r1;obtain⟨rv2,h2⟩:=h.next r2 (by simp;omega);have c2:=f128 h2 ({kind:=3,f:=f,x:=p2,y:=k0,z:=0,n:=0,m:=0,s:=⟨#[]⟩,l:=[]}:Rule) .nils (by simp) rfl rfl (by simp;omega) k (by omega);dsimp only at c2;simp[-Xan, -Xav,Xaj,Xao,Nat.testBit,hs,e0,e2,e3,e4,Xap,wrC,Xak];refine Xac c2 fun p hp=>?_;obtain⟨r',st3⟩:=p;obtain⟨q1,q2⟩:=hp;simp only at q1;subst q1;simp[hs];have:=r2.andThen h2.now q2;simpa using this
theorem Xuo{E mb fs bs o o' nx rs rv st}(h:DkS E mb fs bs o o' nx rs rv st)(s0:ByteArray)(nn line:Int)(l:List T)(k0 to:Int)(f:Nat)(q:Option Nat)(p0 p1:Int)(hp:0<=p0/\p0<=100000000000)(t0:T)(hl0:l[0]?=some t0)(u1:t0.op=1)(v:Int)(hv:VarA bs t0.n v)(hlen:rs.length<=9000000000)(k:Nat)(hk:20<=k):
  CallQ k E 85 [.ptr mb 0,.agg (T.mk 17 s0 nn l line).enc,.int .i64 k0,.sl q 2 [.int .i64 p0,.int .i64 p1],.int .i64 f,.int .i64 to] st fun r st'=>r=.ok (.tup [])/\DkTo E mb (.sl o' fs.length (encFs fs)) (.sl o bs.length (bs.map (.int .i64))) rv st st' nx (rs++ [({kind:=3,f:=f,x:=p1,y:=v,z:=0,n:=0,m:=0,s:=⟨#[]⟩,l:=[]}:Rule),({kind:=3,f:=f,x:=p1,y:=k0,z:=0,n:=0,m:=0,s:=⟨#[]⟩,l:=[]}:Rule)]):=by
 obtain⟨k,rfl⟩:=uK (k:=k) (by omega);have hm:=h.now.1;have hmw:=Xaa h.wf;have hmw1:∀j x y,Xaf E (st.H.length+j) x y=true:=fun j x y=>hmw _ _ _ (by omega);have h0l:=uB hl0;have hrd:rdC (some 5) (T.encL l) 0=_:=T.rd hl0;rw[T.enc_eq]at hrd;have hw1:=Xah (n:=p0+1) (by omega);have c86:=f86 (E:=E) (st:=⟨st.H++ [.cells 24 [.int .i64 17,.str s0,.int .i64 nn,.sl none l.length (T.encL l),.int .i64 line],.cells 24 [.int .i64 1,.str t0.s,.int .i64 t0.n,.sl none t0.l.length (T.encL t0.l),.int .i64 t0.line]],st.I⟩) (Xae hm) hv k (by omega);have c:=h.add [.cells 24 [.int .i64 17,.str s0,.int .i64 nn,.sl none l.length (T.encL l),.int .i64 line],.cells 24 [.int .i64 1,.str t0.s,.int .i64 t0.n,.sl none t0.l.length (T.encL t0.l),.int .i64 t0.line]] ({kind:=3,f:=f,x:=p1,y:=v,z:=0,n:=0,m:=0,s:=⟨#[]⟩,l:=[]}:Rule) .nils (by simp) rfl rfl (by omega) k (by omega);dsimp only at c;refine Xbh rfl rfl (by decide) fun s hs e0 e1 e2 e3 e4 e5=>?_;simp[-Xan, -Xav,Xaj,Xao,Nat.testBit,hs,e0,e1,e2,e3,e4,e5,h0l,hrd,Xag,hmw,hmw1,u1,c86,Xap,wrC,Xak];refine Xac c fun p hp=>?_;obtain⟨r,st2⟩:=p;obtain⟨r1,r2⟩:=hp;simp only at r1;subst r1;obtain⟨rv2,h2⟩:=h.next r2 (by simp;omega);have c2:=f128 h2 ({kind:=3,f:=f,x:=p1,y:=k0,z:=0,n:=0,m:=0,s:=⟨#[]⟩,l:=[]}:Rule) .nils (by simp) rfl rfl (by simp;omega) k (by omega);dsimp only at c2;simp[-Xan, -Xav,Xaj,Xao,Nat.testBit,hs,e0,e2,e3,e4,Xap,wrC,Xak];refine Xac c2 fun p hp=>?_;obtain⟨r',st3⟩:=p;obtain⟨q1,q2⟩:=hp;simp only at q1;subst q1;simp[hs];have:=r2.andThen h2.now q2;simpa using this
theorem Xun{E mb fs bs o o' nx rs rv st}(h:DkS E mb fs bs o o' nx rs rv st)(s0:ByteArray)(nn line:Int)(l:List T)(k0 to:Int)(f:Nat)(q:Option Nat)(p0 p1:Int)(hp:0<=p0/\p0<=100000000000)(t0:T)(hl0:l[0]?=some t0)(u1:t0.op=13)(hlen:rs.length<=9000000000)(k:Nat)(hk:20<=k):
  CallQ k E 85 [.ptr mb 0,.agg (T.mk 17 s0 nn l line).enc,.int .i64 k0,.sl q 2 [.int .i64 p0,.int .i64 p1],.int .i64 f,.int .i64 to] st fun r st'=>r=.ok (.tup [])/\DkTo E mb (.sl o' fs.length (encFs fs)) (.sl o bs.length (bs.map (.int .i64))) rv st st' nx (rs++ [({kind:=6,f:=f,x:=p0+1,y:=p1,z:=0,n:=0,m:=0,s:=t0.s,l:=[]}:Rule),({kind:=3,f:=f,x:=p1,y:=k0,z:=0,n:=0,m:=0,s:=⟨#[]⟩,l:=[]}:Rule)]):=by
 obtain⟨k,rfl⟩:=uK (k:=k) (by omega);have hm:=h.now.1;have hmw:=Xaa h.wf;have hmw1:∀j x y,Xaf E (st.H.length+j) x y=true:=fun j x y=>hmw _ _ _ (by omega);have h0l:=uB hl0;have hrd:rdC (some 5) (T.encL l) 0=_:=T.rd hl0;rw[T.enc_eq]at hrd;have hw1:=Xah (n:=p0+1) (by omega);have c:=h.add [.cells 24 [.int .i64 17,.str s0,.int .i64 nn,.sl none l.length (T.encL l),.int .i64 line],.cells 24 [.int .i64 13,.str t0.s,.int .i64 t0.n,.sl none t0.l.length (T.encL t0.l),.int .i64 t0.line]] ({kind:=6,f:=f,x:=p0+1,y:=p1,z:=0,n:=0,m:=0,s:=t0.s,l:=[]}:Rule) .nils (by simp) rfl rfl (by omega) k (by omega);dsimp only at c;refine Xbh rfl rfl (by decide) fun s hs e0 e1 e2 e3 e4 e5=>?_;simp[-Xan, -Xav,Xaj,Xao,Nat.testBit,hs,e0,e1,e2,e3,e4,e5,h0l,hrd,Xag,hmw,hmw1,u1,hw1,Xap,wrC,Xak];refine Xac c fun p hp=>?_;obtain⟨r,st2⟩:=p;obtain⟨r1,r2⟩:=hp;simp only at r1;subst r1;obtain⟨rv2,h2⟩:=h.next r2 (by simp;omega);have c2:=f128 h2 ({kind:=3,f:=f,x:=p1,y:=k0,z:=0,n:=0,m:=0,s:=⟨#[]⟩,l:=[]}:Rule) .nils (by simp) rfl rfl (by simp;omega) k (by omega);dsimp only at c2;simp[-Xan, -Xav,Xaj,Xao,Nat.testBit,hs,e0,e2,e3,e4,Xap,wrC,Xak];refine Xac c2 fun p hp=>?_;obtain⟨r',st3⟩:=p;obtain⟨q1,q2⟩:=hp;simp only at q1;subst q1;simp[hs];have:=r2.andThen h2.now q2;simpa using this
theorem Xum{E mb fs bs o o' nx rs rv st}(h:DkS E mb fs bs o o' nx rs rv st)(s0:ByteArray)(nn line:Int)(l:List T)(k0 to:Int)(f:Nat)(q:Option Nat)(p0 p1:Int)(hp:0<=p0/\p0<=100000000000)(t0:T)(hl0:l[0]?=some t0)(u1:¬t0.op=1)(u2:¬t0.op=13)(hlen:rs.length<=9000000000)(k:Nat)(hk:20<=k):
  CallQ k E 85 [.ptr mb 0,.agg (T.mk 17 s0 nn l line).enc,.int .i64 k0,.sl q 2 [.int .i64 p0,.int .i64 p1],.int .i64 f,.int .i64 to] st fun r st'=>r=.ok (.tup [])/\DkTo E mb (.sl o' fs.length (encFs fs)) (.sl o bs.length (bs.map (.int .i64))) rv st st' nx (rs++ [({kind:=7,f:=f,x:=p0+1,y:=p1,z:=0,n:=0,m:=0,s:=⟨#[]⟩,l:=[]}:Rule),({kind:=3,f:=f,x:=p1,y:=k0,z:=0,n:=0,m:=0,s:=⟨#[]⟩,l:=[]}:Rule)]):=by
 obtain⟨k,rfl⟩:=uK (k:=k) (by omega);have hm:=h.now.1;have hmw:=Xaa h.wf;have hmw1:∀j x y,Xaf E (st.H.length+j) x y=true:=fun j x y=>hmw _ _ _ (by omega);have h0l:=uB hl0;have hrd:rdC (some 5) (T.encL l) 0=_:=T.rd hl0;rw[T.enc_eq]at hrd;have hw1:=Xah (n:=p0+1) (by omega);have c:=h.add [.cells 24 [.int .i64 17,.str s0,.int .i64 nn,.sl none l.length (T.encL l),.int .i64 line],.cells 24 [.int .i64 t0.op,.str t0.s,.int .i64 t0.n,.sl none t0.l.length (T.encL t0.l),.int .i64 t0.line]] ({kind:=7,f:=f,x:=p0+1,y:=p1,z:=0,n:=0,m:=0,s:=⟨#[]⟩,l:=[]}:Rule) .nils (by simp) rfl rfl (by omega) k (by omega);dsimp only at c;refine Xbh rfl rfl (by decide) fun s hs e0 e1 e2 e3 e4 e5=>?_;simp[-Xan, -Xav,Xaj,Xao,Nat.testBit,hs,e0,e1,e2,e3,e4,e5,h0l,hrd,Xag,hmw,hmw1,u1,u2,hw1,Xap,wrC,Xak];refine Xac c fun p hp=>?_;obtain⟨r,st2⟩:=p;obtain⟨r1,r2⟩:=hp;simp only at r1;subst r1;obtain⟨rv2,h2⟩:=h.next r2 (by simp;omega);have c2:=f128 h2 ({kind:=3,f:=f,x:=p1,y:=k0,z:=0,n:=0,m:=0,s:=⟨#[]⟩,l:=[]}:Rule) .nils (by simp) rfl rfl (by simp;omega) k (by omega);dsimp only at c2;simp[-Xan, -Xav,Xaj,Xao,Nat.testBit,hs,e0,e2,e3,e4,Xap,wrC,Xak];refine Xac c2 fun p hp=>?_;obtain⟨r',st3⟩:=p;obtain⟨q1,q2⟩:=hp;simp only at q1;subst q1;simp[hs];have:=r2.andThen h2.now q2;simpa using this
theorem Xuq{E mb fs bs o o' nx rs rv st}(h:DkS E mb fs bs o o' nx rs rv st)(s0:ByteArray)(nn line:Int)(l:List T)(k0 to:Int)(f:Nat)(q:Option Nat)(p0:Int)(rr:List Int)(t0:T)(hl0:l[0]?=some t0)(u1:t0.op=13\/t0.op=14)(hp:0<=p0/\p0<=100000000000)(hlen:rs.length<=9000000000)(k:Nat)(hk:20<=k):
  CallQ k E 85 [.ptr mb 0,.agg (T.mk 15 s0 nn l line).enc,.int .i64 k0,.sl q (rr.length+1) ((p0::rr).map (.int .i64)),.int .i64 f,.int .i64 to] st fun r st'=>r=.ok (.tup [])/\DkTo E mb (.sl o' fs.length (encFs fs)) (.sl o bs.length (bs.map (.int .i64))) rv st st' nx (rs++ [({kind:=8,f:=f,x:=p0,y:=k0,z:=p0+1,n:=to,m:=nn,s:=⟨#[]⟩,l:=rr}:Rule)]):=by
 obtain⟨k,rfl⟩:=uK (k:=k) (by omega);have hm:=h.now.1;have hmw:=Xaa h.wf;have hmw1:∀j x y,Xaf E (st.H.length+j) x y=true:=fun j x y=>hmw _ _ _ (by omega);have h0l:=uB hl0;have hrd:rdC (some 5) (T.encL l) 0=_:=T.rd hl0;have hw1:=Xah (n:=p0+1) (by omega);have c130:=f130 t0 k (by omega) E ⟨st.H++ [.cells 24 [.int .i64 15,.str s0,.int .i64 nn,.sl none l.length (T.encL l),.int .i64 line]],st.I⟩;rw[decide_eq_true u1]at c130;rw[T.enc_eq]at hrd c130;have htk:List.take rr.length (rr.map (AV.int IntKind.i64))=rr.map (AV.int IntKind.i64):=List.take_of_length_le (by simp);have c:=h.add [.cells 24 [.int .i64 15,.str s0,.int .i64 nn,.sl none l.length (T.encL l),.int .i64 line],.cells 24 [.int .i64 t0.op,.str t0.s,.int .i64 t0.n,.sl none t0.l.length (T.encL t0.l),.int .i64 t0.line]] ({kind:=8,f:=f,x:=p0,y:=k0,z:=p0+1,n:=to,m:=nn,s:=⟨#[]⟩,l:=rr}:Rule) (.sl none rr.length (rr.map (.int .i64))) (by simp) rfl rfl (by omega) k (by omega);dsimp only at c;refine Xbh rfl rfl (by decide) fun s hs e0 e1 e2 e3 e4 e5=>?_;simp[hs,e0,e1,e2,e3,e4,e5,h0l,hrd,Xak];refine Xac c130 fun p hp=>?_;obtain⟨r',st1⟩:=p;obtain⟨a1,a2⟩:=hp;simp only at a1 a2;subst a1 a2;simp[-Xan, -Xav,Xaj,Xao,Nat.testBit,hs,e0,e2,e3,e4,e5,htk,hw1,Xap,wrC,Xak];refine Xac c fun p hp=>?_;obtain⟨r,st2⟩:=p;obtain⟨r1,r2⟩:=hp;simp only at r1;subst r1;simp[-Xan, -Xav,Xaj,Xao,Nat.testBit,hs,Xak];exact r2
theorem Xup{E mb fs bs o o' nx rs rv st}(h:DkS E mb fs bs o o' nx rs rv st)(s0:ByteArray)(nn line:Int)(l:List T)(k0 to:Int)(f:Nat)(q:Option Nat)(p0:Int)(rr:List Int)(t0:T)(hl0:l[0]?=some t0)(u1:¬(t0.op=13\/t0.op=14))(hlen:rs.length<=9000000000)(k:Nat)(hk:20<=k):
  CallQ k E 85 [.ptr mb 0,.agg (T.mk 15 s0 nn l line).enc,.int .i64 k0,.sl q (rr.length+1) ((p0::rr).map (.int .i64)),.int .i64 f,.int .i64 to] st fun r st'=>r=.ok (.tup [])/\DkTo E mb (.sl o' fs.length (encFs fs)) (.sl o bs.length (bs.map (.int .i64))) rv st st' nx (rs++ [({kind:=8,f:=f,x:=p0,y:=k0,z:= -1,n:=to,m:=nn,s:=⟨#[]⟩,l:=rr}:Rule)]):=by
 obtain⟨k,rfl⟩:=uK (k:=k) (by omega);have hm:=h.now.1;have hmw:=Xaa h.wf;have hmw1:∀j x y,Xaf E (st.H.length+j) x y=true:=fun j x y=>hmw _ _ _ (by omega);have h0l:=uB hl0;have hrd:rdC (some 5) (T.encL l) 0=_:=T.rd hl0;have c130:=f130 t0 k (by omega) E ⟨st.H++ [.cells 24 [.int .i64 15,.str s0,.int .i64 nn,.sl none l.length (T.encL l),.int .i64 line]],st.I⟩;rw[decide_eq_false u1]at c130;rw[T.enc_eq]at hrd c130;have htk:List.take rr.length (rr.map (AV.int IntKind.i64))=rr.map (AV.int IntKind.i64):=List.take_of_length_le (by simp);have c:=h.add [.cells 24 [.int .i64 15,.str s0,.int .i64 nn,.sl none l.length (T.encL l),.int .i64 line],.cells 24 [.int .i64 t0.op,.str t0.s,.int .i64 t0.n,.sl none t0.l.length (T.encL t0.l),.int .i64 t0.line]] ({kind:=8,f:=f,x:=p0,y:=k0,z:= -1,n:=to,m:=nn,s:=⟨#[]⟩,l:=rr}:Rule) (.sl none rr.length (rr.map (.int .i64))) (by simp) rfl rfl (by omega) k (by omega);dsimp only at c;refine Xbh rfl rfl (by decide) fun s hs e0 e1 e2 e3 e4 e5=>?_;simp[hs,e0,e1,e2,e3,e4,e5,h0l,hrd,Xak];refine Xac c130 fun p hp=>?_;obtain⟨r',st1⟩:=p;obtain⟨a1,a2⟩:=hp;simp only at a1 a2;subst a1 a2;simp[-Xan, -Xav,Xaj,Xao,Nat.testBit,hs,e0,e2,e3,e4,e5,htk,Xap,wrC,Xak];refine Xac c fun p hp=>?_;obtain⟨r,st2⟩:=p;obtain⟨r1,r2⟩:=hp;simp only at r1;subst r1;simp[-Xan, -Xav,Xaj,Xao,Nat.testBit,hs,Xak];exact r2
def l85:ACode:=(.seq (.seq (.reg [oV 48 12,oV 49 3,oO 50 (.len false (.t 49)),oO 51 (.bin .num .lss (.t 48) (.t 50))])
 (.cond (.t 51) (.skip) (.exit 1)))
 (.seq (.block 2 (.dreg [(oV 54 0,0),(oV 55 4,0),(oV 56 2,0),(oF 57 3 7,0),(oL 58 57,8),(oV 59 12,0),(oO 60 (.ia 5 (.t 58) (.t 59)),56),(oF 61 1 60,120),(oL 62 61,248),(oV 63 3,0),(oV 64 12,0),(oO 65 (.ia 1 (.t 63) (.t 64)),1536),(oL 66 65,3584),(oO 67 (.bin .num .add (.t 66) (.c (.int .i64 1))),7680),(oO 68 (.build [(.int .i64 0),(.int .i64 0),(.int .i64 0),(.int .i64 0),(.int .i64 0),(.int .i64 0),(.int .i64 0),(.str ⟨#[]⟩),.nils] [(0,1,(.c (.int .i64 6))),(1,1,(.t 55)),(2,1,(.t 56)),(7,1,(.t 62)),(3,1,(.t 67))]),16382),(oO 69 (.call .no 128 [(.t 54),(.t 68)]),32767)]))
 (.reg [oV 52 12,oO 53 (.bin .num .add (.t 52) (.c (.int .i64 1))),oV 12 53])))
theorem DkTo.refl{E mb F B nx rs rv st}(h:DkR E mb F B nx rs rv st):DkTo E mb F B rv st st nx rs:=⟨⟨rv,h,.inl rfl⟩,fun _ _ _=>rfl,Nat.le_refl _,.refl _ _⟩
theorem DkTo.more{E mb F B nx rs rv st}(h:DkR E mb F B nx rs rv st)(X:List ABlk):DkTo E mb F B rv st ⟨st.H++X,st.I⟩ nx rs:=
 ⟨⟨rv,h.pre (List.getElem?_append_left (List.getElem?_eq_some_iff.1 h.1).1) List.prefix_rfl,.inl rfl⟩,fun j hj _=>List.getElem?_append_left hj,by simp,.refl _ _⟩
def rSt(f k0:Int)(x:T×Int):Rule:={kind:=6,f:=f,x:=k0,y:=x.2+1,s:=x.1.s}
theorem Jc0{E mb fs bs o o' nx rs rv st}(h:DkS E mb fs bs o o' nx rs rv st)(s0:ByteArray)(nn line:Int)(l:List T)(k0:Int)(f:Nat)(q:Option Nat)(ps:List Int)(hpl:ps.length=l.length)(B7 j:Nat)(t:T)(p:Int)(ht:l[j]?=some t)(hp:ps[j]?=some p)(hpb:0<=p/\p<=100000000000)(hj:j<=1000000000000)
  (hlen:rs.length<=9000000000) (p7:st.H[B7]?=some (.cells 24 [.int .i64 11,.str s0,.int .i64 nn,.sl none l.length (T.encL l),.int .i64 line])) (s:List AV) (hs:s.length=275) (e0:lk s 0=.ptr mb 0) (e2:lk s 2=.int .i64 k0) (e3:lk s 3=.sl q ps.length (ps.map (.int .i64))) (e4:lk s 4=.int .i64 f) (e7:lk s 7=.ptr B7 0) (e12:lk s 12=.int .i64 j) (m:List Nat) (k:Nat) (hk:1<=k) (Q:Q4)
  (hQ:∀s' st',s'.length=275->(∀i,i=0\/i=2\/i=3\/i=4\/i=7->lk s' i=lk s i)->lk s' 12=.int .i64 ((j+1:Nat):Int)->DkTo E mb (.sl o' fs.length (encFs fs)) (.sl o bs.length (bs.map (.int .i64))) rv st st' nx (rs++ [rSt f k0 (t,p)])->Q .nrm s' m st'):
  WP (aCall prog k) E k none l85 s m st Q:=by
 have hjl:=uB ht;have hjp:=uB hp;have hc:=T.cell ht 1 (by omega);have hc:(T.encL l)[j*5+1]?=some (.str t.s):=by rw[T.enc_eq]at hc;exact hc
 have hc2:=uV hc;have hc3:j*5+1<l.length*5:=by omega
 have hp1:(ps.map (AV.int IntKind.i64))[j]?=some (.int .i64 p):=by rw[List.getElem?_map,hp];rfl
 have hp2:=uV hp1;have hp4:=uV hp;have hw1:=Xah (n:=p+1) (by omega);have hwj:=Xah (n:=(j:Int)+1) (by omega);have c:=f128 h (rSt f k0 (t,p)) .nils (by simp[rSt]) rfl rfl (by omega) k hk;simp only[rSt]at c;unfold l85;simp[hs,e3,e12,hjp];simp[-Xan, -Xav,Xaj,Xao,Nat.testBit,hs,e0,e2,e3,e4,e7,e12,p7,hjl,hjp,hc,hc2,hc3,hp,hp1,hp2,hp4,hw1,Xap,wrC,Xak];refine Xac c fun p' hp'=>?_;obtain⟨r,st2⟩:=p';obtain⟨r1,r2⟩:=hp';simp only at r1;subst r1;simp[-Xan, -Xav,Xaj,Xao,Nat.testBit,hs,e12,hwj,Xak];refine hQ _ _ ?_ (fun i hi=>?_) ?_ r2
 ·simp[hs]
 ·rcases hi with rfl|rfl|rfl|rfl|rfl<;>simp[hs]
 ·simp[hs]
theorem Xy8{E mb fs bs o o' nx rs rv st}(h:DkS E mb fs bs o o' nx rs rv st)(s0:ByteArray)(nn line:Int)(l:List T)(k0 to:Int)(f:Nat)(q:Option Nat)(ps:List Int)(hpl:ps.length=l.length)(hpb:∀p∈ps,0<=p/\p<=100000000000)(hlen:rs.length+l.length<=8000000000)(k:Nat)(hk:l.length+20<=k):
    CallQ k E 85 [.ptr mb 0,.agg (T.mk 11 s0 nn l line).enc,.int .i64 k0,.sl q ps.length (ps.map (.int .i64)),.int .i64 f,.int .i64 to] st fun r st'=>r=.ok (.tup [])/\DkTo E mb (.sl o' fs.length (encFs fs)) (.sl o bs.length (bs.map (.int .i64))) rv st st' nx (rs++({kind:=1,f:=f,x:=k0,m:=nn}::(l.zip ps).map (rSt f k0))):=by
  obtain⟨k,rfl⟩:=uK (k:=k) (by omega);have hm:=h.now.1;have hml:=uB hm;have h1:=h.more [.cells 24 [.int .i64 11,.str s0,.int .i64 nn,.sl none l.length (T.encL l),.int .i64 line]];have c:=f128 h1 {kind:=1,f:=f,x:=k0,m:=nn} .nils (by simp) rfl rfl (by omega) k (by omega);dsimp only at c;refine Xbh rfl rfl (by decide) fun s hs e0 e1 e2 e3 e4 e5=>?_;simp[hs,e0,e1,e2,e3,e4,e5,Xap,wrC,Xak];refine Xac c fun p hp=>?_;obtain⟨r,st2⟩:=p;obtain⟨r1,r2⟩:=hp;simp only at r1;subst r1;obtain⟨rv2,h2⟩:=h1.next r2 (by simp;omega);have p7:st2.H[st.H.length]?=some (.cells 24 [.int .i64 11,.str s0,.int .i64 nn,.sl none l.length (T.encL l),.int .i64 line]):=by rw[r2.old _ (by simp) (by omega)];simp
  have r2':=r2.pre (st:=st) (fun j hj=>List.getElem?_append_left hj) (by simp) List.prefix_rfl;simp[hs];have hzl:(l.zip ps).length=l.length:=by rw[List.length_zip,hpl,Nat.min_self]
  refine Xau (fun n s' m st'=> ∃j:Nat,j<=l.length/\n=l.length - j/\m=[]/\s'.length=275/\lk s' 0=.ptr mb 0/\lk s' 2=.int .i64 k0/\lk s' 3=.sl q ps.length (ps.map (.int .i64))/\lk s' 4=.int .i64 f/\lk s' 7=.ptr st.H.length 0/\lk s' 12=.int .i64 j/\
      DkTo E mb (.sl o' fs.length (encFs fs)) (.sl o bs.length (bs.map (.int .i64))) rv2 st2 st' nx (rs++ [{kind:=1,f:=f,x:=k0,m:=nn}]++((l.zip ps).take j).map (rSt f k0))) l.length (by omega)
      ⟨0,by omega,by omega,rfl,by simp[hs],by simp[hs,e0],by simp[hs,e2],by simp[hs,e3],by simp[hs,e4],by simp[hs],by simp[hs],by simpa using DkTo.refl h2.now⟩ ?_
  clear hs e0 e1 e2 e3 e4 e5 s;rintro _ s _ st' ⟨j,hj,rfl,rfl,hs,e0,e2,e3,e4,e7,e12,hto⟩;by_cases hc:j<l.length
  ·obtain⟨t,ht⟩:∃t,l[j]?=some t:=⟨_,List.getElem?_eq_getElem hc⟩;obtain⟨p,hp⟩:∃p,ps[j]?=some p:=⟨_,List.getElem?_eq_getElem (by omega)⟩;have hz:(l.zip ps)[j]?=some (t,p):=by rw[List.getElem?_zip_eq_some];exact⟨ht,hp⟩
   obtain⟨rvj,hj'⟩:=h2.next hto (by simp;omega);refine Jc0 hj' s0 nn line l k0 f q ps hpl st.H.length j t p ht hp (hpb p (List.mem_of_getElem? hp)) (by omega) (by simp;omega) (by rw[hto.old _ (uB p7) (by omega)];exact p7) s hs e0 e2 e3 e4 e7 e12 [] k (by omega) _ ?_;intro s' st3 a1 a2 a3 a4;refine⟨_,by omega,j+1,by omega,rfl,rfl,a1,(a2 0 (by omega)).trans e0,(a2 2 (by omega)).trans e2,(a2 3 (by omega)).trans e3,(a2 4 (by omega)).trans e4,(a2 7 (by omega)).trans e7,a3,?_⟩;have:=hto.andThen hj'.now a4;rw[List.take_add_one,hz];simpa using this
  ·have:j=l.length:=by omega
   subst this;rw[List.take_of_length_le (by omega)]at hto;try unfold l85
   simp[hs,e3,e12,hpl];have:=r2'.andThen h2.now hto;simpa using this
theorem Xur{E mb fs bs o o' nx rs rv st}(h:DkS E mb fs bs o o' nx rs rv st)(s0:ByteArray)(nn line:Int)(k0 to:Int)(f:Nat)(hlen:rs.length<=8000000000)(k:Nat)(hk:20<=k):
  CallQ k E 85 [.ptr mb 0,.agg (T.mk 11 s0 nn [] line).enc,.int .i64 k0,.nils,.int .i64 f,.int .i64 to] st fun r st'=>r=.ok (.tup [])/\DkTo E mb (.sl o' fs.length (encFs fs)) (.sl o bs.length (bs.map (.int .i64))) rv st st' nx (rs++ [{kind:=1,f:=f,x:=k0,m:=nn}]):=by
 obtain⟨k,rfl⟩:=uK (k:=k) (by omega);have c:=h.add [.cells 24 [.int .i64 11,.str s0,.int .i64 nn,.sl none 0 [],.int .i64 line]] {kind:=1,f:=f,x:=k0,m:=nn} .nils (by simp) rfl rfl (by omega) k (by omega);dsimp only at c;refine Xbh rfl rfl (by decide) fun s hs e0 e1 e2 e3 e4 e5=>?_;simp[hs,e0,e1,e2,e3,e4,e5,Xap,wrC,Xak];refine Xac c fun p hp=>?_;obtain⟨r,st2⟩:=p;obtain⟨r1,r2⟩:=hp;simp only at r1;subst r1;simp[hs];refine Xau (fun n s' m st'=>m=[]/\s'.length=275/\lk s' 3=.nils/\lk s' 12=.int .i64 0/\st'=st2) 0 (by omega) ⟨rfl,by simp[hs],by simp[hs,e3],by simp[hs],rfl⟩ ?_;rintro _ s' _ _ ⟨rfl,hs',e3',e12',rfl⟩;try unfold l85
 simp[hs',e3',e12'];exact r2
theorem Xy1{E mb fs bs o o' nx rs rv st}(h:DkS E mb fs bs o o' nx rs rv st)(t:T)(k0 to:Int)(f:Nat)(pv:AV)(o1:¬t.op=1)(o8:¬t.op=8)(o11:¬t.op=11)(o13:¬t.op=13)(o14:¬t.op=14)(o17:¬t.op=17)(o21:¬t.op=21)(o22:¬t.op=22)(o23:¬t.op=23)(o15:¬t.op=15)(o16:¬t.op=16)(o30:¬t.op=30)(o36:¬t.op=36)(o37:¬t.op=37)(k:Nat)(hk:20<=k):
  CallQ k E 85 [.ptr mb 0,.agg t.enc,.int .i64 k0,pv,.int .i64 f,.int .i64 to] st fun r st'=>r=.ok (.tup [])/\DkTo E mb (.sl o' fs.length (encFs fs)) (.sl o bs.length (bs.map (.int .i64))) rv st st' nx rs:=by
 obtain⟨k,rfl⟩:=uK (k:=k) (by omega);obtain⟨op,s0,nn,l,line⟩:=t;simp only[T.op_mk]at*;refine Xbh rfl rfl (by decide) fun s hs e0 e1 e2 e3 e4 e5=>?_;simp[hs,e0,e1,e2,e3,e4,e5,o1,o8,o11,o13,o14,o17,o21,o22,o23,o15,o16,o30,o36,o37];exact DkTo.more h.now _
theorem g85{E mb fs bs o o' nx rs rv st}(h:DkS E mb fs bs o o' nx rs rv st)(t:T)(k0 to:Int)(f:Nat)(hk0:0<=k0)(hk1:k0+1+(T.countL t.l:Nat)<=100000000000)(hc:LocOK fs bs t f)(h37:t.op=37->0<t.l.length)(pv:AV)(hpv:ValI (posF (k0+1) t.l) pv)
  (hlen:rs.length+t.l.length<=7000000000) (k:Nat) (hk:t.l.length+30<=k):
  CallQ k E 85 [.ptr mb 0,.agg t.enc,.int .i64 k0,pv,.int .i64 f,.int .i64 to] st fun r st'=>r=.ok (.tup [])/\DkTo E mb (.sl o' fs.length (encFs fs)) (.sl o bs.length (bs.map (.int .i64))) rv st st' nx (rs++ownR fs bs t k0 f to):=by
 have hpl:=Xdy (k0+1) t.l;have hpm:=Xi2 (k0+1) t.l;obtain⟨op,s0,nn,l,line⟩:=t;simp only[T.op_mk,T.n_mk,T.s_mk,T.l_mk]at*;unfold ownR ownS;simp only[T.op_mk,T.n_mk,T.s_mk,T.l_mk];generalize hps:posF (k0+1) l=ps at*;obtain⟨c1,c2,c3,c9,c4,c5,c6,c7,c8⟩:=hc;simp only[T.op_mk,T.n_mk,T.s_mk,T.l_mk]at*;by_cases o1:op=1
 ·subst o1;simpa [Rule.at,rSub]using Jd1 h s0 nn line l k0 to f pv _ (c2 (.inl rfl)) (by omega) k (by omega)
 by_cases o8:op=8
 ·subst o8;simpa [Rule.at,rSub]using Jd0 h s0 nn line l k0 to f pv _ c1 (by omega) k (by omega)
 by_cases o11:op=11
 ·subst o11;rcases hpv with⟨rfl,rfl⟩|⟨hne,q,rfl⟩
  ·have:l=[]:=List.length_eq_zero_iff.1 hpl.symm;subst this;simpa [Rule.at]using Xur h s0 nn line k0 to f (by omega) k (by omega)
  ·have:=Xy8 h s0 nn line l k0 to f q ps hpl (fun p hp=>by have:=hpm p hp;omega) (by omega) k (by omega);have hst:(rSt f k0)=fun x=>({kind:=6,f:=f,x:=k0,y:=x.2+1,s:=x.1.s}:Rule):=rfl;simpa [Rule.at,hst,Function.comp_def]using this
 by_cases o13:op=13
 ·subst o13;obtain⟨p0,rfl⟩:=List.length_eq_one_iff.1 (hpl.trans (c3 rfl));obtain⟨q,rfl⟩:=hpv.one;simpa [Rule.at,rSub]using Xy7 h s0 nn line l k0 to f q p0 (by omega) k (by omega)
 have two:ps.length=2->∃p0 p1 q,ps=[p0,p1]/\pv=.sl q 2 [.int .i64 p0,.int .i64 p1]/\0<=p0/\p0<=100000000000:=fun h2=>by
  obtain⟨p0,p1,rfl⟩:=len2 h2;rcases hpv with⟨e, -⟩|⟨-,q,e⟩
  ·cases e
  ·have:=hpm p0 (by simp);exact⟨p0,p1,q,rfl,e,by omega,by omega⟩
 by_cases o14:op=14
 ·subst o14;obtain⟨p0,p1,q,rfl,rfl,b⟩:=two (by have:=c9 rfl;omega);simpa [Rule.at,rSub]using Xy6 h s0 nn line l k0 to f q p0 p1 b (by omega) k (by omega)
 by_cases o17:op=17
 ·subst o17;obtain⟨h2,hv⟩:=c4 rfl;obtain⟨p0,p1,q,rfl,rfl,b⟩:=two (by omega);obtain⟨t0,t1,rfl⟩:=len2 h2;by_cases u1:t0.op=1
  ·simpa [Rule.at,rSub,u1]using Xuo h s0 nn line [t0,t1] k0 to f q p0 p1 b t0 rfl u1 _ (hv t0 rfl u1) (by omega) k (by omega)
  by_cases u2:t0.op=13
  ·simpa [Rule.at,rSub,u1,u2]using Xun h s0 nn line [t0,t1] k0 to f q p0 p1 b t0 rfl u2 (by omega) k (by omega)
  ·simpa [Rule.at,rSub,u1,u2]using Xum h s0 nn line [t0,t1] k0 to f q p0 p1 b t0 rfl u1 u2 (by omega) k (by omega)
 by_cases o21:op=21
 ·subst o21;obtain⟨p0,p1,q,rfl,rfl,b⟩:=two (by have:=c5 (.inl rfl);omega);simpa [Rule.at,rSub]using Xy4 h s0 nn line l k0 to f q p0 p1 b (by omega) k (by omega)
 by_cases o22:op=22
 ·subst o22;obtain⟨p0,p1,q,rfl,rfl,b⟩:=two (by have:=c5 (.inr rfl);omega);simpa [Rule.at,rSub]using Xy3 h s0 nn line l k0 to f q p0 p1 b (by omega) k (by omega)
 by_cases o23:op=23
 ·subst o23;obtain⟨p0,p1,p2,rfl⟩:=len3 (hpl.trans (c6 rfl));rcases hpv with⟨e, -⟩|⟨-,q,rfl⟩
  ·cases e
  simpa [Rule.at,rSub]using Xy2 h s0 nn line l k0 to f q p0 p1 p2 (by omega) k (by omega)
 have call:op=15\/op=16->∃t0 p0 r q,l[0]?=some t0/\ps=p0::r/\pv=.sl q (r.length+1) ((p0::r).map (.int .i64))/\0<=p0/\p0<=100000000000:=fun ho=>by
  have hne:=c7 ho;obtain⟨t0,r0,rfl⟩:=List.exists_cons_of_ne_nil hne;rcases ps with _|⟨p0,r⟩
  ·simp at hpl
  have:=hpm p0 (by simp);rcases hpv with⟨e, -⟩|⟨-,q,e⟩
  ·cases e
  ·exact⟨t0,p0,r,q,rfl,rfl,e,by omega,by omega⟩
 by_cases o15:op=15
 ·subst o15;obtain⟨t0,p0,r,q,ht0,rfl,rfl,b⟩:=call (.inl rfl);by_cases u1:t0.op=13\/t0.op=14
  ·simpa [Rule.at,ht0,u1]using Xuq h s0 nn line l k0 to f q p0 r t0 ht0 u1 b (by omega) k (by omega)
  ·simpa [Rule.at,ht0,u1]using Xup h s0 nn line l k0 to f q p0 r t0 ht0 u1 (by omega) k (by omega)
 by_cases o16:op=16
 ·subst o16;obtain⟨t0,p0,r,q,ht0,rfl,rfl,b⟩:=call (.inr rfl);simpa [Rule.at]using Xy5 h s0 nn line l k0 to f q p0 r (by omega) k (by omega)
 have onep:ps.length<=1->ps=[]/\pv=.nils\/∃p q,ps=[p]/\pv=.sl q 1 [.int .i64 p]:=fun h1=>by
  rcases ps with _|⟨p,_|⟨p',r⟩⟩
  ·exact .inl ⟨rfl,hpv.nil⟩
  ·obtain⟨q,e⟩:=hpv.one;exact .inr ⟨p,q,rfl,e⟩
  ·simp at h1
 by_cases o30:op=30
 ·subst o30;rcases onep (by have:=c8 (.inl rfl);omega)with⟨rfl,rfl⟩|⟨p,q,rfl,rfl⟩
  ·simpa using Xul h s0 nn line l k0 to f (by omega) k (by omega)
  ·simpa [Rule.at,rSub]using Xuk h s0 nn line l k0 to f q p _ (c2 (.inr (.inl rfl))) (by omega) k (by omega)
 by_cases o36:op=36
 ·subst o36;rcases onep (by have:=c8 (.inr (.inl rfl));omega)with⟨rfl,rfl⟩|⟨p,q,rfl,rfl⟩
  ·simpa using Xuj h s0 nn line l k0 to f (by omega) k (by omega)
  ·simpa [Rule.at,rSub]using Xui h s0 nn line l k0 to f q p _ c1 (by omega) k (by omega)
 by_cases o37:op=37
 ·subst o37
  obtain⟨p,q,rfl,rfl⟩:∃p q,ps=[p]/\pv=.sl q 1 [.int .i64 p]:=by
   rcases onep (by have:=c8 (.inr (.inr rfl));omega)with⟨rfl,rfl⟩|hh
   ·have:=h37 rfl;simp at hpl;omega
   ·exact hh
  simpa [Rule.at,rSub]using Xuh h s0 nn line l k0 to f q p (by omega) k (by omega)
 ·have:=Xy1 h (.mk op s0 nn l line) k0 to f pv o1 o8 o11 o13 o14 o17 o21 o22 o23 o15 o16 o30 o36 o37 k (by omega);simpa [o1,o8,o11,o13,o14,o17,o21,o22,o23,o15,o16,o30,o36,o37]using this
def b83:ACode:=(.seq (.reg [oF 12 0 5,oL 13 12,oO 14 (.bin .num .eql (.t 13) (.c (.int .i64 41)))])
 (.cond (.t 14) (.reg [oV 15 0,oV 16 3,oV 17 0,oV 18 3,oF 19 1 5,oL 20 19,oO 21 (.call .no 129 [(.t 17),(.t 18),(.t 20),(.c (.int .i64 0))]),oV 22 8,oO 23 (.build [(.int .i64 0),(.int .i64 0),(.int .i64 0),(.int .i64 0),(.int .i64 0),(.int .i64 0),(.int .i64 0),(.str ⟨#[]⟩),.nils] [(0,1,(.c (.int .i64 2))),(1,1,(.t 16)),(2,1,(.t 21)),(5,1,(.t 22))]),oO 24 (.call .no 128 [(.t 15),(.t 23)])]) (.seq (.reg [oV 25 0,oV 26 3,oV 27 2,oV 28 8,oO 29 (.build [(.int .i64 0),(.int .i64 0),(.int .i64 0),(.int .i64 0),(.int .i64 0),(.int .i64 0),(.int .i64 0),(.str ⟨#[]⟩),.nils] [(0,1,(.c (.int .i64 2))),(1,1,(.t 26)),(2,1,(.t 27)),(5,1,(.t 28))]),oO 30 (.call .no 128 [(.t 25),(.t 29)])])
 (.seq (.reg [oO 9 (.mv (.c (.int .i64 (-1))))])
 (.seq (.seq (.reg [oF 31 1 5,oL 32 31,oO 33 (.bin .str .neq (.t 32) (.c (.str ⟨#[]⟩)))])
 (.cond (.t 33) (.dreg [(oV 34 0,0),(oV 35 8,0),(oF 36 1 5,0),(oL 37 36,4),(oV 38 0,0),(oN 39 38,16),(oF 40 0 39,48),(oL 41 40,112),(oV 42 8,0),(oO 43 (.ia 5 (.t 41) (.t 42)),496),(oF 44 2 43,1008),(oL 45 44,2032),(oO 46 (.call .no 129 [(.t 34),(.t 35),(.t 37),(.t 45)]),4095),(oV 9 46,8191)]) (.skip)))
 (.seq (.reg [oV 47 9,oO 48 (.bin .num .geq (.t 47) (.c (.int .i64 0)))])
 (.cond (.t 48) (.reg [oV 49 0,oV 50 3,oV 51 9,oV 52 8,oO 53 (.build [(.int .i64 0),(.int .i64 0),(.int .i64 0),(.int .i64 0),(.int .i64 0),(.int .i64 0),(.int .i64 0),(.str ⟨#[]⟩),.nils] [(0,1,(.c (.int .i64 2))),(1,1,(.t 50)),(2,1,(.t 51)),(5,1,(.t 52))]),oO 54 (.call .no 128 [(.t 49),(.t 53)])]) (.skip))))))))
def d83:ACode:=(.seq (.dreg [(oV 55 0,0),(oV 56 0,0),(oN 57 56,2),(oF 58 2 57,6),(oL 59 58,14),(oF 60 3 5,0),(oL 61 60,32),(oO 62 (.len false (.t 61)),96),(oO 63 (.bin .num .add (.t 59) (.t 62)),254),(oO 64 (.bin .num .sub (.t 63) (.c (.int .i64 1))),510),(oN 65 55,1023),(oF 66 2 65,2047),(oS (.st 1 (.t 66) (.t 64)),4095)])
 (.dreg [(oV 67 0,0),(oF 68 3 5,0),(oL 69 68,2),(oF 70 3 5,0),(oL 71 70,8),(oO 72 (.len false (.t 71)),24),(oO 73 (.bin .num .sub (.t 72) (.c (.int .i64 1))),56),(oO 74 (.ia 5 (.t 69) (.t 73)),126),(oO 75 (.ld (some 5) (.t 74)),254),(oV 76 8,0),(oV 77 0,0),(oV 78 8,0),(oO 79 (.call .quiet 54 [(.t 77),(.t 78),(.c (.int .i64 2))]),3072),(oO 80 (.call .no 55 [(.t 67),(.t 75),(.t 76),(.t 79),(.c (.bool false))]),8191)]))
def y83a:ACode:=.seq (.reg [oO 5 (.box 24 (.t 1))])
 (.seq (.reg [oF 10 2 5,oL 11 10,oV 8 11])
 (.seq b83
 d83))
def FnD(fs:List Fn)(op:Int)(s:ByteArray)(n:Int)(f:Nat):Prop:=
 (op=41->∃G,fs[f]?=some G/\∃j,ixS s G.vars=some j)/\(op=10->∃G,fs[n.toNat]?=some G/\G.vars.Nodup/\(s=⟨#[]⟩->ixS s G.vars=none))
mutual
/-- What is asked of a tree that stands in a function. -/
def RD(fs:List Fn)(bs:List Int)(f:Nat):T->Prop
 |.mk op s n l x=>if isFn op then BehA fs bs f (behV fs bs f)/\(∃g:Nat,n=g/\BehA fs bs g (behV fs bs g))/\FnD fs op s n f/\RDB fs bs n.toNat l else LocOK fs bs (.mk op s n l x) f/\(op=37->0<l.length)/\RDL fs bs f l
def RDL(fs:List Fn)(bs:List Int)(f:Nat):List T->Prop
 |[]=>True
 |t::r=>RD fs bs f t/\RDL fs bs f r
def RDB(fs:List Fn)(bs:List Int)(g:Nat):List T->Prop
 |[]=>False
 |t::r=>(r=[]/\t.op=32/\RD fs bs g t)\/(r≠ []/\t.op≠32/\t.count=1/\RDB fs bs g r)
end
theorem Xqm{fs bs f}:∀{l:List T} {i:Nat} {t:T},RDL fs bs f l->l[i]?=some t->RD fs bs f t
 |[],i,t,_,h=>by simp at h
 |a::r,0,t,h,e=>by simp at e;subst e;exact h.1
 |a::r,i+1,t,h,e=>Xqm h.2 (by simpa using e)
theorem Xmp{fs bs g}:∀{l:List T} (a:Int),RDB fs bs g l->∃t,l[l.length - 1]?=some t/\t.op=32/\RD fs bs g t/\0<l.length/\T.countL l=l.length - 1+t.count/\rB fs bs g a l=rT fs bs t (a+((l.length - 1:Nat):Int)) g (behV fs bs g+2) true
 |[],a,h=>by simp[RDB]at h
 |t::r,a,h=>by
  simp only[RDB]at h;rcases h with⟨rfl,h1,h2⟩|⟨hn,h1,h2,h3⟩
  ·exact⟨t,rfl,h1,h2,by simp,by simp[T.countL],by simp[rB,h1]⟩
  ·obtain⟨t',e1,e2,e3,e4,e5,e6⟩:=Xmp (a+1) h3;have hl:r.length=r.length - 1+1:=by omega
   refine⟨t',?_,e2,e3,by simp,?_,?_⟩
   ·rw[List.length_cons,Nat.add_sub_cancel,hl,List.getElem?_cons_succ];exact e1
   ·simp only[T.countL,List.length_cons];omega
   ·simp only[rB,if_neg h1,List.nil_append,h2,List.length_cons];have:=e6;rw[show a+((1:Nat):Int)=a+1 from rfl,this]
    congr 1;omega
theorem Xsj{s:ByteArray}:∀{l:List ByteArray} {i:Nat},i<=oi (ixS s l)->ixN s l i=ixS s l
 |l,0,_=>by simp only[ixN,List.drop_zero];cases ixS s l<;>rfl
 |[],i+1,h=>by simp[ixS,oi]at h;omega
 |w::r,i+1,h=>by
  simp only[ixS]at h⊢;split at h
  ·simp[oi]at h;omega
  ·rename_i hn;rw[if_neg hn];have hi:(i:Int)<=oi (ixS s r):=by rcases hx:ixS s r with _|j<;>simp[hx,oi]at h⊢ <;>omega
   have:=Xsj hi;simp only[ixN,List.drop_succ_cons]at this⊢;rw[<-this,Option.map_map];rfl
theorem Xow{s:ByteArray}:∀{l:List ByteArray} {i:Nat},l.Nodup->¬i<=oi (ixS s l)->ixN s l i=none
  |l,0,_,h=>by
    rcases hx:ixS s l with _|j
    ·simp[ixN,hx]
    ·simp[hx,oi]at h
  |[],i+1,_,h=>by simp[ixN,ixS]
  |w::r,i+1,hd,h=>by
    have hd':=List.nodup_cons.1 hd;simp only[ixS]at h;simp only[ixN,List.drop_succ_cons,Option.map_eq_none_iff];split at h
    ·rename_i e;subst e;have:(ixS s (r.drop i)).isSome=false:=by rw[Xfa];exact decide_eq_false fun hm=>hd'.1 (List.drop_subset _ _ hm)
     simpa using this
    ·have hi:¬(i:Int)<=oi (ixS s r):=by rcases hx:ixS s r with _|j<;>simp[hx,oi]at h⊢ <;>omega
     have:=Xow hd'.2 hi;simpa [ixN]using this
theorem DkTo.bump{E mb F B nx rs rv st}(h:DkR E mb F B nx rs rv st)(X:List ABlk)(nx':Int):DkTo E mb F B rv st ⟨(st.H++X).set mb (.cells 90 [F,B,.int .i64 nx',rv]),st.I⟩ nx' rs:=by have hl:=(List.getElem?_eq_some_iff.1 h.1).1;refine⟨⟨rv,⟨List.getElem?_set_self (by simp;omega),h.2⟩,.inl rfl⟩,fun j hj hn=>?_,by simp,.refl _ _⟩;show(List.set _ _ _)[_]?=_;rw[List.getElem?_set_ne (Ne.symm hn),List.getElem?_append_left hj]
theorem Jdz{E mb fs bs o o' nx rs rv st}(h:DkS E mb fs bs o o' nx rs rv st)(s0:ByteArray)(nn line:Int)(l:List T)(k0:Int)(f:Nat)(hbf:BehA fs bs f (behV fs bs f))(hfd:FnD fs 41 s0 nn f)(hv:∀G∈fs,G.vars.length<=500)(hlen:rs.length<=9000000000)(B5:Nat)
  (p5:st.H[B5]?=some (.cells 24 [.int .i64 41,.str s0,.int .i64 nn,.sl none l.length (T.encL l),.int .i64 line])) (s:List AV) (hs:s.length=81) (e0:lk s 0=.ptr mb 0) (e2:lk s 2=.int .i64 k0) (e3:lk s 3=.int .i64 f) (e5:lk s 5=.ptr B5 0) (e8:lk s 8=.int .i64 nn) (k:Nat) (hk:600<=k) (Q:Q4)
  (hQ:∀s' st',s'.length=81->(∀i,i=0\/i=2\/i=3\/i=5\/i=8->lk s' i=lk s i)->DkTo E mb (.sl o' fs.length (encFs fs)) (.sl o bs.length (bs.map (.int .i64))) rv st st' nx (rs++hdR fs bs 41 s0 nn k0 f)->Q .nrm s' [] st'):
  WP (aCall prog k) E k none b83 s [] st Q:=by
 obtain⟨G,hG,j,hj⟩:=hfd.1 rfl;obtain⟨g,b,x1,x2,x3,x4,x5⟩:=hbf.ex;have:g=G:=by simpa using x1.symm.trans hG
 subst this;have c129:=f129 (E:=E) (st:=st) h.now.1 x1 x2 x3 x4 s0 0 k (by have:=hv g (List.mem_of_getElem? hG);omega);have hz:ixN s0 g.vars 0=some j:=by simp[ixN,hj]
 rw[hz]at c129;have hh:hdR fs bs 41 s0 nn k0 f=[Rule.at f {kind:=2,x:=b+j,n:=nn}]:=by simp[hdR,x1,x2,hj,oi]
 rw[hh]at hQ;have c:=f128 h (Rule.at f {kind:=2,x:=b+j,n:=nn}) .nils (by simp[Rule.at]) rfl rfl (by omega) k (by omega);simp only[Rule.at]at c hQ;rw[show((0:Nat):Int)=0 from rfl]at c129;unfold b83;simp[-Xan, -Xav,Xaj,Xao,Nat.testBit,hs,e0,e2,e3,e5,e8,p5,c129,Xap,wrC,Xak];refine Xac c fun p hp=>?_;obtain⟨r,st2⟩:=p;obtain⟨r1,r2⟩:=hp;simp only at r1;subst r1;simp[-Xan, -Xav,Xaj,Xao,Nat.testBit,hs,Xak];refine hQ _ _ ?_ (fun i hi=>?_) r2
 ·simp[hs]
 ·rcases hi with rfl|rfl|rfl|rfl|rfl<;>simp[hs]
theorem Jdy{E mb fs bs o o' nx rs rv st}(h:DkS E mb fs bs o o' nx rs rv st)(s0:ByteArray)(nn line:Int)(l:List T)(k0:Int)(f g:Nat)(hn:nn=g)(hbg:BehA fs bs g (behV fs bs g))(hfd:FnD fs 10 s0 nn f)(hv:∀G∈fs,G.vars.length<=500)(hlen:rs.length<=9000000000)(B5:Nat)
  (p5:st.H[B5]?=some (.cells 24 [.int .i64 10,.str s0,.int .i64 nn,.sl none l.length (T.encL l),.int .i64 line])) (s:List AV) (hs:s.length=81) (e0:lk s 0=.ptr mb 0) (e2:lk s 2=.int .i64 k0) (e3:lk s 3=.int .i64 f) (e5:lk s 5=.ptr B5 0) (e8:lk s 8=.int .i64 nn) (k:Nat) (hk:600<=k) (Q:Q4)
  (hQ:∀s' st',s'.length=81->(∀i,i=0\/i=2\/i=3\/i=5\/i=8->lk s' i=lk s i)->DkTo E mb (.sl o' fs.length (encFs fs)) (.sl o bs.length (bs.map (.int .i64))) rv st st' nx (rs++hdR fs bs 10 s0 nn k0 f)->Q .nrm s' [] st'):
  WP (aCall prog k) E k none b83 s [] st Q:=by
 obtain⟨G,hG,hnd,hne⟩:=hfd.2 rfl;obtain⟨G',b,x1,x2,x3,x4,x5⟩:=hbg.ex;have hgn:nn.toNat=g:=by omega
 rw[hgn]at hG;have:G'=G:=by simpa using x1.symm.trans hG
 subst this;have hh:hdR fs bs 10 s0 nn k0 f=Rule.at f {kind:=2,x:=k0,n:=nn}::(if(G'.params:Int)<=oi (ixS s0 G'.vars)then [Rule.at f {kind:=2,x:=b+oi (ixS s0 G'.vars),n:=nn}]else []):=by simp[hdR,x1,x2,hgn]
 rw[hh]at hQ;have c:=f128 h (Rule.at f {kind:=2,x:=k0,n:=nn}) .nils (by simp[Rule.at]) rfl rfl (by omega) k (by omega);simp only[Rule.at]at c hQ;unfold b83;simp[-Xan, -Xav,Xaj,Xao,Nat.testBit,hs,e0,e2,e3,e5,e8,p5,Xap,wrC,Xak];refine Xac c fun p hp=>?_;obtain⟨r,st2⟩:=p;obtain⟨r1,r2⟩:=hp;simp only at r1;subst r1;obtain⟨rv2,h2⟩:=h.next r2 (by simp;omega);have hbm:B5≠mb:=fun e=>by have h3:=h.now.1;rw[<-e,p5]at h3;cases h3
 have p5':st2.H[B5]?=some (.cells 24 [.int .i64 10,.str s0,.int .i64 nn,.sl none l.length (T.encL l),.int .i64 line]):=by rw[r2.old _ (uB p5) hbm];exact p5
 by_cases hs0:s0=⟨#[]⟩
 ·have hx:=hne hs0;rw[hx]at hQ;have hno:¬(G'.params:Int)<=oi none:=by simp only[oi];omega
  rw[if_neg hno]at hQ;simp[-Xan, -Xav,Xaj,Xao,Nat.testBit,hs,e0,e2,e3,e5,e8,p5',hs0,Xak];refine hQ _ _ ?_ (fun i hi=>?_) r2
  ·simp[hs]
  ·rcases hi with rfl|rfl|rfl|rfl|rfl<;>simp[hs]
 have hm2:=h2.now.1;have hv1:(encFs fs)[g*5+2]?=some (.int .i64 (G'.params:Int)):=Xb2 hG 2 (by omega);have hv2:=uV hv1;have ha:=uB hG;have hv3:g*5+2<fs.length*5:=by omega
 have c129:=f129 (E:=E) (st:=st2) hm2 x1 x2 x3 x4 s0 G'.params k (by have:=hv G' (List.mem_of_getElem? hG);omega);subst hn;by_cases hi:(G'.params:Int)<=oi (ixS s0 G'.vars)
 ·have hz:=Xsj hi;rw[if_pos hi]at hQ;rcases hj:ixS s0 G'.vars with _|j
  ·rw[hj]at hi;simp only[oi]at hi;omega
  rw[hz,hj]at c129;rw[hj]at hQ;simp only[oi]at hQ;simp only at c129;have hge:¬b+(j:Int)<0:=by omega
  have hge2:0<=b+(j:Int):=by omega
  have c2:=f128 h2 (Rule.at f {kind:=2,x:=b+j,n:=g}) .nils (by simp[Rule.at]) rfl rfl (by simp;omega) k (by omega);simp only[Rule.at]at c2;simp[-Xan, -Xav,Xaj,Xao,Nat.testBit,hs,e0,e2,e3,e5,e8,p5',hs0,hm2,hv1,hv2,hv3,ha,c129,Xak];simp[-Xan, -Xav,Xaj,Xao,Nat.testBit,hs,e0,e2,e3,e5,e8,hge,hge2,Xap,wrC,Xak];refine Xac c2 fun p hp=>?_;obtain⟨r,st3⟩:=p;obtain⟨r1,r3⟩:=hp;simp only at r1;subst r1;simp[-Xan, -Xav,Xaj,Xao,Nat.testBit,hs,Xak];refine hQ _ _ ?_ (fun i hi=>?_) ?_
  ·simp[hs]
  ·rcases hi with rfl|rfl|rfl|rfl|rfl<;>simp[hs]
  ·have:=r2.andThen h2.now r3;simpa using this
 ·have hz:=Xow hnd hi;rw[if_neg hi]at hQ;rw[hz]at c129;simp only at c129;simp[-Xan, -Xav,Xaj,Xao,Nat.testBit,hs,e0,e2,e3,e5,e8,p5',hs0,hm2,hv1,hv2,hv3,ha,c129,Xak];refine hQ _ _ ?_ (fun i hi=>?_) r2
  ·simp[hs]
  ·rcases hi with rfl|rfl|rfl|rfl|rfl<;>simp[hs]
end Go.Proofs.YP
