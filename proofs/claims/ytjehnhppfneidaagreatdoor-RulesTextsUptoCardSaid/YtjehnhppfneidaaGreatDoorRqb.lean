/- Texts that the laws of the seat rest on: an abstract machine, what the functions answer in it, plain laws. -/
import Derived.Test.YtjehnhppfneidaaGreatDoorRqFa
import Derived.Test.YtjehnhppfneidaaGreatDoorRqFb
import Derived.Test.YtjehnhppfneidaaGreatDoorRqFc
import Derived.Test.YtjehnhppfneidaaGreatDoorRqFd
set_option linter.unusedVariables false
set_option linter.unusedSimpArgs false
set_option linter.unusedSectionVars false
namespace Go.Proofs.YP
open Go
def Xb5:ABlk->List Ref
 |.cells _ c=>AV.refsL c
 |.map es=>AV.refsL (Xc0 es)
 |.loop _ _ _ t _ _ _ d=>.blk d::AV.refsL t
 |.dfr=> []
 |.opq=> []
structure Env.Wf(E:Env)(st:St):Prop where
 base:E.base<=st.H.length
 rob:E.rob<=st.H.length
 rom:E.rom<=st.I.length
structure StepOK(E:Env)(st st':St):Prop where
 H:st.H.length<=st'.H.length
 I:st.I.length<=st'.I.length
 rob:∀b o,b<E.rob->st.H[b]?=some o->st'.H[b]?=some o
 rom:∀i x,i<E.rom->st.I[i]?=some x->st'.I[i]?=some x
 refs:∀b o o',b<E.base->st.H[b]?=some o->st'.H[b]?=some o'->∀r∈Xb5 o',r∈Xb5 o
theorem StepOK.refl(E:Env)(st:St):StepOK E st st:=⟨Nat.le_refl _,Nat.le_refl _,fun _ _ _ h=>h,fun _ _ _ h=>h,fun b o o' _ h h' r hr=>by rw[h]at h';cases h';exact hr⟩
theorem StepOK.wf{E:Env}{st st':St}(h:StepOK E st st')(w:E.Wf st):E.Wf st':=⟨Nat.le_trans w.base h.H,Nat.le_trans w.rob h.H,Nat.le_trans w.rom h.I⟩
theorem StepOK.trans{E:Env}{st st' st'':St}(h:StepOK E st st')(k:StepOK E st' st''):StepOK E st st'':=by refine⟨Nat.le_trans h.H k.H,Nat.le_trans h.I k.I,fun b o hb e=>k.rob b o hb (h.rob b o hb e),fun i x hi e=>k.rom i x hi (h.rom i x hi e),fun b o o' hb e e' r hr=>?_⟩;have hlt:b<st'.H.length:=Nat.lt_of_lt_of_le (uB e) h.H;have e1:st'.H[b]?=some st'.H[b]:=List.getElem?_eq_getElem hlt;exact h.refs b o _ hb e e1 r (k.refs b _ o' hb e1 e' r hr)
theorem StepOK.weak{E E':Env}{st st':St}(h:StepOK E' st st')(h1:E.base<=E'.base)(h2:E.rob<=E'.rob)(h3:E.rom<=E'.rom):StepOK E st st':=
 ⟨h.H,h.I,fun b o hb=>h.rob b o (by omega),fun i x hi=>h.rom i x (by omega),fun b o o' hb=>h.refs b o o' (by omega)⟩
theorem Xeo:∀l:List AV,AV.refsL l=l.flatMap AV.refs
 |[]=>rfl
 |v::vs=>by simp[AV.refsL,Xeo vs]
theorem Xq2{c vs:List AV}{off:Nat}{r:Ref}(h:r∈AV.refsL (wrC c off vs)):r∈AV.refsL c\/r∈AV.refsL vs:=by
 simp only[Xeo,wrC,List.flatMap_append,List.mem_append,List.mem_flatMap]at h⊢;rcases h with(⟨x,hx,h⟩|h)|⟨x,hx,h⟩
 ·exact .inl ⟨x,List.mem_of_mem_take hx,h⟩
 ·exact .inr h
 ·exact .inl ⟨x,List.mem_of_mem_drop hx,h⟩
theorem StepOK.push{E:Env}{st:St}{o:ABlk}(w:E.Wf st):StepOK E st {st with H:=st.H++ [o]}:=
 ⟨by simp,Nat.le_refl _,fun b x hb e=>by rw[List.getElem?_append_left (uB e)];exact e,fun _ _ _ h=>h,fun b x y hb e e' r hr=>by rw[List.getElem?_append_left (uB e),e]at e';cases e';exact hr⟩
theorem StepOK.pushI{E:Env}{st:St}{x:Nat×Nat}(w:E.Wf st):StepOK E st {st with I:=st.I++ [x]}:=
 ⟨Nat.le_refl _,by simp,fun _ _ _ h=>h,fun i y hi e=>by rw[List.getElem?_append_left (uB e)];exact e,fun b x y hb e e' r hr=>by rw[e]at e';cases e';exact hr⟩
theorem StepOK.setI{E:Env}{st:St}{i:Nat}{x:Nat×Nat}(h:E.rom<=i):StepOK E st {st with I:=st.I.set i x}:=
 ⟨Nat.le_refl _,by simp,fun _ _ _ h=>h,fun j y hj e=>by rw[List.getElem?_set,if_neg (by omega)];exact e,fun b x y hb e e' r hr=>by rw[e]at e';cases e';exact hr⟩
theorem StepOK.setH{E:Env}{st:St}{b:Nat}{o o':ABlk}(h:E.rob<=b)(ho:st.H[b]?=some o)(hr:b<E.base->∀r∈Xb5 o',r∈Xb5 o):StepOK E st {st with H:=st.H.set b o'}:=by
 have hlt:=uB ho;refine⟨by simp,Nat.le_refl _,fun k y hk e=>by rw[List.getElem?_set,if_neg (by omega)];exact e,fun _ _ _ h=>h,fun k y y' hk e e' r hm=>?_⟩;rw[List.getElem?_set]at e';split at e'
 ·rename_i hb;subst hb;simp only[hlt,if_true,Option.some.injEq]at e';subst e';rw[ho]at e;cases e;exact hr hk r hm
 ·rw[e]at e';cases e';exact hm
theorem Xjr{str:Bool}{k v:AV}:∀{es es':List (AV×AV)},updA str k v es=some es'->∀r∈AV.refsL (Xc0 es'),r∈AV.refsL (Xc0 es)\/r∈AV.refsL [k,v]
 |[],es',h,r,hr=>by simp only[updA,Option.some.injEq]at h;subst h;exact .inr hr
 |(q,u)::es,es',h,r,hr=>by
  simp only[updA,Xab]at h;obtain⟨b,_,h⟩:=h;split at h
  ·simp only[Option.some.injEq]at h;subst h;simp only[Xc0,List.flatMap_cons,Xeo,List.flatMap_append,List.mem_append,List.flatMap_nil,List.append_nil]at hr⊢;rcases hr with(h|h)|h
   ·exact .inr (.inl h)
   ·exact .inr (.inr h)
   ·exact .inl (.inr h)
  ·simp only[Xab,Option.some.injEq]at h;obtain⟨r',h1,rfl⟩:=h;have ih:=Xjr h1 r;simp only[Xc0,List.flatMap_cons,Xeo,List.flatMap_append,List.mem_append,List.flatMap_nil,List.append_nil]at hr ih⊢;rcases hr with h|h
   ·exact .inl (.inl h)
   ·rcases ih h with h|h
    ·exact .inl (.inr h)
    ·exact .inr h
theorem Xfr{E:Env}{b:Nat}{old new:List AV}(h:Xaf E b old new=true):E.rob<=b/\(b<E.base->∀r∈AV.refsL new,r∈AV.refsL old):=by
 simp only[Xaf,Bool.and_eq_true,Bool.or_eq_true,decide_eq_true_eq]at h;refine⟨h.1,fun hb r hr=>?_⟩;rcases h.2 with h|h
 ·omega
 ·simp only[Xdw,List.all_eq_true,decide_eq_true_eq]at h;exact h r hr
section
variable{E:Env}{st st':St}{ev:AO->AV}{r:Rt AV}
theorem Xmm{op:AOp}(hne:Xak op=false)(h:aOp E st ev op=some (r,st')):st'=st/\∃v,r=.ok v:=by cases op<;>simp only[Xak,reduceCtorEq,Bool.true_eq_false]at hne<;>simp only[aOp,okOf,Xas]at h<;>grind [=Xab,=Xad]
theorem Xr8{op:AOp}(hne:Xak op=false)(hnr:reads op=false)(h:aOp E st ev op=some (r,st'))(E2:Env)(st2:St):aOp E2 st2 ev op=some (r,st2):=by cases op<;>simp only[Xak,reads,reduceCtorEq,Bool.true_eq_false]at hne hnr<;>simp only[aOp,okOf,Xas]at h⊢ <;>(repeat' (split at h))<;>simp_all [Xab,Xad]<;>grind
theorem Xkh{E:Env}{st st1:St}{sz bytes:Nat}{x y v:AV}(w:E.Wf st)(h:appA E st sz bytes x y=some (v,st1)):StepOK E st st1:=by
 unfold appA at h;simp only[Xab]at h;obtain⟨⟨m,ys⟩,_,h⟩:=h;split at h
 ·split at h
  ·simp only[Option.some.injEq,Prod.mk.injEq]at h;obtain⟨_,rfl⟩:=h;exact .refl E st
  ·simp only[Xad,Option.some.injEq,Prod.mk.injEq]at h;obtain⟨_,_,rfl⟩:=h;exact .pushI w
 ·simp only[Xad,Bool.and_eq_true,decide_eq_true_eq,Option.some.injEq,Prod.mk.injEq]at h;obtain⟨⟨⟨⟨⟨hr,_⟩,_⟩,_⟩,_⟩,_,rfl⟩:=h;exact .setI hr
 ·cases h
theorem Xr7{op:AOp}(w:E.Wf st)(h:aOp E st ev op=some (r,st')):StepOK E st st':=by
 by_cases hne:Xak op=false
 ·rw[(Xmm hne h).1];exact .refl E st
 ·cases op<;>simp only[Xak,not_true_eq_false]at hne
  case alloc=>
   simp only[aOp,Xas,Xad,Option.some.injEq,Prod.mk.injEq]at h;obtain⟨_,_,rfl⟩:=h;exact .push w
  case box=>
   simp only[aOp,Xas,Xad,Option.some.injEq,Prod.mk.injEq]at h;obtain⟨_,_,rfl⟩:=h;exact .push w
  case bsl own sz n z ps=>
   simp only[aOp,Xas,Xab]at h;obtain⟨cs,_,h⟩:=h;split at h
   ·simp only[Option.some.injEq,Prod.mk.injEq]at h;obtain⟨_,rfl⟩:=h;exact .pushI w
   ·simp only[Option.some.injEq,Prod.mk.injEq]at h;obtain⟨_,rfl⟩:=h;exact .refl E st
  case st n p x=>
   simp only[aOp,Xas,Xab,Option.some.injEq,Prod.mk.injEq]at h;obtain⟨st1,h,_,rfl⟩:=h;unfold Xag at h;split at h
   ·split at h
    ·rename_i t c hc;simp only[Xad,Bool.and_eq_true,Option.some.injEq]at h;obtain⟨⟨_,hm⟩,rfl⟩:=h;have hm:=Xfr hm;refine .setH hm.1 hc fun hb r hr=>?_;simp only[Xb5]at hr⊢;rcases Xq2 hr with hr|hr
     ·exact hr
     ·exact hm.2 hb r hr
    ·cases h
   ·cases h
  case mks=>
   simp only[aOp,Xas]at h;split at h
   ·simp only[Xad,Option.some.injEq,Prod.mk.injEq]at h;obtain⟨_,_,rfl⟩:=h;exact .pushI w
   ·cases h
  case mkh=>
   simp only[aOp,Xas]at h;split at h
   ·simp only[Xad,Option.some.injEq,Prod.mk.injEq]at h;obtain⟨_,_,rfl⟩:=h;exact .push w
   ·cases h
  case frz=>
   simp only[aOp,Xas]at h;split at h
   ·split at h
    ·rename_i hb;simp only[Xad,decide_eq_true_eq,Option.some.injEq,Prod.mk.injEq]at h;obtain⟨hr,_,rfl⟩:=h;exact .setH hr hb fun _ r hr=>by simp[Xb5]at hr
    ·cases h
   ·cases h
  case app sz bytes x y=>
   simp only[aOp,Xas,Xab]at h;obtain⟨⟨v,st1⟩,h,h'⟩:=h;simp only[Option.some.injEq,Prod.mk.injEq]at h';obtain⟨_,rfl⟩:=h';exact Xkh w h
  case appw=>
   simp only[aOp,Xas,Xab,Xad]at h;obtain⟨_,⟨v,st1⟩,h,h'⟩:=h;simp only[Option.some.injEq,Prod.mk.injEq]at h';obtain⟨_,rfl⟩:=h';exact Xkh w h
  case mkm=>
   simp only[aOp,Xas,Option.some.injEq,Prod.mk.injEq]at h;obtain⟨_,rfl⟩:=h;exact .push w
  case upd str m k v=>
   simp only[aOp,Xas]at h;split at h
   ·split at h
    ·rename_i es hes;simp only[Xad,Bool.and_eq_true,Xab,Option.some.injEq,Prod.mk.injEq]at h;obtain⟨⟨_,hm⟩,es',hu,_,rfl⟩:=h;have hm:=Xfr hm;refine .setH hm.1 hes fun hb r hr=>?_;simp only[Xb5]at hr⊢;rcases Xjr hu r hr with hr|hr
     ·exact hr
     ·have:=hm.2 hb r hr;simp[AV.refsL]at this
    ·cases h
   ·cases h
  case pan=>
   simp only[aOp]at h;split at h
   ·simp only[Option.some.injEq,Prod.mk.injEq]at h;obtain⟨_,rfl⟩:=h;exact .refl E st
   ·cases h
  case call=>simp[aOp]at h
  case callv=>simp[aOp]at h
end
def Xey(C:CSem):Prop:=∀E cal args st r st',C E cal args st=some (r,st')->E.Wf st->StepOK E st st'
section
variable{GT:Nat->Option (List AV)}{C:CSem}(hC:Xey C)
include hC
theorem Xfd{E:Env}{tr:Tr}{cal:Cal}{args:List AV}{st st':St}{r:Rt AV}(w:E.Wf st)(h:doCall C E tr cal args st=some (r,st')):StepOK E st st':=by
 have cutOK:∀{st1:St} {m:Nat},StepOK {E with base:=st.H.length} st st1->st.I.length<=m->StepOK E st {H:=st1.H.take st.H.length,I:=st1.I.take m}:=fun{st1 m} k hm=>by
  have k':StepOK E st st1:=k.weak w.base (Nat.le_refl _) (Nat.le_refl _);refine⟨by simp[k.H],by simp only[List.length_take];exact Nat.le_min.2 ⟨hm,k.I⟩,fun b o hb e=>?_,fun i x hi e=>?_,fun b o o' hb e e' r hr=>?_⟩
  ·have:=k'.rob b o hb e;rw[List.getElem?_take,if_pos (uB e)];exact this
  ·have:=k'.rom i x hi e;rw[List.getElem?_take,if_pos (by have:=(uB e);omega)];exact this
  ·rw[List.getElem?_take]at e';split at e'
   ·exact k'.refs b o o' hb e e' r hr
   ·cases e'
 cases tr with
 |no=>exact hC _ _ _ _ _ _ h w
 |keep=>
  simp only[doCall,Xab]at h;obtain⟨⟨r1,st1⟩,h1,h⟩:=h;have k:=hC _ _ _ _ _ _ h1 ⟨Nat.le_refl _,w.rob,w.rom⟩;cases r1 with
  |ok v=>
   simp only[Xad,Xas,Option.some.injEq,Prod.mk.injEq]at h;obtain⟨_,_,rfl⟩:=h;have:=cutOK k k.I
   rwa [List.take_length]at this
  |pan v=>
   simp only[Option.some.injEq,Prod.mk.injEq]at h;obtain⟨_,rfl⟩:=h;exact k.weak w.base (Nat.le_refl _) (Nat.le_refl _)
 |full=>
  simp only[doCall,Xab]at h;obtain⟨⟨r1,st1⟩,h1,h⟩:=h;have k:=hC _ _ _ _ _ _ h1 ⟨Nat.le_refl _,w.rob,w.rom⟩;cases r1 with
  |ok v=>
   simp only[Xad,Xas,Option.some.injEq,Prod.mk.injEq]at h;obtain⟨_,_,rfl⟩:=h;exact cutOK k (Nat.le_refl _)
  |pan v=>
   simp only[Option.some.injEq,Prod.mk.injEq]at h;obtain⟨_,rfl⟩:=h;exact k.weak w.base (Nat.le_refl _) (Nat.le_refl _)
 |quiet=>
  simp only[doCall,Xab]at h;obtain⟨⟨r1,st1⟩,h1,h⟩:=h;have k:=hC _ _ _ _ _ _ h1 ⟨Nat.le_refl _,Nat.le_refl _,Nat.le_refl _⟩;cases r1 with
  |ok v=>
   simp only[Xad,Xas,Option.some.injEq,Prod.mk.injEq]at h;obtain⟨_,_,rfl⟩:=h;exact .refl E _
  |pan v=>simp at h
theorem Xet{E:Env}{op:AOp}{s:List AV}{st st':St}{r:Rt AV}(w:E.Wf st)(h:aExec GT C E op s st=some (r,st')):StepOK E st st':=by
 unfold aExec at h;split at h
 ·exact Xfd hC w h
 ·split at h
  ·exact Xfd hC w h
  ·exact Xfd hC w h
  ·cases h
 ·exact Xr7 w h
theorem Xc3{E:Env}:∀{ops:List AOper} {s:List AV} {st st':St} {r:Rt (List AV)},E.Wf st->aOps GT C E ops s st=some (r,st')->StepOK E st st'
 |[],s,st,st',r,w,h=>by simp only[aOps,Option.some.injEq,Prod.mk.injEq]at h;rw[h.2];exact .refl E _
 |o::ops,s,st,st',r,w,h=>by
  simp only[aOps,Xab]at h;obtain⟨⟨r1,st1⟩,h1,h⟩:=h
  have k:StepOK E st st1:=by
   unfold Xie at h1;split at h1
   ·simp only[Xab]at h1;obtain⟨⟨r2,st2⟩,h2,h1⟩:=h1;have k:=Xet hC w h2;cases r2<;>simp only[Option.some.injEq,Prod.mk.injEq]at h1<;>rw[<-h1.2]<;>exact k
   ·simp only[Option.some.injEq,Prod.mk.injEq]at h1;rw[h1.2];exact .refl E _
  cases r1 with
  |ok s1=>exact k.trans (Xc3 (k.wf w) h)
  |pan v=>
   simp only[Option.some.injEq,Prod.mk.injEq]at h;rw[<-h.2];exact k
theorem Xdb{E:Env}:∀{ops:List (AOper×Nat)} {i:Nat} {ds:List Done} {sts:List (Option Nat×St)} {s:List AV} {st st':St} {r:Rt (List AV)},E.Wf st->aDraw GT C E i ops ds sts s st=some (r,st')->StepOK E st st'
 |[],i,ds,sts,s,st,st',r,w,h=>by simp only[aDraw,Option.some.injEq,Prod.mk.injEq]at h;rw[h.2];exact .refl E _
 |(o,m)::ops,i,ds,sts,s,st,st',r,w,h=>by
  simp only[aDraw]at h;split at h
  ·simp only[Xab]at h;obtain⟨⟨r2,st2⟩,h2,h⟩:=h;have k:=Xet hC w h2;cases r2 with
   |ok v=>
    simp only at h;split at h
    ·simp only[Xad]at h;exact k.trans (Xdb (k.wf w) h.2)
    ·split at h
     ·simp only[Xad]at h;exact Xdb w h.2
     ·exact Xdb w h
   |pan v=>
    simp only[Xad,Option.some.injEq,Prod.mk.injEq]at h;rw[<-h.2.2];exact k
  ·split at h
   ·exact Xdb w h
   ·exact Xdb w h
theorem Xku{E:Env}{rd:Option Nat}{f:AV}{ps:List Nat}{asg body:ACode}{s:List AV}{m:List Nat}{st:St}{x:AExit}{s':List AV}{m':List Nat}{st':St}(w:E.Wf st)
  (hm:∀d∈m,E.rob<=d) (h:Xfo C E rd f ps asg body s m st=some (x,s',m',st')):StepOK E st st'/\∀d∈m',E.rob<=d:=by
 unfold Xfo at h;simp only[Xab]at h;obtain⟨⟨d,m1,st1⟩,h1,h⟩:=h
 have k1:StepOK E st st1/\∀d∈m1,E.rob<=d:=by
  cases rd with
  |none=>
   simp only[Option.some.injEq,Prod.mk.injEq]at h1;obtain⟨rfl,rfl,rfl⟩:=h1
   exact⟨.push w,fun d hd=>by
    rcases List.mem_cons.1 hd with rfl|hd
    ·exact w.rob
    ·exact hm d hd⟩
  |some l0=>
   simp only at h1;split at h1
   ·simp only[Option.some.injEq,Prod.mk.injEq]at h1;obtain⟨rfl,rfl,rfl⟩:=h1;exact⟨.refl E _,hm⟩
   ·cases h1
 simp only at h;have w1:=k1.1.wf w;have k2:StepOK E st1 {st1 with H:=st1.H++ [.loop .ready none 0 s ps asg body d]}:=.push w1;have w2:=k2.wf w1;split at h
 ·simp only[Xab]at h;obtain⟨⟨r3,st3⟩,h3,h⟩:=h;have k3:=hC _ _ _ _ _ _ h3 w2;have k:=k1.1.trans (k2.trans k3);cases r3 with
  |ok v=>
   simp only at h;split at h
   ·rename_i ls p g' t ps' as' bd d' hl;simp only[Xad,Option.some.injEq,Prod.mk.injEq]at h;obtain⟨_,_,_,rfl,rfl⟩:=h;exact⟨k.trans (.setH w1.rob hl fun _ r hr=>by simpa only[Xb5]using hr),k1.2⟩
   ·cases h
  |pan v=>
   simp only[Option.some.injEq,Prod.mk.injEq]at h;obtain⟨_,_,rfl,rfl⟩:=h;exact⟨k,k1.2⟩
 ·cases h
theorem Xbl{E:Env}{lf:Nat}{rd:Option Nat}:∀(c:ACode) {s:List AV} {m:List Nat} {st:St} {x:AExit} {s':List AV} {m':List Nat} {st':St},E.Wf st->(∀d∈m,E.rob<=d)->
  aRun GT C E lf rd c s m st=some (x,s',m',st')->StepOK E st st'/\∀d∈m',E.rob<=d
 |.skip,s,m,st,x,s',m',st',w,hm,h=>by simp only[aRun,Option.some.injEq,Prod.mk.injEq]at h;obtain⟨_,_,rfl,rfl⟩:=h;exact⟨.refl E _,hm⟩
 |.exit i,s,m,st,x,s',m',st',w,hm,h=>by simp only[aRun,Option.some.injEq,Prod.mk.injEq]at h;obtain⟨_,_,rfl,rfl⟩:=h;exact⟨.refl E _,hm⟩
 |.ret,s,m,st,x,s',m',st',w,hm,h=>by simp only[aRun,Option.some.injEq,Prod.mk.injEq]at h;obtain⟨_,_,rfl,rfl⟩:=h;exact⟨.refl E _,hm⟩
 |.bad,s,m,st,x,s',m',st',w,hm,h=>by simp[aRun]at h
 |.reg ops,s,m,st,x,s',m',st',w,hm,h=>by simp only[aRun,Xab]at h;obtain⟨⟨r1,st1⟩,h1,h⟩:=h;have k:=Xc3 hC w h1;cases r1<;>simp only[Option.some.injEq,Prod.mk.injEq]at h<;>obtain⟨_,_,rfl,rfl⟩:=h<;>exact⟨k,hm⟩
 |.dreg ops,s,m,st,x,s',m',st',w,hm,h=>by simp only[aRun,Xab]at h;obtain⟨⟨r1,st1⟩,h1,h⟩:=h;have k:=Xdb hC w h1;cases r1<;>simp only[Option.some.injEq,Prod.mk.injEq]at h<;>obtain⟨_,_,rfl,rfl⟩:=h<;>exact⟨k,hm⟩
 |.seq a b,s,m,st,x,s',m',st',w,hm,h=>by
  simp only[aRun,Xab]at h;obtain⟨⟨x1,s1,m1,st1⟩,h1,h⟩:=h;have k:=Xbl a w hm h1;cases x1 with
  |nrm=>
   have k2:=Xbl b (k.1.wf w) k.2 h;exact⟨k.1.trans k2.1,k2.2⟩
  |_=>simp only[Option.some.injEq,Prod.mk.injEq]at h;obtain⟨_,_,rfl,rfl⟩:=h;exact k
 |.cond c a b,s,m,st,x,s',m',st',w,hm,h=>by
  simp only[aRun]at h;split at h
  ·split at h
   ·exact Xbl a w hm h
   ·exact Xbl b w hm h
  ·cases h
 |.block i b,s,m,st,x,s',m',st',w,hm,h=>by
  simp only[aRun,Xab]at h;obtain⟨⟨x1,s1,m1,st1⟩,h1,h⟩:=h;have k:=Xbl b w hm h1;cases x1 with
  |exit j=>
   simp only at h;split at h<;>simp only[Option.some.injEq,Prod.mk.injEq]at h<;>obtain⟨_,_,rfl,rfl⟩:=h<;>exact k
  |_=>simp only[Option.some.injEq,Prod.mk.injEq]at h;obtain⟨_,_,rfl,rfl⟩:=h;exact k
 |.scope b,s,m,st,x,s',m',st',w,hm,h=>by simp only[aRun]at h;exact Xbl b w hm h
 |.loop b,s,m,st,x,s',m',st',w,hm,h=>by
  simp only[aRun]at h
  have key:∀(k:Nat) {s:List AV} {m:List Nat} {st:St},E.Wf st->(∀d∈m,E.rob<=d)->iter (aRun GT C E lf rd b) k s m st=some (x,s',m',st')->StepOK E st st'/\∀d∈m',E.rob<=d:=by
   intro k;induction k with
   |zero=>intro s m st w hm h;simp[iter]at h
   |succ k ih=>
    intro s m st w hm h;simp only[iter,Xab]at h;obtain⟨⟨x1,s1,m1,st1⟩,h1,h⟩:=h;have k1:=Xbl b w hm h1;cases x1 with
    |nrm=>
     have k2:=ih (k1.1.wf w) k1.2 h;exact⟨k1.1.trans k2.1,k2.2⟩
    |_=>simp only[Option.some.injEq,Prod.mk.injEq]at h;obtain⟨_,_,rfl,rfl⟩:=h;exact k1
  exact key lf w hm h
 |.rf f ps asg body,s,m,st,x,s',m',st',w,hm,h=>Xku hC w hm h
omit hC in
theorem Xid{E:Env}{l:Nat}{j:Option AJump}{st st':St}{r:Rt AV}(hl:E.rob<=l)(h:Xch l j st=some (r,st')):StepOK E st st':=by
 unfold Xch at h;split at h
 ·rename_i a b c d e f g i hb;simp only[Option.some.injEq,Prod.mk.injEq]at h;obtain⟨_,rfl⟩:=h;exact .setH hl hb fun _ r hr=>by simpa only[Xb5]using hr
 ·cases h
theorem Xld{E:Env}{lf l:Nat}{args:List AV}{st st':St}{r:Rt AV}(w:E.Wf st)(h:Xd6 GT C E lf l args st=some (r,st')):StepOK E st st':=by
 unfold Xd6 at h;split at h
 ·simp only[Xad,Bool.and_eq_true,decide_eq_true_eq,Xab]at h;obtain⟨⟨_,hl⟩,⟨x1,s1,m1,st1⟩,h1,h⟩:=h;have k1:=Xbl hC _ w (by simp) h1;split at h
  ·rename_i s2 st2 heq;simp only[Prod.mk.injEq]at heq;obtain⟨rfl,rfl,rfl,rfl⟩:=heq;split at h
   ·rename_i p f t ps zq bd d hb;simp only[Xab]at h;obtain⟨⟨x3,s3,m3,st3⟩,h3,h⟩:=h;have w1:=k1.1.wf w;have k2:StepOK E st1 _:=.setH hl hb (o':=ABlk.loop .busy p f t ps zq bd d) fun _ r hr=>by simpa only[Xb5]using hr
    have k3:=Xbl hC _ (k2.wf w1) (by simp) h3;have k:=k1.1.trans (k2.trans k3.1);cases x3 with
    |pan v=>cases h
    |_=>exact k.trans (Xid hl h)
   ·cases h
  ·cases h
 ·cases h
end
theorem Xgi{E:Env}:∀{m:List Nat} {st st':St},(∀d∈m,E.rob<=d)->Xbf st m=some st'->StepOK E st st'
 |[],st,st',_,h=>by simp only[Xbf,Option.some.injEq]at h;rw[h];exact .refl E _
 |d::ds,st,st',hm,h=>by
  simp only[Xbf]at h;split at h
  ·rename_i hd;have k1:StepOK E st _:=.setH (hm d (by simp)) hd (o':=.opq) fun _ r hr=>by simp[Xb5]at hr
   exact k1.trans (Xgi (fun x hx=>hm x (by simp[hx])) h)
  ·cases h
def Xlf(A:AProg):Prop:=∀f g C E args st r st',A.ovr f=some g->Xey C->g C E args st=some (r,st')->E.Wf st->StepOK E st st'
theorem Xiw{A:AProg}(hA:Xlf A):∀k,Xey (aCall A k)
 |0=>fun E cal args st r st' h w=>by simp[aCall]at h
 |k+1=>fun E cal args st r st' h w=>by
  have hC:=Xiw hA k;cases cal with
  |yld l=>exact Xld hC w h
  |fn f=>
   simp only[aCall]at h;split at h
   ·rename_i g hg;exact hA _ _ _ _ _ _ _ _ hg hC h w
   ·split at h
    ·cases h
    ·simp only[Xab]at h;obtain⟨⟨x1,s1,m1,st1⟩,h1,h⟩:=h;have k1:=Xbl hC _ w (by simp) h1;have fin:∀{st2:St},Xbf st1 m1=some st2->StepOK E st st2:=fun h2=>k1.1.trans (Xgi k1.2 h2);cases x1 with
     |exit i=>cases h
     |pan v=>
      simp only[Xab,Option.some.injEq,Prod.mk.injEq]at h;obtain⟨st2,h2,_,rfl⟩:=h;exact fin h2
     |_=>
      simp only[Xab,Xe3,Option.some.injEq,Prod.mk.injEq]at h;obtain⟨st2,h2,vs,_,_,rfl⟩:=h;exact fin h2
def blanks:List AV:=(List.range 256).map fun i=>.int .u8 (if 9<=i/\i<=13\/i=32 then 1 else 0)
def tabs:Nat->Option (List AV)
 |1=>some blanks
 |_=>none
def Xna:CSem->Env->List AV->St->Option (Rt AV×St):=fun _ _ args st=>
  match args with
  |[.sl _ n cs]=>Xar (decide (1<=n) && decide (n<=1048576) && decide (cs.length=n*5) && cs.all AV.one)
      (okv (.hs st.H.length n) {st with H:=st.H++ [.cells 24 (AV.finL 0 cs)]})
  |_=>none
def ov43:CSem->Env->List AV->St->Option (Rt AV×St):=fun _ E args st=>
 match args with
 |[.nili,.iface 67 (.ptr b 0)]=>
  match st.H[b]? with
  |some (.cells _ [_,_])=>okv (.bool false) st
  |_=>none
 |[.iface 151 (.ptr j 0),.iface 67 (.ptr b 0)]=>
  match st.H[j]?,st.H[b]? with
  |some (.cells _ [.sl _ 1 [.iface 65 (.agg [.int j x,.int k y])]]),some (.cells t [_,_])=>
   Xar (decide (E.rob<=b)) (okv (.bool true) {st with H:=st.H.set b (.cells t [.int j x,.int k y])})
  |_,_=>none
 |_=>none
def a42x:List AOper:=[⟨(some 1),.box 24 (.t 0),none⟩,⟨(some 2),.alloc 27 [.nils],none⟩,⟨(some 3),.alloc 24 [(.int .i64 0),(.str ⟨#[]⟩),(.int .i64 0),.nils,(.int .i64 0)],none⟩,⟨(some 4),.alloc 61 [.nili],none⟩]
def a42y:List AOper:=[⟨(some 8),.build [.nils,(.int .i64 0)] [(1,1,(.c (.int .i64 4)))],none⟩,⟨(some 9),.box 100 (.t 8),none⟩,⟨(some 5),.mv (.t 9),none⟩]
def a42z:ACode:=(.seq (.dreg [(oV 11 5,0),(oO 12 (.build [(.int .i64 0),(.str ⟨#[]⟩),(.int .i64 0),.nils,(.int .i64 0)] [(0,1,(.c (.int .i64 (-1))))]),0),(oO 13 (.ld (some 5) (.t 1)),0),(oO 14 (.call .no 62 [(.t 12),(.c .nils),(.c (.str ⟨#[]⟩)),(.t 13)]),6),(oF 15 4 1,0),(oL 16 15,16),(oO 17 (.call .no 61 [(.t 11),(.t 14),(.t 16)]),63)])
 (.seq (.reg [oV 18 5,oO 19 (.ld (some 5) (.t 1)),oO 20 (.call .no 63 [(.t 18),(.t 19),(.c (.int .i64 0)),(.c (.bool false))]),oS (.st 5 (.t 3) (.t 20))])
 (.seq (.seq (.reg [oV 21 5,oN 22 21,oF 23 0 22,oL 24 23,oO 25 (.len false (.t 24)),oO 26 (.mv (.c (.int .i64 0)))])
 (.block 0 (.loop (.seq (.reg [oO 27 (.bin .num .lss (.t 26) (.t 25))])
 (.seq (.cond (.t 27) (.skip) (.exit 0))
 (.seq (.block 1 (.seq (.reg [oO 28 (.ia 1 (.t 24) (.t 26)),oL 29 28,oV 7 29])
 (.dreg [(oL 30 2,0),(oV 31 7,0),(oN 32 31,2),(oF 33 0 32,6),(oO 34 (.ld (some 5) (.t 33)),14),(oO 35 (.bsl true 5 1 [(.int .i64 0),(.str ⟨#[]⟩),(.int .i64 0),.nils,(.int .i64 0)] [(0,5,(.t 34))]),30),(oO 36 (.app 5 64 (.t 30) (.t 35)),63),(oS (.st 1 (.t 2) (.t 36)),127)])))
 (.reg [oO 37 (.bin .num .add (.t 26) (.c (.int .i64 1))),oV 26 37])))))))
 (.seq (.dreg [(oL 38 2,0),(oO 39 (.ld (some 5) (.t 3)),0),(oS (.st 1 (.t 2) (.t 38)),1),(oS (.st 5 (.t 3) (.t 39)),7),(oS (.st 1 (.t 4) (.c .nili)),15)])
 (.ret)))))
def a59x:List AOper:=[⟨(some 7),.ta 65 true (.agg [(.int .i64 0),(.int .i64 0)]) (.t 6),none⟩,⟨(some 5),.mv (.t 7),none⟩,⟨(some 8),.ext 0 (.t 5),none⟩,⟨(some 9),.ext 1 (.t 5),none⟩,⟨(some 3),.alloc 65 [(.int .i64 0),(.int .i64 0)],none⟩,⟨none,.st 2 (.t 3) (.t 8),none⟩,⟨(some 4),.mv (.t 9),none⟩]
def a59y:ACode:=(.seq (.reg [oV 10 4])
 (.cond (.t 10) (.reg [oO 11 (.build [(.int .i64 0),(.str ⟨#[]⟩),(.int .i64 0),.nils,(.int .i64 0)] []),oO 12 (.ld (some 2) (.t 3)),oO 13 (.mki 65 (.t 12)),oO 14 (.bsl true 1 1 [.nili] [(0,1,(.t 13))]),oO 15 (.call .no 60 [(.t 14)]),oS (.st 1 (.t 0) (.c .nils)),oS (.st 5 (.t 1) (.t 11)),oS (.st 1 (.t 2) (.t 15))]) (.skip)))
def Xd3(C:CSem)(E:Env)(caps:List AV)(rv:AV)(st:St):Option St:=
 Xa6 (aOps tabs C E a59x (put (caps++List.replicate 13 AV.undef) (some 6) rv) st) fun
  |(.ok s1,st1)=>Xa6 (aRun tabs C E 1 none a59y s1 [] st1) fun
   |(.nrm,_,[],st2)=>some st2
   |_=>none
  |_=>none
def Xjz:List ARes:=[.cell 2 none,.cell 3 (some 5),.cell 4 none]
def ov42:CSem->Env->List AV->St->Option (Rt AV×St):=fun C E args st=>
 Xa6 (aOps tabs C E a42x (args++List.replicate (40 - args.length) AV.undef) st) fun
 |(.ok s0,st0)=>Xa6 (aOps tabs C E a42y s0 st0) fun
  |(.ok s1,st1)=>
   let s2:=s1.set 10 (.fn 59 [] [lk s1 2,lk s1 3,lk s1 4])
   Xar (decide (10<s1.length))<|Xa6 (aRun tabs C E 1000 none a42z s2 [] st1) fun
   |(.ret,_,[],st3)=>Xa6 (Xd3 C E [lk s2 2,lk s2 3,lk s2 4] .nili st3) fun st4=>Xa6 (resAll s2 st4 Xjz) fun vs=>okv (oneOr vs) st4
   |(.pan v,_,[],st3)=>Xa6 (Xd3 C E [lk s2 2,lk s2 3,lk s2 4] v st3) fun st4=>Xa6 (resAll s2 st4 Xjz) fun vs=>okv (oneOr vs) st4
   |_=>none
  |_=>none
 |_=>none
def fnTab:List (Nat×AFn):=[(12,a12),(20,a20),(21,a21),(22,a22),(24,a24),(27,a27),(32,a32),(33,a33),(34,a34),(35,a35),(41,a41),(44,a44),(45,a45),(46,a46),(47,a47),(48,a48),(49,a49),(50,a50),(51,a51),(52,a52),(53,a53),(54,a54),(55,a55),(56,a56),(57,a57),(58,a58),(60,a60),(61,a61),(62,a62),(63,a63),(68,a68),(69,a69),(70,a70),(71,a71),(72,a72),(73,a73),(74,a74),(75,a75),(76,a76),(77,a77),(78,a78),(79,a79),(80,a80),(81,a81),(82,a82),(83,a83),(84,a84),(85,a85),(86,a86),(87,a87),(88,a88),(89,a89),(90,a90),(91,a91),(92,a92),(93,a93),(94,a94),(95,a95),(96,a96),(97,a97),(98,a98),(99,a99),(103,a103),(104,a104),(105,a105),(106,a106),(107,a107),(108,a108),(109,a109),(110,a110),(111,a111),(112,a112),(113,a113),(114,a114),(115,a115),(116,a116),(117,a117),(118,a118),(119,a119),(120,a120),(121,a121),(122,a122),(123,a123),(124,a124),(125,a125),(126,a126),(127,a127),(128,a128),(129,a129),(130,a130),(131,a131),(132,a132),(133,a133),(134,a134),(135,a135),(136,a136),(137,a137),(138,a138),(139,a139),(140,a140),(141,a141),(142,a142),(143,a143),(145,a145),(146,a146),(147,a147),(148,a148),(149,a149),(150,a150),(151,a151),(152,a152),(153,a153),(154,a154),(155,a155),(156,a156),(157,a157),(158,a158),(159,a159),(160,a160),(163,a163),(164,a164),(165,a165),(166,a166),(167,a167),(168,a168),(169,a169),(170,a170),(171,a171),(172,a172),(173,a173),(175,a175),(176,a176),(177,a177),(178,a178),(181,a181),(182,a182),(184,a184),(185,a185),(186,a186),(187,a187),(188,a188),(189,a189),(190,a190)]
def fnOf(f:Nat):Option AFn:=(fnTab.find? fun p=>p.1==f).map (·.2)
def ovOf:Nat->Option (CSem->Env->List AV->St->Option (Rt AV×St))
 |42=>some ov42
 |43=>some ov43
 |144=>some Xna
 |_=>none
def prog:AProg:={GT:=tabs,fn:=fnOf,ovr:=ovOf}
end Go.Proofs.YP
