/- Texts that the laws of the seat rest on: an abstract machine, what the functions answer in it, plain laws. -/
import Derived.Test.YtjehnhppfneidaaGreatDoorRqe
import Derived.Laws.Append
import Derived.RecoverIn
import Derived.WalkKit
import Derived.LaidEql
import Derived.Stop.Asserts
import Derived.RowKitTokens
import Derived.RowKit3
import Derived.CallsIn
set_option linter.unusedVariables false
set_option linter.unusedSimpArgs false
set_option linter.unusedSectionVars false
set_option linter.unnecessarySimpa false
namespace Go.Proofs.YP
open Go
section
variable{P:Program}{ops:Array Oper}{Q:Exit->Act->World->Prop}{o:Oper}{rest:List Oper}{a:Act}{w w':World}
theorem Xd9{x:Value}(hg:o.guard=none)(hd:∀c,o.op≠ .defer c)(hr:(execOp a.eval o).run P w=.ok (.value x) w')(h:wpListIn Fence.wide 0 P ops Q rest (a.put o.dst x) w'):wpListIn Fence.wide 0 P ops Q (o::rest) a w:=
 wpListIn_plain hg fun K hK=>⟨fun f _=>trivial,by rw[Oper.semAt_eq _ _ _ hd,hr];exact hK _ _ h⟩
end
theorem u22:Tryz.prog.underlying 22=some (.slice 24):=by kernel_rfl
theorem t24:∃i z,Tryz.prog.info? 24=some i/\i.size=5/\i.bytes=64/\i.zero=some z/\z.cells.size=5:=by
 have h:(match Tryz.prog.info? 24 with
  |some i=>decide (i.size=5) && decide (i.bytes=64) && (match i.zero with
   |some z=>decide (z.cells.size=5)
   |none=>false)
  |none=>false)=true:=by kernel_rfl
 cases hi:Tryz.prog.info? 24 with
 |none=>simp[hi]at h
 |some i=>
  cases hz:i.zero with
  |none=>simp[hi,hz]at h
  |some z=>
   simp only[hi,hz,Bool.and_eq_true,decide_eq_true_eq]at h;exact⟨i,z,rfl,h.1.1,h.1.2,hz,h.2⟩
theorem Xp8:Callee Tryz.prog 144:=⟨Tryz.f144,Tryz.func144,rfl,by
 have:(Tryz.f144.name != "runtime.NumGoroutine")=true:=by kernel_rfl
 simpa using this⟩
theorem cmp144(ad:Addr)(n c:Nat)(w:World):(Go.binOp .eql 22 (.slice (some ad) n c) (.slice none 0 0)).run Tryz.prog w=.ok (.bool false) w:=by kernel_rfl
theorem gua144(x y:Operand)(ad:Addr)(n c:Nat)(w:World):(eqGuard .eql 22 x y (.slice (some ad) n c) (.slice none 0 0)).run Tryz.prog w=.ok () w:=by kernel_rfl
theorem Xz8(w:World):(Instr.buildSlice 22 0 #[]).run Tryz.prog w=.ok (.slice (some ⟨w.heap.size,0,none⟩) 0 0) (w.alloc (.cells #[] 24)):=by kernel_rfl
theorem Xk8(g q n c:Nat)(w:World)(news:List Value)(hl:news.length=n*5)(hnews:∀j u,news[j]?=some u->w.cell? ((⟨g,q,none⟩:Addr).add j)=some u)(h0:0<n)(hn:n<=1048576){R:Ending->World->Prop}
    (h:∀zs cap,n<=cap->R (.returned (.slice (some ⟨w.heap.size+1,0,none⟩) n cap)) ((w.alloc (.cells #[] 24)).drew.alloc (.cells (news.toArray++zs) 24))):
    CallsIn Fence.wide 0 Tryz.prog 144 #[.slice (some ⟨g,q,none⟩) n c] w R:=by
  obtain⟨i,z,hi,hsz,hby,hz,hzc⟩:=t24;have hc':∀j u,news[j]?=some u->(w.alloc (.cells #[] 24)).cell? ((⟨g,q,none⟩:Addr).add j)=some u:=fun j u hj=>by have:=hnews j u hj;rw[World.cell?_alloc_lt _ _ _ (World.block_lt_of_cell? w _ this)];exact this
  have hr:∃zs cap,n<=cap/\(Builtin.append_ #[22,22] 22 #[.slice (some ⟨w.heap.size,0,none⟩) 0 0,.slice (some ⟨g,q,none⟩) n c]).run Tryz.prog (w.alloc (.cells #[] 24))=
      .ok (.slice (some ⟨w.heap.size+1,0,none⟩) n cap) ((w.alloc (.cells #[] 24)).drew.alloc (.cells (news.toArray++zs) 24)):=by
    have hr:=run_append_grow (P:=Tryz.prog) (w.alloc (.cells #[] 24)) 22 22 24 i z u22 hi hz ⟨w.heap.size,0,none⟩ 0 0 [] (by simp) (fun j v hj=>by simp at hj) ⟨g,q,none⟩ n c news (by rw[hsz];exact hl) hc' (by omega) (by omega) (growslice_fits (by omega) (by rw[hby];omega));rw[Nat.zero_add]at hr;refine⟨Builtin.zeroCells z.cells (grownCap (w.alloc (.cells #[] 24)) n 0 24 - n),grownCap (w.alloc (.cells #[] 24)) n 0 24,grownCap_ge _ _ _ _,?_⟩;rw[hr];simp
  obtain⟨zs,cap,hge,hr⟩:=hr;refine callsIn_of_wp Tryz.func144 (c:=_) rfl trivial ?_;simp only[Tryz.ntmps144,List.size_toArray,List.length_cons,List.length_nil,Nat.reduceAdd,Nat.reduceSub,Array.replicate_succ,Array.replicate_zero,List.push_toArray,List.append_toArray,List.nil_append,List.cons_append];apply wpIn_seq;apply wpIn_region_list;refine Xd9 (x:=.slice none 0 0) (w':=w) rfl (by intro c;simp) (by simp[execOp,Act.eval]) ?_;apply wpListIn_nil;apply wpIn_seq;apply wpIn_seq;apply wpIn_region_list;refine Xd9 (x:=.slice (some ⟨g,q,none⟩) n c) (w':=w) rfl (by intro c;simp) (by simp[execOp,Act.eval,Act.put]) ?_;refine Xd9 (x:=.bool false) (w':=w) rfl (by intro c;simp) (Xio _ _ _ _ _ _ _ _ _ _ _ (gua144 _ _ _ n c w) (cmp144 _ n c w)) ?_;apply wpListIn_nil;refine wpIn_cond_false (by simp[Act.eval,Act.put]) ?_;apply wpIn_skip;apply wpIn_seq;apply wpIn_region_list;refine Xd9 (x:=.slice (some ⟨w.heap.size,0,none⟩) 0 0) (w':=w.alloc (.cells #[] 24)) rfl (by intro c;simp) ?_ ?_
  ·have:=Xz8 w;simp only[execOp,Sem.run_bind,Array.map_empty];simp only[this,Result.andThen_ok,Sem.run_pure]
  refine Xd9 (x:=.slice (some ⟨g,q,none⟩) n c) (w':=w.alloc (.cells #[] 24)) rfl (by intro c;simp) (by simp[execOp,Act.eval,Act.put]) ?_;refine Xd9 (x:=.slice (some ⟨w.heap.size+1,0,none⟩) n cap) (w':=(w.alloc (.cells #[] 24)).drew.alloc (.cells (news.toArray++zs) 24)) rfl (by intro c;simp) ?_ ?_
  ·simp only[execOp,resolve,Sem.run_bind,Sem.run_pure,Result.andThen_ok,invoke,Go.builtin];simp[Act.put,Act.eval,hr]
  refine Xd9 (x:=.slice (some ⟨w.heap.size+1,0,none⟩) n cap) (w':=(w.alloc (.cells #[] 24)).drew.alloc (.cells (news.toArray++zs) 24)) rfl (by intro c;simp) (by simp[execOp,Act.eval,Act.put]) ?_;apply wpListIn_nil;refine wpIn_ret ⟨rfl,.slice (some ⟨w.heap.size+1,0,none⟩) n cap,?_,h zs cap hge⟩;simp only[results,show Tryz.f144.results= #[ResultVar.tmp 2]from rfl];simp[Act.put]
theorem Xkz{GT:Nat->Option (List AV)}{C:CSem}{E:Env}{args:List AV}{st st':St}{r:Rt AV}(h:Xna C E args st=some (r,st')){w0 w:World}{G:Gh}{xs:Array Value}(hI:Inv Tryz.prog GT w0 G st w)(hx:RVs G args xs.toList):
  CallIs Tryz.prog G w (.fn 144) xs (Xca Tryz.prog GT w0 G r st'):=by
 unfold Xna at h;split at h
 ·rename_i own n cs;simp only[Xad,Bool.and_eq_true,decide_eq_true_eq,Xas,Option.some.injEq,Prod.mk.injEq]at h;obtain⟨⟨⟨⟨h0,hn⟩,hl⟩,hone⟩,rfl,rfl⟩:=h;simp only[RVs]at hx;obtain⟨x,xs',hxs,hx,rfl⟩:=hx;have hxs:xs= #[x]:=by rw[<-Array.toArray_toList (xs:=xs),hxs]
  subst hxs;obtain⟨A,cap,rfl,h1,h2,h3⟩:=hx.slice;rcases h3 with⟨h3,_⟩|⟨g,q,rfl,hr⟩
  ·omega
  obtain⟨news,hns,hpr⟩:=hr.list;refine⟨Xp8,Xk8 g q n cap w news (by rw[hns.length,hl]) (fun j u hj=>by rw[Addr.add_lit];exact hI.pr _ _ _ (hpr j u hj)) (by omega) hn fun zs cp hcp=>?_⟩;have hI1:=(hI.row #[] 24 0).drew;have hle1:=hI.le_row #[] 0;have hs1:(w.alloc (.cells #[] 24)).drew.heap.size=w.heap.size+1:=by show(w.alloc (.cells #[] 24)).heap.size=_;simp
  have hle2:=hI1.le_blk (w.heap.size+1)
  have hI2:=hI1.alloc (o:=.cells 24 (AV.finL 0 cs)) (x:=.cells (news.toArray++zs) 24) (by
   simp only[RB];refine⟨_,news,zs.toList,rfl,by simp,?_⟩;rw[hs1];exact RVs.fin 0 _ _ (hns.mono (hle1.trans hle2)))
  rw[hs1]at hI2;refine⟨_,_,rfl,hle1.trans hle2,hI2,?_⟩;simp only[RV];exact⟨w.heap.size+1,cp,by simp[Gh.withBlk],rfl,hcp,by omega⟩
 ·cases h
section
variable{P:Program}{GT:Nat->Option (List AV)}{C:CSem}(hC:Xd7 P GT C)(hS:Xey C)
theorem Xk9{o:Op}{ao:AOp}(h:ckOp P GT o ao=true)(hn:∀c,o≠ .call c):∀{E:Env} {s:List AV} {st:St},aExec GT C E ao s st=aOp E st (evA GT s) ao\/False:=by
 intro E s st;cases ao with
 |call tr f args=>
  cases o with
  |call c=>exact(hn c rfl).elim
  |_=>simp[ckOp]at h
 |callv tr f args=>
  cases o with
  |call c=>exact(hn c rfl).elim
  |_=>simp[ckOp]at h
 |_=>exact .inl rfl
theorem Xf8{E:Env}{w0:World}{ops:Array Oper}{Q:Exit->Act->List Frame->World->Prop}{cs:List Frame}:∀{os:List Oper} {al:List AOper} (k:Nat) {s s':List AV} {st st':St} {a:Act} {w:World} {G:Gh},
  (∀j,os[j]?=ops[k+j]?)->Xb7 P GT ops os al=true->(∀o∈os,∀c,o.op≠ .call c)->aOps GT C E al s st=some (.ok s',st')->Inv P GT w0 G st w->HGT GT G->RVs G s a.tmps.toList->
  (∀a' w' G',G.Le G'->Inv P GT w0 G' st' w'->RVs G' s' a'.tmps.toList->a'.defers=a.defers->Q .normal a' cs w')->wpOpsSIn Fence.wide 0 P ops Q (List.range' k os.length) a cs w
 |[],al,k,s,s',st,st',a,w,G,hk,hck,hn,h,hI,hG,hs,hq=>by
  cases al with
  |cons _ _=>simp[Xb7]at hck
  |nil=>
   simp only[aOps,Option.some.injEq,Prod.mk.injEq,Rt.ok.injEq]at h;obtain⟨rfl,rfl⟩:=h;exact hq a w G (.refl G) hI hs rfl
 |o::os,al,k,s,s',st,st',a,w,G,hk,hck,hn,h,hI,hG,hs,hq=>by
  cases al with
  |nil=>simp[Xb7]at hck
  |cons ao al=>
   simp only[Xb7,Bool.and_eq_true]at hck;have hwant:=Xig hck.1 hs;have hck1:=hck.1;simp only[Xb1,Bool.and_eq_true,decide_eq_true_eq]at hck1
   have hput:∀{G':Gh} {v:AV} {x:Value},G.Le G'->RV G' v x->RVs G' (put s ao.dst v) (a.put o.dst x).tmps.toList:=fun hle hr=>by
    rw[hck1.1.1];cases ao.dst with
    |none=>exact hs.mono hle
    |some d=>simp only[put,Act.put,Array.toList_setIfInBounds];exact(hs.mono hle).set d hr
   have hdef:∀x,(a.put o.dst x).defers=a.defers:=fun x=>by cases o.dst<;>rfl
   have hk0:ops[k]?=some o:=by simpa using(hk 0).symm
   have hk':∀j,os[j]?=ops[k+1+j]?:=fun j=>by have:=hk (j+1);simpa [Nat.add_assoc,Nat.add_comm 1 j]using this
   simp only[aOps,Xab]at h;obtain⟨⟨r1,st1⟩,h1,h⟩:=h;unfold Xie at h1;rw[List.length_cons,List.range'_succ];unfold wpOpsSIn;simp only[hk0,hwant];refine⟨fun f _=>trivial,?_⟩;by_cases hwt:Xbz ao s=true
   ·simp only[hwt,if_true,Xab]at h1⊢;obtain⟨⟨r2,st2⟩,h2,h1⟩:=h1;have h3:=(Xk9 (C:=C) hck1.1.2 (hn o (by simp)) (E:=E) (s:=s) (st:=st)).resolve_right id;rw[h3]at h2;have key:=Xls (Xeg hG hs) hI (o:=o) hck1.1.2 h2;cases r2 with
    |pan v=>
     simp only[Option.some.injEq,Prod.mk.injEq]at h1;obtain⟨rfl,rfl⟩:=h1;simp at h
    |ok v=>
     simp only[Option.some.injEq,Prod.mk.injEq]at h1;obtain⟨rfl,rfl⟩:=h1;obtain⟨x,w',G',hrun,hle,hI',hr⟩:=key;have next:=Xf8 (k+1) hk' hck.2 (fun o ho=>hn o (by simp[ho])) h hI' (hG.mono hle) (hput hle hr) (fun a' w'' G'' e1 e2 e3 e4=>hq a' w'' G'' (hle.trans e1) e2 e3 (e4.trans (hdef x)))
     rcases hrun with hrun|⟨hrun,rfl⟩
     ·rw[hrun];exact next
     ·rw[hrun];exact next
   ·simp only[Bool.not_eq_true]at hwt;simp only[hwt,Bool.false_eq_true,if_false,Option.some.injEq,Prod.mk.injEq]at h1⊢;obtain⟨rfl,rfl⟩:=h1;exact Xf8 (k+1) hk' hck.2 (fun o ho=>hn o (by simp[ho])) h hI hG (hput (.refl G) (by simp[AV.undef,RV,RVs,undef])) (fun a' w'' G'' e1 e2 e3 e4=>hq a' w'' G'' e1 e2 e3 (e4.trans (hdef _)))
theorem Xh9{ops:Array Oper}{Q:Exit->Act->List Frame->World->Prop}{i:Nat}{rest:List Nat}{o:Oper}{a:Act}{cs:List Frame}{w:World}(ho:ops[i]?=some o)(hg:o.guard=none)(hr:(execOp a.eval o).run P w=.ok .recover w)
  (h:match recoverD cs with
   |some (v,cs')=>wpOpsSIn Fence.wide 0 P ops Q rest (a.put o.dst v) cs' w
   |none=>wpOpsSIn Fence.wide 0 P ops Q rest (a.put o.dst .nilIface) cs w):wpOpsSIn Fence.wide 0 P ops Q (i::rest) a cs w:=by
 unfold wpOpsSIn;simp only[ho];refine⟨fun f _=>trivial,?_⟩;rw[if_pos (by simp[Region.wanted,hg]),hr];exact h
end
theorem Jab:∃(ops:Array Oper) (rest:Code) (o0:Oper),Tryz.f59.body=some (.seq (.region 0 ops false) rest)/\ops.size=8/\ops[0]?=some o0/\o0.guard=none/\o0.dst=some 6/\
  (∃tys,o0.op=.call {callee:=.builtin .recover,args:= #[],argTypes:=tys})/\Xb7 Tryz.prog tabs ops (ops.toList.drop 1) a59x=true/\(∀o∈ops.toList.drop 1,∀c,o.op≠ .call c)/\Xbk Tryz.prog tabs rest a59y=true:=
 ⟨_,_,_,rfl,rfl,rfl,rfl,rfl,⟨_,rfl⟩,by kernel_rfl,by simp,by kernel_rfl⟩
theorem Jc4(tmps:Array Value)(w:World):(results Tryz.f59 tmps).run Tryz.prog w=.ok (.tuple #[]) w:=by simp only[results,show Tryz.f59.results= #[]from rfl];simp
section
variable{C:CSem}(hC:Xd7 Tryz.prog tabs C)(hS:Xey C)
include hC hS
theorem Xk5{E:Env}{caps:List AV}{rv:AV}{st st4:St}(h:Xd3 C E caps rv st=some st4)(hw:E.Wf st){w0 w:World}{G:Gh}(hI:Inv Tryz.prog tabs w0 G st w)(hG:HGT tabs G){xs:Array Value}(hx:RVs G caps xs.toList)(h3:caps.length=3)
    {x:Value} (hrv:RV G rv x) {u u':FrameMode} (hu:∀(c₀:Frame) (cs:List Frame),c₀.mode=u->(recoverD (c₀::cs)=some (x,{c₀ with mode:=u'}::cs))\/(recoverD (c₀::cs)=none/\x=.nilIface/\u'=u))
    {R:Ending->FrameMode->World->Prop} (hR:∀v w' G',G.Le G'->Inv Tryz.prog tabs w0 G' st4 w'->R (.returned v) u' w'):CallsDIn Fence.wide 0 Tryz.prog 59 xs u w R:=by
  unfold Xd3 at h;simp only[Xab]at h;obtain⟨⟨r1,st1⟩,h1,h⟩:=h;cases r1 with
  |pan v=>simp at h
  |ok s1=>
  simp only[Xab]at h;obtain⟨⟨x2,s2,m2,st2⟩,h2,h⟩:=h;have hxl:xs.size=3:=by have:=hx.length;simp at this;omega
  obtain⟨ops,rest,o0,hb,hsz,ho0,hg0,hd0,⟨tys,hop0⟩,hck,hnc,hck2⟩:=Jab;refine callsDIn_of_wpSIn Tryz.func59 hb trivial fun c₀ cs hmode=>?_;apply wpSIn_seq;apply wpSIn_region;rw[hsz];show wpOpsSIn _ _ _ _ _ (0::List.range' 1 7) _ _ _;have htm:RVs G (caps++List.replicate 13 AV.undef) (xs++Array.replicate (Tryz.f59.ntmps - xs.size) undef).toList:=by rw[Array.toList_append,Array.toList_replicate,Tryz.ntmps59,hxl];exact hx.append (RVs.replicate 13 (by simp[AV.undef,RV,RVs,undef]))
  have next:∀(cs':List Frame),cs'={c₀ with mode:=u'}::cs->wpOpsSIn Fence.wide 0 Tryz.prog ops (Exit.thenS (rest.wpSIn Fence.wide 0 Tryz.prog (bodyPostS Tryz.prog Tryz.f59 c₀ cs R)) (bodyPostS Tryz.prog Tryz.f59 c₀ cs R)) (List.range' 1 7)
      (({tmps:=xs++Array.replicate (Tryz.f59.ntmps - xs.size) undef,defers:=[]}:Act).put o0.dst x) cs' w:=fun cs' hcs=>by
    subst hcs;have hl7:(ops.toList.drop 1).length=7:=by simp;omega
    rw[<-hl7];refine Xf8 (C:=C) 1 (fun j=>by simp[Nat.add_comm]) hck hnc h1 hI hG (by rw[hd0];simp only[put,Act.put,Array.toList_setIfInBounds];exact htm.set 6 hrv) fun a' w' G' hle hI' hs' hd'=>?_;have hw1:=(Xc3 hS hw h1).wf hw;refine wpSIn_of_wpIn rfl (Go.wpIn_mono (Xcb hC hS mixed a59y hck2 (rd:=none) (db:=[]) rfl hw1 (by simp) h2 hI' (hG.mono hle) hs' (by rw[hd',hd0];rfl)) fun e a2 w2 post=>?_);obtain⟨G2,hle2,hI2,hm2,_,hs2⟩:=post;split at h
    ·rename_i s3 st3 heq;simp only[Prod.mk.injEq]at heq;obtain⟨rfl,rfl,rfl,rfl⟩:=heq;simp only[Option.some.injEq]at h;subst h;cases e<;>simp only at hs2;exact⟨hm2,u',rfl,_,Jc4 _ _,hR _ _ _ (hle.trans hle2) hI2⟩
    ·cases h
  refine Xh9 ho0 hg0 (by simp[execOp,hop0,resolve,invoke,Go.builtin]) ?_;rcases hu c₀ cs hmode with h'|⟨h',rfl,rfl⟩
  ·rw[h'];exact next _ rfl
  ·rw[h'];refine next _ ?_
   rw[<-hmode]
end
theorem Jac:∃(R0 R1 R2:Array Oper) (i0 i1 i2:Nat) (rest:Code) (o1 o2:Oper),Tryz.f42.body=some (.seq (.region i0 R0 false) (.seq (.region i1 R1 false) (.seq (.region i2 R2 false) rest)))/\
  Xb7 Tryz.prog tabs R0 R0.toList a42x=true/\Xb7 Tryz.prog tabs R1 R1.toList a42y=true/\R2.toList=[o1,o2]/\o1.guard=none/\o1.dst=some 10/\o1.op=.makeFunc (.func 59) #[] #[.tmp 2,.tmp 3,.tmp 4]/\
  o2.guard=none/\o2.dst=none/\(∃tys,o2.op=.defer {callee:=.value (.tmp 10),args:= #[],argTypes:=tys})/\Xbk Tryz.prog tabs rest a42z=true/\Xfx Tryz.prog Tryz.f42.results.toList Xjz=true:=
 ⟨_,_,_,_,_,_,_,_,_,rfl,by kernel_rfl,by kernel_rfl,rfl,rfl,rfl,rfl,rfl,rfl,⟨_,rfl⟩,by kernel_rfl,by kernel_rfl⟩
theorem Xn0{P:Program}{ops:Array Oper}{Q:Exit->Act->World->Prop}{o:Oper}{rest:List Oper}{a:Act}{w:World}{d:Deferred}(hg:o.guard=none)(hr:(execOp a.eval o).run P w=.ok (.defer d) w)
  (h:wpListIn Fence.wide 0 P ops Q rest ({a with defers:=d::a.defers}.put o.dst undef) w):wpListIn Fence.wide 0 P ops Q (o::rest) a w:=
 wpListIn_plain hg fun K hK=>⟨fun f _=>trivial,by show o.uponIn Fence.wide 0 P a K Q ((Oper.semAt none a.eval o).run P w);rw[Oper.semAt_none,hr];exact hK _ _ h⟩
theorem callee59:Callee Tryz.prog 59:=⟨Tryz.f59,Tryz.func59,rfl,by
 have:(Tryz.f59.name != "runtime.NumGoroutine")=true:=by kernel_rfl
 simpa using this⟩
theorem Xr1:Callee Tryz.prog 42:=⟨Tryz.f42,Tryz.func42,rfl,by
 have:(Tryz.f42.name != "runtime.NumGoroutine")=true:=by kernel_rfl
 simpa using this⟩
theorem wr42:∀r∈Xjz,r.slot∉a42z.wr:=by decide
section
variable{C:CSem}(hC:Xd7 Tryz.prog tabs C)(hS:Xey C)
include hC hS
theorem Xm9{E:Env}{args:List AV}{st st':St}{r:Rt AV}(h:ov42 C E args st=some (r,st'))(hw:E.Wf st){w0 w:World}{G:Gh}{xs:Array Value}(hI:Inv Tryz.prog tabs w0 G st w)(hG:HGT tabs G)(hx:RVs G args xs.toList):
    CallIs Tryz.prog G w (.fn 42) xs (Xca Tryz.prog tabs w0 G r st'):=by
  unfold ov42 at h;simp only[Xab]at h;obtain⟨⟨r0,st0⟩,h0,h⟩:=h;cases r0 with
  |pan v=>simp at h
  |ok s0=>
  simp only[Xab]at h;obtain⟨⟨r1,st1⟩,h1,h⟩:=h;cases r1 with
  |pan v=>simp at h
  |ok s1=>
  simp only[Xad,decide_eq_true_eq,Xab]at h;obtain⟨h10,⟨x3,s3,m3,st3⟩,h2,h⟩:=h;have hw0:=(Xc3 hS hw h0).wf hw;have hw1:=(Xc3 hS hw0 h1).wf hw0;have hw3:=(Xbl hS a42z hw1 (by simp) h2).1.wf hw1;have hxl:xs.size=args.length:=by have:=hx.length;simpa using this
  obtain⟨R0,R1,R2,i0,i1,i2,rest,o1,o2,hb,hc0,hc1,hR2,hg1,hd1,hop1,hg2,hd2,⟨tys,hop2⟩,hcz,hres⟩:=Jac;refine⟨Xr1,callsIn_of_wp_marks Tryz.func42 hb trivial ?_⟩;have htm:RVs G (args++List.replicate (40 - args.length) AV.undef) (xs++Array.replicate (Tryz.f42.ntmps - xs.size) undef).toList:=by rw[Array.toList_append,Array.toList_replicate,Tryz.ntmps42,hxl];exact hx.append (RVs.replicate _ (by simp[AV.undef,RV,RVs,undef]))
  apply wpIn_seq;refine wpIn_region_list (Xed hC hS hc0 (rd:=none) rfl hw h0 hI hG htm (fun s' a1 w1 G1 e1 hle1 hI1 hs1 hsb1=>?_) (fun v x a1 w1 G1 e1=>by cases e1));cases e1;apply wpIn_seq;refine wpIn_region_list (Xed hC hS hc1 (rd:=none) rfl hw0 h1 hI1 (hG.mono hle1) hs1 (fun s' a2 w2 G2 e1 hle2 hI2 hs2 hsb2=>?_) (fun v x a1 w1 G1 e1=>by cases e1));cases e1;apply wpIn_seq;apply wpIn_region_list;rw[hR2];have hlk:∀t,RV G2 (lk s1 t) (a2.eval (.tmp t)):=fun t=>Xi7 hs2 t;refine Xd9 (x:=.func (.func 59) #[] #[a2.eval (.tmp 2),a2.eval (.tmp 3),a2.eval (.tmp 4)]) (w':=w2) hg1 (by rw[hop1];intro c;simp) (by simp[execOp,hop1,Instr.makeFunc]) ?_;generalize hd:({target:=.fn (.func 59) #[a2.eval (.tmp 2),a2.eval (.tmp 3),a2.eval (.tmp 4)],args:= #[]}:Deferred)=d;have hdef2:a2.defers=[]:=by rw[hsb2.1,hsb1.1]
  have hRf:RV G2 (.fn 59 [] [lk s1 2,lk s1 3,lk s1 4]) (.func (.func 59) #[] #[a2.eval (.tmp 2),a2.eval (.tmp 3),a2.eval (.tmp 4)]):=by simp only[RV];refine⟨_,_,rfl,by simp[RVs],?_⟩;simp only[RVs];exact⟨_,_,rfl,hlk 2,_,_,rfl,hlk 3,_,_,rfl,hlk 4,rfl⟩
  have hs2':RVs G2 (s1.set 10 (.fn 59 [] [lk s1 2,lk s1 3,lk s1 4])) (a2.put o1.dst (.func (.func 59) #[] #[a2.eval (.tmp 2),a2.eval (.tmp 3),a2.eval (.tmp 4)])).tmps.toList:=by rw[hd1];simp only[Act.put,Array.toList_setIfInBounds];exact hs2.set 10 hRf
  generalize hs2e:s1.set 10 (.fn 59 [] [lk s1 2,lk s1 3,lk s1 4])=sb at h2 h hs2';have hsz:10<a2.tmps.size:=by have:=hs2.length;simp at this;omega
  have hev:(a2.put o1.dst (.func (.func 59) #[] #[a2.eval (.tmp 2),a2.eval (.tmp 3),a2.eval (.tmp 4)])).eval (.tmp 10)=.func (.func 59) #[] #[a2.eval (.tmp 2),a2.eval (.tmp 3),a2.eval (.tmp 4)]:=by rw[hd1];simp[Act.put,Act.eval,hsz]
  refine Xn0 hg2 (d:=d) ?_ ?_
  ·simp only[execOp,hop2,resolve,hev,Deferred.ofValue];simp[<-hd]
  apply wpListIn_nil;rw[hd2]
  have hdb:(({tmps:=(a2.put o1.dst (.func (.func 59) #[] #[a2.eval (.tmp 2),a2.eval (.tmp 3),a2.eval (.tmp 4)])).tmps,defers:=[d]}:Act))=
      Act.put {tmps:=(a2.put o1.dst (.func (.func 59) #[] #[a2.eval (.tmp 2),a2.eval (.tmp 3),a2.eval (.tmp 4)])).tmps,defers:=d::(a2.put o1.dst (.func (.func 59) #[] #[a2.eval (.tmp 2),a2.eval (.tmp 3),a2.eval (.tmp 4)])).defers} none undef:=by
    rw[hd1];simp[Act.put,hdef2]
  show Code.wpIn Fence.wide 0 Tryz.prog rest _ _ _;rw[<-hdb];generalize hb3:(a2.put o1.dst (.func (.func 59) #[] #[a2.eval (.tmp 2),a2.eval (.tmp 3),a2.eval (.tmp 4)])).tmps=tb at hs2';refine Go.wpIn_mono (Xcb hC hS mixed a42z hcz (rd:=none) (db:=[d]) rfl hw1 (by simp) h2 hI2 (hG.mono (hle1.trans hle2)) (a:={tmps:=tb,defers:=[d]}) hs2' rfl) fun e a3 w3 post=>?_;obtain⟨G3,hle3,hI3,hm3,hk3,hs3⟩:=post;have hle:=hle1.trans (hle2.trans hle3);have hslot:∀t,t∉a42z.wr->RV G3 (lk sb t) (a3.tmps.getD t undef):=fun t ht=>by have h1:=(Xi7 hs2' t).mono hle3;have h2:=hk3 t ht;rw[Array.getD_eq_getD_getElem?,h2,<-Array.getD_eq_getD_getElem?];exact h1
  have hcaps:RVs G3 [lk sb 2,lk sb 3,lk sb 4] (#[a2.eval (.tmp 2),a2.eval (.tmp 3),a2.eval (.tmp 4)]:Array Value).toList:=by
    have e1:∀t,t≠10->lk sb t=lk s1 t:=fun t ht=>by rw[<-hs2e];simp only[lk];rw[List.getElem?_set_ne (Ne.symm ht)]
    rw[e1 2 (by decide),e1 3 (by decide),e1 4 (by decide)];simp only[RVs];exact⟨_,_,rfl,(hlk 2).mono hle3,_,_,rfl,(hlk 3).mono hle3,_,_,rfl,(hlk 4).mono hle3,rfl⟩
  have fin:∀{rv:AV} {y:Value} {u u':FrameMode} {st4:St},RV G3 rv y->Xd3 C E [lk sb 2,lk sb 3,lk sb 4] rv st3=some st4->(Xa6 (resAll sb st4 Xjz) fun vs=>okv (oneOr vs) st4)=some (r,st')->m3=[]->u≠ .run->settle u'=.returning->
      (∀(c₀:Frame) (cs:List Frame),c₀.mode=u->(recoverD (c₀::cs)=some (y,{c₀ with mode:=u'}::cs))\/(recoverD (c₀::cs)=none/\y=.nilIface/\u'=u))->
      LeavesInM Fence.wide 0 Tryz.prog Tryz.f42 a3.tmps (Xca Tryz.prog tabs w0 G r st') a3.defers u w3:=by
    intro rv y u u' st4 hrv hdf hrs hm0 hun hset hrec;subst hm0;simp only[RMk]at hm3;rw[hm3];simp only[Xab,Xas,Option.some.injEq,Prod.mk.injEq]at hrs;obtain⟨vs,hvs,rfl,rfl⟩:=hrs;refine⟨hun,.inr ⟨fun h=>(by cases h),Go.Fn.func 59, #[a2.eval (.tmp 2),a2.eval (.tmp 3),a2.eval (.tmp 4)],59, #[a2.eval (.tmp 2),a2.eval (.tmp 3),a2.eval (.tmp 4)],by rw[<-hd],?_,fun g _=>trivial,?_⟩⟩
    ·rw[<-hd];simp only[invoke,List.nil_append];have:=callee59.run (w:=w3) (#[]++ #[a2.eval (.tmp 2),a2.eval (.tmp 3),a2.eval (.tmp 4)]);simpa using this
    ·refine Xk5 hC hS hdf hw3 hI3 (hG.mono hle) hcaps rfl hrv hrec fun v w' G4 hle4 hI4=>?_;show LeavesInM Fence.wide 0 Tryz.prog Tryz.f42 a3.tmps (Xca Tryz.prog tabs w0 G (Rt.ok (oneOr vs)) st4) [] (settle u') w';rw[hset];obtain⟨y2,hy2,hr2⟩:=Xe1 hI4 (fun r hr=>(hslot r.slot (wr42 r hr)).mono hle4) hres hvs;exact⟨y2,hy2,_,G4,rfl,hle.trans hle4,hI4,hr2⟩
  cases x3 with
  |nrm=>cases h
  |exit i=>cases h
  |ret=>
    cases m3 with
    |cons d m=>cases h
    |nil=>
      cases e<;>simp only at hs3;simp only[Xab]at h;obtain⟨st4,hdf,hrs⟩:=h;refine fin (u:=.returning) (u':=.returning) (by simp only[RV]) hdf (by simpa only[Xab]using hrs) rfl (by simp) rfl fun c₀ cs hm=>.inr ⟨?_,rfl,rfl⟩;simp[recoverD,hm]
  |pan v=>
    cases m3 with
    |cons d m=>cases h
    |nil=>
      cases e<;>simp only at hs3;obtain⟨y,hy,rfl⟩:=hs3;simp only[Xab]at h;obtain⟨st4,hdf,hrs⟩:=h;refine fin (u:=.panicking [{v:=y,recovered:=false}]) (u':=.panicking [{v:=y,recovered:=true}]) hy hdf (by simpa only[Xab]using hrs) rfl (by simp) rfl fun c₀ cs hm=>.inl ?_;simp[recoverD,hm]
end
end Go.Proofs.YP
namespace Go.Proofs.YP
open Go Go.RowKit Go.Extern.Stop Go.Stop Go.Extern
theorem Xki(t:Addr)(w:World):(ReflectliteValue.unpack (.iface 67 (.pointer (some t)))).run Tryz.prog w
  =.ok (.agg #[.pointer (some ⟨6,67,none⟩),.pointer (some ⟨w.heap.size,0,none⟩),.int .u64 150]) (w.alloc (.cells #[.pointer (some t)] 67)):=by kernel_rfl
theorem Xqp(a:Addr)(w:World):(ReflectliteValue.methodAny (ReflectliteValue.valueError "reflectlite.Value.Type" 0) (fun t _ _ _=>ReflectliteType.toType t) #[.agg #[.pointer (some ⟨6,67,none⟩),.pointer (some a),.int .u64 150]]).run Tryz.prog w
  =.ok (.iface 161 (.agg #[.pointer (some ⟨6,67,none⟩)])) w:=by kernel_rfl
theorem Xqr(w:World):((ReflectliteType.abiMethod fun t=>(fun a:Nat=>Value.int IntKind.u8 (a:Int))<$>Rtype.kind t) #[.pointer (some ⟨6,67,none⟩)]).run Tryz.prog w=.ok (.int .u8 22) w:=by kernel_rfl
theorem Xqs(w:World):((ReflectliteType.abiMethod fun t=>(fun a:Nat=>Value.int IntKind.u8 (a:Int))<$>Rtype.kind t) #[.pointer (some ⟨6,65,none⟩)]).run Tryz.prog w=.ok (.int .u8 25) w:=by kernel_rfl
theorem Xqt(w:World):(ReflectliteType.method ReflectliteType.elem #[.agg #[.pointer (some ⟨6,67,none⟩)]]).run Tryz.prog w=.ok (.iface 161 (.agg #[.pointer (some ⟨6,65,none⟩)])) w:=by kernel_rfl
theorem Xh7(w:World):(ReflectliteType.relation "Implements" ReflectliteType.implements_ #[.agg #[.pointer (some ⟨6,65,none⟩)],.iface 161 (.agg #[.pointer (some ⟨6,61,none⟩)])]).run Tryz.prog w=.ok (.bool true) w:=by kernel_rfl
theorem Xkk(v:Value)(w:World):(ReflectliteType.typeOf #[.iface 151 v]).run Tryz.prog w=.ok (.iface 161 (.agg #[.pointer (some ⟨6,151,none⟩)])) w:=by kernel_rfl
theorem Xmq(v:Value)(w:World):(ReflectliteType.typeOf #[.iface 65 v]).run Tryz.prog w=.ok (.iface 161 (.agg #[.pointer (some ⟨6,65,none⟩)])) w:=by kernel_rfl
theorem Xg0(w:World):(ReflectliteType.relation "AssignableTo" ReflectliteType.assignableTo #[.agg #[.pointer (some ⟨6,151,none⟩)],.iface 161 (.agg #[.pointer (some ⟨6,65,none⟩)])]).run Tryz.prog w=.ok (.bool false) w:=by kernel_rfl
theorem Xh8(w:World):(ReflectliteType.relation "AssignableTo" ReflectliteType.assignableTo #[.agg #[.pointer (some ⟨6,65,none⟩)],.iface 161 (.agg #[.pointer (some ⟨6,65,none⟩)])]).run Tryz.prog w=.ok (.bool true) w:=by kernel_rfl
theorem Xkj(x y:Value)(w:World):(ReflectliteValue.unpack (.iface 65 (.agg #[x,y]))).run Tryz.prog w
  =.ok (.agg #[.pointer (some ⟨6,65,none⟩),.pointer (some ⟨w.heap.size,0,none⟩),.int .u64 153]) (w.alloc (.cells #[x,y] 65)):=by kernel_rfl
theorem Xms(w:World):(Rtype.elem? 67).run Tryz.prog w=.ok (some 65) w:=by kernel_rfl
theorem Xwe(p:Addr)(w:World):(ReflectliteValue.mk 65 p ReflectliteValue.flagAddr).run Tryz.prog w=.ok (.agg #[.pointer (some ⟨6,65,none⟩),.pointer (some p),.int .u64 409]) w:=by kernel_rfl
theorem Xjl(a:Addr)(w:World):(ReflectliteValue.parts (.agg #[.pointer (some ⟨6,67,none⟩),.pointer (some a),.int .u64 150])).run Tryz.prog w=.ok (some (67,a,150)) w:=by kernel_rfl
theorem Xmr(a:Addr)(w:World):(ReflectliteValue.parts (.agg #[.pointer (some ⟨6,65,none⟩),.pointer (some a),.int .u64 409])).run Tryz.prog w=.ok (some (65,a,409)) w:=by kernel_rfl
theorem Xnx(a:Addr)(w:World):(ReflectliteValue.parts (.agg #[.pointer (some ⟨6,65,none⟩),.pointer (some a),.int .u64 153])).run Tryz.prog w=.ok (some (65,a,153)) w:=by kernel_rfl
theorem Xmt(w:World):(Rtype.directlyAssignable 65 65).run Tryz.prog w=.ok true w:=by kernel_rfl
theorem Xqq(w:World):(sizeOf 65).run Tryz.prog w=.ok 2 w:=by kernel_rfl
theorem Xjm(h:Value)(w:World):(Go.method 368 161 (.agg #[h]) "Kind").run Tryz.prog w=.ok (205,h) w:=by kernel_rfl
theorem Xjn(h:Value)(w:World):(Go.method 368 161 (.agg #[h]) "Elem").run Tryz.prog w=.ok (217,.agg #[h]) w:=by kernel_rfl
theorem Xfj(h:Value)(w:World):(Go.method 368 161 (.agg #[h]) "Implements").run Tryz.prog w=.ok (218,.agg #[h]) w:=by kernel_rfl
theorem Xc4(h:Value)(w:World):(Go.method 368 161 (.agg #[h]) "AssignableTo").run Tryz.prog w=.ok (215,.agg #[h]) w:=by kernel_rfl
theorem Xh6(h:Value)(w:World):(Go.method 368 151 h "Unwrap").run Tryz.prog w=.ok (213,h) w:=by kernel_rfl
theorem rlm(z:Sem Value)(f:TypeId->Addr->Nat->Nat->Sem Value)(v:Value):
  ReflectliteValue.method z f #[v]=(do match<-ReflectliteValue.parts v with|none=>z|some (t,a,fl)=>f t a fl (fl % 32)):=rfl
theorem Xe0:Tryz.prog.underlying 67=some (.pointer 65):=by kernel_rfl
theorem Xny(a p:Addr)(W:World)(ha:W.cell? a=some (.pointer (some p))):
  (ReflectliteValue.method (ReflectliteValue.valueError "reflectlite.Value.IsNil" 0) ReflectliteValue.isNil #[.agg #[.pointer (some ⟨6,67,none⟩),.pointer (some a),.int .u64 150]]).run Tryz.prog W=.ok (.bool false) W:=by
 rw[rlm];simp only[Sem.run_bind,Xjl,Result.andThen];simp[ReflectliteValue.isNil,loadVar,isAgg,underlying,Xe0,ha,Result.andThen]
theorem Xnz(a p:Addr)(W:World)(ha:W.cell? a=some (.pointer (some p))):
  (ReflectliteValue.method (ReflectliteValue.valueError "reflectlite.Value.Elem" 0) ReflectliteValue.elem #[.agg #[.pointer (some ⟨6,67,none⟩),.pointer (some a),.int .u64 150]]).run Tryz.prog W
   =.ok (.agg #[.pointer (some ⟨6,65,none⟩),.pointer (some p),.int .u64 409]) W:=by
 rw[rlm];simp only[Sem.run_bind,Xjl,Result.andThen];simp[ReflectliteValue.elem,loadVar,isAgg,underlying,Xe0,ha,Result.andThen,Xms,Xwe]
end Go.Proofs.YP
namespace Go.Proofs.YP
open Go Go.RowKit Go.Extern.Stop Go.Stop Go.Extern
theorem rls(v x:Value):ReflectliteValue.set #[v,x]=(do
  let(some (dst,a,fl),some (src,b,_)):=(<-ReflectliteValue.parts v,<-ReflectliteValue.parts x)
   |unsupported (.noEntry "extern/(internal/reflectlite.Value).Set.zeroValue")
  if fl / ReflectliteValue.flagAddr % 2==0 then unsupported (.noEntry "extern/(internal/reflectlite.Value).Set.unaddressable")
  let val<-loadVar src b
  if<-Rtype.directlyAssignable dst src then storeVar dst a val
  else if<-Rtype.implements dst src then
   if(<-Rtype.kind src)==20 then
    match val with
    |.nilIface=>unsupported (.noEntry "extern/reflectlite: a nil value of one interface type handed on as a value of another")
    |_=>storeVar dst a val
   else storeVar dst a (.iface src val)
  else panicString ("reflectlite.Set: value of type "++(<-Rtype.spelt src)++ " is not assignable to type "++(<-Rtype.spelt dst))
  pure (.tuple #[])):=rfl
theorem ck65:ckK Tryz.prog 65 (some 2)=true:=by kernel_rfl
theorem Xyp{h:Nat}{j k:IntKind}{x y:Int}{W:World}(hb:W.heap[h]?=some (.cells #[.int j x,.int k y] 65 (0,0))):(loadVar 65 ⟨h,0,none⟩).run Tryz.prog W=.ok (.agg #[.int j x,.int k y]) W:=by
 obtain⟨v,hv,hr⟩:=Xe8 (P:=Tryz.prog) (w:=W) (G:=⟨fun _=>none,fun _ _=>none,fun _ _=>none⟩) (g:=h) (o:=0) (off:=0) (c:=[.int j x,.int k y]) (xs:=[.int j x,.int k y]) (v:=.agg [.int j x,.int k y]) ck65 (by simp[rdC])
  (by simp[RVs,RV]) (fun i y hi=>by rw[Nat.zero_add,Xci hb];simpa using hi)
 rw[hv];simp only[RV]at hr;obtain⟨c,rfl,hc⟩:=hr;simp only[RVs,RV]at hc;obtain⟨_,_,hc,rfl,_,_,rfl,rfl,rfl⟩:=hc;have e:c= #[.int j x,.int k y]:=Array.ext' (by simpa using hc);rw[e]
theorem Jcy{h g:Nat}{j k:IntKind}{x y:Int}{cur:Array Value}{ty:TypeId}{W:World}(hb:W.heap[h]?=some (.cells #[.int j x,.int k y] 65 (0,0)))(ht:W.heap[g]?=some (.cells cur ty (0,0)))(hs:2<=cur.size):
  ∃cur':Array Value,(ReflectliteValue.set #[.agg #[.pointer (some ⟨6,65,none⟩),.pointer (some ⟨g,0,none⟩),.int .u64 409],.agg #[.pointer (some ⟨6,65,none⟩),.pointer (some ⟨h,0,none⟩),.int .u64 153]]).run Tryz.prog W
   =.ok (.tuple #[]) (World.setBlk W g (.cells cur' ty (0,0)))/\cur'.toList=[.int j x,.int k y]++cur.toList.drop 2:=by
 obtain⟨cur',hst,hcur⟩:=Xb0 Tryz.prog (g:=g) (o:=0) (t:=ty) [.int j x,.int k y] 0 cur W ht (by simpa using hs) (by simp[Value.oneCell']);refine⟨cur',?_,by simpa using hcur⟩;rw[rls];simp only[Sem.run_bind,Xmr,Xnx,Result.andThen];have hst':(storeVar 65 ⟨g,0,none⟩ (.agg #[.int j x,.int k y])).run Tryz.prog W=.ok () (World.setBlk W g (.cells cur' ty (0,0))):=by simp only[storeVar,Sem.run_bind,Xqq,Result.andThen];simpa [Value.cells]using hst
 have hfl:(409 / ReflectliteValue.flagAddr % 2==0)=false:=by decide
 simp only[hfl,Bool.false_eq_true,if_false,Sem.run_bind,Sem.run_pure,Result.andThen];simp only[Xyp hb,Xmt,if_true,Result.andThen,Sem.run_bind,Sem.run_pure];simp only[hst',Result.andThen]
theorem Jae(t:Value)(w:World):Calls Tryz.prog 43 #[.nilIface,t] w fun e w'=>e=.returned (.bool false)/\w'=w:=by
 go_enter Tryz.func43,Tryz.ntmps43
 go_wp2
 go_ret
 exact⟨rfl,rfl⟩
set_option maxHeartbeats 4000000 in
theorem Xr3(tg:Nat)(a1:Addr)(j k:IntKind)(x y:Int)(cur:Array Value)(ty:TypeId)(w:World)(t0:Value)
  (ha:w.cell? a1=some (.pointer (some ⟨tg,0,none⟩))) (ht:w.heap[tg]?=some (.cells cur ty (0,0))) (hs:2<=cur.size) (R:Ending->World->Prop)
  (hR:∀cur':Array Value,cur'.toList=[.int j x,.int k y]++cur.toList.drop 2->
   R (.returned (.bool true)) (World.setBlk ((w.alloc (.cells #[.pointer (some ⟨6,67,none⟩),.pointer (some a1),.int .u64 150] 112)).alloc (.cells #[.int j x,.int k y] 65)) tg (.cells cur' ty (0,0)))):
  Calls Tryz.prog 67 #[.iface 65 (.agg #[.int j x,.int k y]),t0,.agg #[.pointer (some ⟨6,67,none⟩),.pointer (some a1),.int .u64 150],.iface 161 (.agg #[.pointer (some ⟨6,65,none⟩)])] w R:=by
 have h64:= @run_callFunc_extern Tryz.prog 64 _ (fun args=>ReflectliteValue.unpack (args.getD 0 (.tuple #[]))) Tryz.func64 (by kernel_rfl) (by kernel_rfl) (by kernel_rfl) (by kernel_rfl);have h100:= @run_callFunc_extern Tryz.prog 100 _ ReflectliteType.typeOf Tryz.func100 (by kernel_rfl) (by kernel_rfl) (by kernel_rfl) (by kernel_rfl);have h215:= @run_callFunc_extern Tryz.prog 215 _ (ReflectliteType.relation "AssignableTo" ReflectliteType.assignableTo) Tryz.func215 (by kernel_rfl) (by kernel_rfl) (by kernel_rfl) (by kernel_rfl);have h101:= @run_callFunc_extern Tryz.prog 101 _ (ReflectliteValue.method (ReflectliteValue.valueError "reflectlite.Value.Elem" 0) ReflectliteValue.elem) Tryz.func101 (by kernel_rfl) (by kernel_rfl) (by kernel_rfl) (by kernel_rfl);have h102:= @run_callFunc_extern Tryz.prog 102 _ ReflectliteValue.set Tryz.func102 (by kernel_rfl) (by kernel_rfl) (by kernel_rfl) (by kernel_rfl);have tO:=Xmq;have mA:=Xc4;have a65:=Xh8;have v65:=Xkj;have htl:tg<w.heap.size:=(Array.getElem?_eq_some_iff.1 ht).1;have hal:a1.block<w.heap.size:=World.block_lt_of_cell? w a1 ha;have el:=Xnz a1 ⟨tg,0,none⟩ (w.alloc (.cells #[.pointer (some ⟨6,67,none⟩),.pointer (some a1),.int .u64 150] 112)) (by rw[World.cell?_alloc_lt _ _ _ hal];exact ha)
 obtain⟨cur',st,hcur⟩:=Jcy (h:=w.heap.size+1) (g:=tg) (j:=j) (k:=k) (x:=x) (y:=y) (cur:=cur) (ty:=ty) (W:=(w.alloc (.cells #[.pointer (some ⟨6,67,none⟩),.pointer (some a1),.int .u64 150] 112)).alloc (.cells #[.int j x,.int k y] 65))
  (by have:=Xdv (w:=w.alloc (.cells #[.pointer (some ⟨6,67,none⟩),.pointer (some a1),.int .u64 150] 112)) (x:=.cells #[.int j x,.int k y] 65);simpa using this)
  (by rw[Xdh (by simp;omega),Xdh htl];exact ht) hs
 go_enter Tryz.func67,Tryz.ntmps67
 go_wp2
 refine wp_loop_rounds 1 ?_;rw[rounds_succ]
 go_wp2
 exact hcur
theorem Xs6(v:Value)(w:World):(Instr.typeAssert (.iface 151 v) 61 166 true).run Tryz.prog w=.ok (.tuple #[.nilIface,.bool false]) w:=run_typeAssert_lacksB Tryz.underlying166 (by kernel_rfl) (by kernel_rfl) v 61 w
theorem Xs5(v:Value)(w:World):(Instr.typeAssert (.iface 151 v) 61 169 true).run Tryz.prog w=.ok (.tuple #[.nilIface,.bool false]) w:=run_typeAssert_lacksB Tryz.underlying169 (by kernel_rfl) (by kernel_rfl) v 61 w
theorem Xs4(v:Value)(w:World):(Instr.typeAssert (.iface 151 v) 61 171 true).run Tryz.prog w=.ok (.tuple #[.iface 151 v,.bool true]) w:=by kernel_rfl
end Go.Proofs.YP
namespace Go.Proofs.YP
open Go Go.RowKit Go.Extern.Stop Go.Stop Go.Extern
theorem Xn6(jg:Nat)(v:Value)(w:World)(hj:w.cell? ⟨jg,0,none⟩=some v):Calls Tryz.prog 213 #[.pointer (some ⟨jg,0,none⟩)] w fun e w'=>e=.returned v/\w'=w:=by
 go_enter Tryz.func213,Tryz.ntmps213
 go_wp2
 go_ret
 exact⟨rfl,rfl⟩
set_option maxHeartbeats 4000000 in
theorem Xqd(tg jg eg eq cap:Nat)(a1:Addr)(j k:IntKind)(x y:Int)(cur:Array Value)(ty:TypeId)(w:World)(t0:Value)
  (hj:w.cell? ⟨jg,0,none⟩=some (.slice (some ⟨eg,eq,none⟩) 1 cap)) (he:w.cell? ⟨eg,eq,none⟩=some (.iface 65 (.agg #[.int j x,.int k y])))
  (ha:w.cell? a1=some (.pointer (some ⟨tg,0,none⟩))) (ht:w.heap[tg]?=some (.cells cur ty (0,0))) (hs:2<=cur.size) (R:Ending->World->Prop)
  (hR:∀cur':Array Value,cur'.toList=[.int j x,.int k y]++cur.toList.drop 2->
   R (.returned (.bool true)) (World.setBlk (((w.alloc (.cells #[.pointer (some ⟨6,67,none⟩),.pointer (some a1),.int .u64 150] 112)).alloc (.cells #[.pointer (some ⟨6,67,none⟩),.pointer (some a1),.int .u64 150] 112)).alloc (.cells #[.int j x,.int k y] 65)) tg (.cells cur' ty (0,0)))):
  Calls Tryz.prog 67 #[.iface 151 (.pointer (some ⟨jg,0,none⟩)),t0,.agg #[.pointer (some ⟨6,67,none⟩),.pointer (some a1),.int .u64 150],.iface 161 (.agg #[.pointer (some ⟨6,65,none⟩)])] w R:=by
 have h100:= @run_callFunc_extern Tryz.prog 100 _ ReflectliteType.typeOf Tryz.func100 (by kernel_rfl) (by kernel_rfl) (by kernel_rfl) (by kernel_rfl);have h215:= @run_callFunc_extern Tryz.prog 215 _ (ReflectliteType.relation "AssignableTo" ReflectliteType.assignableTo) Tryz.func215 (by kernel_rfl) (by kernel_rfl) (by kernel_rfl) (by kernel_rfl);have tO:=Xkk;have mA:=Xc4;have mU:=Xh6;have a151:=Xg0;have t166:=Xs6;have t169:=Xs5;have t171:=Xs4;have htl:tg<w.heap.size:=(Array.getElem?_eq_some_iff.1 ht).1;have hal:a1.block<w.heap.size:=World.block_lt_of_cell? w a1 ha;have hjl:jg<w.heap.size:=World.block_lt_of_cell? w ⟨jg,0,none⟩ hj;have hel:eg<w.heap.size:=World.block_lt_of_cell? w ⟨eg,eq,none⟩ he;have hj1:(w.alloc (.cells #[.pointer (some ⟨6,67,none⟩),.pointer (some a1),.int .u64 150] 112)).cell? ⟨jg,0,none⟩=some (.slice (some ⟨eg,eq,none⟩) 1 cap):=by rw[World.cell?_alloc_lt _ _ _ hjl];exact hj
 have he1:(w.alloc (.cells #[.pointer (some ⟨6,67,none⟩),.pointer (some a1),.int .u64 150] 112)).cell? ⟨eg,eq,none⟩=some (.iface 65 (.agg #[.int j x,.int k y])):=by rw[World.cell?_alloc_lt _ _ _ hel];exact he
 have hit:=Xr3 tg a1 j k x y cur ty (w.alloc (.cells #[.pointer (some ⟨6,67,none⟩),.pointer (some a1),.int .u64 150] 112)) t0 (by rw[World.cell?_alloc_lt _ _ _ hal];exact ha) (by rw[Xdh htl];exact ht) hs;have unw:=Xn6 jg _ _ hj1
 go_enter Tryz.func67,Tryz.ntmps67
 go_wp2_with (first|(go_at_call 213;refine unw.mono ?_;rintro e w' ⟨rfl,rfl⟩)|(go_at_call 67;apply hit;intro cur' hcur'))
 refine wp_loop_rounds 1 ?_;rw[rounds_succ]
 go_wp2_with (first|(go_at_call 213;refine unw.mono ?_;rintro e w' ⟨rfl,rfl⟩)|(go_at_call 67;apply hit;intro cur' hcur'))
 refine wp_loop_rounds 1 ?_;rw[rounds_succ]
 go_wp2_with (first|(go_at_call 213;refine unw.mono ?_;rintro e w' ⟨rfl,rfl⟩)|(go_at_call 67;apply hit;intro cur' hcur'))
 exact hcur'
def boxV(w:World)(tg:Nat):World:=(w.alloc (.cells #[.pointer (some ⟨tg,0,none⟩)] 67)).alloc (.cells #[.pointer (some ⟨6,67,none⟩),.pointer (some ⟨w.heap.size,0,none⟩),.int .u64 150] 112)
def box2(w:World)(a:Addr):World:=w.alloc (.cells #[.pointer (some ⟨6,67,none⟩),.pointer (some a),.int .u64 150] 112)
set_option maxHeartbeats 4000000 in
theorem Xqe(tg jg eg eq cap:Nat)(j k:IntKind)(x y:Int)(cur:Array Value)(ty:TypeId)(w:World)
  (hg:w.cell? ⟨0,0,none⟩=some (.iface 161 (.agg #[.pointer (some ⟨6,61,none⟩)])))
  (hj:w.cell? ⟨jg,0,none⟩=some (.slice (some ⟨eg,eq,none⟩) 1 cap)) (he:w.cell? ⟨eg,eq,none⟩=some (.iface 65 (.agg #[.int j x,.int k y])))
  (ht:w.heap[tg]?=some (.cells cur ty (0,0))) (hs:2<=cur.size) (R:Ending->World->Prop)
  (hR:∀cur':Array Value,cur'.toList=[.int j x,.int k y]++cur.toList.drop 2->
   R (.returned (.bool true)) (World.setBlk ((box2 (box2 (boxV w tg) ⟨w.heap.size,0,none⟩) ⟨w.heap.size,0,none⟩).alloc (.cells #[.int j x,.int k y] 65)) tg (.cells cur' ty (0,0)))):
  Calls Tryz.prog 43 #[.iface 151 (.pointer (some ⟨jg,0,none⟩)),.iface 67 (.pointer (some ⟨tg,0,none⟩))] w R:=by
 have h64:= @run_callFunc_extern Tryz.prog 64 _ (fun args=>ReflectliteValue.unpack (args.getD 0 (.tuple #[]))) Tryz.func64 (by kernel_rfl) (by kernel_rfl) (by kernel_rfl) (by kernel_rfl);have h65:= @run_callFunc_extern Tryz.prog 65 _ (ReflectliteValue.methodAny (ReflectliteValue.valueError "reflectlite.Value.Type" 0) (fun t _ _ _=>ReflectliteType.toType t)) Tryz.func65 (by kernel_rfl) (by kernel_rfl) (by kernel_rfl) (by kernel_rfl);have h66:= @run_callFunc_extern Tryz.prog 66 _ (ReflectliteValue.method (ReflectliteValue.valueError "reflectlite.Value.IsNil" 0) ReflectliteValue.isNil) Tryz.func66 (by kernel_rfl) (by kernel_rfl) (by kernel_rfl) (by kernel_rfl);have h205:= @run_callFunc_extern Tryz.prog 205 _ (ReflectliteType.abiMethod fun t=>do pure (.int .u8 (<-Rtype.kind t))) Tryz.func205 (by kernel_rfl) (by kernel_rfl) (by kernel_rfl) (by kernel_rfl);have h217:= @run_callFunc_extern Tryz.prog 217 _ (ReflectliteType.method ReflectliteType.elem) Tryz.func217 (by kernel_rfl) (by kernel_rfl) (by kernel_rfl) (by kernel_rfl);have h218:= @run_callFunc_extern Tryz.prog 218 _ (ReflectliteType.relation "Implements" ReflectliteType.implements_) Tryz.func218 (by kernel_rfl) (by kernel_rfl) (by kernel_rfl) (by kernel_rfl);have f64:=Xki;have f65:=Xqp;have mK:=Xjm;have mE:=Xjn;have mI:=Xfj;have k67:=Xqr;have k65:=Xqs;have e67:=Xqt;have i65:=Xh7;have hgl:0<w.heap.size:=World.block_lt_of_cell? w ⟨0,0,none⟩ hg;have htl:tg<w.heap.size:=(Array.getElem?_eq_some_iff.1 ht).1;have hjl:jg<w.heap.size:=World.block_lt_of_cell? w ⟨jg,0,none⟩ hj;have hel:eg<w.heap.size:=World.block_lt_of_cell? w ⟨eg,eq,none⟩ he;have old:∀a:Addr,a.block<w.heap.size->(boxV w tg).cell? a=w.cell? a:=fun a ha=>by unfold boxV;rw[World.cell?_alloc_lt _ _ a (by simp;omega),World.cell?_alloc_lt _ _ a ha]
 have hcell:(boxV w tg).cell? ⟨w.heap.size,0,none⟩=some (.pointer (some ⟨tg,0,none⟩)):=by unfold boxV;rw[World.cell?_alloc_lt _ _ _ (by simp),World.cell?_alloc_new];rfl
 have n66:=Xny ⟨w.heap.size,0,none⟩ ⟨tg,0,none⟩ (boxV w tg) hcell;have hg2:=(old ⟨0,0,none⟩ hgl).trans hg
 have join:=Xqd tg jg eg eq cap ⟨w.heap.size,0,none⟩ j k x y cur ty (boxV w tg) (.iface 67 (.pointer (some ⟨tg,0,none⟩))) ((old _ hjl).trans hj) ((old _ hel).trans he) hcell
  (by unfold boxV;rw[Xdh (by simp;omega),Xdh htl];exact ht) hs
 unfold boxV at n66 hg2 join
 go_enter Tryz.func43,Tryz.ntmps43
 go_wp2_with (go_at_call 67;apply join;intro cur' hcur')
 exact hcur'
theorem Xmg:Callee Tryz.prog 43:=⟨Tryz.f43,Tryz.func43,rfl,by
 have:(Tryz.f43.name != "runtime.NumGoroutine")=true:=by kernel_rfl
 simpa using this⟩
theorem Inv.row'{P:Program}{GT:Nat->Option (List AV)}{w0 w:World}{G:Gh}{st:St}(hI:Inv P GT w0 G st w)(cs:Array Value)(t:TypeId):∃G',G.Le G'/\Inv P GT w0 G' st (w.alloc (.cells cs t)):=
 ⟨_,hI.le_row cs 0,hI.row cs t 0⟩
theorem Xm8{C:CSem}{E:Env}{args:List AV}{st st':St}{r:Rt AV}(h:ov43 C E args st=some (r,st')){w0 w:World}{G:Gh}{xs:Array Value}(hI:Inv Tryz.prog tabs w0 G st w)(hG:HGT tabs G)(hx:RVs G args xs.toList):
  CallIs Tryz.prog G w (.fn 43) xs (Xca Tryz.prog tabs w0 G r st'):=by
 unfold ov43 at h;split at h
 ·rename_i b;split at h
  ·simp only[Xas,Option.some.injEq,Prod.mk.injEq]at h;obtain⟨rfl,rfl⟩:=h;simp only[RVs,RV]at hx;obtain⟨_,_,hxs,rfl,_,_,rfl,⟨y,rfl,g,hg,rfl⟩,rfl⟩:=hx;have hxs:xs= #[.nilIface,.iface 67 (.pointer (some ⟨g,0,none⟩))]:=by rw[<-Array.toArray_toList (xs:=xs),hxs]
   subst hxs;refine⟨Xmg,(callsIn_wide.2 (Jae _ w)).mono fun e w' he=>?_⟩;obtain⟨rfl,rfl⟩:=he;exact⟨_,G,rfl,.refl G,hI,by simp only[RV]⟩
  ·cases h
 ·rename_i jb b;split at h
  ·rename_i tj own j x k y t u1 u2 hj hb;simp only[Xad,decide_eq_true_eq,Xas,Option.some.injEq,Prod.mk.injEq]at h;obtain⟨_,rfl,rfl⟩:=h;simp only[RVs,RV]at hx;obtain⟨_,_,hxs,⟨_,rfl,jg,hjg,rfl⟩,_,_,rfl,⟨_,rfl,tg,htg,rfl⟩,rfl⟩:=hx;have hxs:xs= #[.iface 151 (.pointer (some ⟨jg,0,none⟩)),.iface 67 (.pointer (some ⟨tg,0,none⟩))]:=by rw[<-Array.toArray_toList (xs:=xs),hxs]
   subst hxs;obtain⟨o1,ho1,hr1⟩:=hI.blk' hj hjg;obtain⟨o2,ho2,hr2⟩:=hI.blk' hb htg;simp only[RB]at hr1 hr2;obtain⟨cs1,xs1,rest1,rfl,hcs1,hr1⟩:=hr1;obtain⟨cs2,xs2,rest2,rfl,hcs2,hr2⟩:=hr2;simp only[RVs]at hr1;obtain⟨sv,_,rfl,hsv,rfl⟩:=hr1;obtain⟨A,cap,rfl,hn1,hn2,hA⟩:=hsv.slice;rcases hA with⟨hA,_⟩|⟨eg,eq,rfl,hrc⟩
   ·omega
   simp only[RC]at hrc;obtain⟨⟨ev,hev,hrv⟩,_⟩:=hrc;simp only[RV,RVs]at hrv;obtain⟨_,rfl,c,rfl,_,_,hc,rfl,_,_,rfl,rfl,rfl⟩:=hrv;have hc:c= #[.int j x,.int k y]:=by rw[<-Array.toArray_toList (xs:=c),hc]
   subst hc;have hl2:=hr2.length;have hs2:2<=cs2.size:=by rw[<-Array.length_toList,hcs2];simp at hl2⊢;omega
   refine⟨Xmg,callsIn_wide.2 (Xqe tg jg eg eq cap j k x y cs2 t w (hI.pr _ _ _ hG.2) ?_ (hI.pr _ _ _ hev) ho2 hs2 _ fun cur' hcur=>?_)⟩
   ·rw[Xci ho1,<-Array.getElem?_toList,hcs1];rfl
   ·obtain⟨G1,l1,I1⟩:=Inv.row' hI #[.pointer (some ⟨tg,0,none⟩)] 67;obtain⟨G2,l2,I2⟩:=Inv.row' I1 #[.pointer (some ⟨6,67,none⟩),.pointer (some ⟨w.heap.size,0,none⟩),.int .u64 150] 112;obtain⟨G3,l3,I3⟩:=Inv.row' I2 #[.pointer (some ⟨6,67,none⟩),.pointer (some ⟨w.heap.size,0,none⟩),.int .u64 150] 112;obtain⟨G4,l4,I4⟩:=Inv.row' I3 #[.pointer (some ⟨6,67,none⟩),.pointer (some ⟨w.heap.size,0,none⟩),.int .u64 150] 112;obtain⟨G5,l5,I5⟩:=Inv.row' I4 #[.int j x,.int k y] 65;have hle:=l1.trans (l2.trans (l3.trans (l4.trans l5)));refine⟨_,G5,rfl,hle,I5.setBlk (hle.ι _ _ htg) (by rw[hb];simp) (o:=.cells t [.int j x,.int k y]) (x:=.cells cur' t (0,0)) ?_,by simp only[RV]⟩;simp only[RB];refine⟨cur',[.int j x,.int k y],rest2,rfl,?_,by simp[RVs,RV]⟩;rw[hcur,hcs2];have:xs2.length=2:=by simpa using hl2
    rw[<-this,List.drop_left]
  ·cases h
 ·cases h
theorem Xns{C:CSem}(hS:Xey C){E:Env}{caps:List AV}{rv:AV}{st st4:St}(h:Xd3 C E caps rv st=some st4)(hw:E.Wf st):StepOK E st st4:=by
 unfold Xd3 at h;simp only[Xab]at h;obtain⟨⟨r1,st1⟩,h1,h⟩:=h;have k1:=Xc3 hS hw h1;cases r1 with
 |pan v=>simp at h
 |ok s1=>
  simp only[Xab]at h;obtain⟨⟨x2,s2,m2,st2⟩,h2,h⟩:=h;have k2:=Xbl hS a59y (k1.wf hw) (by simp) h2;split at h
  ·rename_i s3 st3 heq;simp only[Prod.mk.injEq]at heq;obtain⟨rfl,rfl,rfl,rfl⟩:=heq;simp only[Option.some.injEq]at h;subst h;exact k1.trans k2.1
  ·cases h
theorem Xon{C:CSem}(hS:Xey C){E:Env}{args:List AV}{st st':St}{r:Rt AV}(h:ov42 C E args st=some (r,st'))(hw:E.Wf st):StepOK E st st':=by
 unfold ov42 at h;simp only[Xab]at h;obtain⟨⟨r0,st0⟩,h0,h⟩:=h;have k0:=Xc3 hS hw h0;cases r0 with
 |pan v=>simp at h
 |ok s0=>
 simp only[Xab]at h;obtain⟨⟨r1,st1⟩,h1,h⟩:=h;have k1:=Xc3 hS (k0.wf hw) h1;cases r1 with
 |pan v=>simp at h
 |ok s1=>
 simp only[Xad,decide_eq_true_eq,Xab]at h;obtain⟨_,⟨x3,s3,m3,st3⟩,h2,h⟩:=h;have w1:=k1.wf (k0.wf hw);have k2:=(Xbl hS a42z w1 (by simp) h2).1;have k:=k0.trans (k1.trans k2);have fin:∀{rv:AV} {caps:List AV} {sb:List AV},(Xa6 (Xd3 C E caps rv st3) fun st4=>Xa6 (resAll sb st4 Xjz) fun vs=>okv (oneOr vs) st4)=some (r,st')->StepOK E st st':=fun h=>by simp only[Xab,Xas,Option.some.injEq,Prod.mk.injEq]at h;obtain⟨st4,h4,vs,_,_,rfl⟩:=h;exact k.trans (Xns hS h4 (k2.wf w1))
 cases x3 with
 |nrm=>cases h
 |exit i=>cases h
 |ret=>
  cases m3 with
  |nil=>exact fin h
  |cons d m=>cases h
 |pan v=>
  cases m3 with
  |nil=>exact fin h
  |cons d m=>cases h
theorem Xtu:Xlf prog:=by
 intro f g C E args st r st' hov hC h hw;simp only[prog]at hov;unfold ovOf at hov;split at hov
 ·simp only[Option.some.injEq]at hov;subst hov;exact Xon hC h hw
 ·simp only[Option.some.injEq]at hov;subst hov;unfold ov43 at h;split at h
  ·split at h
   ·simp only[Xas,Option.some.injEq,Prod.mk.injEq]at h;rw[<-h.2];exact .refl E st
   ·cases h
  ·split at h
   ·rename_i hb;simp only[Xad,decide_eq_true_eq,Xas,Option.some.injEq,Prod.mk.injEq]at h;obtain⟨hr,_,rfl⟩:=h;exact .setH hr hb fun _ r hr=>by simp[Xb5,AV.refsL,AV.refs]at hr
   ·cases h
  ·cases h
 ·simp only[Option.some.injEq]at hov;subst hov;unfold Xna at h;split at h
  ·simp only[Xad,Xas,Option.some.injEq,Prod.mk.injEq]at h;obtain⟨_,_,rfl⟩:=h;exact .push hw
  ·cases h
 ·cases hov
theorem aok:AOK Tryz.prog prog where
 mixed:=mixed
 fn f fn _ h:=fnOK f fn h
 step:=Xtu
 ovr f g hov C hC hS E args st r st' h hw w0 w G xs hI hG hx:=by
  simp only[prog]at hov;unfold ovOf at hov;split at hov
  ·simp only[Option.some.injEq]at hov;subst hov;exact Xm9 hC hS h hw hI hG hx
  ·simp only[Option.some.injEq]at hov;subst hov;exact Xm8 h hI hG hx
  ·simp only[Option.some.injEq]at hov;subst hov;exact Xkz h hI hx
  ·cases hov
theorem Xnt(k:Nat):Xd7 Tryz.prog tabs (aCall prog k):=Xh1 aok k
end Go.Proofs.YP
namespace Go.Proofs.YP
open Go Go.RowKit
noncomputable def G0 (w:World):Gh:=⟨fun _=>none,fun g q=>if g<w.heap.size then w.cell? ⟨g,q,none⟩else none,fun _ _=>none⟩
theorem inv0(w:World):Inv Tryz.prog tabs w (G0 w) ⟨[],[]⟩ w where
 os:=rfl
 tape:=rfl
 output:=rfl
 size:=Nat.le_refl _
 old:=fun _ _=>rfl
 dom:=⟨fun _ _=>rfl,fun _ _ _=>rfl⟩
 inj:=fun _ _ _ h=>nomatch h
 new:=fun _ _ h=>nomatch h
 blk:=fun _ _ h=>by simp at h
 pr:=fun g q v h=>by
  simp only[G0]at h;split at h
  ·exact h
  ·cases h
 prι:=fun _ _ _ h=>nomatch h
 arr:=fun _ _ _ h=>by simp at h
 arhi:=fun _ _ _ _ h=>by simp at h
 arinj:=by intros;simp_all
structure Kept(w w':World):Prop where
 os:w'.os=w.os
 output:w'.output=w.output
 size:w.heap.size<=w'.heap.size
 old:∀g,g<w.heap.size->w'.heap[g]?=w.heap[g]?
theorem Xt5{w w':World}{G:Gh}{st:St}(h:Inv Tryz.prog tabs w G st w'):Kept w w':=⟨h.os,h.output,h.size,h.old⟩
theorem Kept.keptBut{w w':World}(h:Kept w w')(may:MemPlace->Prop):w.keptBut w' may:=by
 refine⟨h.os,h.output,fun i hi=>?_⟩;rw[h.old i hi];rcases w.heap[i]? with _|o
 ·rfl
 ·cases o<;>simp
theorem Kept.frozen{w w':World}(h:Kept w w')(a:Addr)(ha:a.block<w.heap.size):w'.frozen? a=w.frozen? a:=by simp only[World.frozen?,h.old _ ha]
theorem Xr0{k f:Nat}{args:List AV}{xs:Array Value}{w:World}{st':St}(h:aCall prog k {base:=0,rob:=0,rom:=0} (.fn f) args ⟨[],[]⟩=some (.ok (.bool true),st'))
  (hG:HGT tabs (G0 w)) (hx:RVs (G0 w) args xs.toList):Calls Tryz.prog f xs w fun e w'=>e=.returned (.bool true)/\Kept w w':=by
 have hc:=Xnt k _ _ _ _ _ _ h ⟨Nat.le_refl _,Nat.le_refl _,Nat.le_refl _⟩ w w (G0 w) xs (inv0 w) hG hx;refine(callsIn_wide.1 hc.2).mono fun e w' he=>?_;cases e with
 |returned x=>
  obtain⟨v,G',e1, -,hI,hv⟩:=he;cases e1;simp only[RV]at hv;exact⟨by rw[hv],Xt5 hI⟩
 |panicked ch=>obtain⟨v,x,G',e1, -⟩:=he;cases e1
 |outgrown=>exact he.elim
end Go.Proofs.YP
