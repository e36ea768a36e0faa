/- Texts that the laws of the seat rest on: an abstract machine, what the functions answer in it, plain laws. -/
import Derived.Test.YtjehnhppfneidaaGreatDoorRqb
import Derived.Laws.Entries
import Derived.Laws.NewBlocks
import Derived.Laws.AppendOwn
import Derived.Laws.BytesArg
import Derived.Laws.Strings
import Derived.RangeFuncRecord
import Derived.RangeFuncCalls
import Derived.OrdersIn
import Derived.TacticsIn
set_option linter.unusedVariables false
set_option linter.unusedSimpArgs false
set_option linter.unusedSectionVars false
namespace Go.Proofs.YP
open Go
structure Gh where
 ι:Nat->Option Nat
 pr:Nat->Nat->Option Value
 ar:Nat->Nat->Option (Nat×Nat)
structure Gh.Le(G G':Gh):Prop where
 ι:∀b g,G.ι b=some g->G'.ι b=some g
 pr:∀g q v,G.pr g q=some v->G'.pr g q=some v
 ar:∀i n x,G.ar i n=some x->G'.ar i n=some x
theorem Gh.Le.refl(G:Gh):G.Le G:=⟨fun _ _ h=>h,fun _ _ _ h=>h,fun _ _ _ h=>h⟩
theorem Gh.Le.trans{G G' G'':Gh}(h:G.Le G')(k:G'.Le G''):G.Le G'':=
 ⟨fun _ _ x=>k.ι _ _ (h.ι _ _ x),fun _ _ _ x=>k.pr _ _ _ (h.pr _ _ _ x),fun _ _ _ x=>k.ar _ _ _ (h.ar _ _ _ x)⟩
section
variable(G:Gh)
mutual
def RV:AV->Value->Prop
 |.int k n,x=>x=.int k n
 |.bool b,x=>x=.bool b
 |.str s,x=>x=.string s
 |.nilp,x=>x=.pointer none
 |.ptr b o,x=> ∃g,G.ι b=some g/\x=.pointer (some ⟨g,o,none⟩)
 |.eptr cs o,x=> ∃g q,x=.pointer (some ⟨g,q+o,none⟩)/\RC g q cs
 |.nils,x=>x=.slice none 0 0
 |.sl none n cs,x=> ∃A cap,x=.slice A n cap/\n<=cap/\n<=9223372036854775807/\((n=0/\cs=[])\/∃g q,A=some ⟨g,q,none⟩/\RC g q cs)
 |.sl (some i) n cs,x=> ∃g cap,G.ar i n=some (g,cap)/\x=.slice (some ⟨g,0,none⟩) n cap/\n<=cap/\n<=9223372036854775807/\RC g 0 cs
 |.hs b n,x=> ∃g cap,G.ι b=some g/\x=.slice (some ⟨g,0,none⟩) n cap/\n<=cap/\n<=9223372036854775807
 |.nilm,x=>x=.map none
 |.map b,x=> ∃g,G.ι b=some g/\x=.map (some g)
 |.nilf,x=>x=.nilFunc
 |.fn f a b,x=> ∃fa fb,x=.func (.func f) fa fb/\RVs a fa.toList/\RVs b fb.toList
 |.yld b,x=> ∃g,G.ι b=some g/\x=.func (.yield g) #[] #[]
 |.nili,x=>x=.nilIface
 |.iface t v,x=> ∃y,x=.iface t y/\RV v y
 |.agg cs,x=> ∃c,x=.agg c/\RVs cs c.toList
 |.tup vs,x=> ∃c,x=.tuple c/\RVs vs c.toList
def RVs:List AV->List Value->Prop
 |[],l=>l=[]
 |v::vs,l=> ∃x xs,l=x::xs/\RV v x/\RVs vs xs
def RC(g:Nat)(q:Nat):List AV->Prop
 |[]=>True
 |c::cs=>(∃x,G.pr g q=some x/\RV c x)/\RC g (q+1) cs
end
end
section
variable{G G':Gh}
mutual
theorem RV.mono(h:G.Le G'):∀(v:AV) (x:Value),RV G v x->RV G' v x
 |.int _ _,x,r|.bool _,x,r|.str _,x,r|.nilp,x,r|.nils,x,r|.nilm,x,r|.nilf,x,r|.nili,x,r=>by simp only[RV]at r⊢;exact r
 |.ptr b o,x,r=>by simp only[RV]at r⊢;obtain⟨g,a,e⟩:=r;exact⟨g,h.ι _ _ a,e⟩
 |.map b,x,r=>by simp only[RV]at r⊢;obtain⟨g,a,e⟩:=r;exact⟨g,h.ι _ _ a,e⟩
 |.yld b,x,r=>by simp only[RV]at r⊢;obtain⟨g,a,e⟩:=r;exact⟨g,h.ι _ _ a,e⟩
 |.hs b n,x,r=>by simp only[RV]at r⊢;obtain⟨g,cap,a,e⟩:=r;exact⟨g,cap,h.ι _ _ a,e⟩
 |.eptr cs o,x,r=>by simp only[RV]at r⊢;obtain⟨g,q,e,a⟩:=r;exact⟨g,q,e,RC.mono h g q cs a⟩
 |.sl none n cs,x,r=>by simp only[RV]at r⊢;obtain⟨A,cap,e,h1,h2,h3⟩:=r;exact⟨A,cap,e,h1,h2,h3.imp id fun⟨g,q,e,a⟩=>⟨g,q,e,RC.mono h g q cs a⟩⟩
 |.sl (some i) n cs,x,r=>by simp only[RV]at r⊢;obtain⟨g,cap,a,e,h1,h2,h3⟩:=r;exact⟨g,cap,h.ar _ _ _ a,e,h1,h2,RC.mono h g 0 cs h3⟩
 |.fn f a b,x,r=>by simp only[RV]at r⊢;obtain⟨fa,fb,e,h1,h2⟩:=r;exact⟨fa,fb,e,RVs.mono h a _ h1,RVs.mono h b _ h2⟩
 |.iface t v,x,r=>by simp only[RV]at r⊢;obtain⟨y,e,a⟩:=r;exact⟨y,e,RV.mono h v y a⟩
 |.agg cs,x,r=>by simp only[RV]at r⊢;obtain⟨c,e,a⟩:=r;exact⟨c,e,RVs.mono h cs _ a⟩
 |.tup cs,x,r=>by simp only[RV]at r⊢;obtain⟨c,e,a⟩:=r;exact⟨c,e,RVs.mono h cs _ a⟩
theorem RVs.mono(h:G.Le G'):∀(v:List AV) (x:List Value),RVs G v x->RVs G' v x
 |[],x,r=>by simp only[RVs]at r⊢;exact r
 |v::vs,x,r=>by simp only[RVs]at r⊢;obtain⟨y,ys,e,a,b⟩:=r;exact⟨y,ys,e,RV.mono h v y a,RVs.mono h vs ys b⟩
theorem RC.mono(h:G.Le G')(g:Nat):∀(q:Nat) (cs:List AV),RC G g q cs->RC G' g q cs
 |_,[],_=>by simp only[RC]
 |q,c::cs,r=>by simp only[RC]at r⊢;obtain⟨⟨x,e,a⟩,b⟩:=r;exact⟨⟨x,h.pr _ _ _ e,RV.mono h c x a⟩,RC.mono h g (q+1) cs b⟩
end
end
def Gh.cut(G:Gh)(n m:Nat):Gh:=
 {ι:=fun b=>if b<n then G.ι b else none,pr:=G.pr,ar:=fun i k=>if i<m then G.ar i k else none}
theorem Xbw(n m:Nat)(a b:List Ref):Xa5 n m (a++b)=(Xa5 n m a && Xa5 n m b):=by simp[Xa5]
section
variable{G:Gh}{n m:Nat}
mutual
theorem RV.cut:∀(v:AV) (x:Value),Xa5 n m v.refs=true->RV G v x->RV (G.cut n m) v x
 |.int _ _,x,_,r|.bool _,x,_,r|.str _,x,_,r|.nilp,x,_,r|.nils,x,_,r|.nilm,x,_,r|.nilf,x,_,r|.nili,x,_,r=>by simp only[RV]at r⊢;exact r
 |.ptr b o,x,l,r=>by simp only[RV]at r⊢;obtain⟨g,a,e⟩:=r;simp[AV.refs,Xa5]at l;exact⟨g,by simp[Gh.cut,l,a],e⟩
 |.map b,x,l,r=>by simp only[RV]at r⊢;obtain⟨g,a,e⟩:=r;simp[AV.refs,Xa5]at l;exact⟨g,by simp[Gh.cut,l,a],e⟩
 |.yld b,x,l,r=>by simp only[RV]at r⊢;obtain⟨g,a,e⟩:=r;simp[AV.refs,Xa5]at l;exact⟨g,by simp[Gh.cut,l,a],e⟩
 |.hs b n,x,l,r=>by simp only[RV]at r⊢;obtain⟨g,cap,a,e⟩:=r;simp[AV.refs,Xa5]at l;exact⟨g,cap,by simp[Gh.cut,l,a],e⟩
 |.eptr cs o,x,l,r=>by simp only[RV]at r⊢;obtain⟨g,q,e,a⟩:=r;exact⟨g,q,e,RC.cut g q cs (by simpa [AV.refs]using l) a⟩
 |.sl none k cs,x,l,r=>by simp only[RV]at r⊢;obtain⟨A,cap,e,h1,h2,h3⟩:=r;exact⟨A,cap,e,h1,h2,h3.imp id fun⟨g,q,e,a⟩=>⟨g,q,e,RC.cut g q cs (by simpa [AV.refs]using l) a⟩⟩
 |.sl (some i) k cs,x,l,r=>by
  simp only[RV]at r⊢;obtain⟨g,cap,a,e,h1,h2,h3⟩:=r;have l':i<m/\Xa5 n m (AV.refsL cs)=true:=by simpa [AV.refs,Xa5]using l
  exact⟨g,cap,by simp[Gh.cut,l'.1,a],e,h1,h2,RC.cut g 0 cs l'.2 h3⟩
 |.fn f a b,x,l,r=>by simp only[RV]at r⊢;obtain⟨fa,fb,e,h1,h2⟩:=r;simp only[AV.refs,Xbw,Bool.and_eq_true]at l;exact⟨fa,fb,e,RVs.cut a _ l.1 h1,RVs.cut b _ l.2 h2⟩
 |.iface t v,x,l,r=>by simp only[RV]at r⊢;obtain⟨y,e,a⟩:=r;exact⟨y,e,RV.cut v y (by simpa [AV.refs]using l) a⟩
 |.agg cs,x,l,r=>by simp only[RV]at r⊢;obtain⟨c,e,a⟩:=r;exact⟨c,e,RVs.cut cs _ (by simpa [AV.refs]using l) a⟩
 |.tup cs,x,l,r=>by simp only[RV]at r⊢;obtain⟨c,e,a⟩:=r;exact⟨c,e,RVs.cut cs _ (by simpa [AV.refs]using l) a⟩
theorem RVs.cut:∀(v:List AV) (x:List Value),Xa5 n m (AV.refsL v)=true->RVs G v x->RVs (G.cut n m) v x
 |[],x,_,r=>by simp only[RVs]at r⊢;exact r
 |v::vs,x,l,r=>by simp only[RVs]at r⊢;obtain⟨y,ys,e,a,b⟩:=r;simp only[AV.refsL,Xbw,Bool.and_eq_true]at l;exact⟨y,ys,e,RV.cut v y l.1 a,RVs.cut vs ys l.2 b⟩
theorem RC.cut(g:Nat):∀(q:Nat) (cs:List AV),Xa5 n m (AV.refsL cs)=true->RC G g q cs->RC (G.cut n m) g q cs
 |_,[],_,_=>by simp only[RC]
 |q,c::cs,l,r=>by simp only[RC]at r⊢;obtain⟨⟨x,e,a⟩,b⟩:=r;simp only[AV.refsL,Xbw,Bool.and_eq_true]at l;exact⟨⟨x,e,RV.cut c x l.1 a⟩,RC.cut g (q+1) cs l.2 b⟩
end
end
structure Gh.Dom(G:Gh)(n m:Nat):Prop where
 ι:∀b,n<=b->G.ι b=none
 ar:∀i k,m<=i->G.ar i k=none
section
variable{G:Gh}{n m:Nat}
mutual
theorem RV.lt(D:G.Dom n m):∀(v:AV) (x:Value),RV G v x->Xa5 n m v.refs=true
 |.int _ _,x,_|.bool _,x,_|.str _,x,_|.nilp,x,_|.nils,x,_|.nilm,x,_|.nilf,x,_|.nili,x,_=>by simp[AV.refs,Xa5]
 |.ptr b o,x,r|.map b,x,r|.yld b,x,r=>by
  simp only[RV]at r;obtain⟨g,a,e⟩:=r;simp only[AV.refs,Xa5,List.all_cons,List.all_nil,Bool.and_true,decide_eq_true_eq];rcases Nat.lt_or_ge b n with h|h
  ·exact h
  ·rw[D.ι b h]at a;cases a
 |.hs b k,x,r=>by
  simp only[RV]at r;obtain⟨g,cap,a,e⟩:=r;simp only[AV.refs,Xa5,List.all_cons,List.all_nil,Bool.and_true,decide_eq_true_eq];rcases Nat.lt_or_ge b n with h|h
  ·exact h
  ·rw[D.ι b h]at a;cases a
 |.eptr cs o,x,r=>by simp only[RV]at r;obtain⟨g,q,e,a⟩:=r;simpa [AV.refs]using RC.lt D g q cs a
 |.sl none k cs,x,r=>by
  simp only[RV]at r;obtain⟨A,cap,e,h1,h2,h3⟩:=r;rcases h3 with⟨_,rfl⟩|⟨g,q,e,a⟩
  ·simp[AV.refs,AV.refsL,Xa5]
  ·simpa [AV.refs]using RC.lt D g q cs a
 |.sl (some i) k cs,x,r=>by
  simp only[RV]at r;obtain⟨g,cap,a,e,h1,h2,h3⟩:=r;have:=RC.lt D g 0 cs h3;simp only[AV.refs,Xa5,List.all_cons,Bool.and_eq_true,decide_eq_true_eq];refine⟨?_,this⟩;rcases Nat.lt_or_ge i m with h|h
  ·exact h
  ·rw[D.ar i k h]at a;cases a
 |.fn f a b,x,r=>by simp only[RV]at r;obtain⟨fa,fb,e,h1,h2⟩:=r;simp[AV.refs,Xbw,RVs.lt D a _ h1,RVs.lt D b _ h2]
 |.iface t v,x,r=>by simp only[RV]at r;obtain⟨y,e,a⟩:=r;simpa [AV.refs]using RV.lt D v y a
 |.agg cs,x,r=>by simp only[RV]at r;obtain⟨c,e,a⟩:=r;simpa [AV.refs]using RVs.lt D cs _ a
 |.tup cs,x,r=>by simp only[RV]at r;obtain⟨c,e,a⟩:=r;simpa [AV.refs]using RVs.lt D cs _ a
theorem RVs.lt(D:G.Dom n m):∀(v:List AV) (x:List Value),RVs G v x->Xa5 n m (AV.refsL v)=true
 |[],x,_=>by simp[AV.refsL,Xa5]
 |v::vs,x,r=>by simp only[RVs]at r;obtain⟨y,ys,e,a,b⟩:=r;simp[AV.refsL,Xbw,RV.lt D v y a,RVs.lt D vs ys b]
theorem RC.lt(D:G.Dom n m)(g:Nat):∀(q:Nat) (cs:List AV),RC G g q cs->Xa5 n m (AV.refsL cs)=true
 |_,[],_=>by simp[AV.refsL,Xa5]
 |q,c::cs,r=>by simp only[RC]at r;obtain⟨⟨x,e,a⟩,b⟩:=r;simp[AV.refsL,Xbw,RV.lt D c x a,RC.lt D g (q+1) cs b]
end
end
section
variable{G:Gh}(m:Nat)
mutual
theorem RV.fin:∀(v:AV) (x:Value),RV G v x->RV G (v.fin m) x
 |.int _ _,x,r|.bool _,x,r|.str _,x,r|.nilp,x,r|.ptr _ _,x,r|.nilm,x,r|.map _,x,r|.nilf,x,r|.yld _,x,r|.nili,x,r|.hs _ _,x,r=>by simp only[AV.fin];exact r
 |.nils,x,r=>by simp only[RV]at r;simp only[AV.fin,RV];exact⟨none,0,r,Nat.le_refl _,by omega,.inl ⟨trivial,trivial⟩⟩
 |.eptr cs o,x,r=>by simp only[AV.fin,RV]at r⊢;obtain⟨g,q,e,a⟩:=r;exact⟨g,q,e,RC.fin g q cs a⟩
 |.sl none k cs,x,r=>by simp only[AV.fin,RV]at r⊢;obtain⟨A,cap,e,h1,h2,h3⟩:=r;refine⟨A,cap,e,h1,h2,h3.imp (fun⟨a,b⟩=>⟨a,by rw[b];rfl⟩) fun⟨g,q,e,a⟩=>⟨g,q,e,RC.fin g q cs a⟩⟩
 |.sl (some i) k cs,x,r=>by
  simp only[AV.fin];simp only[RV]at r;obtain⟨g,cap,a,e,h1,h2,h3⟩:=r;split
  ·simp only[RV];exact⟨g,cap,a,e,h1,h2,RC.fin g 0 cs h3⟩
  ·simp only[RV];exact⟨_,cap,e,h1,h2,.inr ⟨g,0,rfl,RC.fin g 0 cs h3⟩⟩
 |.fn f a b,x,r=>by simp only[AV.fin,RV]at r⊢;obtain⟨fa,fb,e,h1,h2⟩:=r;exact⟨fa,fb,e,RVs.fin a _ h1,RVs.fin b _ h2⟩
 |.iface t v,x,r=>by simp only[AV.fin,RV]at r⊢;obtain⟨y,e,a⟩:=r;exact⟨y,e,RV.fin v y a⟩
 |.agg cs,x,r=>by simp only[AV.fin,RV]at r⊢;obtain⟨c,e,a⟩:=r;exact⟨c,e,RVs.fin cs _ a⟩
 |.tup cs,x,r=>by simp only[AV.fin,RV]at r⊢;obtain⟨c,e,a⟩:=r;exact⟨c,e,RVs.fin cs _ a⟩
theorem RVs.fin:∀(v:List AV) (x:List Value),RVs G v x->RVs G (AV.finL m v) x
 |[],x,r=>by simp only[AV.finL];exact r
 |v::vs,x,r=>by simp only[AV.finL,RVs]at r⊢;obtain⟨y,ys,e,a,b⟩:=r;exact⟨y,ys,e,RV.fin v y a,RVs.fin vs ys b⟩
theorem RC.fin(g:Nat):∀(q:Nat) (cs:List AV),RC G g q cs->RC G g q (AV.finL m cs)
 |_,[],_=>by simp only[AV.finL,RC]
 |q,c::cs,r=>by simp only[AV.finL,RC]at r⊢;obtain⟨⟨x,e,a⟩,b⟩:=r;exact⟨⟨x,e,RV.fin c x a⟩,RC.fin g (q+1) cs b⟩
end
end
theorem RV.arg{G:Gh}(v:AV)(x:Value)(h:RV G v x):RV G v.arg x:=by cases v<;>first|exact RV.fin 0 _ x h|exact h
theorem RVs.arg{G:Gh}:∀(v:List AV) (x:List Value),RVs G v x->RVs G (v.map AV.arg) x
 |[],x,r=>r
 |v::vs,x,r=>by simp only[RVs]at r;obtain⟨y,ys,e,a,b⟩:=r;simp only[List.map_cons,RVs];exact⟨y,ys,e,RV.arg v y a,RVs.arg vs ys b⟩
section
variable{G:Gh}
theorem RVs.length:∀{v:List AV} {x:List Value},RVs G v x->x.length=v.length
 |[],x,r=>by simp only[RVs]at r;simp[r]
 |v::vs,x,r=>by simp only[RVs]at r;obtain⟨y,ys,rfl,_,b⟩:=r;simp[RVs.length b]
theorem RVs.get:∀{v:List AV} {x:List Value} {i:Nat} {a:AV},RVs G v x->v[i]?=some a->∃y,x[i]?=some y/\RV G a y
 |[],x,i,a,r,h=>by simp at h
 |v::vs,x,i,a,r,h=>by
  simp only[RVs]at r;obtain⟨y,ys,rfl,c,b⟩:=r;cases i with
  |zero=>simp at h;subst h;exact⟨y,rfl,c⟩
  |succ i=>simp at h;obtain⟨z,e,f⟩:=RVs.get b h;exact⟨z,by simpa using e,f⟩
theorem RVs.append:∀{v u:List AV} {x y:List Value},RVs G v x->RVs G u y->RVs G (v++u) (x++y)
 |[],u,x,y,r,s=>by simp only[RVs]at r;subst r;simpa using s
 |v::vs,u,x,y,r,s=>by simp only[RVs]at r;obtain⟨z,zs,rfl,c,b⟩:=r;simp only[List.cons_append,RVs];exact⟨z,zs++y,rfl,c,RVs.append b s⟩
theorem RVs.set:∀{v:List AV} {x:List Value} (i:Nat) {a:AV} {y:Value},RVs G v x->RV G a y->RVs G (v.set i a) (x.set i y)
 |[],x,i,a,y,r,s=>by simp only[RVs]at r;subst r;simp[RVs]
 |v::vs,x,i,a,y,r,s=>by
  simp only[RVs]at r;obtain⟨z,zs,rfl,c,b⟩:=r;cases i with
  |zero=>simp only[List.set_cons_zero,RVs];exact⟨y,zs,rfl,s,b⟩
  |succ i=>simp only[List.set_cons_succ,RVs];exact⟨z,zs.set i y,rfl,c,RVs.set i b s⟩
theorem RVs.take:∀{v:List AV} {x:List Value} (i:Nat),RVs G v x->RVs G (v.take i) (x.take i)
 |[],x,i,r=>by simp only[RVs]at r;subst r;simp[RVs]
 |v::vs,x,i,r=>by
  simp only[RVs]at r;obtain⟨z,zs,rfl,c,b⟩:=r;cases i with
  |zero=>simp[RVs]
  |succ i=>simp only[List.take_succ_cons,RVs];exact⟨z,zs.take i,rfl,c,RVs.take i b⟩
theorem RVs.drop:∀{v:List AV} {x:List Value} (i:Nat),RVs G v x->RVs G (v.drop i) (x.drop i)
 |[],x,i,r=>by simp only[RVs]at r;subst r;simp[RVs]
 |v::vs,x,i,r=>by
  simp only[RVs]at r;obtain⟨z,zs,rfl,c,b⟩:=r;cases i with
  |zero=>simp only[List.drop_zero,RVs];exact⟨z,zs,rfl,c,b⟩
  |succ i=>simp only[List.drop_succ_cons];exact RVs.drop i b
theorem RVs.replicate(n:Nat){a:AV}{y:Value}(h:RV G a y):RVs G (List.replicate n a) (List.replicate n y):=by
 induction n with
 |zero=>simp[RVs]
 |succ n ih=>simp only[List.replicate_succ,RVs];exact⟨y,_,rfl,h,ih⟩
theorem RVs.one{a:AV}{y:Value}(h:RV G a y):RVs G [a] [y]:=by simp only[RVs];exact⟨y,[],rfl,h,rfl⟩
theorem RC.get:∀{cs:List AV} {g q i:Nat} {a:AV},RC G g q cs->cs[i]?=some a->∃y,G.pr g (q+i)=some y/\RV G a y
 |[],g,q,i,a,r,h=>by simp at h
 |v::vs,g,q,i,a,r,h=>by
  simp only[RC]at r;obtain⟨⟨x,e,c⟩,b⟩:=r;cases i with
  |zero=>simp at h;subst h;exact⟨x,by simpa using e,c⟩
  |succ i=>simp at h;obtain⟨z,e,f⟩:=RC.get b h;exact⟨z,by rw[<-e];congr 1;omega,f⟩
theorem RC.of_get:∀{cs:List AV} {g q:Nat},(∀i a,cs[i]?=some a->∃y,G.pr g (q+i)=some y/\RV G a y)->RC G g q cs
 |[],g,q,h=>by simp only[RC]
 |c::cs,g,q,h=>by simp only[RC];refine⟨by simpa using h 0 c (by simp),RC.of_get fun i a hi=>?_⟩;obtain⟨y,e,f⟩:=h (i+1) a (by simpa using hi);exact⟨y,by rw[<-e];congr 1;omega,f⟩
theorem RC.drop{cs:List AV}{g q:Nat}(r:RC G g q cs)(k:Nat):RC G g (q+k) (cs.drop k):=
 RC.of_get fun i a hi=>by obtain⟨y,e,f⟩:=r.get (i:=k+i) (by simpa [List.getElem?_drop]using hi);exact⟨y,by rw[<-e];congr 1;omega,f⟩
theorem RC.take{cs:List AV}{g q:Nat}(r:RC G g q cs)(k:Nat):RC G g q (cs.take k):=
 RC.of_get fun i a hi=>by
  rw[List.getElem?_take]at hi;split at hi
  ·exact r.get hi
  ·cases hi
end
mutual
def ckV:AV->Value->Bool
 |.int k n,.int k' n'=>decide (k=k') && decide (n=n')
 |.bool a,.bool b=>a==b
 |.str a,.string b=>decide (a=b)
 |.nilp,.pointer none=>true
 |.nils,.slice none 0 0=>true
 |.nilm,.map none=>true
 |.nilf,.nilFunc=>true
 |.nili,.nilIface=>true
 |.iface t v,.iface u x=>decide (t=u) && ckV v x
 |.agg cs,.agg c=>ckVs cs c.toList
 |.tup cs,.tuple c=>ckVs cs c.toList
 |.fn f [] [],.func (.func g) a b=>decide (f=g) && a.isEmpty && b.isEmpty
 |_,_=>false
def ckVs:List AV->List Value->Bool
 |[],[]=>true
 |v::vs,x::xs=>ckV v x && ckVs vs xs
 |_,_=>false
end
mutual
theorem Xdr(G:Gh):∀(v:AV) (x:Value),ckV v x=true->RV G v x
 |.int k n,x,h=>by cases x<;>simp[ckV]at h;simp[RV,h]
 |.bool b,x,h=>by cases x<;>simp[ckV]at h;simp[RV,h]
 |.str s,x,h=>by cases x<;>simp[ckV]at h;simp[RV,h]
 |.nilp,x,h=>by
  cases x with
  |pointer a=>cases a<;>simp_all [RV,ckV]
  |_=>simp[ckV]at h
 |.nils,x,h=>by
  cases x with
  |slice a n c=>
   cases a with
   |none=>cases n<;>cases c<;>simp_all [ckV,RV]
   |some a=>simp[ckV]at h
  |_=>simp[ckV]at h
 |.nilm,x,h=>by
  cases x with
  |map a=>cases a<;>simp_all [RV,ckV]
  |_=>simp[ckV]at h
 |.nilf,x,h=>by cases x<;>simp[ckV]at h;simp[RV]
 |.nili,x,h=>by cases x<;>simp[ckV]at h;simp[RV]
 |.iface t v,x,h=>by cases x<;>simp[ckV]at h;simp only[RV];exact⟨_,by rw[h.1],Xdr G v _ h.2⟩
 |.agg cs,x,h=>by cases x<;>simp[ckV]at h;simp only[RV];exact⟨_,rfl,ckVs_sound G cs _ h⟩
 |.tup cs,x,h=>by cases x<;>simp[ckV]at h;simp only[RV];exact⟨_,rfl,ckVs_sound G cs _ h⟩
 |.fn f a b,x,h=>by
  cases a with
  |cons _ _=>simp[ckV]at h
  |nil=>
   cases b with
   |cons _ _=>simp[ckV]at h
   |nil=>
    cases x with
    |func fn p q=>
     cases fn with
     |func g=>
      simp[ckV]at h;obtain⟨⟨rfl,rfl⟩,rfl⟩:=h;simp only[RV];exact⟨#[], #[],rfl,by simp[RVs],by simp[RVs]⟩
     |_=>simp[ckV]at h
    |_=>simp[ckV]at h
 |.ptr _ _,x,h|.eptr _ _,x,h|.sl _ _ _,x,h|.map _,x,h|.yld _,x,h|.hs _ _,x,h=>by cases x<;>simp[ckV]at h
theorem ckVs_sound(G:Gh):∀(v:List AV) (x:List Value),ckVs v x=true->RVs G v x
 |[],x,h=>by cases x<;>simp[ckVs]at h;simp[RVs]
 |v::vs,x,h=>by
  cases x with
  |nil=>simp[ckVs]at h
  |cons y ys=>
   simp[ckVs]at h;simp only[RVs];exact⟨y,ys,rfl,Xdr G v y h.1,ckVs_sound G vs ys h.2⟩
end
section
variable(P:Program)(GT:Nat->Option (List AV))
def ckO:Operand->AO->Bool
 |.tmp t,.t n=>decide (t=n)
 |.const x,.c v=>ckV v x
 |.func f,.c v=>ckV v (.func (.func f) #[] #[])
 |.global g,.g n=>decide (g=n) && (GT n).isSome
 |_,_=>false
def ckOs:List Operand->List AO->Bool
 |[],[]=>true
 |x::xs,a::zq=>ckO GT x a && ckOs xs zq
 |_,_=>false
def Xgd:Option Operand->Option AO->Bool
 |none,none=>true
 |some x,some a=>ckO GT x a
 |_,_=>false
def szOf(t:TypeId):Option Nat:=(P.info? t).map (·.size)
def Xez(t:TypeId):Option Value:=(P.info? t).bind (·.zero)
def Xiq(t:TypeId)(z:AV):Bool:=
 match Xez P t with
 |some v=>ckV z v
 |none=>false
def Xjf(t:TypeId)(z:List AV):Bool:=
 match Xez P t with
 |some v=>ckVs z v.cells.toList
 |none=>false
def ckK(t:TypeId)(k:Option Nat):Bool:=
 match P.underlying t with
 |some (.struct _)|some (.array _ _)=>decide (szOf P t=k) && k.isSome
 |some _=>decide (k=none)
 |none=>false
def Xfc(t:TypeId)(i:Nat):Option Field:=
 match P.underlying t with
 |some (.struct fs)=>fs[i]?
 |_=>none
def Xa9(t:TypeId):Option TypeId:=
 match P.underlying t with
 |some (.slice e)=>some e
 |_=>none
def Xek(place:Nat->Option (Nat×Nat)):List (Nat×Operand)->List (Nat×Nat×AO)->Bool
 |[],[]=>true
 |(i,x)::r,(off,n,a)::s=>decide (place i=some (off,n)) && ckO GT x a && Xek place r s
 |_,_=>false
def Xde(fs:Array Field)(i:Nat):Option (Nat×Nat):=(fs[i]?).bind fun f=>(szOf P f.type).map fun n=>(f.offset,n)
def ckBK(t:TypeId)(y:Operand):BK->Bool
 |.num|.str=>true
 |.boo=>match P.underlying t with
  |some .bool=>true
  |_=>false
 |.sli=>match P.underlying t with
  |some (.slice _)=>true
  |_=>false
 |.fnc=>match P.underlying t with
  |some (.func ..)=>true
  |_=>false
 |.ifc=>(match P.underlying t with
  |some (.interface _)=>true
  |_=>false) && (match y with
  |.const .nilIface=>true
  |_=>false)
def Xjg(t:TypeId)(str:Bool):Bool:=
 match P.underlying t with
 |some (.int _)=>!str
 |some .string=>str
 |_=>false
def Xzw(c:Call)(str:Bool)(y:AO):Bool:=
 match c.callee,c.args.toList,c.argTypes.toList with
 |.builtin .len,[x],[t]=>(match P.underlying t with
  |some .string=>str
  |some (.slice _)=>!str
  |_=>false) && ckO GT x y
 |_,_,_=>false
def Xvc(c:Call)(sz bytes:Nat)(a b:AO):Bool:=
 match c.callee,c.args.toList,c.argTypes.toList with
 |.builtin .append,[x,y],[t,u]=>(match Xa9 P t with
  |some e=>(match P.info? e with
   |some i=>decide (i.size=sz) && decide (i.bytes=bytes) && decide (1<=bytes) && decide (1<=sz) && (match i.zero with
    |some v=>decide (v.cells.size=sz)
    |none=>false)
   |none=>false)
  |none=>false) && decide (t=u) && ckO GT x a && ckO GT y b
 |_,_,_=>false
def Xzv(c:Call)(a b:AO):Bool:=
 match c.callee,c.args.toList with
 |.builtin .min,[x,y]=>ckO GT x a && ckO GT y b
 |_,_=>false
def Xp5(c:Call)(g:Nat)(zq:List AO):Bool:=
 match c.callee with
 |.value (.func f)=>decide (f=g) && ckOs GT c.args.toList zq
 |_=>false
def Xp4(c:Call)(f:AO)(zq:List AO):Bool:=
 match c.callee with
 |.value x=>ckO GT x f && ckOs GT c.args.toList zq
 |_=>false
def ckOp(o:Op)(a:AOp):Bool:=
 match a with
 |.mv y=>(match o with
  |.move x=>ckO GT x y
  |.assign x=>ckO GT x y
  |_=>false)
 |.pick c' x' y'=>(match o with
  |.pick c x y=>ckO GT c c' && ckO GT x x' && ckO GT y y'
  |_=>false)
 |.alloc ty z=>(match o with
  |.alloc t=>decide (t=ty) && Xjf P t z
  |_=>false)
 |.box ty y=>(match o with
  |.box t x=>decide (t=ty) && ckO GT x y
  |_=>false)
 |.build z qs=>(match o with
  |.build t ps=>Xjf P t z && (match P.underlying t with
   |some (.struct fs)=>fs.all (fun f=>(szOf P f.type).isSome) && Xek GT (Xde P fs) ps.toList qs
   |some (.array _ e)=>(match szOf P e with
    |some n=>Xek GT (fun i=>some (i*n,n)) ps.toList qs
    |none=>false)
   |_=>false)
  |_=>false)
 |.bsl _ sz n z qs=>(match o with
  |.buildSlice t len ps=>(match Xa9 P t with
   |some e=>decide (szOf P e=some sz) && decide (n=len) && decide (len*sz<=16777216) && decide (1<=sz) && (match Xez P e with
    |some v=>ckVs z ((Array.range (len*sz)).map (v.cells[· % v.cells.size]!)).toList
    |none=>false) && Xek GT (fun i=>some (i*sz,sz)) ps.toList qs
   |none=>false)
  |_=>false)
 |.ld k y=>(match o with
  |.load t x=>ckK P t k && ckO GT x y
  |_=>false)
 |.st n q y=>(match o with
  |.store t p x=>decide (szOf P t=some n) && ckO GT p q && ckO GT x y
  |_=>false)
 |.nck y=>(match o with
  |.nilCheck x=>ckO GT x y
  |_=>false)
 |.fa off y=>(match o with
  |.fieldAddr t x i=>(match Xfc P t i with
   |some f=>decide (f.offset=off) && (match szOf P f.type with
    |some n=>decide (n≠0)
    |none=>false)
   |none=>false) && ckO GT x y
  |_=>false)
 |.ia sz y j=>(match o with
  |.indexAddr t x i=>(match Xa9 P t with
   |some e=>decide (szOf P e=some sz)
   |none=>false) && ckO GT x y && ckO GT i j
  |_=>false)
 |.iaa len sz y j=>(match o with
  |.indexAddr t x i=>(match P.underlying t with
   |some (.array n e)=>decide (n=len) && decide (szOf P e=some sz)
   |_=>false) && ckO GT x y && ckO GT i j
  |_=>false)
 |.ixs y j=>(match o with
  |.index t x i=>(match P.underlying t with
   |some .string=>true
   |_=>false) && ckO GT x y && ckO GT i j
  |_=>false)
 |.fld off k y=>(match o with
  |.field t x i=>(match Xfc P t i with
   |some f=>decide (f.offset=off) && ckK P f.type k
   |none=>false) && ckO GT x y
  |_=>false)
 |.ext n' y=>(match o with
  |.extract x n=>decide (n=n') && ckO GT x y
  |_=>false)
 |.bin K op' a b=>(match o with
  |.binOp op t x y _=>decide (op=op') && ckBK P t y K && ckO GT x a && ckO GT y b
  |_=>false)
 |.un op' a=>(match o with
  |.unOp op _ x=>decide (op=op') && ckO GT x a
  |_=>false)
 |.cvi k a=>(match o with
  |.convert s d x=>(P.underlying s).isSome && (match P.underlying d with
   |some (.int k')=>decide (k=k')
   |_=>false) && ckO GT x a
  |_=>false)
 |.cvs a=>(match o with
  |.convert s d x=>(match Xa9 P s with
   |some e=>(match P.underlying e with
    |some (.int .u8)=>true
    |_=>false)
   |none=>false) && (match P.underlying d with
   |some .string=>true
   |_=>false) && ckO GT x a
  |_=>false)
 |.mks sz bytes z a b=>(match o with
  |.makeSlice t l c=>(match Xa9 P t with
   |some e=>(match P.info? e with
    |some i=>decide (i.size=sz) && decide (i.bytes=bytes) && decide (z.length=sz) && decide (1<=sz) && (match i.zero with
     |some v=>ckVs z v.cells.toList
     |none=>false)
    |none=>false)
   |none=>false) && ckO GT l a && ckO GT c b
  |_=>false)
 |.mkh ty bytes z a b=>(match o with
  |.makeSlice t l c=>(match Xa9 P t with
   |some e=>decide (e=ty) && (match P.info? e with
    |some i=>decide (i.size=z.length) && decide (i.bytes=bytes) && decide (1<=z.length) && (match i.zero with
     |some v=>ckVs z v.cells.toList
     |none=>false)
    |none=>false)
   |none=>false) && ckO GT l a && ckO GT c b
  |_=>false)
 |.frz y=>(match o with
  |.move x=>ckO GT x y
  |.assign x=>ckO GT x y
  |_=>false)
 |.slc k y lo' hi'=>(match o with
  |.slice t x lo hi mx=>mx.isNone && (match k with
   |none=>(match P.underlying t with
    |some .string=>true
    |_=>false)
   |some sz=>(match Xa9 P t with
    |some e=>decide (szOf P e=some sz)
    |none=>false)) && ckO GT x y && Xgd GT lo lo' && Xgd GT hi hi'
  |_=>false)
 |.len str y=>(match o with
  |.call c=>Xzw P GT c str y
  |_=>false)
 |.app sz bytes a b=>(match o with
  |.call c=>Xvc P GT c sz bytes a b
  |_=>false)
 |.appw .. =>false
 |.mini a b=>(match o with
  |.call c=>Xzv GT c a b
  |_=>false)
 |.mki u a=>(match o with
  |.makeInterface t x=>decide (t=u) && (match P.underlying t with
   |some (.interface _)=>false
   |some _=>true
   |none=>false) && ckO GT x a
  |_=>false)
 |.mkf g a b=>(match o with
  |.makeFunc fn x y=>(match fn with
   |.func f=>decide (f=g) && ckOs GT x.toList a && ckOs GT y.toList b
   |_=>false)
  |_=>false)
 |.mkm=>(match o with
  |.makeMap _ r=>r.isNone
  |_=>false)
 |.lkp str z ok' a b=>(match o with
  |.lookup t m k ok=>(match P.underlying t with
   |some (.map key elem)=>Xjg P key str && Xiq P elem z
   |_=>false) && decide (ok=ok') && ckO GT m a && ckO GT k b
  |_=>false)
 |.upd str a b c=>(match o with
  |.mapUpdate t m k v=>(match P.underlying t with
   |some (.map key _)=>Xjg P key str
   |_=>false) && ckO GT m a && ckO GT k b && ckO GT v c
  |.insert t m k v=>(match P.underlying t with
   |some (.map key _)=>Xjg P key str
   |_=>false) && ckO GT m a && ckO GT k b && ckO GT v c
  |_=>false)
 |.ta u ok' z a=>(match o with
  |.typeAssert x _ t ok=>decide (t=u) && decide (ok=ok') && Xiq P t z && (match P.underlying t with
   |some (.interface _)=>false
   |some _=>true
   |none=>false) && ckO GT x a
  |_=>false)
 |.pan a=>(match o with
  |.panic x=>ckO GT x a
  |_=>false)
 |.call _ g zq=>(match o with
  |.call c=>Xp5 GT c g zq
  |_=>false)
 |.callv _ f zq=>(match o with
  |.call c=>Xp4 GT c f zq
  |_=>false)
def Xb1(ops:Array Oper)(o:Oper)(a:AOper):Bool:=
 decide (o.dst=a.dst) && ckOp P GT o.op a.op && (match o.guard,a.guard with
  |none,none=>true
  |some (j,b),some (t,b')=>decide (((ops[j]?).bind (·.dst))=some t) && (b==b')
  |_,_=>false)
def Xb7(ops:Array Oper):List Oper->List AOper->Bool
 |[],[]=>true
 |o::os,a::zq=>Xb1 P GT ops o a && Xb7 ops os zq
 |_,_=>false
def Xfg(ops:Array Oper):Nat->List Oper->List (AOper×Nat)->List Nat->Bool
  |_,[],[],_=>true
  |i,o::os,(_,m)::zq,ms=>decide (m=o.after.foldl (fun s e=>if Region.binds .any e then s|||2 ^ e.on|||ms.getD e.on 0 else s) 0) &&
      o.after.all (fun e=>!Region.binds .any e||decide (e.on<i)) && Xfg ops (i+1) os zq (ms++ [m])
  |_,_,_,_=>false
def Xb4:AO->List Nat
 |.t n=> [n]
 |_=> []
def AOp.tmps:AOp->List Nat
 |.alloc .. |.mkm=> []
 |.mv x|.box _ x|.ld _ x|.nck x|.fa _ x|.fld _ _ x|.ext _ x|.un _ x|.cvi _ x|.cvs x|.len _ x|.mki _ x|.ta _ _ _ x|.pan x|.frz x=>Xb4 x
 |.pick c x y=>Xb4 c++Xb4 x++Xb4 y
 |.build _ ps|.bsl _ _ _ _ ps=>ps.flatMap fun p=>Xb4 p.2.2
 |.st _ x y|.ia _ x y|.iaa _ _ x y|.ixs x y|.bin _ _ x y|.mks _ _ _ x y|.mkh _ _ _ x y|.app _ _ x y|.mini x y|.lkp _ _ _ x y=>Xb4 x++Xb4 y
 |.slc _ x lo hi=>Xb4 x++(lo.map Xb4).getD []++(hi.map Xb4).getD []
 |.mkf _ x y=>x.flatMap Xb4++y.flatMap Xb4
 |.appw _ _ x y v i=>Xb4 x++Xb4 y++Xb4 v++Xb4 i
 |.upd _ x y z=>Xb4 x++Xb4 y++Xb4 z
 |.call _ _ zq=>zq.flatMap Xb4
 |.callv _ f zq=>Xb4 f++zq.flatMap Xb4
def AOper.looks(a:AOper):List Nat:=a.op.tmps++(match a.guard with
 |some (t,_)=> [t]
 |none=> [])
def Xke(zq:List (AOper×Nat)):Bool:=
  zq.zipIdx.all fun(x,j)=>zq.zipIdx.all fun(y,i)=>
    !decide (i<j)||x.2.testBit i||
      (!(Xak x.1.op && Xak y.1.op) &&
       (match y.1.dst with
        |some d=>!x.1.looks.contains d && decide (x.1.dst≠some d)
        |none=>true) &&
       (match x.1.dst with
        |some d=>!y.1.looks.contains d
        |none=>true))
def Xry(o:Oper)(sz p v:Nat):Bool:=decide (o.dst=none) && decide (o.guard=none) && (match o.op with
 |.store t (.tmp a) (.tmp b)=>decide (szOf P t=some sz) && decide (a=p) && decide (b=v)
 |_=>false)
def ckX(ops:Array Oper)(zq:List (AOper×Nat)):Bool:=
 match zq.drop 8,ops.toList.drop 8 with
 |[(⟨some d8,.appw sz bts (.t dx) (.t dy) (.t dv) (.t di),none⟩,m8),(⟨some d9,.ia sz' (.t d8') (.t di'),none⟩,m9),(⟨none,.nck (.t d9'),none⟩,m10),(⟨some d11,.nck x11,none⟩,m11),(⟨some d12,.fa off x12,none⟩,m12),(⟨none,.st n x13 y13,none⟩,m13)],
  [o8,o9,o10,o11,o12,o13]=>
  Xb7 P GT ops (ops.toList.take 8) ((zq.take 8).map (·.1)) &&
  (Xb1 P GT ops o8 ⟨some d8,.app sz bts (.t dx) (.t dy),none⟩ && Xb1 P GT ops o9 ⟨some d9,.ia sz (.t d8) (.t di),none⟩ && Xry P o10 sz d9 dv &&
   Xb1 P GT ops o11 ⟨some d11,.nck x11,none⟩ && Xb1 P GT ops o12 ⟨some d12,.fa off x12,none⟩ && Xb1 P GT ops o13 ⟨none,.st n x13 y13,none⟩) &&
  (decide (sz'=sz) && decide (d8'=d8) && decide (di'=di) && decide (d9'=d9)) &&
  ([d8,d9,d11,d12].all (fun d=>decide (d≠dv) && decide (d≠di)) && [d9,d11,d12].all (fun d=>decide (d≠d8)) && [d11,d12].all (fun d=>decide (d≠d9))) &&
  zq.all (fun a=>decide (a.1.guard=none)) &&
  ((List.range 8).all (fun k=>m8.testBit k) && [m9,m10,m11,m12,m13].all (fun m=>m.testBit 8) && m10.testBit 9)
 |_,_=>false
def Xbk:Code->ACode->Bool
 |.skip,.skip=>true
 |.label _,.skip=>true
 |.region _ ops false,.reg zq=>Xb7 P GT ops ops.toList zq
 |.region _ ops true,.dreg zq=>(Xb7 P GT ops ops.toList (zq.map (·.1))||ckX P GT ops zq) && Xfg ops 0 ops.toList zq [] && Xke zq
 |.seq a b,.seq c d=>Xbk a c && Xbk b d
 |.cond c x y,.cond c' x' y'=>ckO GT c c' && Xbk x x' && Xbk y y'
 |.block i b,.block j c=>decide (i=j) && Xbk b c
 |.scope b,.scope c=>Xbk b c
 |.loop b,.loop c=>Xbk b c
 |.rangeFunc f ps a b,.rf g qs c d=>ckO GT f g && decide (ps.toList=qs) && Xbk a c && Xbk b d
 |.exit i,.exit j=>decide (i=j)
 |.ret,.ret=>true
 |_,.bad=>true
 |_,_=>false
def Xfx:List ResultVar->List ARes->Bool
 |[],[]=>true
 |.tmp t::r,.tmp u::s=>decide (t=u) && Xfx r s
 |.cell a t::r,.cell b k::s=>decide (a=b) && ckK P t k && Xfx r s
 |_,_=>false
def ckFn(f:Func)(a:AFn):Bool:=
 decide (f.ntmps=a.ntmps) && Xfx P f.results.toList a.res && (match f.body with
  |some c=>Xbk P GT c a.body
  |none=>false)
end
def REs(G:Gh):List (AV×AV)->List MapEntry->Prop
 |[],l=>l=[]
 |(k,v)::r,l=> ∃e es,l=e::es/\RV G k e.key/\RV G v e.val/\REs G r es
def Xjk:LState->LoopState->Prop
 |.ready,x=>x=.ready
 |.busy,x=>x=.busy
 |.done,x=>x=.done
 |.exhausted,x=>x=.exhausted
def Xnv:Option AJump->Option Code->Prop
 |none,x=>x=none
 |some .ret,x=>x=some .ret
 |some (.exit i),x=>x=some (.exit i)
section
variable(P:Program)(GT:Nat->Option (List AV))
def RB(G:Gh):ABlk->Obj->Prop
  |.cells t c,o=> ∃(cs:Array Value) (xs rest:List Value),o=.cells cs t (0,0)/\cs.toList=xs++rest/\RVs G c xs
  |.map es,o=> ∃ents clock,o=.map ents clock/\REs G es ents.toList
  |.loop s p _ t ps zq bd d,o=> ∃l:Loop,o=.loop l/\Xjk s l.state/\Xnv p l.pending/\RVs G t l.tmps.toList/\l.params.toList=ps/\
      Xbk P GT l.assign zq=true/\Xbk P GT l.body bd=true/\G.ι d=some l.defers
  |.dfr,o=>o=.deferred (some [])
  |.opq,_=>True
structure Inv(w0:World)(G:Gh)(st:St)(w:World):Prop where
 os:w.os=w0.os
 tape:w.tape=w0.tape
 output:w.output=w0.output
 size:w0.heap.size<=w.heap.size
 old:∀g,g<w0.heap.size->w.heap[g]?=w0.heap[g]?
 dom:G.Dom st.H.length st.I.length
 inj:∀b b' g,G.ι b=some g->G.ι b'=some g->b=b'
 new:∀b g,G.ι b=some g->w0.heap.size<=g
 blk:∀b o,st.H[b]?=some o->∃g x,G.ι b=some g/\w.heap[g]?=some x/\RB P GT G o x
 pr:∀g q v,G.pr g q=some v->w.cell? ⟨g,q,none⟩=some v
 prι:∀b g q,G.ι b=some g->st.H[b]?≠some .opq->G.pr g q=none
 arr:∀i n sz,st.I[i]?=some (n,sz)->∃g cap cur ty,G.ar i n=some (g,cap)/\w0.heap.size<=g/\(∀b,G.ι b≠some g)/\
  w.heap[g]?=some (.cells cur ty (0,0))/\cur.size=cap*sz/\n<=cap/\(∀q,n*sz<=q->G.pr g q=none)
 arhi:∀i n sz k,st.I[i]?=some (n,sz)->n<k->G.ar i k=none
 arinj:∀i i' n n' sz sz' g cap cap',st.I[i]?=some (n,sz)->st.I[i']?=some (n',sz')->G.ar i n=some (g,cap)->G.ar i' n'=some (g,cap')->i=i'
end
def World.setBlk(w:World)(g:Nat)(o:Obj):World:={w with heap:=w.heap.setIfInBounds g o}
section
variable{w:World}{g:Nat}{o:Obj}
theorem Xg8:(World.setBlk w g o).heap.size=w.heap.size:=by simp[World.setBlk]
theorem Xcw(h:g<w.heap.size):(World.setBlk w g o).heap[g]?=some o:=by simp[World.setBlk,h]
theorem Xbv{k:Nat}(h:k≠g):(World.setBlk w g o).heap[k]?=w.heap[k]?:=by simp only[World.setBlk];rw[Array.getElem?_setIfInBounds_ne (by omega)]
theorem Xfm(o':Obj):World.setBlk (World.setBlk w g o) g o'=World.setBlk w g o':=by simp[World.setBlk]
theorem Xg9{k q:Nat}(h:k≠g):(World.setBlk w g o).cell? ⟨k,q,none⟩=w.cell? ⟨k,q,none⟩:=by simp only[World.cell?];rw[Xbv h]
end
theorem Xci{w:World}{g q:Nat}{cs:Array Value}{t:TypeId}{f:Nat×Nat}(h:w.heap[g]?=some (.cells cs t f)):w.cell? ⟨g,q,none⟩=cs[q]?:=by simp[World.cell?,h]
theorem Xja{w:World}{g q:Nat}{cs:Array Value}{t:TypeId}(h:w.heap[g]?=some (.cells cs t (0,0))):w.frozen? ⟨g,q,none⟩=false:=by simp[World.frozen?,h]
theorem Xg7{w:World}{g q:Nat}{cs:Array Value}{t:TypeId}{f:Nat×Nat}{v:Value}(h:w.heap[g]?=some (.cells cs t f)):
    w.setCell ⟨g,q,none⟩ v=World.setBlk w g (.cells (cs.setIfInBounds q v) t f):=by
  obtain⟨hg,hx⟩:=Array.getElem?_eq_some_iff.1 h
  have e:w.heap.modify g (fun
      |.cells c elem frozen=>.cells (if(⟨g,q,none⟩:Addr).spot.isSome then c else c.setIfInBounds (⟨g,q,none⟩:Addr).off v) elem frozen
      |o=>o)=w.heap.setIfInBounds g (.cells (cs.setIfInBounds q v) t f):=by
    apply Array.ext_getElem?;intro i;rw[Array.getElem?_modify,Array.getElem?_setIfInBounds];by_cases hi:g=i
    ·subst hi;simp[hx,hg]
    ·simp[hi]
  exact congrArg (fun hp=>({w with heap:=hp}:World)) e
theorem Xb0(P:Program){g o:Nat}{t:TypeId}:∀(vs:List Value) (i:Nat) (cs:Array Value) (w:World),
  w.heap[g]?=some (.cells cs t (0,0))->o+i+vs.length<=cs.size->(∀v∈vs,v.oneCell'=true)->
  ∃cs':Array Value,(storeCells ⟨g,o,none⟩ vs i).run P w=.ok () (World.setBlk w g (.cells cs' t (0,0)))/\
   cs'.toList=cs.toList.take (o+i)++vs++cs.toList.drop (o+i+vs.length)
 |[],i,cs,w,h,hl,_=>by
  refine⟨cs,?_,by simp⟩
  have:World.setBlk w g (.cells cs t (0,0))=w:=by
   obtain⟨hg,hx⟩:=Array.getElem?_eq_some_iff.1 h
   have he:w.heap.setIfInBounds g (.cells cs t (0,0))=w.heap:=by
    apply Array.ext_getElem?;intro k;rw[Array.getElem?_setIfInBounds];by_cases hk:g=k
    ·subst hk;simp[hx,hg]
    ·simp[hk]
   exact congrArg (fun hp=>({w with heap:=hp}:World)) he
  rw[this];rfl
 |v::vs,i,cs,w,h,hl,ho=>by
  simp only[List.length_cons]at hl;have hv:=ho v (by simp);have h1:(w.setCell ⟨g,o+i,none⟩ v).heap[g]?=some (.cells (cs.setIfInBounds (o+i) v) t (0,0)):=by rw[Xg7 h,Xcw (Array.getElem?_eq_some_iff.1 h).1]
  obtain⟨cs',hr,hc⟩:=Xb0 P (g:=g) (o:=o) (t:=t) vs (i+1) (cs.setIfInBounds (o+i) v) (w.setCell ⟨g,o+i,none⟩ v) h1 (by simp;omega) (fun u hu=>ho u (by simp[hu]));refine⟨cs',?_,?_⟩
  ·simp only[storeCells,Sem.run_bind,Addr.add_lit];rw[run_store P w _ v _ hv,Xci h,Array.getElem?_eq_getElem (i:=o+i) (by omega)];simp only[Xja h];simp only[Bool.false_eq_true,if_false,Result.andThen_ok];rw[hr,Xg7 h,Xfm]
  ·rw[hc];have e1:o+(i+1)=o+i+1:=by omega
   rw[e1];simp only[Array.toList_setIfInBounds,List.length_cons];apply List.ext_getElem?;intro k;have hlen:cs.toList.length=cs.size:=by simp
   simp only[List.getElem?_append,List.length_append,List.length_take,List.getElem?_take,List.getElem?_drop,List.length_set,List.getElem?_set,List.length_cons,hlen];by_cases c1:k<o+i
   ·have a1:k<min (o+i+1) cs.size:=by omega
    have a2:k<min (o+i) cs.size:=by omega
    have a3:k<min (o+i+1) cs.size+vs.length:=by omega
    have a4:k<min (o+i) cs.size+(vs.length+1):=by omega
    have a5:k<o+i+1:=by omega
    have a6:¬o+i=k:=by omega
    simp[a1,a2,a3,a4,a5,a6,c1]
   ·by_cases c2:k=o+i
    ·subst c2;have a1:o+i<min (o+i+1) cs.size:=by omega
     have a3:o+i<min (o+i+1) cs.size+vs.length:=by omega
     have a2:¬(o+i<min (o+i) cs.size):=by omega
     have a4:o+i<min (o+i) cs.size+(vs.length+1):=by omega
     have a5:o+i - min (o+i) cs.size=0:=by omega
     have a6:o+i<cs.size:=by omega
     simp[a1,a2,a3,a4,a5,a6]
    ·by_cases c3:k<o+i+1+vs.length
     ·have a1:¬k<min (o+i+1) cs.size:=by omega
      have a3:k<min (o+i+1) cs.size+vs.length:=by omega
      have a2:¬(k<min (o+i) cs.size):=by omega
      have a4:k<min (o+i) cs.size+(vs.length+1):=by omega
      have a5:k - min (o+i) cs.size=(k - min (o+i+1) cs.size)+1:=by omega
      simp[a1,a2,a3,a4,a5]
     ·have a3:¬k<min (o+i+1) cs.size+vs.length:=by omega
      have a4:¬k<min (o+i) cs.size+(vs.length+1):=by omega
      have a6:¬o+i=o+i+1+vs.length+(k - (min (o+i+1) cs.size+vs.length)):=by omega
      have a7:o+i+1+vs.length+(k - (min (o+i+1) cs.size+vs.length))=o+i+(vs.length+1)+(k - (min (o+i) cs.size+(vs.length+1))):=by omega
      simp only[a3,a4,a6,if_false];rw[a7]
theorem REs.mono{G G':Gh}(h:G.Le G'):∀{l:List (AV×AV)} {m:List MapEntry},REs G l m->REs G' l m
 |[],m,r=>by simp only[REs]at r⊢;exact r
 |(k,v)::l,m,r=>by simp only[REs]at r⊢;obtain⟨e,es,h0,h1,h2,h3⟩:=r;exact⟨e,es,h0,h1.mono h,h2.mono h,REs.mono h h3⟩
section
variable{P:Program}{GT:Nat->Option (List AV)}{w0 w:World}{G G':Gh}{st:St}
theorem RB.mono(h:G.Le G'):∀{o:ABlk} {x:Obj},RB P GT G o x->RB P GT G' o x
 |.cells t c,x,r=>by simp only[RB]at r⊢;obtain⟨cs,xs,rest,e,e',a⟩:=r;exact⟨cs,xs,rest,e,e',a.mono h⟩
 |.map es,x,r=>by simp only[RB]at r⊢;obtain⟨n,c,e,a⟩:=r;exact⟨n,c,e,a.mono h⟩
 |.loop s p f t ps zq bd d,x,r=>by simp only[RB]at r⊢;obtain⟨l,e,a,b,c,d',e',f',g'⟩:=r;exact⟨l,e,a,b,c.mono h,d',e',f',h.ι _ _ g'⟩
 |.dfr,x,r=>by simp only[RB]at r⊢;exact r
 |.opq,x,r=>by simp only[RB]
theorem Inv.ιlt(H:Inv P GT w0 G st w){b g:Nat}(h:G.ι b=some g):b<st.H.length/\g<w.heap.size:=by
 have hb:b<st.H.length:=by
  rcases Nat.lt_or_ge b st.H.length with h'|h'
  ·exact h'
  ·rw[H.dom.ι b h']at h;cases h
 refine⟨hb,?_⟩;obtain⟨g',x,e,hx,_⟩:=H.blk b _ (List.getElem?_eq_getElem hb);rw[h]at e;cases e;exact(Array.getElem?_eq_some_iff.1 hx).1
theorem Inv.prlt(H:Inv P GT w0 G st w){g q:Nat}{v:Value}(h:G.pr g q=some v):g<w.heap.size:=
 World.block_lt_of_cell? w ⟨g,q,none⟩ (H.pr g q v h)
theorem Inv.blk'(H:Inv P GT w0 G st w){b g:Nat}{o:ABlk}(h:st.H[b]?=some o)(hg:G.ι b=some g):∃x,w.heap[g]?=some x/\RB P GT G o x:=by obtain⟨g',x,e,hx,r⟩:=H.blk b o h;rw[hg]at e;cases e;exact⟨x,hx,r⟩
theorem Inv.drew(H:Inv P GT w0 G st w):Inv P GT w0 G st w.drew:=
 ⟨H.os,H.tape,H.output,H.size,H.old,H.dom,H.inj,H.new,H.blk,H.pr,H.prι,H.arr,H.arhi,H.arinj⟩
theorem Xfy{x:Obj}{g:Nat}{y:Obj}(h:w.heap[g]?=some y):(w.alloc x).heap[g]?=some y:=by have hg:g<w.heap.size:=(Array.getElem?_eq_some_iff.1 h).1;show(w.heap.push x)[g]?=_;rw[Array.getElem?_push,if_neg (by omega)];exact h
theorem Xdv{x:Obj}:(w.alloc x).heap[w.heap.size]?=some x:=by show(w.heap.push x)[w.heap.size]?=_;simp
theorem Xdh{x:Obj}{g:Nat}(h:g<w.heap.size):(w.alloc x).heap[g]?=w.heap[g]?:=by show(w.heap.push x)[g]?=_;rw[Array.getElem?_push,if_neg (by omega)]
def Gh.withRow(G:Gh)(g:Nat)(cs:Array Value)(n:Nat):Gh:={G with pr:=fun k q=>if k=g then(if q<n then cs[q]? else none)else G.pr k q}
theorem Inv.le_row(H:Inv P GT w0 G st w)(cs:Array Value)(n:Nat):G.Le (G.withRow w.heap.size cs n):=
 ⟨fun _ _ h=>h,fun g q v h=>by have:=H.prlt h;simp only[Gh.withRow];rw[if_neg (by omega)];exact h,fun _ _ _ h=>h⟩
theorem Inv.row(H:Inv P GT w0 G st w)(cs:Array Value)(t:TypeId)(n:Nat):Inv P GT w0 (G.withRow w.heap.size cs n) st (w.alloc (.cells cs t)):=by
 have hle:=H.le_row cs n;refine⟨H.os,H.tape,H.output,by simp;have:=H.size;omega,fun g hg=>?_,⟨H.dom.ι,H.dom.ar⟩,H.inj,H.new,fun b o h=>?_,fun g q v h=>?_,fun b g q h=>?_,fun i k sz h=>?_,H.arhi,H.arinj⟩
 ·rw[Xdh (by have:=H.size;omega)];exact H.old g hg
 ·obtain⟨g,x,e,hx,r⟩:=H.blk b o h;exact⟨g,x,e,Xfy hx,r.mono hle⟩
 ·simp only[Gh.withRow]at h;split at h
  ·rename_i e;subst e;split at h
   ·rw[World.cell?_alloc_new];exact h
   ·cases h
  ·rw[World.cell?_alloc_lt _ _ _ (H.prlt h)];exact H.pr g q v h
 ·have:=H.ιlt h;simp only[Gh.withRow];rw[if_neg (by omega)];exact H.prι b g q h
 ·obtain⟨g,cap,cur,ty,h1,h2,h3,h4,h5,h6,h7⟩:=H.arr i k sz h;have hg:g<w.heap.size:=(Array.getElem?_eq_some_iff.1 h4).1;exact⟨g,cap,cur,ty,h1,h2,h3,Xfy h4,h5,h6,fun q hq=>by simp only[Gh.withRow];rw[if_neg (by omega)];exact h7 q hq⟩
theorem Xqn(G:Gh)(g:Nat)(cs:Array Value)(n:Nat)(vs:List AV)(h:RVs (G.withRow g cs n) vs (cs.toList.take n)):RC (G.withRow g cs n) g 0 vs:=
 RC.of_get fun i a hi=>by
  obtain⟨y,e,r⟩:=h.get hi;refine⟨y,?_,r⟩;simp only[Gh.withRow,if_true,Nat.zero_add];rw[List.getElem?_take]at e;split at e
  ·rename_i hlt;rw[if_pos hlt];simpa using e
  ·cases e
def Gh.withBlk(G:Gh)(b g:Nat):Gh:={G with ι:=fun k=>if k=b then some g else G.ι k}
theorem Inv.le_blk(H:Inv P GT w0 G st w)(g:Nat):G.Le (G.withBlk st.H.length g):=
 ⟨fun b g h=>by have:=H.ιlt h;simp only[Gh.withBlk];rw[if_neg (by omega)];exact h,fun _ _ _ h=>h,fun _ _ _ h=>h⟩
theorem Inv.alloc(H:Inv P GT w0 G st w){o:ABlk}{x:Obj}(r:RB P GT (G.withBlk st.H.length w.heap.size) o x):
  Inv P GT w0 (G.withBlk st.H.length w.heap.size) {st with H:=st.H++ [o]} (w.alloc x):=by
 have hle:=H.le_blk w.heap.size
 have hpr:∀q,G.pr w.heap.size q=none:=fun q=>by
  cases h:G.pr w.heap.size q with
  |none=>rfl
  |some v=>have:=H.prlt h;omega
 refine⟨H.os,H.tape,H.output,by simp;have:=H.size;omega,fun g hg=>?_,⟨fun b hb=>?_,H.dom.ar⟩,fun b b' g h h'=>?_,fun b g h=>?_,fun b o' h=>?_,fun g q v h=>?_,fun b g q h=>?_,fun i k sz h=>?_,H.arhi,H.arinj⟩
 ·rw[Xdh (by have:=H.size;omega)];exact H.old g hg
 ·simp only[List.length_append,List.length_cons,List.length_nil]at hb;simp only[Gh.withBlk];rw[if_neg (by omega)];exact H.dom.ι b (by omega)
 ·simp only[Gh.withBlk]at h h';split at h<;>split at h'
  ·omega
  ·cases h;have:=(H.ιlt h').2;omega
  ·cases h';have:=(H.ιlt h).2;omega
  ·exact H.inj b b' g h h'
 ·simp only[Gh.withBlk]at h;split at h
  ·cases h;exact H.size
  ·exact H.new b g h
 ·rw[List.getElem?_append]at h;split at h
  ·obtain⟨g,y,e,hy,r'⟩:=H.blk b o' h;exact⟨g,y,hle.ι _ _ e,Xfy hy,r'.mono hle⟩
  ·rename_i hb
   have hb':b - st.H.length=0:=by
    rcases Nat.eq_zero_or_pos (b - st.H.length)with h'|h'
    ·exact h'
    ·rw[List.getElem?_eq_none (by simp;omega)]at h;cases h
   rw[hb']at h;simp at h;subst h;have hb2:b=st.H.length:=by omega
   subst hb2;exact⟨w.heap.size,x,by simp[Gh.withBlk],Xdv,r⟩
 ·rw[World.cell?_alloc_lt _ _ _ (H.prlt (g:=g) (q:=q) (v:=v) h)];exact H.pr g q v h
 ·simp only[Gh.withBlk]at h;split at h
  ·cases h;exact fun _=>hpr q
  ·exact fun hno=>H.prι b g q h fun e=>hno (by rw[List.getElem?_append_left (H.ιlt h).1];exact e)
 ·obtain⟨g,cap,cur,ty,h1,h2,h3,h4,h5,h6,h7⟩:=H.arr i k sz h;have hg:g<w.heap.size:=(Array.getElem?_eq_some_iff.1 h4).1;refine⟨g,cap,cur,ty,h1,h2,fun b hb=>?_,Xfy h4,h5,h6,h7⟩;simp only[Gh.withBlk]at hb;split at hb
  ·cases hb;omega
  ·exact h3 b hb
theorem Inv.setBlk(H:Inv P GT w0 G st w){b g:Nat}{o:ABlk}{x:Obj}(hb:G.ι b=some g)(hno:st.H[b]?≠some .opq)(r:RB P GT G o x):
  Inv P GT w0 G {st with H:=st.H.set b o} (World.setBlk w g x):=by
 have hlt:=H.ιlt hb;have hnew:=H.new b g hb;refine⟨H.os,H.tape,H.output,by rw[Xg8];exact H.size,fun k hk=>?_,⟨fun k hk=>H.dom.ι k (by simpa using hk),H.dom.ar⟩,H.inj,H.new,fun k o' h=>?_,fun k q v h=>?_,fun k g' q h hn=>?_,fun i k sz h=>?_,H.arhi,H.arinj⟩
 ·rw[Xbv (by omega)];exact H.old k hk
 ·rw[List.getElem?_set]at h;split at h
  ·rename_i e;subst e;rw[if_pos hlt.1]at h;cases h;exact⟨g,x,hb,Xcw hlt.2,r⟩
  ·rename_i hne;obtain⟨k',y,e,hy,r'⟩:=H.blk k o' h;refine⟨k',y,e,?_,r'⟩;rw[Xbv (fun e'=>hne (by subst e';exact(H.inj _ _ _ e hb).symm))];exact hy
 ·have hne:k≠g:=fun e=>by subst e;rw[H.prι b k q hb hno]at h;cases h
  rw[Xg9 hne];exact H.pr k q v h
 ·by_cases hk:k=b
  ·subst hk;exact H.prι k g' q h hno
  ·exact H.prι k g' q h fun e=>hn (by show(st.H.set b o)[k]?=_;rw[List.getElem?_set,if_neg (fun e'=>hk e'.symm)];exact e)
 ·obtain⟨k',cap,cur,ty,h1,h2,h3,h4,h5,h6,h7⟩:=H.arr i k sz h;refine⟨k',cap,cur,ty,h1,h2,h3,?_,h5,h6,h7⟩;rw[Xbv (fun e=>h3 b (by rw[hb,e]))];exact h4
def Gh.withArr(G:Gh)(i n g cap:Nat):Gh:={G with ar:=fun k m=>if k=i/\m=n then some (g,cap)else G.ar k m}
theorem Inv.newArr(H:Inv P GT w0 G st w)(cs:Array Value)(t:TypeId)(n sz cap:Nat)(hc:cs.size=cap*sz)(hn:n<=cap):
    let G':=(G.withRow w.heap.size cs (n*sz)).withArr st.I.length n w.heap.size cap
    G.Le G'/\Inv P GT w0 G' {st with I:=st.I++ [(n,sz)]} (w.alloc (.cells cs t)):=by
  have H1:=H.row cs t (n*sz);have hle:=H.le_row cs (n*sz)
  have hle2:(G.withRow w.heap.size cs (n*sz)).Le ((G.withRow w.heap.size cs (n*sz)).withArr st.I.length n w.heap.size cap):=
    ⟨fun _ _ h=>h,fun _ _ _ h=>h,fun i k x h=>by
      simp only[Gh.withArr];split
      ·rename_i e;obtain⟨rfl,rfl⟩:=e;rw[H1.dom.ar _ _ (Nat.le_refl _)]at h;cases h
      ·exact h⟩
  refine⟨hle.trans hle2,?_⟩;refine⟨H1.os,H1.tape,H1.output,H1.size,H1.old,⟨H1.dom.ι,fun i k hi=>?_⟩,H1.inj,H1.new,fun b o h=>?_,H1.pr,H1.prι,fun i k sz' h=>?_,fun i k sz' j h hk=>?_,fun i i' k k' sz1 sz2 g c1 c2 h h' a a'=>?_⟩
  ·simp only[List.length_append,List.length_cons,List.length_nil]at hi;simp only[Gh.withArr];rw[if_neg (by omega)];exact H1.dom.ar i k (by omega)
  ·obtain⟨g,x,e,hx,r⟩:=H1.blk b o h;exact⟨g,x,e,hx,r.mono hle2⟩
  ·rw[List.getElem?_append]at h;split at h
   ·obtain⟨g,c,cur,ty,h1,h2⟩:=H1.arr i k sz' h;exact⟨g,c,cur,ty,hle2.ar _ _ _ h1,h2⟩
   ·rename_i hb
    have hb':i - st.I.length=0:=by
      rcases Nat.eq_zero_or_pos (i - st.I.length)with h'|h'
      ·exact h'
      ·rw[List.getElem?_eq_none (by simp;omega)]at h;cases h
    rw[hb']at h;simp at h;obtain⟨rfl,rfl⟩:=h;have hb2:i=st.I.length:=by omega
    subst hb2;refine⟨w.heap.size,cap,cs,t,by simp[Gh.withArr],H.size,fun b hb=>?_,Xdv,hc,hn,fun q hq=>?_⟩
    ·have:=(H.ιlt (b:=b) (g:=w.heap.size) hb).2;omega
    ·simp only[Gh.withArr,Gh.withRow,if_true];rw[if_neg (by omega)]
  ·rw[List.getElem?_append]at h;simp only[Gh.withArr];split at h
   ·rename_i hlt;rw[if_neg (by omega)];exact H1.arhi i k sz' j h hk
   ·rename_i hb
    have hb':i - st.I.length=0:=by
      rcases Nat.eq_zero_or_pos (i - st.I.length)with h'|h'
      ·exact h'
      ·rw[List.getElem?_eq_none (by simp;omega)]at h;cases h
    rw[hb']at h;simp at h;obtain⟨rfl,rfl⟩:=h;rw[if_neg (by omega)];exact H1.dom.ar i j (by omega)
  ·have key:∀i k sz1 g c1,(st.I++ [(n,sz)])[i]?=some (k,sz1)->((G.withRow w.heap.size cs (n*sz)).withArr st.I.length n w.heap.size cap).ar i k=some (g,c1)->
        (i=st.I.length/\g=w.heap.size)\/(st.I[i]?=some (k,sz1)/\G.ar i k=some (g,c1)/\g<w.heap.size):=by
      intro i k sz1 g c1 h a;rw[List.getElem?_append]at h;split at h
      ·rename_i hlt;simp only[Gh.withArr]at a;rw[if_neg (by omega)]at a;obtain⟨g',c',cur,ty,e1,_,_,e4,_⟩:=H.arr i k sz1 h;have:G.ar i k=some (g,c1):=a;rw[e1]at this;cases this;exact .inr ⟨h,e1,(Array.getElem?_eq_some_iff.1 e4).1⟩
      ·have hb':i - st.I.length=0:=by
          rcases Nat.eq_zero_or_pos (i - st.I.length)with h'|h'
          ·exact h'
          ·rw[List.getElem?_eq_none (by simp;omega)]at h;cases h
       rw[hb']at h;simp at h;obtain⟨rfl,rfl⟩:=h;have hb2:i=st.I.length:=by omega
       subst hb2;simp[Gh.withArr]at a;exact .inl ⟨rfl,a.1.symm⟩
   rcases key _ _ _ _ _ h a with⟨e1,e2⟩|⟨e1,e2,e3⟩<;>rcases key _ _ _ _ _ h' a' with⟨f1,f2⟩|⟨f1,f2,f3⟩
   ·omega
   ·omega
   ·omega
   ·exact H.arinj _ _ _ _ _ _ _ _ _ e1 f1 e2 f2
theorem Inv.setArr(H:Inv P GT w0 G st w){i n sz k g cap:Nat}{cur:Array Value}{ty:TypeId}(hI:st.I[i]?=some (n,sz))(hk:n<k)
    (h2:w0.heap.size<=g) (h3:∀b,G.ι b≠some g) (h4:w.heap[g]?=some (.cells cur ty (0,0))) (h5:cur.size=cap*sz) (h6:k<=cap)
    (h7:∀q,k*sz<=q->G.pr g q=none) (h8:∀i' n' sz' cap',i'≠i->st.I[i']?=some (n',sz')->G.ar i' n'≠some (g,cap')):
    G.Le (G.withArr i k g cap)/\Inv P GT w0 (G.withArr i k g cap) {st with I:=st.I.set i (k,sz)} w:=by
  have hlt:i<st.I.length:=uB hI
  have hle:G.Le (G.withArr i k g cap):=⟨fun _ _ h=>h,fun _ _ _ h=>h,fun j m x h=>by
    simp only[Gh.withArr];split
    ·rename_i e;obtain⟨rfl,rfl⟩:=e;rw[H.arhi _ _ _ _ hI hk]at h;cases h
    ·exact h⟩
  refine⟨hle,H.os,H.tape,H.output,H.size,H.old,⟨H.dom.ι,fun j m hj=>?_⟩,H.inj,H.new,fun b o h=>?_,H.pr,H.prι,fun j m sz' h=>?_,fun j m sz' l h hl=>?_,fun j j' m m' s1 s2 g' c1 c2 h h' a a'=>?_⟩
  ·simp only[List.length_set]at hj;simp only[Gh.withArr];rw[if_neg (by omega)];exact H.dom.ar j m hj
  ·obtain⟨g',x,e,hx,r⟩:=H.blk b o h;exact⟨g',x,e,hx,r.mono hle⟩
  ·rw[List.getElem?_set]at h;split at h
   ·rename_i e;subst e;cases h;exact⟨g,cap,cur,ty,by simp[Gh.withArr],h2,h3,h4,h5,h6,h7⟩
   ·obtain⟨g',c,cur',ty',e1,e2⟩:=H.arr j m sz' h;exact⟨g',c,cur',ty',hle.ar _ _ _ e1,e2⟩
  ·rw[List.getElem?_set]at h;simp only[Gh.withArr];split at h
   ·rename_i e;subst e;cases h;rw[if_neg (by omega)];exact H.arhi i n sz l hI (by omega)
   ·rename_i hne;rw[if_neg (fun e=>hne e.1.symm)];exact H.arhi j m sz' l h hl
  ·have key:∀j m s1 g' c1,(st.I.set i (k,sz))[j]?=some (m,s1)->(G.withArr i k g cap).ar j m=some (g',c1)->(j=i/\g'=g)\/(j≠i/\st.I[j]?=some (m,s1)/\G.ar j m=some (g',c1)):=by
      intro j m s1 g' c1 h a;rw[List.getElem?_set]at h;simp only[Gh.withArr]at a;split at h
      ·rename_i e;subst e;cases h;simp at a;exact .inl ⟨rfl,a.1.symm⟩
      ·rename_i hne;rw[if_neg (fun e=>hne e.1.symm)]at a;exact .inr ⟨fun e=>hne e.symm,h,a⟩
   rcases key _ _ _ _ _ h a with⟨e1,e2⟩|⟨e1,e2,e3⟩<;>rcases key _ _ _ _ _ h' a' with⟨f1,f2⟩|⟨f1,f2,f3⟩
   ·omega
   ·subst e2;exact absurd f3 (h8 _ _ _ _ f1 f2)
   ·subst f2;exact absurd e3 (h8 _ _ _ _ e1 e2)
   ·exact H.arinj _ _ _ _ _ _ _ _ _ e2 f2 e3 f3
def Gh.withMore(G:Gh)(g lo hi:Nat)(cs:Array Value):Gh:={G with pr:=fun k q=>if k=g/\lo<=q/\q<hi then cs[q]? else G.pr k q}
theorem Inv.moreArr(H:Inv P GT w0 G st w){i n sz k g cap:Nat}{cur cur':Array Value}{ty:TypeId}(hI:st.I[i]?=some (n,sz))(hk:n<k)(hG:G.ar i n=some (g,cap))
    (h4:w.heap[g]?=some (.cells cur ty (0,0))) (h5:cur.size=cap*sz) (h6:k<=cap) (hs:cur'.size=cur.size) (hsame:∀q,q<n*sz->cur'[q]?=cur[q]?):
    let G':=(G.withMore g (n*sz) (k*sz) cur').withArr i k g cap
    G.Le G'/\Inv P GT w0 G' {st with I:=st.I.set i (k,sz)} (World.setBlk w g (.cells cur' ty (0,0))):=by
  have hlt:i<st.I.length:=uB hI;have hg:g<w.heap.size:=(Array.getElem?_eq_some_iff.1 h4).1;obtain⟨g1,cap1,cur1,ty1,e1,e2,e3,e4,e5,e6,e7⟩:=H.arr i n sz hI;rw[hG]at e1;cases e1;rw[h4]at e4;cases e4
  have hle1:G.Le (G.withMore g (n*sz) (k*sz) cur'):=⟨fun _ _ h=>h,fun g' q v h=>by
    simp only[Gh.withMore];split
    ·rename_i e;obtain⟨rfl,e,_⟩:=e;rw[e7 q e]at h;cases h
    ·exact h,fun _ _ _ h=>h⟩
  have hle2:(G.withMore g (n*sz) (k*sz) cur').Le ((G.withMore g (n*sz) (k*sz) cur').withArr i k g cap):=⟨fun _ _ h=>h,fun _ _ _ h=>h,fun j m x h=>by
    simp only[Gh.withArr];split
    ·rename_i e;obtain⟨rfl,rfl⟩:=e;have:G.ar j m=some x:=h;rw[H.arhi _ _ _ _ hI hk]at this;cases this
    ·exact h⟩
  have hle:=hle1.trans hle2;have hother:∀j m sz' g' c,j≠i->st.I[j]?=some (m,sz')->G.ar j m=some (g',c)->g'≠g:=fun j m sz' g' c hj h a e=>by subst e;exact hj (H.arinj _ _ _ _ _ _ _ _ _ h hI a hG)
  refine⟨hle,H.os,H.tape,H.output,by rw[Xg8];exact H.size,fun k' hk'=>?_,⟨H.dom.ι,fun j m hj=>?_⟩,H.inj,H.new,fun b o h=>?_,fun g' q v h=>?_,fun b g' q h=>?_,fun j m sz' h=>?_,fun j m sz' l h hl=>?_,fun j j' m m' s1 s2 g' c1 c2 h h' a a'=>?_⟩
  ·rw[Xbv (by omega)];exact H.old k' hk'
  ·simp only[List.length_set]at hj;simp only[Gh.withArr];rw[if_neg (by omega)];exact H.dom.ar j m hj
  ·obtain⟨g',x,e,hx,r⟩:=H.blk b o h;refine⟨g',x,e,?_,r.mono hle⟩;rw[Xbv (fun e'=>e3 b (by rw[e,e']))];exact hx
  ·simp only[Gh.withArr,Gh.withMore]at h;split at h
   ·rename_i e;obtain⟨rfl,_,_⟩:=e;rw[Xci (Xcw hg)];exact h
   ·rename_i hne;by_cases eg:g'=g
    ·subst eg
     have hq:q<n*sz:=by
       rcases Nat.lt_or_ge q (n*sz)with h'|h'
       ·exact h'
       ·rw[e7 q h']at h;cases h
     rw[Xci (Xcw hg),hsame q hq,<-Xci (q:=q) h4];exact H.pr _ q v h
    ·rw[Xg9 eg];exact H.pr g' q v h
  ·have hne:g'≠g:=fun e=>e3 b (by rw[<-e];exact h);simp only[Gh.withArr,Gh.withMore];rw[if_neg (fun e=>hne e.1)];exact H.prι b g' q h
  ·rw[List.getElem?_set]at h;split at h
   ·rename_i e;subst e;cases h;refine⟨g,cap,cur',ty,by simp[Gh.withArr],e2,e3,Xcw hg,by omega,h6,fun q hq=>?_⟩;simp only[Gh.withArr,Gh.withMore];rw[if_neg (by omega)];exact e7 q (Nat.le_trans (Nat.mul_le_mul_right _ (Nat.le_of_lt hk)) hq)
   ·rename_i hne;obtain⟨g',c,cur2,ty',f1,f2,f3,f4,f5,f6,f7⟩:=H.arr j m sz' h;have hg':=hother j m sz' g' c (fun e=>hne e.symm) h f1;refine⟨g',c,cur2,ty',hle.ar _ _ _ f1,f2,f3,by rw[Xbv hg'];exact f4,f5,f6,fun q hq=>?_⟩;simp only[Gh.withArr,Gh.withMore];rw[if_neg (fun e=>hg' e.1)];exact f7 q hq
  ·rw[List.getElem?_set]at h;simp only[Gh.withArr];split at h
   ·rename_i e;subst e;cases h;rw[if_neg (by omega)];exact H.arhi i n sz l hI (by omega)
   ·rename_i hne;rw[if_neg (fun e=>hne e.1.symm)];exact H.arhi j m sz' l h hl
  ·have key:∀j m s1 g' c1,(st.I.set i (k,sz))[j]?=some (m,s1)->((G.withMore g (n*sz) (k*sz) cur').withArr i k g cap).ar j m=some (g',c1)->(j=i/\g'=g)\/(j≠i/\st.I[j]?=some (m,s1)/\G.ar j m=some (g',c1)):=by
      intro j m s1 g' c1 h a;rw[List.getElem?_set]at h;simp only[Gh.withArr,Gh.withMore]at a;split at h
      ·rename_i e;subst e;cases h;simp at a;exact .inl ⟨rfl,a.1.symm⟩
      ·rename_i hne;rw[if_neg (fun e=>hne e.1.symm)]at a;exact .inr ⟨fun e=>hne e.symm,h,a⟩
   rcases key _ _ _ _ _ h a with⟨f1,f2⟩|⟨f1,f2,f3⟩<;>rcases key _ _ _ _ _ h' a' with⟨k1,k2⟩|⟨k1,k2,k3⟩
   ·omega
   ·exact absurd f2 (hother _ _ _ _ _ k1 k2 k3)
   ·exact absurd k2 (hother _ _ _ _ _ f1 f2 f3)
   ·exact H.arinj _ _ _ _ _ _ _ _ _ f2 k2 f3 k3
def St.cut(st:St)(n m:Nat):St:={H:=st.H.take n,I:=st.I.take m}
def Closed(n m:Nat)(st:St):Prop:=∀b o,b<n->st.H[b]?=some o->Xa5 n m (Xb5 o)=true
theorem REs.cut{n m:Nat}:∀{l:List (AV×AV)} {e:List MapEntry},Xa5 n m (AV.refsL (Xc0 l))=true->REs G l e->REs (G.cut n m) l e
 |[],e,_,r=>by simp only[REs]at r⊢;exact r
 |(k,v)::l,e,h,r=>by simp only[REs]at r⊢;obtain⟨e',es,h0,h1,h2,h3⟩:=r;simp only[Xc0,List.flatMap_cons,List.cons_append,List.nil_append,AV.refsL,Xbw,Bool.and_eq_true]at h;exact⟨e',es,h0,RV.cut k _ h.1 h1,RV.cut v _ h.2.1 h2,REs.cut h.2.2 h3⟩
theorem RB.cut{n m:Nat}:∀{o:ABlk} {x:Obj},Xa5 n m (Xb5 o)=true->RB P GT G o x->RB P GT (G.cut n m) o x
 |.cells t c,x,h,r=>by simp only[RB]at r⊢;obtain⟨cs,xs,rest,e,e',a⟩:=r;exact⟨cs,xs,rest,e,e',RVs.cut c _ h a⟩
 |.map es,x,h,r=>by simp only[RB]at r⊢;obtain⟨k,c,e,a⟩:=r;exact⟨k,c,e,a.cut h⟩
 |.loop s p f t ps zq bd d,x,h,r=>by
  simp only[RB]at r⊢;obtain⟨l,e,a,b,c,d',e',f',g'⟩:=r;have h':d<n/\Xa5 n m (AV.refsL t)=true:=by simpa [Xb5,Xa5]using h
  exact⟨l,e,a,b,RVs.cut t _ h'.2 c,d',e',f',by simp[Gh.cut,h'.1,g']⟩
 |.dfr,x,h,r=>by simp only[RB]at r⊢;exact r
 |.opq,x,h,r=>by simp only[RB]
theorem Inv.cut(H:Inv P GT w0 G st w){n m:Nat}(hc:Closed n m st):Inv P GT w0 (G.cut n m) (st.cut n m) w:=by
 have hι:∀b g,(G.cut n m).ι b=some g->b<n/\G.ι b=some g:=fun b g h=>by
  simp only[Gh.cut]at h;split at h
  ·rename_i hb;exact⟨hb,h⟩
  ·cases h
 have har:∀i k x,(G.cut n m).ar i k=some x->i<m/\G.ar i k=some x:=fun i k x h=>by
  simp only[Gh.cut]at h;split at h
  ·rename_i hb;exact⟨hb,h⟩
  ·cases h
 have hI:∀i x,(st.cut n m).I[i]?=some x->i<m/\st.I[i]?=some x:=fun i x h=>by
  simp only[St.cut,List.getElem?_take]at h;split at h
  ·rename_i hb;exact⟨hb,h⟩
  ·cases h
 refine⟨H.os,H.tape,H.output,H.size,H.old,⟨fun b hb=>?_,fun i k hi=>?_⟩,fun b b' g h h'=>H.inj b b' g (hι _ _ h).2 (hι _ _ h').2,fun b g h=>H.new b g (hι _ _ h).2,fun b o h=>?_,H.pr,fun b g q h hn=>H.prι b g q (hι _ _ h).2 (fun e=>hn (by show(st.H.take n)[b]?=_;rw[List.getElem?_take,if_pos (hι _ _ h).1];exact e)),fun i k sz h=>?_,fun i k sz j h hj=>?_,fun i i' k k' s1 s2 g c1 c2 h h' a a'=>H.arinj _ _ _ _ _ _ _ _ _ (hI _ _ h).2 (hI _ _ h').2 (har _ _ _ a).2 (har _ _ _ a').2⟩
 ·simp only[St.cut,List.length_take]at hb;simp only[Gh.cut];split
  ·exact H.dom.ι b (by omega)
  ·rfl
 ·simp only[St.cut,List.length_take]at hi;simp only[Gh.cut];split
  ·exact H.dom.ar i k (by omega)
  ·rfl
 ·simp only[St.cut,List.getElem?_take]at h;split at h
  ·rename_i hb;obtain⟨g,x,e,hx,r⟩:=H.blk b o h;exact⟨g,x,by simp[Gh.cut,hb,e],hx,r.cut (hc b o hb h)⟩
  ·cases h
 ·obtain⟨him,h'⟩:=hI _ _ h;obtain⟨g,c,cur,ty,e1,e2,e3,e4,e5,e6,e7⟩:=H.arr i k sz h';exact⟨g,c,cur,ty,by simp[Gh.cut,him,e1],e2,fun b hb=>e3 b (hι _ _ hb).2,e4,e5,e6,e7⟩
 ·obtain⟨him,h'⟩:=hI _ _ h;simp only[Gh.cut];rw[if_pos him];exact H.arhi i k sz j h' hj
theorem Gh.Le.cut{n m:Nat}(h:G.Le G')(D:G.Dom n m):G.Le (G'.cut n m):=
 ⟨fun b g e=>by
  have:b<n:=by
   rcases Nat.lt_or_ge b n with h'|h'
   ·exact h'
   ·rw[D.ι b h']at e;cases e
  simp only[Gh.cut];rw[if_pos this];exact h.ι _ _ e,h.pr,fun i k x e=>by
  have:i<m:=by
   rcases Nat.lt_or_ge i m with h'|h'
   ·exact h'
   ·rw[D.ar i k h']at e;cases e
  simp only[Gh.cut];rw[if_pos this];exact h.ar _ _ _ e⟩
end
def OpRun(P:Program)(GT:Nat->Option (List AV))(w0:World)(G:Gh)(w:World)(st:St)(run:Result Next)(r:Rt AV)(st':St):Prop:=
 match r with
 |.ok v=> ∃x w' G',(run=.ok (.value x) w'\/(run=.ok .skip w'/\x=Go.undef))/\G.Le G'/\Inv P GT w0 G' st' w'/\RV G' v x
 |.pan v=>st'=st/\∃x,run=.halt (.panic x) w/\RV G v x
section
variable{P:Program}{GT:Nat->Option (List AV)}{w0 w:World}{G:Gh}{st st':St}{E:Env}{ev:AO->AV}{ρ:Operand->Value}{r:Rt AV}{o:Oper}
theorem OpRun.same{run:Result Next}{v:AV}{x:Value}(hI:Inv P GT w0 G st w)(hr:run=.ok (.value x) w)(hv:RV G v x):OpRun P GT w0 G w st run (.ok v) st:=
 ⟨x,w,G,.inl hr,.refl G,hI,hv⟩
theorem RV.cells{v:AV}{x:Value}(h:RV G v x):RVs G v.cells x.cells.toList:=by
 cases v with
 |agg cs=>simp only[RV]at h;obtain⟨c,rfl,a⟩:=h;exact a
 |int=>simp only[RV]at h;subst h;simp[AV.cells,Value.cells,RVs,RV]
 |bool=>simp only[RV]at h;subst h;simp[AV.cells,Value.cells,RVs,RV]
 |str=>simp only[RV]at h;subst h;simp[AV.cells,Value.cells,RVs,RV]
 |nilp=>simp only[RV]at h;subst h;simp[AV.cells,Value.cells,RVs,RV]
 |nils=>simp only[RV]at h;subst h;simp[AV.cells,Value.cells,RVs,RV]
 |nilm=>simp only[RV]at h;subst h;simp[AV.cells,Value.cells,RVs,RV]
 |nilf=>simp only[RV]at h;subst h;simp[AV.cells,Value.cells,RVs,RV]
 |nili=>simp only[RV]at h;subst h;simp[AV.cells,Value.cells,RVs,RV]
 |ptr b q=>have h':=h;simp only[RV]at h;obtain⟨g,_,rfl⟩:=h;exact RVs.one h'
 |map b=>have h':=h;simp only[RV]at h;obtain⟨g,_,rfl⟩:=h;exact RVs.one h'
 |hs b n=>have h':=h;simp only[RV]at h;obtain⟨g,k,_,rfl,_⟩:=h;exact RVs.one h'
 |yld b=>have h':=h;simp only[RV]at h;obtain⟨g,_,rfl⟩:=h;exact RVs.one h'
 |eptr c q=>have h':=h;simp only[RV]at h;obtain⟨g,k,rfl,_⟩:=h;exact RVs.one h'
 |sl i n c=>
  have h':=h;cases i with
  |none=>simp only[RV]at h;obtain⟨A,k,rfl,_⟩:=h;exact RVs.one h'
  |some i=>simp only[RV]at h;obtain⟨A,k,_,rfl,_⟩:=h;exact RVs.one h'
 |fn f a b=>have h':=h;simp only[RV]at h;obtain⟨fa,fb,rfl,_⟩:=h;exact RVs.one h'
 |iface t v=>have h':=h;simp only[RV]at h;obtain⟨y,rfl,_⟩:=h;exact RVs.one h'
 |tup vs=>have h':=h;simp only[RV]at h;obtain⟨c,rfl,_⟩:=h;exact RVs.one h'
theorem RV.one{v:AV}{x:Value}(h:RV G v x)(hv:v.one=true):x.oneCell'=true:=by
 cases v with
 |agg cs=>simp[AV.one]at hv
 |tup cs=>simp[AV.one]at hv
 |int=>simp only[RV]at h;subst h;rfl
 |bool=>simp only[RV]at h;subst h;rfl
 |str=>simp only[RV]at h;subst h;rfl
 |nilp=>simp only[RV]at h;subst h;rfl
 |nils=>simp only[RV]at h;subst h;rfl
 |nilm=>simp only[RV]at h;subst h;rfl
 |nilf=>simp only[RV]at h;subst h;rfl
 |nili=>simp only[RV]at h;subst h;rfl
 |ptr b q=>simp only[RV]at h;obtain⟨g,_,rfl⟩:=h;rfl
 |map b=>simp only[RV]at h;obtain⟨g,_,rfl⟩:=h;rfl
 |hs b n=>simp only[RV]at h;obtain⟨g,k,_,rfl,_⟩:=h;rfl
 |yld b=>simp only[RV]at h;obtain⟨g,_,rfl⟩:=h;rfl
 |eptr c q=>simp only[RV]at h;obtain⟨g,k,rfl,_⟩:=h;rfl
 |sl i n c=>
  cases i with
  |none=>simp only[RV]at h;obtain⟨A,k,rfl,_⟩:=h;rfl
  |some i=>simp only[RV]at h;obtain⟨A,k,_,rfl,_⟩:=h;rfl
 |fn f a b=>simp only[RV]at h;obtain⟨fa,fb,rfl,_⟩:=h;rfl
 |iface t v=>simp only[RV]at h;obtain⟨y,rfl,_⟩:=h;rfl
theorem RVs.ones:∀{v:List AV} {x:List Value},RVs G v x->v.all AV.one=true->∀y∈x,y.oneCell'=true
 |[],x,h,_,y,hy=>by simp only[RVs]at h;subst h;cases hy
 |v::vs,x,h,ho,y,hy=>by
  simp only[RVs]at h;obtain⟨z,zs,rfl,a,b⟩:=h;simp only[List.all_cons,Bool.and_eq_true]at ho;rcases List.mem_cons.1 hy with rfl|hy
  ·exact a.one ho.1
  ·exact RVs.ones b ho.2 y hy
theorem Xha{t:TypeId}{i:Nat}{f:Field}(hf:Xfc P t i=some f){n:Nat}(hn:szOf P f.type=some n)(h0:n≠0)(g q:Nat)(w:World):
  (Instr.fieldAt t (.pointer (some ⟨g,q,none⟩)) i).run P w=.ok (.pointer (some ⟨g,q+f.offset,none⟩)) w:=by
 unfold Xfc at hf;split at hf
 ·rename_i fs hu;unfold szOf at hn;cases hi:P.info? f.type with
  |none=>simp[hi]at hn
  |some info=>
   simp[hi]at hn;simp only[Instr.fieldAt,Sem.run_bind,run_underlying hu,Result.andThen_ok,hf,Instr.sureAddr,Sem.run_pure,fieldPlace,sizeOf,typeInfo,run_program,hi];rw[if_neg (by omega)];simp[Addr.add_lit]
 ·cases hf
variable(hO:∀x a,ckO GT x a=true->RV G (ev a) (ρ x))
include hO
theorem Xds:∀{xs:List Operand} {zq:List AO},ckOs GT xs zq=true->RVs G (zq.map ev) (xs.map ρ)
 |[],[],_=>by simp[RVs]
 |[],_::_,h=>by simp[ckOs]at h
 |_::_,[],h=>by simp[ckOs]at h
 |x::xs,a::zq,h=>by simp only[ckOs,Bool.and_eq_true]at h;simp only[List.map_cons,RVs];exact⟨_,_,rfl,hO _ _ h.1,Xds h.2⟩
variable(hI:Inv P GT w0 G st w)
include hI
theorem Jdc{x:AO}(hck:ckOp P GT o.op (.mv x)=true)(h:aOp E st ev (.mv x)=some (r,st')):OpRun P GT w0 G w st ((execOp ρ o).run P w) r st':=by
 obtain⟨dst,op,type,pos,after,guard⟩:=o;simp only[aOp,Xas,Option.some.injEq,Prod.mk.injEq]at h;obtain⟨rfl,rfl⟩:=h;cases op with
 |move y=>exact OpRun.same hI rfl (hO _ _ (by simpa [ckOp]using hck))
 |assign y=>exact OpRun.same hI rfl (hO _ _ (by simpa [ckOp]using hck))
 |_=>simp[ckOp]at hck
theorem Xtx{c x y:AO}(hck:ckOp P GT o.op (.pick c x y)=true)(h:aOp E st ev (.pick c x y)=some (r,st')):OpRun P GT w0 G w st ((execOp ρ o).run P w) r st':=by
 obtain⟨dst,op,type,pos,after,guard⟩:=o;cases op with
 |pick c' x' y'=>
  simp only[ckOp,Bool.and_eq_true]at hck;have hc:=hO _ _ hck.1.1;have hx:=hO _ _ hck.1.2;have hy:=hO _ _ hck.2;simp only[aOp]at h;split at h
  ·rename_i b hb;simp only[Xas,Option.some.injEq,Prod.mk.injEq]at h;obtain⟨rfl,rfl⟩:=h;rw[hb]at hc;simp only[RV]at hc;refine OpRun.same hI (x:=if b then ρ x' else ρ y') ?_ ?_
   ·cases b<;>simp[execOp,hc,asBool]
   ·cases b<;>simp[hx,hy]
  ·cases h
 |_=>simp[ckOp]at hck
theorem Xx3{n:Nat}{x:AO}(hck:ckOp P GT o.op (.ext n x)=true)(h:aOp E st ev (.ext n x)=some (r,st')):OpRun P GT w0 G w st ((execOp ρ o).run P w) r st':=by
 obtain⟨dst,op,type,pos,after,guard⟩:=o;cases op with
 |extract x' n'=>
  simp only[ckOp,Bool.and_eq_true,decide_eq_true_eq]at hck;obtain⟨rfl,hck⟩:=hck;have hx:=hO _ _ hck;simp only[aOp]at h;split at h
  ·rename_i vs hb;simp only[okOf,Xab,Xas,Option.some.injEq,Prod.mk.injEq]at h;obtain⟨v,hv,rfl,rfl⟩:=h;rw[hb]at hx;simp only[RV]at hx;obtain⟨c,hc,hr⟩:=hx;obtain⟨y,hy,hry⟩:=hr.get hv;refine OpRun.same hI (x:=y) ?_ hry;have hy':c[n']?=some y:=by simpa using hy
   simp[execOp,hc,Instr.extract,hy']
  ·cases h
 |_=>simp[ckOp]at hck
theorem Xxu{t:Nat}{x:AO}(hck:ckOp P GT o.op (.mki t x)=true)(h:aOp E st ev (.mki t x)=some (r,st')):OpRun P GT w0 G w st ((execOp ρ o).run P w) r st':=by
 obtain⟨dst,op,type,pos,after,guard⟩:=o;simp only[aOp,Xas,Option.some.injEq,Prod.mk.injEq]at h;obtain⟨rfl,rfl⟩:=h;cases op with
 |makeInterface t' x'=>
  simp only[ckOp,Bool.and_eq_true,decide_eq_true_eq]at hck;obtain⟨⟨rfl,hu⟩,hck⟩:=hck;have hx:=hO _ _ hck;refine OpRun.same hI (x:=.iface t' (ρ x')) ?_ (by simp only[RV];exact⟨_,rfl,hx⟩);cases hd:P.underlying t' with
  |none=>simp[hd]at hu
  |some d=>cases d<;>simp[hd]at hu<;>simp[execOp,Instr.makeInterface,run_underlying hd]
 |_=>simp[ckOp]at hck
theorem Xxw{f:Nat}{x y:List AO}(hck:ckOp P GT o.op (.mkf f x y)=true)(h:aOp E st ev (.mkf f x y)=some (r,st')):OpRun P GT w0 G w st ((execOp ρ o).run P w) r st':=by
 obtain⟨dst,op,type,pos,after,guard⟩:=o;simp only[aOp,Xas,Option.some.injEq,Prod.mk.injEq]at h;obtain⟨rfl,rfl⟩:=h;cases op with
 |makeFunc fn a b=>
  cases fn with
  |func f'=>
   simp only[ckOp,Bool.and_eq_true,decide_eq_true_eq]at hck;obtain⟨⟨rfl,h1⟩,h2⟩:=hck;have h1:=Xds hO h1;have h2:=Xds hO h2;refine OpRun.same hI (x:=.func (.func f') (a.map ρ) (b.map ρ)) rfl ?_;simp only[RV];exact⟨_,_,rfl,by simpa using h1,by simpa using h2⟩
  |_=>simp[ckOp]at hck
 |_=>simp[ckOp]at hck
omit hI in
theorem Xoo{x:AO}(hck:ckOp P GT o.op (.nck x)=true)(h:aOp E st ev (.nck x)=some (r,st')):∃v x,r=.ok v/\st'=st/\(∀w:World,(execOp ρ o).run P w=.ok (.value x) w)/\RV G v x:=by
 obtain⟨dst,op,type,pos,after,guard⟩:=o;cases op with
 |nilCheck x'=>
  simp only[ckOp]at hck;have hx:=hO _ _ hck;simp only[aOp]at h;split at h
  ·rename_i b q hb;simp only[Xas,Option.some.injEq,Prod.mk.injEq]at h;obtain⟨rfl,rfl⟩:=h;rw[hb]at hx;refine⟨_,ρ x',rfl,rfl,fun w=>?_,hx⟩;simp only[RV]at hx;obtain⟨g,_,hx⟩:=hx;simp[execOp,hx]
  ·rename_i b q hb;simp only[Xas,Option.some.injEq,Prod.mk.injEq]at h;obtain⟨rfl,rfl⟩:=h;rw[hb]at hx;refine⟨_,ρ x',rfl,rfl,fun w=>?_,hx⟩;simp only[RV]at hx;obtain⟨g,k,hx,_⟩:=hx;simp[execOp,hx]
  ·cases h
 |_=>simp[ckOp]at hck
omit hI in
theorem Xsh{off:Nat}{x:AO}(hck:ckOp P GT o.op (.fa off x)=true)(h:aOp E st ev (.fa off x)=some (r,st')):∃v x,r=.ok v/\st'=st/\(∀w:World,(execOp ρ o).run P w=.ok (.value x) w)/\RV G v x:=by
 obtain⟨dst,op,type,pos,after,guard⟩:=o;cases op with
 |fieldAddr t x' i=>
  simp only[ckOp,Bool.and_eq_true]at hck;obtain⟨hf,hck⟩:=hck;have hx:=hO _ _ hck;cases hff:Xfc P t i with
  |none=>simp[hff]at hf
  |some f=>
   simp only[hff,Bool.and_eq_true,decide_eq_true_eq]at hf;obtain⟨rfl,hn⟩:=hf;cases hnn:szOf P f.type with
   |none=>simp[hnn]at hn
   |some n=>
    simp only[hnn,decide_eq_true_eq]at hn;simp only[aOp]at h;split at h
    ·rename_i b q hb;simp only[Xas,Option.some.injEq,Prod.mk.injEq]at h;obtain⟨rfl,rfl⟩:=h;rw[hb]at hx;simp only[RV]at hx;obtain⟨g,hg,hx⟩:=hx;refine⟨_,.pointer (some ⟨g,q+f.offset,none⟩),rfl,rfl,fun w=>?_,by simp only[RV];exact⟨g,hg,rfl⟩⟩;simp[execOp,hx,Xha hff hnn hn]
    ·rename_i b q hb;simp only[Xas,Option.some.injEq,Prod.mk.injEq]at h;obtain⟨rfl,rfl⟩:=h;rw[hb]at hx;simp only[RV]at hx;obtain⟨g,k,hx,hr⟩:=hx;refine⟨_,.pointer (some ⟨g,k+q+f.offset,none⟩),rfl,rfl,fun w=>?_,by simp only[RV];exact⟨g,k,by rw[Nat.add_assoc],hr⟩⟩;simp[execOp,hx,Xha hff hnn hn]
    ·cases h
 |_=>simp[ckOp]at hck
omit hO in
theorem OpRun.of0(h:∃v x,r=.ok v/\st'=st/\(∀w:World,(execOp ρ o).run P w=.ok (.value x) w)/\RV G v x):OpRun P GT w0 G w st ((execOp ρ o).run P w) r st':=by obtain⟨v,x,rfl,rfl,h1,h2⟩:=h;exact OpRun.same hI (h1 w) h2
theorem Xxr{x:AO}(hck:ckOp P GT o.op (.nck x)=true)(h:aOp E st ev (.nck x)=some (r,st')):OpRun P GT w0 G w st ((execOp ρ o).run P w) r st':=OpRun.of0 hI (Xoo hO hck h)
theorem Jdf{off:Nat}{x:AO}(hck:ckOp P GT o.op (.fa off x)=true)(h:aOp E st ev (.fa off x)=some (r,st')):OpRun P GT w0 G w st ((execOp ρ o).run P w) r st':=OpRun.of0 hI (Xsh hO hck h)
theorem Jde{sz:Nat}{x i:AO}(hck:ckOp P GT o.op (.ia sz x i)=true)(h:aOp E st ev (.ia sz x i)=some (r,st')):OpRun P GT w0 G w st ((execOp ρ o).run P w) r st':=by
 obtain⟨dst,op,type,pos,after,guard⟩:=o;cases op with
 |indexAddr t x' i'=>
  simp only[ckOp,Bool.and_eq_true]at hck;obtain⟨⟨hs,hx⟩,hi⟩:=hck;have hx:=hO _ _ hx;have hi:=hO _ _ hi;cases he:Xa9 P t with
  |none=>simp[he]at hs
  |some e=>
   simp only[he,decide_eq_true_eq]at hs
   have hu:P.underlying t=some (.slice e):=by
    unfold Xa9 at he;split at he
    ·rename_i e' h';cases he;exact h'
    ·cases he
   have hsz:∀w:World,(sizeOf e).run P w=.ok sz w:=fun w=>by
    unfold szOf at hs;cases hi:P.info? e with
    |none=>simp[hi]at hs
    |some info=>simp[hi]at hs;simp[sizeOf,typeInfo,hi,hs]
   simp only[aOp]at h;split at h
   ·rename_i own n cs kk j hb hj;rw[Xad]at h;obtain⟨hb',h⟩:=h;simp only[Bool.and_eq_true,decide_eq_true_eq]at hb';simp only[Xas,Option.some.injEq,Prod.mk.injEq]at h;obtain⟨rfl,rfl⟩:=h;rw[hb]at hx;rw[hj]at hi;simp only[RV]at hi
    have key:∃g q cap,ρ x'=.slice (some ⟨g,q,none⟩) n cap/\RC G g q cs:=by
     cases own with
     |none=>
      simp only[RV]at hx;obtain⟨A,cap,hx,_,_,h3⟩:=hx;rcases h3 with⟨h3,_⟩|⟨g,q,hA,hr⟩
      ·omega
      ·exact⟨g,q,cap,by rw[hx,hA],hr⟩
     |some id=>
      simp only[RV]at hx;obtain⟨g,cap,_,hx,_,_,hr⟩:=hx;exact⟨g,0,cap,hx,hr⟩
    obtain⟨g,q,cap,hx,hr⟩:=key;refine OpRun.same hI (x:=.pointer (some ⟨g,q+j.toNat*sz,none⟩)) ?_ (by simp only[RV];exact⟨g,q,rfl,hr⟩);simp only[execOp,hx,hi,Sem.run_bind];have:(Instr.indexAt t (.slice (some ⟨g,q,none⟩) n cap) (.int kk j)).run P w=.ok (.pointer (some ⟨g,q+j.toNat*sz,none⟩)) w:=by simp only[Instr.indexAt,asIntOf,Sem.run_bind,Sem.run_pure,Result.andThen_ok,run_underlying hu];rw[if_pos hb'];simp[hsz,Addr.add_lit]
    rw[this];rfl
   ·rename_i b n kk j hb hj;rw[Xad]at h;obtain⟨hb',h⟩:=h;simp only[Bool.and_eq_true,decide_eq_true_eq]at hb';simp only[Xas,Option.some.injEq,Prod.mk.injEq]at h;obtain⟨rfl,rfl⟩:=h;rw[hb]at hx;rw[hj]at hi;simp only[RV]at hi hx;obtain⟨g,cap,hg,hx,_,_⟩:=hx;refine OpRun.same hI (x:=.pointer (some ⟨g,0+j.toNat*sz,none⟩)) ?_ (by simp only[RV];exact⟨g,hg,by rw[Nat.zero_add]⟩);simp only[execOp,hx,hi,Sem.run_bind];have:(Instr.indexAt t (.slice (some ⟨g,0,none⟩) n cap) (.int kk j)).run P w=.ok (.pointer (some ⟨g,0+j.toNat*sz,none⟩)) w:=by simp only[Instr.indexAt,asIntOf,Sem.run_bind,Sem.run_pure,Result.andThen_ok,run_underlying hu];rw[if_pos hb'];simp[hsz,Addr.add_lit]
    rw[this];rfl
   ·cases h
 |_=>simp[ckOp]at hck
end
section
variable{P:Program}
theorem Xcj{t:TypeId}{n:Nat}(h:szOf P t=some n)(w:World):(sizeOf t).run P w=.ok n w:=by
 unfold szOf at h;cases hi:P.info? t with
 |none=>simp[hi]at h
 |some i=>simp[hi]at h;simp[sizeOf,typeInfo,hi,h]
theorem Xcx{t:TypeId}{v:Value}(h:Xez P t=some v)(w:World):(zeroValue t).run P w=.ok v w:=by
 unfold Xez at h;cases hi:P.info? t with
 |none=>simp[hi]at h
 |some i=>simp[hi]at h;simp[zeroValue,typeInfo,hi,h]
theorem Xih(t:TypeId)(v:Value)(w:World):(newVar t v).run P w=.ok ⟨w.heap.size,0,none⟩ (w.alloc (.cells v.cells t)):=rfl
theorem Xay{t e:TypeId}(h:Xa9 P t=some e):P.underlying t=some (.slice e):=by
 unfold Xa9 at h;split at h
 ·rename_i e' h';cases h;exact h'
 ·cases h
theorem List.run_mapM{α β:Type}(f:α->Sem β)(g:α->β)(w:World):∀(l:List α),(∀a∈l,(f a).run P w=.ok (g a) w)->(l.mapM f).run P w=.ok (l.map g) w
 |[],_=>rfl
 |a::l,h=>by rw[List.mapM_cons];simp[h a (by simp),List.run_mapM f g w l (fun b hb=>h b (by simp[hb]))]
theorem Array.run_mapM{α β:Type}(f:α->Sem β)(g:α->β)(w:World)(l:Array α)(h:∀a∈l,(f a).run P w=.ok (g a) w):(l.mapM f).run P w=.ok (l.map g) w:=by
 rw[Array.mapM_eq_mapM_toList];simp only[Sem.run_map];rw[List.run_mapM f g w l.toList (fun a ha=>h a (by simpa using ha))];simp only[Result.andThen_ok]
 congr 1
 exact Array.ext' (by simp)
theorem Xj9(off:Nat):∀(vs:List Value) (i:Nat) (cs:Array Value),off+i+vs.length<=cs.size->
  ((vs.zipIdx i).foldl (fun cs (c,j)=>cs.setIfInBounds (off+j) c) cs).toList=cs.toList.take (off+i)++vs++cs.toList.drop (off+i+vs.length)
 |[],i,cs,_=>by simp
 |v::vs,i,cs,h=>by
  simp only[List.length_cons]at h;simp only[List.zipIdx_cons,List.foldl_cons];rw[Xj9 off vs (i+1) (cs.setIfInBounds (off+i) v) (by simp;omega)];have e1:off+(i+1)=off+i+1:=by omega
  rw[e1];simp only[Array.toList_setIfInBounds,List.length_cons];apply List.ext_getElem?;intro k;have hlen:cs.toList.length=cs.size:=by simp
  simp only[List.getElem?_append,List.length_append,List.length_take,List.getElem?_take,List.getElem?_drop,List.length_set,List.getElem?_set,List.length_cons,hlen];by_cases c1:k<off+i
  ·have a1:k<min (off+i+1) cs.size:=by omega
   have a2:k<min (off+i) cs.size:=by omega
   have a3:k<min (off+i+1) cs.size+vs.length:=by omega
   have a4:k<min (off+i) cs.size+(vs.length+1):=by omega
   have a5:k<off+i+1:=by omega
   have a6:¬off+i=k:=by omega
   simp[a1,a2,a3,a4,a5,a6,c1]
  ·by_cases c2:k=off+i
   ·subst c2;have a1:off+i<min (off+i+1) cs.size:=by omega
    have a3:off+i<min (off+i+1) cs.size+vs.length:=by omega
    have a2:¬(off+i<min (off+i) cs.size):=by omega
    have a4:off+i<min (off+i) cs.size+(vs.length+1):=by omega
    have a5:off+i - min (off+i) cs.size=0:=by omega
    have a6:off+i<cs.size:=by omega
    simp[a1,a2,a3,a4,a5,a6]
   ·by_cases c3:k<off+i+1+vs.length
    ·have a1:¬k<min (off+i+1) cs.size:=by omega
     have a3:k<min (off+i+1) cs.size+vs.length:=by omega
     have a2:¬(k<min (off+i) cs.size):=by omega
     have a4:k<min (off+i) cs.size+(vs.length+1):=by omega
     have a5:k - min (off+i) cs.size=(k - min (off+i+1) cs.size)+1:=by omega
     simp[a1,a2,a3,a4,a5]
    ·have a3:¬k<min (off+i+1) cs.size+vs.length:=by omega
     have a4:¬k<min (off+i) cs.size+(vs.length+1):=by omega
     have a6:¬off+i=off+i+1+vs.length+(k - (min (off+i+1) cs.size+vs.length)):=by omega
     have a7:off+i+1+vs.length+(k - (min (off+i+1) cs.size+vs.length))=off+i+(vs.length+1)+(k - (min (off+i) cs.size+(vs.length+1))):=by omega
     simp only[a3,a4,a6,if_false];rw[a7]
end
section
variable{P:Program}{GT:Nat->Option (List AV)}{w0 w:World}{G:Gh}{st st':St}{E:Env}{ev:AO->AV}{ρ:Operand->Value}{r:Rt AV}{o:Oper}
theorem Xnd{i n g cap:Nat}(h:G.ar i n=none):G.Le (G.withArr i n g cap):=
 ⟨fun _ _ h=>h,fun _ _ _ h=>h,fun j k x hx=>by
  simp only[Gh.withArr];split
  ·rename_i e;obtain⟨rfl,rfl⟩:=e;rw[h]at hx;cases hx
  ·exact hx⟩
theorem RVs.wr{c vs:List AV}{x y:List Value}{off:Nat}(h:RVs G c x)(k:RVs G vs y):RVs G (wrC c off vs) (x.take off++y++x.drop (off+y.length)):=by unfold wrC;rw[k.length];exact((h.take off).append k).append (h.drop _)
theorem Xer(hO:∀x a,ckO GT x a=true->RV G (ev a) (ρ x))(place:Nat->Option (Nat×Nat)):∀{ps:List (Nat×Operand)} {qs:List (Nat×Nat×AO)} {z cs:List AV} {zc:Array Value},
  Xek GT place ps qs=true->Xap z (qs.map fun p=>(p.1,p.2.1,(ev p.2.2).cells))=some cs->RVs G z zc.toList->
  ∃c',Instr.fill place zc (ps.map fun p=>(p.1,ρ p.2))=some c'/\RVs G cs c'.toList
 |[],[],z,cs,zc,_,h,hz=>by simp only[List.map_nil,Xap,Option.some.injEq]at h;subst h;exact⟨zc,rfl,hz⟩
 |[],_::_,z,cs,zc,hc,_,_=>by simp[Xek]at hc
 |(i,x)::ps,[],z,cs,zc,hc,_,_=>by simp[Xek]at hc
 |(i,x)::ps,(off,n,a)::qs,z,cs,zc,hc,h,hz=>by
  simp only[Xek,Bool.and_eq_true,decide_eq_true_eq]at hc;obtain⟨⟨hp,hx⟩,hc⟩:=hc;have hx:=hO _ _ hx;simp only[List.map_cons,Xap,Xad,Bool.and_eq_true,decide_eq_true_eq]at h;obtain⟨⟨⟨h1,h2⟩,h3⟩,h⟩:=h;have hcells:=hx.cells;have hl1:=hcells.length;have hl2:=hz.length;have hsz:(ρ x).cells.size=n:=by rw[<-h1,<-hl1];simp
  have hzs:zc.size=z.length:=by rw[<-hl2];simp
  simp only[List.map_cons,Instr.fill,hp];rw[if_neg (by simp[hsz];omega)];have hfold:((ρ x).cells.zipIdx.foldl (fun cs (c,j)=>cs.setIfInBounds (off+j) c) zc).toList=zc.toList.take off++(ρ x).cells.toList++zc.toList.drop (off+(ρ x).cells.toList.length):=by rw[<-Array.foldl_toList,Array.toList_zipIdx];have:=Xj9 off (ρ x).cells.toList 0 zc (by simp;omega);simpa using this
  refine Xer hO place hc h ?_;rw[hfold];exact hz.wr hcells
theorem Xfn(P:Program)(g o:Nat)(w:World):∀(xs:List Value) (i:Nat) (acc:Array Value),(∀j y,xs[j]?=some y->w.cell? ⟨g,o+(i+j),none⟩=some y)->
  (loadCellsFrom ⟨g,o,none⟩ i xs.length acc).run P w=.ok (acc++xs.toArray) w
 |[],i,acc,_=>by simp[loadCellsFrom]
 |x::xs,i,acc,h=>by
  have h0:=h 0 x (by simp);simp only[Nat.add_zero]at h0;simp only[List.length_cons,loadCellsFrom,Sem.run_bind,run_load,Addr.add_lit,h0,Result.andThen_ok];rw[Xfn P g o w xs (i+1) (acc.push x) (fun j y hj=>by have:=h (j+1) y (by simpa using hj);rw[<-this];congr 2;omega)];simp
theorem Xe8{t:TypeId}{k:Option Nat}(hk:ckK P t k=true){g o:Nat}{c:List AV}{xs:List Value}{off:Nat}{v:AV}(hr:rdC k c off=some v)(hx:RVs G c xs)
  (hc:∀j y,xs[j]?=some y->w.cell? ⟨g,o+j,none⟩=some y):∃y,(loadVar t ⟨g,o+off,none⟩).run P w=.ok y w/\RV G v y:=by
 unfold ckK at hk;cases hu:P.underlying t with
 |none=>simp[hu]at hk
 |some d=>
  have scalar:(∀fs,d≠ .struct fs)->(∀n e,d≠ .array n e)->k=none->∃y,(loadVar t ⟨g,o+off,none⟩).run P w=.ok y w/\RV G v y:=by intro h1 h2 hk0;subst hk0;simp only[rdC]at hr;obtain⟨y,hy,hv⟩:=hx.get hr;refine⟨y,?_,hv⟩;have hcell:=hc _ _ hy;unfold loadVar isAgg;simp only[Sem.run_bind,run_underlying hu,Result.andThen_ok];cases d<;>first|exact absurd rfl (h1 _)|exact absurd rfl (h2 _ _)|simp[hcell]
  have agg:(∃n,szOf P t=some n/\k=some n)->((∃fs,d=.struct fs)\/∃n e,d=.array n e)->∃y,(loadVar t ⟨g,o+off,none⟩).run P w=.ok y w/\RV G v y:=by
   rintro⟨n,hn,rfl⟩ hd;simp only[rdC]at hr;split at hr
   ·rename_i hle;cases hr;have hl:=hx.length;have hxs:=(hx.drop off).take n;refine⟨.agg ((xs.drop off).take n).toArray,?_,by simp only[RV];exact⟨_,rfl,by simpa using hxs⟩⟩;have hlen:((xs.drop off).take n).length=n:=by simp;omega
    have hload:=Xfn P g (o+off) w ((xs.drop off).take n) 0 #[] (fun j y hj=>by
     rw[List.getElem?_take]at hj;split at hj
     ·rw[List.getElem?_drop]at hj;have:=hc _ _ hj;rw[<-this];congr 2;omega
     ·cases hj)
    rw[hlen]at hload;unfold loadVar isAgg;simp only[Sem.run_bind,run_underlying hu,Result.andThen_ok];rcases hd with⟨fs,rfl⟩|⟨m,e,rfl⟩
    ·simp[Xcj hn,loadCells,hload]
    ·simp[Xcj hn,loadCells,hload]
   ·cases hr
  cases d with
  |struct fs=>
   simp only[hu,Bool.and_eq_true,decide_eq_true_eq]at hk;cases k with
   |none=>simp at hk
   |some n=>exact agg ⟨n,hk.1,rfl⟩ (.inl ⟨fs,rfl⟩)
  |array m e=>
   simp only[hu,Bool.and_eq_true,decide_eq_true_eq]at hk;cases k with
   |none=>simp at hk
   |some n=>exact agg ⟨n,hk.1,rfl⟩ (.inr ⟨m,e,rfl⟩)
  |_=>simp only[hu,decide_eq_true_eq]at hk;exact scalar (by simp) (by simp) hk
theorem Xjx(hI:Inv P GT w0 G st w){t:TypeId}{k:Option Nat}(hk:ckK P t k=true){p v:AV}{x:Value}(hp:RV G p x)(h:loadA st k p=some v):
  ∃a y,x=.pointer (some a)/\(loadVar t a).run P w=.ok y w/\RV G v y:=by
 cases p with
 |ptr b off=>
  simp only[RV]at hp;obtain⟨g,hg,rfl⟩:=hp;simp only[loadA]at h;split at h
  ·rename_i ty c hb;obtain⟨x,hx,hr⟩:=hI.blk' hb hg;simp only[RB]at hr;obtain⟨cs,xs,rest,rfl,hcs,hr⟩:=hr;obtain⟨y,hy,hv⟩:=Xe8 (w:=w) (g:=g) (o:=0) hk h hr (fun j y hj=>by rw[Nat.zero_add,Xci hx,<-Array.getElem?_toList,hcs,List.getElem?_append_left (uB hj)];exact hj);exact⟨_,y,rfl,by simpa using hy,hv⟩
  ·cases h
 |eptr c off=>
  simp only[RV]at hp;obtain⟨g,q,rfl,hr⟩:=hp;simp only[loadA]at h
  have hxs:∃xs,RVs G c xs/\∀j y,xs[j]?=some y->w.cell? ⟨g,q+j,none⟩=some y:=by
   clear h;induction c generalizing q with
   |nil=>exact⟨[],by simp[RVs],fun j y h=>by simp at h⟩
   |cons a c ih=>
    simp only[RC]at hr;obtain⟨⟨x,e,ha⟩,hr⟩:=hr;obtain⟨xs,h1,h2⟩:=ih _ hr;refine⟨x::xs,by simp only[RVs];exact⟨x,xs,rfl,ha,h1⟩,fun j y hj=>?_⟩;cases j with
    |zero=>simp at hj;subst hj;exact hI.pr _ _ _ e
    |succ j=>
     have:=h2 j y (by simpa using hj);rw[<-this];congr 2;omega
  obtain⟨xs,h1,h2⟩:=hxs;obtain⟨y,hy,hv⟩:=Xe8 (w:=w) (g:=g) (o:=q) hk h h1 h2;exact⟨_,y,rfl,hy,hv⟩
 |_=>simp[loadA]at h
variable(hO:∀x a,ckO GT x a=true->RV G (ev a) (ρ x))(hI:Inv P GT w0 G st w)
include hO hI
theorem Jdd{k:Option Nat}{x:AO}(hck:ckOp P GT o.op (.ld k x)=true)(h:aOp E st ev (.ld k x)=some (r,st')):OpRun P GT w0 G w st ((execOp ρ o).run P w) r st':=by
 obtain⟨dst,op,type,pos,after,guard⟩:=o;cases op with
 |load t x'=>
  simp only[ckOp,Bool.and_eq_true]at hck;have hx:=hO _ _ hck.2;simp only[aOp,okOf,Xab,Xas,Option.some.injEq,Prod.mk.injEq]at h;obtain⟨v,hv,rfl,rfl⟩:=h;obtain⟨a,y,ha,hy,hr⟩:=Xjx hI hck.1 hx hv;refine OpRun.same hI (x:=y) ?_ hr;simp[execOp,ha,Instr.loadAt,Instr.sureAddr,hy]
 |_=>simp[ckOp]at hck
theorem Xrc{ty:Nat}{z:List AV}(hck:ckOp P GT o.op (.alloc ty z)=true)(h:aOp E st ev (.alloc ty z)=some (r,st')):OpRun P GT w0 G w st ((execOp ρ o).run P w) r st':=by
 obtain⟨dst,op,type,pos,after,guard⟩:=o;cases op with
 |alloc t=>
  simp only[ckOp,Bool.and_eq_true,decide_eq_true_eq,Xjf]at hck;obtain⟨rfl,hz⟩:=hck;simp only[aOp,Xad,Xas,Option.some.injEq,Prod.mk.injEq]at h;obtain⟨_,rfl,rfl⟩:=h;cases hv:Xez P t with
  |none=>simp[hv]at hz
  |some v=>
   simp only[hv]at hz;refine⟨_,_,_,.inl ?_,hI.le_blk w.heap.size,hI.alloc (o:=.cells t z) (x:=.cells v.cells t) (by simp only[RB];exact⟨_,_,[],rfl,(List.append_nil _).symm,ckVs_sound _ _ _ hz⟩),by simp only[RV];exact⟨w.heap.size,by simp[Gh.withBlk],rfl⟩⟩;simp[execOp,Instr.alloc,Xcx hv,Xih]
 |_=>simp[ckOp]at hck
theorem Xx7{ty:Nat}{x:AO}(hck:ckOp P GT o.op (.box ty x)=true)(h:aOp E st ev (.box ty x)=some (r,st')):OpRun P GT w0 G w st ((execOp ρ o).run P w) r st':=by
 obtain⟨dst,op,type,pos,after,guard⟩:=o;cases op with
 |box t x'=>
  simp only[ckOp,Bool.and_eq_true,decide_eq_true_eq]at hck;obtain⟨rfl,hx⟩:=hck;have hx:=hO _ _ hx;simp only[aOp,Xad,Xas,Option.some.injEq,Prod.mk.injEq]at h;obtain⟨_,rfl,rfl⟩:=h;refine⟨_,_,_,.inl ?_,hI.le_blk w.heap.size,hI.alloc (o:=.cells t (ev x).cells) (x:=.cells (ρ x').cells t) (by simp only[RB];exact⟨_,_,[],rfl,(List.append_nil _).symm,hx.cells.mono (hI.le_blk _)⟩),by simp only[RV];exact⟨w.heap.size,by simp[Gh.withBlk],rfl⟩⟩;simp[execOp,Instr.box,Xih]
 |_=>simp[ckOp]at hck
theorem Xrb{z:List AV}{qs:List (Nat×Nat×AO)}(hck:ckOp P GT o.op (.build z qs)=true)(h:aOp E st ev (.build z qs)=some (r,st')):OpRun P GT w0 G w st ((execOp ρ o).run P w) r st':=by
 obtain⟨dst,op,type,pos,after,guard⟩:=o;cases op with
 |build t ps=>
  simp only[ckOp,Bool.and_eq_true,Xjf]at hck;obtain⟨hz,hck⟩:=hck;simp only[aOp,okOf,Xab,Xas,Option.some.injEq,Prod.mk.injEq]at h;obtain⟨v,⟨cs,hf,rfl⟩,rfl,rfl⟩:=h;cases hv:Xez P t with
  |none=>simp[hv]at hz
  |some zv=>
   simp only[hv]at hz;have hz':RVs G z zv.cells.toList:=ckVs_sound _ _ _ hz;cases hu:P.underlying t with
   |none=>simp[hu]at hck
   |some d=>
    cases d with
    |struct fs=>
     simp only[hu,Bool.and_eq_true]at hck;obtain⟨hall,hps⟩:=hck;obtain⟨c',hc',hr⟩:=Xer hO (Xde P fs) hps hf hz';refine OpRun.same hI (x:=.agg c') ?_ (by simp only[RV];exact⟨_,rfl,hr⟩)
     have hmap:(fs.mapM (m:=Sem) fun f=>do pure (f.offset,<-sizeOf f.type)).run P w=.ok (fs.map fun f=>(f.offset,(szOf P f.type).getD 0)) w:=by
      refine Array.run_mapM _ _ w fs fun f hf'=>?_;have hs:(szOf P f.type).isSome=true:=by rw[Array.all_eq_true]at hall;obtain⟨i,hi,rfl⟩:=Array.mem_iff_getElem.1 hf';simpa using hall i hi
      obtain⟨n,hn⟩:=Option.isSome_iff_exists.1 hs;simp[Xcj hn,hn]
     have hplace:∀i,(fs.map fun f=>(f.offset,(szOf P f.type).getD 0))[i]?=Xde P fs i:=by
      intro i;rw[Array.getElem?_map];unfold Xde;cases hi:fs[i]? with
      |none=>rfl
      |some f=>
       have hs:(szOf P f.type).isSome=true:=by rw[Array.all_eq_true]at hall;obtain⟨hlt,rfl⟩:=Array.getElem?_eq_some_iff.1 hi;simpa using hall i hlt
       obtain⟨n,hn⟩:=Option.isSome_iff_exists.1 hs;simp[hn]
     have hfill:Instr.fill (fun i=>(fs.map fun f=>(f.offset,(szOf P f.type).getD 0))[i]?) zv.cells (ps.map fun p=>(p.1,ρ p.2)).toList=some c':=by rw[show(fun i=>(fs.map fun f=>(f.offset,(szOf P f.type).getD 0))[i]?)=Xde P fs from funext hplace];simpa using hc'
     simp only[execOp,Instr.build,Sem.run_bind,Xcx hv,Result.andThen_ok,run_underlying hu,hmap];rw[hfill];rfl
    |array n e=>
     simp only[hu]at hck;cases hs:szOf P e with
     |none=>simp[hs]at hck
     |some sz=>
      simp only[hs]at hck;obtain⟨c',hc',hr⟩:=Xer hO _ hck hf hz';refine OpRun.same hI (x:=.agg c') ?_ (by simp only[RV];exact⟨_,rfl,hr⟩);have hfill:Instr.fill (fun i=>some (i*sz,sz)) zv.cells (ps.map fun p=>(p.1,ρ p.2)).toList=some c':=by simpa using hc'
      simp only[execOp,Instr.build,Sem.run_bind,Xcx hv,Result.andThen_ok,run_underlying hu,Xcj hs];rw[hfill];rfl
    |_=>simp[hu]at hck
 |_=>simp[ckOp]at hck
theorem Xx6{own:Bool}{sz n:Nat}{z:List AV}{qs:List (Nat×Nat×AO)}(hck:ckOp P GT o.op (.bsl own sz n z qs)=true)(h:aOp E st ev (.bsl own sz n z qs)=some (r,st')):OpRun P GT w0 G w st ((execOp ρ o).run P w) r st':=by
  obtain⟨dst,op,type,pos,after,guard⟩:=o;cases op with
  |buildSlice t len ps=>
    simp only[ckOp]at hck;cases he:Xa9 P t with
    |none=>simp[he]at hck
    |some e=>
      simp only[he,Bool.and_eq_true,decide_eq_true_eq]at hck;obtain⟨⟨⟨⟨⟨hs,rfl⟩,hle⟩,h1⟩,hz⟩,hps⟩:=hck;cases hv:Xez P e with
      |none=>simp[hv]at hz
      |some v=>
        simp only[hv]at hz;simp only[aOp,Xab]at h;obtain⟨cs,hf,h⟩:=h;obtain⟨c',hc',hr⟩:=Xer hO _ hps hf (ckVs_sound G _ _ hz)
        have hsize:c'.size=n*sz:=by
          have e1:z.length=n*sz:=by have:=(ckVs_sound G _ _ hz).length;simpa using this.symm
          have e2:cs.length=z.length:=by
            clear h hc' hr e1 hps hz;generalize qs.map (fun p=>(p.1,p.2.1,(ev p.2.2).cells))=l at hf;induction l generalizing z with
            |nil=>simp only[Xap,Option.some.injEq]at hf;rw[hf]
            |cons p l ih=>
              obtain⟨off,k,c⟩:=p;simp only[Xap,Xad,Bool.and_eq_true,decide_eq_true_eq]at hf;obtain⟨⟨⟨a1,a2⟩,_⟩,hf⟩:=hf;rw[ih hf];simp only[wrC,List.length_append,List.length_take,List.length_drop];omega
          have:=hr.length;simp only[Array.length_toList]at this;omega
        have hrun:(execOp ρ ⟨dst,.buildSlice t n ps,type,pos,after,guard⟩).run P w=.ok (.value (.slice (some ⟨w.heap.size,0,none⟩) n n)) (w.alloc (.cells c' e)):=by
          have hfill:Instr.fill (fun i=>some (i*sz,sz)) ((Array.range (n*sz)).map (fun i=>v.cells[i % v.cells.size]!)) (ps.map fun p=>(p.1,ρ p.2)).toList=some c':=by simpa using hc'
          have hgt:¬n*sz>2 ^ 24:=by omega
          simp only[execOp,Instr.buildSlice,Sem.run_bind,run_underlying (Xay he),Result.andThen_ok,Xcj hs,if_neg hgt,Sem.run_pure];by_cases h0:n*sz=0
          ·have hc0:(Array.range (n*sz)).map (fun i=>(#[]:Array Value)[i % (#[]:Array Value).size]!)=(Array.range (n*sz)).map (fun i=>v.cells[i % v.cells.size]!):=by rw[h0];simp
           simp only[if_pos h0,Sem.run_bind,Sem.run_pure,Result.andThen_ok];rw[hc0,hfill];rfl
          ·simp only[if_neg h0,Sem.run_bind,Xcx hv,Sem.run_pure,Result.andThen_ok];rw[hfill];rfl
        have hn:n<=9223372036854775807:=by have:n*1<=n*sz:=Nat.mul_le_mul_left n h1;omega
        cases own with
        |true=>
          simp only[↓reduceIte,Xas,Option.some.injEq,Prod.mk.injEq]at h;obtain⟨rfl,rfl⟩:=h;obtain⟨hle',hI'⟩:=hI.newArr c' e n sz n hsize (Nat.le_refl _);refine⟨_,_,_,.inl hrun,hle',hI',?_⟩;simp only[RV];refine⟨w.heap.size,n,by simp[Gh.withArr],rfl,Nat.le_refl _,hn,?_⟩;have h3:RVs (G.withRow w.heap.size c' (n*sz)) (AV.finL 0 cs) (c'.toList.take (n*sz)):=by rw[List.take_of_length_le (by simp[hsize])];exact RVs.fin 0 _ _ (hr.mono (hI.le_row c' (n*sz)))
          have h4:=Xqn G w.heap.size c' (n*sz) _ h3;exact RC.mono (Xnd (G:=G.withRow w.heap.size c' (n*sz)) (hI.dom.ar _ _ (Nat.le_refl _))) _ _ _ h4
        |false=>
          simp only[Bool.false_eq_true,↓reduceIte,Xas,Option.some.injEq,Prod.mk.injEq]at h;obtain⟨rfl,rfl⟩:=h;refine⟨_,_,_,.inl hrun,hI.le_row c' (n*sz),hI.row c' e (n*sz),?_⟩;simp only[RV];refine⟨_,_,rfl,Nat.le_refl _,hn,.inr ⟨w.heap.size,0,rfl,?_⟩⟩;have h3:RVs (G.withRow w.heap.size c' (n*sz)) (AV.finL 0 cs) (c'.toList.take (n*sz)):=by rw[List.take_of_length_le (by simp[hsize])];exact RVs.fin 0 _ _ (hr.mono (hI.le_row c' (n*sz)))
          exact Xqn G w.heap.size c' (n*sz) _ h3
  |_=>simp[ckOp]at hck
theorem Jdb{n:Nat}{p x:AO}(hck:ckOp P GT o.op (.st n p x)=true)(h:aOp E st ev (.st n p x)=some (r,st')):OpRun P GT w0 G w st ((execOp ρ o).run P w) r st':=by
 obtain⟨dst,op,type,pos,after,guard⟩:=o;cases op with
 |store t p' x'=>
  simp only[ckOp,Bool.and_eq_true,decide_eq_true_eq]at hck;obtain⟨⟨hs,hp⟩,hx⟩:=hck;have hp:=hO _ _ hp;have hx:=hO _ _ hx;simp only[aOp,Xab,Xas,Option.some.injEq,Prod.mk.injEq]at h;obtain⟨st1,hst,rfl,rfl⟩:=h;unfold Xag at hst;split at hst
  ·rename_i b off hb;split at hst
   ·rename_i ty c hblk;simp only[Xad,Bool.and_eq_true,decide_eq_true_eq,Option.some.injEq]at hst;obtain⟨⟨⟨⟨h1,h2⟩,h3⟩,_⟩,rfl⟩:=hst;rw[hb]at hp;simp only[RV]at hp;obtain⟨g,hg,hp⟩:=hp;obtain⟨y,hy,hr⟩:=hI.blk' hblk hg;simp only[RB]at hr;obtain⟨cs,xs,rest,rfl,hxs,hr⟩:=hr;have hcl:=hx.cells.length;have hcs:=hr.length;have hcx:cs.size=xs.length+rest.length:=by rw[<-Array.length_toList,hxs,List.length_append]
    simp only[Array.length_toList]at hcl;obtain⟨cs',hrun,hcs'⟩:=Xb0 P (g:=g) (o:=off) (t:=ty) (ρ x').cells.toList 0 cs w hy (by simp;omega) (hx.cells.ones h2);refine⟨Go.undef,_,G,.inr ⟨?_,rfl⟩,.refl G,hI.setBlk hg (by rw[hblk];simp) (o:=.cells ty (wrC c off (ev x).cells)) (x:=.cells cs' ty (0,0)) ?_,by simp[RV,AV.undef,Go.undef,RVs]⟩
    ·have hsz:¬((ρ x').cells.size≠n):=by omega
     simp only[execOp,Instr.storeAt,hp,Instr.sureAddr,storeVar,Sem.run_bind,Xcj hs,Result.andThen_ok,Sem.run_pure,if_neg hsz,hrun]
    ·simp only[RB];refine⟨cs',xs.take off++(ρ x').cells.toList++xs.drop (off+(ρ x').cells.toList.length),rest,rfl,?_,hr.wr hx.cells⟩;rw[hcs',hxs];simp only[Nat.add_zero];have hl:(ρ x').cells.toList.length=n:=by simpa using hcl.trans h1
     rw[List.take_append_of_le_length (by omega),List.drop_append_of_le_length (by omega)];simp only[List.append_assoc]
   ·cases hst
  ·cases hst
 |_=>simp[ckOp]at hck
end
section
variable{P:Program}{GT:Nat->Option (List AV)}{w0 w:World}{G:Gh}{st st':St}{E:Env}{ev:AO->AV}{ρ:Operand->Value}{r:Rt AV}{o:Oper}
theorem Xio(op:BinOp)(t yt:TypeId)(x y:Operand)(dst:Option Tmp)(type:TypeId)(pos:String)(after:Array Edge)(guard:Option (Nat×Bool))(v:Value)
  (h1:(eqGuard op t x y (ρ x) (ρ y)).run P w=.ok () w) (h2:(Go.binOp op t (ρ x) (ρ y)).run P w=.ok v w):
  (execOp ρ ⟨dst,.binOp op t x y yt,type,pos,after,guard⟩).run P w=.ok (.value v) w:=by
 simp only[execOp,Sem.run_bind,h1,Result.andThen_ok,h2,Sem.run_pure]
theorem Xj7{op:BinOp}{k:IntKind}{a b:Int}{v:AV}(h:Xcl op k a b=some v)(t:TypeId):∃x,(Go.binOp op t (.int k a) (.int k b)).run P w=.ok x w/\RV G v x:=by
 cases op<;>simp only[Xcl,Option.some.injEq,Xad,decide_eq_true_eq,reduceCtorEq]at h;case add=>subst h;exact⟨_,by rw[binOp_add];rfl,by simp only[RV]⟩
 case sub=>subst h;exact⟨_,by rw[binOp_sub];rfl,by simp only[RV]⟩
 case mul=>subst h;exact⟨_,by rw[binOp_mul];rfl,by simp only[RV]⟩
 case quo=>
  obtain⟨hb,rfl⟩:=h;exact⟨.int k (k.wrap (a.tdiv b)),by rw[binOp_quo];simp[Op.intDiv,hb],by simp only[RV]⟩
 case rem=>
  obtain⟨hb,rfl⟩:=h;exact⟨.int k (a.tmod b),by rw[binOp_rem];simp[Op.intDiv,hb],by simp only[RV]⟩
 case and=>subst h;exact⟨_,by rw[binOp_and];rfl,by simp only[RV]⟩
 case or=>subst h;exact⟨_,by rw[binOp_or];rfl,by simp only[RV]⟩
 case eql=>subst h;exact⟨_,by rw[binOp_eql];rfl,by simp only[RV]⟩
 case neq=>subst h;exact⟨_,by rw[binOp_neq];rfl,by simp only[RV]⟩
 case lss=>subst h;exact⟨_,by rw[binOp_lss];rfl,by simp only[RV]⟩
 case leq=>subst h;exact⟨_,by rw[binOp_leq];rfl,by simp only[RV]⟩
 case gtr=>subst h;exact⟨_,by rw[binOp_gtr];rfl,by simp only[RV]⟩
 case geq=>subst h;exact⟨_,by rw[binOp_geq];rfl,by simp only[RV]⟩
theorem Xmi(a b:ByteArray):(a.toList==b.toList)=decide (a=b):=by
 have key:a.toList=b.toList↔a=b:=by
  constructor
  ·intro h;rw[ByteArray.toList_eq,ByteArray.toList_eq]at h;cases a;cases b;simp only[ByteArray.mk.injEq];exact Array.ext' h
  ·rintro rfl;rfl
 by_cases h:a=b
 ·simp[h]
 ·have:a.toList≠b.toList:=fun e=>h (key.1 e);simp[h,this]
theorem Xjs{op:BinOp}{a b:ByteArray}{v:AV}(h:strBin op a b=some v)(t:TypeId):∃x,(Go.binOp op t (.string a) (.string b)).run P w=.ok x w/\RV G v x:=by
 cases op<;>simp only[strBin,Option.some.injEq,Xad,decide_eq_true_eq,reduceCtorEq]at h
 case add=>
  obtain⟨hb,rfl⟩:=h;have hle:¬(((a.size+b.size:Nat):Int)>IntKind.i64.max):=by simp;omega
  exact⟨.string (a++b),by simp only[Go.binOp,Op.stringOp];rw[if_neg hle];rfl,by simp only[RV]⟩
 case eql=>subst h;exact⟨.bool (decide (a=b)),by simp only[Go.binOp,Op.stringOp,Xmi];rfl,by simp only[RV]⟩
 case neq=>subst h;exact⟨.bool (!decide (a=b)),by simp only[Go.binOp,Op.stringOp,Xmi];rfl,by simp only[RV]⟩
theorem Xp0(d:Nat){t:TypeId}(hu:P.underlying t=some .bool)(a b:Bool):(Op.equalIn (d+1) t (.bool a) (.bool b)).run P w=.ok (a==b) w:=by rw[Op.equalIn];simp[run_underlying hu]
theorem Xpy(d:Nat){t:TypeId}{p q:Array TypeId}{v:Bool}(hu:P.underlying t=some (.func p q v)):(Op.equalIn (d+1) t .nilFunc .nilFunc).run P w=.ok true w:=by rw[Op.equalIn];simp[run_underlying hu]
theorem Xpz(d:Nat){t:TypeId}{p q:Array TypeId}{v:Bool}(hu:P.underlying t=some (.func p q v))(f:Go.Fn)(x y:Array Value):(Op.equalIn (d+1) t (.func f x y) .nilFunc).run P w=.ok false w:=by rw[Op.equalIn];simp[run_underlying hu]
theorem Xu9(d:Nat){t:TypeId}{ms:Array (String×TypeId)}(hu:P.underlying t=some (.interface ms))(u:TypeId)(x:Value):(Op.equalIn (d+1) t (.iface u x) .nilIface).run P w=.ok false w:=by rw[Op.equalIn];simp[run_underlying hu]
theorem Xpx(d:Nat){t:TypeId}{ms:Array (String×TypeId)}(hu:P.underlying t=some (.interface ms)):(Op.equalIn (d+1) t .nilIface .nilIface).run P w=.ok true w:=by rw[Op.equalIn];simp[run_underlying hu]
theorem Xpw(d:Nat){t e:TypeId}(hu:P.underlying t=some (.slice e)):(Op.equalIn (d+1) t (.slice none 0 0) (.slice none 0 0)).run P w=.ok true w:=by rw[Op.equalIn];simp[run_underlying hu]
theorem Xu8(d:Nat){t e:TypeId}(hu:P.underlying t=some (.slice e))(a:Addr)(n c:Nat):(Op.equalIn (d+1) t (.slice (some a) n c) (.slice none 0 0)).run P w=.ok false w:=by rw[Op.equalIn];simp[run_underlying hu]
theorem Xdk{op:BinOp}{c:Bool}{v:AV}{x y:Value}(h:eqBin op c=some v)(t:TypeId)(he:(Op.equal t x y).run P w=.ok c w)
  (hq:∀op,op=.eql\/op=.neq->Go.binOp op t x y=(match op with
   |.eql=>do pure (.bool (<-Op.equal t x y))
   |_=>do pure (.bool (!(<-Op.equal t x y))))):∃z,(Go.binOp op t x y).run P w=.ok z w/\RV G v z:=by
 cases op<;>simp only[eqBin,Option.some.injEq,reduceCtorEq]at h;case eql=>subst h;exact⟨.bool c,by rw[hq _ (.inl rfl)];simp[he],by simp only[RV]⟩
 case neq=>subst h;exact⟨.bool !c,by rw[hq _ (.inr rfl)];simp[he],by simp only[RV]⟩
variable(hO:∀x a,ckO GT x a=true->RV G (ev a) (ρ x))(hI:Inv P GT w0 G st w)
include hO hI
theorem Xx8{K:BK}{op:BinOp}{a b:AO}(hck:ckOp P GT o.op (.bin K op a b)=true)(h:aOp E st ev (.bin K op a b)=some (r,st')):OpRun P GT w0 G w st ((execOp ρ o).run P w) r st':=by
 obtain⟨dst,op',type,pos,after,guard⟩:=o;cases op' with
 |binOp op' t x y yt=>
  simp only[ckOp,Bool.and_eq_true,decide_eq_true_eq]at hck;obtain⟨⟨⟨rfl,hK⟩,hx⟩,hy⟩:=hck;have hx:=hO _ _ hx;have hyc:=hy;have hy:=hO _ _ hy;simp only[aOp,okOf,Xab,Xas,Option.some.injEq,Prod.mk.injEq]at h;obtain⟨v,hv,rfl,rfl⟩:=h;suffices hs:(eqGuard op' t x y (ρ x) (ρ y)).run P w=.ok () w/\∃z,(Go.binOp op' t (ρ x) (ρ y)).run P w=.ok z w/\RV G v z by obtain⟨h1,z,h2,h3⟩:=hs;exact OpRun.same hI (Xio op' t yt x y dst type pos after guard z h1 h2) h3
  unfold binA at hv;split at hv
  ·
   rename_i k a' k' b' ha hb;rw[ha]at hx;rw[hb]at hy;simp only[RV]at hx hy;rw[hx,hy];refine⟨by rw[eqGuard_at_int];rfl,?_⟩;split at hv
   ·simp only[Xad,decide_eq_true_eq,Option.some.injEq]at hv;obtain⟨h0,rfl⟩:=hv;refine⟨.int k (k.wrap (a'*2 ^ (min b'.toNat k.bits))),?_,by simp only[RV]⟩;rw[binOp_shl];simp only[Op.shift];rw[if_neg (by omega)];rfl
   ·simp only[Xad,decide_eq_true_eq,Option.some.injEq]at hv;obtain⟨h0,rfl⟩:=hv;refine⟨.int k (a'.fdiv (2 ^ (min b'.toNat k.bits))),?_,by simp only[RV]⟩;rw[binOp_shr];simp only[Op.shift];rw[if_neg (by omega)];rfl
   ·simp only[Xad,decide_eq_true_eq]at hv;obtain⟨rfl,hv⟩:=hv;exact Xj7 hv t
  ·
   rename_i a' b' ha hb;rw[ha]at hx;rw[hb]at hy;simp only[RV]at hx hy;rw[hx,hy];exact⟨by rw[eqGuard_at_string];rfl,Xjs hv t⟩
  ·
   rename_i a' b' ha hb;rw[ha]at hx;rw[hb]at hy;simp only[RV]at hx hy;rw[hx,hy]
   have hu:P.underlying t=some .bool:=by
    simp only[ckBK]at hK;split at hK
    ·rename_i h';exact h'
    ·cases hK
   refine⟨by rw[eqGuard_at_bool];rfl,Xdk hv t ?_ fun op ho=>?_⟩
   ·exact Xp0 9999 hu _ _
   ·rcases ho with rfl|rfl<;>rfl
  all_goals skip
  ·
   rename_i ha hb;rw[ha]at hx;rw[hb]at hy;simp only[RV]at hx hy;rw[hx,hy]
   obtain⟨p,q,r',hu⟩:∃p q r',P.underlying t=some (.func p q r'):=by
    simp only[ckBK]at hK;split at hK
    ·rename_i h';exact⟨_,_,_,h'⟩
    ·cases hK
   refine⟨by rw[eqGuard_at_nilFunc];rfl,Xdk hv t ?_ fun op ho=>?_⟩
   ·exact Xpy 9999 hu
   ·rcases ho with rfl|rfl<;>rfl
  ·
   rename_i f a1 a2 ha hb;rw[ha]at hx;rw[hb]at hy;simp only[RV]at hx hy;obtain⟨fa,fb,hx,_,_⟩:=hx;rw[hx,hy]
   obtain⟨p,q,r',hu⟩:∃p q r',P.underlying t=some (.func p q r'):=by
    simp only[ckBK]at hK;split at hK
    ·rename_i h';exact⟨_,_,_,h'⟩
    ·cases hK
   refine⟨by rw[eqGuard_at_func];rfl,Xdk hv t ?_ fun op ho=>?_⟩
   ·exact Xpz 9999 hu _ _ _
   ·rcases ho with rfl|rfl<;>rfl
  ·rename_i f ha hb;rw[ha]at hx;rw[hb]at hy;simp only[RV]at hx hy;obtain⟨fa,_,hx⟩:=hx;rw[hx,hy]
   obtain⟨p,q,r',hu⟩:∃p q r',P.underlying t=some (.func p q r'):=by
    simp only[ckBK]at hK;split at hK
    ·rename_i h';exact⟨_,_,_,h'⟩
    ·cases hK
   refine⟨by rw[eqGuard_at_func];rfl,Xdk hv t ?_ fun op ho=>?_⟩
   ·exact Xpz 9999 hu _ _ _
   ·rcases ho with rfl|rfl<;>rfl
  ·
   rename_i u z ha hb;rw[ha]at hx;rw[hb]at hy;simp only[RV]at hx hy;obtain⟨z',hx,_⟩:=hx;rw[hx,hy]
   obtain⟨ms,hu⟩:∃ms,P.underlying t=some (.interface ms):=by
    simp only[ckBK,Bool.and_eq_true]at hK;have h1:=hK.1;split at h1
    ·rename_i h';exact⟨_,h'⟩
    ·cases h1
   refine⟨by rw[eqGuard_at_iface];rfl,Xdk hv t ?_ fun op ho=>?_⟩
   ·exact Xu9 9999 hu _ _
   ·rcases ho with rfl|rfl<;>rfl
  ·rename_i ha hb;rw[ha]at hx;rw[hb]at hy;simp only[RV]at hx hy;simp only[ckBK,Bool.and_eq_true]at hK
   obtain⟨ms,hu⟩:∃ms,P.underlying t=some (.interface ms):=by
    have h1:=hK.1;split at h1
    ·rename_i h';exact⟨_,h'⟩
    ·cases h1
   have h2:=hK.2;split at h2
   ·rw[hx,hy];refine⟨by rw[eqGuard_nil_constR];rfl,Xdk hv t ?_ fun op ho=>?_⟩
    ·exact Xpx 9999 hu
    ·rcases ho with rfl|rfl<;>rfl
   ·cases h2
  ·
   rename_i ha hb;rw[ha]at hx;rw[hb]at hy;simp only[RV]at hx hy;rw[hx,hy]
   obtain⟨e,hu⟩:∃e,P.underlying t=some (.slice e):=by
    simp only[ckBK]at hK;split at hK
    ·rename_i h';exact⟨_,h'⟩
    ·cases hK
   refine⟨by rw[eqGuard_at_slice];rfl,Xdk hv t ?_ fun op ho=>?_⟩
   ·exact Xpw 9999 hu
   ·rcases ho with rfl|rfl<;>rfl
  ·rename_i i' n' c' ha hb;rw[ha]at hx;rw[hb]at hy;simp only[RV]at hx hy;obtain⟨g,cap,_,hx,_⟩:=hx;rw[hx,hy]
   obtain⟨e,hu⟩:∃e,P.underlying t=some (.slice e):=by
    simp only[ckBK]at hK;split at hK
    ·rename_i h';exact⟨_,h'⟩
    ·cases hK
   refine⟨by rw[eqGuard_at_slice];rfl,Xdk hv t ?_ fun op ho=>?_⟩
   ·exact Xu8 9999 hu _ _ _
   ·rcases ho with rfl|rfl<;>rfl
  ·cases hv
 |_=>simp[ckOp]at hck
theorem Jc9{op:UnOp}{a:AO}(hck:ckOp P GT o.op (.un op a)=true)(h:aOp E st ev (.un op a)=some (r,st')):OpRun P GT w0 G w st ((execOp ρ o).run P w) r st':=by
 obtain⟨dst,op',type,pos,after,guard⟩:=o;cases op' with
 |unOp op' t x=>
  simp only[ckOp,Bool.and_eq_true,decide_eq_true_eq]at hck;obtain⟨rfl,hx⟩:=hck;have hx:=hO _ _ hx;simp only[aOp,okOf,Xab,Xas,Option.some.injEq,Prod.mk.injEq]at h;obtain⟨v,hv,rfl,rfl⟩:=h;unfold unA at hv;split at hv
  ·rename_i b hb;cases hv;rw[hb]at hx;simp only[RV]at hx;exact OpRun.same hI (x:=.bool !b) (by simp[execOp,hx,Op.unary]) (by simp only[RV])
  ·rename_i k n hb;cases hv;rw[hb]at hx;simp only[RV]at hx;exact OpRun.same hI (x:=.int k (k.wrap (0 - n))) (by simp[execOp,hx,Op.unary,Op.intArith]) (by simp only[RV])
  ·rename_i k n hb;cases hv;rw[hb]at hx;simp only[RV]at hx;exact OpRun.same hI (x:=.int k (k.wrap ((BitVec.ofInt k.bits (if k.signed then -1 else k.max) ^^^ BitVec.ofInt k.bits n).toNat))) (by simp[execOp,hx,Op.unary,Op.intBits]) (by simp only[RV])
  ·cases hv
 |_=>simp[ckOp]at hck
theorem Xx5{k:IntKind}{a:AO}(hck:ckOp P GT o.op (.cvi k a)=true)(h:aOp E st ev (.cvi k a)=some (r,st')):OpRun P GT w0 G w st ((execOp ρ o).run P w) r st':=by
 obtain⟨dst,op',type,pos,after,guard⟩:=o;cases op' with
 |convert s d x=>
  simp only[ckOp,Bool.and_eq_true]at hck;obtain⟨⟨hs,hd⟩,hx⟩:=hck;have hx:=hO _ _ hx;obtain⟨ds,hs⟩:=Option.isSome_iff_exists.1 hs
  have hd':P.underlying d=some (.int k):=by
   split at hd
   ·rename_i h';simp only[decide_eq_true_eq]at hd;rw[h',hd]
   ·cases hd
  simp only[aOp]at h;split at h
  ·rename_i k' n hb;simp only[Xas,Option.some.injEq,Prod.mk.injEq]at h;obtain⟨rfl,rfl⟩:=h;rw[hb]at hx;simp only[RV]at hx;refine OpRun.same hI (x:=.int k (k.wrap n)) ?_ (by simp only[RV]);simp[execOp,hx,Go.convert,run_underlying hs,run_underlying hd',Conv.intToInt]
  ·cases h
 |_=>simp[ckOp]at hck
omit hO hI in
theorem Xir:∀{cs:List AV} {l:List UInt8},Xel cs=some l->∃ns:List Int,cs=ns.map (AV.int .u8)/\l=ns.map fun n=>UInt8.ofNat n.toNat
 |[],l,h=>by simp only[Xel,Option.some.injEq]at h;subst h;exact⟨[],rfl,rfl⟩
 |c::cs,l,h=>by
  unfold Xel at h;split at h
  ·rename_i heq;cases heq
  ·rename_i n rest heq;cases heq;simp only[Xab,Option.some.injEq]at h;obtain⟨l',hl',rfl⟩:=h;obtain⟨ns,rfl,rfl⟩:=Xir hl';exact⟨n::ns,rfl,rfl⟩
  ·cases h
theorem Xx4{a:AO}(hck:ckOp P GT o.op (.cvs a)=true)(h:aOp E st ev (.cvs a)=some (r,st')):OpRun P GT w0 G w st ((execOp ρ o).run P w) r st':=by
 obtain⟨dst,op',type,pos,after,guard⟩:=o;cases op' with
 |convert s d x=>
  simp only[ckOp,Bool.and_eq_true]at hck;obtain⟨⟨hs,hd⟩,hx⟩:=hck;have hx:=hO _ _ hx
  have hd':P.underlying d=some .string:=by
   split at hd
   ·rename_i h';exact h'
   ·cases hd
  cases he:Xa9 P s with
  |none=>simp[he]at hs
  |some e=>
   simp only[he]at hs
   have he':P.underlying e=some (.int .u8):=by
    split at hs
    ·rename_i h';exact h'
    ·cases hs
   have hs':=Xay he;simp only[aOp]at h;split at h
   ·rename_i hb;simp only[Xas,Option.some.injEq,Prod.mk.injEq]at h;obtain⟨rfl,rfl⟩:=h;rw[hb]at hx;simp only[RV]at hx;refine OpRun.same hI (x:=.string ByteArray.empty) ?_ (by simp only[RV];rfl);simp only[execOp,Sem.run_bind,hx,run_convert_bytes_nil w s e hs' he' 0 0 d hd',Result.andThen_ok,Sem.run_pure]
   ·rename_i own n cs hb;simp only[Xad,decide_eq_true_eq,Xab,Xas,Option.some.injEq,Prod.mk.injEq]at h;obtain⟨hlen,l,hl,rfl,rfl⟩:=h;obtain⟨ns,rfl,rfl⟩:=Xir hl;rw[hb]at hx;have hn:ns.length=n:=by simpa using hlen
    have hres:(ByteArray.mk (ns.map fun n=>UInt8.ofNat n.toNat).toArray)=strOfNums ns:=rfl;rw[hres]
    have cells:∀g q,RC G g q (ns.map (AV.int .u8))->∀i,i<n->w.cell? ⟨g,q+i,none⟩=some (.int .u8 (ns.getD i 0)):=by
     intro g q hr i hi;have hi':i<ns.length:=by omega
     obtain⟨y,hy,hv⟩:=hr.get (i:=i) (a:=.int .u8 (ns.getD i 0)) (by simp[hi']);simp only[RV]at hv;rw[hI.pr _ _ _ hy,hv]
    have done:∀A cap,ρ x=.slice A n cap->(n=0\/∃g q,A=some ⟨g,q,none⟩/\RC G g q (ns.map (AV.int .u8)))->OpRun P GT w0 G w st ((execOp ρ ⟨dst,.convert s d x,type,pos,after,guard⟩).run P w) (.ok (.str (strOfNums ns))) st:=by
     intro A cap hx h;refine OpRun.same hI (x:=.string (strOfNums ns)) ?_ (by simp only[RV])
     have:(Go.convert s d (.slice A n cap)).run P w=.ok (.string (strOfNums ns)) w:=by
      cases A with
      |none=>
       rcases h with h|⟨g,q,h,_⟩
       ·have:ns=[]:=List.eq_nil_of_length_eq_zero (by omega);subst this;exact run_convert_bytes_nil w s e hs' he' n cap d hd'
       ·cases h
      |some ad=>
       rcases h with h|⟨g,q,h,hr⟩
       ·have:ns=[]:=List.eq_nil_of_length_eq_zero (by omega);subst this;subst h;simp[Go.convert,run_underlying hs',run_underlying hd',run_underlying he',Conv.bytesToString,loadCells,loadCellsFrom,strOfNums];rfl
       ·cases h;exact run_convert_bytes_arg w s e hs' he' g q n cap ns hn (cells g q hr) d hd'
     simp only[execOp,Sem.run_bind,hx,this,Result.andThen_ok,Sem.run_pure]
    cases own with
    |none=>
     simp only[RV]at hx;obtain⟨A,cap,hx,_,_,h3⟩:=hx;exact done A cap hx (h3.imp And.left id)
    |some id=>
     simp only[RV]at hx;obtain⟨g,cap,_,hx,_,_,hr⟩:=hx;exact done _ cap hx (.inr ⟨g,0,rfl,hr⟩)
   ·cases h
 |_=>simp[ckOp]at hck
end
theorem Xqc(a b:ByteArray):(a==b)=decide (a=b):=by cases a;cases b;rename_i a b;show(a==b)=_;rw[Bool.eq_iff_iff];simp
section
variable{P:Program}{GT:Nat->Option (List AV)}{w0 w:World}{G:Gh}{st st':St}{E:Env}{ev:AO->AV}{ρ:Operand->Value}{r:Rt AV}{o:Oper}
variable(hO:∀x a,ckO GT x a=true->RV G (ev a) (ρ x))(hI:Inv P GT w0 G st w)
include hO hI
theorem Xx0{len sz:Nat}{x i:AO}(hck:ckOp P GT o.op (.iaa len sz x i)=true)(h:aOp E st ev (.iaa len sz x i)=some (r,st')):OpRun P GT w0 G w st ((execOp ρ o).run P w) r st':=by
  obtain⟨dst,op,type,pos,after,guard⟩:=o;cases op with
  |indexAddr t x' i'=>
    simp only[ckOp,Bool.and_eq_true]at hck;obtain⟨⟨hs,hx⟩,hi⟩:=hck;have hx:=hO _ _ hx;have hi:=hO _ _ hi
    obtain⟨e,hu,hsz⟩:∃e,P.underlying t=some (.array len e)/\szOf P e=some sz:=by
      split at hs
      ·rename_i n e h';simp only[Bool.and_eq_true,decide_eq_true_eq]at hs;exact⟨e,by rw[h',hs.1],hs.2⟩
      ·cases hs
    have key:∀g q k j,ρ x'=.pointer (some ⟨g,q,none⟩)->ρ i'=.int k j->(0<=j/\j<len)->
        (execOp ρ ⟨dst,.indexAddr t x' i',type,pos,after,guard⟩).run P w=.ok (.value (.pointer (some ⟨g,q+j.toNat*sz,none⟩))) w:=by
      intro g q k j hx hi hb;have:(Instr.indexAt t (.pointer (some ⟨g,q,none⟩)) (.int k j)).run P w=.ok (.pointer (some ⟨g,q+j.toNat*sz,none⟩)) w:=by simp only[Instr.indexAt,asIntOf,Sem.run_bind,Sem.run_pure,Result.andThen_ok,run_underlying hu,Instr.sureAddr];rw[if_pos hb];simp[Xcj hsz,Addr.add_lit]
      simp only[execOp,hx,hi,Sem.run_bind,this,Result.andThen_ok,Sem.run_pure]
    simp only[aOp]at h;split at h
    ·rename_i b off k j hb hj;simp only[Xad,Bool.and_eq_true,decide_eq_true_eq,Xas,Option.some.injEq,Prod.mk.injEq]at h;obtain⟨hbd,rfl,rfl⟩:=h;rw[hb]at hx;rw[hj]at hi;simp only[RV]at hx hi;obtain⟨g,hg,hx⟩:=hx;exact OpRun.same hI (key g off k j hx hi hbd) (by simp only[RV];exact⟨g,hg,rfl⟩)
    ·rename_i c off k j hb hj;simp only[Xad,Bool.and_eq_true,decide_eq_true_eq,Xas,Option.some.injEq,Prod.mk.injEq]at h;obtain⟨hbd,rfl,rfl⟩:=h;rw[hb]at hx;rw[hj]at hi;simp only[RV]at hx hi;obtain⟨g,q,hx,hr⟩:=hx;exact OpRun.same hI (key g (q+off) k j hx hi hbd) (by simp only[RV];exact⟨g,q,by rw[Nat.add_assoc],hr⟩)
    ·cases h
  |_=>simp[ckOp]at hck
theorem Xxz{x i:AO}(hck:ckOp P GT o.op (.ixs x i)=true)(h:aOp E st ev (.ixs x i)=some (r,st')):OpRun P GT w0 G w st ((execOp ρ o).run P w) r st':=by
 obtain⟨dst,op,type,pos,after,guard⟩:=o;cases op with
 |index t x' i'=>
  simp only[ckOp,Bool.and_eq_true]at hck;obtain⟨⟨hs,hx⟩,hi⟩:=hck;have hx:=hO _ _ hx;have hi:=hO _ _ hi
  have hu:P.underlying t=some .string:=by
   split at hs
   ·rename_i h';exact h'
   ·cases hs
  simp only[aOp]at h;split at h
  ·rename_i s k j hb hj;simp only[Xad,decide_eq_true_eq,okOf,Xab,Option.map_eq_some_iff,Xas,Option.some.injEq,Prod.mk.injEq]at h;obtain⟨h0,v,⟨b,hbb,rfl⟩,rfl,rfl⟩:=h;rw[hb]at hx;rw[hj]at hi;simp only[RV]at hx hi;refine OpRun.same hI (x:=.int .u8 b.toNat) ?_ (by simp only[RV]);have hget:s[j.toNat]?=some b:=by obtain⟨hlt,hb'⟩:=Array.getElem?_eq_some_iff.1 hbb;have hlt':j.toNat<s.size:=hlt;rw[getElem?_pos s j.toNat hlt'];exact congrArg some hb'
   simp only[execOp,hx,hi,Sem.run_bind,Instr.index,asIntOf,Sem.run_pure,Result.andThen_ok,run_underlying hu,if_pos h0,hget]
  ·cases h
 |_=>simp[ckOp]at hck
theorem Xx2{off:Nat}{k:Option Nat}{x:AO}(hck:ckOp P GT o.op (.fld off k x)=true)(h:aOp E st ev (.fld off k x)=some (r,st')):OpRun P GT w0 G w st ((execOp ρ o).run P w) r st':=by
 obtain⟨dst,op,type,pos,after,guard⟩:=o;cases op with
 |field t x' i=>
  simp only[ckOp,Bool.and_eq_true]at hck;obtain⟨hf,hx⟩:=hck;have hx:=hO _ _ hx;cases hff:Xfc P t i with
  |none=>simp[hff]at hf
  |some f=>
   simp only[hff,Bool.and_eq_true,decide_eq_true_eq]at hf;obtain⟨rfl,hk⟩:=hf
   obtain⟨fs,hu,hfs⟩:∃fs,P.underlying t=some (.struct fs)/\fs[i]?=some f:=by
    unfold Xfc at hff;split at hff
    ·rename_i fs h';exact⟨fs,h',hff⟩
    ·cases hff
   simp only[aOp]at h;split at h
   ·rename_i cs hb;simp only[okOf,Xab,Xas,Option.some.injEq,Prod.mk.injEq]at h;obtain⟨v,hv,rfl,rfl⟩:=h;rw[hb]at hx;simp only[RV]at hx;obtain⟨c,hx,hr⟩:=hx
    have key:∃y,(part f.type c f.offset).run P w=.ok y w/\RV G v y:=by
     unfold ckK at hk;cases hd:P.underlying f.type with
     |none=>simp[hd]at hk
     |some d=>
      have scalar:(∀fs,d≠ .struct fs)->(∀n e,d≠ .array n e)->k=none->∃y,(part f.type c f.offset).run P w=.ok y w/\RV G v y:=by
       intro h1 h2 hk0;subst hk0;simp only[rdC]at hv;obtain⟨y,hy,hvy⟩:=hr.get hv;have hy':c[f.offset]?=some y:=by simpa using hy
       refine⟨y,?_,hvy⟩;unfold part isAgg;simp only[Sem.run_bind,run_underlying hd,Result.andThen_ok];cases d<;>first|exact absurd rfl (h1 _)|exact absurd rfl (h2 _ _)|simp[hy']
      have agg:(∃n,szOf P f.type=some n/\k=some n)->((∃fs,d=.struct fs)\/∃n e,d=.array n e)->∃y,(part f.type c f.offset).run P w=.ok y w/\RV G v y:=by
       rintro⟨n,hn,rfl⟩ hdd;simp only[rdC]at hv;split at hv
       ·rename_i hle;cases hv;refine⟨.agg (c.extract f.offset (f.offset+n)),?_,?_⟩
        ·unfold part isAgg;simp only[Sem.run_bind,run_underlying hd,Result.andThen_ok];rcases hdd with⟨fs,rfl⟩|⟨m,e,rfl⟩<;>simp[Xcj hn]
        ·simp only[RV];refine⟨_,rfl,?_⟩
         have e1:(c.extract f.offset (f.offset+n)).toList=(c.toList.drop f.offset).take n:=by
          rw[Array.toList_extract,List.extract_eq_take_drop]
          congr 1;omega
         rw[e1];exact(hr.drop _).take _
       ·cases hv
      cases d with
      |struct fs=>
       simp only[hd,Bool.and_eq_true,decide_eq_true_eq]at hk;cases k with
       |none=>simp at hk
       |some n=>exact agg ⟨n,hk.1,rfl⟩ (.inl ⟨fs,rfl⟩)
      |array m e=>
       simp only[hd,Bool.and_eq_true,decide_eq_true_eq]at hk;cases k with
       |none=>simp at hk
       |some n=>exact agg ⟨n,hk.1,rfl⟩ (.inr ⟨m,e,rfl⟩)
      |_=>simp only[hd,decide_eq_true_eq]at hk;exact scalar (by simp) (by simp) hk
    obtain⟨y,hy,hvy⟩:=key;refine OpRun.same hI (x:=y) ?_ hvy;simp only[execOp,Sem.run_bind,hx,Instr.field,run_underlying hu,Result.andThen_ok,hfs,asAgg,Sem.run_pure,hy]
   ·cases h
 |_=>simp[ckOp]at hck
theorem Xxy{str:Bool}{x:AO}(hck:ckOp P GT o.op (.len str x)=true)(h:aOp E st ev (.len str x)=some (r,st')):OpRun P GT w0 G w st ((execOp ρ o).run P w) r st':=by
 obtain⟨dst,op,type,pos,after,guard⟩:=o;cases op with
 |call c=>
  obtain⟨callee,args,argTypes⟩:=c;simp only[ckOp,Xzw]at hck;split at hck
  ·rename_i x' t harg hty;simp only[Bool.and_eq_true]at hck;obtain⟨ht,hx⟩:=hck;have hx:=hO _ _ hx;have ha:args= #[x']:=by rw[<-Array.toArray_toList (xs:=args),harg]
   have hb:argTypes= #[t]:=by rw[<-Array.toArray_toList (xs:=argTypes),hty]
   subst ha hb;simp only[aOp,okOf,Xab,Xas,Option.some.injEq,Prod.mk.injEq]at h;obtain⟨v,hv,rfl,rfl⟩:=h
   have key:∃y,(Builtin.len_ #[t] type #[ρ x']).run P w=.ok y w/\RV G v y:=by
    unfold lenA at hv;split at hv
    ·rename_i s hb;simp only[Xad,Option.some.injEq]at hv;obtain⟨rfl,rfl⟩:=hv;rw[hb]at hx;simp only[RV]at hx
     have hu:P.underlying t=some .string:=by
      split at ht
      ·rename_i h';exact h'
      ·cases ht
      ·cases ht
     exact⟨goInt s.size,by simp[Builtin.len_,run_underlying hu,hx],by simp only[RV,i64];rfl⟩
    ·rename_i hb;simp only[Xad,Option.some.injEq,Bool.not_eq_true']at hv;obtain⟨rfl,rfl⟩:=hv;rw[hb]at hx;simp only[RV]at hx
     obtain⟨e,hu⟩:∃e,P.underlying t=some (.slice e):=by
      split at ht
      ·cases ht
      ·rename_i h';exact⟨_,h'⟩
      ·cases ht
     exact⟨goInt 0,by simp[Builtin.len_,run_underlying hu,hx],by simp only[RV,i64];rfl⟩
    ·rename_i own n cs hb;simp only[Xad,Option.some.injEq,Bool.not_eq_true']at hv;obtain⟨rfl,rfl⟩:=hv;rw[hb]at hx
     have hx':∃A cap,ρ x'=.slice A n cap:=by
      cases own with
      |none=>simp only[RV]at hx;obtain⟨A,cap,hx,_⟩:=hx;exact⟨A,cap,hx⟩
      |some i=>simp only[RV]at hx;obtain⟨g,cap,_,hx,_⟩:=hx;exact⟨_,cap,hx⟩
     obtain⟨A,cap,hx'⟩:=hx'
     obtain⟨e,hu⟩:∃e,P.underlying t=some (.slice e):=by
      split at ht
      ·cases ht
      ·rename_i h';exact⟨_,h'⟩
      ·cases ht
     exact⟨goInt n,by simp[Builtin.len_,run_underlying hu,hx'],by simp only[RV,i64];rfl⟩
    ·rename_i b n hb;simp only[Xad,Option.some.injEq,Bool.not_eq_true']at hv;obtain⟨rfl,rfl⟩:=hv;rw[hb]at hx;simp only[RV]at hx;obtain⟨g,cap,_,hx',_⟩:=hx
     obtain⟨e,hu⟩:∃e,P.underlying t=some (.slice e):=by
      split at ht
      ·cases ht
      ·rename_i h';exact⟨_,h'⟩
      ·cases ht
     exact⟨goInt n,by simp[Builtin.len_,run_underlying hu,hx'],by simp only[RV,i64];rfl⟩
    ·cases hv
   obtain⟨y,hy,hvy⟩:=key;refine OpRun.same hI (x:=y) ?_ hvy;simp only[execOp,resolve,Sem.run_bind,Sem.run_pure,Result.andThen_ok,invoke,Go.builtin];simp[hy]
  ·cases hck
 |_=>simp[ckOp]at hck
theorem Xty{x y:AO}(hck:ckOp P GT o.op (.mini x y)=true)(h:aOp E st ev (.mini x y)=some (r,st')):OpRun P GT w0 G w st ((execOp ρ o).run P w) r st':=by
 obtain⟨dst,op,type,pos,after,guard⟩:=o;cases op with
 |call c=>
  obtain⟨callee,args,argTypes⟩:=c;simp only[ckOp,Xzv]at hck;split at hck
  ·rename_i x' y' harg;simp only[Bool.and_eq_true]at hck;have hx:=hO _ _ hck.1;have hy:=hO _ _ hck.2;have ha:args= #[x',y']:=by rw[<-Array.toArray_toList (xs:=args),harg]
   subst ha;simp only[aOp]at h;split at h
   ·rename_i k a k' b ha hb;simp only[Xas,Option.some.injEq,Prod.mk.injEq]at h;obtain⟨rfl,rfl⟩:=h;rw[ha]at hx;rw[hb]at hy;simp only[RV]at hx hy;refine OpRun.same hI (x:=.int k (if b<a then b else a)) ?_ (by simp only[RV]);simp only[execOp,resolve,Sem.run_bind,Sem.run_pure,Result.andThen_ok,invoke,Go.builtin];simp[Builtin.min_,hx,hy,Builtin.min2]
   ·cases h
  ·cases hck
 |_=>simp[ckOp]at hck
theorem Xxt(hck:ckOp P GT o.op .mkm=true)(h:aOp E st ev .mkm=some (r,st')):OpRun P GT w0 G w st ((execOp ρ o).run P w) r st':=by
 obtain⟨dst,op,type,pos,after,guard⟩:=o;cases op with
 |makeMap t m=>
  simp only[ckOp]at hck;cases m with
  |some m=>simp at hck
  |none=>
   simp only[aOp,Xas,Option.some.injEq,Prod.mk.injEq]at h;obtain⟨rfl,rfl⟩:=h;refine⟨.map (some w.heap.size),w.alloc (.map #[] 0),_,.inl rfl,hI.le_blk w.heap.size,hI.alloc (o:=.map []) (x:=.map #[] 0) (by simp only[RB];exact⟨#[],0,rfl,by simp[REs]⟩),by simp only[RV];exact⟨w.heap.size,by simp[Gh.withBlk],rfl⟩⟩
 |_=>simp[ckOp]at hck
omit hO in
theorem Xgj{t:TypeId}{str:Bool}(hk:Xjg P t str=true){k:AV}{x:Value}(hx:RV G k x)(ho:Xc7 str k=true)(em:Bool):(Instr.checkKey em 10000 t x).run P w=.ok () w:=by
 show(Instr.checkKey em (9999+1) t x).run P w=_;rw[Instr.checkKey];cases hu:P.underlying t with
 |none=>simp[Xjg,hu]at hk
 |some d=>
  simp only[Sem.run_bind,run_underlying hu,Result.andThen_ok];cases k<;>simp[Xc7]at ho<;>simp only[RV]at hx<;>subst hx<;>cases d<;>simp[Xjg,hu,ho]at hk<;>rfl
omit hO hI in
theorem Xft{d:TypeDesc}{str:Bool}(hd:if str=true then d=.string else∃k,d=.int k){k:AV}{x:Value}(hx:RV G k x):∀{es:List (AV×AV)} {ents:List MapEntry} {res:Option AV} (i:Nat),
  Xew str k es=some res->REs G es ents->∃r,Instr.findNow d x ents i=some r/\(match res with
   |none=>r=none
   |some v=> ∃j y,r=some (j,y)/\RV G v y)
 |[],ents,res,i,h,he=>by simp only[REs]at he;subst he;simp only[Xew,Option.some.injEq]at h;subst h;exact⟨none,rfl,rfl⟩
 |(q,u)::es,ents,res,i,h,he=>by
  simp only[REs]at he;obtain⟨e,es',rfl,hq,hu,hr⟩:=he;simp only[Xew,Xab]at h;obtain⟨b,hb,h⟩:=h
  have hs:Instr.sameNow d x e.key=some b:=by
   cases k<;>cases q<;>simp[Xgp,Xad]at hb
   ·obtain⟨⟨rfl,rfl⟩,rfl⟩:=hb;simp only[Bool.false_eq_true,if_false]at hd;obtain⟨kk,rfl⟩:=hd;simp only[RV]at hx hq;rw[hx,hq];simp[Instr.sameNow]
   ·obtain⟨rfl,rfl⟩:=hb;simp only[if_true]at hd;subst hd;simp only[RV]at hx hq;rw[hx,hq];simp only[Instr.sameNow]
    congr 1
    rename_i s1 s2;exact Xqc s1 s2
  simp only[Instr.findNow,hs];cases b with
  |true=>
   simp only[↓reduceIte,Option.some.injEq]at h;subst h;exact⟨_,rfl,i,e.val,rfl,hu⟩
  |false=>
   simp only[Bool.false_eq_true,↓reduceIte]at h;exact Xft hd hx (i+1) h hr
omit hO hI in
theorem Xov{t:TypeId}{str:Bool}(hk:Xjg P t str=true):∃d,P.underlying t=some d/\(if str=true then d=.string else∃k,d=.int k):=by
 unfold Xjg at hk;split at hk
 ·rename_i k h';simp only[Bool.not_eq_true']at hk;subst hk;exact⟨_,h',by simp⟩
 ·rename_i h';subst hk;exact⟨_,h',by simp⟩
 ·cases hk
theorem Xxx{str:Bool}{z:AV}{ok:Bool}{m k:AO}(hck:ckOp P GT o.op (.lkp str z ok m k)=true)(h:aOp E st ev (.lkp str z ok m k)=some (r,st')):OpRun P GT w0 G w st ((execOp ρ o).run P w) r st':=by
 obtain⟨dst,op,type,pos,after,guard⟩:=o;cases op with
 |lookup t m' k' ok'=>
  simp only[ckOp,Bool.and_eq_true,decide_eq_true_eq]at hck;obtain⟨⟨⟨ht,rfl⟩,hm⟩,hk⟩:=hck;have hm:=hO _ _ hm;have hk:=hO _ _ hk;split at ht
  ·rename_i key elem hu;simp only[Bool.and_eq_true]at ht;obtain⟨hkey,hz⟩:=ht;obtain⟨d,hud,hd⟩:=Xov hkey;simp only[aOp]at h;split at h
   ·rename_i b hb;split at h
    ·rename_i es hes;simp only[Xad,Xab,Xas,Option.some.injEq,Prod.mk.injEq]at h;obtain⟨hko,res,hres,rfl,rfl⟩:=h;rw[hb]at hm;simp only[RV]at hm;obtain⟨g,hg,hm⟩:=hm;obtain⟨x,hx,hr⟩:=hI.blk' hes hg;simp only[RB]at hr;obtain⟨ents,clock,rfl,hr⟩:=hr;obtain⟨r0,hr0,hres'⟩:=Xft hd hk 0 hres hr
     obtain⟨zv,hzv⟩:∃zv,Xez P elem=some zv:=by
      unfold Xiq at hz;split at hz
      ·rename_i v h';exact⟨v,h'⟩
      ·cases hz
     have hzr:RV G z zv:=by unfold Xiq at hz;rw[hzv]at hz;exact Xdr _ _ _ hz
     have hgo:(getObj g).run P w=.ok (.map ents clock) w:=by simp[getObj,Sem.run,hx]
     have hck:=Xgj hI hkey hk hko ents.isEmpty;have hfind:(Instr.findKey key (ρ k') ents.toList).run P w=.ok r0 w:=by simp only[Instr.findKey,Sem.run_bind,run_underlying hud,Result.andThen_ok,hr0,Sem.run_pure]
     cases res with
     |none=>
      simp only at hres';subst hres';refine OpRun.same hI (x:=if ok' then .tuple #[zv,.bool false]else zv) ?_ ?_
      ·simp only[execOp,hm,Instr.lookup,Sem.run_bind,run_underlying hu,Result.andThen_ok,hgo,Sem.run_pure,hck,hfind,Xcx hzv]
      ·cases ok' with
       |true=>simp only[if_true,Option.getD_none,Option.isSome_none,RV];exact⟨_,rfl,by simp only[RVs];exact⟨zv,_,rfl,hzr,.bool false,[],rfl,by simp only[RV],rfl⟩⟩
       |false=>simpa using hzr
     |some v=>
      simp only at hres';obtain⟨j,y,rfl,hv⟩:=hres';refine OpRun.same hI (x:=if ok' then .tuple #[y,.bool true]else y) ?_ ?_
      ·simp only[execOp,hm,Instr.lookup,Sem.run_bind,run_underlying hu,Result.andThen_ok,hgo,Sem.run_pure,hck,hfind]
      ·cases ok' with
       |true=>simp only[if_true,Option.getD_some,Option.isSome_some,RV];exact⟨_,rfl,by simp only[RVs];exact⟨y,_,rfl,hv,.bool true,[],rfl,by simp only[RV],rfl⟩⟩
       |false=>simpa using hv
    ·cases h
   ·cases h
  ·cases ht
 |_=>simp[ckOp]at hck
theorem Jda{t:Nat}{ok:Bool}{z:AV}{x:AO}(hck:ckOp P GT o.op (.ta t ok z x)=true)(h:aOp E st ev (.ta t ok z x)=some (r,st')):OpRun P GT w0 G w st ((execOp ρ o).run P w) r st':=by
 obtain⟨dst,op,type,pos,after,guard⟩:=o;cases op with
 |typeAssert x' xt t' ok'=>
  simp only[ckOp,Bool.and_eq_true,decide_eq_true_eq]at hck;obtain⟨⟨⟨⟨rfl,rfl⟩,hz⟩,hu⟩,hx⟩:=hck;have hx:=hO _ _ hx
  obtain⟨zv,hzv⟩:∃zv,Xez P t'=some zv:=by
   unfold Xiq at hz;split at hz
   ·rename_i v h';exact⟨v,h'⟩
   ·cases hz
  have hzr:RV G z zv:=by unfold Xiq at hz;rw[hzv]at hz;exact Xdr _ _ _ hz
  obtain⟨d,hd,hnot⟩:∃d,P.underlying t'=some d/\∀ms,d≠ .interface ms:=by
   cases hd:P.underlying t' with
   |none=>simp[hd]at hu
   |some d=>exact⟨d,rfl,fun ms e=>by subst e;simp[hd]at hu⟩
  have bad:RV G (.tup [z,.bool false]) (.tuple #[zv,.bool false]):=by simp only[RV];exact⟨_,rfl,by simp only[RVs];exact⟨zv,_,rfl,hzr,.bool false,[],rfl,by simp only[RV],rfl⟩⟩
  simp only[aOp]at h;split at h
  ·rename_i u v hb;rw[hb]at hx;simp only[RV]at hx;obtain⟨y,hx,hv⟩:=hx;split at h
   ·rename_i hut;subst hut;simp only[Xas,Option.some.injEq,Prod.mk.injEq]at h;obtain⟨rfl,rfl⟩:=h;refine OpRun.same hI (x:=if ok' then .tuple #[y,.bool true]else y) ?_ ?_
    ·cases d<;>first|exact absurd rfl (hnot _)|simp[execOp,hx,Instr.typeAssert,run_underlying hd]
    ·cases ok' with
     |true=>simp only[if_true,RV];exact⟨_,rfl,by simp only[RVs];exact⟨y,_,rfl,hv,.bool true,[],rfl,by simp only[RV],rfl⟩⟩
     |false=>simpa using hv
   ·rename_i hut;simp only[Xad,Xas,Option.some.injEq,Prod.mk.injEq]at h;obtain⟨rfl,rfl,rfl⟩:=h;refine OpRun.same hI (x:=.tuple #[zv,.bool false]) ?_ bad;cases d<;>first|exact absurd rfl (hnot _)|simp[execOp,hx,Instr.typeAssert,run_underlying hd,hut,Xcx hzv]
  ·rename_i hb;simp only[Xad,Xas,Option.some.injEq,Prod.mk.injEq]at h;obtain⟨rfl,rfl,rfl⟩:=h;rw[hb]at hx;simp only[RV]at hx;refine OpRun.same hI (x:=.tuple #[zv,.bool false]) ?_ bad;cases d<;>first|exact absurd rfl (hnot _)|simp[execOp,hx,Instr.typeAssert,run_underlying hd,Xcx hzv]
  ·cases h
 |_=>simp[ckOp]at hck
theorem Xxq{x:AO}(hck:ckOp P GT o.op (.pan x)=true)(h:aOp E st ev (.pan x)=some (r,st')):OpRun P GT w0 G w st ((execOp ρ o).run P w) r st':=by
 obtain⟨dst,op,type,pos,after,guard⟩:=o;cases op with
 |panic x'=>
  simp only[ckOp]at hck;have hx:=hO _ _ hck;simp only[aOp]at h;split at h
  ·rename_i t v hb;simp only[Option.some.injEq,Prod.mk.injEq]at h;obtain⟨rfl,rfl⟩:=h;rw[hb]at hx;refine⟨rfl,ρ x',?_,hx⟩;simp only[RV]at hx;obtain⟨y,hx,_⟩:=hx;simp[execOp,hx,Instr.panic]
  ·cases h
 |_=>simp[ckOp]at hck
end
section
variable{P:Program}{GT:Nat->Option (List AV)}{w0 w:World}{G:Gh}{st st':St}{E:Env}{ev:AO->AV}{ρ:Operand->Value}{r:Rt AV}{o:Oper}
theorem Xob{v:AV}{x:Value}{i y:Nat}{code:BoundsCode}(h:asN v=some i)(hx:RV G v x)(hi:i<=y):(Instr.sliceBound x y code).run P w=.ok i w:=by cases v<;>simp[asN,Xad]at h;rename_i k n;simp only[RV]at hx;obtain⟨h0,rfl⟩:=h;subst hx;simp only[Instr.sliceBound,asIntOf,Sem.run_bind,Sem.run_pure,Result.andThen_ok];rw[if_pos ⟨h0,by omega⟩];rfl
theorem Xf6(hO:∀x a,ckO GT x a=true->RV G (ev a) (ρ x)){lo hi:Option Operand}{lo' hi':Option AO}{isS:Bool}{len cap a b:Nat}
  (hl:Xgd GT lo lo'=true) (hh:Xgd GT hi hi'=true) (ha:optN ev 0 lo'=some a) (hb:optN ev len hi'=some b) (hab:a<=b) (hbc:b<=cap):
  (Instr.sliceBounds isS len cap (lo.map ρ) (hi.map ρ) none).run P w=.ok (a,b,cap) w:=by
 have hb':∀{v:Operand} {v':AO} {n y:Nat} {code:BoundsCode},ckO GT v v'=true->asN (ev v')=some n->n<=y->(Instr.sliceBound (ρ v) y code).run P w=.ok n w:=
  fun h1 h2 h3=>Xob h2 (hO _ _ h1) h3
 cases hi with
 |none=>
  cases hi' with
  |some _=>simp[Xgd]at hh
  |none=>
   simp only[optN,Option.some.injEq]at hb;subst hb;cases lo with
   |none=>
    cases lo' with
    |some _=>simp[Xgd]at hl
    |none=>
     simp only[optN,Option.some.injEq]at ha;subst ha;simp[Instr.sliceBounds]
   |some l=>
    cases lo' with
    |none=>simp[Xgd]at hl
    |some l'=>
     simp only[Xgd]at hl;simp only[optN]at ha;simp[Instr.sliceBounds,hb' hl ha hab]
 |some h=>
  cases hi' with
  |none=>simp[Xgd]at hh
  |some h'=>
   simp only[Xgd]at hh;simp only[optN]at hb;cases lo with
   |none=>
    cases lo' with
    |some _=>simp[Xgd]at hl
    |none=>
     simp only[optN,Option.some.injEq]at ha;subst ha;simp[Instr.sliceBounds,hb' hh hb hbc]
   |some l=>
    cases lo' with
    |none=>simp[Xgd]at hl
    |some l'=>
     simp only[Xgd]at hl;simp only[optN]at ha;simp[Instr.sliceBounds,hb' hh hb hbc,hb' hl ha hab]
variable(hO:∀x a,ckO GT x a=true->RV G (ev a) (ρ x))(hI:Inv P GT w0 G st w)
include hO hI
theorem Xxp{k:Option Nat}{x:AO}{lo hi:Option AO}(hck:ckOp P GT o.op (.slc k x lo hi)=true)(h:aOp E st ev (.slc k x lo hi)=some (r,st')):OpRun P GT w0 G w st ((execOp ρ o).run P w) r st':=by
 obtain⟨dst,op,type,pos,after,guard⟩:=o;cases op with
 |slice t x' lo' hi' mx=>
  simp only[ckOp,Bool.and_eq_true]at hck;obtain⟨⟨⟨⟨hmx,ht⟩,hx⟩,hl⟩,hh⟩:=hck;cases mx with
  |some _=>simp at hmx
  |none=>
  have hx:=hO _ _ hx;simp only[aOp,okOf,Xab,Xas,Option.some.injEq,Prod.mk.injEq]at h;obtain⟨a,ha,b,hb,v,hv,rfl,rfl⟩:=h;unfold slcA at hv;split at hv
  ·rename_i s hs;simp only[Xad,Bool.and_eq_true,decide_eq_true_eq,Option.some.injEq]at hv;obtain⟨⟨hab,hbs⟩,rfl⟩:=hv
   have hu:P.underlying t=some .string:=by
    cases hu:P.underlying t with
    |none=>simp[hu]at ht
    |some d=>cases d<;>simp[hu]at ht⊢
   rw[hs]at hx hb;simp only[RV]at hx;have hrun:=Xf6 (P:=P) (w:=w) (isS:=false) (cap:=s.size) hO hl hh ha hb hab hbs;refine OpRun.same hI (x:=.string (s.extract a b)) ?_ (by simp only[RV]);simp only[execOp,Instr.sliceAt,Instr.slice,hx,Sem.run_bind,run_underlying hu,Result.andThen_ok,Option.map_none];simp only[lenN]at hrun;simp[hrun]
  ·rename_i sz hs;simp only[Xad,Bool.and_eq_true,decide_eq_true_eq,Option.some.injEq]at hv;obtain⟨⟨rfl,rfl⟩,rfl⟩:=hv;cases he:Xa9 P t with
   |none=>simp[he]at ht
   |some e=>
    simp only[he,decide_eq_true_eq]at ht;have hu:=Xay he;rw[hs]at hx hb;simp only[RV]at hx;have hrun:=Xf6 (P:=P) (w:=w) (isS:=true) (cap:=0) hO hl hh ha hb (Nat.le_refl _) (Nat.le_refl _);refine OpRun.same hI (x:=.slice none 0 0) ?_ (by simp only[RV];exact⟨none,0,rfl,by omega,by omega,.inl ⟨trivial,trivial⟩⟩);simp only[execOp,Instr.sliceAt,Instr.slice,hx,Sem.run_bind,run_underlying hu,Result.andThen_ok,Option.map_none];simp only[lenN]at hrun;simp[hrun,Xcj ht]
  ·rename_i sz own n cs hs;simp only[Xad,Bool.and_eq_true,decide_eq_true_eq,Option.some.injEq]at hv;obtain⟨⟨⟨hab,hbn⟩,hlen⟩,rfl⟩:=hv;cases he:Xa9 P t with
   |none=>simp[he]at ht
   |some e=>
    simp only[he,decide_eq_true_eq]at ht;have hu:=Xay he;rw[hs]at hx hb
    have key:∃A cap,ρ x'=.slice A n cap/\n<=cap/\n<=9223372036854775807/\((n=0/\cs=[])\/∃g q,A=some ⟨g,q,none⟩/\RC G g q cs):=by
     cases own with
     |none=>simpa only[RV]using hx
     |some i=>
      simp only[RV]at hx;obtain⟨g,cap,_,e1,e2,e3,e4⟩:=hx;exact⟨_,cap,e1,e2,e3,.inr ⟨g,0,rfl,e4⟩⟩
    obtain⟨A,cap,hx,hnc,hn,hA⟩:=key;have hrun:=Xf6 (P:=P) (w:=w) (isS:=true) (cap:=cap) hO hl hh ha hb hab (by omega);simp only[lenN]at hrun;refine OpRun.same hI (x:=.slice (if cap=a then A else A.map (·.add (a*sz))) (b - a) (cap - a)) ?_ ?_
    ·simp only[execOp,Instr.sliceAt,Instr.slice,hx,Sem.run_bind,run_underlying hu,Result.andThen_ok,Option.map_none];simp[hrun,Xcj ht]
    ·simp only[RV];refine⟨_,_,rfl,by omega,by omega,?_⟩;rcases hA with⟨rfl,rfl⟩|⟨g,q,rfl,hr⟩
     ·refine .inl ⟨by omega,by simp⟩
     ·by_cases hc:cap=a
      ·refine .inl ⟨by omega,?_⟩;have:b - a=0:=by omega
       rw[this];simp
      ·refine .inr ⟨g,q+a*sz,?_,?_⟩
       ·rw[if_neg hc];simp[Addr.add_lit]
       ·exact(hr.drop _).take _
  ·cases hv
 |_=>simp[ckOp]at hck
theorem Xxs{sz bytes:Nat}{z:List AV}{l c:AO}(hck:ckOp P GT o.op (.mks sz bytes z l c)=true)(h:aOp E st ev (.mks sz bytes z l c)=some (r,st')):OpRun P GT w0 G w st ((execOp ρ o).run P w) r st':=by
  obtain⟨dst,op,type,pos,after,guard⟩:=o;cases op with
  |makeSlice t l' c'=>
    simp only[ckOp,Bool.and_eq_true]at hck;obtain⟨⟨ht,hl⟩,hc⟩:=hck;have hl:=hO _ _ hl;have hc:=hO _ _ hc;cases he:Xa9 P t with
    |none=>simp[he]at ht
    |some e=>
      simp only[he]at ht;cases hi:P.info? e with
      |none=>simp[hi]at ht
      |some i=>
        simp only[hi,Bool.and_eq_true,decide_eq_true_eq]at ht;obtain⟨⟨⟨⟨rfl,rfl⟩,hzl⟩,h1⟩,hz⟩:=ht;cases hv:i.zero with
        |none=>simp[hv]at hz
        |some v=>
          simp only[hv]at hz;simp only[aOp]at h;split at h
          ·rename_i a b ha hb;simp only[Xad,Bool.and_eq_true,decide_eq_true_eq,Xas,Option.some.injEq,Prod.mk.injEq]at h;obtain⟨⟨⟨⟨⟨rfl,hb0⟩,hb1⟩,hby⟩,_⟩,rfl,rfl⟩:=h;rw[ha]at hl;rw[hb]at hc;simp only[RV]at hl hc;have hw:IntKind.i64.wrap b=b:=by simp[IntKind.wrap,IntKind.signed,IntKind.bits,Int.bmod];omega
           have hw0:IntKind.i64.wrap 0=0:=by decide
           have hbig:¬((i.bytes:Int)*b>2 ^ 48):=by have e1:(i.bytes:Int)*b<=65536*1073741824:=Int.mul_le_mul (by omega) hb1 hb0 (by omega);omega
           have hsz:((Array.range (b.toNat*i.size)).map (fun k=>v.cells[k % v.cells.size]!)).size=b.toNat*i.size:=by simp
           have hrun:(execOp ρ ⟨dst,.makeSlice t l' c',type,pos,after,guard⟩).run P w=.ok (.value (.slice (some ⟨w.heap.size,0,none⟩) 0 b.toNat))
               (w.alloc (.cells ((Array.range (b.toNat*i.size)).map (fun k=>v.cells[k % v.cells.size]!)) e)):=by
             have hu:=Xay he;simp only[execOp,Instr.makeSlice,Sem.run_bind,run_underlying hu,Result.andThen_ok,hl,hc,asInt,asIntOf,Sem.run_map,Sem.run_pure,typeInfo,run_program,hi,hw,hw0];rw[if_neg (by simp;omega)];simp only[Sem.run_bind,run_askRoom,Result.andThen_ok,sizeOf,typeInfo,run_program,hi,Sem.run_pure];by_cases h0:b.toNat*i.size=0
             ·simp[h0,newRow];rw[show Array.range 0= #[]from Array.eq_empty_of_size_eq_zero (by simp)];rw[Array.map_empty,Array.map_empty]
             ·simp[h0,newRow,zeroValue,typeInfo,hi,hv]
           obtain⟨hle,hI'⟩:=hI.newArr ((Array.range (b.toNat*i.size)).map (fun k=>v.cells[k % v.cells.size]!)) e 0 i.size b.toNat hsz (Nat.zero_le _);refine⟨_,_,_,.inl hrun,hle,hI',?_⟩;simp only[RV];exact⟨w.heap.size,b.toNat,by simp[Gh.withArr],rfl,Nat.zero_le _,by omega,by simp only[RC]⟩
          ·cases h
  |_=>simp[ckOp]at hck
end
section
variable{P:Program}{GT:Nat->Option (List AV)}{w0 w:World}{G:Gh}{st st':St}{E:Env}{ev:AO->AV}{ρ:Operand->Value}{r:Rt AV}{o:Oper}
theorem RC.list:∀{cs:List AV} {g q:Nat},RC G g q cs->∃xs,RVs G cs xs/\∀j u,xs[j]?=some u->G.pr g (q+j)=some u
 |[],g,q,_=>⟨[],by simp[RVs],fun j u h=>by simp at h⟩
 |c::cs,g,q,h=>by
  simp only[RC]at h;obtain⟨⟨x,e,a⟩,b⟩:=h;obtain⟨xs,h1,h2⟩:=RC.list b;refine⟨x::xs,by simp only[RVs];exact⟨x,xs,rfl,a,h1⟩,fun j u hj=>?_⟩;cases j with
  |zero=>simp at hj;subst hj;simpa using e
  |succ j=>simp at hj;rw[<-h2 j u hj];congr 1;omega
theorem RC.of_list{cs:List AV}{xs:List Value}{g q:Nat}(h:RVs G cs xs)(k:∀j u,xs[j]?=some u->G.pr g (q+j)=some u):RC G g q cs:=
 RC.of_get fun i a hi=>by obtain⟨y,e,r⟩:=h.get hi;exact⟨y,k i y e,r⟩
theorem RV.slice{own:Option Nat}{n:Nat}{cs:List AV}{x:Value}(hx:RV G (.sl own n cs) x):∃A cap,x=.slice A n cap/\n<=cap/\n<=9223372036854775807/\((n=0/\cs=[])\/∃g q,A=some ⟨g,q,none⟩/\RC G g q cs):=by
 cases own with
 |none=>simpa only[RV]using hx
 |some i=>
  simp only[RV]at hx;obtain⟨g,cap,_,e1,e2,e3,e4⟩:=hx;exact⟨_,cap,e1,e2,e3,.inr ⟨g,0,rfl,e4⟩⟩
theorem Xeb(t ty e:TypeId)(i:TypeInfo)(ht:P.underlying t=some (.slice e))(hi:P.info? e=some i)(A:Option Addr)(n cap:Nat)(hn:n<=cap)(B:Option Addr)(c:Nat):
  (Builtin.append_ #[t,t] ty #[.slice A n cap,.slice B 0 c]).run P w=.ok (.slice A n cap) w:=by
 cases A<;>cases B<;>simp[Builtin.append_,run_underlying ht,sizeOf,typeInfo,hi,Builtin.lenOf,Builtin.firstCells,loadCells,loadCellsFrom,hn,storeCells]
theorem Xoa{st:St}{i:Nat}{x:Nat×Nat}(h:st.I[i]?=some x):({st with I:=st.I.set i x}:St)=st:=by
 have:st.I.set i x=st.I:=by
  apply List.ext_getElem?;intro k;rw[List.getElem?_set];split
  ·rename_i e;subst e;rw[h,if_pos (uB h)]
  ·rfl
 rw[this]
theorem Xgz(z:Array Value)(n:Nat):(Builtin.zeroCells z n).size=n*z.size:=by simp[Builtin.zeroCells]
variable(hO:∀x a,ckO GT x a=true->RV G (ev a) (ρ x))(hI:Inv P GT w0 G st w)
include hO hI
theorem Xx9{sz bytes:Nat}{x y:AO}(hck:ckOp P GT o.op (.app sz bytes x y)=true)(h:aOp E st ev (.app sz bytes x y)=some (r,st')):OpRun P GT w0 G w st ((execOp ρ o).run P w) r st':=by
 obtain⟨dst,op,type,pos,after,guard⟩:=o;cases op with
 |call c=>
  obtain⟨callee,args,argTypes⟩:=c;simp only[ckOp,Xvc]at hck;split at hck
  ·rename_i x' y' t u harg hty;simp only[Bool.and_eq_true,decide_eq_true_eq]at hck;obtain⟨⟨⟨ht,rfl⟩,hx⟩,hy⟩:=hck;have hx:=hO _ _ hx;have hy:=hO _ _ hy;have ha:args= #[x',y']:=by rw[<-Array.toArray_toList (xs:=args),harg]
   have hb:argTypes= #[t,t]:=by rw[<-Array.toArray_toList (xs:=argTypes),hty]
   subst ha hb;cases he:Xa9 P t with
   |none=>simp[he]at ht
   |some e=>
   simp only[he]at ht;have hu:=Xay he;cases hi:P.info? e with
   |none=>simp[hi]at ht
   |some i=>
   simp only[hi,Bool.and_eq_true,decide_eq_true_eq]at ht;obtain⟨⟨⟨⟨rfl,rfl⟩,hb1⟩,hs1⟩,hz⟩:=ht;cases hzv:i.zero with
   |none=>simp[hzv]at hz
   |some z=>
   simp only[hzv,decide_eq_true_eq]at hz;simp only[aOp,Xab]at h;obtain⟨⟨v,st1⟩,happ,h⟩:=h;simp only[Xas,Option.some.injEq,Prod.mk.injEq]at h;obtain⟨rfl,rfl⟩:=h;unfold appA at happ;simp only[Xab]at happ;obtain⟨⟨m,ys⟩,hsrc,happ⟩:=happ
   have src:∃B c,ρ y'=.slice B m c/\ys.length=m*i.size/\((m=0/\ys=[])\/∃g q xs,B=some ⟨g,q,none⟩/\RVs G ys xs/\(∀j u,xs[j]?=some u->G.pr g (q+j)=some u)/\∀u∈xs,u.oneCell'=true):=by
    unfold srcA at hsrc;split at hsrc
    ·rename_i hyv;simp only[Option.some.injEq,Prod.mk.injEq]at hsrc;obtain⟨rfl,rfl⟩:=hsrc;rw[hyv]at hy;simp only[RV]at hy;exact⟨none,0,hy,by simp,.inl ⟨rfl,rfl⟩⟩
    ·rename_i own k cs hyv;simp only[Xad,Bool.and_eq_true,decide_eq_true_eq,Option.some.injEq,Prod.mk.injEq]at hsrc;obtain⟨⟨hlen,hone⟩,rfl,rfl⟩:=hsrc;rw[hyv]at hy;obtain⟨B,c,e1,e2,e3,e4⟩:=hy.slice;have hfl:∀l:List AV,(AV.finL 0 l).length=l.length:=fun l=>by induction l<;>simp_all [AV.finL]
     refine⟨B,c,e1,by rw[hfl,hlen],?_⟩;rcases e4 with⟨rfl,rfl⟩|⟨g,q,rfl,hr⟩
     ·exact .inl ⟨rfl,rfl⟩
     ·obtain⟨xs,h1,h2⟩:=hr.list;exact .inr ⟨g,q,xs,rfl,RVs.fin 0 _ _ h1,h2,h1.ones hone⟩
    ·cases hsrc
   obtain⟨B,c,hyv,hylen,hB⟩:=src;have hexec:(execOp ρ ⟨dst,.call ⟨.builtin .append, #[x',y'], #[t,t]⟩,type,pos,after,guard⟩).run P w=((Builtin.append_ #[t,t] type #[ρ x',ρ y']).run P w).andThen fun v w=>.ok (.value v) w:=by simp only[execOp,resolve,Sem.run_bind,Sem.run_pure,Result.andThen_ok,invoke,Go.builtin];simp
   split at happ
   ·
    rename_i hxv;rw[hxv]at hx;simp only[RV]at hx;split at happ
    ·rename_i hm;subst hm;simp only[Option.some.injEq,Prod.mk.injEq]at happ;obtain⟨rfl,rfl⟩:=happ;refine OpRun.same hI (x:=.slice none 0 0) ?_ (by simp only[RV]);rw[hexec,hx,hyv,Xeb t type e i hu hi none 0 0 (Nat.le_refl _)];rfl
    ·rename_i hm;simp only[Xad,Bool.and_eq_true,decide_eq_true_eq,Option.some.injEq,Prod.mk.injEq]at happ;obtain⟨⟨hby,hm2⟩,rfl,rfl⟩:=happ;rcases hB with⟨h0,_⟩|⟨g,q,xs,rfl,hxs,hpr,hone⟩
     ·exact absurd h0 hm
     have hxl:xs.length=m*i.size:=by rw[hxs.length,hylen]
     have hr:=run_append_nil (P:=P) w t type e i z hu hi hzv ⟨g,q,none⟩ m c xs hxl (fun j u hj=>by rw[Addr.add_lit];exact hI.pr _ _ _ (hpr j u hj)) (by omega) (by omega) (by omega);have hge:=grownCap_ge w m 0 e;have hcm:=grownCap_le_maxLen w m 0 e (by simp only[maxLen];omega)
     have hsize:(xs.toArray++Builtin.zeroCells z.cells (grownCap w m 0 e - m)).size=grownCap w m 0 e*i.size:=by
      rw[Array.size_append,Xgz,hz];simp only[List.size_toArray,hxl,<-Nat.add_mul]
      congr 1;omega
     obtain⟨hle,hI'⟩:=hI.drew.newArr (xs.toArray++Builtin.zeroCells z.cells (grownCap w m 0 e - m)) e m i.size (grownCap w m 0 e) hsize hge;refine⟨_,_,_,.inl (by rw[hexec,hx,hyv,hr];rfl),hle,hI',?_⟩;simp only[RV];refine⟨w.heap.size,grownCap w m 0 e,by simp[Gh.withArr],rfl,hge,by omega,RC.of_list (hxs.mono hle) fun j u hj=>?_⟩;have hjl:j<xs.length:=uB hj;have hdr:w.drew.heap.size=w.heap.size:=rfl;simp only[Gh.withArr,Gh.withRow,hdr,if_true,Nat.zero_add];rw[if_pos (by omega),Array.getElem?_append_left (by simpa using hjl)];simpa using hj
   ·
    rename_i id n cs hxv;simp only[Xad,Bool.and_eq_true,decide_eq_true_eq,Option.some.injEq,Prod.mk.injEq]at happ;obtain⟨⟨⟨⟨⟨_,hid⟩,hcl⟩,hby⟩,hnm⟩,rfl,rfl⟩:=happ;rw[hxv]at hx;have hx0:=hx;simp only[RV]at hx;obtain⟨g,cap,hG,hx,hncap,hn63,hrc⟩:=hx;by_cases hm:m=0
    ·subst hm;have hys:ys=[]:=List.eq_nil_of_length_eq_zero (by simpa using hylen);subst hys;have hst1:({st with I:=st.I.set id (n+0,i.size)}:St)=st:=Xoa (by simpa using hid);rw[hst1];refine OpRun.same hI (x:=.slice (some ⟨g,0,none⟩) n cap) ?_ ?_
     ·rw[hexec,hx,hyv,Xeb t type e i hu hi _ n cap hncap];rfl
     ·simpa [hx]using hx0
    ·rcases hB with⟨h0,_⟩|⟨g2,q2,xs,rfl,hxs,hpr,hone⟩
     ·exact absurd h0 hm
     have hxl:xs.length=m*i.size:=by rw[hxs.length,hylen]
     have hnews:∀j u,xs[j]?=some u->w.cell? ((⟨g2,q2,none⟩:Addr).add j)=some u:=fun j u hj=>by rw[Addr.add_lit];exact hI.pr _ _ _ (hpr j u hj)
     obtain⟨os,hos,hopr⟩:=hrc.list;have hol:os.length=n*i.size:=by rw[hos.length,hcl]
     obtain⟨g',cap',cur,ty,e1,e2,e3,e4,e5,e6,e7⟩:=hI.arr id n i.size hid;rw[hG]at e1;cases e1;by_cases hroom:n+m<=cap
     ·have hfit:0+n*i.size+xs.length<=cur.size:=by rw[Nat.zero_add,hxl,e5,<-Nat.add_mul];exact Nat.mul_le_mul_right _ hroom
      obtain⟨cur',hst,hcur⟩:=Xb0 P (g:=g) (o:=n*i.size) (t:=ty) xs 0 cur w e4 (by omega) hone;have hcs':cur'.size=cur.size:=by have:=congrArg List.length hcur;simp only[Array.length_toList,List.length_append,List.length_take,List.length_drop]at this;omega
      have hsame:∀q,q<n*i.size->cur'[q]?=cur[q]?:=fun q hq=>by rw[<-Array.getElem?_toList,hcur,List.append_assoc,List.getElem?_append_left (by simp;omega),List.getElem?_take,if_pos (by omega),Array.getElem?_toList]
      obtain⟨hle,hI'⟩:=hI.moreArr (k:=n+m) hid (by omega) hG e4 e5 hroom hcs' hsame;have hr:(Builtin.append_ #[t,t] type #[.slice (some ⟨g,0,none⟩) n cap,.slice (some ⟨g2,q2,none⟩) m c]).run P w=.ok (.slice (some ⟨g,0,none⟩) (n+m) cap) (World.setBlk w g (.cells cur' ty (0,0))):=by have hf:=run_firstCells_some (P:=P) w i.size m ⟨g2,q2,none⟩ m c xs hxl hnews;simp[Builtin.append_,run_underlying hu,sizeOf,typeInfo,hi,Builtin.lenOf,hroom,hf,Addr.add_lit,hst]
      refine⟨_,_,_,.inl (by rw[hexec,hx,hyv,hr];rfl),hle,hI',?_⟩;simp only[RV];refine⟨g,cap,by simp[Gh.withArr],rfl,hroom,by omega,RC.of_list (xs:=os++xs) ((hos.append hxs).mono hle) fun j u hj=>?_⟩;rw[List.getElem?_append]at hj;split at hj
      ·rename_i hjl;exact hle.pr _ _ _ (hopr j u hj)
      ·rename_i hjl;have hj2:j - os.length<xs.length:=uB hj;have hk:n*i.size+m*i.size=(n+m)*i.size:=by rw[Nat.add_mul]
       simp only[Gh.withArr,Gh.withMore,Nat.zero_add];rw[if_pos ⟨trivial,by omega,by omega⟩,<-Array.getElem?_toList,hcur,List.append_assoc,List.getElem?_append_right (by simp;omega),List.getElem?_append_left (by simp;omega)];rw[<-hj];congr 1;simp;omega
     ·have hge:=grownCap_ge w (n+m) cap e;have hcm:=grownCap_le_maxLen w (n+m) cap e (by simp only[maxLen];omega);have hr:=run_append_grow (P:=P) w t type e i z hu hi hzv ⟨g,0,none⟩ n cap os hol (fun j u hj=>by rw[Addr.add_lit];exact hI.pr _ _ _ (hopr j u hj)) ⟨g2,q2,none⟩ m c xs hxl hnews (by omega) (by omega) (growslice_fits (by omega) (by omega))
      have hsize:(os.toArray++xs.toArray++Builtin.zeroCells z.cells (grownCap w (n+m) cap e - (n+m))).size=grownCap w (n+m) cap e*i.size:=by
       rw[Array.size_append,Xgz,hz];simp only[Array.size_append,List.size_toArray,hxl,hol,<-Nat.add_mul]
       congr 1;omega
      have hle1:=hI.drew.le_row (os.toArray++xs.toArray++Builtin.zeroCells z.cells (grownCap w (n+m) cap e - (n+m))) ((n+m)*i.size);have hI1:=hI.drew.row (os.toArray++xs.toArray++Builtin.zeroCells z.cells (grownCap w (n+m) cap e - (n+m))) e ((n+m)*i.size);have hdr:w.drew.heap.size=w.heap.size:=rfl;rw[hdr]at hle1 hI1
      obtain⟨hle2,hI'⟩:=hI1.setArr (k:=n+m) (g:=w.heap.size) (cap:=grownCap w (n+m) cap e) hid (by omega) hI.size
       (fun b hb=>by have:=(hI.ιlt (b:=b) (g:=w.heap.size) hb).2;omega) Xdv hsize hge
       (fun q hq=>by simp only[Gh.withRow,if_true];rw[if_neg (by omega)])
       (fun i' n' sz' cap' hne h' a=>by obtain⟨g3,c3,cur3,ty3,f1,f2,f3,f4,_⟩:=hI.arr i' n' sz' h';have a':G.ar i' n'=some (w.heap.size,cap'):=a;rw[f1]at a';cases a';have:=(Array.getElem?_eq_some_iff.1 f4).1;omega)
      refine⟨_,_,_,.inl (by rw[hexec,hx,hyv,hr];rfl),hle1.trans hle2,hI',?_⟩;simp only[RV];refine⟨w.heap.size,grownCap w (n+m) cap e,by simp[Gh.withArr],rfl,hge,by omega,RC.of_list (xs:=os++xs) ((hos.append hxs).mono (hle1.trans hle2)) fun j u hj=>?_⟩;have hjl:j<(os++xs).length:=uB hj;have hk:n*i.size+m*i.size=(n+m)*i.size:=by rw[Nat.add_mul]
      simp only[List.length_append]at hjl;simp only[Gh.withArr,Gh.withRow,if_true,Nat.zero_add];rw[if_pos (by omega),Array.getElem?_append_left (by simp;omega),<-hj];simp
   ·cases happ
  ·cases hck
 |_=>simp[ckOp]at hck
omit hO hI in
theorem Xju(w:World)(x o:Obj):World.setBlk (w.alloc x) w.heap.size o=w.alloc o:=by
 have e:(w.heap.push x).setIfInBounds w.heap.size o=w.heap.push o:=by
  apply Array.ext_getElem?;intro i;rw[Array.getElem?_setIfInBounds,Array.getElem?_push,Array.getElem?_push];by_cases h:i=w.heap.size
  ·subst h;simp
  ·simp[h,Ne.symm h]
 exact congrArg (fun hp=>({w with heap:=hp}:World)) e
omit hO in
theorem Xr4{t type e:TypeId}{i:TypeInfo}{z:Value}(hu:P.underlying t=some (.slice e))(hi:P.info? e=some i)(hzv:i.zero=some z)(hz:z.cells.size=i.size)(hb1:1<=i.bytes)(hs1:1<=i.size)
  {X Y:Value} {id n:Nat} {cs:List AV} (hx:RV G (.sl (some id) n cs) X) (hid:st.I[id]?=some (n,i.size)) (hcl:cs.length=n*i.size) (hby:(n+1)*i.bytes<=70368744177664) (hnm:n+1<=70368744177664)
  {yv:AV} {ys0:List AV} (hy0:srcA i.size yv=some (1,ys0)) (hy:RV G yv Y) {vs:List AV} {xs:List Value} (hv:RVs G vs xs) (hvl:vs.length=i.size):
  ∃(g cap:Nat) (w2:World) (cur cur':Array Value) (ty:TypeId) (G2:Gh),(Builtin.append_ #[t,t] type #[X,Y]).run P w=.ok (.slice (some ⟨g,0,none⟩) (n+1) cap) w2/\
   w2.heap[g]?=some (.cells cur ty (0,0))/\cur.size=cap*i.size/\n+1<=cap/\cur'.toList=cur.toList.take (n*i.size)++xs++cur.toList.drop (n*i.size+xs.length)/\
   (∀b,G2.ι b≠some g)/\G.Le G2/\Inv P GT w0 G2 {st with I:=st.I.set id (n+1,i.size)} (World.setBlk w2 g (.cells cur' ty (0,0)))/\
   RV G2 (.sl (some id) (n+1) (cs++AV.finL 0 vs)) (.slice (some ⟨g,0,none⟩) (n+1) cap):=by
 have hvx:xs.length=i.size:=by rw[hv.length,hvl]
 have hvf:=RVs.fin 0 _ _ hv
 have src:∃B c g q xs0,Y=.slice B 1 c/\ys0.length=i.size/\B=some ⟨g,q,none⟩/\RVs G ys0 xs0/\(∀j u,xs0[j]?=some u->G.pr g (q+j)=some u)/\∀u∈xs0,u.oneCell'=true:=by
  unfold srcA at hy0;split at hy0
  ·simp at hy0
  ·rename_i own k cs0;simp only[Xad,Bool.and_eq_true,decide_eq_true_eq,Option.some.injEq,Prod.mk.injEq]at hy0;obtain⟨⟨hlen,hone⟩,rfl,rfl⟩:=hy0;obtain⟨B,c,e1,e2,e3,e4⟩:=hy.slice;have hfl:∀l:List AV,(AV.finL 0 l).length=l.length:=fun l=>by induction l<;>simp_all [AV.finL]
   rcases e4 with⟨h0,_⟩|⟨g,q,rfl,hr⟩
   ·omega
   ·obtain⟨xs0,h1,h2⟩:=hr.list;exact⟨_,c,g,q,xs0,e1,by rw[hfl,hlen,Nat.one_mul],rfl,RVs.fin 0 _ _ h1,h2,h1.ones hone⟩
  ·cases hy0
 obtain⟨B,c,g2,q2,xs0,rfl,hyl,rfl,hxs,hpr,hone⟩:=src;have hxl:xs0.length=1*i.size:=by rw[hxs.length,hyl,Nat.one_mul]
 simp only[RV]at hx;obtain⟨g,cap,hG,rfl,hncap,hn63,hrc⟩:=hx;have hnews:∀j u,xs0[j]?=some u->w.cell? ((⟨g2,q2,none⟩:Addr).add j)=some u:=fun j u hj=>by rw[Addr.add_lit];exact hI.pr _ _ _ (hpr j u hj)
 obtain⟨os,hos,hopr⟩:=hrc.list;have hol:os.length=n*i.size:=by rw[hos.length,hcl]
 obtain⟨g',cap',cur,ty,e1,e2,e3,e4,e5,e6,e7⟩:=hI.arr id n i.size hid;rw[hG]at e1;cases e1;by_cases hroom:n+1<=cap
 ·have hfit0:n*i.size+1*i.size<=cur.size:=by rw[e5,<-Nat.add_mul];exact Nat.mul_le_mul_right _ hroom
  have hfit:0+n*i.size+xs0.length<=cur.size:=by omega
  obtain⟨cur1,hst,hcur⟩:=Xb0 P (g:=g) (o:=n*i.size) (t:=ty) xs0 0 cur w e4 (by omega) hone;have hg:g<w.heap.size:=(Array.getElem?_eq_some_iff.1 e4).1;have hcs1:cur1.size=cur.size:=by have:=congrArg List.length hcur;simp only[Array.length_toList,List.length_append,List.length_take,List.length_drop]at this;omega
  have hl:(cur1.toList.take (n*i.size)++xs++cur1.toList.drop (n*i.size+xs.length)).length=cur.size:=by simp only[List.length_append,List.length_take,List.length_drop,Array.length_toList];omega
  have hpre:cur1.toList.take (n*i.size)=cur.toList.take (n*i.size):=by rw[hcur,List.append_assoc,Nat.add_zero,List.take_append_of_le_length (by simp;omega),List.take_take,Nat.min_self]
  have hsame:∀q,q<n*i.size->(cur1.toList.take (n*i.size)++xs++cur1.toList.drop (n*i.size+xs.length)).toArray[q]?=cur[q]?:=fun q hq=>by rw[List.getElem?_toArray,hpre,List.append_assoc,List.getElem?_append_left (by simp;omega),List.getElem?_take,if_pos (by omega),Array.getElem?_toList]
  obtain⟨hle,hI'⟩:=hI.moreArr (k:=n+1) hid (by omega) hG e4 e5 hroom (cur':=(cur1.toList.take (n*i.size)++xs++cur1.toList.drop (n*i.size+xs.length)).toArray) (by rw[List.size_toArray,hl]) hsame;have hr:(Builtin.append_ #[t,t] type #[.slice (some ⟨g,0,none⟩) n cap,.slice (some ⟨g2,q2,none⟩) 1 c]).run P w=.ok (.slice (some ⟨g,0,none⟩) (n+1) cap) (World.setBlk w g (.cells cur1 ty (0,0))):=by have hf:=run_firstCells_some (P:=P) w i.size 1 ⟨g2,q2,none⟩ 1 c xs0 hxl hnews;simp[Builtin.append_,run_underlying hu,sizeOf,typeInfo,hi,Builtin.lenOf,hroom,hf,Addr.add_lit,hst]
  refine⟨g,cap,_,cur1,_,ty,_,hr,Xcw hg,by rw[hcs1,e5],hroom,rfl,?_,hle,by rw[Xfm];exact hI',?_⟩
  ·intro b;exact e3 b
  ·simp only[RV];refine⟨g,cap,by simp[Gh.withArr],rfl,hroom,by omega,RC.of_list (xs:=os++xs) ((hos.append hvf).mono hle) fun j u hj=>?_⟩;rw[List.getElem?_append]at hj;split at hj
   ·rename_i hjl;exact hle.pr _ _ _ (hopr j u hj)
   ·rename_i hjl;have hj2:j - os.length<xs.length:=uB hj;have hk:n*i.size+1*i.size=(n+1)*i.size:=by rw[Nat.add_mul]
    simp only[Gh.withArr,Gh.withMore,Nat.zero_add];rw[if_pos ⟨trivial,by omega,by omega⟩,List.getElem?_toArray,List.append_assoc,List.getElem?_append_right (by simp;omega),List.getElem?_append_left (by simp;omega)];rw[<-hj];congr 1;simp;omega
 ·have hge:=grownCap_ge w (n+1) cap e;have hcm:=grownCap_le_maxLen w (n+1) cap e (by simp only[maxLen];omega);have hr:=run_append_grow (P:=P) w t type e i z hu hi hzv ⟨g,0,none⟩ n cap os hol (fun j u hj=>by rw[Addr.add_lit];exact hI.pr _ _ _ (hopr j u hj)) ⟨g2,q2,none⟩ 1 c xs0 hxl hnews (by omega) (by omega) (growslice_fits (by omega) (by omega));have hk:n*i.size+1*i.size=(n+1)*i.size:=by rw[Nat.add_mul]
  have hsz:∀ys:List Value,ys.length=i.size->(os.toArray++ys.toArray++Builtin.zeroCells z.cells (grownCap w (n+1) cap e - (n+1))).size=grownCap w (n+1) cap e*i.size:=fun ys hys=>by
   rw[Array.size_append,Xgz,hz];simp only[Array.size_append,List.size_toArray,hys,hol];have:(n+1)*i.size+(grownCap w (n+1) cap e - (n+1))*i.size=grownCap w (n+1) cap e*i.size:=by rw[<-Nat.add_mul];congr 1;omega
   omega
  have hle1:=hI.drew.le_row (os.toArray++xs.toArray++Builtin.zeroCells z.cells (grownCap w (n+1) cap e - (n+1))) ((n+1)*i.size);have hI1:=hI.drew.row (os.toArray++xs.toArray++Builtin.zeroCells z.cells (grownCap w (n+1) cap e - (n+1))) e ((n+1)*i.size);have hdr:w.drew.heap.size=w.heap.size:=rfl;rw[hdr]at hle1 hI1
  obtain⟨hle2,hI'⟩:=hI1.setArr (k:=n+1) (g:=w.heap.size) (cap:=grownCap w (n+1) cap e) hid (by omega) hI.size
   (fun b hb=>by have:=(hI.ιlt (b:=b) (g:=w.heap.size) hb).2;omega) Xdv (hsz xs hvx) hge
   (fun q hq=>by simp only[Gh.withRow,if_true];rw[if_neg (by omega)])
   (fun i' n' sz' cap' hne h' a=>by obtain⟨g3,c3,cur3,ty3,f1,f2,f3,f4,_⟩:=hI.arr i' n' sz' h';have a':G.ar i' n'=some (w.heap.size,cap'):=a;rw[f1]at a';cases a';have:=(Array.getElem?_eq_some_iff.1 f4).1;omega)
  refine⟨w.heap.size,grownCap w (n+1) cap e,_,_,os.toArray++xs.toArray++Builtin.zeroCells z.cells (grownCap w (n+1) cap e - (n+1)),e,_,hr,?_,hsz xs0 (by omega),hge,?_,?_,hle1.trans hle2,?_,?_⟩
  ·exact Xdv (w:=w.drew)
  ·have a1:os.length=n*i.size:=hol;simp only[Array.toList_append,List.append_assoc];rw[<-a1,List.take_left,<-List.append_assoc os xs0,List.drop_append,List.drop_eq_nil_of_le (by simp;omega)];have:os.length+xs.length - (os++xs0).length=0:=by simp;omega
   rw[this];simp
  ·intro b hb;have:=(hI.ιlt (b:=b) (g:=w.heap.size) hb).2;omega
  ·have:=Xju w.drew;rw[hdr]at this;rw[this];exact hI'
  ·simp only[RV];refine⟨w.heap.size,grownCap w (n+1) cap e,by simp[Gh.withArr],rfl,hge,by omega,RC.of_list (xs:=os++xs) ((hos.append hvf).mono (hle1.trans hle2)) fun j u hj=>?_⟩;have hjl:j<(os++xs).length:=uB hj;simp only[List.length_append]at hjl;simp only[Gh.withArr,Gh.withRow,if_true,Nat.zero_add];rw[if_pos (by omega),Array.getElem?_append_left (by simp;omega),<-hj];simp
omit hO hI in
theorem Xsd{d:TypeDesc}{str:Bool}(hd:if str=true then d=.string else∃k,d=.int k){k v:AV}{x y:Value}(hx:RV G k x)(hy:RV G v y)(ho:Xc7 str k=true):
  ∀{es es':List (AV×AV)} {ents:List MapEntry} (i:Nat),updA str k v es=some es'->REs G es ents->
  ∃r,Instr.findNow d x ents i=some r/\(match r with
   |none=> ∀c,REs G es' (ents++ [{key:=x,val:=y,born:=c}])
   |some (j,_)=> ∃m e,j=i+m/\ents[m]?=some e/\e.key=x/\REs G es' (ents.modify m fun e=> {e with key:=x,val:=y}))
 |[],es',ents,i,h,he=>by simp only[REs]at he;subst he;simp only[updA,Option.some.injEq]at h;subst h;refine⟨none,rfl,fun c=>?_⟩;simp only[List.nil_append,REs];exact⟨_,[],rfl,hx,hy,rfl⟩
 |(q,u)::es,es',ents,i,h,he=>by
  simp only[REs]at he;obtain⟨e,ents',rfl,hq,hu,hr⟩:=he;simp only[updA,Xab]at h;obtain⟨b,hb,h⟩:=h
  have hs:Instr.sameNow d x e.key=some b/\(b=true->e.key=x):=by
   cases k<;>cases q<;>simp[Xgp,Xad]at hb
   ·obtain⟨⟨rfl,rfl⟩,rfl⟩:=hb;simp only[Bool.false_eq_true,if_false]at hd;obtain⟨kk,rfl⟩:=hd;simp only[RV]at hx hq;rw[hx,hq];simp[Instr.sameNow];exact fun e=>e.symm
   ·obtain⟨rfl,rfl⟩:=hb;simp only[if_true]at hd;subst hd;simp only[RV]at hx hq;rw[hx,hq];simp only[Instr.sameNow];rename_i s1 s2;exact⟨congrArg some (Xqc s1 s2),fun e=>by simp at e;rw[e]⟩
  simp only[Instr.findNow,hs.1];cases b with
  |true=>
   simp only[↓reduceIte,Option.some.injEq]at h;subst h;refine⟨_,rfl,0,e,rfl,rfl,hs.2 rfl,?_⟩;simp only[List.modify_zero_cons,REs];exact⟨_,ents',rfl,hx,hy,hr⟩
  |false=>
   simp only[Bool.false_eq_true,↓reduceIte,Xab,Option.some.injEq]at h;obtain⟨es1,h1,rfl⟩:=h;obtain⟨r,hr1,hr2⟩:=Xsd hd hx hy ho (i+1) h1 hr;refine⟨r,hr1,?_⟩;cases r with
   |none=>
    intro c;simp only[List.cons_append,REs];exact⟨e,_,rfl,hq,hu,hr2 c⟩
   |some p=>
    obtain⟨j,jv⟩:=p;obtain⟨m,e',rfl,h3,h4,h5⟩:=hr2;refine⟨m+1,e',by omega,by simpa using h3,h4,?_⟩;simp only[List.modify_succ_cons,REs];exact⟨e,_,rfl,hq,hu,h5⟩
omit hO hI in
theorem Xrj{str:Bool}{k:AV}{x:Value}(hx:RV G k x)(ho:Xc7 str k=true)(w:World):(Instr.keyThatStays x x).run P w=.ok x w:=by
 have:Instr.sameBits 10000 x x=true:=by
  cases k<;>simp[Xc7]at ho<;>simp only[RV]at hx<;>subst hx
  ·simp[Instr.sameBits]
  ·simp[Instr.sameBits,Xqc]
 simp[Instr.keyThatStays,this]
theorem Xot{str:Bool}{m k v:AO}{t:TypeId}{m' k' v':Operand}
  (ht:(match P.underlying t with
   |some (.map key _)=>Xjg P key str
   |_=>false)=true) (hm:RV G (ev m) (ρ m')) (hk:RV G (ev k) (ρ k')) (hv:RV G (ev v) (ρ v'))
  (h:aOp E st ev (.upd str m k v)=some (r,st')):∃w',r=.ok AV.undef/\(Instr.mapUpdate t (ρ m') (ρ k') (ρ v')).run P w=.ok () w'/\Inv P GT w0 G st' w':=by
 split at ht
 ·rename_i key elem hu;obtain⟨d,hud,hd⟩:=Xov ht;simp only[aOp]at h;split at h
  ·rename_i b hb;split at h
   ·rename_i es hes;simp only[Xad,Bool.and_eq_true,Xab,Xas,Option.some.injEq,Prod.mk.injEq]at h;obtain⟨⟨⟨hko,_⟩,_⟩,es',hes',rfl,rfl⟩:=h;rw[hb]at hm;simp only[RV]at hm;obtain⟨g,hg,hm⟩:=hm;obtain⟨x,hx,hr⟩:=hI.blk' hes hg;simp only[RB]at hr;obtain⟨ents,clock,rfl,hr⟩:=hr;obtain⟨r0,hr0,hres⟩:=Xsd hd hk hv hko 0 hes' hr;have hgo:(getObj g).run P w=.ok (.map ents clock) w:=by simp[getObj,Sem.run,hx]
    have hck:=Xgj hI ht hk hko false;have hfind:(Instr.findKey key (ρ k') ents.toList).run P w=.ok r0 w:=by simp only[Instr.findKey,Sem.run_bind,run_underlying hud,Result.andThen_ok,hr0,Sem.run_pure]
    have hgl:g<w.heap.size:=(Array.getElem?_eq_some_iff.1 hx).1;have hset:∀o',(setObj g o').run P w=.ok () (World.setBlk w g o'):=fun o'=>by simp[setObj,Sem.run,World.setBlk,hx]
    cases r0 with
    |none=>
     refine⟨World.setBlk w g (.map (ents.push {key:=ρ k',val:=ρ v',born:=clock}) (clock+1)),rfl,?_,hI.setBlk hg (by rw[hes];simp) (o:=.map es') ?_⟩
     ·simp only[Instr.mapUpdate,hm,Sem.run_bind,run_underlying hu,Result.andThen_ok,hgo,hck,hfind,hset]
     ·simp only[RB];exact⟨_,_,rfl,by simpa using hres clock⟩
    |some p=>
     obtain⟨j,jv⟩:=p;obtain⟨mm,e,rfl,h3,h4,h5⟩:=hres;rw[Nat.zero_add]at hfind
     have hold:((ents[mm]?).map (·.key)).getD (ρ k')=ρ k':=by
      have:ents[mm]?=some e:=by simpa using h3
      simp[this,h4]
     refine⟨World.setBlk w g (.map (ents.modify mm fun e=> {e with key:=ρ k',val:=ρ v'}) clock),rfl,?_,hI.setBlk hg (by rw[hes];simp) (o:=.map es') ?_⟩
     ·simp only[Instr.mapUpdate,hm,Sem.run_bind,run_underlying hu,Result.andThen_ok,hgo,hck,hfind,hold,Xrj hk hko,hset]
     ·simp only[RB];exact⟨_,_,rfl,by simpa using h5⟩
   ·cases h
  ·cases h
 ·cases ht
theorem Xxo{str:Bool}{m k v:AO}(hck:ckOp P GT o.op (.upd str m k v)=true)(h:aOp E st ev (.upd str m k v)=some (r,st')):OpRun P GT w0 G w st ((execOp ρ o).run P w) r st':=by
 obtain⟨dst,op,type,pos,after,guard⟩:=o;cases op with
 |mapUpdate t m' k' v'=>
  simp only[ckOp,Bool.and_eq_true]at hck;obtain⟨w',rfl,hr,hI'⟩:=Xot hO hI hck.1.1.1 (hO _ _ hck.1.1.2) (hO _ _ hck.1.2) (hO _ _ hck.2) h;exact⟨Go.undef,w',G,.inr ⟨by simp[execOp,hr],rfl⟩,.refl G,hI',by simp[RV,AV.undef,Go.undef,RVs]⟩
 |insert t m' k' v'=>
  simp only[ckOp,Bool.and_eq_true]at hck;obtain⟨w',rfl,hr,hI'⟩:=Xot hO hI hck.1.1.1 (hO _ _ hck.1.1.2) (hO _ _ hck.1.2) (hO _ _ hck.2) h;exact⟨Go.undef,w',G,.inr ⟨by simp[execOp,hr],rfl⟩,.refl G,hI',by simp[RV,AV.undef,Go.undef,RVs]⟩
 |_=>simp[ckOp]at hck
omit hO in
theorem Xzb{b g n:Nat}{ty:TypeId}{c:List AV}{cs:Array Value}{f:TypeId}(hb:st.H[b]?=some (.cells ty c))(hg:G.ι b=some g)(hx:w.heap[g]?=some (.cells cs f (0,0))):
    G.Le (G.withRow g cs c.length)/\Inv P GT w0 (G.withRow g cs c.length) {st with H:=st.H.set b .opq} w:=by
  have hno:st.H[b]?≠some .opq:=by rw[hb];simp
  have hblt:=(hI.ιlt hg).1
  have hle:G.Le (G.withRow g cs c.length):=⟨fun _ _ h=>h,fun k q v h=>by
    by_cases hk:k=g
    ·subst hk;rw[hI.prι b k q hg hno]at h;cases h
    ·simp only[Gh.withRow];rw[if_neg hk];exact h,fun _ _ _ h=>h⟩
  refine⟨hle,hI.os,hI.tape,hI.output,hI.size,hI.old,⟨fun k hk=>hI.dom.ι k (by simpa using hk),hI.dom.ar⟩,hI.inj,hI.new,fun k o h=>?_,fun k q v h=>?_,fun k g' q h hn=>?_,fun i k sz h=>?_,hI.arhi,hI.arinj⟩
  ·have h':(st.H.set b .opq)[k]?=some o:=h;rw[List.getElem?_set]at h';split at h'
   ·rename_i e;subst e;simp only[hblt,if_true,Option.some.injEq]at h';subst h';exact⟨g,_,hg,hx,by simp only[RB]⟩
   ·obtain⟨g',x,e,hx',r⟩:=hI.blk k o h';exact⟨g',x,e,hx',r.mono hle⟩
  ·simp only[Gh.withRow]at h;split at h
   ·rename_i e;subst e;split at h
    ·rw[Xci hx];exact h
    ·cases h
   ·exact hI.pr k q v h
  ·have hk:k≠b:=fun e=>by subst e;apply hn;show(st.H.set k .opq)[k]?=_;rw[List.getElem?_set_self hblt]
   have hg':g'≠g:=fun e=>by subst e;exact hk (hI.inj _ _ _ h hg)
   simp only[Gh.withRow];rw[if_neg hg'];exact hI.prι k g' q h fun e=>hn (by show(st.H.set b .opq)[k]?=_;rw[List.getElem?_set,if_neg (fun e'=>hk e'.symm)];exact e)
  ·obtain⟨g',cap,cur,ty',h1,h2,h3,h4,h5,h6,h7⟩:=hI.arr i k sz h;have hg':g'≠g:=fun e=>by subst e;exact h3 b hg
   exact⟨g',cap,cur,ty',h1,h2,h3,h4,h5,h6,fun q hq=>by simp only[Gh.withRow];rw[if_neg hg'];exact h7 q hq⟩
theorem Xx1{x:AO}(hck:ckOp P GT o.op (.frz x)=true)(h:aOp E st ev (.frz x)=some (r,st')):OpRun P GT w0 G w st ((execOp ρ o).run P w) r st':=by
 obtain⟨dst,op,type,pos,after,guard⟩:=o
 have key:∃x',RV G (ev x) (ρ x')/\(execOp ρ ⟨dst,op,type,pos,after,guard⟩).run P w=.ok (.value (ρ x')) w:=by
  cases op with
  |move y=>exact⟨y,hO _ _ (by simpa [ckOp]using hck),rfl⟩
  |assign y=>exact⟨y,hO _ _ (by simpa [ckOp]using hck),rfl⟩
  |_=>simp[ckOp]at hck
 obtain⟨x',hx,hrun⟩:=key;simp only[aOp]at h;split at h
 ·rename_i b n hb;split at h
  ·rename_i ty c hc;simp only[Xad,Xas,Option.some.injEq,Prod.mk.injEq]at h;obtain⟨_,rfl,rfl⟩:=h;rw[hb]at hx;simp only[RV]at hx;obtain⟨g,cap,hg,hx,hn1,hn2⟩:=hx;obtain⟨y,hy,hr⟩:=hI.blk' hc hg;simp only[RB]at hr;obtain⟨cs,xs,rest,rfl,hcs,hr⟩:=hr;obtain⟨hle,hI'⟩:=Xzb hI (n:=n) hc hg hy;refine⟨_,w,_,.inl hrun,hle,hI',?_⟩;simp only[RV];refine⟨_,cap,hx,hn1,hn2,.inr ⟨g,0,rfl,Xqn G g cs c.length _ ?_⟩⟩;rw[hcs,<-hr.length,List.take_left];exact RVs.fin 0 _ _ (hr.mono (by rw[hr.length];exact hle))
  ·cases h
 ·cases h
omit hO hI in
theorem Xlg(zs:List Value)(hz:1<=zs.length):∀n,(List.range (n*zs.length)).map (fun i=>zs[i % zs.length]!)=(List.replicate n zs).flatten
 |0=>by simp
 |n+1=>by
  have e1:(n+1)*zs.length=zs.length+n*zs.length:=by rw[Nat.add_mul];omega
  rw[e1,List.range_add,List.map_append,List.replicate_succ,List.flatten_cons,<-Xlg zs hz n]
  congr 1
  ·apply List.ext_getElem?;intro i;simp only[List.getElem?_map,List.getElem?_range'];by_cases hi:i<zs.length
   ·rw[List.getElem?_range hi];simp[Nat.mod_eq_of_lt hi,hi]
   ·rw[List.getElem?_eq_none (by simpa using hi),List.getElem?_eq_none (by simpa using hi)];rfl
  ·rw[List.map_map];apply List.map_congr_left;intro i _;simp
omit hO hI in
theorem RVs.rep{z:List AV}{zs:List Value}(h:RVs G z zs):∀n,RVs G (List.replicate n z).flatten (List.replicate n zs).flatten
 |0=>by simp[RVs]
 |n+1=>by simp only[List.replicate_succ,List.flatten_cons];exact h.append (RVs.rep h n)
theorem Xxv{ty bytes:Nat}{z:List AV}{l c:AO}(hck:ckOp P GT o.op (.mkh ty bytes z l c)=true)(h:aOp E st ev (.mkh ty bytes z l c)=some (r,st')):OpRun P GT w0 G w st ((execOp ρ o).run P w) r st':=by
  obtain⟨dst,op,type,pos,after,guard⟩:=o;cases op with
  |makeSlice t l' c'=>
    simp only[ckOp,Bool.and_eq_true]at hck;obtain⟨⟨ht,hl⟩,hc⟩:=hck;have hl:=hO _ _ hl;have hc:=hO _ _ hc;cases he:Xa9 P t with
    |none=>simp[he]at ht
    |some e=>
      simp only[he,Bool.and_eq_true,decide_eq_true_eq]at ht;obtain⟨rfl,ht⟩:=ht;cases hi:P.info? e with
      |none=>simp[hi]at ht
      |some i=>
        simp only[hi,Bool.and_eq_true,decide_eq_true_eq]at ht;obtain⟨⟨⟨hsz,rfl⟩,h1⟩,hz⟩:=ht;cases hv:i.zero with
        |none=>simp[hv]at hz
        |some v=>
          simp only[hv]at hz;simp only[aOp]at h;split at h
          ·rename_i a b ha hb;simp only[Xad,Bool.and_eq_true,decide_eq_true_eq,Xas,Option.some.injEq,Prod.mk.injEq]at h;obtain⟨⟨⟨⟨⟨rfl,hb0⟩,hb1⟩,hby⟩,_⟩,rfl,rfl⟩:=h;rw[ha]at hl;rw[hb]at hc;simp only[RV]at hl hc;have hw:IntKind.i64.wrap a=a:=by simp[IntKind.wrap,IntKind.signed,IntKind.bits,Int.bmod];omega
           have hbig:¬((i.bytes:Int)*a>2 ^ 48):=by have e1:(i.bytes:Int)*a<=65536*1048576:=Int.mul_le_mul (by omega) hb1 hb0 (by omega);omega
           have hrun:(execOp ρ ⟨dst,.makeSlice t l' c',type,pos,after,guard⟩).run P w=.ok (.value (.slice (some ⟨w.heap.size,0,none⟩) a.toNat a.toNat))
               (w.alloc (.cells ((Array.range (a.toNat*i.size)).map (fun k=>v.cells[k % v.cells.size]!)) e)):=by
             have hu:=Xay he;simp only[execOp,Instr.makeSlice,Sem.run_bind,run_underlying hu,Result.andThen_ok,hl,hc,asInt,asIntOf,Sem.run_map,Sem.run_pure,typeInfo,run_program,hi,hw];rw[if_neg (by simp;omega)];simp only[Sem.run_bind,run_askRoom,Result.andThen_ok,sizeOf,typeInfo,run_program,hi,Sem.run_pure];by_cases h0:a.toNat*i.size=0
             ·simp[h0,newRow];rw[show Array.range 0= #[]from Array.eq_empty_of_size_eq_zero (by simp)];rw[Array.map_empty,Array.map_empty]
             ·simp[h0,newRow,zeroValue,typeInfo,hi,hv]
           have hzr:=ckVs_sound G _ _ hz;have hzl:v.cells.toList.length=z.length:=hzr.length
           have hcells:((Array.range (a.toNat*i.size)).map (fun k=>v.cells[k % v.cells.size]!)).toList=(List.replicate a.toNat v.cells.toList).flatten:=by
             rw[<-Xlg v.cells.toList (by omega)];have e1:i.size=v.cells.toList.length:=by omega
             rw[e1];simp;intro k _;rw[getElem!_def];cases v.cells[k % v.cells.size]?<;>rfl
           refine⟨_,_,_,.inl hrun,hI.le_blk w.heap.size,hI.alloc (o:=.cells e (List.replicate a.toNat z).flatten) ?_,?_⟩
           ·simp only[RB];refine⟨_,_,[],rfl,(List.append_nil _).symm,?_⟩;rw[hcells];exact(RVs.rep hzr _).mono (hI.le_blk w.heap.size)
           ·simp only[RV];exact⟨w.heap.size,a.toNat,by simp[Gh.withBlk],rfl,Nat.le_refl _,by omega⟩
          ·cases h
  |_=>simp[ckOp]at hck
theorem Xls{a:AOp}(hck:ckOp P GT o.op a=true)(h:aOp E st ev a=some (r,st')):OpRun P GT w0 G w st ((execOp ρ o).run P w) r st':=by
 cases a with
 |mv=>exact Jdc hO hI hck h
 |pick=>exact Xtx hO hI hck h
 |alloc=>exact Xrc hO hI hck h
 |box=>exact Xx7 hO hI hck h
 |build=>exact Xrb hO hI hck h
 |bsl=>exact Xx6 hO hI hck h
 |ld=>exact Jdd hO hI hck h
 |st=>exact Jdb hO hI hck h
 |nck=>exact Xxr hO hI hck h
 |fa=>exact Jdf hO hI hck h
 |ia=>exact Jde hO hI hck h
 |iaa=>exact Xx0 hO hI hck h
 |ixs=>exact Xxz hO hI hck h
 |fld=>exact Xx2 hO hI hck h
 |ext=>exact Xx3 hO hI hck h
 |bin=>exact Xx8 hO hI hck h
 |un=>exact Jc9 hO hI hck h
 |cvi=>exact Xx5 hO hI hck h
 |cvs=>exact Xx4 hO hI hck h
 |mks=>exact Xxs hO hI hck h
 |mkh=>exact Xxv hO hI hck h
 |frz=>exact Xx1 hO hI hck h
 |slc=>exact Xxp hO hI hck h
 |len=>exact Xxy hO hI hck h
 |app=>exact Xx9 hO hI hck h
 |appw=>simp[ckOp]at hck
 |mini=>exact Xty hO hI hck h
 |mki=>exact Xxu hO hI hck h
 |mkf=>exact Xxw hO hI hck h
 |mkm=>exact Xxt hO hI hck h
 |lkp=>exact Xxx hO hI hck h
 |upd=>exact Xxo hO hI hck h
 |ta=>exact Jda hO hI hck h
 |pan=>exact Xxq hO hI hck h
 |call=>simp[aOp]at h
 |callv=>simp[aOp]at h
end
section
variable{P:Program}{GT:Nat->Option (List AV)}{w0 w:World}{G G':Gh}{st st':St}
def HGT(GT:Nat->Option (List AV))(G:Gh):Prop:=(∀n c,GT n=some c->RC G n 0 c)/\G.pr 0 0=some (.iface 161 (.agg #[.pointer (some ⟨6,61,none⟩)]))
theorem HGT.mono(h:HGT GT G)(hle:G.Le G'):HGT GT G':=⟨fun n c e=>(h.1 n c e).mono hle,hle.pr _ _ _ h.2⟩
theorem Xkx{n m n' m':Nat}{l:List Ref}(h:Xa5 n m l=true)(h1:n<=n')(h2:m<=m'):Xa5 n' m' l=true:=by simp only[Xa5,List.all_eq_true]at h⊢;intro r hr;have:=h r hr;cases r<;>simp at this⊢ <;>omega
theorem Xm6{n m:Nat}{l k:List Ref}(h:Xa5 n m l=true)(hs:∀r∈k,r∈l):Xa5 n m k=true:=by simp only[Xa5,List.all_eq_true]at h⊢;exact fun r hr=>h r (hs r hr)
theorem REs.lt{n m:Nat}(D:G.Dom n m):∀{l:List (AV×AV)} {e:List MapEntry},REs G l e->Xa5 n m (AV.refsL (Xc0 l))=true
 |[],e,r=>by simp[Xc0,AV.refsL,Xa5]
 |(k,v)::l,e,r=>by simp only[REs]at r;obtain⟨e',es,h0,h1,h2,h3⟩:=r;simp only[Xc0,List.flatMap_cons,List.cons_append,List.nil_append,AV.refsL,Xbw,Bool.and_eq_true];exact⟨RV.lt D k _ h1,RV.lt D v _ h2,REs.lt D h3⟩
theorem RB.lt{n m:Nat}(D:G.Dom n m):∀{o:ABlk} {x:Obj},RB P GT G o x->Xa5 n m (Xb5 o)=true
 |.cells t c,x,r=>by simp only[RB]at r;obtain⟨cs,xs,rest,e,e',a⟩:=r;exact RVs.lt D c _ a
 |.map es,x,r=>by simp only[RB]at r;obtain⟨k,c,e,a⟩:=r;exact a.lt D
 |.loop s p f t ps zq bd d,x,r=>by
  simp only[RB]at r;obtain⟨l,e,a,b,c,d',e',f',g'⟩:=r;have h1:=RVs.lt D t _ c
  have h2:d<n:=by
   rcases Nat.lt_or_ge d n with h|h
   ·exact h
   ·rw[D.ι d h]at g';cases g'
  simp only[Xb5,Xa5,List.all_cons,Bool.and_eq_true,decide_eq_true_eq];exact⟨h2,h1⟩
 |.dfr,x,r=>by simp[Xb5,Xa5]
 |.opq,x,r=>by simp[Xb5,Xa5]
theorem Closed.of_step{E:Env}{st1:St}{m:Nat}(hI:Inv P GT w0 G st w)(k:StepOK E st st1)(hb:st.H.length<=E.base)(hm:st.I.length<=m):Closed st.H.length m st1:=fun b o hlt h=>by have e1:st.H[b]?=some st.H[b]:=List.getElem?_eq_getElem hlt;obtain⟨g,x,_,_,r⟩:=hI.blk b _ e1;exact Xkx (Xm6 (r.lt hI.dom) (k.refs b _ o (by omega) e1 h)) (Nat.le_refl _) hm
def Callee(P:Program)(f:Nat):Prop:=∃fn,P.funcs[f]?=some fn/\fn.body.isNone=false/\fn.name≠ "runtime.NumGoroutine"
theorem Callee.run{f:Nat}(h:Callee P f)(args:Array Value):(callFunc f args).run P w=.ok (.enter f args) w:=by
 obtain⟨fn,h1,h2,h3⟩:=h;cases hb:fn.body with
 |none=>simp[hb]at h2
 |some c=>simp[callFunc,h1,h3,hb]
def Xca(P:Program)(GT:Nat->Option (List AV))(w0:World)(G:Gh)(r:Rt AV)(st':St):Ending->World->Prop
 |.returned x,w'=> ∃v G',r=.ok v/\G.Le G'/\Inv P GT w0 G' st' w'/\RV G' v x
 |.panicked ch,w'=> ∃v x G',r=.pan v/\G.Le G'/\Inv P GT w0 G' st' w'/\RV G' v x/\ch=[{v:=x,recovered:=false}]
 |.outgrown,_=>False
def CallIs(P:Program)(G:Gh)(w:World)(cal:Cal)(xs:Array Value)(R:Ending->World->Prop):Prop:=
  match cal with
  |.fn f=>Callee P f/\CallsIn Fence.wide 0 P f xs w R
  |.yld b=> ∀g,G.ι b=some g->∃rec:Loop,w.heap[g]?=some (.loop rec)/\xs.size=rec.params.size/\
      RoundIn Fence.wide 0 P g rec.fn ((rec.params.zip xs).foldl (fun tmps (t,a)=>tmps.setIfInBounds t a) rec.tmps) rec.assign rec.body w R
theorem CallIs.mono{cal:Cal}{xs:Array Value}{R R':Ending->World->Prop}(h:CallIs P G w cal xs R)(k:∀e w,R e w->R' e w):CallIs P G w cal xs R':=by
 cases cal with
 |fn f=>exact⟨h.1,h.2.mono k⟩
 |yld b=>exact fun g hg=>let⟨rec,h1,h2,h3⟩:=h g hg;⟨rec,h1,h2,h3.mono k⟩
def Xd7(P:Program)(GT:Nat->Option (List AV))(C:CSem):Prop:=∀E cal args st r st',C E cal args st=some (r,st')->E.Wf st->
 ∀w0 w G (xs:Array Value),Inv P GT w0 G st w->HGT GT G->RVs G args xs.toList->CallIs P G w cal xs (Xca P GT w0 G r st')
theorem Xei{C:CSem}(hC:Xd7 P GT C)(hS:Xey C){E:Env}{tr:Tr}{cal:Cal}{args:List AV}{r:Rt AV}{xs:Array Value}(hw:E.Wf st)(h:doCall C E tr cal args st=some (r,st'))
    (hI:Inv P GT w0 G st w) (hG:HGT GT G) (hx:RVs G args xs.toList):CallIs P G w cal xs (Xca P GT w0 G r st'):=by
  have cut:∀{E':Env} {st1:St} {m:Nat} {G':Gh} {w':World},StepOK E' st st1->st.H.length<=E'.base->st.I.length<=m->G.Le G'->Inv P GT w0 G' st1 w'->
      G.Le (G'.cut st.H.length m)/\Inv P GT w0 (G'.cut st.H.length m) (st1.cut st.H.length m) w':=fun k hb hm hle hI'=>
    ⟨hle.cut ⟨hI.dom.ι,fun i j hi=>hI.dom.ar i j (Nat.le_trans hm hi)⟩,hI'.cut (Closed.of_step hI k hb hm)⟩
  cases tr with
  |no=>exact hC _ _ _ _ _ _ h hw _ _ _ _ hI hG hx
  |keep=>
    simp only[doCall,Xab]at h;obtain⟨⟨r1,st1⟩,h1,h⟩:=h;have hw1:Env.Wf {E with base:=st.H.length} st:=⟨Nat.le_refl _,hw.rob,hw.rom⟩;have k:=hS _ _ _ _ _ _ h1 hw1;refine(hC _ _ _ _ _ _ h1 hw1 _ _ _ _ hI hG hx).mono fun e w' post=>?_;cases r1 with
    |ok v=>
      simp only[Xad,Xas,Option.some.injEq,Prod.mk.injEq]at h;obtain⟨hr,rfl,rfl⟩:=h;cases e with
      |returned x=>
        obtain⟨v',G',hv,hle,hI',hrv⟩:=post;cases hv;obtain⟨c1,c2⟩:=cut (m:=st1.I.length) k (Nat.le_refl _) k.I hle hI';refine⟨v,_,rfl,c1,?_,RV.cut v x hr hrv⟩;simpa only[St.cut,List.take_length]using c2
      |panicked ch=>obtain⟨v',x,G',hv,_⟩:=post;cases hv
      |outgrown=>exact post
    |pan v=>
      simp only[Option.some.injEq,Prod.mk.injEq]at h;obtain⟨rfl,rfl⟩:=h;exact post
  |full=>
    simp only[doCall,Xab]at h;obtain⟨⟨r1,st1⟩,h1,h⟩:=h;have hw1:Env.Wf {E with base:=st.H.length} st:=⟨Nat.le_refl _,hw.rob,hw.rom⟩;have k:=hS _ _ _ _ _ _ h1 hw1;refine(hC _ _ _ _ _ _ h1 hw1 _ _ _ _ hI hG (RVs.arg _ _ hx)).mono fun e w' post=>?_;cases r1 with
    |ok v=>
      simp only[Xad,Xas,Option.some.injEq,Prod.mk.injEq]at h;obtain⟨hr,rfl,rfl⟩:=h;cases e with
      |returned x=>
        obtain⟨v',G',hv,hle,hI',hrv⟩:=post;cases hv;obtain⟨c1,c2⟩:=cut (m:=st.I.length) k (Nat.le_refl _) (Nat.le_refl _) hle hI';exact⟨_,_,rfl,c1,c2,RV.cut _ x hr (RV.fin _ v x hrv)⟩
      |panicked ch=>obtain⟨v',x,G',hv,_⟩:=post;cases hv
      |outgrown=>exact post
    |pan v=>
      simp only[Option.some.injEq,Prod.mk.injEq]at h;obtain⟨rfl,rfl⟩:=h;exact post
  |quiet=>
    simp only[doCall,Xab]at h;obtain⟨⟨r1,st1⟩,h1,h⟩:=h;have hw1:Env.Wf {base:=st.H.length,rob:=st.H.length,rom:=st.I.length} st:=⟨Nat.le_refl _,Nat.le_refl _,Nat.le_refl _⟩;have k:=hS _ _ _ _ _ _ h1 hw1;refine(hC _ _ _ _ _ _ h1 hw1 _ _ _ _ hI hG hx).mono fun e w' post=>?_;cases r1 with
    |ok v=>
      simp only[Xad,Xas,Option.some.injEq,Prod.mk.injEq]at h;obtain⟨hr,rfl,rfl⟩:=h;cases e with
      |returned x=>
        obtain⟨v',G',hv,hle,hI',hrv⟩:=post;cases hv;obtain⟨c1,c2⟩:=cut (m:=st.I.length) k (Nat.le_refl _) (Nat.le_refl _) hle hI'
        have hst:st1.cut st.H.length st.I.length=st:=by
          have e1:st1.H.take st.H.length=st.H:=by
            apply List.ext_getElem?;intro b;rw[List.getElem?_take];split
            ·rename_i hb;rw[List.getElem?_eq_getElem hb];exact k.rob b _ hb (List.getElem?_eq_getElem hb)
            ·rename_i hb;rw[List.getElem?_eq_none (by omega)]
          have e2:st1.I.take st.I.length=st.I:=by
            apply List.ext_getElem?;intro b;rw[List.getElem?_take];split
            ·rename_i hb;rw[List.getElem?_eq_getElem hb];exact k.rom b _ hb (List.getElem?_eq_getElem hb)
            ·rename_i hb;rw[List.getElem?_eq_none (by omega)]
          simp only[St.cut,e1,e2]
        rw[hst]at c2;exact⟨_,_,rfl,c1,c2,RV.cut _ x hr (RV.fin _ v x hrv)⟩
      |panicked ch=>obtain⟨v',x,G',hv,_⟩:=post;cases hv
      |outgrown=>exact post
    |pan v=>simp at h
theorem Xeg{s:List AV}{a:Act}(hG:HGT GT G)(hs:RVs G s a.tmps.toList)(x:Operand)(y:AO)(h:ckO GT x y=true):RV G (evA GT s y) (a.eval x):=by
 cases x with
 |tmp t=>
  cases y with
  |t n=>
   simp only[ckO,decide_eq_true_eq]at h;subst h;simp only[evA,lk,Act.eval];cases e:s[t]? with
   |some v=>
    obtain⟨y,hy,hr⟩:=hs.get e;have hy':a.tmps[t]?=some y:=by simpa using hy
    simp only[Option.getD_some,Array.getD_eq_getD_getElem?,hy'];exact hr
   |none=>
    have hl:=hs.length;have:a.tmps[t]?=none:=by rw[List.getElem?_eq_none_iff]at e;rw[Array.getElem?_eq_none];simp at hl;omega
    simp only[Option.getD_none,Array.getD_eq_getD_getElem?,this];simp[AV.undef,RV,RVs,undef]
  |c v=>simp[ckO]at h
  |g n=>simp[ckO]at h
 |const v=>
  cases y with
  |c v'=>simp only[ckO]at h;exact Xdr G _ _ h
  |t n=>simp[ckO]at h
  |g n=>simp[ckO]at h
 |func f=>
  cases y with
  |c v'=>simp only[ckO]at h;exact Xdr G _ _ h
  |t n=>simp[ckO]at h
  |g n=>simp[ckO]at h
 |global g=>
  cases y with
  |g n=>
   simp only[ckO,Bool.and_eq_true,decide_eq_true_eq]at h;obtain⟨rfl,h⟩:=h;cases e:GT g with
   |none=>simp[e]at h
   |some c=>
    simp only[evA,e,RV,Act.eval];exact⟨g,0,rfl,hG.1 g c e⟩
  |t n=>simp[ckO]at h
  |c v=>simp[ckO]at h
theorem RV.bool_inv{v:AV}{b:Bool}(h:RV G v (.bool b)):v=.bool b:=by
 cases v with
 |bool c=>simp only[RV]at h;cases h;rfl
 |sl own n cs=>cases own<;>simp[RV]at h
 |_=>simp[RV]at h
def gdOK(ops:Array Oper)(o:Oper)(a:AOper):Bool:=match o.guard,a.guard with
  |none,none=>true
  |some (j,b),some (t,b')=>decide (((ops[j]?).bind (·.dst))=some t) && (b==b')
  |_,_=>false
theorem Xg2{ops:Array Oper}{o:Oper}{ao:AOper}{s:List AV}{a:Act}(hg:gdOK ops o ao=true)(hs:RVs G s a.tmps.toList):Region.wanted o (yielded ops a.tmps)=Xbz ao s:=by
 unfold gdOK at hg;unfold Region.wanted Xbz;cases e1:o.guard with
 |none=>
  cases e2:ao.guard with
  |none=>rfl
  |some p=>simp[e1,e2]at hg
 |some q=>
  obtain⟨j,b⟩:=q;cases e2:ao.guard with
  |none=>simp[e1,e2]at hg
  |some p=>
   obtain⟨t,b'⟩:=p;simp only[e1,e2,Bool.and_eq_true,decide_eq_true_eq,beq_iff_eq]at hg;obtain⟨hd,rfl⟩:=hg;simp only[yielded,hd,Option.bind_some];cases e:s[t]? with
   |none=>
    have hl:=hs.length;have:a.tmps[t]?=none:=by rw[List.getElem?_eq_none_iff]at e;rw[Array.getElem?_eq_none];simp at hl;omega
    simp only[this];cases b<;>rfl
   |some v=>
    obtain⟨y,hy,hr⟩:=hs.get e;have hy':a.tmps[t]?=some y:=by simpa using hy
    simp only[hy'];by_cases hb:∃c,v=.bool c
    ·obtain⟨c,rfl⟩:=hb;simp only[RV]at hr;subst hr;simp
    ·have h1:∀c,y≠ .bool c:=fun c e=>by subst e;exact hb ⟨c,hr.bool_inv⟩
     cases v with
     |bool c=>exact absurd ⟨c,rfl⟩ hb
     |_=>cases y with
      |bool c=>exact absurd rfl (h1 c)
      |_=>cases b<;>rfl
theorem Xig{ops:Array Oper}{o:Oper}{ao:AOper}{s:List AV}{a:Act}(hck:Xb1 P GT ops o ao=true)(hs:RVs G s a.tmps.toList):Region.wanted o (yielded ops a.tmps)=Xbz ao s:=by simp only[Xb1,Bool.and_eq_true]at hck;exact Xg2 hck.2 hs
theorem Xdl{o:Op}{ao:AOp}(h:ckOp P GT o ao=true)(c:Call):o≠ .defer c:=by intro e;subst e;cases ao<;>simp[ckOp]at h
def RF(G:Gh)(rd:Option Nat)(F:Fence):Prop:=
 match rd with
 |none=>F=Fence.wide
 |some l0=> ∃l,G.ι l0=some l/\F=Fence.wide.inRound l
theorem RF.mono{rd:Option Nat}{F:Fence}(h:RF G rd F)(hle:G.Le G'):RF G' rd F:=by
 cases rd with
 |none=>exact h
 |some l0=>obtain⟨l,h1,h2⟩:=h;exact⟨l,hle.ι _ _ h1,h2⟩
theorem RF.fn{rd:Option Nat}{F:Fence}(h:RF G rd F)(f:Nat):F.fn f:=by
 cases rd with
 |none=>cases h;trivial
 |some l0=>obtain⟨l,h1,rfl⟩:=h;trivial
theorem RF.depth{rd:Option Nat}{F:Fence}(h:RF G rd F):F.depth.isSome=true->1<=0:=by
 cases rd with
 |none=>cases h;intro h;cases h
 |some l0=>obtain⟨l,h1,rfl⟩:=h;intro h;cases h
theorem RF.calls{rd:Option Nat}{F:Fence}(h:RF G rd F){n:Nat}{f:FuncId}{args:Array Value}{w:World}{R:Ending->World->Prop}(k:CallsIn Fence.wide n P f args w R):CallsIn F n P f args w R:=by
 cases rd with
 |none=>cases h;exact k
 |some l0=>obtain⟨l,h1,rfl⟩:=h;exact k
theorem RF.round{rd:Option Nat}{F:Fence}(h:RF G rd F){n:Nat}{l:Nat}{f:FuncId}{tmps:Array Value}{a b:Code}{w:World}{R:Ending->World->Prop}(k:RoundIn Fence.wide n P l f tmps a b w R):RoundIn F n P l f tmps a b w R:=by
 cases rd with
 |none=>cases h;exact k
 |some l0=>obtain⟨l,h1,rfl⟩:=h;exact k
def SameB(W:List Nat)(a a':Act):Prop:=a'.defers=a.defers/\∀t,t∉W->a'.tmps[t]?=a.tmps[t]?
theorem SameB.refl(W:List Nat)(a:Act):SameB W a a:=⟨rfl,fun _ _=>rfl⟩
theorem SameB.trans{W:List Nat}{a a' a'':Act}(h:SameB W a a')(k:SameB W a' a''):SameB W a a'':=⟨k.1.trans h.1,fun t ht=>(k.2 t ht).trans (h.2 t ht)⟩
theorem SameB.weak{W W':List Nat}{a a':Act}(h:SameB W a a')(hs:∀t∈W,t∈W'):SameB W' a a':=⟨h.1,fun t ht=>h.2 t fun h'=>ht (hs t h')⟩
theorem SameB.put{W:List Nat}{a:Act}{d:Option Nat}(x:Value)(h:∀k,d=some k->k∈W):SameB W a (a.put d x):=by
 cases d with
 |none=>exact .refl W a
 |some k=>
  refine⟨rfl,fun t ht=>?_⟩;have:t≠k:=fun e=>ht (e▸h k rfl);simp only[Act.put];rw[Array.getElem?_setIfInBounds_ne (by omega)]
variable{C:CSem}(hC:Xd7 P GT C)(hS:Xey C)
include hC hS
theorem Xgb{E:Env}{rd:Option Nat}{F:Fence}(hF:RF G rd F){o:Oper}{ao:AOp}(hck:ckOp P GT o.op ao=true){s:List AV}{a:Act}{r:Rt AV}(hw:E.Wf st)(h:aExec GT C E ao s st=some (r,st'))
    (hI:Inv P GT w0 G st w) (hG:HGT GT G) (hs:RVs G s a.tmps.toList) {next:Act->World->Prop} {Q:Exit->Act->World->Prop}
    (hok:∀v x w' G',r=.ok v->G.Le G'->Inv P GT w0 G' st' w'->RV G' v x->next (a.put o.dst x) w')
    (hpan:∀v x w' G',r=.pan v->G.Le G'->Inv P GT w0 G' st' w'->RV G' v x->Q (.panic [{v:=x,recovered:=false}]) a w'):o.wpIn F 0 P a w next Q:=by
  refine⟨fun f _=>hF.fn f,?_⟩;rw[Oper.semAt_eq _ _ _ (Xdl hck)];have hO:∀x y,ckO GT x y=true->RV G (evA GT s y) (a.eval x):=Xeg hG hs
  have post:∀e w',Xca P GT w0 G r st' e w'->(match e,w' with
      |.returned v,w''=>next (a.put o.dst v) w''
      |.panicked chain,w''=>Q (.panic chain) a w''
      |.outgrown,_=>LetsOut Q:Prop):=fun e w' p=>by
    cases e with
    |returned x=>obtain⟨v,G',hv,hle,hI',hr⟩:=p;exact hok v x w' G' hv hle hI' hr
    |panicked ch=>obtain⟨v,x,G',hv,hle,hI',hr,rfl⟩:=p;exact hpan v x w' G' hv hle hI' hr
    |outgrown=>exact p.elim
  have enter:∀(f:Nat) (xs:Array Value),(execOp a.eval o).run P w=(callFunc f xs).run P w->CallIs P G w (.fn f) xs (Xca P GT w0 G r st')->o.uponIn F 0 P a next Q ((execOp a.eval o).run P w):=fun f xs hr k=>by rw[hr,k.1.run,Oper.uponIn_enter];exact⟨hF.depth,hF.calls (k.2.mono post)⟩
  have round:∀(b g:Nat) (xs:Array Value),G.ι b=some g->(execOp a.eval o).run P w=(Instr.yield g xs).run P w->CallIs P G w (.yld b) xs (Xca P GT w0 G r st')->o.uponIn F 0 P a next Q ((execOp a.eval o).run P w):=fun b g xs hg hr k=>by obtain⟨rec,h1,h2,h3⟩:=k g hg;rw[hr,run_yield h1 h2,Oper.uponIn_round];exact⟨hF.depth,hF.round (h3.mono post)⟩
  have plain:aOp E st (evA GT s) ao=some (r,st')->o.uponIn F 0 P a next Q ((execOp a.eval o).run P w):=fun h=>by
    have key:=Xls hO hI (o:=o) hck h;cases r with
    |ok v=>
      obtain⟨x,w',G',hrun,hle,hI',hr⟩:=key;rcases hrun with hrun|⟨hrun,rfl⟩
      ·rw[hrun];exact hok v x w' G' rfl hle hI' hr
      ·rw[hrun];exact hok v _ w' G' rfl hle hI' hr
    |pan v=>
      obtain⟨rfl,x,hrun,hr⟩:=key;rw[hrun];exact hpan v x w G rfl (.refl G) hI hr
  cases ao with
  |call tr g zq=>
    obtain⟨dst,op,type,pos,after,guard⟩:=o;cases op with
    |call c=>
      obtain⟨callee,args,argTypes⟩:=c;simp only[ckOp,Xp5]at hck;split at hck
      ·rename_i f;simp only[Bool.and_eq_true,decide_eq_true_eq]at hck;obtain⟨rfl,hck⟩:=hck;have hx:=Xds hO hck;simp only[aExec]at h;refine enter f (args.map a.eval) ?_ (Xei hC hS hw h hI hG (by simpa using hx));simp[execOp,resolve,Act.eval,Deferred.ofValue,invoke]
      ·cases hck
    |_=>simp[ckOp]at hck
  |callv tr f zq=>
    obtain⟨dst,op,type,pos,after,guard⟩:=o;cases op with
    |call c=>
      obtain⟨callee,args,argTypes⟩:=c;simp only[ckOp,Xp4]at hck;split at hck
      ·rename_i x;simp only[Bool.and_eq_true]at hck;have hf:=hO _ _ hck.1;have hx:=Xds hO hck.2;simp only[aExec]at h;split at h
       ·rename_i g p q hfv;rw[hfv]at hf;simp only[RV]at hf;obtain⟨fa,fb,hf,h1,h2⟩:=hf;refine enter g (fa++args.map a.eval++fb) ?_ (Xei hC hS hw h hI hG ?_)
        ·simp[execOp,resolve,hf,Deferred.ofValue,invoke]
        ·simpa using(h1.append hx).append h2
       ·rename_i b hfv;rw[hfv]at hf;simp only[RV]at hf;obtain⟨g,hg,hf⟩:=hf;refine round b g (args.map a.eval) hg ?_ (Xei hC hS hw h hI hG (by simpa using hx));simp[execOp,resolve,hf,Deferred.ofValue,invoke]
       ·cases h
      ·cases hck
    |_=>simp[ckOp]at hck
  |_=>exact plain h
theorem Xed{E:Env}{rd:Option Nat}{F:Fence}{ops:Array Oper}{Q:Exit->Act->World->Prop}:∀{os:List Oper} {zq:List AOper} {s:List AV} {st st':St} {r:Rt (List AV)} {a:Act} {w:World} {G:Gh},
  Xb7 P GT ops os zq=true->RF G rd F->E.Wf st->aOps GT C E zq s st=some (r,st')->Inv P GT w0 G st w->HGT GT G->RVs G s a.tmps.toList->
  (∀s' a' w' G',r=.ok s'->G.Le G'->Inv P GT w0 G' st' w'->RVs G' s' a'.tmps.toList->SameB (zq.filterMap (·.dst)) a a'->Q .normal a' w')->
  (∀v x a' w' G',r=.pan v->G.Le G'->Inv P GT w0 G' st' w'->RV G' v x->SameB (zq.filterMap (·.dst)) a a'->Q (.panic [{v:=x,recovered:=false}]) a' w')->wpListIn F 0 P ops Q os a w
 |[],zq,s,st,st',r,a,w,G,hck,hF,hw,h,hI,hG,hs,hok,hpan=>by
  cases zq with
  |cons _ _=>simp[Xb7]at hck
  |nil=>
   simp only[aOps,Option.some.injEq,Prod.mk.injEq]at h;obtain⟨rfl,rfl⟩:=h;exact hok s a w G rfl (.refl G) hI hs (.refl _ _)
 |o::os,zq,s,st,st',r,a,w,G,hck,hF,hw,h,hI,hG,hs,hok,hpan=>by
  cases zq with
  |nil=>simp[Xb7]at hck
  |cons ao zq=>
   simp only[Xb7,Bool.and_eq_true]at hck;have hwant:=Xig hck.1 hs;have hck1:=hck.1;simp only[Xb1,Bool.and_eq_true,decide_eq_true_eq]at hck1
   have hput:∀{G':Gh} {v:AV} {x:Value},G.Le G'->RV G' v x->RVs G' (put s ao.dst v) (a.put o.dst x).tmps.toList:=fun hle hr=>by
    rw[hck1.1.1];cases ao.dst with
    |none=>exact hs.mono hle
    |some d=>simp only[put,Act.put,Array.toList_setIfInBounds];exact(hs.mono hle).set d hr
   have hdef:∀x {a'},SameB (zq.filterMap (·.dst)) (a.put o.dst x) a'->SameB ((ao::zq).filterMap (·.dst)) a a':=fun x {a'} k=>by
    refine(SameB.put x fun d hd=>?_).trans (k.weak fun t ht=>?_)
    ·rw[hck1.1.1]at hd;simp[List.mem_filterMap,hd]
    ·simp only[List.mem_filterMap]at ht⊢;obtain⟨y,h1,h2⟩:=ht;exact⟨y,List.mem_cons_of_mem _ h1,h2⟩
   simp only[aOps,Xab]at h;obtain⟨⟨r1,st1⟩,h1,h⟩:=h;unfold Xie at h1;simp only[wpListIn];rw[hwant];by_cases hwt:Xbz ao s=true
   ·simp only[hwt,if_true,Xab]at h1⊢;obtain⟨⟨r2,st2⟩,h2,h1⟩:=h1;refine Xgb hC hS hF hck1.1.2 hw h2 hI hG hs (fun v x w' G' hv hle hI' hr=>?_) (fun v x w' G' hv hle hI' hr=>?_)
    ·subst hv;simp only[Option.some.injEq,Prod.mk.injEq]at h1;obtain⟨rfl,rfl⟩:=h1;refine Xed hck.2 (hF.mono hle) ((Xet hS hw h2).wf hw) h hI' (hG.mono hle) (hput hle hr) (fun s' a' w'' G'' e1 e2 e3 e4 e5=>?_) (fun v' x' a' w'' G'' e1 e2 e3 e4 e5=>?_)
     ·exact hok s' a' w'' G'' e1 (hle.trans e2) e3 e4 (hdef x e5)
     ·exact hpan v' x' a' w'' G'' e1 (hle.trans e2) e3 e4 (hdef x e5)
    ·subst hv;simp only[Option.some.injEq,Prod.mk.injEq]at h1;obtain⟨rfl,rfl⟩:=h1;simp only[Option.some.injEq,Prod.mk.injEq]at h;obtain⟨rfl,rfl⟩:=h;exact hpan v x a w' G' rfl hle hI' hr (.refl _ _)
   ·simp only[Bool.not_eq_true]at hwt;simp only[hwt,Bool.false_eq_true,if_false,Option.some.injEq,Prod.mk.injEq]at h1⊢;obtain⟨rfl,rfl⟩:=h1;refine⟨fun f _=>hF.fn f,Xed hck.2 hF hw h hI hG (hput (.refl G) (by simp[AV.undef,RV,RVs,undef])) (fun s' a' w'' G'' e1 e2 e3 e4 e5=>?_) (fun v' x' a' w'' G'' e1 e2 e3 e4 e5=>?_)⟩
    ·exact hok s' a' w'' G'' e1 e2 e3 e4 (hdef _ e5)
    ·exact hpan v' x' a' w'' G'' e1 e2 e3 e4 (hdef _ e5)
end
section
variable{GT:Nat->Option (List AV)}{C:CSem}{E:Env}
theorem Xgg{op:AOp}{s:List AV}{st st':St}{r:Rt AV}(hne:Xak op=false)(h:aExec GT C E op s st=some (r,st')):st'=st/\∃v,r=.ok v:=by
 have quiet:∀{cal args},doCall C E .quiet cal args st=some (r,st')->st'=st/\∃v,r=.ok v:=fun{cal args} h=>by
  simp only[doCall,Xab]at h;obtain⟨⟨r1,st1⟩,h1,h⟩:=h;cases r1 with
  |ok v=>simp only[Xad,Xas,Option.some.injEq,Prod.mk.injEq]at h;exact⟨h.2.2.symm,_,h.2.1.symm⟩
  |pan v=>simp at h
 cases op with
 |call tr f args=>
  simp only[Xak,decide_eq_false_iff_not,Decidable.not_not]at hne;subst hne;exact quiet h
 |callv tr f args=>
  simp only[Xak,decide_eq_false_iff_not,Decidable.not_not]at hne;subst hne;simp only[aExec]at h;split at h
  ·exact quiet h
  ·exact quiet h
  ·cases h
 |_=>exact Xmm (E:=E) (ev:=evA GT s) hne h
theorem Xjw{o:AOper}{s:List AV}{st:St}{v:AV}(hne:Xak o.op=false)(h:sameAt GT C E o s st v=true):aExec GT C E o.op s st=some (.ok v,st):=by
 unfold sameAt at h;split at h
 ·rename_i u st' heq;have:=AV.eq_of_beq _ _ h;subst this;rw[(Xgg hne heq).1]at heq;exact heq
 ·cases h
theorem Xnu{op:AOp}{s:List AV}{st st':St}{r:Rt AV}(hne:Xak op=false)(hnr:reads op=false)(h:aExec GT C E op s st=some (r,st'))(st2:St):aExec GT C E op s st2=some (r,st2):=by
 cases op with
 |call tr f args=>simp[reads]at hnr
 |callv tr f args=>simp[reads]at hnr
 |_=>exact Xr8 (E:=E) (ev:=evA GT s) hne hnr h E st2
variable(zq:List (AOper×Nat))(S:Nat->St)(L:Nat->Bool)
def effL(i:Nat):Bool:=L i && (match zq[i]? with
 |some (o,_)=>Xak o.op
 |none=>false)
def stg(i:Nat)(sts:List (Option Nat×St)):Nat->List (Option Nat×St)
 |0=>sts
 |j+1=>if j<i then sts else if effL zq L j then(some j,S (j+1))::stg i sts j else stg i sts j
variable(GT C E)(s:Nat->List AV)(V:Nat->AV)
structure Trc(i:Nat)(sts:List (Option Nat×St)):Prop where
  dead:∀j,i<=j->L j=false->s (j+1)=s j/\S (j+1)=S j
  live:∀j o m,i<=j->zq[j]?=some (o,m)->L j=true->s (j+1)=put (s j) o.dst (V j)/\(Xak o.op=false->S (j+1)=S j)/\
    ((Xbz o (s j)=true/\aExec GT C E o.op (s j) (S j)=some (.ok (V j),S (j+1))/\
        (Xak o.op=false->reads o.op=true->Xbb GT C E o (s j) (V j) m (stg zq S L i sts j)=true/\
          ∀k o' m',j<k->zq[k]?=some (o',m')->L k=true->Xak o'.op=true->Xbz o' (s k)=true->m'.testBit j=true\/sameAt GT C E o (s j) (S (k+1)) (V j)=true))\/
      (Xbz o (s j)=false/\V j=AV.undef/\S (j+1)=S j))
inductive Outc(i:Nat):Rt (List AV)->St->Prop
  |ok (hall:∀j,i<=j->j<zq.length->L j=true):Outc i (.ok (s zq.length)) (S zq.length)
  |pan (p:Nat) (o:AOper) (m:Nat) (v:AV) (st':St) (hp:i<=p) (ho:zq[p]?=some (o,m)) (he:Xak o.op=true) (hw:Xbz o (s p)=true) (hL:L p=false) (hlo:∀j,i<=j->j<p->L j=true)
      (hhi:∀j o' m',p<j->zq[j]?=some (o',m')->(L j=false/\m'.testBit p=true)\/(L j=true/\m'.testBit p=false/\Xak o'.op=false))
      (hx:aExec GT C E o.op (s p) (S p)=some (.pan v,st')):Outc i (.pan v) st'
end
section
variable{GT:Nat->Option (List AV)}{C:CSem}{E:Env}{zq:List (AOper×Nat)}
theorem Xg6{S:Nat->St}{L:Nat->Bool}{i:Nat}{sts:List (Option Nat×St)}:∀{j:Nat},j<=i->stg zq S L i sts j=sts
 |0,_=>rfl
 |j+1,h=>by simp only[stg];rw[if_pos (by omega)]
theorem Xjt{S S':Nat->St}{L L':Nat->Bool}{i:Nat}{sts:List (Option Nat×St)}(hS:∀j,i<j->S j=S' j)(hL:∀j,i<=j->L j=L' j):∀j,stg zq S L i sts j=stg zq S' L' i sts j
 |0=>rfl
 |j+1=>by
  simp only[stg];split
  ·rfl
  ·rename_i h;rw[Xjt hS hL j,hS (j+1) (by omega)];have:effL zq L j=effL zq L' j:=by simp only[effL,hL j (by omega)]
   rw[this]
theorem Xln{S:Nat->St}{L:Nat->Bool}{i:Nat}{sts:List (Option Nat×St)}:∀{j:Nat},i+1<=j->stg zq S L i sts j=stg zq S L (i+1) (stg zq S L i sts (i+1)) j
 |0,h=>by omega
 |j+1,h=>by
  rcases Nat.lt_or_ge j (i+1)with h'|h'
  ·have:j=i:=by omega
   subst this;rw[Xg6 (Nat.le_refl _)]
  ·have e1:stg zq S L i sts (j+1)=if j<i then sts else if effL zq L j then(some j,S (j+1))::stg zq S L i sts j else stg zq S L i sts j:=rfl
   have e2:stg zq S L (i+1) (stg zq S L i sts (i+1)) (j+1)=if j<i+1 then(stg zq S L i sts (i+1))else if effL zq L j then(some j,S (j+1))::stg zq S L (i+1) (stg zq S L i sts (i+1)) j else stg zq S L (i+1) (stg zq S L i sts (i+1)) j:=rfl
   have h1:¬j<i:=by omega
   have h2:¬j<i+1:=by omega
   rw[e1,e2];simp only[h1,h2,if_false];rw[<-Xln h']
theorem drop_cons{α:Type}{l r:List α}{x:α}{i:Nat}(h:l.drop i=x::r):l[i]?=some x/\l.drop (i+1)=r:=by
 constructor
 ·have:(l.drop i)[0]?=some x:=by rw[h];rfl
  simpa using this
 ·have:(l.drop i).drop 1=r:=by rw[h];rfl
  rw[List.drop_drop]at this;exact this
theorem Trc.cons{s:Nat->List AV}{S:Nat->St}{V:Nat->AV}{L:Nat->Bool}{i:Nat}{sts:List (Option Nat×St)}{o:AOper}{m:Nat}(ho:zq[i]?=some (o,m))
    (h:Trc GT C E zq S L s V (i+1) (stg zq S L i sts (i+1)))
    (h0:L i=false->s (i+1)=s i/\S (i+1)=S i)
    (h1:L i=true->s (i+1)=put (s i) o.dst (V i)/\(Xak o.op=false->S (i+1)=S i)/\
    ((Xbz o (s i)=true/\aExec GT C E o.op (s i) (S i)=some (.ok (V i),S (i+1))/\
        (Xak o.op=false->reads o.op=true->Xbb GT C E o (s i) (V i) m sts=true/\
          ∀k o' m',i<k->zq[k]?=some (o',m')->L k=true->Xak o'.op=true->Xbz o' (s k)=true->m'.testBit i=true\/sameAt GT C E o (s i) (S (k+1)) (V i)=true))\/
      (Xbz o (s i)=false/\V i=AV.undef/\S (i+1)=S i))):Trc GT C E zq S L s V i sts:=by
  refine⟨fun j hj hL=>?_,fun j o' m' hj ho' hL=>?_⟩
  ·rcases Nat.eq_or_lt_of_le hj with rfl|hj
   ·exact h0 hL
   ·exact h.dead j hj hL
  ·rcases Nat.eq_or_lt_of_le hj with rfl|hj
   ·rw[ho]at ho';cases ho';rw[Xg6 (Nat.le_refl _)];exact h1 hL
   ·rw[Xln hj];exact h.live j o' m' hj ho' hL
def upd1{α:Type}(f:Nat->α)(i:Nat)(x:α):Nat->α:=fun k=>if k<=i then x else f k
theorem Xa3{α:Type}(f:Nat->α)(i:Nat)(x:α):upd1 f i x i=x:=by simp[upd1]
theorem Xa0{α:Type}(f:Nat->α)(i:Nat)(x:α){k:Nat}(h:i<k):upd1 f i x k=f k:=by simp[upd1];omega
theorem Trc.congr{s s':Nat->List AV}{S S':Nat->St}{V V':Nat->AV}{L L':Nat->Bool}{i:Nat}{sts:List (Option Nat×St)}(h:Trc GT C E zq S L s V i sts)
  (hs:∀j,i<=j->s j=s' j) (hS:∀j,i<=j->S j=S' j) (hV:∀j,i<=j->V j=V' j) (hL:∀j,i<=j->L j=L' j):Trc GT C E zq S' L' s' V' i sts:=by
 refine⟨fun j hj hl=>?_,fun j o m hj ho hl=>?_⟩
 ·rw[<-hs j hj,<-hs (j+1) (by omega),<-hS j hj,<-hS (j+1) (by omega)];exact h.dead j hj (by rw[hL j hj];exact hl)
 ·rw[<-hs j hj,<-hs (j+1) (by omega),<-hS j hj,<-hS (j+1) (by omega),<-hV j hj,<-Xjt (fun j hj=>hS j (by omega)) hL];obtain⟨a,b,c⟩:=h.live j o m hj ho (by rw[hL j hj];exact hl);refine⟨a,b,c.imp (fun⟨c1,c2,c3⟩=>⟨c1,c2,fun e1 e2=>⟨(c3 e1 e2).1,fun k o' m' hk ho' hlk he hw=>?_⟩⟩) id⟩;rw[<-hS (k+1) (by omega)];exact(c3 e1 e2).2 k o' m' hk ho' (by rw[hL k (by omega)];exact hlk) he (by rw[hs k (by omega)];exact hw)
theorem Outc.congr{s s':Nat->List AV}{S S':Nat->St}{L L':Nat->Bool}{i:Nat}{r:Rt (List AV)}{st':St}(h:Outc GT C E zq S L s i r st')(hi:i<=zq.length)
  (hs:∀j,i<=j->s j=s' j) (hS:∀j,i<=j->S j=S' j) (hL:∀j,i<=j->L j=L' j):Outc GT C E zq S' L' s' i r st':=by
 cases h with
 |ok hall=>
  rw[hs _ hi,hS _ hi];exact .ok fun j h1 h2=>by rw[<-hL j h1];exact hall j h1 h2
 |pan p o m v st' hp ho he hw hl hlo hhi hx=>
  refine .pan p o m v st' hp ho he (by rw[<-hs p hp];exact hw) (by rw[<-hL p hp];exact hl) (fun j h1 h2=>by rw[<-hL j h1];exact hlo j h1 h2) (fun j o' m' h1 h2=>?_) (by rw[<-hs p hp,<-hS p hp];exact hx);rw[<-hL j (by omega)];exact hhi j o' m' h1 h2
theorem Outc.down{s:Nat->List AV}{S:Nat->St}{L:Nat->Bool}{i:Nat}{r:Rt (List AV)}{st':St}(h:Outc GT C E zq S L s (i+1) r st')(hi:L i=true):Outc GT C E zq S L s i r st':=by
 cases h with
 |ok hall=>
  refine .ok fun j h1 h2=>?_;rcases Nat.eq_or_lt_of_le h1 with rfl|h1
  ·exact hi
  ·exact hall j h1 h2
 |pan p o m v st' hp ho he hw hl hlo hhi hx=>
  exact .pan p o m v st' (by omega) ho he hw hl (fun j h1 h2=>by
   rcases Nat.eq_or_lt_of_le h1 with rfl|h1
   ·exact hi
   ·exact hlo j h1 h2) hhi hx
theorem Xh0{p:Nat}:∀{r:List (AOper×Nat)} {i:Nat} {sts:List (Option Nat×St)} {sl:List AV} {st:St},zq.drop i=r->Xex GT C E p r sts sl st=true->
    ∃(s:Nat->List AV) (V:Nat->AV) (L:Nat->Bool),s i=sl/\(∀k,L k=true->k<zq.length)/\Trc GT C E zq (fun _=>st) L s V i sts/\
      ∀j o' m',i<=j->zq[j]?=some (o',m')->(L j=false/\m'.testBit p=true)\/(L j=true/\m'.testBit p=false/\Xak o'.op=false)
  |[],i,sts,sl,st,hr,h=>by
    have hlen:zq.length<=i:=by simpa using hr
    refine⟨fun _=>sl,fun _=>AV.undef,fun _=>false,rfl,fun k hk=>(by cases hk),⟨fun j hj _=>⟨rfl,rfl⟩,fun j o m hj ho hL=>by cases hL⟩,fun j o' m' hj ho=>?_⟩;have:=uB ho;omega
  |(o,m)::r,i,sts,sl,st,hr,h=>by
    obtain⟨ho,hr'⟩:=drop_cons hr
    have step:∀(l:Bool) (v:AV) (sl':List AV),Xex GT C E p r sts sl' st=true->(l=false->sl'=sl)->((l=false/\m.testBit p=true)\/(l=true/\m.testBit p=false/\Xak o.op=false))->
        (l=true->sl'=put sl o.dst v/\((Xbz o sl=true/\aExec GT C E o.op sl st=some (.ok v,st)/\(Xak o.op=false->reads o.op=true->Xbb GT C E o sl v m sts=true))\/(Xbz o sl=false/\v=AV.undef)))->
        ∃(s:Nat->List AV) (V:Nat->AV) (L:Nat->Bool),s i=sl/\(∀k,L k=true->k<zq.length)/\Trc GT C E zq (fun _=>st) L s V i sts/\
          ∀j o' m',i<=j->zq[j]?=some (o',m')->(L j=false/\m'.testBit p=true)\/(L j=true/\m'.testBit p=false/\Xak o'.op=false):=by
      intro l v sl' h' hl0 hl1 hl2;obtain⟨s,V,L,h1,hLn,h2,h3⟩:=Xh0 hr' h';have hi':i<zq.length:=uB ho;have hs1:upd1 s i sl (i+1)=s (i+1):=Xa0 s i sl (by omega)
      have noeff:∀k o' m',i<k->zq[k]?=some (o',m')->upd1 L i l k=true->Xak o'.op=true->False:=fun k o' m' hk ho' hL he=>by
        rw[Xa0 _ _ _ hk]at hL;rcases h3 k o' m' hk ho' with⟨a,_⟩|⟨_,_,a⟩
        ·rw[hL]at a;cases a
        ·rw[he]at a;cases a
      have hstg:stg zq (fun _=>st) (upd1 L i l) i sts (i+1)=sts:=by
        simp only[stg];rw[if_neg (by omega),Xg6 (Nat.le_refl _)];have:effL zq (upd1 L i l) i=false:=by simp only[effL,Xa3,ho];rcases hl1 with⟨a,_⟩|⟨_,_,a⟩<;>simp[a]
        rw[this];simp
      refine⟨upd1 s i sl,upd1 V i v,upd1 L i l,Xa3 _ _ _,fun k hk=>?_,Trc.cons ho ?_ ?_ ?_,fun j o' m' hj ho'=>?_⟩
      ·rcases Nat.lt_or_ge i k with h|h
       ·rw[Xa0 _ _ _ h]at hk;exact hLn k hk
       ·omega
      ·rw[hstg];exact h2.congr (fun j hj=>(Xa0 _ _ _ hj).symm) (fun _ _=>rfl) (fun j hj=>(Xa0 _ _ _ hj).symm) (fun j hj=>(Xa0 _ _ _ hj).symm)
      ·intro hL;rw[Xa3]at hL;rw[hs1,Xa3,h1,hl0 hL];exact⟨rfl,rfl⟩
      ·intro hL;rw[Xa3]at hL;obtain⟨a,b⟩:=hl2 hL;rw[hs1,Xa3,h1,Xa3];refine⟨a,fun _=>rfl,b.imp (fun⟨b1,b2,b3⟩=>⟨b1,b2,fun e1 e2=>⟨b3 e1 e2,fun k o' m' hk ho' hLk he hw=>(noeff k o' m' hk ho' hLk he).elim⟩⟩) fun⟨b1,b2⟩=>⟨b1,b2,rfl⟩⟩
      ·rcases Nat.eq_or_lt_of_le hj with rfl|hj
       ·rw[ho]at ho';cases ho';rw[Xa3];exact hl1
       ·rw[Xa0 _ _ _ hj];exact h3 j o' m' hj ho'
    simp only[Xex]at h;by_cases hm:m.testBit p=true
    ·rw[if_pos hm]at h;exact step false AV.undef sl h (fun _=>rfl) (.inl ⟨rfl,hm⟩) (fun e=>by cases e)
    ·rw[if_neg hm]at h;simp only[Bool.not_eq_true]at hm;simp only[Bool.and_eq_true,Bool.not_eq_true']at h;obtain⟨hne,h⟩:=h;by_cases hw:Xbz o sl=true
     ·rw[if_pos hw]at h;split at h
      ·rename_i v st2 hx;simp only[Bool.and_eq_true,Bool.or_eq_true,Bool.not_eq_true']at h;rw[(Xgg hne hx).1]at hx;exact step true v _ h.2 (fun e=>by cases e) (.inr ⟨rfl,hm,hne⟩) fun _=>⟨rfl,.inl ⟨hw,hx,fun _ e2=>h.1.resolve_left (by rw[e2];simp)⟩⟩
      ·cases h
     ·rw[if_neg hw]at h;simp only[Bool.not_eq_true]at hw;exact step true AV.undef _ h (fun e=>by cases e) (.inr ⟨rfl,hm,hne⟩) fun _=>⟨rfl,.inr ⟨hw,rfl⟩⟩
theorem Xhz:∀{r:List (AOper×Nat)} {i:Nat} {ds:List Done} {sts:List (Option Nat×St)} {sl:List AV} {st st':St} {res:Rt (List AV)},zq.drop i=r->i<=zq.length->aDraw GT C E i r ds sts sl st=some (res,st')->
    ∃(s:Nat->List AV) (S:Nat->St) (V:Nat->AV) (L:Nat->Bool),s i=sl/\S i=st/\(∀k,L k=true->k<zq.length)/\Trc GT C E zq S L s V i sts/\Outc GT C E zq S L s i res st'/\
      ∀d∈ds,∀k o' m',i<=k->zq[k]?=some (o',m')->L k=true->Xak o'.op=true->Xbz o' (s k)=true->m'.testBit d.i=true\/sameAt GT C E d.o d.s (S (k+1)) d.v=true
  |[],i,ds,sts,sl,st,st',res,hr,hi,h=>by
    have hlen:zq.length=i:=by have:zq.length<=i:=by simpa using hr
                              omega
    simp only[aDraw,Option.some.injEq,Prod.mk.injEq]at h;obtain⟨rfl,rfl⟩:=h;have nope:∀{k x},i<=k->zq[k]?=some x->False:=fun hk ho=>by have:=(uB ho);omega
    exact⟨fun _=>sl,fun _=>st,fun _=>AV.undef,fun _=>false,rfl,rfl,fun k hk=>(by cases hk),⟨fun j hj hL=>⟨rfl,rfl⟩,fun j o m hj ho hL=>(nope hj ho).elim⟩,
      .ok (s:=fun _=>sl) (S:=fun _=>st) (fun j h1 h2=>by omega),fun d _ k o' m' hk ho=>(nope hk ho).elim⟩
  |(o,m)::r,i,ds,sts,sl,st,st',res,hr,hi,h=>by
    obtain⟨ho,hr'⟩:=drop_cons hr;have hi':i+1<=zq.length:=uB ho
    have step:∀(v:AV) (sl':List AV) (st1:St) (ds':List Done) (sts':List (Option Nat×St)),aDraw GT C E (i+1) r ds' sts' sl' st1=some (res,st')->(∀d∈ds,d∈ds')->
        sl'=put sl o.dst v->(Xak o.op=false->st1=st)->sts'=(if Xak o.op then(some i,st1)::sts else sts)->
        (Xak o.op=true->Xbz o sl=true->∀d∈ds,m.testBit d.i=true\/sameAt GT C E d.o d.s st1 d.v=true)->
        ((Xbz o sl=true/\aExec GT C E o.op sl st=some (.ok v,st1)/\(Xak o.op=false->reads o.op=true->Xbb GT C E o sl v m sts=true/\⟨i,o,sl,v⟩∈ds'))\/(Xbz o sl=false/\v=AV.undef/\st1=st))->
        ∃(s:Nat->List AV) (S:Nat->St) (V:Nat->AV) (L:Nat->Bool),s i=sl/\S i=st/\(∀k,L k=true->k<zq.length)/\Trc GT C E zq S L s V i sts/\Outc GT C E zq S L s i res st'/\
          ∀d∈ds,∀k o' m',i<=k->zq[k]?=some (o',m')->L k=true->Xak o'.op=true->Xbz o' (s k)=true->m'.testBit d.i=true\/sameAt GT C E d.o d.s (S (k+1)) d.v=true:=by
      intro v sl' st1 ds' sts' h' hds hsl hst hsts heff hcase;obtain⟨s,S,V,L,h1,h2,hLn,h3,h4,h5⟩:=Xhz hr' hi' h';have hs1:upd1 s i sl (i+1)=s (i+1):=Xa0 s i sl (by omega);have hS1:upd1 S i st (i+1)=S (i+1):=Xa0 S i st (by omega)
      have hstg:stg zq (upd1 S i st) (upd1 L i true) i sts (i+1)=sts':=by
        simp only[stg];rw[if_neg (by omega),Xg6 (Nat.le_refl _),hS1,h2,hsts];have:effL zq (upd1 L i true) i=Xak o.op:=by simp only[effL,Xa3,ho,Bool.true_and]
        rw[this]
      refine⟨upd1 s i sl,upd1 S i st,upd1 V i v,upd1 L i true,Xa3 _ _ _,Xa3 _ _ _,fun k hk=>?_,Trc.cons ho ?_ ?_ ?_,?_,fun d hd k o' m' hk ho' hL he hw=>?_⟩
      ·rcases Nat.lt_or_ge i k with h|h
       ·rw[Xa0 _ _ _ h]at hk;exact hLn k hk
       ·omega
      ·rw[hstg];exact h3.congr (fun j hj=>(Xa0 _ _ _ hj).symm) (fun j hj=>(Xa0 _ _ _ hj).symm) (fun j hj=>(Xa0 _ _ _ hj).symm) (fun j hj=>(Xa0 _ _ _ hj).symm)
      ·intro hL;rw[Xa3]at hL;cases hL
      ·intro _;rw[hs1,Xa3,h1,Xa3,hS1,h2,Xa3];refine⟨hsl,hst,hcase.imp (fun⟨b1,b2,b3⟩=>⟨b1,b2,fun e1 e2=>⟨(b3 e1 e2).1,fun k o' m' hk ho' hLk he hw=>?_⟩⟩) id⟩;have:=h5 _ (b3 e1 e2).2 k o' m' hk ho' (by rw[Xa0 _ _ _ hk]at hLk;exact hLk) he (by rw[Xa0 _ _ _ hk]at hw;exact hw);rw[Xa0 S i st (by omega)];exact this
      ·exact(h4.congr hi' (fun j hj=>(Xa0 _ _ _ hj).symm) (fun j hj=>(Xa0 _ _ _ hj).symm) (fun j hj=>(Xa0 _ _ _ hj).symm)).down (Xa3 _ _ _)
      ·rcases Nat.eq_or_lt_of_le hk with rfl|hk
       ·rw[ho]at ho';cases ho';rw[Xa3]at hw;rw[hS1,h2];exact heff he hw d hd
       ·rw[Xa0 S i st (by omega)];exact h5 d (hds d hd) k o' m' hk ho' (by rw[Xa0 _ _ _ hk]at hL;exact hL) he (by rw[Xa0 _ _ _ hk]at hw;exact hw)
    simp only[aDraw]at h;by_cases hw:Xbz o sl=true
    ·rw[if_pos hw]at h;simp only[Xab]at h;obtain⟨⟨r1,st1⟩,hx,h⟩:=h;cases r1 with
     |ok v=>
       simp only at h;by_cases he:Xak o.op=true
       ·rw[if_pos he]at h;simp only[Xad,List.all_eq_true,Bool.or_eq_true]at h;exact step v _ st1 ds _ h.2 (fun _ h=>h) rfl (fun e=>by rw[he]at e;cases e) (by rw[if_pos he]) (fun _ _ d hd=>h.1 d hd) (.inl ⟨hw,hx,fun e=>by rw[he]at e;cases e⟩)
       ·rw[if_neg he]at h;simp only[Bool.not_eq_true]at he;have e1:=(Xgg he hx).1;subst e1;by_cases hrd:reads o.op=true
        ·rw[if_pos hrd]at h;simp only[Xad]at h;exact step v _ st1 _ _ h.2 (fun d hd=>List.mem_cons_of_mem _ hd) rfl (fun _=>rfl) (by rw[he];rfl) (fun e=>by rw[he]at e;cases e) (.inl ⟨hw,hx,fun _ _=>⟨h.1,List.mem_cons_self⟩⟩)
        ·rw[if_neg hrd]at h;exact step v _ st1 ds _ h (fun _ h=>h) rfl (fun _=>rfl) (by rw[he];rfl) (fun e=>by rw[he]at e;cases e) (.inl ⟨hw,hx,fun _ e2=>absurd e2 hrd⟩)
     |pan v=>
       simp only[Xad,Bool.and_eq_true,Option.some.injEq,Prod.mk.injEq]at h;obtain⟨⟨he,hd⟩,rfl,rfl⟩:=h;obtain⟨s,V,L,h1,hLn,h2,h3⟩:=Xh0 hr' hd
       have hstg:stg zq (fun _=>st) (upd1 L i false) i sts (i+1)=sts:=by
         simp only[stg];rw[if_neg (by omega),Xg6 (Nat.le_refl _)];have:effL zq (upd1 L i false) i=false:=by simp only[effL,Xa3,Bool.false_and]
         rw[this];simp
       refine⟨upd1 s i sl,fun _=>st,V,upd1 L i false,Xa3 _ _ _,rfl,fun k hk=>?_,Trc.cons ho ?_ ?_ ?_,.pan i o m v st1 (Nat.le_refl _) ho he (by rw[Xa3];exact hw) (Xa3 _ _ _) (fun j _ _=>by omega) (fun j o' m' hj ho'=>?_) (by rw[Xa3];exact hx),fun d hd k o' m' hk ho' hL hek=>?_⟩
       ·rcases Nat.lt_or_ge i k with h|h
        ·rw[Xa0 _ _ _ h]at hk;exact hLn k hk
        ·omega
       ·rw[hstg];exact h2.congr (fun j hj=>(Xa0 _ _ _ hj).symm) (fun _ _=>rfl) (fun _ _=>rfl) (fun j hj=>(Xa0 _ _ _ hj).symm)
       ·intro _;rw[Xa0 s i sl (by omega),Xa3,h1];exact⟨rfl,rfl⟩
       ·intro hL;rw[Xa3]at hL;cases hL
       ·rw[Xa0 _ _ _ hj];exact h3 j o' m' hj ho'
       ·rcases Nat.eq_or_lt_of_le hk with rfl|hk
        ·rw[Xa3]at hL;cases hL
        ·rw[Xa0 _ _ _ hk]at hL;rcases h3 k o' m' hk ho' with⟨a,_⟩|⟨_,_,a⟩
         ·rw[hL]at a;cases a
         ·rw[hek]at a;cases a
    ·rw[if_neg hw]at h;simp only[Bool.not_eq_true]at hw;by_cases he:Xak o.op=true
     ·rw[if_pos he]at h;exact step AV.undef _ st ds _ h (fun _ h=>h) rfl (fun _=>rfl) (by rw[if_pos he]) (fun _ e=>by rw[hw]at e;cases e) (.inr ⟨hw,rfl,rfl⟩)
     ·rw[if_neg he]at h;exact step AV.undef _ st ds _ h (fun _ h=>h) rfl (fun _=>rfl) (by rw[if_neg he]) (fun e=>absurd e he) (.inr ⟨hw,rfl,rfl⟩)
end
section
variable{GT:Nat->Option (List AV)}{C:CSem}{E:Env}
theorem Xpv{x y:List AV}{a:AO}(h:∀t∈Xb4 a,x[t]?=y[t]?):evA GT x a=evA GT y a:=by
 cases a with
 |t n=>simp only[evA,lk,h n (by simp[Xb4])]
 |c v=>rfl
 |g n=>rfl
theorem Xin{op:AOp}{x y:List AV}(h:∀t∈op.tmps,x[t]?=y[t]?)(st:St):aExec GT C E op x st=aExec GT C E op y st:=by
 have e1:∀{a:AO},(∀t∈Xb4 a,t∈op.tmps)->evA GT x a=evA GT y a:=fun ha=>Xpv fun t ht=>h t (ha t ht);have e2:∀{l:List AO},(∀a∈l,∀t∈Xb4 a,t∈op.tmps)->l.map (evA GT x)=l.map (evA GT y):=fun hl=>List.map_congr_left fun a ha=>e1 (hl a ha)
 have e3:∀{l:List (Nat×Nat×AO)},(∀p∈l,∀t∈Xb4 p.2.2,t∈op.tmps)->(l.map fun p=>(p.1,p.2.1,(evA GT x p.2.2).cells))=(l.map fun p=>(p.1,p.2.1,(evA GT y p.2.2).cells)):=
  fun hl=>List.map_congr_left fun p hp=>by rw[e1 (hl p hp)]
 cases op with
 |alloc|mkm=>rfl
 |build z ps=>simp only[aExec,aOp];rw[e3 (fun p hp t ht=>by simp only[AOp.tmps,List.mem_flatMap];exact⟨p,hp,ht⟩)]
 |bsl own sz n z ps=>simp only[aExec,aOp];rw[e3 (fun p hp t ht=>by simp only[AOp.tmps,List.mem_flatMap];exact⟨p,hp,ht⟩)]
 |mkf f a b=>simp only[aExec,aOp];rw[e2 (l:=a) (fun p hp t ht=>by simp only[AOp.tmps,List.mem_append,List.mem_flatMap];exact .inl ⟨p,hp,ht⟩),e2 (l:=b) (fun p hp t ht=>by simp only[AOp.tmps,List.mem_append,List.mem_flatMap];exact .inr ⟨p,hp,ht⟩)]
 |call tr f zq=>simp only[aExec];rw[e2 (l:=zq) (fun p hp t ht=>by simp only[AOp.tmps,List.mem_flatMap];exact⟨p,hp,ht⟩)]
 |callv tr f zq=>simp only[aExec];rw[e2 (l:=zq) (fun p hp t ht=>by simp only[AOp.tmps,List.mem_append,List.mem_flatMap];exact .inr ⟨p,hp,ht⟩),e1 (a:=f) (fun t ht=>by simp only[AOp.tmps,List.mem_append];exact .inl ht)]
 |slc sz a lo hi=>
  have f1:∀d,optN (evA GT x) d lo=optN (evA GT y) d lo:=fun d=>by
   cases lo with
   |none=>rfl
   |some l=>simp only[optN];rw[e1 (a:=l) (fun t ht=>by simp[AOp.tmps,ht])]
  have f2:∀d,optN (evA GT x) d hi=optN (evA GT y) d hi:=fun d=>by
   cases hi with
   |none=>rfl
   |some l=>simp only[optN];rw[e1 (a:=l) (fun t ht=>by simp[AOp.tmps,ht])]
  simp only[aExec,aOp,f1,f2];rw[e1 (a:=a) (fun t ht=>by simp[AOp.tmps,ht])]
 |pick a b c=>
  simp only[aExec,aOp];rw[e1 (a:=a) (fun t ht=>by simp[AOp.tmps,ht]),e1 (a:=b) (fun t ht=>by simp[AOp.tmps,ht]),e1 (a:=c) (fun t ht=>by simp[AOp.tmps,ht])]
 |upd s a b c=>
  simp only[aExec,aOp];rw[e1 (a:=a) (fun t ht=>by simp[AOp.tmps,ht]),e1 (a:=b) (fun t ht=>by simp[AOp.tmps,ht]),e1 (a:=c) (fun t ht=>by simp[AOp.tmps,ht])]
 |st n a b=>simp only[aExec,aOp];rw[e1 (a:=a) (fun t ht=>by simp[AOp.tmps,ht]),e1 (a:=b) (fun t ht=>by simp[AOp.tmps,ht])]
 |ia n a b=>simp only[aExec,aOp];rw[e1 (a:=a) (fun t ht=>by simp[AOp.tmps,ht]),e1 (a:=b) (fun t ht=>by simp[AOp.tmps,ht])]
 |iaa n m a b=>simp only[aExec,aOp];rw[e1 (a:=a) (fun t ht=>by simp[AOp.tmps,ht]),e1 (a:=b) (fun t ht=>by simp[AOp.tmps,ht])]
 |ixs a b=>simp only[aExec,aOp];rw[e1 (a:=a) (fun t ht=>by simp[AOp.tmps,ht]),e1 (a:=b) (fun t ht=>by simp[AOp.tmps,ht])]
 |bin k o a b=>simp only[aExec,aOp];rw[e1 (a:=a) (fun t ht=>by simp[AOp.tmps,ht]),e1 (a:=b) (fun t ht=>by simp[AOp.tmps,ht])]
 |mks n m z a b=>simp only[aExec,aOp];rw[e1 (a:=a) (fun t ht=>by simp[AOp.tmps,ht]),e1 (a:=b) (fun t ht=>by simp[AOp.tmps,ht])]
 |app n m a b=>simp only[aExec,aOp];rw[e1 (a:=a) (fun t ht=>by simp[AOp.tmps,ht]),e1 (a:=b) (fun t ht=>by simp[AOp.tmps,ht])]
 |mkh n m z a b=>simp only[aExec,aOp];rw[e1 (a:=a) (fun t ht=>by simp[AOp.tmps,ht]),e1 (a:=b) (fun t ht=>by simp[AOp.tmps,ht])]
 |frz a=>simp only[aExec,aOp];rw[e1 (a:=a) (fun t ht=>by simp[AOp.tmps,ht])]
 |appw n m a b c d=>simp only[aExec,aOp];rw[e1 (a:=a) (fun t ht=>by simp[AOp.tmps,ht]),e1 (a:=b) (fun t ht=>by simp[AOp.tmps,ht]),e1 (a:=c) (fun t ht=>by simp[AOp.tmps,ht]),e1 (a:=d) (fun t ht=>by simp[AOp.tmps,ht])]
 |mini a b=>simp only[aExec,aOp];rw[e1 (a:=a) (fun t ht=>by simp[AOp.tmps,ht]),e1 (a:=b) (fun t ht=>by simp[AOp.tmps,ht])]
 |lkp s z ok a b=>simp only[aExec,aOp];rw[e1 (a:=a) (fun t ht=>by simp[AOp.tmps,ht]),e1 (a:=b) (fun t ht=>by simp[AOp.tmps,ht])]
 |mv a=>simp only[aExec,aOp];rw[e1 (a:=a) (fun t ht=>by simp[AOp.tmps,ht])]
 |box n a=>simp only[aExec,aOp];rw[e1 (a:=a) (fun t ht=>by simp[AOp.tmps,ht])]
 |ld n a=>simp only[aExec,aOp];rw[e1 (a:=a) (fun t ht=>by simp[AOp.tmps,ht])]
 |nck a=>simp only[aExec,aOp];rw[e1 (a:=a) (fun t ht=>by simp[AOp.tmps,ht])]
 |fa n a=>simp only[aExec,aOp];rw[e1 (a:=a) (fun t ht=>by simp[AOp.tmps,ht])]
 |fld n k a=>simp only[aExec,aOp];rw[e1 (a:=a) (fun t ht=>by simp[AOp.tmps,ht])]
 |ext n a=>simp only[aExec,aOp];rw[e1 (a:=a) (fun t ht=>by simp[AOp.tmps,ht])]
 |un n a=>simp only[aExec,aOp];rw[e1 (a:=a) (fun t ht=>by simp[AOp.tmps,ht])]
 |cvi n a=>simp only[aExec,aOp];rw[e1 (a:=a) (fun t ht=>by simp[AOp.tmps,ht])]
 |cvs a=>simp only[aExec,aOp];rw[e1 (a:=a) (fun t ht=>by simp[AOp.tmps,ht])]
 |len n a=>simp only[aExec,aOp];rw[e1 (a:=a) (fun t ht=>by simp[AOp.tmps,ht])]
 |mki n a=>simp only[aExec,aOp];rw[e1 (a:=a) (fun t ht=>by simp[AOp.tmps,ht])]
 |ta n ok z a=>simp only[aExec,aOp];rw[e1 (a:=a) (fun t ht=>by simp[AOp.tmps,ht])]
 |pan a=>simp only[aExec,aOp];rw[e1 (a:=a) (fun t ht=>by simp[AOp.tmps,ht])]
theorem Xf3{o:AOper}{x y:List AV}(h:∀t∈o.looks,x[t]?=y[t]?):Xbz o x=Xbz o y:=by
 unfold Xbz;cases e:o.guard with
 |none=>rfl
 |some p=>
  obtain⟨t,b⟩:=p;simp only;rw[h t (by simp[AOper.looks,e])]
end
section
variable(zq:List (AOper×Nat))(V:Nat->AV)
def Xdq(k:Nat):Option Nat:=(zq[k]?).bind (·.1.dst)
def slw(D:Nat->Bool):List Nat->List AV->List AV
 |[],x=>x
 |k::l,x=>slw D l (if D k then put x (Xdq zq k) (V k)else x)
variable{zq V}
theorem Xq3(x:List AV){d e:Option Nat}(u v:AV)(h:d≠e\/d=none):put (put x d u) e v=put (put x e v) d u:=by
 cases d with
 |none=>rfl
 |some d=>
  cases e with
  |none=>rfl
  |some e=>
   simp only[put];rw[List.set_comm];rcases h with h|h
   ·exact fun e'=>h (by rw[e'])
   ·cases h
theorem Xkn{D:Nat->Bool}{d:Option Nat}{v:AV}:∀(l:List Nat) (x:List AV),(∀k∈l,D k=true->d≠Xdq zq k\/d=none)->slw zq V D l (put x d v)=put (slw zq V D l x) d v
 |[],x,_=>rfl
 |k::l,x,h=>by
  simp only[slw];by_cases hk:D k=true
  ·rw[if_pos hk,if_pos hk,Xq3 x v (V k) (h k (by simp) hk)];exact Xkn l _ fun j hj=>h j (by simp[hj])
  ·rw[if_neg hk,if_neg hk];exact Xkn l _ fun j hj=>h j (by simp[hj])
theorem Xdf{D D':Nat->Bool}:∀(l:List Nat) (x:List AV),(∀k∈l,D k=D' k)->slw zq V D l x=slw zq V D' l x
 |[],x,_=>rfl
 |k::l,x,h=>by simp only[slw];rw[h k (by simp)];exact Xdf l _ fun j hj=>h j (by simp[hj])
theorem Xf5{D:Nat->Bool}:∀(l k:List Nat) (x:List AV),slw zq V D (l++k) x=slw zq V D k (slw zq V D l x)
 |[],k,x=>rfl
 |j::l,k,x=>by simp only[List.cons_append,slw];exact Xf5 l k _
theorem Xtn{x y:List AV}{t:Nat}{d:Option Nat}{v:AV}(h:x[t]?=y[t]?):(put x d v)[t]?=(put y d v)[t]?:=by
 cases d with
 |none=>exact h
 |some d=>
  simp only[put,List.getElem?_set];split
  ·rename_i e;subst e
   have:d<x.length↔d<y.length:=by
    constructor
    ·intro hl;rw[List.getElem?_eq_getElem hl]at h;exact(List.getElem?_eq_some_iff.1 h.symm).1
    ·intro hl;rw[List.getElem?_eq_getElem hl]at h;exact uB h
   by_cases hl:d<x.length
   ·rw[if_pos hl,if_pos (this.1 hl)]
   ·rw[if_neg hl,if_neg (fun h'=>hl (this.2 h'))]
  ·exact h
theorem Xm7{x:List AV}{t:Nat}{d:Option Nat}{v:AV}(h:d≠some t):(put x d v)[t]?=x[t]?:=by
 cases d with
 |none=>rfl
 |some d=>
  simp only[put,List.getElem?_set];rw[if_neg (fun e=>h (by rw[e]))]
theorem Xko{D D':Nat->Bool}{t:Nat}:∀(l:List Nat) (x y:List AV),x[t]?=y[t]?->(∀k∈l,Xdq zq k=some t->D k=D' k)->(slw zq V D l x)[t]?=(slw zq V D' l y)[t]?
  |[],x,y,hxy,_=>hxy
  |k::l,x,y,hxy,h=>by
    simp only[slw];refine Xko l _ _ ?_ fun j hj=>h j (by simp[hj]);by_cases hd:Xdq zq k=some t
    ·rw[h k (by simp) hd];split
     ·exact Xtn hxy
     ·exact hxy
    ·have e1:∀(z:List AV) (b:Bool),(if b=true then put z (Xdq zq k) (V k)else z)[t]?=z[t]?:=fun z b=>by
        cases b
        ·rfl
        ·exact Xm7 hd
     rw[e1,e1,hxy]
theorem Xn9{D:Nat->Bool}{i n:Nat}(hi:i<n)(hD:D i=false)(h:∀k,i<k->k<n->D k=true->Xdq zq i≠Xdq zq k\/Xdq zq i=none)(x:List AV):
    slw zq V (fun k=>D k||decide (k=i)) (List.range n) x=put (slw zq V D (List.range n) x) (Xdq zq i) (V i):=by
  have hr:List.range n=List.range i++i::List.range' (i+1) (n - (i+1)):=by
    rw[List.range_eq_range',List.range_eq_range'];have e1:n=i+(1+(n - (i+1))):=by omega
    conv=>lhs;rw[e1]
    rw[<-List.range'_append_1,<-List.range'_append_1];simp
  rw[hr,Xf5,Xf5];simp only[slw,hD,decide_true,Bool.or_true,if_true,Bool.false_eq_true,if_false]
  rw[Xdf (D:=fun k=>D k||decide (k=i)) (D':=D) (List.range i) x (fun k hk=>by have:k<i:=by simpa using hk
                                                                              simp;omega)]
  rw[Xdf (D:=fun k=>D k||decide (k=i)) (D':=D) (List.range' (i+1) (n - (i+1))) _ (fun k hk=>by have:=List.mem_range'_1.1 hk
                                                                                               simp;omega)]
  exact Xkn _ _ fun k hk hDk=>by have:=List.mem_range'_1.1 hk;exact h k (by omega) (by omega) hDk
end
section
variable{P:Program}{GT:Nat->Option (List AV)}{ops:Array Oper}
theorem Xfe:∀{os:List Oper} {zq:List AOper},Xb7 P GT ops os zq=true->os.length=zq.length/\∀(i:Nat) (o:Oper),os[i]?=some o->∃ao,zq[i]?=some ao/\Xb1 P GT ops o ao=true
 |[],[],_=>⟨rfl,fun i o h=>by simp at h⟩
 |[],_::_,h=>by simp[Xb7]at h
 |_::_,[],h=>by simp[Xb7]at h
 |o::os,ao::zq,h=>by
  simp only[Xb7,Bool.and_eq_true]at h;obtain⟨h1,h2⟩:=Xfe h.2;refine⟨by simp[h1],fun i o' hi=>?_⟩;cases i with
  |zero=>simp at hi;subst hi;exact⟨ao,rfl,h.1⟩
  |succ i=>simp at hi;simpa using h2 i o' hi
theorem Xl4{ms:List Nat}{k:Nat}:∀(l:List Edge) (s:Nat),(l.foldl (fun s e=>if Region.binds .any e then s|||2 ^ e.on|||ms.getD e.on 0 else s) s).testBit k=true->
  s.testBit k=true\/∃e∈l,Region.binds .any e=true/\(k=e.on\/(ms.getD e.on 0).testBit k=true)
 |[],s,h=>.inl h
 |e::l,s,h=>by
  simp only[List.foldl_cons]at h;rcases Xl4 l _ h with h|⟨e',he',h⟩
  ·split at h
   ·rename_i hb;simp only[Nat.testBit_or,Bool.or_eq_true,Nat.testBit_two_pow,decide_eq_true_eq]at h;rcases h with(h|h)|h
    ·exact .inl h
    ·exact .inr ⟨e,by simp,hb,.inl h.symm⟩
    ·exact .inr ⟨e,by simp,hb,.inr h⟩
   ·exact .inl h
  ·exact .inr ⟨e',by simp[he'],h⟩
theorem Xff:∀{os:List Oper} {zq:List (AOper×Nat)} {i:Nat} {ms:List Nat},Xfg ops i os zq ms=true->ms.length=i->∀(j:Nat) (o:Oper) (ao:AOper) (m:Nat),os[j]?=some o->zq[j]?=some (ao,m)->
  (∀k,m.testBit k=true->∃e∈o.after,Region.binds .any e=true/\(k=e.on\/((ms++zq.map (·.2)).getD e.on 0).testBit k=true))/\∀e∈o.after,Region.binds .any e=true->e.on<i+j
 |[],_,i,ms,_,_,j,o,ao,m,h1,_=>by simp at h1
 |_::_,[],i,ms,_,_,j,o,ao,m,_,h2=>by simp at h2
 |o::os,(ao,m)::zq,i,ms,h,hl,j,o',ao',m',h1,h2=>by
  simp only[Xfg,Bool.and_eq_true,decide_eq_true_eq,Array.all_eq_true_iff_forall_mem,Bool.or_eq_true,Bool.not_eq_true']at h;obtain⟨⟨hm,hb⟩,h⟩:=h
  have hb':∀e∈o.after,Region.binds .any e=true->e.on<i:=fun e he hbe=>by
   rcases hb e he with h|h
   ·rw[hbe]at h;cases h
   ·exact h
  cases j with
  |zero=>
   simp at h1 h2;obtain⟨rfl,rfl⟩:=h2;subst h1;refine⟨fun k hk=>?_,fun e he hbe=>by simpa using hb' e he hbe⟩;rw[hm,<-Array.foldl_toList]at hk;rcases Xl4 _ _ hk with h0|⟨e,he,hbe,hc⟩
   ·simp at h0
   ·refine⟨e,by simpa using he,hbe,hc.imp id fun hc=>?_⟩;have hlt:=hb' e (by simpa using he) hbe;rw[List.getD_eq_getElem?_getD,List.getElem?_append_left (by omega),<-List.getD_eq_getElem?_getD];exact hc
  |succ j=>
   simp only[List.getElem?_cons_succ]at h1 h2;have:=Xff h (by simp[hl]) j o' ao' m' h1 h2;refine⟨fun k hk=>?_,fun e he hbe=>by have:=this.2 e he hbe;omega⟩;simpa using this.1 k hk
theorem Xcz{zq:List (AOper×Nat)}(h:Xke zq=true){i j:Nat}{y x:AOper×Nat}(hi:zq[i]?=some y)(hj:zq[j]?=some x)(hij:i<j):
  x.2.testBit i=true\/((Xak x.1.op=true->Xak y.1.op=true->False)/\(∀d,y.1.dst=some d->d∉x.1.looks/\x.1.dst≠some d)/\∀d,x.1.dst=some d->d∉y.1.looks):=by
 simp only[Xke,List.all_eq_true]at h;have h1:=h (x,j) (List.mem_zipIdx_iff_getElem?.2 (by simpa using hj)) (y,i) (List.mem_zipIdx_iff_getElem?.2 (by simpa using hi));simp only[Bool.or_eq_true,Bool.and_eq_true,Bool.not_eq_true',decide_eq_false_iff_not]at h1;rcases h1 with(h1|h1)|⟨⟨h1,h2⟩,h3⟩
 ·exact absurd hij h1
 ·exact .inl h1
 ·refine .inr ⟨fun a b=>by rw[a,b]at h1;simp at h1,fun d hd=>?_,fun d hd=>?_⟩
  ·rw[hd]at h2;simpa using h2
  ·rw[hd]at h3;simpa using h3
end
end Go.Proofs.YP
