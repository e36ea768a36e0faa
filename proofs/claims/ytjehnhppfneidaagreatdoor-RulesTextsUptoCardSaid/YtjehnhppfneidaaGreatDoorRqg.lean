/- Texts that the laws of the seat rest on: an abstract machine, what the functions answer in it, plain laws. -/
import Derived.Test.YtjehnhppfneidaaGreatDoorRqb
set_option linter.unusedVariables false
set_option linter.unusedSimpArgs false
set_option linter.unusedSectionVars false
set_option maxHeartbeats 8000000
set_option maxRecDepth 20000
namespace Go.Proofs.YP
open Go
def Xce{α:Type}(a:α):α:=a
def Xi6{α:Type}(a:α):α:=a
theorem Xbd{α:Type}(a:α):Xce a=a:=rfl
@[simp ↓] theorem Xvw{α:Type}(a:α):Xce a=Xi6 a:=congrFun (f:=Xce) (g:=Xi6) (funext fun _=>rfl) a
@[simp] theorem Xvx{α:Type}(a:α):Xi6 a=a:=congrFun (f:=Xi6) (g:=fun a=>a) (funext fun _=>rfl) a
@[simp] theorem Xo1(a b:Int):(a==b)=decide (a=b):=by by_cases h:a=b<;>simp[h]
@[simp] theorem Xt7(a b:Int):(a !=b)= !decide (a=b):=by by_cases h:a=b<;>simp[h]
theorem nr{α:Type}{a b:α}(h:a=b):a=b:=h
abbrev Q4:=AExit->List AV->List Nat->St->Prop
abbrev QR:=Rt (List AV)->St->Prop
def obP{α:Type}(x:Option α)(f:α->Prop):Prop:=∃a,x=some a/\f a
@[congr] theorem Xyj{α:Type}{x x':Option α}{f:α->Prop}(h:∀_:Unit,Xce x=x'):obP x f=obP x' f:=by rw[<-h (),Xbd]
@[simp] theorem Xfp{α:Type}(a:α)(f:α->Prop):obP (some a) f=f a:=by simp[obP]
@[simp] theorem Ja1{α:Type}(f:α->Prop):obP none f=False:=by simp[obP]
theorem Xac{α:Type}{x:Option α}{f P:α->Prop}(h:obP x P)(hf:∀a,P a->f a):obP x f:=by obtain⟨a,e,p⟩:=h;exact⟨a,e,hf a p⟩
def wIf(b:Bool)(A B:Prop):Prop:=if b then A else B
@[congr] theorem Xwh{b b':Bool}{A B:Prop}(h:∀_:Unit,Xce b=b'):wIf b A B=wIf b' A B:=by rw[<-h (),Xbd]
@[simp] theorem Xqy(A B:Prop):wIf true A B=A:=by simp[wIf]
@[simp] theorem Xwg(A B:Prop):wIf false A B=B:=by simp[wIf]
theorem Xat{b:Bool}{A B:Prop}(h1:b=true->A)(h2:b=false->B):wIf b A B:=by cases b<;>simp_all
@[simp] theorem Jcm(b:Bool)(A B:Prop):wIf (!b) A B=wIf b B A:=by cases b<;>simp
theorem Xaq{p:Prop}[Decidable p]{A B:Prop}(h1:p->A)(h2:¬p->B):wIf (decide p) A B:=by
 by_cases h:p
 ·simpa [h]using h1 h
 ·simpa [h]using h2 h
def onB(v:AV)(b:Bool)(A B:Prop):Prop:=match v with
 |.bool c=>wIf (c==b) A B
 |_=>B
@[congr] theorem Xyg{v v':AV}{b:Bool}{A B:Prop}(h:∀_:Unit,Xce v=v'):onB v b A B=onB v' b A B:=by rw[<-h (),Xbd]
@[simp] theorem Xlt(c b:Bool)(A B:Prop):onB (.bool c) b A B=wIf (c==b) A B:=rfl
@[simp] theorem Xyf(b:Bool)(A B:Prop):onB AV.undef b A B=B:=rfl
def cnd(v:AV)(A B:Prop):Prop:=match v with
 |.bool b=>wIf b A B
 |_=>False
@[congr] theorem Xzu{v v':AV}{A B:Prop}(h:∀_:Unit,Xce v=v'):cnd v A B=cnd v' A B:=by rw[<-h (),Xbd]
@[simp] theorem Jbw(b:Bool)(A B:Prop):cnd (.bool b) A B=wIf b A B:=rfl
theorem Xdj(s:List AV)(d:Nat)(v:AV)(j:Nat):lk (s.set d v) j=if d=j/\d<s.length then v else lk s j:=by
 unfold lk;rw[List.getElem?_set];by_cases h:d=j
 ·subst h;by_cases h2:d<s.length
  ·simp[h2]
  ·simp[h2,List.getElem?_eq_none (Nat.le_of_not_lt h2)]
 ·simp[h]
theorem Xrd{args:List AV}{n i:Nat}{a:AV}(h:args[i]?=some a):lk (args++List.replicate n AV.undef) i=a:=by unfold lk;rw[List.getElem?_append_left (uB h),h];rfl
section
variable(C:CSem)(E:Env)
def WO(ops:List AOper)(s:List AV)(st:St)(Q:QR):Prop:=obP (aOps tabs C E ops s st) fun p=>Q p.1 p.2
def nxt(d:Option Nat)(r:List AOper)(s:List AV)(Q:QR):Rt AV×St->Prop
 |(.ok v,st')=>WO C E r (put s d v) st' Q
 |(.pan v,st')=>Q (.pan v) st'
end
section
variable{C:CSem}{E:Env}
@[congr] theorem Jce{ops:List AOper}{s s':List AV}{st st':St}{Q:QR}(h1:∀_:Unit,Xce s=s')(h2:st=st'):WO C E ops s st Q=WO C E ops s' st' Q:=by rw[<-h1 (),h2,Xbd]
@[simp ↓] theorem Ja2(d:Nat)(r:List AOper)(s:List AV)(Q:QR)(v:AV)(st:St):nxt C E (some d) r s Q (.ok v,st)=WO C E r (s.set d v) st Q:=rfl
@[simp ↓] theorem Ja3(r:List AOper)(s:List AV)(Q:QR)(v:AV)(st:St):nxt C E none r s Q (.ok v,st)=WO C E r s st Q:=rfl
@[simp ↓] theorem Jdn(d:Option Nat)(r:List AOper)(s:List AV)(Q:QR)(v:AV)(st:St):nxt C E d r s Q (.pan v,st)=Q (.pan v) st:=rfl
@[simp ↓] theorem Ji4(s:List AV)(st:St)(Q:QR):WO C E [] s st Q=Q (.ok s) st:=by simp[WO,aOps]
@[simp ↓] theorem Jhl(d:Option Nat)(op:AOp)(r:List AOper)(s:List AV)(st:St)(Q:QR):WO C E (⟨d,op,none⟩::r) s st Q=obP (aExec tabs C E op s st) (nxt C E d r s Q):=by unfold WO;rw[aOps,Xie];simp only[Xbz,↓reduceIte];rcases aExec tabs C E op s st with _|⟨v|v,st'⟩<;>simp[nxt,WO,obP]
@[simp ↓] theorem Jcd(d:Option Nat)(op:AOp)(t:Nat)(b:Bool)(r:List AOper)(s:List AV)(st:St)(Q:QR):WO C E (⟨d,op,some (t,b)⟩::r) s st Q=onB (lk s t) b (obP (aExec tabs C E op s st) (nxt C E d r s Q)) (WO C E r (put s d AV.undef) st Q):=by
 unfold WO;rw[aOps,Xie]
 have hw:Xbz ⟨d,op,some (t,b)⟩ s=match lk s t with|.bool c=>c==b|_=>false:=by
  unfold lk;show(match s[t]? with|some (.bool c)=>c==b|_=>false)=_;rcases s[t]? with _|v
  ·rfl
  ·cases v<;>rfl
 rw[hw];generalize lk s t=v;cases v
 case bool c=>
  simp only[Xlt];cases c==b
  ·simp[obP,WO]
  ·simp only[↓reduceIte,Xqy];rcases aExec tabs C E op s st with _|⟨v|v,st'⟩<;>simp[nxt,WO,obP]
 all_goals simp[onB,WO,obP]
@[simp] theorem Jar(s:List AV)(d:Nat)(v:AV):put s (some d) v=s.set d v:=rfl
@[simp] theorem Jas(s:List AV)(v:AV):put s none v=s:=rfl
end
section
variable(C:CSem)(E:Env)(lf:Nat)(rd:Option Nat)
def WP(c:ACode)(s:List AV)(m:List Nat)(st:St)(Q:Q4):Prop:=obP (aRun tabs C E lf rd c s m st) fun p=>Q p.1 p.2.1 p.2.2.1 p.2.2.2
def thn(b:ACode)(Q:Q4):Q4:=fun x s m st=>match x with
 |.nrm=>WP C E lf rd b s m st Q
 |y=>Q y s m st
def blkQ(id:Nat)(Q:Q4):Q4:=fun x s m st=>match x with
 |.exit j=>if j=id then Q .nrm s m st else Q (.exit j) s m st
 |y=>Q y s m st
def regQ(s:List AV)(m:List Nat)(Q:Q4):QR:=fun r st=>match r with
 |.ok s'=>Q .nrm s' m st
 |.pan v=>Q (.pan v) s m st
def lopQ(P:Nat->List AV->List Nat->St->Prop)(n:Nat)(Q:Q4):Q4:=fun x s m st=>match x with
 |.nrm=> ∃n',n'<n/\P n' s m st
 |y=>Q y s m st
end
section
variable{C:CSem}{E:Env}{lf:Nat}{rd:Option Nat}
@[congr] theorem Jcb{c:ACode}{s s':List AV}{m:List Nat}{st st':St}{Q:Q4}(h1:∀_:Unit,Xce s=s')(h2:st=st'):WP C E lf rd c s m st Q=WP C E lf rd c s' m st' Q:=by rw[<-h1 (),h2,Xbd]
@[simp ↓] theorem Xtg(b:ACode)(Q:Q4)(s m st):thn C E lf rd b Q .nrm s m st=WP C E lf rd b s m st Q:=rfl
@[simp ↓] theorem Jcs(b:ACode)(Q:Q4)(s m st):thn C E lf rd b Q .ret s m st=Q .ret s m st:=rfl
@[simp ↓] theorem Jam(b:ACode)(Q:Q4)(i s m st):thn C E lf rd b Q (.exit i) s m st=Q (.exit i) s m st:=rfl
@[simp ↓] theorem Jct(b:ACode)(Q:Q4)(v s m st):thn C E lf rd b Q (.pan v) s m st=Q (.pan v) s m st:=rfl
@[simp ↓] theorem Xmj(id:Nat)(Q:Q4)(s m st):blkQ id Q .nrm s m st=Q .nrm s m st:=rfl
@[simp ↓] theorem Jb0(id:Nat)(Q:Q4)(s m st):blkQ id Q .ret s m st=Q .ret s m st:=rfl
@[simp ↓] theorem Jb1(id:Nat)(Q:Q4)(v s m st):blkQ id Q (.pan v) s m st=Q (.pan v) s m st:=rfl
@[simp ↓] theorem Jad(id:Nat)(Q:Q4)(s m st):blkQ id Q (.exit id) s m st=Q .nrm s m st:=by simp[blkQ]
theorem Xa1(id j:Nat)(Q:Q4)(s m st):blkQ id Q (.exit j) s m st=if j=id then Q .nrm s m st else Q (.exit j) s m st:=rfl
@[simp ↓] theorem Jc7(s s':List AV)(m:List Nat)(Q:Q4)(st:St):regQ s m Q (.ok s') st=Q .nrm s' m st:=rfl
@[simp ↓] theorem Jap(s:List AV)(v:AV)(m:List Nat)(Q:Q4)(st:St):regQ s m Q (.pan v) st=Q (.pan v) s m st:=rfl
@[congr] theorem Xvv{P}{n:Nat}{Q:Q4}{x s s' m}{st st':St}(h:∀_:Unit,Xce s=s')(h2:st=st'):lopQ P n Q x s m st=lopQ P n Q x s' m st':=by rw[<-h (),h2,Xbd]
@[simp ↓] theorem Jba(P)(n:Nat)(Q:Q4)(s m st):lopQ P n Q .ret s m st=Q .ret s m st:=rfl
@[simp ↓] theorem Xyo(P)(n:Nat)(Q:Q4)(i s m st):lopQ P n Q (.exit i) s m st=Q (.exit i) s m st:=rfl
@[simp ↓] theorem Jbb(P)(n:Nat)(Q:Q4)(v s m st):lopQ P n Q (.pan v) s m st=Q (.pan v) s m st:=rfl
@[simp ↓] theorem Jhh(s m st)(Q:Q4):WP C E lf rd .skip s m st Q=Q .nrm s m st:=by simp[WP,aRun]
@[simp ↓] theorem Ji2(s m st)(Q:Q4):WP C E lf rd .ret s m st Q=Q .ret s m st:=by simp[WP,aRun]
@[simp ↓] theorem Jhi(i s m st)(Q:Q4):WP C E lf rd (.exit i) s m st Q=Q (.exit i) s m st:=by simp[WP,aRun]
@[simp ↓] theorem Jca(b s m st)(Q:Q4):WP C E lf rd (.scope b) s m st Q=WP C E lf rd b s m st Q:=by simp[WP,aRun]
@[simp ↓] theorem Xmn(a b s m st)(Q:Q4):WP C E lf rd (.seq a b) s m st Q=WP C E lf rd a s m st (thn C E lf rd b Q):=by
 unfold WP;rw[aRun];rcases aRun tabs C E lf rd a s m st with _|⟨x,s',m',st'⟩
 ·simp
 ·cases x<;>simp[thn,WP]
@[simp ↓] theorem Jcc(id b s m st)(Q:Q4):WP C E lf rd (.block id b) s m st Q=WP C E lf rd b s m st (blkQ id Q):=by
 unfold WP;rw[aRun];rcases aRun tabs C E lf rd b s m st with _|⟨x,s',m',st'⟩
 ·simp
 ·cases x with
  |exit j=>simp only[Xam,blkQ,Xfp];split<;>simp
  |_=>simp[blkQ]
@[simp ↓] theorem Ji3(ops s m st)(Q:Q4):WP C E lf rd (.reg ops) s m st Q=WO C E ops s st (regQ s m Q):=by unfold WP WO;rw[aRun];rcases aOps tabs C E ops s st with _|⟨v|v,st'⟩<;>simp[regQ]
@[simp ↓] theorem Jhk(c x y s m st)(Q:Q4):WP C E lf rd (.cond c x y) s m st Q=cnd (evA tabs s c) (WP C E lf rd x s m st Q) (WP C E lf rd y s m st Q):=by unfold WP;rw[aRun];generalize evA tabs s c=v;cases v<;>simp[cnd];rename_i b;cases b<;>simp
theorem Xjj{c s m st}{Q Q':Q4}(h:WP C E lf rd c s m st Q)(hq:∀x s m st,Q x s m st->Q' x s m st):WP C E lf rd c s m st Q':=
 Xac h fun _ p=>hq _ _ _ _ p
theorem Xau{b:ACode}{s m st}{Q:Q4}(P:Nat->List AV->List Nat->St->Prop)(n:Nat)(hn:n<lf)(h0:P n s m st)
  (hs:∀n s m st,P n s m st->WP C E lf rd b s m st (lopQ P n Q)):WP C E lf rd (.loop b) s m st Q:=by
 have key:∀k n s m st,n<k->P n s m st->obP (iter (aRun tabs C E lf rd b) k s m st) fun p=>Q p.1 p.2.1 p.2.2.1 p.2.2.2:=by
  intro k;induction k with
  |zero=>intro n s m st h;omega
  |succ k ih=>
   intro n s m st h hp;obtain⟨⟨x,s',m',st'⟩,e,q⟩:=hs n s m st hp;unfold iter;rw[e,Xam];cases x with
   |nrm=>
    obtain⟨n',hn',hp'⟩:=q;exact ih n' s' m' st' (by omega) hp'
   |_=>exact⟨_,rfl,q⟩
 unfold WP;rw[aRun];exact key lf n s m st hn h0
end
section
variable{C:CSem}{E:Env}{s:List AV}{st:St}
@[simp] theorem Jjy(n:Nat):evA tabs s (.t n)=lk s n:=nr rfl
@[simp] theorem Jjz(v:AV):evA tabs s (.c v)=v:=nr rfl
theorem Xrw(n:Nat):evA tabs s (.g n)=match tabs n with|some c=>.eptr c 0|none=>AV.undef:=nr rfl
@[simp ↓] theorem Jjv(x):aExec tabs C E (.mv x) s st=some (.ok (evA tabs s x),st):=nr rfl
def Xq5(c x y:AV)(st:St):Option (Rt AV×St):=match c with
 |.bool b=>some (.ok (if b then x else y),st)
 |_=>none
@[simp] theorem Xvq(b:Bool)(x y:AV)(st:St):Xq5 (.bool b) x y st=some (.ok (if b then x else y),st):=nr rfl
@[simp ↓] theorem Xuy(c x y):aExec tabs C E (.pick c x y) s st=Xq5 (evA tabs s c) (evA tabs s x) (evA tabs s y) st:=by simp only[aExec,aOp,Xq5,Xas];cases evA tabs s c<;>rfl
@[simp ↓] theorem Jbr(ty z):aExec tabs C E (.alloc ty z) s st=Xar (z.all AV.one) (some (.ok (.ptr st.H.length 0),{st with H:=st.H++ [.cells ty z]})):=nr rfl
@[simp ↓] theorem Jiy(ty x):aExec tabs C E (.box ty x) s st=Xar ((evA tabs s x).cells.all AV.one) (some (.ok (.ptr st.H.length 0),{st with H:=st.H++ [.cells ty (evA tabs s x).cells]})):=nr rfl
@[simp ↓] theorem Xrs(z ps):aExec tabs C E (.build z ps) s st=Xa6 (Xap z (ps.map fun p=>(p.1,p.2.1,(evA tabs s p.2.2).cells))) fun cs=>some (.ok (.agg cs),st):=by simp only[aExec,aOp];cases Xap z (ps.map fun p=>(p.1,p.2.1,(evA tabs s p.2.2).cells))<;>rfl
@[simp ↓] theorem Xzk(own sz n z ps):aExec tabs C E (.bsl own sz n z ps) s st=Xa6 (Xap z (ps.map fun p=>(p.1,p.2.1,(evA tabs s p.2.2).cells))) fun cs=>
      if own then okv (.sl (some st.I.length) n (AV.finL 0 cs)) {st with I:=st.I++ [(n,sz)]}else okv (.sl none n (AV.finL 0 cs)) st:=nr rfl
@[simp ↓] theorem Jev(k x):aExec tabs C E (.ld k x) s st=okOf (loadA st k (evA tabs s x)) st:=nr rfl
@[simp ↓] theorem Jet(n p x):aExec tabs C E (.st n p x) s st=Xa6 (Xag E st n (evA tabs s p) (evA tabs s x)) fun st'=>some (.ok AV.undef,st'):=nr rfl
def nckA(v:AV)(st:St):Option (Rt AV×St):=match v with
 |.ptr b o=>some (.ok (.ptr b o),st)
 |.eptr c o=>some (.ok (.eptr c o),st)
 |_=>none
@[simp] theorem Ja8(b o st):nckA (.ptr b o) st=some (.ok (.ptr b o),st):=nr rfl
@[simp] theorem Xyk(b o st):nckA (.eptr b o) st=some (.ok (.eptr b o),st):=nr rfl
@[simp ↓] theorem Jil(x):aExec tabs C E (.nck x) s st=nckA (evA tabs s x) st:=nr rfl
def faA(off:Nat)(v:AV)(st:St):Option (Rt AV×St):=match v with
 |.ptr b o=>some (.ok (.ptr b (o+off)),st)
 |.eptr c o=>some (.ok (.eptr c (o+off)),st)
 |_=>none
@[simp] theorem Jd4(off b o st):faA off (.ptr b o) st=some (.ok (.ptr b (o+off)),st):=nr rfl
@[simp] theorem Jbo(off b o st):faA off (.eptr b o) st=some (.ok (.eptr b (o+off)),st):=nr rfl
@[simp ↓] theorem Jjx(off x):aExec tabs C E (.fa off x) s st=faA off (evA tabs s x) st:=nr rfl
def iaA(sz:Nat)(v i:AV)(st:St):Option (Rt AV×St):=match v,i with
  |.sl _ n cs,.int _ j=>Xar (decide (0<=j) && decide (j<n)) (okv (.eptr cs (j.toNat*sz)) st)
  |.hs b n,.int _ j=>Xar (decide (0<=j) && decide (j<n)) (okv (.ptr b (j.toNat*sz)) st)
  |_,_=>none
@[simp] theorem Jih(sz o n cs k)(j:Int)(st):iaA sz (.sl o n cs) (.int k j) st=Xar (decide (0<=j) && decide (j<n)) (some (.ok (.eptr cs (j.toNat*sz)),st)):=nr rfl
@[simp] theorem Jii(sz b n k)(j:Int)(st):iaA sz (.hs b n) (.int k j) st=Xar (decide (0<=j) && decide (j<n)) (some (.ok (.ptr b (j.toNat*sz)),st)):=nr rfl
@[simp ↓] theorem Jjw(sz x i):aExec tabs C E (.ia sz x i) s st=iaA sz (evA tabs s x) (evA tabs s i) st:=nr rfl
def iaaA(len sz:Nat)(v i:AV)(st:St):Option (Rt AV×St):=match v,i with
  |.ptr b o,.int _ j=>Xar (decide (0<=j) && decide (j<len)) (okv (.ptr b (o+j.toNat*sz)) st)
  |.eptr c o,.int _ j=>Xar (decide (0<=j) && decide (j<len)) (okv (.eptr c (o+j.toNat*sz)) st)
  |_,_=>none
@[simp] theorem Jbm(len sz b o k)(j:Int)(st):iaaA len sz (.ptr b o) (.int k j) st=Xar (decide (0<=j) && decide (j<len)) (some (.ok (.ptr b (o+j.toNat*sz)),st)):=nr rfl
@[simp] theorem Xyy(len sz b o k)(j:Int)(st):iaaA len sz (.eptr b o) (.int k j) st=Xar (decide (0<=j) && decide (j<len)) (some (.ok (.eptr b (o+j.toNat*sz)),st)):=nr rfl
@[simp ↓] theorem Jis(len sz x i):aExec tabs C E (.iaa len sz x i) s st=iaaA len sz (evA tabs s x) (evA tabs s i) st:=nr rfl
def ixsA(v i:AV)(st:St):Option (Rt AV×St):=match v,i with
  |.str s,.int _ j=>Xar (decide (0<=j)) (okOf ((s.data[j.toNat]?).map fun b=>.int .u8 b.toNat) st)
  |_,_=>none
@[simp] theorem Xrl(t k)(j:Int)(st):ixsA (.str t) (.int k j) st=Xar (decide (0<=j)) (okOf ((t.data[j.toNat]?).map fun b=>.int .u8 b.toNat) st):=nr rfl
@[simp ↓] theorem Xzj(x i):aExec tabs C E (.ixs x i) s st=ixsA (evA tabs s x) (evA tabs s i) st:=nr rfl
def fldA(off:Nat)(k:Option Nat)(v:AV)(st:St):Option (Rt AV×St):=match v with
  |.agg cs=>okOf (rdC k cs off) st
  |_=>none
@[simp] theorem Jbn(off k cs st):fldA off k (.agg cs) st=okOf (rdC k cs off) st:=nr rfl
@[simp ↓] theorem Jiu(off k x):aExec tabs C E (.fld off k x) s st=fldA off k (evA tabs s x) st:=nr rfl
def extA(n:Nat)(v:AV)(st:St):Option (Rt AV×St):=match v with
  |.tup vs=>okOf vs[n]? st
  |_=>none
@[simp] theorem Jbp(n vs st):extA n (.tup vs) st=okOf vs[n]? st:=nr rfl
@[simp ↓] theorem Jiv(n x):aExec tabs C E (.ext n x) s st=extA n (evA tabs s x) st:=nr rfl
@[simp ↓] theorem Xzl(K op x y):aExec tabs C E (.bin K op x y) s st=okOf (binA K op (evA tabs s x) (evA tabs s y)) st:=nr rfl
@[simp ↓] theorem Jes(op x):aExec tabs C E (.un op x) s st=okOf (unA op (evA tabs s x)) st:=nr rfl
def cviA(k:IntKind)(v:AV)(st:St):Option (Rt AV×St):=match v with
  |.int _ n=>some (.ok (.int k (k.wrap n)),st)
  |_=>none
@[simp] theorem Jbv(k j n st):cviA k (.int j n) st=some (.ok (.int k (k.wrap n)),st):=nr rfl
@[simp ↓] theorem Jix(k x):aExec tabs C E (.cvi k x) s st=cviA k (evA tabs s x) st:=nr rfl
def cvsA(v:AV)(st:St):Option (Rt AV×St):=match v with
  |.nils=>okv (.str ⟨#[]⟩) st
  |.sl _ n cs=>Xar (decide (cs.length=n)) (Xa6 (Xel cs) fun l=>okv (.str ⟨l.toArray⟩) st)
  |_=>none
@[simp ↓] theorem Jiw(x):aExec tabs C E (.cvs x) s st=cvsA (evA tabs s x) st:=nr rfl
def mksA(sz bytes:Nat)(z:List AV)(l c:AV)(st:St):Option (Rt AV×St):=match l,c with
    |.int .i64 a,.int .i64 b=>Xar (decide (a=0) && decide (0<=b) && decide (b<=1073741824) && decide (bytes<=65536) && decide (z.length=sz))
        (okv (.sl (some st.I.length) 0 []) {st with I:=st.I++ [(0,sz)]})
    |_,_=>none
@[simp] theorem Ja9(sz bytes z)(a b:Int)(st):mksA sz bytes z (.int .i64 a) (.int .i64 b) st=Xar (decide (a=0) && decide (0<=b) && decide (b<=1073741824) && decide (bytes<=65536) && decide (z.length=sz))
        (some (.ok (.sl (some st.I.length) 0 []),{st with I:=st.I++ [(0,sz)]})):=nr rfl
@[simp ↓] theorem Jim(sz bytes z l c):aExec tabs C E (.mks sz bytes z l c) s st=mksA sz bytes z (evA tabs s l) (evA tabs s c) st:=nr rfl
def mkhA(ty bytes:Nat)(z:List AV)(l c:AV)(st:St):Option (Rt AV×St):=match l,c with
    |.int .i64 a,.int .i64 b=>Xar (decide (a=b) && decide (0<=b) && decide (b<=1048576) && decide (bytes<=65536) && z.all AV.one)
        (okv (.hs st.H.length b.toNat) {st with H:=st.H++ [.cells ty (List.replicate b.toNat z).flatten]})
    |_,_=>none
@[simp ↓] theorem Jip(ty bytes z l c):aExec tabs C E (.mkh ty bytes z l c) s st=mkhA ty bytes z (evA tabs s l) (evA tabs s c) st:=nr rfl
def frzA(E:Env)(v:AV)(st:St):Option (Rt AV×St):=match v with
  |.hs b n=>
   match st.H[b]? with
   |some (.cells _ c)=>Xar (decide (E.rob<=b)) (okv (.sl none n (AV.finL 0 c)) {st with H:=st.H.set b .opq})
   |_=>none
  |_=>none
@[simp ↓] theorem Jit(x):aExec tabs C E (.frz x) s st=frzA E (evA tabs s x) st:=nr rfl
@[simp ↓] theorem Xzh(sz x lo hi):aExec tabs C E (.slc sz x lo hi) s st=Xa6 (optN (evA tabs s) 0 lo) fun a=>Xa6 (optN (evA tabs s) (lenN (evA tabs s x)) hi) fun b=>okOf (slcA sz (evA tabs s x) a b) st:=nr rfl
@[simp ↓] theorem Xzi(str x):aExec tabs C E (.len str x) s st=okOf (lenA str (evA tabs s x)) st:=nr rfl
@[simp ↓] theorem Xzm(sz bytes x y):aExec tabs C E (.app sz bytes x y) s st=Xa6 (appA E st sz bytes (evA tabs s x) (evA tabs s y)) fun p=>some (.ok p.1,p.2):=nr rfl
@[simp ↓] theorem Jew(sz bytes x y v i):aExec tabs C E (.appw sz bytes x y v i) s st=Xar (Xhf sz (evA tabs s x) (evA tabs s y) (evA tabs s i)) (Xa6 (appA E st sz bytes (evA tabs s x) (.sl none 1 (evA tabs s v).cells)) fun p=>some (.ok p.1,p.2)):=nr rfl
def Xt0(x y:AV)(st:St):Option (Rt AV×St):=match x,y with
  |.int k a,.int _ b=>okv (.int k (if b<a then b else a)) st
  |_,_=>none
@[simp] theorem Xym(k j)(a b:Int)(st):Xt0 (.int k a) (.int j b) st=some (.ok (.int k (if b<a then b else a)),st):=nr rfl
@[simp ↓] theorem Jeu(x y):aExec tabs C E (.mini x y) s st=Xt0 (evA tabs s x) (evA tabs s y) st:=nr rfl
@[simp ↓] theorem Jio(t x):aExec tabs C E (.mki t x) s st=some (.ok (.iface t (evA tabs s x)),st):=nr rfl
@[simp ↓] theorem Jiq(f x y):aExec tabs C E (.mkf f x y) s st=some (.ok (.fn f (x.map (evA tabs s)) (y.map (evA tabs s))),st):=nr rfl
@[simp ↓] theorem Jin:aExec tabs C E .mkm s st=some (.ok (.map st.H.length),{st with H:=st.H++ [.map []]}):=nr rfl
def lkpA(str:Bool)(z:AV)(ok:Bool)(m k:AV)(st:St):Option (Rt AV×St):=match m with
    |.map b=>
      match st.H[b]? with
      |some (.map es)=>Xar (Xc7 str k) (Xa6 (Xew str k es) fun r=>
          let v:=r.getD z
          okv (if ok then .tup [v,.bool r.isSome]else v) st)
      |_=>none
    |_=>none
@[simp ↓] theorem Jir(str z ok m k):aExec tabs C E (.lkp str z ok m k) s st=lkpA str z ok (evA tabs s m) (evA tabs s k) st:=nr rfl
def updB(E:Env)(str:Bool)(m k v:AV)(st:St):Option (Rt AV×St):=match m with
    |.map b=>
      match st.H[b]? with
      |some (.map es)=>Xar (Xc7 str k && k.one && Xaf E b [] [k,v]) (Xa6 (updA str k v es) fun es'=>
          okv AV.undef {st with H:=st.H.set b (.map es')})
      |_=>none
    |_=>none
@[simp ↓] theorem Jij(str m k v):aExec tabs C E (.upd str m k v) s st=updB E str (evA tabs s m) (evA tabs s k) (evA tabs s v) st:=nr rfl
def taA(t:Nat)(ok:Bool)(z x:AV)(st:St):Option (Rt AV×St):=match x with
  |.iface u v=>if u=t then okv (if ok then .tup [v,.bool true]else v) st else Xar ok (okv (.tup [z,.bool false]) st)
  |.nili=>Xar ok (okv (.tup [z,.bool false]) st)
  |_=>none
@[simp ↓] theorem Jju(t ok z x):aExec tabs C E (.ta t ok z x) s st=taA t ok z (evA tabs s x) st:=nr rfl
def panA(x:AV)(st:St):Option (Rt AV×St):=match x with
  |.iface t v=>some (.pan (.iface t v),st)
  |_=>none
@[simp] theorem Xvr(t v st):panA (.iface t v) st=some (.pan (.iface t v),st):=nr rfl
@[simp ↓] theorem Jik(x):aExec tabs C E (.pan x) s st=panA (evA tabs s x) st:=nr rfl
@[simp ↓] theorem Xuz(tr f args):aExec tabs C E (.call tr f args) s st=doCall C E tr (.fn f) (args.map (evA tabs s)) st:=nr rfl
def Xp7(C:CSem)(E:Env)(tr:Tr)(f:AV)(args:List AV)(st:St):Option (Rt AV×St):=match f with
  |.fn f a b=>doCall C E tr (.fn f) (a++args++b) st
  |.yld b=>doCall C E tr (.yld b) args st
  |_=>none
@[simp] theorem Xz5(tr f a b args st):Xp7 C E tr (.fn f a b) args st=doCall C E tr (.fn f) (a++args++b) st:=nr rfl
@[simp] theorem Xv7(tr b args st):Xp7 C E tr (.yld b) args st=doCall C E tr (.yld b) args st:=nr rfl
@[simp ↓] theorem Jbq(tr f args):aExec tabs C E (.callv tr f args) s st=Xp7 C E tr (evA tabs s f) (args.map (evA tabs s)) st:=nr rfl
end
def wG(b:Bool)(A:Prop):Prop:=if b then A else False
@[congr] theorem Jak{b b':Bool}{A:Prop}(h:∀_:Unit,Xce b=b'):wG b A=wG b' A:=by rw[<-h (),Xbd]
@[simp] theorem Jcn(A:Prop):wG true A=A:=by simp[wG]
section
variable(C:CSem)(E:Env)
def WD(i:Nat)(ops:List (AOper×Nat))(ds:List Done)(sts:List (Option Nat×St))(s:List AV)(st:St)(Q:QR):Prop:=
 obP (aDraw tabs C E i ops ds sts s st) fun p=>Q p.1 p.2
def nxtD(k:Nat)(i:Nat)(o:AOper)(m:Nat)(r:List (AOper×Nat))(ds:List Done)(sts:List (Option Nat×St))(s:List AV)(st:St)(Q:QR):Rt AV×St->Prop
 |(.ok v,st')=>match k with
  |2=>wG (ds.all fun d=>m.testBit d.i||sameAt tabs C E d.o d.s st' d.v) (WD C E (i+1) r ds ((some i,st')::sts) (put s o.dst v) st' Q)
  |1=>wG (Xbb tabs C E o s v m sts) (WD C E (i+1) r (⟨i,o,s,v⟩::ds) sts (put s o.dst v) st Q)
  |_=>WD C E (i+1) r ds sts (put s o.dst v) st Q
 |(.pan v,st')=>wG (Xak o.op && Xex tabs C E i r sts s st) (Q (.pan v) st')
def Xa7(op:AOp):Nat:=if Xak op then 2 else if reads op then 1 else 0
end
section
variable{C:CSem}{E:Env}
@[congr] theorem Jch{i ops ds sts}{s s':List AV}{st st':St}{Q:QR}(h1:∀_:Unit,Xce s=s')(h2:st=st'):WD C E i ops ds sts s st Q=WD C E i ops ds sts s' st' Q:=by rw[<-h1 (),h2,Xbd]
theorem Xiu(i:Nat)(o:AOper)(m:Nat)(r ds sts s st)(Q:QR):WD C E i ((o,m)::r) ds sts s st Q=
  if Xbz o s then obP (aExec tabs C E o.op s st) (nxtD C E (Xa7 o.op) i o m r ds sts s st Q)
  else WD C E (i+1) r ds (if Xak o.op then(some i,st)::sts else sts) (put s o.dst AV.undef) st Q:=by
 unfold WD;rw[aDraw];by_cases hw:Xbz o s=true
 ·simp only[hw,↓reduceIte];rcases aExec tabs C E o.op s st with _|⟨v|v,st'⟩
  ·simp
  ·by_cases he:Xak o.op=true
   ·simp only[he,↓reduceIte,Xam,Xfp,nxtD,Xa7];cases List.all ds fun d=>m.testBit d.i||sameAt tabs C E d.o d.s st' d.v<;>simp[wG,WD]
   ·by_cases hr:reads o.op=true
    ·simp only[he,hr,↓reduceIte,Xam,Xfp,nxtD,Xa7,Bool.false_eq_true];cases Xbb tabs C E o s v m sts<;>simp[wG,WD]
    ·simp[he,hr,nxtD,Xa7,WD]
  ·simp only[Xam,Xfp,nxtD];cases Xak o.op && Xex tabs C E i r sts s st<;>simp[wG]
 ·by_cases he:Xak o.op=true<;>simp[hw,he]
@[simp ↓] theorem Ji5(i ds sts s st)(Q:QR):WD C E i [] ds sts s st Q=Q (.ok s) st:=by simp[WD,aDraw]
@[simp ↓] theorem Jhm(i d op m r ds sts s st)(Q:QR):WD C E i ((⟨d,op,none⟩,m)::r) ds sts s st Q=obP (aExec tabs C E op s st) (nxtD C E (Xa7 op) i ⟨d,op,none⟩ m r ds sts s st Q):=by rw[Xiu];simp[Xbz]
@[simp ↓] theorem Jcg(i d op t b m r ds sts s st)(Q:QR):WD C E i ((⟨d,op,some (t,b)⟩,m)::r) ds sts s st Q=onB (lk s t) b (obP (aExec tabs C E op s st) (nxtD C E (Xa7 op) i ⟨d,op,some (t,b)⟩ m r ds sts s st Q)) (WD C E (i+1) r ds (if Xak op then(some i,st)::sts else sts) (put s d AV.undef) st Q):=by
 rw[Xiu]
 have hw:Xbz ⟨d,op,some (t,b)⟩ s=match lk s t with|.bool c=>c==b|_=>false:=by
  unfold lk;show(match s[t]? with|some (.bool c)=>c==b|_=>false)=_;rcases s[t]? with _|v
  ·rfl
  ·cases v<;>rfl
 rw[hw];generalize lk s t=v;cases v;case bool c=>simp only[Xlt];cases c==b<;>simp
 all_goals simp[onB]
@[simp ↓] theorem Xan(i o m r ds sts s st)(Q:QR)(v st'):nxtD C E 2 i o m r ds sts s st Q (.ok v,st')=wG (ds.all fun d=>m.testBit d.i||sameAt tabs C E d.o d.s st' d.v) (WD C E (i+1) r ds ((some i,st')::sts) (put s o.dst v) st' Q):=rfl
@[simp ↓] theorem Ja5(i o m r ds sts s st)(Q:QR)(v st'):nxtD C E 1 i o m r ds sts s st Q (.ok v,st')=wG (Xbb tabs C E o s v m sts) (WD C E (i+1) r (⟨i,o,s,v⟩::ds) sts (put s o.dst v) st Q):=rfl
@[simp ↓] theorem Ja6(i o m r ds sts s st)(Q:QR)(v st'):nxtD C E 0 i o m r ds sts s st Q (.ok v,st')=WD C E (i+1) r ds sts (put s o.dst v) st Q:=rfl
@[simp ↓] theorem Ja4(k i o m r ds sts s st)(Q:QR)(v st'):nxtD C E k i o m r ds sts s st Q (.pan v,st')=wG (Xak o.op && Xex tabs C E i r sts s st) (Q (.pan v) st'):=rfl
@[simp ↓] theorem Jhj{lf rd}(ops s m st)(Q:Q4):WP C E lf rd (.dreg ops) s m st Q=WD C E 0 ops [] [(none,st)] s st (regQ s m Q):=by unfold WP WD;rw[aRun];rcases aDraw tabs C E 0 ops [] [(none,st)] s st with _|⟨v|v,st'⟩<;>simp[regQ]
@[simp] theorem Xvo(o s st v):sameAt tabs C E o s st v=match aExec tabs C E o.op s st with|some (.ok u,_)=>u.beq v|_=>false:=nr rfl
@[simp] theorem Jho(o s v m x):Xbb tabs C E o s v m [x]=true:=by obtain⟨_|e,st⟩:=x<;>simp[Xbb]
@[simp] theorem Jcz(o s v m x r):Xbb tabs C E o s v m ((none,x)::r)=true:=by simp[Xbb]
@[simp] theorem Xav(o s v m e x q st r):Xbb tabs C E o s v m ((some e,x)::(q,st)::r)=(m.testBit e||(sameAt tabs C E o s st v && Xbb tabs C E o s v m ((q,st)::r))):=by simp[Xbb]
@[simp] theorem Jb2(v:AV):v.beq v=true:=v.beq_refl
@[simp ↓] theorem Jji(x):Xa7 (.mv x)=0:=rfl
@[simp ↓] theorem Jdq(c x y):Xa7 (.pick c x y)=0:=rfl
@[simp ↓] theorem Jbh(x y):Xa7 (.alloc x y)=2:=rfl
@[simp ↓] theorem Jie(x y):Xa7 (.box x y)=2:=rfl
@[simp ↓] theorem Jbg(x y):Xa7 (.build x y)=0:=rfl
@[simp ↓] theorem Jds(a b x y):Xa7 (.bsl true a b x y)=2:=rfl
@[simp ↓] theorem Jdt(a b x y):Xa7 (.bsl false a b x y)=0:=rfl
@[simp ↓] theorem Jjj(x y):Xa7 (.ld x y)=1:=rfl
@[simp ↓] theorem Jjh(n x y):Xa7 (.st n x y)=2:=rfl
@[simp ↓] theorem Jhz(x):Xa7 (.nck x)=0:=rfl
@[simp ↓] theorem Jjl(n x):Xa7 (.fa n x)=0:=rfl
@[simp ↓] theorem Jjk(n x y):Xa7 (.ia n x y)=0:=rfl
@[simp ↓] theorem Jh8(k n x y):Xa7 (.iaa k n x y)=0:=rfl
@[simp ↓] theorem Jh7(x y):Xa7 (.ixs x y)=0:=rfl
@[simp ↓] theorem Jia(n k x):Xa7 (.fld n k x)=0:=rfl
@[simp ↓] theorem Jib(n x):Xa7 (.ext n x)=0:=rfl
@[simp ↓] theorem Jif(k o x y):Xa7 (.bin k o x y)=0:=rfl
@[simp ↓] theorem Jjf(o x):Xa7 (.un o x)=0:=rfl
@[simp ↓] theorem Jid(o x):Xa7 (.cvi o x)=0:=rfl
@[simp ↓] theorem Jic(x):Xa7 (.cvs x)=0:=rfl
@[simp ↓] theorem Jh0(a b c d e):Xa7 (.mks a b c d e)=2:=rfl
@[simp ↓] theorem Jh3(a b c d e):Xa7 (.mkh a b c d e)=2:=rfl
@[simp ↓] theorem Jh9(x):Xa7 (.frz x)=2:=rfl
@[simp ↓] theorem Jhx(a x b c):Xa7 (.slc a x b c)=0:=rfl
@[simp ↓] theorem Jh6(s x):Xa7 (.len s x)=0:=rfl
@[simp ↓] theorem Jig(a b x y):Xa7 (.app a b x y)=2:=rfl
@[simp ↓] theorem Jdu(a b x y u v):Xa7 (.appw a b x y u v)=2:=rfl
@[simp ↓] theorem Jdr(x y):Xa7 (.mini x y)=0:=rfl
@[simp ↓] theorem Jh2(x y):Xa7 (.mki x y)=0:=rfl
@[simp ↓] theorem Jh4(f x y):Xa7 (.mkf f x y)=0:=rfl
@[simp ↓] theorem Jh1:Xa7 .mkm=2:=rfl
@[simp ↓] theorem Jh5(a b c d e):Xa7 (.lkp a b c d e)=1:=rfl
@[simp ↓] theorem Jhw(a b c d):Xa7 (.upd a b c d)=2:=rfl
@[simp ↓] theorem Jjg(a b c d):Xa7 (.ta a b c d)=0:=rfl
@[simp ↓] theorem Jhy(x):Xa7 (.pan x)=2:=rfl
@[simp ↓] theorem Jbc(f x):Xa7 (.call .quiet f x)=1:=rfl
@[simp ↓] theorem Jbd(f x):Xa7 (.call .no f x)=2:=rfl
@[simp ↓] theorem Jbe(f x):Xa7 (.call .keep f x)=2:=rfl
@[simp ↓] theorem Jbf(f x):Xa7 (.call .full f x)=2:=rfl
@[simp ↓] theorem Xys(f x):Xa7 (.callv .quiet f x)=1:=rfl
@[simp ↓] theorem Xyt(f x):Xa7 (.callv .no f x)=2:=rfl
@[simp ↓] theorem Xyu(f x):Xa7 (.callv .keep f x)=2:=rfl
@[simp ↓] theorem Xyv(f x):Xa7 (.callv .full f x)=2:=rfl
end
def CallQ(k:Nat)(E:Env)(f:Nat)(args:List AV)(st:St)(Q:Rt AV->St->Prop):Prop:=obP (aCall prog k E (.fn f) args st) fun p=>Q p.1 p.2
theorem CallQ.mono{k E f args st}{Q Q':Rt AV->St->Prop}(h:CallQ k E f args st Q)(hq:∀r st,Q r st->Q' r st):CallQ k E f args st Q':=
 Xac h fun _ p=>hq _ _ p
def endQ(rs:List ARes)(Q:Rt AV->St->Prop):Q4:=fun x s m st=>match x with
 |.pan v=>obP (Xbf st m) fun st'=>Q (.pan v) st'
 |.exit _=>False
 |_=>obP (Xbf st m) fun st'=>obP (resAll s st' rs) fun vs=>Q (.ok (oneOr vs)) st'
@[congr] theorem Xvy{rs Q x s s' m}{st st':St}(h:∀_:Unit,Xce s=s')(h2:st=st'):endQ rs Q x s m st=endQ rs Q x s' m st':=by rw[<-h (),h2,Xbd]
@[simp ↓] theorem Jbs(rs:List ARes)(Q s st):endQ rs Q .ret s [] st=obP (resAll s st rs) fun vs=>Q (.ok (oneOr vs)) st:=by simp[endQ,Xbf]
@[simp ↓] theorem Jbu(rs:List ARes)(Q s st):endQ rs Q .nrm s [] st=obP (resAll s st rs) fun vs=>Q (.ok (oneOr vs)) st:=by simp[endQ,Xbf]
@[simp ↓] theorem Jbt(rs:List ARes)(Q v s st):endQ rs Q (.pan v) s [] st=Q (.pan v) st:=by simp[endQ,Xbf]
theorem Xfh{k f fn E args st Q}(ho:ovOf f=none)(hf:fnOf f=some fn)(hn:args.length<=fn.ntmps)
    (h:∀s,s.length=fn.ntmps->(∀i a,args[i]?=some a->lk s i=a)->WP (aCall prog k) E k none fn.body s [] st (endQ fn.res Q)):CallQ (k+1) E f args st Q:=by
  obtain⟨⟨x,s',m',st'⟩,e,q⟩:=h (args++List.replicate (fn.ntmps - args.length) AV.undef) (by simp;omega) (fun i a hi=>Xrd hi);unfold CallQ
  have e1:aCall prog (k+1) E (.fn f) args st=Xa6 (aRun tabs (aCall prog k) E k none fn.body (args++List.replicate (fn.ntmps - args.length) AV.undef) [] st) fun
          |(.nrm,s,m,st')=>Xa6 (Xbf st' m) fun st''=>Xe3 fn st'' s
          |(.ret,s,m,st')=>Xa6 (Xbf st' m) fun st''=>Xe3 fn st'' s
          |(.pan v,_,m,st')=>Xa6 (Xbf st' m) fun st''=>some (.pan v,st'')
          |(.exit _,_,_,_)=>none:=by
    show(match prog.ovr f with|some g=>_|none=>_)=_;have h1:prog.ovr f=none:=ho;have h2:prog.fn f=some fn:=hf;rw[h1,h2];rfl
  rw[e1,e,Xam];cases x with
  |exit j=>exact q.elim
  |pan v=>
    obtain⟨st2,e2,q2⟩:=q;simp only at e2 q2⊢;rw[e2,Xam];exact⟨_,rfl,q2⟩
  |_=>
    obtain⟨st2,e2,vs,e3,q3⟩:=q;simp only at e2 e3 q3⊢;rw[e2,Xam,Xe3,e3,Xam];exact⟨_,rfl,q3⟩
theorem Xgw{k f N rs c0 E st Q}(hf:fnOf f=some ⟨N,rs,c0⟩)(ho:ovOf f=none)(hn:0<=N)
  (h:∀s,s.length=N->WP (aCall prog k) E k none c0 s [] st (endQ rs Q)):CallQ (k+1) E f [] st Q:=
 Xfh ho hf (by simp) fun s hl ha=>h s hl
theorem Xai{k f N rs c0 E a st Q}(hf:fnOf f=some ⟨N,rs,c0⟩)(ho:ovOf f=none)(hn:1<=N)
  (h:∀s,s.length=N->lk s 0=a->WP (aCall prog k) E k none c0 s [] st (endQ rs Q)):CallQ (k+1) E f [a] st Q:=
 Xfh ho hf (by simpa using hn) fun s hl ha=>h s hl (ha 0 _ rfl)
theorem Xaz{k f N rs c0 E a b st Q}(hf:fnOf f=some ⟨N,rs,c0⟩)(ho:ovOf f=none)(hn:2<=N)
  (h:∀s,s.length=N->lk s 0=a->lk s 1=b->WP (aCall prog k) E k none c0 s [] st (endQ rs Q)):CallQ (k+1) E f [a,b] st Q:=
 Xfh ho hf (by simpa using hn) fun s hl ha=>h s hl (ha 0 _ rfl) (ha 1 _ rfl)
theorem Xa8{k f N rs c0 E a b c st Q}(hf:fnOf f=some ⟨N,rs,c0⟩)(ho:ovOf f=none)(hn:3<=N)
  (h:∀s,s.length=N->lk s 0=a->lk s 1=b->lk s 2=c->WP (aCall prog k) E k none c0 s [] st (endQ rs Q)):CallQ (k+1) E f [a,b,c] st Q:=
 Xfh ho hf (by simpa using hn) fun s hl ha=>h s hl (ha 0 _ rfl) (ha 1 _ rfl) (ha 2 _ rfl)
theorem Xa4{k f N rs c0 E a b c d st Q}(hf:fnOf f=some ⟨N,rs,c0⟩)(ho:ovOf f=none)(hn:4<=N)
  (h:∀s,s.length=N->lk s 0=a->lk s 1=b->lk s 2=c->lk s 3=d->WP (aCall prog k) E k none c0 s [] st (endQ rs Q)):CallQ (k+1) E f [a,b,c,d] st Q:=
 Xfh ho hf (by simpa using hn) fun s hl ha=>h s hl (ha 0 _ rfl) (ha 1 _ rfl) (ha 2 _ rfl) (ha 3 _ rfl)
theorem Xmh{k f N rs c0 E a b c d e st Q}(hf:fnOf f=some ⟨N,rs,c0⟩)(ho:ovOf f=none)(hn:5<=N)
  (h:∀s,s.length=N->lk s 0=a->lk s 1=b->lk s 2=c->lk s 3=d->lk s 4=e->WP (aCall prog k) E k none c0 s [] st (endQ rs Q)):CallQ (k+1) E f [a,b,c,d,e] st Q:=
 Xfh ho hf (by simpa using hn) fun s hl ha=>h s hl (ha 0 _ rfl) (ha 1 _ rfl) (ha 2 _ rfl) (ha 3 _ rfl) (ha 4 _ rfl)
structure Grow(st st':St):Prop where
 H:st.H<+:st'.H
 I:st.I<+:st'.I
theorem Grow.refl(st:St):Grow st st:=⟨List.prefix_rfl,List.prefix_rfl⟩
theorem Grow.trans{a b c:St}(h:Grow a b)(k:Grow b c):Grow a c:=⟨h.H.trans k.H,h.I.trans k.I⟩
@[simp] theorem Xda(n m:Nat):Xa5 n m []=true:=rfl
def PureC(k f:Nat)(args:List AV)(w:AV):Prop:=
 ∀E st,E.Wf st->CallQ k E f args st fun r st'=> ∃v,r=.ok v/\Grow st st'/\v.fin st.I.length=w
theorem Xc5{α:Type}{a b:List α}(h:a<+:b):b.take a.length=a:=by obtain⟨t,rfl⟩:=h;simp
theorem Env.Wf.based{E:Env}{st:St}(h:E.Wf st):({E with base:=st.H.length}:Env).Wf st:=⟨Nat.le_refl _,h.rob,h.rom⟩
theorem Env.Wf.quiet(st:St):({base:=st.H.length,rob:=st.H.length,rom:=st.I.length}:Env).Wf st:=⟨Nat.le_refl _,Nat.le_refl _,Nat.le_refl _⟩
@[simp] theorem Jb3:AV.nils.arg=.nils:=rfl
@[simp] theorem Jhf(k n):(AV.int k n).arg=.int k n:=rfl
@[simp] theorem Jb8(b):(AV.bool b).arg=.bool b:=rfl
@[simp] theorem Jhd(b):(AV.str b).arg=.str b:=rfl
@[simp] theorem Jb4:AV.nilp.arg=.nilp:=rfl
@[simp] theorem Xvi(b o):(AV.ptr b o).arg=.ptr b o:=rfl
@[simp] theorem Jb5:AV.nilm.arg=.nilm:=rfl
@[simp] theorem Jhe(b):(AV.map b).arg=.map b:=rfl
@[simp] theorem Ji0(b n):(AV.hs b n).arg=.hs b n:=rfl
@[simp] theorem Jb6:AV.nilf.arg=.nilf:=rfl
@[simp] theorem Jhb(b):(AV.yld b).arg=.yld b:=rfl
@[simp] theorem Xml:AV.nili.arg=.nili:=rfl
@[simp] theorem Ji1(f x y):(AV.fn f x y).arg=.fn f (AV.finL 0 x) (AV.finL 0 y):=rfl
@[simp] theorem Xkg(t v):(AV.iface t v).arg=.iface t (v.fin 0):=rfl
@[simp] theorem Jhg(c):(AV.agg c).arg=.agg (AV.finL 0 c):=rfl
@[simp] theorem Jhc(c):(AV.tup c).arg=.tup (AV.finL 0 c):=rfl
@[simp] theorem Jb7(c o):(AV.eptr c o).arg=.eptr (AV.finL 0 c) o:=rfl
@[simp] theorem Jiz(w n c):(AV.sl w n c).arg=.sl none n (AV.finL 0 c):=by cases w<;>rfl
theorem PureC.fullA{k f args args' w E st}(h:PureC k f args w)(hr:w.refs=[])(hw:E.Wf st)(hf:args'.map AV.arg=args):doCall (aCall prog k) E .full (.fn f) args' st=some (.ok w,st):=by obtain⟨⟨r,st'⟩,e,v,rfl,g,hv⟩:=h _ st hw.based;simp only[doCall,hf,e,Xam,hv,hr,Xda,Xax,Xas,Xc5 g.H,Xc5 g.I]
theorem PureC.quiet{k f args w E st}(h:PureC k f args w)(hr:w.refs=[]):doCall (aCall prog k) E .quiet (.fn f) args st=some (.ok w,st):=by obtain⟨⟨r,st'⟩,e,v,rfl,g,hv⟩:=h _ st (.quiet st);simp only[doCall,e,Xam,hv,hr,Xda,Xax,Xas]
theorem Env.Wf.of{E:Env}{st:St}(h:E.Wf st){H:List ABlk}{I:List (Nat×Nat)}(h1:st.H.length<=H.length)(h2:st.I.length<=I.length):E.Wf ⟨H,I⟩:=
 ⟨Nat.le_trans h.base h1,Nat.le_trans h.rob h1,Nat.le_trans h.rom h2⟩
theorem Env.Wf.grow{E:Env}{st st':St}(h:E.Wf st)(g:Grow st st'):E.Wf st':=
 ⟨Nat.le_trans h.base g.H.length_le,Nat.le_trans h.rob g.H.length_le,Nat.le_trans h.rom g.I.length_le⟩
theorem Grow.app(st:St)(x:List ABlk)(y:List (Nat×Nat)):Grow st ⟨st.H++x,st.I++y⟩:=⟨List.prefix_append _ _,List.prefix_append _ _⟩
theorem Grow.appH(st:St)(x:List ABlk):Grow st ⟨st.H++x,st.I⟩:=⟨List.prefix_append _ _,List.prefix_rfl⟩
@[simp] theorem Jaq(c:List AV)(off:Nat):rdC none c off=c[off]?:=nr rfl
@[simp] theorem Jjd(a b c d e:AV):rdC (some 5) [a,b,c,d,e] 0=some (.agg [a,b,c,d,e]):=nr rfl
@[simp] theorem Jje(a b:AV):rdC (some 2) [a,b] 0=some (.agg [a,b]):=nr rfl
theorem Xno(k:IntKind)(a b:Int):Xcl .add k a b=some (.int k (k.wrap (a+b))):=nr rfl
theorem Xne(k:IntKind)(a b:Int):Xcl .sub k a b=some (.int k (k.wrap (a - b))):=nr rfl
theorem Xni(k:IntKind)(a b:Int):Xcl .mul k a b=some (.int k (k.wrap (a*b))):=nr rfl
theorem Xng(k:IntKind)(a b:Int):Xcl .quo k a b=Xar (decide (b≠0)) (some (.int k (k.wrap (a.tdiv b)))):=nr rfl
theorem Xnf(k:IntKind)(a b:Int):Xcl .rem k a b=Xar (decide (b≠0)) (some (.int k (a.tmod b))):=nr rfl
theorem Xnn(k:IntKind)(a b:Int):Xcl .eql k a b=some (.bool (decide (a=b))):=by rw[Xcl,Xo1]
theorem Xnh(k:IntKind)(a b:Int):Xcl .neq k a b=some (.bool (!decide (a=b))):=by rw[Xcl,Xt7]
theorem Xnj(k:IntKind)(a b:Int):Xcl .lss k a b=some (.bool (decide (a<b))):=nr rfl
theorem Xnk(k:IntKind)(a b:Int):Xcl .leq k a b=some (.bool (decide (a<=b))):=nr rfl
theorem Xnl(k:IntKind)(a b:Int):Xcl .gtr k a b=some (.bool (decide (b<a))):=nr rfl
theorem Xnm(k:IntKind)(a b:Int):Xcl .geq k a b=some (.bool (decide (b<=a))):=nr rfl
theorem Xte(b:Bool):unA .not (.bool b)=some (.bool !b):=nr rfl
theorem Xtf(k:IntKind)(n:Int):unA .neg (.int k n)=some (.int k (k.wrap (0 - n))):=nr rfl
attribute [simp] Xno Xne Xni Xng Xnf Xnn Xnh Xnj Xnk Xnl Xnm Xte Xtf
attribute [simp] Xdj binA strBin eqBin loadA lenA i64 resA resAll oneOr AV.fin AV.finL AV.refs AV.refsL optN asN slcA lenN
theorem Xaa{E:Env}{st:St}(h:E.Wf st)(b:Nat)(x y:List AV)(hb:st.H.length<=b):Xaf E b x y=true:=by have h1:=h.base;have h2:=h.rob;simp only[Xaf,Bool.and_eq_true,Bool.or_eq_true,decide_eq_true_eq];omega
@[simp] theorem Xz2{k}{n}:(AV.int k n).cells=[(AV.int k n)]:=nr rfl
@[simp] theorem Jdl{k}{n}:(AV.int k n).one=true:=nr rfl
@[simp] theorem Xv6{b}:(AV.bool b).cells=[(AV.bool b)]:=nr rfl
@[simp] theorem Ja0{b}:(AV.bool b).one=true:=nr rfl
@[simp] theorem Xzz{s}:(AV.str s).cells=[(AV.str s)]:=nr rfl
@[simp] theorem Jdi{s}:(AV.str s).one=true:=nr rfl
@[simp] theorem Xv1:AV.nilp.cells=[AV.nilp]:=nr rfl
@[simp] theorem Jav:AV.nilp.one=true:=nr rfl
@[simp] theorem Xz0{b}{o}:(AV.ptr b o).cells=[(AV.ptr b o)]:=nr rfl
@[simp] theorem Jdj{b}{o}:(AV.ptr b o).one=true:=nr rfl
@[simp] theorem Xv5{c}{o}:(AV.eptr c o).cells=[(AV.eptr c o)]:=nr rfl
@[simp] theorem Jaz{c}{o}:(AV.eptr c o).one=true:=nr rfl
@[simp] theorem Xv0:AV.nils.cells=[AV.nils]:=nr rfl
@[simp] theorem Jau:AV.nils.one=true:=nr rfl
@[simp] theorem Jbx{o}{n}{c}:(AV.sl o n c).cells=[(AV.sl o n c)]:=nr rfl
@[simp] theorem Jhq{o}{n}{c}:(AV.sl o n c).one=true:=nr rfl
@[simp] theorem Jby{b}{n}:(AV.hs b n).cells=[(AV.hs b n)]:=nr rfl
@[simp] theorem Jhr{b}{n}:(AV.hs b n).one=true:=nr rfl
@[simp] theorem Xv2:AV.nilm.cells=[AV.nilm]:=nr rfl
@[simp] theorem Jaw:AV.nilm.one=true:=nr rfl
@[simp] theorem Xz1{b}:(AV.map b).cells=[(AV.map b)]:=nr rfl
@[simp] theorem Jdk{b}:(AV.map b).one=true:=nr rfl
@[simp] theorem Xv4:AV.nilf.cells=[AV.nilf]:=nr rfl
@[simp] theorem Jay:AV.nilf.one=true:=nr rfl
@[simp] theorem Jbz{f}{x}{y}:(AV.fn f x y).cells=[(AV.fn f x y)]:=nr rfl
@[simp] theorem Jhs{f}{x}{y}:(AV.fn f x y).one=true:=nr rfl
@[simp] theorem Xzx{b}:(AV.yld b).cells=[(AV.yld b)]:=nr rfl
@[simp] theorem Jdg{b}:(AV.yld b).one=true:=nr rfl
@[simp] theorem Xv3:AV.nili.cells=[AV.nili]:=nr rfl
@[simp] theorem Jax:AV.nili.one=true:=nr rfl
@[simp] theorem Xvd{t}{v}:(AV.iface t v).cells=[(AV.iface t v)]:=nr rfl
@[simp] theorem Xyd{t}{v}:(AV.iface t v).one=true:=nr rfl
@[simp] theorem Xzy{v}:(AV.tup v).cells=[(AV.tup v)]:=nr rfl
@[simp] theorem Jdh{v}:(AV.tup v).one=false:=nr rfl
@[simp] theorem Xz3{c}:(AV.agg c).cells=c:=nr rfl
@[simp] theorem Jdm{c}:(AV.agg c).one=false:=nr rfl
@[simp] theorem Xy0(H l:List ABlk):(H++l)[H.length]?=l[0]?:=by rw[List.getElem?_append_right (Nat.le_refl _)];simp
@[simp] theorem Xby(H l:List ABlk)(k:Nat):(H++l)[H.length+k]?=l[k]?:=by rw[List.getElem?_append_right (by omega)];congr 1;omega
@[simp] theorem Jan(H l:List ABlk)(v:ABlk):(H++l).set H.length v=H++l.set 0 v:=by rw[List.set_append_right _ _ (Nat.le_refl _)];simp
@[simp] theorem Xe6(H l:List ABlk)(k:Nat)(v:ABlk):(H++l).set (H.length+k) v=H++l.set k v:=by rw[List.set_append_right _ _ (by omega)];congr 2;omega
theorem Xae{H l:List ABlk}{b:Nat}{x:ABlk}(h:H[b]?=some x):(H++l)[b]?=some x:=by rw[List.getElem?_append_left (uB h),h]
theorem Xah{n:Int}(h: -9223372036854775808<=n/\n<=9223372036854775807):IntKind.i64.wrap n=n:=by
 show(if true && decide (n % 2 ^ 64≥2 ^ 63)then n % 2 ^ 64 - 2 ^ 64 else n % 2 ^ 64)=n;by_cases hc:n % 2 ^ 64≥2 ^ 63
 ·rw[if_pos (by rw[Bool.true_and];exact decide_eq_true hc)];omega
 ·rw[if_neg (by rw[Bool.true_and];exact fun h=>hc (of_decide_eq_true h))];omega
inductive T where
 |mk (op:Int) (s:ByteArray) (n:Int) (l:List T) (line:Int)
 deriving Inhabited
mutual
def T.enc:T->List AV
 |.mk op s n l line=> [.int .i64 op,.str s,.int .i64 n,.sl none l.length (T.encL l),.int .i64 line]
def T.encL:List T->List AV
 |[]=> []
 |t::r=>t.enc++T.encL r
end
mutual
def T.count:T->Nat
 |.mk _ _ _ l _=>1+T.countL l
def T.countL:List T->Nat
 |[]=>0
 |t::r=>t.count+T.countL r
end
@[simp] theorem T.enc_length(t:T):t.enc.length=5:=by cases t;simp[T.enc]
@[simp] theorem T.encL_nil:T.encL []=[]:=by simp[T.encL]
@[simp] theorem T.encL_cons(t:T)(r:List T):T.encL (t::r)=t.enc++T.encL r:=by simp[T.encL]
@[simp] theorem T.encL_length:∀l:List T,(T.encL l).length=l.length*5
 |[]=>by simp
 |t::r=>by simp[T.encL_length r];omega
theorem T.encL_append:∀a b:List T,T.encL (a++b)=T.encL a++T.encL b
 |[],b=>by simp
 |t::r,b=>by simp[T.encL_append r b]
theorem T.enc_one(t:T):t.enc.all AV.one=true:=by cases t;simp[T.enc,AV.one]
theorem T.encL_one:∀l:List T,(T.encL l).all AV.one=true
 |[]=>by simp
 |t::r=>by simp only[T.encL_cons,List.all_append,T.enc_one,T.encL_one r,Bool.and_self]
theorem Xd1(m:Nat):∀a b:List AV,AV.finL m (a++b)=AV.finL m a++AV.finL m b
 |[],b=>by simp[AV.finL]
 |v::r,b=>by simp[AV.finL,Xd1 m r b]
theorem Xcs:∀a b:List AV,AV.refsL (a++b)=AV.refsL a++AV.refsL b
 |[],b=>by simp[AV.refsL]
 |v::r,b=>by simp[AV.refsL,Xcs r b]
mutual
theorem T.enc_fin(m:Nat):∀t:T,AV.finL m t.enc=t.enc
 |.mk op s n l line=>by simp[T.enc,AV.finL,AV.fin,T.encL_fin m l]
theorem T.encL_fin(m:Nat):∀l:List T,AV.finL m (T.encL l)=T.encL l
 |[]=>by simp[AV.finL]
 |t::r=>by rw[T.encL_cons,Xd1,T.enc_fin m t,T.encL_fin m r]
end
mutual
theorem T.enc_refs:∀t:T,AV.refsL t.enc=[]
 |.mk op s n l line=>by simp[T.enc,AV.refsL,AV.refs,T.encL_refs l]
theorem T.encL_refs:∀l:List T,AV.refsL (T.encL l)=[]
 |[]=>by simp[AV.refsL]
 |t::r=>by rw[T.encL_cons,Xcs,T.enc_refs t,T.encL_refs r];rfl
end
theorem T.encL_drop:∀(l:List T) (i:Nat),(T.encL l).drop (i*5)=T.encL (l.drop i)
 |l,0=>by simp
 |[],i+1=>by simp
 |t::r,i+1=>by rw[T.encL_cons,List.drop_succ_cons,<-T.encL_drop r i,show(i+1)*5=t.enc.length+i*5 by simp;omega,List.drop_append];simp
theorem T.rd{l:List T}{i:Nat}{t:T}(h:l[i]?=some t):rdC (some 5) (T.encL l) (i*5)=some (.agg t.enc):=by
 have hlt:=uB h;have hd:l.drop i=t::l.drop (i+1):=by rw[List.drop_eq_getElem_cons hlt];congr 1;exact uV h
 simp only[rdC,T.encL_length,T.encL_drop,hd,T.encL_cons];rw[if_pos (by omega),List.take_append_of_le_length (by simp)];rw[show(5:Nat)=t.enc.length by simp,List.take_length]
theorem T.rdf{l:List T}{i:Nat}{t:T}(h:l[i]?=some t)(j:Nat)(hj:j<5):rdC none (T.encL l) (i*5+j)=t.enc[j]?:=by
 have hlt:=uB h;have hd:l.drop i=t::l.drop (i+1):=by rw[List.drop_eq_getElem_cons hlt];congr 1;exact uV h
 simp only[rdC];rw[<-List.getElem?_drop,T.encL_drop,hd,T.encL_cons,List.getElem?_append_left (by simpa using hj)]
theorem T.cell{l:List T}{i:Nat}{t:T}(h:l[i]?=some t)(j:Nat)(hj:j<5):(T.encL l)[i*5+j]?=t.enc[j]?:=T.rdf h j hj
theorem T.cell0{l:List T}{i:Nat}{t:T}(h:l[i]?=some t):(T.encL l)[i*5]?=t.enc[0]?:=T.rdf h 0 (by omega)
theorem T.drop_cons{l:List T}{i:Nat}{t:T}(h:l[i]?=some t):l.drop i=t::l.drop (i+1):=by rw[List.drop_eq_getElem_cons (uB h)];congr 1;exact uV h
attribute [simp] T.enc T.enc_fin T.encL_fin T.enc_refs T.encL_refs
@[simp] theorem finS:∀(m:Nat) (l:List ByteArray),AV.finL m (l.map .str)=l.map .str
 |m,[]=>rfl
 |m,a::r=>by simp[finS m r]
theorem PureC.full{k f args w E st}(h:PureC k f args w)(hr:w.refs=[])(hw:E.Wf st)(hf:args.map AV.arg=args:=by simp):doCall (aCall prog k) E .full (.fn f) args st=some (.ok w,st):=
 h.fullA hr hw hf
theorem T.len_le:∀l:List T,l.length<=T.countL l
 |[]=>by simp
 |.mk _ _ _ _ _::r=>by have:=T.len_le r;simp only[T.countL,T.count,List.length_cons];omega
def rfQ(l:Nat)(s:List AV)(m:List Nat)(Q:Q4):Rt AV×St->Prop
 |(.ok _,st3)=> ∃ls p g' t ps' as' bd d',st3.H[l]?=some (.loop ls p g' t ps' as' bd d')/\ls≠ .busy/\Q (AJump.exit' p) s m {st3 with H:=st3.H.set l (.loop .exhausted p g' t ps' as' bd d')}
 |(.pan v,st3)=>Q (.pan v) s m st3
theorem Xh4{C E lf s m st}{Q:Q4}{f:AO}{ps asg body g a b}(hf:evA tabs s f=.fn g a b)(d l:Nat)(hd:st.H.length=d)(hl:st.H.length+1=l)
  (h:obP (C E (.fn g) (a++ [.yld l]++b) ⟨st.H++ [.dfr,.loop .ready none 0 s ps asg body d],st.I⟩) (rfQ l s (d::m) Q)):
  WP C E lf none (.rf f ps asg body) s m st Q:=by
 subst hl hd;obtain⟨⟨r,st3⟩,e,q⟩:=h;unfold WP;rw[aRun,Xfo,hf];simp only[Xam,List.length_append,List.length_cons,List.length_nil,Nat.zero_add,List.append_assoc,List.cons_append,List.nil_append];simp only[List.append_assoc,List.cons_append,List.nil_append]at e;rw[e,Xam];cases r with
 |pan v=>exact⟨_,rfl,q⟩
 |ok v=>
  obtain⟨ls,p,g',t,ps',as',bd,d',e3,hb,q⟩:=q;simp only[e3,hb,ne_eq,not_false_eq_true,decide_true,Xax];exact⟨_,rfl,q⟩
def endP(l:Nat)(j:Option AJump)(st:St)(Q:Rt AV->St->Prop):Prop:=
 ∃ls p f t ps as' bd d,st.H[l]?=some (.loop ls p f t ps as' bd d)/\Q (.ok (.bool j.isNone)) {st with H:=st.H.set l (.loop (if j.isNone then .ready else .done) j f t ps as' bd d)}
def bodyQ(l:Nat)(Q:Rt AV->St->Prop):Q4:=fun x s m st=>match x with
 |.nrm=>endP l none st Q
 |.ret=>endP l (some .ret) st Q
 |.exit id=>endP l (some (.exit id)) st Q
 |.pan _=>False
@[simp ↓] theorem Jaa(l Q s m st):bodyQ l Q .nrm s m st=endP l none st Q:=rfl
@[simp ↓] theorem Xz9(l Q s m st):bodyQ l Q .ret s m st=endP l (some .ret) st Q:=rfl
@[simp ↓] theorem Xv8(l id Q s m st):bodyQ l Q (.exit id) s m st=endP l (some (.exit id)) st Q:=rfl
def asgQ(C:CSem)(E:Env)(lf l:Nat)(body:ACode)(Q:Rt AV->St->Prop):Q4:=fun x s1 m1 st1=>
 x=.nrm/\m1=[]/\∃p f t ps as' bd d,st1.H[l]?=some (.loop .ready p f t ps as' bd d)/\
  WP C E lf (some l) body s1 [] {st1 with H:=st1.H.set l (.loop .busy p f t ps as' bd d)} (bodyQ l Q)
@[congr] theorem Xwa{C E lf l body Q x s s' m}{st st':St}(h:∀_:Unit,Xce s=s')(h2:st=st'):asgQ C E lf l body Q x s m st=asgQ C E lf l body Q x s' m st':=by rw[<-h (),h2,Xbd]
@[congr] theorem Xvf{l Q x s s' m}{st st':St}(h:∀_:Unit,Xce s=s')(h2:st=st'):bodyQ l Q x s m st=bodyQ l Q x s' m st':=by rw[<-h (),h2,Xbd]
@[congr] theorem Xvz{l j Q}{st st':St}(h:∀_:Unit,Xce st=st'):endP l j st Q=endP l j st' Q:=by rw[<-h (),Xbd]
theorem Xfi{C E lf l body s1}{st1:St}{Q}{p f t ps as' bd d}(h:st1.H[l]?=some (.loop .ready p f t ps as' bd d))
  (h2:WP C E lf (some l) body s1 [] {st1 with H:=st1.H.set l (.loop .busy p f t ps as' bd d)} (bodyQ l Q)):asgQ C E lf l body Q .nrm s1 [] st1:=⟨rfl,rfl,_,_,_,_,_,_,_,h,h2⟩
theorem Xd2{l j}{st:St}{Q:Rt AV->St->Prop}{ls p f t ps as' bd d}(h:st.H[l]?=some (.loop ls p f t ps as' bd d))
  (h2:Q (.ok (.bool j.isNone)) {st with H:=st.H.set l (.loop (if j.isNone then .ready else .done) j f t ps as' bd d)}):endP l j st Q:=⟨_,_,_,_,_,_,_,_,h,h2⟩
@[simp] theorem Xvp(t:List AV)(zq:List AV):Xec t [] zq=t:=by cases zq<;>rfl
@[simp] theorem Xto(t:List AV)(p:Nat)(ps:List Nat)(a:AV)(zq:List AV):Xec t (p::ps) (a::zq)=Xec (t.set p a) ps zq:=nr rfl
def Xnw(k:Nat)(E:Env)(l:Nat)(args:List AV)(st:St)(Q:Rt AV->St->Prop):Prop:=obP (aCall prog k E (.yld l) args st) fun p=>Q p.1 p.2
theorem Xdx{k E l args st Q}{ls pend f t ps asg body d}(hl:st.H[l]?=some (.loop ls pend f t ps asg body d))(hn:args.length=ps.length)(hr:E.rob<=l)
  (h:WP (aCall prog k) E k (some l) asg (Xec t ps args) [] st (asgQ (aCall prog k) E k l body Q)):Xnw (k+1) E l args st Q:=by
 obtain⟨⟨x,s1,m1,st1⟩,e,rfl,rfl,p,f',t',ps',as',bd',d',e1,⟨y,s2,m2,st2⟩,e2,q⟩:=h;show obP (Xd6 tabs (aCall prog k) E k l args st) _;unfold Xd6;simp only at e1 e2;simp only[hl,hn,hr,decide_true,Bool.and_self,Xax,e,Xam,e1,e2];cases y with
 |pan v=>exact q.elim
 |nrm=>
  obtain⟨ls2,p2,f2,t2,ps2,as2,bd2,d2,e3,q⟩:=q;simp only at e3 q;simp only[Xch,e3];exact⟨_,rfl,q⟩
 |ret=>
  obtain⟨ls2,p2,f2,t2,ps2,as2,bd2,d2,e3,q⟩:=q;simp only at e3 q;simp only[Xch,e3];exact⟨_,rfl,q⟩
 |exit id=>
  obtain⟨ls2,p2,f2,t2,ps2,as2,bd2,d2,e3,q⟩:=q;simp only at e3 q;simp only[Xch,e3];exact⟨_,rfl,q⟩
def Xev(c:Int):Bool:=(decide (97<=c) && decide (c<=122))||(decide (65<=c) && decide (c<=90))||decide (c=95)||decide (c=36)
def Xga(c:Int):Bool:=decide (48<=c) && decide (c<=57)
theorem f131(c:Int)(k:Nat)(hk:1<=k):PureC k 131 [.int .u8 c] (.bool (Xev c)):=by
 intro E st hE;obtain⟨k,rfl⟩:=uK (k:=k) (by omega);refine Xai rfl rfl (by decide) fun s hs e0=>?_;simp[hs,e0];repeat' (refine Xaq (fun h=>?_) (fun h=>?_)<;>simp[*])
 all_goals simp[Xev,Grow.refl, *]
theorem f159(c:Int)(k:Nat)(hk:1<=k):PureC k 159 [.int .u8 c] (.bool (Xga c)):=by
 intro E st hE;obtain⟨k,rfl⟩:=uK (k:=k) (by omega);refine Xai rfl rfl (by decide) fun s hs e0=>?_;simp[hs,e0];repeat' (refine Xaq (fun h=>?_) (fun h=>?_)<;>simp[*])
 all_goals simp[Xga,Grow.refl, *]
def isLD(b:UInt8):Bool:=Xev b.toNat||Xga b.toNat
def nmL:List UInt8->Nat
 |[]=>0
 |b::r=>if isLD b then nmL r+1 else 0
theorem Xsi:∀l,nmL l<=l.length
 |[]=>by simp[nmL]
 |b::r=>by have:=Xsi r;simp only[nmL];split<;>simp;omega
theorem Xes{s:ByteArray}{i:Nat}{b:UInt8}(h:s.data[i]?=some b):s.data.toList.drop i=b::s.data.toList.drop (i+1):=by
 have h':s.data.toList[i]?=some b:=by simpa using h
 rw[List.drop_eq_getElem_cons (uB h')];congr 1;exact uV h'
theorem f132(t:ByteArray)(ht:t.size<=9223372036854775806)(k:Nat)(hk:t.size+2<=k):PureC k 132 [.str t] (i64 (nmL t.data.toList)):=by
 intro E st hE;obtain⟨k,rfl⟩:=uK (k:=k) (by omega);refine Xai rfl rfl (by decide) fun s hs e0=>?_;simp[hs,e0];refine Xau (fun n s m st'=> ∃i:Nat,i<=t.size/\n=t.size - i/\s.length=23/\m=[]/\st=st'/\lk s 0=.str t/\lk s 3=.int .i64 i/\i+nmL (t.data.toList.drop i)=nmL t.data.toList) t.size (by omega) ⟨0,by simp[hs,e0]⟩ ?_;rintro _ s m _ ⟨i,hi,rfl,hs,rfl,rfl,e0,e3,hn⟩;by_cases h:i<t.size
 ·obtain⟨b,hb⟩:∃b,t.data[i]?=some b:=⟨_,Array.getElem?_eq_getElem h⟩;have hb':t.data[i]'h=b:=by rw[Array.getElem?_eq_getElem h]at hb;simpa using hb
  have h1:=(f131 b.toNat k (by omega)).full (E:=E) (st:=st) rfl hE;have h2:=(f159 b.toNat k (by omega)).full (E:=E) (st:=st) rfl hE;rw[Xes hb,nmL,isLD]at hn;have hw:=Xah (n:=(i:Int)+1) (by omega);simp[hs,e0,e3,h,hb',h1];refine Xat (fun h3=>?_) (fun h3=>?_)
  ·rw[if_pos (by simp[h3])]at hn;simp[hs,e0,e3,h,hb',h3,hw];exact⟨_,by omega,i+1,by omega,rfl,by simp[hs],rfl,rfl,by simp[hs,e0],by simp[hs],by omega⟩
  ·simp[hs,e0,e3,h,hb',h3,h2];refine Xat (fun h4=>?_) (fun h4=>?_)
   ·rw[if_pos (by simp[h4])]at hn;simp[hs,e0,e3,h,hb',h3,h4,hw];exact⟨_,by omega,i+1,by omega,rfl,by simp[hs],rfl,rfl,by simp[hs,e0],by simp[hs],by omega⟩
   ·rw[if_neg (by simp[h3,h4])]at hn;simp[hs,e0,e3,h,hb',h3,h4,<-hn,Grow.refl]
 ·rw[List.drop_eq_nil_of_le (by simpa using h),nmL]at hn;simp[hs,e0,e3,h,<-hn,Grow.refl]
@[simp] theorem Xzs(C:CSem)(E:Env)(c:Cal)(args:List AV)(st:St):doCall C E .no c args st=C E c args st:=nr rfl
def isBl(b:UInt8):Bool:=decide (9<=b.toNat/\b.toNat<=13\/b.toNat=32)
theorem Xp9(b:UInt8):blanks[b.toNat]?=some (.int .u8 (if isBl b then 1 else 0)):=by have hb:b.toNat<256:=UInt8.toNat_lt b;simp only[blanks,List.getElem?_map,List.getElem?_range hb,Option.map_some,isBl,decide_eq_true_eq]
def fgo(t:ByteArray):Nat->Nat->Int->List ByteArray->List ByteArray
 |0,_,_,acc=>acc
 |n+1,i,start,acc=>
  match t.data[i]? with
  |some b=>
   if isBl b then(if 0<=start then fgo t n (i+1) (-1) (acc++ [t.extract start.toNat i])else fgo t n (i+1) start acc)
   else if start<0 then fgo t n (i+1) i acc else fgo t n (i+1) start acc
  |none=>if 0<=start then acc++ [t.extract start.toNat t.size]else acc
theorem Xwf{n:Int}(h:0<=n/\n<=255):IntKind.i32.wrap n=n:=by show(if true && decide (n % 2 ^ 32≥2 ^ 31)then n % 2 ^ 32 - 2 ^ 32 else n % 2 ^ 32)=n;rw[if_neg (by rw[Bool.true_and];exact fun h=>by have:=of_decide_eq_true h;omega)];omega
theorem f177{k:Nat}{E:Env}{l b:Nat}{st:St}(t:ByteArray)(ht:∀(i:Nat) (c:UInt8),t.data[i]?=some c->c.toNat<128)(hsz:t.size<1000)(hk:1001<=k)(Inv:List ByteArray->St->Prop)
  (hb:∀ws st,Inv ws st->st.H[b]?=some (.cells 9 [.str t]))
  (hy:∀ws st w,Inv ws st->Xnw k E l [.str w] st fun r st'=>r=.ok (.bool true)/\Inv (ws++ [w]) st')
  (h0:Inv [] st):CallQ (k+1) E 177 [.yld l,.ptr b 0] st fun r st'=>r=.ok (.tup [])/\Inv (fgo t (t.size+1) 0 (-1) []) st':=by
 refine Xaz rfl rfl (by decide) fun s hs e0 e1=>?_;simp[hs,e0,e1]
 refine Xau (fun n s m st'=> ∃(i:Nat) (start:Int) (ws:List ByteArray),i<=t.size/\n=t.size - i/\s.length=56/\m=[]/\Inv ws st'/\lk s 0=.yld l/\lk s 1=.ptr b 0/\lk s 3=.int .i64 start/\lk s 4=.int .i64 i/\
  -1<=start/\start<=i/\fgo t (t.size - i+1) i start ws=fgo t (t.size+1) 0 (-1) []) t.size (by omega) ⟨0, -1,[],by simp[hs,e0,e1,h0]⟩ ?_
 rintro _ s m st' ⟨i,start,ws,hi,rfl,hs,rfl,hI,e0,e1,e3,e4,hs1,hs2,hf⟩;have hbb:=hb _ _ hI;by_cases h:i<t.size
 ·obtain⟨c,hc⟩:∃b,t.data[i]?=some b:=⟨_,Array.getElem?_eq_getElem h⟩;have hc':t.data[i]'h=c:=by rw[Array.getElem?_eq_getElem h]at hc;simpa using hc
  have hcl:=ht i c hc;rw[show t.size - i+1=(t.size - (i+1)+1)+1 by omega,fgo,hc]at hf;have hw:=Xah (n:=(i:Int)+1) (by omega);have hw32:=Xwf (n:=(c.toNat:Int)) (by omega);have htab:tabs 1=some blanks:=rfl;have hlt:(c.toNat:Int)<256:=by omega
  have hn128:¬(128:Int)<=c.toNat:=by omega
  have hbl:(fun i:Nat=>blanks[i]?) c.toNat=some (.int .u8 (if isBl c then 1 else 0)):=Xp9 c;by_cases hq:isBl c
  ·simp only[hq,if_true]at hf hbl;simp[hs,e0,e1,e3,e4,h,hbb,hc',hw32,Xrw,htab,hlt,hbl,hn128];refine Xaq (fun h2=>?_) (fun h2=>?_)
   ·obtain⟨a,rfl⟩:∃a:Nat,start=a:=⟨start.toNat,by omega⟩;rw[if_pos h2]at hf;simp[hs,e0,e1,e3,e4,h,hbb,show a<=i by omega,show i<=t.size by omega];refine Xac (hy ws st' _ hI) fun p hp=>?_;obtain⟨r,st2⟩:=p;obtain⟨rfl,hI2⟩:=hp;simp[hs,e0,e1,e3,e4,hw];exact⟨_,by omega,i+1, -1,_,by omega,rfl,by simp[hs],rfl,hI2,by simp[hs,e0],by simp[hs,e1],by simp[hs,e3],by simp[hs],by omega,by omega,by simpa using hf⟩
   ·rw[if_neg h2]at hf;simp[hs,e0,e1,e3,e4,hw];exact⟨_,by omega,i+1,_,_,by omega,rfl,by simp[hs],rfl,hI,by simp[hs,e0],by simp[hs,e1],by simp[hs,e3],by simp[hs],by omega,by omega,hf⟩
  ·simp only[hq,if_false,Bool.false_eq_true]at hf hbl;simp[hs,e0,e1,e3,e4,h,hbb,hc',hw32,Xrw,htab,hlt,hbl,hn128];refine Xaq (fun h2=>?_) (fun h2=>?_)
   ·rw[if_pos h2]at hf;simp[hs,e0,e1,e3,e4,hw];exact⟨_,by omega,i+1,_,_,by omega,rfl,by simp[hs],rfl,hI,by simp[hs,e0],by simp[hs,e1],by simp[hs,e3],by simp[hs],by omega,by omega,hf⟩
   ·rw[if_neg h2]at hf;simp[hs,e0,e1,e3,e4,hw];exact⟨_,by omega,i+1,_,_,by omega,rfl,by simp[hs],rfl,hI,by simp[hs,e0],by simp[hs,e1],by simp[hs,e3],by simp[hs],by omega,by omega,hf⟩
 ·rw[show t.size - i+1=0+1 by omega,fgo,Array.getElem?_eq_none (by simpa using h)]at hf;simp only at hf;simp[hs,e0,e1,e3,e4,h,hbb];refine Xaq (fun h2=>?_) (fun h2=>?_)
  ·obtain⟨a,rfl⟩:∃a:Nat,start=a:=⟨start.toNat,by omega⟩;rw[if_pos h2]at hf;simp[hs,e0,e1,e3,e4,hbb,show a<=t.size by omega];refine Xac (hy ws st' _ hI) fun p hp=>?_;obtain⟨r,st2⟩:=p;obtain⟨rfl,hI2⟩:=hp;rw[<-hf];simpa using hI2
  ·rw[if_neg h2]at hf;rw[<-hf];simp[hI]
instance instMemBA (s:ByteArray) (l:List ByteArray):Decidable (s∈l):=decidable_of_iff (l.any (fun w=>decide (w=s))=true) (by simp)
def kwText:ByteArray:=⟨#[98,114,101,97,107,32,99,97,115,101,32,99,97,116,99,104,32,99,111,110,116,105,110,117,101,32,100,101,98,117,103,103,101,114,32,100,101,102,97,117,108,116,32,100,101,108,101,116,101,32,100,111,32,101,108,115,101,32,102,105,110,97,108,108,121,32,102,111,114,32,102,117,110,99,116,105,111,110,32,105,102,32,105,110,32,105,110,115,116,97,110,99,101,111,102,32,110,101,119,32,114,101,116,117,114,110,32,115,119,105,116,99,104,32,116,104,105,115,32,116,104,114,111,119,32,116,114,121,32,116,121,112,101,111,102,32,118,97,114,32,118,111,105,100,32,119,104,105,108,101,32,119,105,116,104,32,110,117,108,108,32,116,114,117,101,32,102,97,108,115,101,32,117,110,100,101,102,105,110,101,100,32,105,110,112,117,116]⟩
def Xlw:List ByteArray:=fgo kwText (kwText.size+1) 0 (-1) []
def Xc2(s:ByteArray):Bool:=decide (s∈Xlw)
theorem Xrg(i:Nat)(c:UInt8)(h:kwText.data[i]?=some c):c.toNat<128:=by
 have hm:c∈kwText.data.toList:=by
  have:kwText.data.toList[i]?=some c:=by simpa using h
  exact List.mem_of_getElem? this
 have:∀c∈kwText.data.toList,c.toNat<128:=by decide+kernel
 exact this c hm
def strs(l:List ByteArray):List (AV×AV):=l.map fun w=>(.str w,.bool true)
theorem Xka(s:ByteArray):∀l,Xew true (.str s) (strs l)=some (if s∈l then some (.bool true)else none)
 |[]=>rfl
 |w::r=>by
  have ih:=Xka s r;simp only[strs]at ih;simp only[strs,List.map_cons,Xew,Xgp,Xax,Xam];by_cases h:s=w
  ·simp[h]
  ·simp[h,ih]
theorem Xll(w:ByteArray):∀l,updA true (.str w) (.bool true) (strs l)=some (strs (if w∈l then l else l++ [w]))
 |[]=>rfl
 |u::r=>by
  have ih:=Xll w r;simp only[strs]at ih;simp only[strs,List.map_cons,updA,Xgp,Xax,Xam];by_cases h:w=u
  ·simp[h]
  ·simp only[h,decide_false,Bool.false_eq_true,↓reduceIte,ih,Xam,List.mem_cons,false_or];by_cases h2:w∈r<;>simp[h2]
theorem f173{k:Nat}{E:Env}{st:St}(t:ByteArray):CallQ (k+1) E 173 [.str t] st fun r st'=>r=.ok (.fn 177 [] [.ptr st.H.length 0])/\st'=⟨st.H++ [.cells 9 [.str t]],st.I⟩:=by refine Xai rfl rfl (by decide) fun s hs e0=>?_;simp[hs,e0]
theorem f160{k:Nat}{E:Env}{st:St}(hE:E.Wf st)(hk:1010<=k):CallQ k E 160 [] st fun r st'=> ∃b l,r=.ok (.map b)/\Grow st st'/\st'.H[b]?=some (.map (strs l))/\∀s,s∈l↔s∈Xlw:=by
  obtain⟨k,rfl⟩:∃k',k=k'+3:=⟨k - 3,by omega⟩;refine Xgw rfl rfl (by decide) fun s hs=>?_;generalize ht':ByteArray.mk _=t;have ht:t=kwText:=ht'.symm;clear ht';have hmw:=Xaa hE;simp[hs,Xag,hmw,wrC];refine Xac (f173 t) fun p hp=>?_;obtain⟨r,st1⟩:=p;obtain⟨h1,h2⟩:=hp;simp only at h1 h2;subst h1 h2;simp[hs];refine Xh4 (g:=177) (a:=[]) (b:=[.ptr (st.H.length+2) 0]) (by simp[hs]) (st.H.length+3) (st.H.length+4) (by simp) (by simp) ?_;simp;generalize hs0:((((s.set 0 AV.nilm).set 3 (AV.map st.H.length)).set 1 (AV.ptr (st.H.length+1) 0)).set 4 (AV.fn 177 [] [AV.ptr (st.H.length+2) 0]))=s0;have hs0l:s0.length=9:=by rw[<-hs0];simp[hs]
  have hs01:lk s0 1=AV.ptr (st.H.length+1) 0:=by rw[<-hs0];simp[hs]
  clear hs0
  refine Xac (f177 (k:=k+1) (b:=st.H.length+2) t (by subst ht;exact Xrg) (by subst ht;decide+kernel) (by omega) (fun ws st2=> ∃l,st2=⟨st.H++ [.map (strs l),.cells 198 [.map st.H.length],.cells 9 [.str t],.dfr,.loop .ready none 0 s0 [5] (ACode.reg [{dst:=some 2,op:=AOp.mv (AO.t 5),guard:=none}])
            (ACode.block 1
              (ACode.reg
                [{dst:=some 6,op:=AOp.ld none (AO.t 1),guard:=none},
                  {dst:=some 7,op:=AOp.mv (AO.t 2),guard:=none},
                  {dst:=none,op:=AOp.upd true (AO.t 6) (AO.t 7) (AO.c (AV.bool true)),guard:=none}])) (st.H.length+3)],st.I⟩/\∀s,s∈l↔s∈ws) ?_ ?_ ⟨[],by simp[strs]⟩) fun p hp=>?_
  ·rintro ws _ ⟨l,rfl,hl⟩;simp
  ·rintro ws _ w ⟨l,rfl,hl⟩;refine Xdx ((Xby _ _ 4).trans rfl) rfl (by have:=hE.rob;omega) ?_;simp[hs0l];refine Xfi ((Xby _ _ 4).trans rfl) ?_;simp[hs0l,hs01,updB,hmw,Xll,Xc7];refine Xd2 ((Xby _ _ 4).trans rfl) ?_;simp;refine⟨_,rfl,fun u=>?_⟩;split
   ·rename_i hw;rw[hl u];rw[hl w]at hw;exact⟨fun h=>.inl h,fun h=>h.elim id fun e=>e▸hw⟩
   ·simp[hl]
  ·obtain⟨r,st1⟩:=p;obtain⟨rfl,l,rfl,hl⟩:=hp;refine⟨_,_,_,_,_,_,_,_,(Xby _ _ 4).trans rfl,nofun,?_⟩;simp[AJump.exit',hs0l,hs01,endQ,Xbf];exact⟨Grow.appH _ _,l,rfl,by subst ht;exact hl⟩
theorem f133(s:ByteArray)(k:Nat)(hk:1011<=k):PureC k 133 [.str s] (.bool (Xc2 s)):=by
 intro E st hE;obtain⟨k,rfl⟩:=uK (k:=k) (by omega);refine Xai rfl rfl (by decide) fun s0 hs e0=>?_;simp[hs,e0];refine Xac (f160 hE (by omega)) fun p hp=>?_;obtain⟨r,st1⟩:=p;obtain⟨b,l,rfl,g,hb,hl⟩:=hp;simp only at hb g;simp[hs,e0,lkpA,hb,Xc7,Xka,g];by_cases h:s∈l
 ·simp[h,Xc2,<-hl]
 ·simp[h,Xc2,<-hl]
def Xbq(s:ByteArray):Bool:=match s.data.toList with
 |[]=>false
 |b::r=>Xev b.toNat && decide (nmL (b::r)=(b::r).length) && !Xc2 s
theorem Xhu(s:ByteArray):s=⟨#[]⟩\/∃b r,s.data.toList=b::r/\s.data[0]?=some b/\0<s.size/\s≠⟨#[]⟩:=by
 rcases h:s.data.toList with _|⟨b,r⟩
 ·left;obtain⟨a⟩:=s;simp only[Array.toList_eq_nil_iff]at h;rw[h]
 ·right;refine⟨b,r,rfl,?_,?_,?_⟩
  ·rw[<-Array.getElem?_toList,h];rfl
  ·show 0<s.data.size;rw[<-Array.length_toList,h];simp
  ·intro e;rw[e]at h;cases h
theorem f87(t:ByteArray)(ht:t.size<=9223372036854775806)(k:Nat)(hk:t.size+1015<=k):PureC k 87 [.str t] (.bool (Xbq t)):=by
 intro E st hE;obtain⟨k,rfl⟩:=uK (k:=k) (by omega);refine Xai rfl rfl (by decide) fun s hs e0=>?_;rcases Xhu t with rfl|⟨b,r,hl,hb,hz,hn⟩
 ·simp[hs,e0,Grow.refl,Xbq]
 ·have hb':t.data[0]'hz=b:=by rw[Array.getElem?_eq_getElem hz]at hb;simpa using hb
  have h1:=(f131 b.toNat k (by omega)).full (E:=E) (st:=st) rfl hE;have h2:=(f132 t ht k (by omega)).full (E:=E) (st:=st) rfl hE;have h3:=(f133 t k (by omega)).full (E:=E) (st:=st) rfl hE;have hsz:t.size=(b::r).length:=by rw[<-hl];simp
  have hi:Xbq t=(Xev b.toNat && decide (nmL (b::r)=(b::r).length) && !Xc2 t):=by simp only[Xbq,hl]
  rw[hl]at h2;rw[hi];simp only[i64]at h2;simp[hs,e0,hn,hb,h1];cases hc:Xev b.toNat
  ·simp[hs,e0,hn,hb,h1,hc,Grow.refl]
  ·simp[hs,e0,hn,hb,h1,hc,h2,hsz];refine Xaq (fun h=>?_) (fun h=>?_)
   ·have h':nmL (b::r)=r.length+1:=by omega
    simp[hs,e0,h3,h,h',Grow.refl]
   ·have h':¬nmL (b::r)=r.length+1:=by omega
    simp[hs,e0,h3,h,h',Grow.refl]
theorem f88(t:ByteArray)(k:Nat)(hk:1<=k):PureC k 88 [.str t] (.bool (decide (t=⟨#[]⟩))):=by intro E st hE;obtain⟨k,rfl⟩:=uK (k:=k) (by omega);refine Xai rfl rfl (by decide) fun s hs e0=>?_;simp[hs,e0,Grow.refl]
theorem f89(t:ByteArray)(k:Nat)(hk:1<=k):PureC k 89 [.str t] (.bool true):=by intro E st hE;obtain⟨k,rfl⟩:=uK (k:=k) (by omega);refine Xai rfl rfl (by decide) fun s hs e0=>?_;simp[hs,e0,Grow.refl]
theorem f90(t:ByteArray)(ht:t.size<=9223372036854775806)(k:Nat)(hk:t.size+1016<=k):PureC k 90 [.str t] (.bool (decide (t=⟨#[]⟩)||Xbq t)):=by
 intro E st hE;obtain⟨k,rfl⟩:=uK (k:=k) (by omega);refine Xai rfl rfl (by decide) fun s hs e0=>?_;have h1:=(f87 t ht k (by omega)).full (E:=E) (st:=st) rfl hE;by_cases h:t=⟨#[]⟩
 ·simp[hs,e0,h,Grow.refl]
 ·simp[hs,e0,h,h1,Grow.refl]
theorem f91(t:ByteArray)(ht:t.size<=9223372036854775806)(k:Nat)(hk:t.size+1016<=k):PureC k 91 [.str t] (.bool (Xbq t||Xc2 t)):=by
 intro E st hE;obtain⟨k,rfl⟩:=uK (k:=k) (by omega);refine Xai rfl rfl (by decide) fun s hs e0=>?_;have h1:=(f87 t ht k (by omega)).full (E:=E) (st:=st) rfl hE;have h2:=(f133 t k (by omega)).full (E:=E) (st:=st) rfl hE;cases h:Xbq t
 ·simp[hs,e0,h,h1,h2,Grow.refl]
 ·simp[hs,e0,h,h1,h2,Grow.refl]
def ixS(s:ByteArray):List ByteArray->Option Nat
 |[]=>none
 |w::r=>if s=w then some 0 else(ixS s r).map (·+1)
def oi:Option Nat->Int
 |none=> -1
 |some i=>i
theorem Xfa(s:ByteArray):∀l,(ixS s l).isSome=decide (s∈l)
 |[]=>by simp[ixS]
 |w::r=>by
  have:=Xfa s r;simp only[ixS];by_cases h:s=w
  ·simp[h]
  ·simp[h,this]
theorem Xlx(s:ByteArray):∀l i,ixS s l=some i->i<l.length
 |[],i,h=>by simp[ixS]at h
 |w::r,i,h=>by
  simp only[ixS]at h;split at h
  ·cases h;simp
  ·rw[Option.map_eq_some_iff]at h;obtain⟨j,hj,rfl⟩:=h;have:=Xlx s r j hj;simp;omega
theorem f116(o:Option Nat)(ws:List ByteArray)(w:ByteArray)(hw:ws.length<=9223372036854775806)(k:Nat)(hk:ws.length+2<=k):PureC k 116 [.sl o ws.length (ws.map .str),.str w] (i64 (oi (ixS w ws))):=by
 intro E st hE;obtain⟨k,rfl⟩:=uK (k:=k) (by omega);refine Xaz rfl rfl (by decide) fun s hs e0 e1=>?_;simp[hs,e0,e1]
 refine Xau (fun n s m st'=> ∃i:Nat,i<=ws.length/\n=ws.length - i/\s.length=19/\m=[]/\st=st'/\lk s 0=.sl o ws.length (ws.map .str)/\lk s 1=.str w/\lk s 7=.int .i64 ws.length/\lk s 8=.int .i64 i/\
  ixS w ws=(ixS w (ws.drop i)).map (·+i)) ws.length (by omega) ⟨0,by simp[hs,e0,e1]⟩ ?_
 rintro _ s m _ ⟨i,hi,rfl,hs,rfl,rfl,e0,e1,e7,e8,hn⟩;by_cases h:i<ws.length
 ·rw[List.drop_eq_getElem_cons h,ixS]at hn;have hw':=Xah (n:=(i:Int)+1) (by omega);by_cases h2:w=ws[i]
  ·rw[if_pos h2]at hn;simp[hs,e0,e1,e7,e8,h,h2,Grow.refl];rw[<-h2,hn];simp[oi]
  ·rw[if_neg h2]at hn;simp[hs,e0,e1,e7,e8,h,h2,hw'];exact⟨_,by omega,i+1,by omega,rfl,by simp[hs],rfl,rfl,by simp[hs,e0],by simp[hs,e1],by simp[hs,e7],by simp[hs],by rw[hn,Option.map_map];congr 1;funext x;simp;omega⟩
 ·rw[List.drop_eq_nil_of_le (by omega),ixS]at hn;simp[hs,e0,e1,e7,e8,h,hn,Grow.refl,oi]
theorem f134(o:Option Nat)(ws:List ByteArray)(w:ByteArray)(hw:ws.length<=9223372036854775806)(k:Nat)(hk:ws.length+3<=k):PureC k 134 [.sl o ws.length (ws.map .str),.str w] (.bool (decide (w∈ws))):=by
 intro E st hE;obtain⟨k,rfl⟩:=uK (k:=k) (by omega);refine Xaz rfl rfl (by decide) fun s hs e0 e1=>?_;have h1:=(f116 none ws w hw k (by omega)).fullA (args':=[.sl o ws.length (ws.map .str),.str w]) (E:=E) (st:=st) rfl hE (by simp);simp only[i64]at h1;have h2:=Xfa w ws;simp[hs,e0,e1,h1,Grow.refl];have h3:∀x:Option Nat,(0<=oi x↔x.isSome=true):=by intro x;cases x<;>simp[oi]
 rw[h3,h2];simp
def sgText:ByteArray:=⟨#[43,32,45,32,42,32,60,32,60,61,32,61,61,61,32,33,61,61]⟩
def signs:List ByteArray:=[⟨#[43]⟩,⟨#[45]⟩,⟨#[42]⟩,⟨#[60]⟩,⟨#[60,61]⟩,⟨#[61,61,61]⟩,⟨#[33,61,61]⟩]
def WL(C:CSem)(E:Env)(lf:Nat)(rd:Option Nat)(b:ACode)(n:Nat)(s:List AV)(m:List Nat)(st:St)(Q:Q4):Prop:=obP (iter (aRun tabs C E lf rd b) n s m st) fun p=>Q p.1 p.2.1 p.2.2.1 p.2.2.2
def unQ(C:CSem)(E:Env)(lf:Nat)(rd:Option Nat)(b:ACode)(n:Nat)(Q:Q4):Q4:=fun x s m st=>match x with
 |.nrm=>WL C E lf rd b n s m st Q
 |y=>Q y s m st
section
variable{C:CSem}{E:Env}{lf:Nat}{rd:Option Nat}
@[congr] theorem Jcf{b n}{s s':List AV}{m:List Nat}{st st':St}{Q:Q4}(h1:∀_:Unit,Xce s=s')(h2:st=st'):WL C E lf rd b n s m st Q=WL C E lf rd b n s' m st' Q:=by rw[<-h1 (),h2,Xbd]
theorem Xle(b n s m st)(Q:Q4):WL C E lf rd b (n+1) s m st Q=WP C E lf rd b s m st (unQ C E lf rd b n Q):=by
 unfold WL WP;rw[iter];rcases aRun tabs C E lf rd b s m st with _|⟨x,s',m',st'⟩
 ·simp
 ·cases x<;>simp[unQ,WL]
@[simp ↓] theorem Jcp(b n)(Q:Q4)(s m st):unQ C E lf rd b n Q .nrm s m st=WL C E lf rd b n s m st Q:=rfl
@[simp ↓] theorem Jco(b n)(Q:Q4)(s m st):unQ C E lf rd b n Q .ret s m st=Q .ret s m st:=rfl
@[simp ↓] theorem Jal(b n)(Q:Q4)(i s m st):unQ C E lf rd b n Q (.exit i) s m st=Q (.exit i) s m st:=rfl
theorem Xvk(b s m st)(Q:Q4):WP C E lf rd (.loop b) s m st Q=WL C E lf rd b lf s m st Q:=by simp[WP,WL,aRun]
end
theorem Jc8(a b:Int)(ha:0<=a/\a<256)(hb:0<=b/\b<256):IntKind.u8.wrap ((BitVec.ofInt IntKind.u8.bits a|||BitVec.ofInt IntKind.u8.bits b).toNat)=((a.toNat|||b.toNat:Nat):Int):=by
 obtain⟨a,rfl⟩:∃x:Nat,a=x:=⟨a.toNat,by omega⟩;obtain⟨b,rfl⟩:∃x:Nat,b=x:=⟨b.toNat,by omega⟩;have h1:a<256:=by omega
 have h2:b<256:=by omega
 have h3:a|||b<256:=Nat.or_lt_two_pow (n:=8) h1 h2;have e:(BitVec.ofInt IntKind.u8.bits (a:Int)|||BitVec.ofInt IntKind.u8.bits (b:Int)).toNat=a|||b:=by rw[BitVec.toNat_or];show(BitVec.ofInt 8 (a:Int)).toNat|||(BitVec.ofInt 8 (b:Int)).toNat=a|||b;rw[BitVec.ofInt_natCast,BitVec.ofInt_natCast,BitVec.toNat_ofNat,BitVec.toNat_ofNat,Nat.mod_eq_of_lt h1,Nat.mod_eq_of_lt h2]
 rw[e];show(if false && decide (((a|||b:Nat):Int) % 2 ^ 8≥2 ^ 7)then((a|||b:Nat):Int) % 2 ^ 8 - 2 ^ 8 else((a|||b:Nat):Int) % 2 ^ 8)=_;rw[if_neg (by simp)];simp only[Int.toNat_natCast];omega
@[simp high] theorem Jjm(a b:Int)(ha:0<=a/\a<256)(hb:0<=b/\b<256):Xcl .or .u8 a b=some (.int .u8 ((a.toNat|||b.toNat:Nat):Int)):=by rw[Xcl,Jc8 a b ha hb]
@[simp high] theorem Jbl:Xcl .and .i64 0 (-1)=some (.int .i64 0):=nr rfl
@[simp high] theorem Jbk:Xcl .and .i64 0 (-2)=some (.int .i64 0):=nr rfl
@[simp high] theorem Jbj:Xcl .and .i64 1 (-1)=some (.int .i64 1):=nr rfl
@[simp high] theorem Jbi:Xcl .and .i64 1 (-2)=some (.int .i64 0):=nr rfl
@[simp high] theorem Jcr:unA .xor (.int .i64 0)=some (.int .i64 (-1)):=nr rfl
@[simp high] theorem Jcq:unA .xor (.int .i64 1)=some (.int .i64 (-2)):=nr rfl
set_option maxRecDepth 100000 in
theorem f135(k:Nat)(hk:41<=k):PureC k 135 [.str sgText] (.sl none 7 (signs.map .str)):=by
 intro E st hE;obtain⟨k,rfl⟩:∃k',k=k'+40+1:=⟨k - 41,by omega⟩;refine Xai rfl rfl (by decide) fun s hs e0=>?_;have htab:tabs 1=some blanks:=rfl;have hbl:∀(n:Nat),n<256->blanks[n]?=some (.int .u8 (if 9<=n/\n<=13\/n=32 then 1 else 0)):=by intro n hn;simp only[blanks,List.getElem?_map,List.getElem?_range hn,Option.map_some]
 have hz:sgText.size=18:=rfl;have d0:sgText.data[0]'(by decide)=43:=rfl;have d1:sgText.data[1]'(by decide)=32:=rfl;have d2:sgText.data[2]'(by decide)=45:=rfl;have d3:sgText.data[3]'(by decide)=32:=rfl;have d4:sgText.data[4]'(by decide)=42:=rfl;have d5:sgText.data[5]'(by decide)=32:=rfl;have d6:sgText.data[6]'(by decide)=60:=rfl;have d7:sgText.data[7]'(by decide)=32:=rfl;have d8:sgText.data[8]'(by decide)=60:=rfl;have d9:sgText.data[9]'(by decide)=61:=rfl;have d10:sgText.data[10]'(by decide)=32:=rfl;have d11:sgText.data[11]'(by decide)=61:=rfl;have d12:sgText.data[12]'(by decide)=61:=rfl;have d13:sgText.data[13]'(by decide)=61:=rfl;have d14:sgText.data[14]'(by decide)=32:=rfl;have d15:sgText.data[15]'(by decide)=33:=rfl;have d16:sgText.data[16]'(by decide)=61:=rfl;have d17:sgText.data[17]'(by decide)=61:=rfl;have x0:sgText.extract 0 1=⟨#[43]⟩:=by decide+kernel
 have x1:sgText.extract 2 3=⟨#[45]⟩:=by decide+kernel
 have x2:sgText.extract 4 5=⟨#[42]⟩:=by decide+kernel
 have x3:sgText.extract 6 7=⟨#[60]⟩:=by decide+kernel
 have x4:sgText.extract 8 10=⟨#[60,61]⟩:=by decide+kernel
 have x5:sgText.extract 11 14=⟨#[61,61,61]⟩:=by decide+kernel
 have x6:sgText.extract 15 18=⟨#[33,61,61]⟩:=by decide+kernel
 have w1:∀n:Int,0<=n->n<=100->IntKind.i64.wrap n=n:=fun n h1 h2=>Xah (by omega);simp[hs,e0,Xvk,Xle,Xrw,htab,hbl,hz,w1,d0,d1,d2,d3,d4,d5,d6,d7,d8,d9,d10,d11,d12,d13,d14,d15,d16,d17,x0,x1,x2,x3,x4,x5,x6];have hmw:=Xaa hE;have hrob:E.rob<=st.H.length:=hE.rob;simp[hs,e0,Xvk,Xle,Xrw,htab,hbl,hz,w1,mkhA,List.replicate,Xag,wrC,hmw,frzA,hrob,d0,d1,d2,d3,d4,d5,d6,d7,d8,d9,d10,d11,d12,d13,d14,d15,d16,d17,x0,x1,x2,x3,x4,x5,x6];exact⟨Grow.appH _ _,rfl⟩
theorem f92(t:ByteArray)(k:Nat)(hk:50<=k):PureC k 92 [.str t] (.bool (decide (t∈signs))):=by
 intro E st hE;obtain⟨k,rfl⟩:=uK (k:=k) (by omega);refine Xai rfl rfl (by decide) fun s hs e0=>?_;have h1:=(f135 k (by omega)).full (E:=E) (st:=st) (by simp[signs]) hE;have h2:=(f134 none signs t (by decide) k (by simp[signs];omega)).full (E:=E) (st:=st) rfl hE;have hl:signs.length=7:=rfl;rw[hl]at h2;by_cases h:t=⟨#[]⟩
 ·subst h;have:¬(⟨#[]⟩:ByteArray)∈signs:=by decide+kernel
  simp[hs,e0,Grow.refl,this]
 ·generalize hq:(AV.sl none 7 (signs.map AV.str))=q at h1 h2;generalize ht':(⟨#[43,32,45,32,42,32,60,32,60,61,32,61,61,61,32,33,61,61]⟩:ByteArray)=u;have hu:u=sgText:=ht'.symm;simp[hs,e0,h,Grow.refl,h1,h2,hu]
theorem f149(c:Int)(k:Nat)(hk:1<=k):PureC k 149 [.int .u8 c] (.bool (Xev c)):=by
 intro E st hE;obtain⟨k,rfl⟩:=uK (k:=k) (by omega);refine Xai rfl rfl (by decide) fun s hs e0=>?_;simp[hs,e0];repeat' (refine Xaq (fun h=>?_) (fun h=>?_)<;>simp[*])
 all_goals simp[Xev,Grow.refl, *]
theorem f152(c:Int)(k:Nat)(hk:1<=k):PureC k 152 [.int .u8 c] (.bool (Xga c)):=by
 intro E st hE;obtain⟨k,rfl⟩:=uK (k:=k) (by omega);refine Xai rfl rfl (by decide) fun s hs e0=>?_;simp[hs,e0];repeat' (refine Xaq (fun h=>?_) (fun h=>?_)<;>simp[*])
 all_goals simp[Xga,Grow.refl, *]
theorem f171(k:Nat)(hk:1<=k):PureC k 171 [] (.str kwText):=by intro E st hE;obtain⟨k,rfl⟩:=uK (k:=k) (by omega);refine Xgw rfl rfl (by decide) fun s hs=>?_;simp[hs,Grow.refl];rfl
theorem f156(t:ByteArray)(k:Nat)(hk:1<=k):PureC k 156 [.str t] (.bool (decide (t∈signs))):=by
 intro E st hE;obtain⟨k,rfl⟩:=uK (k:=k) (by omega);refine Xai rfl rfl (by decide) fun s hs e0=>?_;simp[hs,e0];repeat' (refine Xaq (fun h=>?_) (fun h=>?_)<;>simp[*])
 all_goals simp[signs,Grow.refl, *]
def sgo(t:ByteArray):Nat->Nat->Nat->List ByteArray
 |0,_,_=> []
 |n+1,i,fr=>if i<t.size then(if t.data[i]?=some 32 then t.extract fr i::sgo t n (i+1) (i+1)else sgo t n (i+1) fr)else [t.extract fr i]
theorem Xwr:sgo kwText (kwText.size+1) 0 0=Xlw:=by decide+kernel
theorem f151(t:ByteArray)(k:Nat)(hk:300<=k):PureC k 151 [.str t] (.bool (Xc2 t)):=by
  intro E st hE;obtain⟨k,rfl⟩:=uK (k:=k) (by omega);refine Xai rfl rfl (by decide) fun s hs e0=>?_;have h1:=(f171 k (by omega)).full (E:=E) (st:=st) rfl hE;have hz:kwText.size<=250:=by decide+kernel
  have hS:=Xwr;generalize kwText=u at h1 hz hS;simp[hs,e0,h1]
  refine Xau (fun n s m st'=> ∃i fr:Nat,i<=u.size+1/\n=u.size+1 - i/\s.length=31/\m=[]/\st=st'/\fr<=i/\lk s 0=.str t/\lk s 3=.str u/\lk s 4=.int .i64 fr/\lk s 5=.int .i64 i/\
    (Xc2 t=true↔i<=u.size/\t∈sgo u (u.size+1 - i) i fr)) (u.size+1) (by omega) ⟨0,0,by simp[hs,e0,hS,Xc2]⟩ ?_
  rintro _ s m _ ⟨i,fr,hi,rfl,hs,rfl,rfl,hfr,e0,e3,e4,e5,hn⟩;have hw:=Xah (n:=(i:Int)+1) (by omega);by_cases h:i<=u.size
  ·rw[show u.size+1 - i=(u.size - i)+1 by omega,sgo]at hn;by_cases h2:i<u.size
   ·rw[if_pos h2]at hn;obtain⟨b,hb⟩:∃b,u.data[i]?=some b:=⟨_,Array.getElem?_eq_getElem h2⟩;have hb':u.data[i]'h2=b:=by rw[Array.getElem?_eq_getElem h2]at hb;simpa using hb
    rw[hb]at hn;by_cases h3:b=32
    ·subst h3;rw[if_pos rfl,List.mem_cons]at hn;by_cases h4:u.extract fr i=t
     ·simp[hs,e0,e3,e4,e5,h,h2,hb',h4,hfr,Grow.refl];rw[hn];simp[h4,h]
     ·simp[hs,e0,e3,e4,e5,h,h2,hb',h4,hfr,hw,Grow.refl];exact⟨_,by omega,i+1,i+1,by omega,rfl,by simp[hs],rfl,rfl,by omega,by simp[hs,e0],by simp[hs,e3],by simp[hs],by simp[hs],by rw[hn,show u.size+1 - (i+1)=u.size - i by omega];simp[Ne.symm h4,h];omega⟩
    ·rw[if_neg (by simpa using h3)]at hn;have h3':¬b.toNat=32:=fun e=>h3 (UInt8.toNat_inj.1 (by simpa using e));have h3'':¬(b.toNat:Int)=32:=by omega
     simp[hs,e0,e3,e4,e5,h,h2,hb',h3',h3'',hfr,hw,Xa1];exact⟨_,by omega,i+1,fr,by omega,rfl,by simp[hs],rfl,rfl,by omega,by simp[hs,e0],by simp[hs,e3],by simp[hs,e4],by simp[hs],by rw[hn,show u.size+1 - (i+1)=u.size - i by omega];simp[h];omega⟩
   ·rw[if_neg h2]at hn;have:i=u.size:=by omega
    subst this;by_cases h4:u.extract fr u.size=t
    ·simp[hs,e0,e3,e4,e5,h4,hfr,Grow.refl];rw[hn];simp[h4]
    ·simp[hs,e0,e3,e4,e5,h4,hfr,hw,Grow.refl];exact⟨0,by omega,u.size+1,u.size+1,by omega,by omega,by simp[hs],rfl,rfl,by omega,by simp[hs,e0],by simp[hs,e3],by simp[hs],by simp[hs],by rw[hn];simp[Ne.symm h4];omega⟩
  ·simp[hs,e0,e3,e4,e5,h,Grow.refl];cases hq:Xc2 t
   ·rfl
   ·exact absurd (hn.1 hq).1 h
theorem f111(t:ByteArray)(ht:t.size<=9223372036854775806)(k:Nat)(hk:t.size+1015<=k):PureC k 111 [.str t] (.bool (Xbq t)):=by
  intro E st hE;obtain⟨k,rfl⟩:=uK (k:=k) (by omega);refine Xai rfl rfl (by decide) fun s hs e0=>?_;rcases Xhu t with rfl|⟨b,r,hl,hb,hz,hn⟩
  ·simp[hs,e0,Grow.refl,Xbq]
  ·have hb':t.data[0]'hz=b:=by rw[Array.getElem?_eq_getElem hz]at hb;simpa using hb
   have h1:=fun c=>(f149 c k (by omega)).full (E:=E) (st:=st) rfl hE;have h2:=fun c=>(f152 c k (by omega)).full (E:=E) (st:=st) rfl hE;have h3:=(f151 t k (by omega)).full (E:=E) (st:=st) rfl hE;have hsz:t.size=(b::r).length:=by rw[<-hl];simp
   have hi:Xbq t=(Xev b.toNat && decide (nmL (b::r)=(b::r).length) && !Xc2 t):=by simp only[Xbq,hl]
   cases hc:Xev b.toNat
   ·simp[hs,e0,hn,hb,h1,hc,Grow.refl,hi]
   ·simp[hs,e0,hn,hb,h1,hc]
    refine Xau (fun n s m st'=> ∃i:Nat,1<=i/\i<=t.size/\n=t.size - i/\s.length=35/\m=[]/\st=st'/\lk s 0=.str t/\lk s 3=.int .i64 i/\
      Xbq t=(decide (nmL ((b::r).drop i)=t.size - i) && !Xc2 t)) (t.size - 1) (by omega) ⟨1,by omega,by omega,by omega,by simp[hs],rfl,rfl,by simp[hs,e0],by simp[hs],?_⟩ ?_
    ·rw[hi,hc,nmL,isLD,hc];simp[hsz]
    rintro _ s m _ ⟨i,hi1,hi2,rfl,hs,rfl,rfl,e0,e3,hq⟩;by_cases h:i<t.size
    ·obtain⟨c,hcc⟩:∃c,t.data[i]?=some c:=⟨_,Array.getElem?_eq_getElem h⟩;have hb':t.data[i]'h=c:=by rw[Array.getElem?_eq_getElem h]at hcc;simpa using hcc
     have hd:=Xes hcc;rw[hl]at hd;rw[hd,nmL,isLD]at hq;have hw:=Xah (n:=(i:Int)+1) (by omega);have hle:=Xsi ((b::r).drop (i+1));rw[List.length_drop,<-hsz]at hle;cases hlc:Xev c.toNat
     ·cases hdc:Xga c.toNat
      ·rw[if_neg (by simp[hlc,hdc])]at hq;have h5:Xbq t=false:=by rw[hq];simp;omega
       simp[hs,e0,e3,h,hb',h1,h2,hlc,hdc,Grow.refl,h5]
      ·rw[if_pos (by simp[hlc,hdc])]at hq;simp[hs,e0,e3,h,hb',h1,h2,hlc,hdc,hw];exact⟨_,by omega,i+1,by omega,by omega,rfl,by simp[hs],rfl,rfl,by simp[hs,e0],by simp[hs],by rw[hq];congr 1;rw[decide_eq_decide];omega⟩
     ·rw[if_pos (by simp[hlc])]at hq;simp[hs,e0,e3,h,hb',h1,h2,hlc,hw];exact⟨_,by omega,i+1,by omega,by omega,rfl,by simp[hs],rfl,rfl,by simp[hs,e0],by simp[hs],by rw[hq];congr 1;rw[decide_eq_decide];omega⟩
    ·rw[List.drop_eq_nil_of_le (by omega),nmL]at hq;have h5:Xbq t= !Xc2 t:=by rw[hq];simp;omega
     simp[hs,e0,e3,h,h3,Grow.refl,h5]
def T.op:T->Int|.mk op _ _ _ _=>op
def T.s:T->ByteArray|.mk _ s _ _ _=>s
def T.n:T->Int|.mk _ _ n _ _=>n
def T.l:T->List T|.mk _ _ _ l _=>l
def T.line:T->Int|.mk _ _ _ _ x=>x
@[simp] theorem T.op_mk(op s n l x):(T.mk op s n l x).op=op:=rfl
@[simp] theorem T.s_mk(op s n l x):(T.mk op s n l x).s=s:=rfl
@[simp] theorem T.n_mk(op s n l x):(T.mk op s n l x).n=n:=rfl
@[simp] theorem T.l_mk(op s n l x):(T.mk op s n l x).l=l:=rfl
@[simp] theorem T.line_mk(op s n l x):(T.mk op s n l x).line=x:=rfl
def ok64(n:Int):Prop:= -9223372036854775808<=n/\n<=9223372036854775807
mutual
/-- What Go itself says of a tree: its numbers are int64's, its texts and lists not too long. -/
def T.ok:T->Prop
 |.mk op s n l x=>s.size<=1000000000000000000/\l.length<=1073741824/\ok64 op/\ok64 n/\ok64 x/\T.okL l
def T.okL:List T->Prop
 |[]=>True
 |t::r=>t.ok/\T.okL r
end
mutual
/-- How much there is of a tree: parts, and letters. -/
def T.wt:T->Nat
 |.mk _ s _ l _=>1+s.size+T.wtL l
def T.wtL:List T->Nat
 |[]=>0
 |t::r=>t.wt+T.wtL r
end
theorem T.okL_get:∀{l:List T} {i:Nat} {t:T},T.okL l->l[i]?=some t->t.ok
 |[],i,t,_,h=>by simp at h
 |a::r,0,t,h,e=>by simp at e;subst e;exact h.1
 |a::r,i+1,t,h,e=>T.okL_get h.2 (by simpa using e)
theorem T.wtL_get:∀{l:List T} {i:Nat} {t:T},l[i]?=some t->t.wt<=T.wtL l
 |[],i,t,h=>by simp at h
 |a::r,0,t,e=>by simp at e;subst e;simp only[T.wtL];omega
 |a::r,i+1,t,e=>by have:=T.wtL_get (l:=r) (i:=i) (t:=t) (by simpa using e);simp only[T.wtL];omega
theorem T.len_wtL:∀l:List T,l.length<=T.wtL l
 |[]=>by simp
 |.mk _ _ _ _ _::r=>by have:=T.len_wtL r;simp only[T.wtL,T.wt,List.length_cons];omega
theorem T.g_op{l:List T}{i:Nat}{t:T}(h:l[i]?=some t)(hh):(T.encL l)[i*5]'hh=.int .i64 t.op:=by have:=T.cell0 h;rw[List.getElem?_eq_getElem hh]at this;obtain⟨op,s,n,l0,x⟩:=t;simpa using this
theorem T.g_s{l:List T}{i:Nat}{t:T}(h:l[i]?=some t)(hh):(T.encL l)[i*5+1]'hh=.str t.s:=by have:=T.cell h 1 (by omega);rw[List.getElem?_eq_getElem hh]at this;obtain⟨op,s,n,l0,x⟩:=t;simpa using this
def isE(op:Int):Bool:=decide (1<=op) && decide (op<=23) && decide (op≠12)
def isS(op:Int):Bool:=decide (30<=op) && decide (op<=41)
inductive TX where
 |name|none|any|fname|mem|sign
def TX.ok(s:ByteArray):TX->Bool
 |.name=>Xbq s
 |.none=>decide (s=⟨#[]⟩)
 |.any=>true
 |.fname=>decide (s=⟨#[]⟩)||Xbq s
 |.mem=>Xbq s||Xc2 s
 |.sign=>decide (s∈signs)
def forms:List (Int×TX×Int×Int):=[(1,.name,0,0),(2,.none,0,0),(3,.any,0,0),(4,.none,0,0),(5,.none,0,0),(6,.none,0,0),(7,.none,0,0),(8,.none,0,0),(9,.none,0,0),
 (10,.fname,1,201),(11,.none,0,200),(12,.any,1,1),(13,.mem,1,1),(14,.none,2,2),(15,.none,1,200),(16,.none,1,200),(17,.none,2,2),(18,.sign,2,2),(19,.none,1,1),(20,.none,1,1),
 (21,.none,2,2),(22,.none,2,2),(23,.none,3,3),(30,.name,0,1),(31,.none,1,1),(32,.none,0,1073741824),(33,.none,2,3),(34,.none,2,2),(35,.name,2,2),(36,.none,0,1),(37,.none,1,1),
 (38,.name,2,2),(39,.none,0,0),(40,.none,0,0),(41,.name,1,201)]
def Xaw(op:Int):Option (TX×Int×Int):=(forms.find? fun p=>decide (op=p.1)).map (·.2)
def Xbc(op:Int)(len i:Nat)(x:Int):Bool:=
 if op=10\/op=41 then(if i+1=len then decide (x=32)else decide (x=1))
 else if op=11 then decide (x=12)
 else if op=32 then isS x
 else if op=17/\i=0 then decide (x=1)||decide (x=13)||decide (x=14)
 else if op=38 then decide (x=32)
 else if(op=33\/op=34\/op=35)/\0<i then decide (x=32)
 else isE x
def okN(op n:Int):Bool:=decide (n=0)||(decide (op=2) && decide (0<=n) && decide (n<=999999999999999))
def fitL(f:T->Bool)(op:Int)(len:Nat):Nat->List T->Bool
 |_,[]=>true
 |i,x::r=>Xbc op len i x.op && f x && fitL f op len (i+1) r
def okF(op:Int)(s:ByteArray)(len:Nat):Bool:=match Xaw op with
 |none=>false
 |some (tx,a,b)=>tx.ok s && (decide (a<=len) && decide ((len:Int)<=b))
def fit:Nat->T->Bool
 |0,_=>false
 |h+1,.mk op s n l _=>okF op s l.length && okN op n && fitL (fit h) op l.length 0 l
def rAll(h:Nat)(l:List T):Bool:=l.all fun x=>isE x.op && fit h x
def rBlk(h:Nat)(t:T):Bool:=decide (t.op=32) && fit h t
def rFun(h:Nat)(l:List T):Bool:=decide (1<=l.length) && decide (l.length<=201) && fitL (fit h) 10 l.length 0 l
def RE(h:Nat):Prop:=∀(t:T),t.ok->∀k,t.wt+3*h+1100<=k->PureC k 113 [.agg t.enc,.int .i64 h] (.bool (isE t.op && fit h t))
def RS(h:Nat):Prop:=∀(t:T),t.ok->∀k,t.wt+3*h+1100<=k->PureC k 76 [.agg t.enc,.int .i64 h] (.bool (isS t.op && fit h t))
theorem f112{h:Nat}(hE':RE h)(l:List T)(hl:T.okL l)(hlen:l.length<=1073741824)(k:Nat)(hk:T.wtL l+3*h+1102<=k):PureC k 112 [.sl none l.length (T.encL l),.int .i64 h] (.bool (rAll h l)):=by
 intro E st hE;obtain⟨k,rfl⟩:=uK (k:=k) (by omega);refine Xaz rfl rfl (by decide) fun s hs e0 e1=>?_;have hlw:=T.len_wtL l;simp[hs,e0,e1]
 refine Xau (fun n s m st'=> ∃i:Nat,i<=l.length/\n=l.length - i/\s.length=19/\m=[]/\st=st'/\lk s 0=.sl none l.length (T.encL l)/\lk s 1=.int .i64 h/\lk s 5=.int .i64 i/\
  rAll h l=rAll h (l.drop i)) l.length (by omega) ⟨0,by simp[hs,e0,e1]⟩ ?_
 rintro _ s m _ ⟨i,hi,rfl,hs,rfl,rfl,e0,e1,e5,hq⟩;by_cases hc:i<l.length
 ·obtain⟨t,hg⟩:∃t,l[i]?=some t:=⟨_,List.getElem?_eq_getElem hc⟩;have h1:=(hE' t (T.okL_get hl hg) k (by have:=T.wtL_get hg;omega)).full (E:=E) (st:=st) rfl hE;rw[T.drop_cons hg]at hq;have hq:rAll h l=(isE t.op && fit h t && rAll h (l.drop (i+1))):=by rw[hq];simp[rAll]
  have hw:=Xah (n:=(i:Int)+1) (by omega);cases hb:isE t.op && fit h t
  ·rw[hb]at hq h1;simp[hs,e0,e1,e5,hc,T.rd hg,h1,Grow.refl,hq]
  ·rw[hb]at hq h1;simp[hs,e0,e1,e5,hc,T.rd hg,h1,hw];exact⟨_,by omega,i+1,by omega,rfl,by simp[hs],rfl,rfl,by simp[hs,e0],by simp[hs,e1],by simp[hs],by rw[hq];simp⟩
 ·have hq:rAll h l=true:=by rw[hq,List.drop_eq_nil_of_le (by omega)];rfl
  simp[hs,e0,e1,e5,hc,Grow.refl,hq]
theorem f48{h:Nat}(hS':RS h)(t:T)(ht:t.ok)(k:Nat)(hk:t.wt+3*h+1101<=k):PureC k 48 [.agg t.enc,.int .i64 h] (.bool (rBlk h t)):=by
 intro E st hE;obtain⟨k,rfl⟩:=uK (k:=k) (by omega);refine Xaz rfl rfl (by decide) fun s hs e0 e1=>?_;have h1:=(hS' t ht k (by omega)).full (E:=E) (st:=⟨st.H++ [.cells 24 t.enc],st.I⟩) rfl (hE.of (by simp) (by simp));obtain⟨op,s0,nn,l,line⟩:=t;simp only[T.enc]at h1;by_cases hc:op=32
 ·subst hc;simp[hs,e0,e1,h1,Grow.appH,rBlk,isS]
 ·simp[hs,e0,e1,h1,hc,Grow.appH,rBlk]
theorem Xus(f:T->Bool)(len:Nat):∀i l,i+l.length=len->fitL f 10 len i l=(match l with|[]=>true|x::r=>if r=[]then decide (x.op=32) && f x else decide (x.op=1) && f x && fitL f 10 len (i+1) r)
 |i,[],h=>rfl
 |i,x::[],h=>by simp[fitL,Xbc,show i+1=len by simpa using h]
 |i,x::y::r,h=>by
  have hne:¬i+1=len:=by simp at h;omega
  simp only[fitL,Xbc,true_or,if_true,if_neg hne,reduceCtorEq,if_false]
theorem f114{h:Nat}(hE':RE h)(hS':RS h)(l:List T)(hl:T.okL l)(hlen:l.length<=1073741824)(k:Nat)(hk:T.wtL l+3*h+1103<=k):PureC k 114 [.sl none l.length (T.encL l),.int .i64 h] (.bool (rFun h l)):=by
 intro E st hE;obtain⟨k,rfl⟩:=uK (k:=k) (by omega);refine Xaz rfl rfl (by decide) fun s hs e0 e1=>?_;have hlw:=T.len_wtL l;by_cases hl1:l.length<1
 ·have:rFun h l=false:=by simp[rFun];omega
  have hl1':(l.length:Int)<1:=by omega
  simp[hs,e0,e1,hl1',this,Grow.refl]
 have hl1':¬(l.length:Int)<1:=by omega
 by_cases hl2:201<l.length
 ·have:rFun h l=false:=by simp[rFun];omega
  have hl2':(201:Int)<l.length:=by omega
  simp[hs,e0,e1,hl1',hl2',this,Grow.refl]
 have hl2':¬(201:Int)<l.length:=by omega
 have hq0:rFun h l=fitL (fit h) 10 l.length 0 l:=by
  have h1:1<=l.length:=by omega
  have h2:l.length<=201:=by omega
  simp only[rFun,h1,h2,decide_true,Bool.true_and]
 simp[hs,e0,e1,hl1',hl2'];have hwm:=Xah (n:=(l.length:Int) - 1) (by omega)
 refine Xau (fun n s m st'=> ∃i:Nat,i+1<=l.length/\n=l.length - 1 - i/\s.length=44/\m=[]/\st=st'/\lk s 0=.sl none l.length (T.encL l)/\lk s 1=.int .i64 h/\lk s 5=.int .i64 i/\
  rFun h l=fitL (fit h) 10 l.length i (l.drop i)) (l.length - 1) (by omega) ⟨0,by omega,by omega,by simp[hs],rfl,rfl,by simp[hs,e0],by simp[hs,e1],by simp[hs],hq0⟩ ?_
 rintro _ s m _ ⟨i,hi,rfl,hs,rfl,rfl,e0,e1,e5,hq⟩;obtain⟨t,hg⟩:∃t,l[i]?=some t:=⟨_,List.getElem?_eq_getElem (by omega)⟩;have hil:i<l.length:=by omega
 rw[T.drop_cons hg,Xus _ _ _ _ (by rw[<-T.drop_cons hg];simp;omega)]at hq;by_cases hc:i+1<l.length
 ·have hc':(i:Int)<l.length - 1:=by omega
  have hne:l.drop (i+1)≠ []:=by simp;omega
  simp only[hne,if_false]at hq;have h1:=(hE' t (T.okL_get hl hg) k (by have:=T.wtL_get hg;omega)).full (E:=E) (st:=st) rfl hE;have hw:=Xah (n:=(i:Int)+1) (by omega);have hc0:=T.g_op hg;obtain⟨op,s0,nn,l0,line⟩:=t;simp only[T.enc,T.op_mk]at hc0 h1 hq;by_cases hb:op=1
  ·subst hb;cases hf:fit h (.mk 1 s0 nn l0 line)
   ·rw[hf]at hq h1;simp at hq h1;simp[hs,e0,e1,e5,hwm,hc',hil,hc0,T.rd hg,h1,Grow.refl,hq]
   ·rw[hf]at hq h1;simp[isE]at hq h1;simp[hs,e0,e1,e5,hwm,hc',hil,hc0,T.rd hg,h1,hw];exact⟨_,by omega,i+1,by omega,rfl,by simp[hs],rfl,rfl,by simp[hs,e0],by simp[hs,e1],by simp[hs],by rw[hq]⟩
  ·simp[hs,e0,e1,e5,hwm,hc',hil,hc0,T.rd hg,hb,Grow.refl,hq]
 ·have hi':i=l.length - 1:=by omega
  have hc':¬(i:Int)<l.length - 1:=by omega
  have he:l.drop (i+1)=[]:=List.drop_eq_nil_of_le (by omega);simp only[he,if_true]at hq;have h1:=(f48 hS' t (T.okL_get hl hg) k (by have:=T.wtL_get hg;omega)).full (E:=E) (st:=st) rfl hE;have hi2:(l.length:Int) - 1=(i:Nat):=by omega
  have hrd:=T.rd hg;have hwi:=Xah (n:=(i:Int)) (by omega);simp[hs,e0,e1,e5,hwi,hi2,hil,hrd,h1,Grow.refl,hq,rBlk]
theorem Xl7(f:T->Bool)(op:Int)(len:Nat)(h:∀i x,Xbc op len i x=isE x):∀i l,fitL f op len i l=l.all fun x=>isE x.op && f x
 |i,[]=>rfl
 |i,x::r=>by simp only[fitL,h,Xl7 f op len h (i+1) r,List.all_cons]
theorem Xbo(g:Nat)(op:Int)(len i:Nat)(l:List T)(h:∀i x,Xbc op len i x=isE x):fitL (fit g) op len i l=rAll g l:=Xl7 _ _ _ h _ _
theorem Xdz(a x:Int):(decide (a<=x) && decide (x<=a))=decide (x=a):=by rw[<-Bool.decide_and,decide_eq_decide];omega
theorem Xux{h:Nat}(hh:h<=1000)(hR:∀g,g<h->RE g/\RS g)(t:T)(ht:t.ok)(k:Nat)(hk:t.wt+3*h+1100<=k)(ho:t.op=11):PureC k 113 [.agg t.enc,.int .i64 h] (.bool (isE t.op && fit h t)):=by
 intro E st hE;obtain⟨k,rfl⟩:=uK (k:=k) (by omega);obtain⟨op,s0,nn,l,line⟩:=t;simp only[T.op_mk]at ho;subst ho;refine Xaz rfl rfl (by decide) fun s hs e0 e1=>?_;rcases h with _|g
 ·simp[hs,e0,e1,fit,Grow.appH]
 obtain⟨ht1,ht2, -, -, -,ht3⟩:=ht;simp only[T.wt]at hk;have hlw:=T.len_wtL l;have hg1:¬(g:Int)+1<1:=by omega
 have hE1:E.Wf ⟨st.H++ [.cells 24 [.int .i64 11,.str s0,.int .i64 nn,.sl none l.length (T.encL l),.int .i64 line]],st.I⟩:=hE.of (by simp) (by simp);have c111:=(f111 s0 (by omega) k (by omega)).full rfl hE1;have c151:=(f151 s0 k (by omega)).full rfl hE1;have c156:=(f156 s0 k (by omega)).full rfl hE1;have c112:=(f112 (hR g (by omega)).1 l ht3 ht2 k (by omega)).full rfl hE1;have c114:=(f114 (hR g (by omega)).1 (hR g (by omega)).2 l ht3 ht2 k (by omega)).full rfl hE1;have hwg:=Xah (n:=(g:Int)) (by omega);have hie:isE 11=true:=rfl
 have hf:fit (g+1) (.mk 11 s0 nn l line)=(decide (s0=⟨#[]⟩) && decide ((l.length:Int)<=200) && decide (nn=0) && fitL (fit g) 11 l.length 0 l):=by
  have h0:(0:Int)<=l.length:=by omega
  simp[fit,okF,Xaw,forms,TX.ok,okN,h0]
 simp only[T.op_mk,hf,hie];by_cases hs0:s0=⟨#[]⟩;rotate_left
 ·simp[hs,e0,e1,hg1,c111,c151,hs0,Grow.appH]
 by_cases hn0:nn=0;rotate_left
 ·subst hs0;simp[hs,e0,e1,hg1,c111,c151,hn0,Grow.appH]
 by_cases hk2:(200:Int)<l.length
 ·have hk3:¬(l.length:Int)<=200:=by omega
  subst hs0 hn0;simp[hs,e0,e1,hg1,c111,c151,hk2,hk3,Grow.appH]
 have hk3:(l.length:Int)<=200:=by omega
 subst hs0 hn0;simp[hs,e0,e1,hg1,c111,c151,hk2,hk3];generalize hq0:fitL (fit g) 11 l.length 0 l=res;have hnil:T.wtL l=T.wtL l:=rfl
 refine Xau (fun n s m st'=> ∃(i:Nat) (J:List ABlk),i<=l.length/\n=l.length - i/\s.length=295/\m=[]/\
  st'=⟨st.H++(.cells 24 [.int .i64 11,.str ⟨#[]⟩,.int .i64 0,.sl none l.length (T.encL l),.int .i64 line]::J),st.I⟩/\lk s 1=.int .i64 (g+1)/\lk s 2=.ptr st.H.length 0/\lk s 7=.int .i64 l.length/\lk s 9=.int .i64 i/\
  fitL (fit g) 11 l.length i (l.drop i)=res) l.length (by omega) ⟨0,[],by omega,by omega,by simp[hs],rfl,rfl,by simp[hs,e1],by simp[hs],by simp[hs],by simp[hs],hq0⟩ ?_
 clear e0 e1 hs;rintro _ s m _ ⟨i,J,hi,rfl,hs,rfl,rfl,e1,e2,e7,e9,hq⟩;by_cases hc:i<l.length
 ·obtain⟨t,hg⟩:∃t,l[i]?=some t:=⟨_,List.getElem?_eq_getElem hc⟩;rw[T.drop_cons hg]at hq;simp only[fitL]at hq;have hpo:∀x,Xbc 11 l.length i x=decide (x=12):=fun x=>by simp[Xbc]
  rw[hpo]at hq;have hok:=T.okL_get ht3 hg;have hwt:=T.wtL_get hg;have hrd:=T.rd hg;have hw:=Xah (n:=(i:Int)+1) (by omega);have hmw:=Xaa hE;obtain⟨po,ps,pn,pl,px⟩:=t;simp only[T.enc]at hrd;simp only[T.op_mk]at hq;obtain⟨-,hok2, -, -, -,hok3⟩:=hok;simp only[T.wt]at hwt;rcases g with _|g'
  ·simp only[fit,Bool.and_false,Bool.false_and]at hq;subst hq;simp[hs,e1,e2,e7,e9,hc,hrd,Xag,hmw,wrC];exact⟨List.prefix_append _ _,List.prefix_rfl⟩
  ·have hg2:¬(g':Int)+1+1<2:=by omega
   by_cases x12:po=12;rotate_left
   ·simp only[x12,decide_false,Bool.false_and]at hq;subst hq;simp[hs,e1,e2,e7,e9,hc,hrd,Xag,hmw,wrC,hg2,x12];exact⟨List.prefix_append _ _,List.prefix_rfl⟩
   subst x12;have hfp:fit (g'+1) (.mk 12 ps pn pl px)=(decide ((pl.length:Int)=1) && decide (pn=0) && rAll g' pl):=by simp[fit,okF,Xaw,forms,TX.ok,okN,Xdz,Xbo,Xbc]
   rw[hfp]at hq;by_cases xn:pn=0;rotate_left
   ·simp only[xn,decide_false,Bool.false_and,Bool.and_false]at hq;subst hq;simp[hs,e1,e2,e7,e9,hc,hrd,Xag,hmw,wrC,hg2,xn];exact⟨List.prefix_append _ _,List.prefix_rfl⟩
   subst xn;by_cases xl:(pl.length:Int)=1;rotate_left
   ·simp only[xl,decide_false,Bool.false_and,Bool.and_false]at hq;subst hq;simp[hs,e1,e2,e7,e9,hc,hrd,Xag,hmw,wrC,hg2,xl];exact⟨List.prefix_append _ _,List.prefix_rfl⟩
   obtain⟨c,rfl⟩:∃c,pl=[c]:=by
    rcases pl with _|⟨c,_|⟨d,r⟩⟩
    ·simp at xl
    ·exact⟨c,rfl⟩
    ·simp at xl;omega
   have hcok:c.ok:=hok3.1;simp only[T.wtL]at hwt;have c113:=fun st' (hw:E.Wf st')=>((hR g' (by omega)).1 c hcok k (by omega)).full (E:=E) (st:=st') rfl hw;have hra:rAll g' [c]=(isE c.op && fit g' c):=by simp[rAll]
   rw[hra]at hq;have hw2:IntKind.i64.wrap ((g':Int)+1+1 - 2)=g':=by rw[show(g':Int)+1+1 - 2=g' by omega];exact Xah (by omega)
   have hrc:rdC (some 5) c.enc 0=some (.agg c.enc):=by cases c;rfl
   have hwf:∀x,E.Wf ⟨st.H++x,st.I⟩:=fun x=>hE.of (by simp) (by simp);cases hb:isE c.op && fit g' c
   ·rw[hb]at hq c113;simp at hq;subst hq;simp[hs,e1,e2,e7,e9,hc,hrd,Xag,hmw,wrC,hg2,hrc,hw2,c113,hwf];exact⟨List.prefix_append _ _,List.prefix_rfl⟩
   ·rw[hb]at hq c113;simp at hq;simp[hs,e1,e2,e7,e9,hc,hrd,Xag,hmw,wrC,hg2,hrc,hw2,c113,hwf,hw];exact⟨_,by omega,i+1,_,by omega,rfl,by simp[hs],rfl,rfl,by simp[hs,e1],by simp[hs,e2],by simp[hs,e7],by simp[hs],hq⟩
 ·have hq:res=true:=by rw[<-hq,List.drop_eq_nil_of_le (by omega)];rfl
  simp[hs,e1,e2,e7,e9,hc,hq];exact⟨⟨List.prefix_append _ _,List.prefix_rfl⟩,hk3⟩
theorem Jer{h:Nat}(hh:h<=1000)(hR:∀g,g<h->RE g/\RS g):RE h:=by
  intro t ht k hk E st hE;by_cases o11:t.op=11
  ·exact Xux hh hR t ht k hk o11 E st hE
  obtain⟨k,rfl⟩:=uK (k:=k) (by omega);obtain⟨op,s0,nn,l,line⟩:=t;simp only[T.op_mk]at o11;refine Xaz rfl rfl (by decide) fun s hs e0 e1=>?_;rcases h with _|g
  ·simp[hs,e0,e1,fit,Grow.appH]
  obtain⟨ht1,ht2, -, -, -,ht3⟩:=ht;simp only[T.wt]at hk;have hlw:=T.len_wtL l;have hg1:¬(g:Int)+1<1:=by omega
  have hE1:E.Wf ⟨st.H++ [.cells 24 [.int .i64 op,.str s0,.int .i64 nn,.sl none l.length (T.encL l),.int .i64 line]],st.I⟩:=hE.of (by simp) (by simp);have c111:=(f111 s0 (by omega) k (by omega)).full rfl hE1;have c151:=(f151 s0 k (by omega)).full rfl hE1;have c156:=(f156 s0 k (by omega)).full rfl hE1;have c112:=(f112 (hR g (by omega)).1 l ht3 ht2 k (by omega)).full rfl hE1;have c114:=(f114 (hR g (by omega)).1 (hR g (by omega)).2 l ht3 ht2 k (by omega)).full rfl hE1;have hwg:=Xah (n:=(g:Int)) (by omega);by_cases o1:op=1
  ·subst o1;have hie:isE 1=true:=rfl
   have hf:fit (g+1) (.mk 1 s0 nn l line)=(Xbq s0 && decide ((l.length:Int)=0) && decide (nn=0)):=by
     rcases l with _|⟨a,r⟩
     ·simp[fit,okF,Xaw,forms,TX.ok,okN,fitL]
     ·have h1:¬(r.length:Int)+1<=0:=by omega
      have h2:¬(r.length:Int)+1=0:=by omega
      simp[fit,okF,Xaw,forms,TX.ok,okN,h1,h2]
   simp only[T.op_mk,hf,hie];simp[hs,e0,e1,hg1,c111,c151];repeat' (first|(with_reducible refine Xaq (fun h=>?_) (fun h=>?_))<;>(try subst h)<;>simp[*]|(refine Xat (fun h=>?_) (fun h=>?_)<;>simp[*]))
   all_goals simp[Grow.appH, *]
  by_cases o2:op=2
  ·subst o2;have hie:isE 2=true:=rfl
   have hf:fit (g+1) (.mk 2 s0 nn l line)=(decide (s0=⟨#[]⟩) && decide ((l.length:Int)=0) && (decide (nn=0)||(decide (0<=nn) && decide (nn<=999999999999999)))):=by
     rcases l with _|⟨a,r⟩
     ·simp[fit,okF,Xaw,forms,TX.ok,okN,fitL]
     ·have h1:¬(r.length:Int)+1<=0:=by omega
      have h2:¬(r.length:Int)+1=0:=by omega
      simp[fit,okF,Xaw,forms,TX.ok,okN,h1,h2]
   simp only[T.op_mk,hf,hie];simp[hs,e0,e1,hg1,c111,c151];repeat' (first|(with_reducible refine Xaq (fun h=>?_) (fun h=>?_))<;>(try subst h)<;>simp[*]|(refine Xat (fun h=>?_) (fun h=>?_)<;>simp[*]))
   all_goals simp[Grow.appH, *]
   all_goals (intros;omega)
  by_cases o3:op=3
  ·subst o3;have hie:isE 3=true:=rfl
   have hf:fit (g+1) (.mk 3 s0 nn l line)=(decide ((l.length:Int)=0) && decide (nn=0)):=by
     rcases l with _|⟨a,r⟩
     ·simp[fit,okF,Xaw,forms,TX.ok,okN,fitL]
     ·have h1:¬(r.length:Int)+1<=0:=by omega
      have h2:¬(r.length:Int)+1=0:=by omega
      simp[fit,okF,Xaw,forms,TX.ok,okN,h1,h2]
   simp only[T.op_mk,hf,hie];simp[hs,e0,e1,hg1,c111,c151];repeat' (first|(with_reducible refine Xaq (fun h=>?_) (fun h=>?_))<;>(try subst h)<;>simp[*]|(refine Xat (fun h=>?_) (fun h=>?_)<;>simp[*]))
   all_goals simp[Grow.appH, *]
  by_cases o4:op=4
  ·subst o4;have hie:isE 4=true:=rfl
   have hf:fit (g+1) (.mk 4 s0 nn l line)=(decide (s0=⟨#[]⟩) && decide ((l.length:Int)=0) && decide (nn=0)):=by
     rcases l with _|⟨a,r⟩
     ·simp[fit,okF,Xaw,forms,TX.ok,okN,fitL]
     ·have h1:¬(r.length:Int)+1<=0:=by omega
      have h2:¬(r.length:Int)+1=0:=by omega
      simp[fit,okF,Xaw,forms,TX.ok,okN,h1,h2]
   simp only[T.op_mk,hf,hie];simp[hs,e0,e1,hg1,c111,c151];repeat' (first|(with_reducible refine Xaq (fun h=>?_) (fun h=>?_))<;>(try subst h)<;>simp[*]|(refine Xat (fun h=>?_) (fun h=>?_)<;>simp[*]))
   all_goals simp[Grow.appH, *]
  by_cases o5:op=5
  ·subst o5;have hie:isE 5=true:=rfl
   have hf:fit (g+1) (.mk 5 s0 nn l line)=(decide (s0=⟨#[]⟩) && decide ((l.length:Int)=0) && decide (nn=0)):=by
     rcases l with _|⟨a,r⟩
     ·simp[fit,okF,Xaw,forms,TX.ok,okN,fitL]
     ·have h1:¬(r.length:Int)+1<=0:=by omega
      have h2:¬(r.length:Int)+1=0:=by omega
      simp[fit,okF,Xaw,forms,TX.ok,okN,h1,h2]
   simp only[T.op_mk,hf,hie];simp[hs,e0,e1,hg1,c111,c151];repeat' (first|(with_reducible refine Xaq (fun h=>?_) (fun h=>?_))<;>(try subst h)<;>simp[*]|(refine Xat (fun h=>?_) (fun h=>?_)<;>simp[*]))
   all_goals simp[Grow.appH, *]
  by_cases o6:op=6
  ·subst o6;have hie:isE 6=true:=rfl
   have hf:fit (g+1) (.mk 6 s0 nn l line)=(decide (s0=⟨#[]⟩) && decide ((l.length:Int)=0) && decide (nn=0)):=by
     rcases l with _|⟨a,r⟩
     ·simp[fit,okF,Xaw,forms,TX.ok,okN,fitL]
     ·have h1:¬(r.length:Int)+1<=0:=by omega
      have h2:¬(r.length:Int)+1=0:=by omega
      simp[fit,okF,Xaw,forms,TX.ok,okN,h1,h2]
   simp only[T.op_mk,hf,hie];simp[hs,e0,e1,hg1,c111,c151];repeat' (first|(with_reducible refine Xaq (fun h=>?_) (fun h=>?_))<;>(try subst h)<;>simp[*]|(refine Xat (fun h=>?_) (fun h=>?_)<;>simp[*]))
   all_goals simp[Grow.appH, *]
  by_cases o7:op=7
  ·subst o7;have hie:isE 7=true:=rfl
   have hf:fit (g+1) (.mk 7 s0 nn l line)=(decide (s0=⟨#[]⟩) && decide ((l.length:Int)=0) && decide (nn=0)):=by
     rcases l with _|⟨a,r⟩
     ·simp[fit,okF,Xaw,forms,TX.ok,okN,fitL]
     ·have h1:¬(r.length:Int)+1<=0:=by omega
      have h2:¬(r.length:Int)+1=0:=by omega
      simp[fit,okF,Xaw,forms,TX.ok,okN,h1,h2]
   simp only[T.op_mk,hf,hie];simp[hs,e0,e1,hg1,c111,c151];repeat' (first|(with_reducible refine Xaq (fun h=>?_) (fun h=>?_))<;>(try subst h)<;>simp[*]|(refine Xat (fun h=>?_) (fun h=>?_)<;>simp[*]))
   all_goals simp[Grow.appH, *]
  by_cases o8:op=8
  ·subst o8;have hie:isE 8=true:=rfl
   have hf:fit (g+1) (.mk 8 s0 nn l line)=(decide (s0=⟨#[]⟩) && decide ((l.length:Int)=0) && decide (nn=0)):=by
     rcases l with _|⟨a,r⟩
     ·simp[fit,okF,Xaw,forms,TX.ok,okN,fitL]
     ·have h1:¬(r.length:Int)+1<=0:=by omega
      have h2:¬(r.length:Int)+1=0:=by omega
      simp[fit,okF,Xaw,forms,TX.ok,okN,h1,h2]
   simp only[T.op_mk,hf,hie];simp[hs,e0,e1,hg1,c111,c151];repeat' (first|(with_reducible refine Xaq (fun h=>?_) (fun h=>?_))<;>(try subst h)<;>simp[*]|(refine Xat (fun h=>?_) (fun h=>?_)<;>simp[*]))
   all_goals simp[Grow.appH, *]
  by_cases o9:op=9
  ·subst o9;have hie:isE 9=true:=rfl
   have hf:fit (g+1) (.mk 9 s0 nn l line)=(decide (s0=⟨#[]⟩) && decide ((l.length:Int)=0) && decide (nn=0)):=by
     rcases l with _|⟨a,r⟩
     ·simp[fit,okF,Xaw,forms,TX.ok,okN,fitL]
     ·have h1:¬(r.length:Int)+1<=0:=by omega
      have h2:¬(r.length:Int)+1=0:=by omega
      simp[fit,okF,Xaw,forms,TX.ok,okN,h1,h2]
   simp only[T.op_mk,hf,hie];simp[hs,e0,e1,hg1,c111,c151];repeat' (first|(with_reducible refine Xaq (fun h=>?_) (fun h=>?_))<;>(try subst h)<;>simp[*]|(refine Xat (fun h=>?_) (fun h=>?_)<;>simp[*]))
   all_goals simp[Grow.appH, *]
  by_cases o13:op=13
  ·subst o13;have hie:isE 13=true:=rfl;have hf:fit (g+1) (.mk 13 s0 nn l line)=((Xbq s0||Xc2 s0) && decide ((l.length:Int)=1) && decide (nn=0) && rAll g l):=by simp[fit,okF,Xaw,forms,TX.ok,okN,Xdz,Xbo,Xbc]
   simp only[T.op_mk,hf,hie];simp[hs,e0,e1,hg1,c111,c151];repeat' (first|(with_reducible refine Xaq (fun h=>?_) (fun h=>?_))<;>(try subst h)<;>simp[*]|(refine Xat (fun h=>?_) (fun h=>?_)<;>simp[*]))
   all_goals simp[Grow.appH, *]
  by_cases o14:op=14
  ·subst o14;have hie:isE 14=true:=rfl;have hf:fit (g+1) (.mk 14 s0 nn l line)=(decide (s0=⟨#[]⟩) && decide ((l.length:Int)=2) && decide (nn=0) && rAll g l):=by simp[fit,okF,Xaw,forms,TX.ok,okN,Xdz,Xbo,Xbc]
   simp only[T.op_mk,hf,hie];simp[hs,e0,e1,hg1,c111,c151];repeat' (first|(with_reducible refine Xaq (fun h=>?_) (fun h=>?_))<;>(try subst h)<;>simp[*]|(refine Xat (fun h=>?_) (fun h=>?_)<;>simp[*]))
   all_goals simp[Grow.appH, *]
  by_cases o21:op=21
  ·subst o21;have hie:isE 21=true:=rfl;have hf:fit (g+1) (.mk 21 s0 nn l line)=(decide (s0=⟨#[]⟩) && decide ((l.length:Int)=2) && decide (nn=0) && rAll g l):=by simp[fit,okF,Xaw,forms,TX.ok,okN,Xdz,Xbo,Xbc]
   simp only[T.op_mk,hf,hie];simp[hs,e0,e1,hg1,c111,c151];repeat' (first|(with_reducible refine Xaq (fun h=>?_) (fun h=>?_))<;>(try subst h)<;>simp[*]|(refine Xat (fun h=>?_) (fun h=>?_)<;>simp[*]))
   all_goals simp[Grow.appH, *]
  by_cases o22:op=22
  ·subst o22;have hie:isE 22=true:=rfl;have hf:fit (g+1) (.mk 22 s0 nn l line)=(decide (s0=⟨#[]⟩) && decide ((l.length:Int)=2) && decide (nn=0) && rAll g l):=by simp[fit,okF,Xaw,forms,TX.ok,okN,Xdz,Xbo,Xbc]
   simp only[T.op_mk,hf,hie];simp[hs,e0,e1,hg1,c111,c151];repeat' (first|(with_reducible refine Xaq (fun h=>?_) (fun h=>?_))<;>(try subst h)<;>simp[*]|(refine Xat (fun h=>?_) (fun h=>?_)<;>simp[*]))
   all_goals simp[Grow.appH, *]
  by_cases o15:op=15
  ·subst o15;have hie:isE 15=true:=rfl;have hf:fit (g+1) (.mk 15 s0 nn l line)=(decide (s0=⟨#[]⟩) && (decide (1<=(l.length:Int)) && decide ((l.length:Int)<=200)) && decide (nn=0) && rAll g l):=by simp[fit,okF,Xaw,forms,TX.ok,okN,Xdz,Xbo,Xbc]
   simp only[T.op_mk,hf,hie];simp[hs,e0,e1,hg1,c111,c151];repeat' (first|(with_reducible refine Xaq (fun h=>?_) (fun h=>?_))<;>(try subst h)<;>simp[*]|(refine Xat (fun h=>?_) (fun h=>?_)<;>simp[*]))
   all_goals simp[Grow.appH, *]
  by_cases o16:op=16
  ·subst o16;have hie:isE 16=true:=rfl;have hf:fit (g+1) (.mk 16 s0 nn l line)=(decide (s0=⟨#[]⟩) && (decide (1<=(l.length:Int)) && decide ((l.length:Int)<=200)) && decide (nn=0) && rAll g l):=by simp[fit,okF,Xaw,forms,TX.ok,okN,Xdz,Xbo,Xbc]
   simp only[T.op_mk,hf,hie];simp[hs,e0,e1,hg1,c111,c151];repeat' (first|(with_reducible refine Xaq (fun h=>?_) (fun h=>?_))<;>(try subst h)<;>simp[*]|(refine Xat (fun h=>?_) (fun h=>?_)<;>simp[*]))
   all_goals simp[Grow.appH, *]
  by_cases o18:op=18
  ·subst o18;have hie:isE 18=true:=rfl;have hf:fit (g+1) (.mk 18 s0 nn l line)=(decide (s0∈signs) && decide ((l.length:Int)=2) && decide (nn=0) && rAll g l):=by simp[fit,okF,Xaw,forms,TX.ok,okN,Xdz,Xbo,Xbc]
   simp only[T.op_mk,hf,hie];simp[hs,e0,e1,hg1,c111,c151];repeat' (first|(with_reducible refine Xaq (fun h=>?_) (fun h=>?_))<;>(try subst h)<;>simp[*]|(refine Xat (fun h=>?_) (fun h=>?_)<;>simp[*]))
   all_goals simp[Grow.appH, *]
  by_cases o19:op=19
  ·subst o19;have hie:isE 19=true:=rfl;have hf:fit (g+1) (.mk 19 s0 nn l line)=(decide (s0=⟨#[]⟩) && decide ((l.length:Int)=1) && decide (nn=0) && rAll g l):=by simp[fit,okF,Xaw,forms,TX.ok,okN,Xdz,Xbo,Xbc]
   simp only[T.op_mk,hf,hie];simp[hs,e0,e1,hg1,c111,c151];repeat' (first|(with_reducible refine Xaq (fun h=>?_) (fun h=>?_))<;>(try subst h)<;>simp[*]|(refine Xat (fun h=>?_) (fun h=>?_)<;>simp[*]))
   all_goals simp[Grow.appH, *]
  by_cases o20:op=20
  ·subst o20;have hie:isE 20=true:=rfl;have hf:fit (g+1) (.mk 20 s0 nn l line)=(decide (s0=⟨#[]⟩) && decide ((l.length:Int)=1) && decide (nn=0) && rAll g l):=by simp[fit,okF,Xaw,forms,TX.ok,okN,Xdz,Xbo,Xbc]
   simp only[T.op_mk,hf,hie];simp[hs,e0,e1,hg1,c111,c151];repeat' (first|(with_reducible refine Xaq (fun h=>?_) (fun h=>?_))<;>(try subst h)<;>simp[*]|(refine Xat (fun h=>?_) (fun h=>?_)<;>simp[*]))
   all_goals simp[Grow.appH, *]
  by_cases o23:op=23
  ·subst o23;have hie:isE 23=true:=rfl;have hf:fit (g+1) (.mk 23 s0 nn l line)=(decide (s0=⟨#[]⟩) && decide ((l.length:Int)=3) && decide (nn=0) && rAll g l):=by simp[fit,okF,Xaw,forms,TX.ok,okN,Xdz,Xbo,Xbc]
   simp only[T.op_mk,hf,hie];simp[hs,e0,e1,hg1,c111,c151];repeat' (first|(with_reducible refine Xaq (fun h=>?_) (fun h=>?_))<;>(try subst h)<;>simp[*]|(refine Xat (fun h=>?_) (fun h=>?_)<;>simp[*]))
   all_goals simp[Grow.appH, *]
  by_cases o10:op=10
  ·subst o10;have hie:isE 10=true:=rfl;have hf:fit (g+1) (.mk 10 s0 nn l line)=((decide (s0=⟨#[]⟩)||Xbq s0) && decide (nn=0) && rFun g l):=by simp only[fit,okF,Xaw,forms,List.find?,TX.ok,okN,rFun];simp;cases decide (s0=⟨#[]⟩)||Xbq s0<;>cases decide (nn=0)<;>simp;rw[show decide ((1:Int)<=l.length)=decide (1<=l.length) by rw[decide_eq_decide];omega,show decide ((l.length:Int)<=201)=decide (l.length<=201) by rw[decide_eq_decide];omega]
   simp only[T.op_mk,hf,hie];simp[hs,e0,e1,hg1,c111,c151];repeat' (first|(with_reducible refine Xaq (fun h=>?_) (fun h=>?_))<;>(try subst h)<;>simp[*]|(refine Xat (fun h=>?_) (fun h=>?_)<;>simp[*]))
   all_goals simp[Grow.appH, *]
  by_cases o17:op=17
  ·subst o17;have hie:isE 17=true:=rfl;by_cases hk2:(l.length:Int)=2
   ·obtain⟨x,hx,hf⟩:∃x:T,l[0]?=some x/\fit (g+1) (.mk 17 s0 nn l line)=(decide (s0=⟨#[]⟩) && decide (nn=0) && rAll g l && (decide (x.op=1)||decide (x.op=13)||decide (x.op=14))):=by
       rcases l with _|⟨x,_|⟨y,_|⟨z,r⟩⟩⟩
       ·simp at hk2
       ·simp at hk2
       ·refine⟨x,rfl,?_⟩;simp[fit,okF,Xaw,forms,TX.ok,okN,fitL,Xbc,rAll];by_cases x1:x.op=1
        ·simp[x1,isE]
        by_cases x13:x.op=13
        ·simp[x13,isE]
        by_cases x14:x.op=14
        ·simp[x14,isE]
        simp[x1,x13,x14]
       ·simp at hk2;omega
    have hc0:=T.g_op hx;have hlp:0<l.length:=by omega
    simp only[Nat.zero_mul]at hc0;simp only[T.op_mk,hf,hie];simp[hs,e0,e1,hg1,c111,c151];repeat' (first|(with_reducible refine Xaq (fun h=>?_) (fun h=>?_))<;>(try subst h)<;>simp[*]|(refine Xat (fun h=>?_) (fun h=>?_)<;>simp[*]))
    all_goals simp[Grow.appH, *]
   ·have hf:fit (g+1) (.mk 17 s0 nn l line)=false:=by simp[fit,okF,Xaw,forms,TX.ok,okN,Xdz,hk2]
    simp only[T.op_mk,hf,hie];simp[hs,e0,e1,hg1,c111,c151];repeat' (first|(with_reducible refine Xaq (fun h=>?_) (fun h=>?_))<;>(try subst h)<;>simp[*]|(refine Xat (fun h=>?_) (fun h=>?_)<;>simp[*]))
    all_goals simp[Grow.appH, *]
  have hie:isE op=false:=by
    simp only[isE];have:¬(1<=op/\op<=23/\op≠12):=by omega
    by_cases h1:1<=op<;>by_cases h2:op<=23<;>by_cases h3:op=12<;>simp_all
  simp only[T.op_mk,hie];simp[hs,e0,e1,hg1,c111,c151,o1,o2,o3,o4,o5,o6,o7,o8,o9,o10,o11,o13,o14,o15,o16,o17,o18,o19,o20,o21,o22,o23];repeat' (first|(with_reducible refine Xaq (fun h=>?_) (fun h=>?_))<;>simp[*]|(refine Xat (fun h=>?_) (fun h=>?_)<;>simp[*]))
  all_goals simp[Grow.appH, *]
theorem Xpb(f:T->Bool)(len:Nat):∀i l,fitL f 41 len i l=fitL f 10 len i l
 |i,[]=>rfl
 |i,x::r=>by simp only[fitL,Xpb f len (i+1) r,Xbc,or_true,true_or,if_true]
theorem f76s{h:Nat}(hh:h<=1000)(hR:∀g,g<h->RE g/\RS g):RS h:=by
  intro t ht k hk E st hE;obtain⟨k,rfl⟩:=uK (k:=k) (by omega);obtain⟨op,s0,nn,l,line⟩:=t;refine Xaz rfl rfl (by decide) fun s hs e0 e1=>?_;rcases h with _|g
  ·simp[hs,e0,e1,fit,Grow.appH]
  have hg1:¬(g:Int)+1<1:=by omega
  by_cases hn:nn=0;rotate_left
  ·have hf:(isS op && fit (g+1) (.mk op s0 nn l line))=false:=by
      by_cases h2:op=2
      ·subst h2;rfl
      ·simp[fit,okN,hn,h2]
   simp only[T.op_mk,hf];simp[hs,e0,e1,hg1,hn,Grow.appH]
  subst hn;obtain⟨ht1,ht2, -, -, -,ht3⟩:=ht;simp only[T.wt]at hk;have hlw:=T.len_wtL l;have hE1:E.Wf ⟨st.H++ [.cells 24 [.int .i64 op,.str s0,.int .i64 0,.sl none l.length (T.encL l),.int .i64 line]],st.I⟩:=hE.of (by simp) (by simp);have c111:=(f111 s0 (by omega) k (by omega)).full rfl hE1;have c112:=(f112 (hR g (by omega)).1 l ht3 ht2 k (by omega)).full rfl hE1;have c114:=(f114 (hR g (by omega)).1 (hR g (by omega)).2 l ht3 ht2 k (by omega)).full rfl hE1;have hwg:=Xah (n:=(g:Int)) (by omega);by_cases o30:op=30
  ·subst o30;have his:isS 30=true:=rfl
   have hf:fit (g+1) (.mk 30 s0 0 l line)=(Xbq s0 && decide ((l.length:Int)<=1) && rAll g l):=by
     have h0:(0:Int)<=l.length:=by omega
     simp[fit,okF,Xaw,forms,TX.ok,okN,Xdz,Xbo,Xbc,h0]
   simp only[T.op_mk,hf,his];simp[hs,e0,e1,hg1,c111];repeat' (first|(with_reducible refine Xaq (fun h=>?_) (fun h=>?_))<;>(try subst h)<;>simp[*]|(refine Xat (fun h=>?_) (fun h=>?_)<;>simp[*]))
   all_goals simp[Grow.appH, *]
  by_cases o31:op=31
  ·subst o31;have his:isS 31=true:=rfl
   have hf:fit (g+1) (.mk 31 s0 0 l line)=(decide (s0=⟨#[]⟩) && decide ((l.length:Int)=1) && rAll g l):=by
     have h0:(0:Int)<=l.length:=by omega
     simp[fit,okF,Xaw,forms,TX.ok,okN,Xdz,Xbo,Xbc,h0]
   simp only[T.op_mk,hf,his];simp[hs,e0,e1,hg1,c111];repeat' (first|(with_reducible refine Xaq (fun h=>?_) (fun h=>?_))<;>(try subst h)<;>simp[*]|(refine Xat (fun h=>?_) (fun h=>?_)<;>simp[*]))
   all_goals simp[Grow.appH, *]
  by_cases o37:op=37
  ·subst o37;have his:isS 37=true:=rfl
   have hf:fit (g+1) (.mk 37 s0 0 l line)=(decide (s0=⟨#[]⟩) && decide ((l.length:Int)=1) && rAll g l):=by
     have h0:(0:Int)<=l.length:=by omega
     simp[fit,okF,Xaw,forms,TX.ok,okN,Xdz,Xbo,Xbc,h0]
   simp only[T.op_mk,hf,his];simp[hs,e0,e1,hg1,c111];repeat' (first|(with_reducible refine Xaq (fun h=>?_) (fun h=>?_))<;>(try subst h)<;>simp[*]|(refine Xat (fun h=>?_) (fun h=>?_)<;>simp[*]))
   all_goals simp[Grow.appH, *]
  by_cases o36:op=36
  ·subst o36;have his:isS 36=true:=rfl
   have hf:fit (g+1) (.mk 36 s0 0 l line)=(decide (s0=⟨#[]⟩) && decide ((l.length:Int)<=1) && rAll g l):=by
     have h0:(0:Int)<=l.length:=by omega
     simp[fit,okF,Xaw,forms,TX.ok,okN,Xdz,Xbo,Xbc,h0]
   simp only[T.op_mk,hf,his];simp[hs,e0,e1,hg1,c111];repeat' (first|(with_reducible refine Xaq (fun h=>?_) (fun h=>?_))<;>(try subst h)<;>simp[*]|(refine Xat (fun h=>?_) (fun h=>?_)<;>simp[*]))
   all_goals simp[Grow.appH, *]
  by_cases o39:op=39
  ·subst o39;have his:isS 39=true:=rfl
   have hf:fit (g+1) (.mk 39 s0 0 l line)=(decide (s0=⟨#[]⟩) && decide ((l.length:Int)=0)):=by
     rcases l with _|⟨a,r⟩
     ·simp[fit,okF,Xaw,forms,TX.ok,okN,fitL]
     ·have h1:¬(r.length:Int)+1<=0:=by omega
      have h2:¬(r.length:Int)+1=0:=by omega
      simp[fit,okF,Xaw,forms,TX.ok,okN,h1,h2]
   simp only[T.op_mk,hf,his];simp[hs,e0,e1,hg1,c111];repeat' (first|(with_reducible refine Xaq (fun h=>?_) (fun h=>?_))<;>(try subst h)<;>simp[*]|(refine Xat (fun h=>?_) (fun h=>?_)<;>simp[*]))
   all_goals simp[Grow.appH, *]
  by_cases o40:op=40
  ·subst o40;have his:isS 40=true:=rfl
   have hf:fit (g+1) (.mk 40 s0 0 l line)=(decide (s0=⟨#[]⟩) && decide ((l.length:Int)=0)):=by
     rcases l with _|⟨a,r⟩
     ·simp[fit,okF,Xaw,forms,TX.ok,okN,fitL]
     ·have h1:¬(r.length:Int)+1<=0:=by omega
      have h2:¬(r.length:Int)+1=0:=by omega
      simp[fit,okF,Xaw,forms,TX.ok,okN,h1,h2]
   simp only[T.op_mk,hf,his];simp[hs,e0,e1,hg1,c111];repeat' (first|(with_reducible refine Xaq (fun h=>?_) (fun h=>?_))<;>(try subst h)<;>simp[*]|(refine Xat (fun h=>?_) (fun h=>?_)<;>simp[*]))
   all_goals simp[Grow.appH, *]
  by_cases o41:op=41
  ·subst o41;have his:isS 41=true:=rfl;have hf:fit (g+1) (.mk 41 s0 0 l line)=(Xbq s0 && rFun g l):=by rw[fit,Xpb];simp only[okF,Xaw,forms,List.find?,TX.ok,okN,rFun];simp;cases Xbq s0<;>simp;rw[show decide ((1:Int)<=l.length)=decide (1<=l.length) by rw[decide_eq_decide];omega,show decide ((l.length:Int)<=201)=decide (l.length<=201) by rw[decide_eq_decide];omega]
   simp only[T.op_mk,hf,his];simp[hs,e0,e1,hg1,c111];repeat' (first|(with_reducible refine Xaq (fun h=>?_) (fun h=>?_))<;>(try subst h)<;>simp[*]|(refine Xat (fun h=>?_) (fun h=>?_)<;>simp[*]))
   all_goals simp[Grow.appH, *]
  by_cases o34:op=34
  ·subst o34;have his:isS 34=true:=rfl;by_cases hk2:(l.length:Int)=2
   ·obtain⟨x,y,hx,hy,hf⟩:∃x y:T,l[0]?=some x/\l[1]?=some y/\fit (g+1) (.mk 34 s0 0 l line)=(decide (s0=⟨#[]⟩) && (isE x.op && fit g x) && rBlk g y):=by
       rcases l with _|⟨x,_|⟨y,_|⟨z,r⟩⟩⟩
       ·simp at hk2
       ·simp at hk2
       ·refine⟨x,y,rfl,rfl,?_⟩;simp[fit,okF,Xaw,forms,TX.ok,okN,fitL,Xbc,rBlk,Bool.and_assoc]
       ·simp at hk2;omega
    have rx:=T.rd hx;have ry:=T.rd hy;have hlp:0<l.length:=by omega
    have hlq:1<l.length:=by omega
    simp only[Nat.zero_mul,Nat.one_mul]at rx ry;have cx:=((hR g (by omega)).1 x (T.okL_get ht3 hx) k (by have:=T.wtL_get hx;omega)).full rfl hE1;have cy:=(f48 (hR g (by omega)).2 y (T.okL_get ht3 hy) k (by have:=T.wtL_get hy;omega)).full rfl hE1;simp only[T.op_mk,hf,his];simp[hs,e0,e1,hg1,c111];repeat' (first|(with_reducible refine Xaq (fun h=>?_) (fun h=>?_))<;>(try subst h)<;>simp[*]|(refine Xat (fun h=>?_) (fun h=>?_)<;>simp[*]))
    all_goals simp[Grow.appH, *]
   ·have hf:fit (g+1) (.mk 34 s0 0 l line)=false:=by simp[fit,okF,Xaw,forms,TX.ok,okN,Xdz,hk2]
    simp only[T.op_mk,hf,his];simp[hs,e0,e1,hg1,c111];repeat' (first|(with_reducible refine Xaq (fun h=>?_) (fun h=>?_))<;>(try subst h)<;>simp[*]|(refine Xat (fun h=>?_) (fun h=>?_)<;>simp[*]))
    all_goals simp[Grow.appH, *]
  by_cases o35:op=35
  ·subst o35;have his:isS 35=true:=rfl;by_cases hk2:(l.length:Int)=2
   ·obtain⟨x,y,hx,hy,hf⟩:∃x y:T,l[0]?=some x/\l[1]?=some y/\fit (g+1) (.mk 35 s0 0 l line)=(Xbq s0 && (isE x.op && fit g x) && rBlk g y):=by
       rcases l with _|⟨x,_|⟨y,_|⟨z,r⟩⟩⟩
       ·simp at hk2
       ·simp at hk2
       ·refine⟨x,y,rfl,rfl,?_⟩;simp[fit,okF,Xaw,forms,TX.ok,okN,fitL,Xbc,rBlk,Bool.and_assoc]
       ·simp at hk2;omega
    have rx:=T.rd hx;have ry:=T.rd hy;have hlp:0<l.length:=by omega
    have hlq:1<l.length:=by omega
    simp only[Nat.zero_mul,Nat.one_mul]at rx ry;have cx:=((hR g (by omega)).1 x (T.okL_get ht3 hx) k (by have:=T.wtL_get hx;omega)).full rfl hE1;have cy:=(f48 (hR g (by omega)).2 y (T.okL_get ht3 hy) k (by have:=T.wtL_get hy;omega)).full rfl hE1;simp only[T.op_mk,hf,his];simp[hs,e0,e1,hg1,c111];repeat' (first|(with_reducible refine Xaq (fun h=>?_) (fun h=>?_))<;>(try subst h)<;>simp[*]|(refine Xat (fun h=>?_) (fun h=>?_)<;>simp[*]))
    all_goals simp[Grow.appH, *]
   ·have hf:fit (g+1) (.mk 35 s0 0 l line)=false:=by simp[fit,okF,Xaw,forms,TX.ok,okN,Xdz,hk2]
    simp only[T.op_mk,hf,his];simp[hs,e0,e1,hg1,c111];repeat' (first|(with_reducible refine Xaq (fun h=>?_) (fun h=>?_))<;>(try subst h)<;>simp[*]|(refine Xat (fun h=>?_) (fun h=>?_)<;>simp[*]))
    all_goals simp[Grow.appH, *]
  by_cases o38:op=38
  ·subst o38;have his:isS 38=true:=rfl;by_cases hk2:(l.length:Int)=2
   ·obtain⟨x,y,hx,hy,hf⟩:∃x y:T,l[0]?=some x/\l[1]?=some y/\fit (g+1) (.mk 38 s0 0 l line)=(Xbq s0 && rBlk g x && rBlk g y):=by
       rcases l with _|⟨x,_|⟨y,_|⟨z,r⟩⟩⟩
       ·simp at hk2
       ·simp at hk2
       ·refine⟨x,y,rfl,rfl,?_⟩;simp[fit,okF,Xaw,forms,TX.ok,okN,fitL,Xbc,rBlk,Bool.and_assoc]
       ·simp at hk2;omega
    have rx:=T.rd hx;have ry:=T.rd hy;have hlp:0<l.length:=by omega
    have hlq:1<l.length:=by omega
    simp only[Nat.zero_mul,Nat.one_mul]at rx ry;have cx:=(f48 (hR g (by omega)).2 x (T.okL_get ht3 hx) k (by have:=T.wtL_get hx;omega)).full rfl hE1;have cy:=(f48 (hR g (by omega)).2 y (T.okL_get ht3 hy) k (by have:=T.wtL_get hy;omega)).full rfl hE1;simp only[T.op_mk,hf,his];simp[hs,e0,e1,hg1,c111];repeat' (first|(with_reducible refine Xaq (fun h=>?_) (fun h=>?_))<;>(try subst h)<;>simp[*]|(refine Xat (fun h=>?_) (fun h=>?_)<;>simp[*]))
    all_goals simp[Grow.appH, *]
   ·have hf:fit (g+1) (.mk 38 s0 0 l line)=false:=by simp[fit,okF,Xaw,forms,TX.ok,okN,Xdz,hk2]
    simp only[T.op_mk,hf,his];simp[hs,e0,e1,hg1,c111];repeat' (first|(with_reducible refine Xaq (fun h=>?_) (fun h=>?_))<;>(try subst h)<;>simp[*]|(refine Xat (fun h=>?_) (fun h=>?_)<;>simp[*]))
    all_goals simp[Grow.appH, *]
  by_cases o33:op=33
  ·subst o33;have his:isS 33=true:=rfl;by_cases hk2:(l.length:Int)=2
   ·obtain⟨x,y,hx,hy,hf⟩:∃x y:T,l[0]?=some x/\l[1]?=some y/\fit (g+1) (.mk 33 s0 0 l line)=(decide (s0=⟨#[]⟩) && (isE x.op && fit g x) && rBlk g y):=by
       rcases l with _|⟨x,_|⟨y,_|⟨z,r⟩⟩⟩
       ·simp at hk2
       ·simp at hk2
       ·refine⟨x,y,rfl,rfl,?_⟩;simp[fit,okF,Xaw,forms,TX.ok,okN,fitL,Xbc,rBlk,Bool.and_assoc]
       ·simp at hk2;omega
    have rx:=T.rd hx;have ry:=T.rd hy;have hlp:0<l.length:=by omega
    have hlq:1<l.length:=by omega
    simp only[Nat.zero_mul,Nat.one_mul]at rx ry;have w1:=Xah (n:=(1:Int)) (by omega);have cx:=((hR g (by omega)).1 x (T.okL_get ht3 hx) k (by have:=T.wtL_get hx;omega)).full rfl hE1;have cy:=(f48 (hR g (by omega)).2 y (T.okL_get ht3 hy) k (by have:=T.wtL_get hy;omega)).full rfl hE1;simp only[T.op_mk,hf,his];simp[hs,e0,e1,hg1,c111];repeat' (first|(with_reducible refine Xaq (fun h=>?_) (fun h=>?_))<;>(try subst h)<;>simp[*]|(refine Xat (fun h=>?_) (fun h=>?_)<;>simp[*]))
    all_goals simp[Grow.appH, *]
   by_cases hk3:(l.length:Int)=3
   ·obtain⟨x,y,z,hx,hy,hz,hf⟩:∃x y z:T,l[0]?=some x/\l[1]?=some y/\l[2]?=some z/\fit (g+1) (.mk 33 s0 0 l line)=(decide (s0=⟨#[]⟩) && (isE x.op && fit g x) && rBlk g y && rBlk g z):=by
       rcases l with _|⟨x,_|⟨y,_|⟨z,_|⟨u,r⟩⟩⟩⟩
       ·simp at hk3
       ·simp at hk3
       ·simp at hk3
       ·refine⟨x,y,z,rfl,rfl,rfl,?_⟩;simp[fit,okF,Xaw,forms,TX.ok,okN,fitL,Xbc,rBlk,Bool.and_assoc]
       ·simp at hk3;omega
    have rx:=T.rd hx;have ry:=T.rd hy;have rz:=T.rd hz;have hlp:0<l.length:=by omega
    have hlq:1<l.length:=by omega
    have hlr:2<l.length:=by omega
    simp only[Nat.zero_mul,Nat.one_mul,Nat.reduceMul]at rx ry rz;have w2:=Xah (n:=(2:Int)) (by omega);have cx:=((hR g (by omega)).1 x (T.okL_get ht3 hx) k (by have:=T.wtL_get hx;omega)).full rfl hE1;have cy:=(f48 (hR g (by omega)).2 y (T.okL_get ht3 hy) k (by have:=T.wtL_get hy;omega)).full rfl hE1;have cz:=(f48 (hR g (by omega)).2 z (T.okL_get ht3 hz) k (by have:=T.wtL_get hz;omega)).full rfl hE1;simp only[T.op_mk,hf,his];simp[hs,e0,e1,hg1,c111];repeat' (first|(with_reducible refine Xaq (fun h=>?_) (fun h=>?_))<;>(try subst h)<;>simp[*]|(refine Xat (fun h=>?_) (fun h=>?_)<;>simp[*]))
    all_goals simp[Grow.appH, *]
   ·have hf:fit (g+1) (.mk 33 s0 0 l line)=false:=by
       have:¬(2<=l.length/\l.length<=3):=by omega
       simp[fit,okF,Xaw,forms,TX.ok,okN]
       intros;omega
    simp only[T.op_mk,hf,his];simp[hs,e0,e1,hg1,c111];repeat' (first|(with_reducible refine Xaq (fun h=>?_) (fun h=>?_))<;>(try subst h)<;>simp[*]|(refine Xat (fun h=>?_) (fun h=>?_)<;>simp[*]))
    all_goals simp[Grow.appH, *]
  by_cases o32:op=32
  ·subst o32;have his:isS 32=true:=rfl
   have hf:fit (g+1) (.mk 32 s0 0 l line)=(decide (s0=⟨#[]⟩) && fitL (fit g) 32 l.length 0 l):=by
     have h0:(0:Int)<=l.length:=by omega
     have h1:(l.length:Int)<=1073741824:=by omega
     simp[fit,okF,Xaw,forms,TX.ok,okN,h0,h1]
   simp only[T.op_mk,hf,his];simp[hs,e0,e1,hg1,c111];generalize hq0:fitL (fit g) 32 l.length 0 l=res
   refine Xau (fun n s m st'=> ∃(i:Nat),i<=l.length/\n=l.length - i/\s.length=220/\m=[]/\
     ⟨st.H++ [.cells 24 [.int .i64 32,.str s0,.int .i64 0,.sl none l.length (T.encL l),.int .i64 line]],st.I⟩=st'/\lk s 1=.int .i64 (g+1)/\lk s 2=.ptr st.H.length 0/\lk s 6=.int .i64 l.length/\lk s 7=.bool (decide (s0=⟨#[]⟩))/\lk s 8=.int .i64 i/\
     fitL (fit g) 32 l.length i (l.drop i)=res) l.length (by omega) ⟨0,by omega,by omega,by simp[hs],rfl,rfl,by simp[hs,e1],by simp[hs],by simp[hs],by simp[hs],by simp[hs],hq0⟩ ?_
   clear e0 e1 hs;rintro _ s m _ ⟨i,hi,rfl,hs,rfl,rfl,e1,e2,e6,e7,e8,hq⟩;by_cases hc:i<l.length
   ·obtain⟨t,hg⟩:∃t,l[i]?=some t:=⟨_,List.getElem?_eq_getElem hc⟩;rw[T.drop_cons hg]at hq;simp only[fitL]at hq;have hpo:∀x,Xbc 32 l.length i x=isS x:=fun x=>by simp[Xbc]
    rw[hpo]at hq;have hrd:=T.rd hg;have hw:=Xah (n:=(i:Int)+1) (by omega);have c76:=((hR g (by omega)).2 t (T.okL_get ht3 hg) k (by have:=T.wtL_get hg;omega)).full rfl hE1;cases hb:isS t.op && fit g t
    ·rw[hb]at hq c76;simp only[Bool.false_and]at hq;subst hq;simp[hs,e1,e2,e6,e7,e8,hc,hrd,hwg,c76,Grow.appH]
    ·rw[hb]at hq c76;simp only[Bool.true_and]at hq;simp[hs,e1,e2,e6,e7,e8,hc,hrd,hwg,c76,hw];exact⟨_,by omega,i+1,by omega,rfl,by simp[hs],rfl,rfl,by simp[hs,e1],by simp[hs,e2],by simp[hs,e6],by simp[hs,e7],by simp[hs],hq⟩
   ·have hq:res=true:=by rw[<-hq,List.drop_eq_nil_of_le (by omega)];rfl
    simp[hs,e1,e2,e6,e7,e8,hc,hq,Grow.appH]
  have his:isS op=false:=by
    simp only[isS];have:¬(30<=op/\op<=41):=by omega
    by_cases h1:30<=op<;>by_cases h2:op<=41<;>simp_all
  simp only[T.op_mk,his];simp[hs,e0,e1,hg1,c111,o30,o31,o32,o33,o34,o35,o36,o37,o38,o39,o40,o41];repeat' (first|(with_reducible refine Xaq (fun h=>?_) (fun h=>?_))<;>simp[*]|(refine Xat (fun h=>?_) (fun h=>?_)<;>simp[*]))
  all_goals simp[Grow.appH, *]
theorem Jai:∀n h,h<n->h<=1000->RE h/\RS h
 |0,h,hn,_=>absurd hn (by omega)
 |n+1,h,hn,hh=>
  have ih:∀g,g<h->RE g/\RS g:=fun g hg=>Jai n g (by omega) (by omega)
  ⟨Jer hh ih,f76s hh ih⟩
def right(p:T):Bool:=rBlk 100 p
theorem f27(t:T)(ht:t.ok)(k:Nat)(hk:t.wt+1410<=k):PureC k 27 [.agg t.enc] (.bool (right t)):=by
 intro E st hE;obtain⟨k,rfl⟩:=uK (k:=k) (by omega);refine Xai rfl rfl (by decide) fun s hs e0=>?_;have hE1:E.Wf ⟨st.H++ [.cells 24 t.enc],st.I⟩:=hE.of (by simp) (by simp);have h1:=(f48 (Jai 101 100 (by omega) (by omega)).2 t ht k (by omega)).full rfl hE1;have hr:rdC (some 5) t.enc 0=some (.agg t.enc):=by cases t;rfl
 have h100:((100:Nat):Int)=100:=rfl;rw[h100]at h1;obtain⟨op,s0,nn,l,x⟩:=t;simp only[T.enc]at h1;simp[hs,e0,h1,Grow.appH,right]
theorem Xrr{v:AV}{m:Nat}{b:Bool}(h:v.fin m=.bool b):v=.bool b:=by
 cases v<;>simp[AV.fin]at h⊢
 ·exact h
 ·rename_i o n cs;cases o<;>simp[AV.fin]at h
theorem Xl8{l:List AV}{m:Nat}(h:AV.finL m l=[]):l=[]:=by cases l<;>simp[AV.finL]at h⊢
theorem Xut{v:AV}{m f:Nat}(h:v.fin m=.fn f [] []):v=.fn f [] []:=by
 cases v<;>simp[AV.fin]at h⊢
 ·rename_i o n cs;cases o<;>simp[AV.fin]at h
 ·exact⟨h.1,Xl8 h.2.1,Xl8 h.2.2⟩
theorem PureC.noB{k f args b E st}(h:PureC k f args (.bool b))(hw:E.Wf st):CallQ k E f args st fun r st'=>r=.ok (.bool b)/\Grow st st':=
 (h E st hw).mono fun r st' ⟨v,e,g,hv⟩=>⟨by rw[e,Xrr hv],g⟩
theorem PureC.noF{k f args b E st}(h:PureC k f args (.fn b [] []))(hw:E.Wf st):CallQ k E f args st fun r st'=>r=.ok (.fn b [] [])/\Grow st st':=
 (h E st hw).mono fun r st' ⟨v,e,g,hv⟩=>⟨by rw[e,Xut hv],g⟩
theorem Grow.get{st st':St}(g:Grow st st'){b:Nat}{x:ABlk}(h:st.H[b]?=some x):st'.H[b]?=some x:=by obtain⟨t,e⟩:=g.H;rw[<-e];exact Xae h
def TX.id:TX->Nat
 |.name=>87|.none=>88|.any=>89|.fname=>90|.mem=>91|.sign=>92
def Xo8(p:TX×Int×Int):AV:=.agg [.fn p.1.id [] [],.int .i64 p.2.1,.int .i64 p.2.2]
def Xe4:List (AV×AV):=forms.map fun p=>(.int .i64 p.1,Xo8 p.2)
theorem Xil(op:Int):∀fs:List (Int×TX×Int×Int),Xew false (.int .i64 op) (fs.map fun p=>(.int .i64 p.1,Xo8 p.2))=some (((fs.find? fun p=>decide (op=p.1)).map (·.2)).map Xo8)
 |[]=>rfl
 |p::r=>by simp only[List.map_cons,Xew,Xgp,Bool.not_false,decide_true,Bool.and_self,Xax,Xam,Xo1,List.find?_cons,Xil op r];by_cases h:op=p.1<;>simp[h]
theorem Xvl(tx:TX)(s:ByteArray)(hs:s.size<=1000000000000000000)(k:Nat)(hk:s.size+1020<=k):PureC k tx.id [.str s] (.bool (tx.ok s)):=by
 cases tx
 ·exact f87 s (by omega) k (by omega)
 ·exact f88 s k (by omega)
 ·exact f89 s k (by omega)
 ·exact f90 s (by omega) k (by omega)
 ·exact f91 s (by omega) k (by omega)
 ·exact f92 s k (by omega)
theorem f136(c:Int)(k:Nat)(hk:1<=k):PureC k 136 [.int .i64 c] (.bool (decide (c=32))):=by intro E st hE;obtain⟨k,rfl⟩:=uK (k:=k) (by omega);refine Xai rfl rfl (by decide) fun s hs e0=>?_;simp[hs,e0,Grow.refl]
theorem f138(c:Int)(k:Nat)(hk:1<=k):PureC k 138 [.int .i64 c] (.bool (isE c)):=by
 intro E st hE;obtain⟨k,rfl⟩:=uK (k:=k) (by omega);refine Xai rfl rfl (by decide) fun s hs e0=>?_;simp[hs,e0];repeat' (refine Xaq (fun h=>?_) (fun h=>?_)<;>simp[*])
 all_goals simp[isE,Grow.refl, *]
theorem f137(c:Int)(k:Nat)(hk:2<=k):PureC k 137 [.int .i64 c] (.bool (isE c)):=by intro E st hE;obtain⟨k,rfl⟩:=uK (k:=k) (by omega);refine Xai rfl rfl (by decide) fun s hs e0=>?_;have h1:=(f138 c k (by omega)).full rfl hE;simp[hs,e0,h1,Grow.refl]
theorem f139(c:Int)(k:Nat)(hk:1<=k):PureC k 139 [.int .i64 c] (.bool (decide (c=1))):=by intro E st hE;obtain⟨k,rfl⟩:=uK (k:=k) (by omega);refine Xai rfl rfl (by decide) fun s hs e0=>?_;simp[hs,e0,Grow.refl]
theorem f140(c:Int)(k:Nat)(hk:1<=k):PureC k 140 [.int .i64 c] (.bool (decide (c=12))):=by intro E st hE;obtain⟨k,rfl⟩:=uK (k:=k) (by omega);refine Xai rfl rfl (by decide) fun s hs e0=>?_;simp[hs,e0,Grow.refl]
theorem f141(c:Int)(k:Nat)(hk:1<=k):PureC k 141 [.int .i64 c] (.bool (isS c)):=by
 intro E st hE;obtain⟨k,rfl⟩:=uK (k:=k) (by omega);refine Xai rfl rfl (by decide) fun s hs e0=>?_;simp[hs,e0];repeat' (refine Xaq (fun h=>?_) (fun h=>?_)<;>simp[*])
 all_goals simp[isS,Grow.refl, *]
theorem f142(c:Int)(k:Nat)(hk:1<=k):PureC k 142 [.int .i64 c] (.bool (decide (c=1)||decide (c=13)||decide (c=14))):=by
 intro E st hE;obtain⟨k,rfl⟩:=uK (k:=k) (by omega);refine Xai rfl rfl (by decide) fun s hs e0=>?_;simp[hs,e0];repeat' (refine Xaq (fun h=>?_) (fun h=>?_)<;>simp[*])
 all_goals simp[Grow.refl, *]
def Xcn(op:Int)(len i:Nat):Nat:=
 if op=10\/op=41 then(if i+1=len then 136 else 139)
 else if op=11 then 140
 else if op=32 then 141
 else if op=17/\i=0 then 142
 else if op=38 then 136
 else if(op=33\/op=34\/op=35)/\0<i then 136
 else 137
theorem Xj2(op:Int)(len i:Nat)(c:Int)(k:Nat)(hk:2<=k):PureC k (Xcn op len i) [.int .i64 c] (.bool (Xbc op len i c)):=by
 unfold Xcn Xbc;split
 ·split
  ·exact f136 c k (by omega)
  ·exact f139 c k (by omega)
 split
 ·exact f140 c k (by omega)
 split
 ·exact f141 c k (by omega)
 split
 ·exact f142 c k (by omega)
 split
 ·exact f136 c k (by omega)
 split
 ·exact f136 c k (by omega)
 ·exact f137 c k (by omega)
theorem f93(t:T)(i:Nat)(hi:i<t.l.length)(hl:t.l.length<=1073741824)(k:Nat)(hk:1<=k):PureC k 93 [.agg t.enc,.int .i64 i] (.fn (Xcn t.op t.l.length i) [] []):=by
 intro E st hE;obtain⟨k,rfl⟩:=uK (k:=k) (by omega);obtain⟨op,s0,nn,l,line⟩:=t;simp only[T.l_mk]at hi hl;refine Xaz rfl rfl (by decide) fun s hs e0 e1=>?_;have hw:=Xah (n:=(l.length:Int) - 1) (by omega);by_cases o10:op=10
 ·subst o10;by_cases h:(i:Int)=l.length - 1
  ·have h':i+1=l.length:=by omega
   simp[hs,e0,e1,hw,h,h',Grow.appH,Xcn]
  ·have h':¬i+1=l.length:=by omega
   simp[hs,e0,e1,hw,h,h',Grow.appH,Xcn]
 by_cases o41:op=41
 ·subst o41;by_cases h:(i:Int)=l.length - 1
  ·have h':i+1=l.length:=by omega
   simp[hs,e0,e1,hw,h,h',Grow.appH,Xcn]
  ·have h':¬i+1=l.length:=by omega
   simp[hs,e0,e1,hw,h,h',Grow.appH,Xcn]
 by_cases o11:op=11
 ·subst o11;simp[hs,e0,e1,Grow.appH,Xcn]
 by_cases o32:op=32
 ·subst o32;simp[hs,e0,e1,Grow.appH,Xcn]
 by_cases o17:op=17
 ·subst o17;by_cases h:i=0
  ·simp[hs,e0,e1,h,Grow.appH,Xcn]
  ·simp[hs,e0,e1,h,Grow.appH,Xcn]
 by_cases o38:op=38
 ·subst o38;simp[hs,e0,e1,Grow.appH,Xcn]
 by_cases o33:op=33
 ·subst o33;by_cases h:0<i
  ·simp[hs,e0,e1,h,Grow.appH,Xcn]
  ·simp[hs,e0,e1,h,Grow.appH,Xcn]
 by_cases o34:op=34
 ·subst o34;by_cases h:0<i
  ·simp[hs,e0,e1,h,Grow.appH,Xcn]
  ·simp[hs,e0,e1,h,Grow.appH,Xcn]
 by_cases o35:op=35
 ·subst o35;by_cases h:0<i
  ·simp[hs,e0,e1,h,Grow.appH,Xcn]
  ·simp[hs,e0,e1,h,Grow.appH,Xcn]
 simp[hs,e0,e1,o10,o41,o11,o32,o17,o38,o33,o34,o35,Grow.appH,Xcn]
set_option maxRecDepth 100000 in
theorem f57{k:Nat}{E:Env}{st:St}(hE:E.Wf st)(hk:1<=k):CallQ k E 57 [] st fun r st'=>r=.ok (.map st.H.length)/\st'=⟨st.H++ [.map Xe4],st.I⟩:=by obtain⟨k,rfl⟩:=uK (k:=k) (by omega);refine Xgw rfl rfl (by decide) fun s hs=>?_;have hmw:=Xaa hE;simp[hs,Xap,wrC,updB,updA,Xgp,Xc7,hmw];rfl
theorem Xfb{k f args w E st}(h:CallQ k {E with base:=st.H.length} f args st fun r st'=>r=.ok w/\Grow st st')(hf:∀m,w.fin m=w)(hr:w.refs=[])(ha:args.map AV.arg=args:=by simp):doCall (aCall prog k) E .full (.fn f) args st=some (.ok w,st):=by obtain⟨⟨r,st'⟩,e,e1,g⟩:=h;simp only at e1 g;subst e1;simp only[doCall,ha,e,Xam,hf,hr,Xda,Xax,Xas,Xc5 g.H,Xc5 g.I]
def FE(h:Nat):Prop:=∀(t:T),t.ok->∀k,t.wt+3*h+1100<=k->∀E st b,E.Wf st->st.H[b]?=some (.map Xe4)->CallQ k E 58 [.map b,.agg t.enc,.int .i64 h] st fun r st'=>r=.ok (.bool (fit h t))/\Grow st st'
theorem f58s{h:Nat}(hh:h<=1000)(hR:∀g,g<h->FE g):FE h:=by
 intro t ht k hk E st b hE hb;obtain⟨k,rfl⟩:=uK (k:=k) (by omega);obtain⟨op,s0,nn,l,line⟩:=t;refine Xa8 rfl rfl (by decide) fun s hs e0 e1 e2=>?_;obtain⟨ht1,ht2, -, -, -,ht3⟩:=ht;simp only[T.wt]at hk;have hlw:=T.len_wtL l;have hb1:∀x,(st.H++x)[b]?=some (.map Xe4):=fun x=>Xae hb;have hff:Xew false (.int .i64 op) Xe4=some ((Xaw op).map Xo8):=Xil op forms;have hmw:=Xaa hE;rcases hfo:Xaw op with _|⟨tx,a,c⟩
 ·have hf:fit h (.mk op s0 nn l line)=false:=by cases h<;>simp[fit,okF,hfo]
  rw[hfo]at hff;simp only[hf];by_cases h0:h=0
  ·subst h0;simp[hs,e0,e1,e2,lkpA,hb1,Xc7,hff,Xag,hmw,wrC,Grow.appH]
  ·have h0':¬(h:Int)=0:=by omega
   simp[hs,e0,e1,e2,lkpA,hb1,Xc7,hff,Xag,hmw,wrC,h0,h0',Grow.appH]
 rw[hfo]at hff;simp only[Option.map_some,Xo8]at hff;rcases h with _|g
 ·simp[hs,e0,e1,e2,lkpA,hb1,Xc7,hff,Xag,hmw,wrC,fit,Grow.appH]
 have hg0:¬(g:Int)+1=0:=by omega
 have hfit:fit (g+1) (.mk op s0 nn l line)=(tx.ok s0 && decide (a<=l.length) && decide ((l.length:Int)<=c) && okN op nn && fitL (fit g) op l.length 0 l):=by simp only[fit,okF,hfo,Bool.and_assoc]
 have hE1:E.Wf ⟨st.H++ [.cells 24 [.int .i64 op,.str s0,.int .i64 nn,.sl none l.length (T.encL l),.int .i64 line],.cells 146 [.fn tx.id [] [],.int .i64 a,.int .i64 c]],st.I⟩:=hE.of (by simp) (by simp);have ctx:=(Xvl tx s0 ht1 k (by omega)).noB hE1;simp[hs,e0,e1,e2,lkpA,hb1,Xc7,hff,Xag,hmw,wrC,hg0];refine Xac ctx fun p hp=>?_;obtain⟨r,st1⟩:=p;obtain⟨hr,g1⟩:=hp;simp only at hr g1;subst hr;have q1:st1.H[st.H.length]?=some (.cells 24 [.int .i64 op,.str s0,.int .i64 nn,.sl none l.length (T.encL l),.int .i64 line]):=g1.get (by simp);have q2:st1.H[st.H.length+1]?=some (.cells 146 [.fn tx.id [] [],.int .i64 a,.int .i64 c]):=g1.get (by simp);have qb:st1.H[b]?=some (.map Xe4):=g1.get (hb1 _);have gg:Grow st st1:=(Grow.appH st _).trans g1;cases htx:tx.ok s0
 ·rw[htx]at hfit;simp[hs,e1,e2,q1,q2,hfit,gg]
 rw[htx]at hfit;by_cases hc1:(l.length:Int)<a
 ·have hc1':¬a<=(l.length:Int):=by omega
  simp[hs,e1,e2,q1,q2,hfit,gg,hc1,hc1']
 have hc1':a<=(l.length:Int):=by omega
 by_cases hc2:c<(l.length:Int)
 ·have hc2':¬(l.length:Int)<=c:=by omega
  simp[hs,e1,e2,q1,q2,hfit,gg,hc1,hc1',hc2,hc2']
 have hc2':(l.length:Int)<=c:=by omega
 simp only[hc1',hc2',decide_true,Bool.true_and]at hfit;by_cases hN:okN op nn=true;rotate_left
 ·have hfit':fit (g+1) (.mk op s0 nn l line)=false:=by rw[hfit];simp[hN]
  simp only[okN,Bool.or_eq_true,Bool.and_eq_true,decide_eq_true_eq]at hN;have n0:¬nn=0:=fun e=>hN (.inl e);simp[hs,e1,e2,q1,q2,hc1,hc2,n0];by_cases o2:op=2
  ·subst o2;by_cases n1:nn<0
   ·simp[hs,e1,e2,q1,q2,n1,hfit',gg]
   ·have n2:999999999999999<nn:=by omega
    simp[hs,e1,e2,q1,q2,n1,n2,hfit',gg]
  ·simp[hs,e1,e2,q1,q2,o2,hfit',gg]
 rw[hN,Bool.true_and]at hfit;simp only[okN,Bool.or_eq_true,Bool.and_eq_true,decide_eq_true_eq]at hN;simp[hs,e1,e2,q1,q2,hc1,hc2];have c93:=fun(i:Nat) (hi:i<l.length)=>f93 (.mk op s0 nn l line) i hi (by simpa using ht2) k (by omega);simp only[T.enc,T.op_mk,T.l_mk]at c93;have hwg:=Xah (n:=(g:Int)) (by omega);generalize hres:fit (g+1) (.mk op s0 nn l line)=res;rw[hres]at hfit;refine Xaq (fun n0=>?_) (fun n0=>?_)
 ·simp[hs,e1,e2,q1,q2,hc1,hc2,n0]
  refine Xau (fun n s m st'=> ∃(i:Nat),i<=l.length/\n=l.length - i/\s.length=90/\m=[]/\Grow st1 st'/\lk s 0=.map b/\lk s 2=.int .i64 (g+1)/\lk s 4=.ptr st.H.length 0/\
   lk s 67=.sl none l.length (T.encL l)/\lk s 68=.int .i64 l.length/\lk s 69=.int .i64 i/\fitL (fit g) op l.length i (l.drop i)=res) l.length (by omega)
   ⟨0,by omega,by omega,by simp[hs],rfl,Grow.refl _,by simp[hs,e0],by simp[hs,e2],by simp[hs],by simp[hs],by simp[hs],by simp[hs],hfit.symm⟩ ?_
  clear e0 e1 e2 hs;rintro _ s m st' ⟨i,hi,rfl,hs,rfl,g2,e0,e2,e4,e67,e68,e69,hq⟩;have p1:=g2.get q1;by_cases hc:i<l.length
  ·obtain⟨t,hg⟩:∃t,l[i]?=some t:=⟨_,List.getElem?_eq_getElem hc⟩;rw[T.drop_cons hg]at hq;simp only[fitL]at hq;have hrd:=T.rd hg;have hw:=Xah (n:=(i:Int)+1) (by omega);have hok:=T.okL_get ht3 hg;have hwt:=T.wtL_get hg;have hEs:=(hE.grow gg).grow g2;have hmw2:=Xaa hEs;have hE2:E.Wf ⟨st'.H++ [.cells 24 t.enc],st'.I⟩:=hEs.of (by simp) (by simp);have d93:=(c93 i hc).noF hE2;have c58:=fun st3 (hE3:E.Wf st3) (hb3:st3.H[b]?=some (.map Xe4))=>Xfb (hR g (by omega) t hok k (by omega) {E with base:=st3.H.length} st3 b hE3.based hb3) (fun _=>rfl) rfl;obtain⟨xo,xs,xn,xl,xx⟩:=t;simp only[T.enc]at hrd d93 c58;simp[hs,e0,e2,e4,e67,e68,e69,hc,hrd,Xag,hmw2,wrC,p1,Xae p1];refine Xac d93 fun p hp=>?_;obtain⟨r,st3⟩:=p;obtain⟨hr,g3⟩:=hp;simp only at hr g3;subst hr;have hE3:=hE2.grow g3;have w1:st3.H[st'.H.length]?=some (.cells 24 [.int .i64 xo,.str xs,.int .i64 xn,.sl none xl.length (T.encL xl),.int .i64 xx]):=g3.get (by simp);have w2:st3.H[st.H.length]?=some (.cells 24 [.int .i64 op,.str s0,.int .i64 nn,.sl none l.length (T.encL l),.int .i64 line]):=g3.get (Xae p1);have wb:st3.H[b]?=some (.map Xe4):=g3.get (Xae (g2.get qb));have g13:Grow st st3:=(gg.trans g2).trans ((Grow.appH st' _).trans g3);have cpt:=fun E'=>(Xj2 op l.length i xo k (by omega)).quiet (E:=E') (st:=st3) rfl;have d58:=c58 st3 hE3 wb;simp only[T.op_mk]at hq;have qq:∀E',doCall (aCall prog k) E' .quiet (.fn (Xcn op l.length i)) [.int .i64 xo] st3=some (.ok (.bool (Xbc op l.length i xo)),st3):=cpt;cases hpo:Xbc op l.length i xo
   ·rw[hpo]at hq qq;simp only[Bool.false_and]at hq;subst hq;simp[Nat.testBit,hs,e0,e2,e4,w1,w2,qq,g13]
   rw[hpo,Bool.true_and]at hq;rw[hpo]at qq;cases hft:fit g (.mk xo xs xn xl xx)
   ·rw[hft]at hq d58;simp only[Bool.false_and]at hq;subst hq;simp[Nat.testBit,hs,e0,e2,e4,w1,w2,qq,g13,hwg,d58]
   ·rw[hft,Bool.true_and]at hq;rw[hft]at d58;simp[Nat.testBit,hs,e0,e2,e4,e67,e68,e69,w1,w2,qq,hwg,d58,hw];exact⟨_,by omega,i+1,by omega,rfl,by simp[hs],rfl,(g2.trans (Grow.appH st' _)).trans g3,by simp[hs,e0],by simp[hs,e2],by simp[hs,e4],by simp[hs,e67],by simp[hs,e68],by simp[hs],hq⟩
  ·have hq:res=true:=by rw[<-hq,List.drop_eq_nil_of_le (by omega)];rfl
   simp[hs,e0,e2,e4,e67,e68,e69,hc,hq,gg.trans g2]
 ·have o2:op=2:=by omega
  have n1:¬nn<0:=by omega
  have n2:¬999999999999999<nn:=by omega
  simp[hs,e1,e2,q1,q2,hc1,hc2,n0,o2,n1,n2]
  refine Xau (fun n s m st'=> ∃(i:Nat),i<=l.length/\n=l.length - i/\s.length=90/\m=[]/\Grow st1 st'/\lk s 0=.map b/\lk s 2=.int .i64 (g+1)/\lk s 4=.ptr st.H.length 0/\
   lk s 67=.sl none l.length (T.encL l)/\lk s 68=.int .i64 l.length/\lk s 69=.int .i64 i/\fitL (fit g) op l.length i (l.drop i)=res) l.length (by omega)
   ⟨0,by omega,by omega,by simp[hs],rfl,Grow.refl _,by simp[hs,e0],by simp[hs,e2],by simp[hs],by simp[hs],by simp[hs],by simp[hs],hfit.symm⟩ ?_
  clear e0 e1 e2 hs;rintro _ s m st' ⟨i,hi,rfl,hs,rfl,g2,e0,e2,e4,e67,e68,e69,hq⟩;have p1:=g2.get q1;by_cases hc:i<l.length
  ·obtain⟨t,hg⟩:∃t,l[i]?=some t:=⟨_,List.getElem?_eq_getElem hc⟩;rw[T.drop_cons hg]at hq;simp only[fitL]at hq;have hrd:=T.rd hg;have hw:=Xah (n:=(i:Int)+1) (by omega);have hok:=T.okL_get ht3 hg;have hwt:=T.wtL_get hg;have hEs:=(hE.grow gg).grow g2;have hmw2:=Xaa hEs;have hE2:E.Wf ⟨st'.H++ [.cells 24 t.enc],st'.I⟩:=hEs.of (by simp) (by simp);have d93:=(c93 i hc).noF hE2;have c58:=fun st3 (hE3:E.Wf st3) (hb3:st3.H[b]?=some (.map Xe4))=>Xfb (hR g (by omega) t hok k (by omega) {E with base:=st3.H.length} st3 b hE3.based hb3) (fun _=>rfl) rfl;obtain⟨xo,xs,xn,xl,xx⟩:=t;simp only[T.enc]at hrd d93 c58;simp[hs,e0,e2,e4,e67,e68,e69,hc,hrd,Xag,hmw2,wrC,p1,Xae p1];refine Xac d93 fun p hp=>?_;obtain⟨r,st3⟩:=p;obtain⟨hr,g3⟩:=hp;simp only at hr g3;subst hr;have hE3:=hE2.grow g3;have w1:st3.H[st'.H.length]?=some (.cells 24 [.int .i64 xo,.str xs,.int .i64 xn,.sl none xl.length (T.encL xl),.int .i64 xx]):=g3.get (by simp);have w2:st3.H[st.H.length]?=some (.cells 24 [.int .i64 op,.str s0,.int .i64 nn,.sl none l.length (T.encL l),.int .i64 line]):=g3.get (Xae p1);have wb:st3.H[b]?=some (.map Xe4):=g3.get (Xae (g2.get qb));have g13:Grow st st3:=(gg.trans g2).trans ((Grow.appH st' _).trans g3);have cpt:=fun E'=>(Xj2 op l.length i xo k (by omega)).quiet (E:=E') (st:=st3) rfl;have d58:=c58 st3 hE3 wb;simp only[T.op_mk]at hq;have qq:∀E',doCall (aCall prog k) E' .quiet (.fn (Xcn op l.length i)) [.int .i64 xo] st3=some (.ok (.bool (Xbc op l.length i xo)),st3):=cpt;cases hpo:Xbc op l.length i xo
   ·rw[hpo]at hq qq;simp only[Bool.false_and]at hq;subst hq;simp[Nat.testBit,hs,e0,e2,e4,w1,w2,qq,g13]
   rw[hpo,Bool.true_and]at hq;rw[hpo]at qq;cases hft:fit g (.mk xo xs xn xl xx)
   ·rw[hft]at hq d58;simp only[Bool.false_and]at hq;subst hq;simp[Nat.testBit,hs,e0,e2,e4,w1,w2,qq,g13,hwg,d58]
   ·rw[hft,Bool.true_and]at hq;rw[hft]at d58;simp[Nat.testBit,hs,e0,e2,e4,e67,e68,e69,w1,w2,qq,hwg,d58,hw];exact⟨_,by omega,i+1,by omega,rfl,by simp[hs],rfl,(g2.trans (Grow.appH st' _)).trans g3,by simp[hs,e0],by simp[hs,e2],by simp[hs,e4],by simp[hs,e67],by simp[hs,e68],by simp[hs],hq⟩
  ·have hq:res=true:=by rw[<-hq,List.drop_eq_nil_of_le (by omega)];rfl
   simp[hs,e0,e2,e4,e67,e68,e69,hc,hq,gg.trans g2]
theorem Xs3:∀n h,h<n->h<=1000->FE h
 |0,h,hn,_=>absurd hn (by omega)
 |n+1,h,hn,hh=>f58s hh fun g hg=>Xs3 n g (by omega) (by omega)
theorem f41(t:T)(ht:t.ok)(k:Nat)(hk:t.wt+1410<=k):PureC k 41 [.agg t.enc] (.bool (right t)):=by
 intro E st hE;obtain⟨k,rfl⟩:=uK (k:=k) (by omega);have hE1:E.Wf ⟨st.H++ [.cells 24 t.enc],st.I⟩:=hE.of (by simp) (by simp);have hE2:E.Wf ⟨st.H++ [.cells 24 t.enc,.map Xe4],st.I⟩:=hE.of (by simp) (by simp);have c57:=f57 (k:=k) hE1 (by omega);have c58:=Xfb (Xs3 101 100 (by omega) (by omega) t ht k (by omega) {E with base:=_} _ (st.H.length+1) hE2.based (by simp)) (fun _=>rfl) rfl;obtain⟨op,s0,nn,l,x⟩:=t;refine Xai rfl rfl (by decide) fun s hs e0=>?_;simp only[T.enc]at c57 c58;by_cases o32:op=32
 ·subst o32;simp[hs,e0];refine Xac c57 fun p hp=>?_;obtain⟨r,st3⟩:=p;obtain⟨h1,h2⟩:=hp;simp only at h1 h2;subst h1 h2;have h100:((100:Nat):Int)=100:=rfl;rw[h100]at c58;simp[hs,e0,c58];exact⟨⟨List.prefix_append _ _,List.prefix_rfl⟩,by simp[right,rBlk]⟩
 ·simp[hs,e0,o32,Grow.appH,right,rBlk]
structure Fn where
 around:Int
 name:ByteArray
 params:Nat
 vars:List ByteArray
 mark:Nat
def withS(l:List ByteArray)(s:ByteArray):List ByteArray:=if s∈l then l else l++ [s]
def isDec(op:Int):Bool:=decide (op=30)||decide (op=35)||decide (op=38)||decide (op=41)
def isFn(op:Int):Bool:=decide (op=41)||decide (op=10)
mutual
/-- The names that a tree declares, but for functions within it. -/
def decT:T->List ByteArray->List ByteArray
 |.mk op s _ l _,out=>
  let o:=if isDec op then withS out s else out
  if isFn op then o else decL l o
def decL:List T->List ByteArray->List ByteArray
 |[],out=>out
 |t::r,out=>decL r (decT t out)
end
def varF(fs:List Fn):Nat->Int->ByteArray->Int
 |0,_,_=> -1
 |n+1,at_,s=>if at_<0 then -1 else match fs[at_.toNat]? with
  |none=> -1
  |some f=>match ixS s f.vars with
   |some i=>1000*at_+i
   |none=>varF fs n f.around s
def Xbu(fs:List Fn)(at_:Int)(s:ByteArray):Int:=varF fs (at_+1).toNat at_ s
structure Wk where
 fs:List Fn
 mark:Nat
 e:Int
 line:Int
def Wk.fail(w:Wk)(e line:Int):Wk:=if w.e=0 then{w with e:=e,line:=line}else w
def T.setN(t:T)(n:Int):T:=.mk t.op t.s n t.l t.line
def Xc6(l:List T):List ByteArray:=(l.dropLast).foldl (fun o x=>withS o x.s) []
def Xb8(op:Int)(s:ByteArray)(l:List T)(at_:Int)(mark:Nat):Fn:=
 let ps:=Xc6 l;let v1:=if op=10/\s≠⟨#[]⟩then withS ps s else ps
 {around:=at_,name:=s,params:=ps.length,vars:=decT (l.getLast?.getD default) v1,mark:=mark}
def Xal(at_:Nat)(loop:Bool)(op:Int)(s:ByteArray)(n line:Int)(w:Wk):Int×Bool×Wk:=
 if op=1 then
  let v:=Xbu w.fs at_ s
  (v,loop,if v<0 then w.fail 50 line else w)
 else if op=30\/op=35\/op=38 then(Xbu w.fs at_ s,loop,w)
 else if op=11\/op=16\/op=15 then(w.mark,loop,{w with mark:=w.mark+1})
 else if op=36 then(n,loop,if at_=0 then w.fail 51 line else w)
 else if op=39\/op=40 then(n,loop,if loop then w else w.fail 51 line)
 else if op=34 then(n,true,w)
 else(n,loop,w)
mutual
/-- A tree that stands in a function, in a loop of it, or not. -/
def wT(at_:Nat)(loop:Bool):T->Wk->T×Wk
 |.mk op s n l x,w=>
  if w.e≠0 then(.mk op s n l x,w)
  else if isFn op then
   let f:=Xb8 op s l at_ w.mark;let w1:={w with mark:=w.mark+2}
   if w.fs.length=500\/200<f.vars.length then(.mk op s n l x,w1.fail 52 x)
   else
    let r:=wP w.fs.length l {w1 with fs:=w.fs++ [f]}
    (.mk op s w.fs.length r.1 x,r.2)
  else
   let q:=Xal at_ loop op s n x w;let r:=wL at_ (q.2.1||decide (op=35)) l q.2.2
   (.mk op s q.1 r.1 x,r.2)
def wL(at_:Nat)(loop:Bool):List T->Wk->List T×Wk
 |[],w=>([],w)
 |t::r,w=>
  let a:=wT at_ loop t w;let b:=wL at_ loop r a.2
  (a.1::b.1,b.2)
/-- A function's parts: its parameters, its body. -/
def wP(me:Nat):List T->Wk->List T×Wk
 |[],w=>([],w)
 |[t],w=>
  let a:=wT me false t w
  ([a.1],a.2)
 |t::u::r,w=>
  let b:=wP me (u::r) w
  (t.setN (Xbu w.fs me t.s)::b.1,b.2)
end
def resolve(p:T):List Fn×T×Int×Int:=
 let z:T:=.mk 0 ⟨#[]⟩ 0 [] 0
 if !right p then([],z,0,30)
 else
  let v:=decT p []
  if 200<v.length then([],z,p.line,52)
  else
   let r:=wT 0 false p {fs:=[{around:= -1,name:=⟨#[]⟩,params:=0,vars:=v,mark:=0}],mark:=4,e:=0,line:=0}
   if r.2.e≠0 then([],z,r.2.line,r.2.e)else(r.2.fs,r.1,0,0)
def Fn.enc(f:Fn):List AV:=[.int .i64 f.around,.str f.name,.int .i64 f.params,.sl none f.vars.length (f.vars.map .str),.int .i64 f.mark]
def encFs(fs:List Fn):List AV:=(fs.map Fn.enc).flatten
theorem Xho:encFs []=[]:=rfl
theorem Xck(f:Fn)(r:List Fn):encFs (f::r)=f.enc++encFs r:=rfl
theorem Xgo(a b:List Fn):encFs (a++b)=encFs a++encFs b:=by simp[encFs]
@[simp] theorem Xgn:∀fs:List Fn,(encFs fs).length=fs.length*5
 |[]=>rfl
 |f::r=>by rw[Xck,List.length_append,Xgn r];simp[Fn.enc];omega
theorem Xgc:∀(fs:List Fn) (i:Nat),(encFs fs).drop (i*5)=encFs (fs.drop i)
 |fs,0=>by simp
 |[],i+1=>by simp[encFs]
 |f::r,i+1=>by rw[Xck,List.drop_succ_cons,<-Xgc r i,show(i+1)*5=f.enc.length+i*5 by simp[Fn.enc];omega,List.drop_append];simp
theorem Xb2{fs:List Fn}{i:Nat}{f:Fn}(h:fs[i]?=some f)(j:Nat)(hj:j<5):(encFs fs)[i*5+j]?=f.enc[j]?:=by
 have hd:fs.drop i=f::fs.drop (i+1):=by rw[List.drop_eq_getElem_cons (uB h)];congr 1;exact uV h
 rw[<-List.getElem?_drop,Xgc,hd,Xck,List.getElem?_append_left (by simpa [Fn.enc]using hj)]
theorem Xkc{fs:List Fn}{i:Nat}{f:Fn}(h:fs[i]?=some f)(hh):(encFs fs)[i*5]'hh=.int .i64 f.around:=by have:=Xb2 h 0 (by omega);rw[Nat.add_zero,List.getElem?_eq_getElem hh]at this;simpa [Fn.enc]using this
theorem Xnp{fs:List Fn}{i:Nat}{f:Fn}(h:fs[i]?=some f)(hh):(encFs fs)[i*5+3]'hh=.sl none f.vars.length (f.vars.map .str):=by have:=Xb2 h 3 (by omega);rw[List.getElem?_eq_getElem hh]at this;simpa [Fn.enc]using this
structure FsOk(fs:List Fn):Prop where
 len:fs.length<=500
 each:∀(i:Nat) (f:Fn),fs[i]?=some f-> -1<=f.around/\f.around<i/\f.vars.length<=200
def AccS(E:Env)(I:List (Nat×Nat))(vs:List ByteArray)(v:AV):Prop:=
 (vs=[]/\v=.nils)\/∃i,v=.sl (some i) vs.length (vs.map .str)/\E.rom<=i/\I[i]?=some (vs.length,1)
def owns:AV->Option Nat
 |.sl o _ _=>o
 |_=>none
structure IFr(o:Option Nat)(I I':List (Nat×Nat)):Prop where
 len:I.length<=I'.length
 get:∀j x,some j≠o->I[j]?=some x->I'[j]?=some x
theorem IFr.refl(o I):IFr o I I:=⟨Nat.le_refl _,fun _ _ _ h=>h⟩
theorem IFr.trans{o I I' I''}(h:IFr o I I')(k:IFr o I' I''):IFr o I I'':=⟨Nat.le_trans h.len k.len,fun j x n e=>k.get j x n (h.get j x n e)⟩
def OwnTo(I:List (Nat×Nat))(v v':AV):Prop:=owns v'=owns v\/∃j,owns v'=some j/\I.length<=j
theorem IFr.next{I I' I'':List (Nat×Nat)}{v v':AV}(h:IFr (owns v) I I')(ho:OwnTo I v v')(k:IFr (owns v') I' I''):IFr (owns v) I I'':=by
 refine⟨Nat.le_trans h.len k.len,fun j x n e=>k.get j x ?_ (h.get j x n e)⟩;rcases ho with ho|⟨i,ho,hi⟩
 ·rw[ho];exact n
 ·rw[ho];intro e';cases e';have:=(uB e);omega
theorem f68{E:Env}{st:St}{vs:List ByteArray}{v:AV}(s:ByteArray)(hv:AccS E st.I vs v)(hE:E.Wf st)(hl:vs.length<=100000000000)(k:Nat)(hk:vs.length+2<=k):
  CallQ k E 68 [v,.str s] st fun r st'=> ∃v',r=.ok v'/\st'.H=st.H/\AccS E st'.I (withS vs s) v'/\IFr (owns v) st.I st'.I/\OwnTo st.I v v':=by
 obtain⟨k,rfl⟩:=uK (k:=k) (by omega);refine Xaz rfl rfl (by decide) fun s0 hs e0 e1=>?_;simp[hs,e0,e1]
 refine Xau (fun n s1 m st'=> ∃i:Nat,i<=vs.length/\n=vs.length - i/\s1.length=23/\m=[]/\st=st'/\lk s1 0=v/\lk s1 1=.str s/\lk s1 5=.int .i64 i/\
  (s∈vs↔s∈vs.drop i)) vs.length (by omega) ⟨0,by simp[hs,e0,e1]⟩ ?_
 clear e0 e1 hs;rintro _ s0 m _ ⟨i,hi,rfl,hs,rfl,rfl,e0,e1,e5,hq⟩;have hlen:lenA false v=some (.int .i64 vs.length):=by rcases hv with⟨rfl,rfl⟩|⟨j,rfl, -, -⟩<;>simp[lenA]
 by_cases hc:i<vs.length
 ·rcases hv with⟨rfl,rfl⟩|⟨j,rfl,hj1,hj2⟩
  ·simp at hc
  rw[List.drop_eq_getElem_cons hc,List.mem_cons]at hq;have hw:=Xah (n:=(i:Int)+1) (by omega);by_cases h2:vs[i]=s
  ·have hm:s∈vs:=by rw[hq];exact .inl h2.symm
   simp[hs,e0,e1,e5,hc,h2,withS,hm];exact⟨.inr ⟨j,rfl,hj1,hj2⟩,.refl _ _,.inl rfl⟩
  ·simp[hs,e0,e1,e5,hc,h2,hw];exact⟨_,by omega,i+1,by omega,rfl,by simp[hs],rfl,rfl,by simp[hs,e0],by simp[hs,e1],by simp[hs],by rw[hq];simp[Ne.symm h2]⟩
 ·have hm:¬s∈vs:=by rw[hq,List.drop_eq_nil_of_le (by omega)];simp
  simp only[withS,hm,if_false];rcases hv with⟨rfl,rfl⟩|⟨j,rfl,hj1,hj2⟩
  ·obtain rfl:i=0:=by simp at hi;omega
   simp[hs,e0,e1,e5,Xap,wrC,appA,srcA];refine⟨.inr ⟨st.I.length+1,rfl,by have:=hE.rom;omega,by simp⟩,⟨by simp,fun j x n e=>?_⟩,.inr ⟨_,rfl,by omega⟩⟩;rw[List.getElem?_append_left (uB e)];exact e
  ·have hj3:(st.I++ [(1,1)])[j]?=some (vs.length,1):=by rw[List.getElem?_append_left (uB hj2)];exact hj2
   have hb1:(vs.length+1)*16<=70368744177664:=by omega
   have hb2:vs.length+1<=70368744177664:=by omega
   simp[hs,e0,e1,e5,hc,Xap,wrC,appA,srcA,hj1,hj3,hb1,hb2];refine⟨.inr ⟨j,by simp,hj1,?_⟩,⟨by simp,fun q x n e=>?_⟩,.inl rfl⟩
   ·have:=uB hj3;rw[List.getElem?_set_self this];simp
   ·have hne:¬j=q:=fun e'=>n (by rw[e'];rfl);rw[List.getElem?_set_ne hne,List.getElem?_append_left (uB e)];exact e
theorem OwnTo.next{I I':List (Nat×Nat)}{v v' v'':AV}(hl:I.length<=I'.length)(h:OwnTo I v v')(k:OwnTo I' v' v''):OwnTo I v v'':=by
 rcases k with k|⟨j,k,hj⟩
 ·rcases h with h|⟨i,h,hi⟩
  ·exact .inl (k.trans h)
  ·exact .inr ⟨i,k.trans h,hi⟩
 ·exact .inr ⟨j,k,by omega⟩
theorem AccS.refs{E:Env}{I:List (Nat×Nat)}{vs:List ByteArray}{v:AV}(h:AccS E I vs v)(n:Nat):Xa5 n I.length v.refs=true:=by
 rcases h with⟨-,rfl⟩|⟨i,rfl, -,hi⟩
 ·simp
 ·have:=uB hi
  have hr:∀l:List ByteArray,AV.refsL (l.map .str)=[]:=by
   intro l;induction l with
   |nil=>rfl
   |cons a r ih=>simp[AV.refs,ih]
  simp[hr,Xa5,this]
theorem Xf9{k f args E st}{Q:AV->List (Nat×Nat)->Prop}(h:CallQ k {E with base:=st.H.length} f args st fun r st'=> ∃v,r=.ok v/\st.H<+:st'.H/\Q v st'.I)
  (hr:∀v I,Q v I->Xa5 st.H.length I.length v.refs=true):obP (doCall (aCall prog k) E .keep (.fn f) args st) fun p=> ∃v I,p=(.ok v,⟨st.H,I⟩)/\Q v I:=by
 obtain⟨⟨r,st'⟩,e,v,e1,hp,q⟩:=h;simp only at e1 hp q;subst e1;refine⟨(.ok v,⟨st.H,st'.I⟩),?_,v,st'.I,rfl,q⟩;simp only[doCall,e,Xam,hr _ _ q,Xax,Xas,Xc5 hp]
theorem Xa2{C E lf rd a b c s m st}{Q:Q4}:WP C E lf rd (.seq a (.seq b c)) s m st Q=WP C E lf rd (.seq (.seq a b) c) s m st Q:=by
 rw[Xmn,Xmn,Xmn];unfold WP
 congr 1
 funext p;obtain⟨x,s',m',st'⟩:=p;cases x<;>simp[thn]
def nrmQ(Mid:List AV->List Nat->St->Prop):Q4:=fun x s m st=>x=.nrm/\Mid s m st
@[congr] theorem Xvu{Mid x s s' m}{st st':St}(h:∀_:Unit,Xce s=s')(h2:st=st'):nrmQ Mid x s m st=nrmQ Mid x s' m st':=by rw[<-h (),h2,Xbd]
theorem Xco{C E lf rd a b s m st}{Q:Q4}(Mid:List AV->List Nat->St->Prop)(h1:WP C E lf rd a s m st (nrmQ Mid))(h2:∀s m st,Mid s m st->WP C E lf rd b s m st Q):WP C E lf rd (.seq a b) s m st Q:=by rw[Xmn];exact Xjj h1 fun x s m st ⟨hx,hm⟩=>by subst hx;exact h2 s m st hm
theorem AccS.base{E:Env}{I vs v}(n:Nat)(h:AccS E I vs v):AccS {E with base:=n} I vs v:=h
theorem Xdc(l:List ByteArray)(s:ByteArray):(withS l s).length<=l.length+1:=by unfold withS;split<;>simp
mutual
theorem Xje:∀(t:T) (o:List ByteArray),(decT t o).length<=o.length+t.wt
 |.mk op s _ l _,o=>by
  have h1:(if isDec op then withS o s else o).length<=o.length+1:=by split;exact Xdc _ _;omega
  simp only[decT,T.wt];split
  ·omega
  ·have:=decL_len l (if isDec op then withS o s else o);omega
theorem decL_len:∀(l:List T) (o:List ByteArray),(decL l o).length<=o.length+T.wtL l
 |[],o=>by simp[decL]
 |t::r,o=>by have h1:=Xje t o;have h2:=decL_len r (decT t o);simp only[decL,T.wtL];omega
end
theorem f69(t:T)(k:Nat)(hk:1<=k):PureC k 69 [.agg t.enc] (.bool (isFn t.op)):=by
 intro E st hE;obtain⟨k,rfl⟩:=uK (k:=k) (by omega);obtain⟨op,s0,nn,l,x⟩:=t;refine Xai rfl rfl (by decide) fun s hs e0=>?_;by_cases h1:op=41
 ·subst h1;simp[hs,e0,Grow.appH,isFn]
 by_cases h2:op=10
 ·subst h2;simp[hs,e0,Grow.appH,isFn]
 simp[hs,e0,h1,h2,Grow.appH,isFn]
theorem Xcu{l:List T}{i:Nat}{t:T}(h:l[i]?=some t):T.wtL (l.take (i+1))=T.wtL (l.take i)+t.wt:=by
 induction l generalizing i with
 |nil=>simp at h
 |cons a r ih=>
  rcases i with _|i
  ·simp at h;subst h;simp[T.wtL]
  ·simp only[List.take_succ_cons,T.wtL,ih (by simpa using h)];omega
theorem Xcm{l:List T}{i:Nat}{t:T}(h:l[i]?=some t):T.wtL (l.take i)+t.wt<=T.wtL l:=by
 induction l generalizing i with
 |nil=>simp at h
 |cons a r ih=>
  rcases i with _|i
  ·simp at h;subst h;simp[T.wtL]
  ·have:=ih (i:=i) (by simpa using h);simp only[List.take_succ_cons,T.wtL];omega
theorem f44(n:Nat):∀t:T,t.wt<=n->∀(vs:List ByteArray) (v:AV) (E:Env) (st:St),AccS E st.I vs v->E.Wf st->vs.length+t.wt<=100000000000->∀k,vs.length+2*t.wt+10<=k->
    CallQ k E 44 [.agg t.enc,v] st fun r st'=> ∃v',r=.ok v'/\st.H<+:st'.H/\AccS E st'.I (decT t vs) v'/\IFr (owns v) st.I st'.I/\OwnTo st.I v v':=by
  induction n with
  |zero=>intro t h;cases t;simp[T.wt]at h
  |succ n ih=>
    intro t ht vs v E st hv hE hb k hk;obtain⟨k,rfl⟩:=uK (k:=k) (by omega);obtain⟨op,s0,nn,l,line⟩:=t;simp only[T.wt]at ht hb hk;have hlw:=T.len_wtL l;refine Xaz rfl rfl (by decide) fun s hs e0 e1=>?_;have hE1:E.Wf ⟨st.H++ [.cells 24 [.int .i64 op,.str s0,.int .i64 nn,.sl none l.length (T.encL l),.int .i64 line]],st.I⟩:=hE.of (by simp) (by simp);have c69:=fun I' (h:st.I.length<=I'.length)=>(f69 (.mk op s0 nn l line) k (by omega)).full (E:=E) (st:=⟨st.H++ [.cells 24 [.int .i64 op,.str s0,.int .i64 nn,.sl none l.length (T.encL l),.int .i64 line]],I'⟩) rfl (hE.of (by simp) h);simp only[T.enc,T.op_mk]at c69;rw[Xa2]
    refine Xco (fun s' m' st'=>s'.length=35/\m'=[]/\lk s' 2=.ptr st.H.length 0/\∃v1 I1,lk s' 1=v1/\st'=⟨st.H++ [.cells 24 [.int .i64 op,.str s0,.int .i64 nn,.sl none l.length (T.encL l),.int .i64 line]],I1⟩/\
        AccS E I1 (if isDec op then withS vs s0 else vs) v1/\IFr (owns v) st.I I1/\OwnTo st.I v v1) ?_ ?_
    ·have c68:=Xf9 (E:=E) (st:=⟨st.H++ [.cells 24 [.int .i64 op,.str s0,.int .i64 nn,.sl none l.length (T.encL l),.int .i64 line]],st.I⟩) (Q:=fun v' I'=>AccS E I' (withS vs s0) v'/\IFr (owns v) st.I I'/\OwnTo st.I v v') (by
        refine(f68 (st:=⟨st.H++ [.cells 24 [.int .i64 op,.str s0,.int .i64 nn,.sl none l.length (T.encL l),.int .i64 line]],st.I⟩) s0 (hv.base _) hE1.based (by omega) k (by omega)).mono ?_;rintro r st' ⟨v',h1,h2,h3,h4,h5⟩;exact⟨v',h1,by rw[h2];exact List.prefix_rfl,h3,h4,h5⟩) (fun v' I' h=>h.1.refs _)
     by_cases hd:isDec op
     ·simp only[hd,if_true];have hd':op=30\/op=35\/op=38\/op=41:=by simp[isDec]at hd;omega
      rcases hd' with rfl|rfl|rfl|rfl
      ·simp[hs,e0,e1];refine Xac c68 fun p hp=>?_;obtain⟨v',I',rfl,h1,h2,h3⟩:=hp;simp[hs,e0,e1];exact⟨rfl,by simp[hs],rfl,by simp[hs],_,I',by simp[hs],rfl,h1,h2,h3⟩
      ·simp[hs,e0,e1];refine Xac c68 fun p hp=>?_;obtain⟨v',I',rfl,h1,h2,h3⟩:=hp;simp[hs,e0,e1];exact⟨rfl,by simp[hs],rfl,by simp[hs],_,I',by simp[hs],rfl,h1,h2,h3⟩
      ·simp[hs,e0,e1];refine Xac c68 fun p hp=>?_;obtain⟨v',I',rfl,h1,h2,h3⟩:=hp;simp[hs,e0,e1];exact⟨rfl,by simp[hs],rfl,by simp[hs],_,I',by simp[hs],rfl,h1,h2,h3⟩
      ·simp[hs,e0,e1];refine Xac c68 fun p hp=>?_;obtain⟨v',I',rfl,h1,h2,h3⟩:=hp;simp[hs,e0,e1];exact⟨rfl,by simp[hs],rfl,by simp[hs],_,I',by simp[hs],rfl,h1,h2,h3⟩
     ·simp only[hd,if_false,Bool.false_eq_true];simp[isDec]at hd;simp[hs,e0,e1,hd];exact⟨rfl,by simp[hs],rfl,by simp[hs],_,st.I,by simp[hs,e1],rfl,hv,.refl _ _,.inl rfl⟩
    clear e0 e1 hs;rintro s m _ ⟨hs,rfl,e2,v1,I1,e1,rfl,hv1,hf1,ho1⟩;by_cases hfn:isFn op
    ·simp[hs,e1,e2,c69 _ hf1.len,hfn];exact⟨by simpa [decT,hfn]using hv1,hf1,ho1⟩
    simp[hs,e1,e2,c69 _ hf1.len,hfn];have hl0:(if isDec op then withS vs s0 else vs).length<=vs.length+1:=by split;exact Xdc _ _;omega
    have hfin:decT (.mk op s0 nn l line) vs=decL l (if isDec op then withS vs s0 else vs):=by simp[decT,hfn]
    rw[hfin];generalize (if isDec op then withS vs s0 else vs)=vs1 at hv1 hl0
    refine Xau (fun n s m st'=> ∃(i:Nat) (vs2:List ByteArray) (v2:AV) (I2:List (Nat×Nat)),i<=l.length/\n=l.length - i/\s.length=35/\m=[]/\
      st'=⟨st.H++ [.cells 24 [.int .i64 op,.str s0,.int .i64 nn,.sl none l.length (T.encL l),.int .i64 line]],I2⟩/\lk s 1=v2/\lk s 2=.ptr st.H.length 0/\lk s 5=.int .i64 i/\
      AccS E I2 vs2 v2/\IFr (owns v) st.I I2/\OwnTo st.I v v2/\vs2.length<=vs.length+1+T.wtL (l.take i)/\decL (l.drop i) vs2=decL l vs1) l.length (by omega)
      ⟨0,vs1,v1,I1,by omega,by omega,by simp[hs],rfl,rfl,by simp[hs,e1],by simp[hs,e2],by simp[hs],hv1,hf1,ho1,by omega,by simp⟩ ?_
    clear e1 e2 hs;rintro _ s m _ ⟨i,vs2,v2,I2,hi,rfl,hs,rfl,rfl,e1,e2,e5,hv2,hf2,ho2,hl2,hq⟩;by_cases hc:i<l.length
    ·obtain⟨t,hg⟩:∃t,l[i]?=some t:=⟨_,List.getElem?_eq_getElem hc⟩;rw[T.drop_cons hg,decL]at hq;have hrd:=T.rd hg;have hw:=Xah (n:=(i:Int)+1) (by omega);have hwt:=Xcm hg;have hwt1:=Xcu hg;have hE2:E.Wf ⟨st.H++ [.cells 24 [.int .i64 op,.str s0,.int .i64 nn,.sl none l.length (T.encL l),.int .i64 line]],I2⟩:=hE.of (by simp) hf2.len;have hdl:=Xje t vs2
     have c44:=Xf9 (E:=E) (st:=⟨st.H++ [.cells 24 [.int .i64 op,.str s0,.int .i64 nn,.sl none l.length (T.encL l),.int .i64 line]],I2⟩) (Q:=fun v' I'=>AccS E I' (decT t vs2) v'/\IFr (owns v2) I2 I'/\OwnTo I2 v2 v') (by
       refine(ih t (by omega) vs2 v2 _ ⟨st.H++ [.cells 24 [.int .i64 op,.str s0,.int .i64 nn,.sl none l.length (T.encL l),.int .i64 line]],I2⟩ (hv2.base _) hE2.based (by omega) k (by omega)).mono ?_;rintro r st' ⟨v',h1,h2,h3,h4,h5⟩;exact⟨v',h1,h2,h3,h4,h5⟩) (fun v' I' h=>h.1.refs _)
     simp[hs,e1,e2,e5,hc,hrd];refine Xac c44 fun p hp=>?_;obtain⟨v',I',rfl,h1,h2,h3⟩:=hp;simp[hs,e1,e2,e5,hw];exact⟨_,by omega,i+1,_,v',I',by omega,rfl,by simp[hs],rfl,rfl,by simp[hs],by simp[hs,e2],by simp[hs],h1,hf2.next ho2 h2,ho2.next hf2.len h3,by omega,hq⟩
    ·have hq:vs2=decL l vs1:=by rw[<-hq,List.drop_eq_nil_of_le (by omega)];rfl
     simp[hs,e1,e2,e5,hc];exact⟨hq▸hv2,hf2,ho2⟩
theorem Xjq{fs:List Fn}(hf:FsOk fs)(s:ByteArray):∀n m (a:Int),(a+1).toNat<=n->(a+1).toNat<=m->varF fs n a s=varF fs m a s
 |0,0,a,_,_=>rfl
 |0,m+1,a,h,_=>by rw[varF,varF,if_pos (by omega)]
 |n+1,0,a,_,h=>by rw[varF,varF,if_pos (by omega)]
 |n+1,m+1,a,h,h'=>by
  rw[varF,varF];split
  ·rfl
  ·split
   ·rfl
   ·rename_i f hfa;split
    ·rfl
    ·have:=(hf.each _ f hfa).2.1;exact Xjq hf s n m f.around (by omega) (by omega)
theorem Xlk{fs:List Fn}(hf:FsOk fs)(s:ByteArray){a:Int}{f:Fn}(h0:0<=a)(h:fs[a.toNat]?=some f):Xbu fs a s=match ixS s f.vars with
  |some i=>1000*a+i
  |none=>Xbu fs f.around s:=by
 have:=(hf.each _ f h).2.1;rw[Xbu,show(a+1).toNat=a.toNat+1 by omega,varF,if_neg (by omega),h];show(match ixS s f.vars with|some i=>1000*a+(i:Int)|none=>varF fs a.toNat f.around s)=_;rcases ixS s f.vars with _|i
 ·show varF fs a.toNat f.around s=varF fs (f.around+1).toNat f.around s;exact Xjq hf s _ _ _ (by omega) (by omega)
 ·rfl
theorem Xjp{fs:List Fn}(s:ByteArray){a:Int}(h0:a<0):Xbu fs a s= -1:=by
 rw[Xbu];rcases h:(a+1).toNat with _|n
 ·rfl
 ·rw[varF,if_pos h0]
theorem f71{fs:List Fn}(hf:FsOk fs){b:Nat}{o:Option Nat}{x1 x2 x3:AV}{E:Env}{st:St}(hb:st.H[b]?=some (.cells 71 [.sl o fs.length (encFs fs),x1,x2,x3]))(s:ByteArray)(a:Int)(ha: -1<=a)(ha2:a<fs.length)
  (k:Nat) (hk:510<=k):CallQ k E 71 [.ptr b 0,.int .i64 a,.str s] st fun r st'=>r=.ok (.int .i64 (Xbu fs a s))/\Grow st st':=by
 obtain⟨k,rfl⟩:=uK (k:=k) (by omega);refine Xa8 rfl rfl (by decide) fun s0 hs e0 e1 e2=>?_;have hlen:=hf.len;simp[hs,e0,e1,e2];generalize hres:Xbu fs a s=res
 refine Xau (fun n s0 m st'=> ∃a:Int, -1<=a/\a<fs.length/\n=(a+1).toNat/\s0.length=43/\m=[]/\st=st'/\lk s0 0=.ptr b 0/\lk s0 1=.int .i64 a/\lk s0 2=.str s/\Xbu fs a s=res) (a+1).toNat (by omega)
  ⟨a,ha,ha2,rfl,by simp[hs],rfl,rfl,by simp[hs,e0],by simp[hs,e1],by simp[hs,e2],hres⟩ ?_
 clear e0 e1 e2 hs hres ha ha2;rintro _ s0 m _ ⟨a,ha,ha2,rfl,hs,rfl,rfl,e0,e1,e2,hq⟩;by_cases h0:0<=a
 ·obtain⟨a,rfl⟩:∃a':Nat,a=a':=⟨a.toNat,by omega⟩;have hal:a<fs.length:=by omega
  obtain⟨f,hg⟩:∃f,fs[a]?=some f:=⟨_,List.getElem?_eq_getElem hal⟩;have hfe:=hf.each a f hg;have hcv:=Xnp hg;have hcv':(encFs fs)[a*5+3]?=some (.sl none f.vars.length (f.vars.map .str)):=Xb2 hg 3 (by omega);have hca:=Xkc hg;rw[Xlk hf s h0 (by simpa using hg)]at hq;simp[hs,e0,e1,e2,hb,hal,hcv,hcv']
  refine Xau (fun n s0 m st'=> ∃j:Nat,j<=f.vars.length/\n=f.vars.length - j/\s0.length=43/\m=[]/\st=st'/\lk s0 0=.ptr b 0/\lk s0 1=.int .i64 a/\lk s0 2=.str s/\lk s0 7=.sl none f.vars.length (f.vars.map .str)/\lk s0 8=.int .i64 j/\
   ixS s f.vars=(ixS s (f.vars.drop j)).map (·+j)) f.vars.length (by omega) ⟨0,by omega,by omega,by simp[hs],rfl,rfl,by simp[hs,e0],by simp[hs,e1],by simp[hs,e2],by simp[hs],by simp[hs],by simp⟩ ?_
  clear e0 e1 e2 hs;rintro _ s0 m _ ⟨j,hj,rfl,hs,rfl,rfl,e0,e1,e2,e7,e8,hn⟩;by_cases hc:j<f.vars.length
  ·rw[List.drop_eq_getElem_cons hc,ixS]at hn;have hw:=Xah (n:=(j:Int)+1) (by omega);have hw1:=Xah (n:=1000*(a:Int)) (by omega);have hw2:=Xah (n:=1000*(a:Int)+j) (by omega);by_cases h2:s=f.vars[j]
   ·rw[if_pos h2]at hn;simp at hn;rw[hn]at hq;simp only at hq;rw[hq]at hw2;simp[hs,e0,e1,e2,e7,e8,hc,<-h2,hw1,hq,hw2,Grow.refl]
   ·rw[if_neg h2]at hn;simp[hs,e0,e1,e2,e7,e8,hc,Ne.symm h2,hw];exact⟨_,by omega,j+1,by omega,rfl,by simp[hs],rfl,rfl,by simp[hs,e0],by simp[hs,e1],by simp[hs,e2],by simp[hs,e7],by simp[hs],by rw[hn,Option.map_map];congr 1;funext x;simp;omega⟩
  ·rw[List.drop_eq_nil_of_le (by omega),ixS]at hn;simp at hn;rw[hn]at hq;simp only at hq;simp[hs,e0,e1,e2,e7,e8,hc,hb,hal,hca];exact⟨_,by omega,f.around,hfe.1,by omega,rfl,by simp[hs],rfl,rfl,by simp[hs,e0],by simp[hs],by simp[hs,e2],hq⟩
 ·rw[Xjp s (by omega)]at hq;simp[hs,e0,e1,e2,h0,hq,Grow.refl]
structure WS(E:Env)(st:St)(b i:Nat)(w:Wk):Prop where
 blk:st.H[b]?=some (.cells 71 [.sl (some i) w.fs.length (encFs w.fs),.int .i64 w.mark,.int .i64 w.e,.int .i64 w.line])
 rob:E.rob<=b
 rom:E.rom<=i
 arr:st.I[i]?=some (w.fs.length,5)
theorem Fn.enc_refs(f:Fn):AV.refsL f.enc=[]:=by
 have hr:∀l:List ByteArray,AV.refsL (l.map .str)=[]:=by
  intro l;induction l with
  |nil=>rfl
  |cons a r ih=>simp[AV.refs,ih]
 simp[Fn.enc,hr]
theorem Xdp:∀fs:List Fn,AV.refsL (encFs fs)=[]
 |[]=>rfl
 |f::r=>by rw[Xck,Xcs,Fn.enc_refs,Xdp r];rfl
theorem f72{E:Env}{st:St}{b i:Nat}{w:Wk}(hw:WS E st b i w)(h0:w.e=0)(e line:Int)(k:Nat)(hk:1<=k):CallQ k E 72 [.ptr b 0,.int .i64 e,.int .i64 line] st fun r st'=>r=.ok (.tup [])/\
  st'=⟨st.H.set b (.cells 71 [.sl (some i) w.fs.length (encFs w.fs),.int .i64 w.mark,.int .i64 e,.int .i64 line]),st.I⟩:=by
 obtain⟨k,rfl⟩:=uK (k:=k) (by omega);refine Xa8 rfl rfl (by decide) fun s0 hs e0 e1 e2=>?_;have hb:=hw.blk;have hr:=hw.rob;have hlt:=uB hb;rw[h0]at hb;have hset:∀x,(st.H.set b x)[b]?=some x:=fun x=>List.getElem?_set_self hlt;simp[hs,e0,e1,e2,hb,Xag,Xaf,Xdw,hr,wrC,hset]
@[congr] theorem Xvt{C:CSem}{E:Env}{k k' i o m r ds sts s st Q p}(h:∀_:Unit,Xce k=k'):nxtD C E k i o m r ds sts s st Q p=nxtD C E k' i o m r ds sts s st Q p:=by rw[<-h (),Xbd]
theorem Xrk{k f args E st}{Q:AV->St->Prop}(h:CallQ k {E with base:=st.H.length} f args st fun r st'=> ∃v,r=.ok v/\Q v st')
  (hr:∀v st',Q v st'->Xa5 st.H.length st'.I.length v.refs=true):obP (doCall (aCall prog k) E .keep (.fn f) args st) fun p=> ∃v st',p=(.ok v,⟨st'.H.take st.H.length,st'.I⟩)/\Q v st':=by
 obtain⟨⟨r,st'⟩,e,v,e1,q⟩:=h;simp only at e1 q;subst e1;refine⟨(.ok v,⟨st'.H.take st.H.length,st'.I⟩),?_,v,st',rfl,q⟩;simp only[doCall,e,Xam,hr _ _ q,Xax,Xas]
structure HFr(b:Nat)(H H':List ABlk):Prop where
 len:H.length<=H'.length
 get:∀j x,j≠b->H[j]?=some x->H'[j]?=some x
theorem HFr.refl(b H):HFr b H H:=⟨Nat.le_refl _,fun _ _ _ h=>h⟩
theorem HFr.trans{b H H' H''}(h:HFr b H H')(k:HFr b H' H''):HFr b H H'':=⟨Nat.le_trans h.len k.len,fun j x n e=>k.get j x n (h.get j x n e)⟩
theorem HFr.app(b:Nat)(H l:List ABlk):HFr b H (H++l):=⟨by simp,fun j x _ e=>Xae e⟩
theorem HFr.take{b:Nat}{H H':List ABlk}(h:HFr b H H'):HFr b H (H'.take H.length):=by refine⟨by rw[List.length_take];have:=h.len;omega,fun j x n e=>?_⟩;rw[List.getElem?_take_of_lt (uB e)];exact h.get j x n e
theorem HFr.take_len{b:Nat}{H H':List ABlk}(h:HFr b H H'):(H'.take H.length).length=H.length:=by rw[List.length_take];have:=h.len;omega
theorem HFr.set(b:Nat)(H:List ABlk)(x:ABlk):HFr b H (H.set b x):=⟨by simp,fun j y n e=>by rw[List.getElem?_set_ne (Ne.symm n)];exact e⟩
def NodeV(lo m:Nat)(v:AV)(t:T):Prop:=∃lv,v=.agg [.int .i64 t.op,.str t.s,.int .i64 t.n,lv,.int .i64 t.line]/\
 ((t.l=[]/\lv=.nils)\/∃o,lv=.sl o t.l.length (T.encL t.l)/\∀j,o=some j->lo<=j/\j<m)
theorem NodeV.of(lo m:Nat)(t:T):NodeV lo m (.agg t.enc) t:=by obtain⟨op,s,n,l,x⟩:=t;exact⟨.sl none l.length (T.encL l),rfl,.inr ⟨none,rfl,nofun⟩⟩
theorem NodeV.mono{lo m m' v t}(h:NodeV lo m v t)(hm:m<=m'):NodeV lo m' v t:=by
 obtain⟨lv,e,h|⟨o,e',h⟩⟩:=h
 ·exact⟨lv,e,.inl h⟩
 ·exact⟨lv,e,.inr ⟨o,e',fun j hj=>by have:=h j hj;omega⟩⟩
theorem NodeV.cells{lo m v t}(h:NodeV lo m v t):∃lv,v=.agg [.int .i64 t.op,.str t.s,.int .i64 t.n,lv,.int .i64 t.line]/\lv.one=true/\AV.fin 0 lv=.sl none t.l.length (T.encL t.l)/\∀n,Xa5 n m v.refs=true:=by
 obtain⟨lv,e,⟨h1,h2⟩|⟨o,e',h⟩⟩:=h
 ·exact⟨lv,e,by rw[h2];rfl,by rw[h1,h2];simp,fun n=>by rw[e,h2];simp⟩
 ·refine⟨lv,e,by rw[e'];rfl,?_,fun n=>?_⟩
  ·rw[e'];cases o<;>simp
  ·rw[e,e'];cases o with
   |none=>simp
   |some j=>simp[Xa5,(h j rfl).2]
theorem T.enc_eq(t:T):t.enc=[.int .i64 t.op,.str t.s,.int .i64 t.n,.sl none t.l.length (T.encL t.l),.int .i64 t.line]:=by obtain⟨op,s,n,l,x⟩:=t;rfl
def AccT(m:Nat)(I:List (Nat×Nat))(ts:List T)(v:AV):Prop:=
 (ts=[]/\v=.nils)\/∃j,v=.sl (some j) ts.length (T.encL ts)/\m<=j/\I[j]?=some (ts.length,5)
theorem AccT.one{m I ts v}(h:AccT m I ts v):v.one=true:=by rcases h with⟨-,rfl⟩|⟨j,rfl, -, -⟩<;>rfl
theorem AccT.node{m I ts v}(h:AccT m I ts v)(op:Int)(s:ByteArray)(n x:Int):NodeV m I.length (.agg [.int .i64 op,.str s,.int .i64 n,v,.int .i64 x]) (.mk op s n ts x):=by
 rcases h with⟨rfl,rfl⟩|⟨j,rfl,hmj,hj⟩
 ·exact⟨.nils,rfl,.inl ⟨rfl,rfl⟩⟩
 ·exact⟨_,rfl,.inr ⟨some j,rfl,fun q e=>by cases e;exact⟨hmj,(uB hj)⟩⟩⟩
theorem AccT.fr{m I I' ts v o}(h:AccT m I ts v)(ho:∀i,o=some i->i<m)(f:IFr o I I'):AccT m I' ts v:=by
 rcases h with h|⟨j,e,hj,hi⟩
 ·exact .inl h
 ·refine .inr ⟨j,e,hj,f.get j _ (fun e'=>?_) hi⟩;have:=ho j e'.symm;omega
structure IOld(m:Nat)(I I':List (Nat×Nat)):Prop where
 len:I.length<=I'.length
 get:∀j x,j<m->I[j]?=some x->I'[j]?=some x
theorem IOld.refl(m I):IOld m I I:=⟨Nat.le_refl _,fun _ _ _ h=>h⟩
theorem IOld.push(m:Nat)(I:List (Nat×Nat))(x:Nat×Nat):IOld m I (I++ [x]):=⟨by simp,fun j y _ e=>by rw[List.getElem?_append_left (uB e)];exact e⟩
theorem IOld.trans{m I I' I''}(h:IOld m I I')(k:IOld m I' I''):IOld m I I'':=⟨Nat.le_trans h.len k.len,fun j x n e=>k.get j x n (h.get j x n e)⟩
theorem AccT.app{E:Env}{H:List ABlk}{m:Nat}{I:List (Nat×Nat)}{ts:List T}{v:AV}(h:AccT m I ts v)(hm:m<=I.length)(hr:E.rom<=m)(hl:ts.length<=100000000000)(t:T)(q:Nat):
  ∃v' I',appA E ⟨H,I⟩ 5 64 v (.sl (some q) 1 t.enc)=some (v',⟨H,I'⟩)/\AccT m I' (ts++ [t]) v'/\IOld m I I':=by
 have h1:t.enc.length=1*5:=by simp
 have h2:=T.enc_one t;rcases h with⟨rfl,rfl⟩|⟨j,rfl,hj,hi⟩
 ·refine⟨.sl (some I.length) 1 t.enc,I++ [(1,5)],?_,.inr ⟨I.length,by simp,hm,by simp⟩,.push _ _ _⟩;simp only[appA,srcA,h1,decide_true,h2,Bool.and_self,Xax,Xam,T.enc_fin];rfl
 ·refine⟨.sl (some j) (ts.length+1) (T.encL ts++t.enc),I.set j (ts.length+1,5),?_,.inr ⟨j,by simp[T.encL_append],hj,?_⟩,by simp,fun q x hq e=>?_⟩
  ·have hj1:E.rom<=j:=by omega
   have hb1:(ts.length+1)*64<=70368744177664:=by omega
   have hb2:ts.length+1<=70368744177664:=by omega
   simp only[appA,srcA,h1,decide_true,h2,Bool.and_self,Xax,Xam,T.enc_fin,hj1,hi,T.encL_length,hb1,hb2]
  ·rw[List.getElem?_set_self (uB hi)];simp
  ·rw[List.getElem?_set_ne (by omega)];exact e
mutual
/-- Functions have a body. -/
def T.fk:T->Prop
 |.mk op _ _ l _=>(isFn op=true->l≠ []/\l.length<=1048576)/\T.fkL l
def T.fkL:List T->Prop
 |[]=>True
 |t::r=>t.fk/\T.fkL r
end
theorem T.fkL_get:∀{l:List T} {i:Nat} {t:T},T.fkL l->l[i]?=some t->t.fk
 |[],i,t,_,h=>by simp at h
 |a::r,0,t,h,e=>by simp at e;subst e;exact h.1
 |a::r,i+1,t,h,e=>T.fkL_get h.2 (by simpa using e)
theorem T.fkL_of:∀{l:List T},(∀t∈l,t.fk)->T.fkL l
 |[],_=>trivial
 |a::r,h=>⟨h a (by simp),T.fkL_of fun t ht=>h t (by simp[ht])⟩
theorem Xfs(f:T->Bool)(op:Int)(len:Nat):∀i l,fitL f op len i l=true->∀t∈l,f t=true
 |i,[],_,t,h=>by simp at h
 |i,a::r,h,t,ht=>by
  simp only[fitL,Bool.and_eq_true]at h;rcases List.mem_cons.1 ht with rfl|ht
  ·exact h.1.2
  ·exact Xfs f op len (i+1) r h.2 t ht
theorem Xsp:∀(h:Nat) (t:T),fit h t=true->t.fk
 |0,t,e=>by cases t;simp[fit]at e
 |h+1,.mk op s n l x,e=>by
  simp only[fit,Bool.and_eq_true]at e;refine⟨fun hf=>?_,T.fkL_of fun t ht=>Xsp h t (Xfs _ _ _ _ _ e.2 t ht)⟩;have h1:=e.1.1;refine⟨?_,?_⟩
  ·rintro rfl;simp[isFn]at hf;rcases hf with rfl|rfl<;>simp[okF,Xaw,forms]at h1
  ·simp[isFn]at hf;rcases hf with rfl|rfl<;>(simp[okF,Xaw,forms]at h1;omega)
theorem Xlp{t:T}(h:right t=true):t.fk:=by simp only[right,rBlk,Bool.and_eq_true]at h;exact Xsp 100 t h.2
def isVn(op:Int):Bool:=decide (op=1)||decide (op=30)||decide (op=35)||decide (op=38)||decide (op=41)
mutual
def T.wf:T->Prop
 |.mk op s n l x=>(op≠2->n=0)/\(isFn op=true->l≠ []/\∀u∈l.dropLast,u.op=1)/\(isVn op=true->Xbq s=true)/\((op=10->s≠⟨#[]⟩->Xbq s=true)/\(op=1->l=[]))/\T.wfL l
def T.wfL:List T->Prop
 |[]=>True
 |t::r=>t.wf/\T.wfL r
end
theorem T.wfL_of:∀{l:List T},(∀t∈l,t.wf)->T.wfL l
 |[],_=>trivial
 |a::r,h=>⟨h a (by simp),T.wfL_of fun t ht=>h t (by simp[ht])⟩
theorem T.wfL_mem:∀{l:List T} {t:T},T.wfL l->t∈l->t.wf
 |a::r,t,h,e=>by
  rcases List.mem_cons.1 e with rfl|e
  ·exact h.1
  ·exact T.wfL_mem h.2 e
theorem Xjb(f:T->Bool)(len:Nat):∀i l,i+l.length=len->fitL f 10 len i l=true->∀u∈l.dropLast,u.op=1
 |i,[],_,_,u,h=>by simp at h
 |i,[x],_,_,u,h=>by simp at h
 |i,x::y::r,hl,hf,u,h=>by
  have hne:¬i+1=len:=by simp at hl;omega
  simp only[fitL,Xbc,true_or,if_true,if_neg hne,Bool.and_eq_true,decide_eq_true_eq]at hf;simp only[List.dropLast_cons_cons,List.mem_cons]at h;rcases h with rfl|h
  ·exact hf.1.1
  ·exact Xjb f len (i+1) (y::r) (by simp at hl⊢;omega) (by simp only[fitL,Xbc,true_or,if_true,Bool.and_eq_true];exact hf.2) u h
theorem Xl6(f:T->Bool)(len:Nat):∀i l,fitL f 41 len i l=fitL f 10 len i l
 |i,[]=>rfl
 |i,x::r=>by simp only[fitL,Xl6 f len (i+1) r,Xbc,or_true,true_or,if_true]
theorem Xso:∀(h:Nat) (t:T),fit h t=true->t.wf
 |0,_,e=>by simp[fit]at e
 |h+1,.mk op s n l x,e=>by
  simp only[fit,Bool.and_eq_true]at e;obtain⟨⟨e1,e2⟩,e3⟩:=e;have hsub:T.wfL l:=T.wfL_of fun t ht=>Xso h t (Xfs _ _ _ _ _ e3 t ht);refine⟨fun hn=>?_,fun hf=>?_,fun hv=>?_,⟨fun h10 hs=>?_,fun h1=>?_⟩,hsub⟩
  ·simpa [okN,hn]using e2
  ·have hop:op=10\/op=41:=by simp[isFn]at hf;omega
   rcases hop with rfl|rfl
   ·refine⟨?_,Xjb _ _ 0 l (by simp) e3⟩;rintro rfl;simp[okF,Xaw,forms]at e1
   ·rw[Xl6]at e3;refine⟨?_,Xjb _ _ 0 l (by simp) e3⟩;rintro rfl;simp[okF,Xaw,forms]at e1
  ·simp only[isVn,Bool.or_eq_true,decide_eq_true_eq]at hv;rcases hv with(((rfl|rfl)|rfl)|rfl)|rfl<;>(simp[okF,Xaw,forms,TX.ok]at e1;exact e1.1)
  ·subst h10;simp[okF,Xaw,forms,TX.ok,hs]at e1;exact e1.1
  ·subst h1;rcases l with _|⟨a,r⟩
   ·rfl
   ·simp[okF,Xaw,forms,TX.ok]at e1;omega
theorem Xgr{t:T}(h:right t=true):t.wf:=by simp only[right,rBlk,Bool.and_eq_true]at h;exact Xso _ _ h.2
mutual
def Xdu:T->T
 |.mk op s n l x=>.mk op s (if op=2 then n else 0) (bareL l) x
def bareL:List T->List T
 |[]=> []
 |t::r=>Xdu t::bareL r
end
mutual
theorem Xjh:∀t:T,t.wf->Xdu t=t
 |.mk op s n l x,h=>by
  simp only[Xdu,bareL_id l h.2.2.2.2];split
  ·rfl
  ·rename_i hn;rw[h.1 hn]
theorem bareL_id:∀l:List T,T.wfL l->bareL l=l
 |[],_=>rfl
 |t::r,h=>by simp only[bareL,Xjh t h.1,bareL_id r h.2]
end
theorem Xqb(t:T)(v:Int)(h:t.op≠2):Xdu (t.setN v)=Xdu t:=by obtain⟨op,s,n,l,x⟩:=t;simp only[T.op_mk]at h;simp[T.setN,Xdu,h]
mutual
theorem Xla(at_:Nat)(loop:Bool):∀(t:T) (w:Wk),t.wf->Xdu (wT at_ loop t w).1=t
 |.mk op s n l x,w,h=>by
  have h0:=Xjh (.mk op s n l x) h;simp only[wT];split
  ·exact h0
  ·split
   ·rename_i hf;split
    ·exact h0
    ·have hop:op≠2:=by rintro rfl;simp[isFn]at hf
     simp only[Xdu,if_neg hop,bare_wP _ l _ h.2.2.2.2 (h.2.1 hf).2,h.1 hop]
   ·simp only[Xdu,bare_wL _ _ l _ h.2.2.2.2]
    congr 1
    by_cases h2:op=2
    ·subst h2;simp[Xal]
    ·rw[if_neg h2,h.1 h2]
theorem bare_wL(at_:Nat)(loop:Bool):∀(l:List T) (w:Wk),T.wfL l->bareL (wL at_ loop l w).1=l
 |[],w,_=>rfl
 |t::r,w,h=>by simp only[wL,bareL,Xla _ _ t _ h.1,bare_wL _ _ r _ h.2]
theorem bare_wP(me:Nat):∀(l:List T) (w:Wk),T.wfL l->(∀u∈l.dropLast,u.op=1)->bareL (wP me l w).1=l
 |[],w,_,_=>rfl
 |[t],w,h,_=>by simp only[wP,bareL,Xla _ _ t _ h.1]
 |t::u::r,w,h,hp=>by
  have h1:t.op≠2:=by rw[hp t (by simp)];decide
  simp only[wP,bareL,Xqb t _ h1,Xjh t h.1,bare_wP me (u::r) w h.2 (fun v hv=>hp v (by simp[hv]))]
end
theorem Xcy(t:T)(h:(resolve t).2.2.2=0):right t=true/\(decT t []).length<=200/\∃w:Wk,w={fs:=[{around:= -1,name:=⟨#[]⟩,params:=0,vars:=decT t [],mark:=0}],mark:=4,e:=0,line:=0}/\
  (wT 0 false t w).2.e=0/\resolve t=((wT 0 false t w).2.fs,(wT 0 false t w).1,0,0):=by
 unfold resolve at h⊢;simp only at h⊢;split at h
 ·simp at h
 ·rename_i hr;have hr:right t=true:=by simpa using hr
  split at h
  ·simp at h
  ·rename_i h2;split at h
   ·rename_i hh;exact absurd h hh
   ·rename_i h3;simp only[ne_eq,Classical.not_not]at h3;refine⟨hr,by omega,_,rfl,h3,?_⟩;simp only[hr,h2,h3,Bool.not_true,Bool.false_eq_true,if_false,ne_eq,not_true]
theorem Xgk(t:T)(h:(resolve t).2.2.2=0):Xdu (resolve t).2.1=t/\(resolve t).2.2.1=0:=by obtain⟨hr,hl,w,hw,he,hres⟩:=Xcy t h;rw[hres];exact⟨Xla _ _ t _ (Xgr hr),rfl⟩
theorem Xkw(t:T)(h:(resolve t).2.2.2≠0):(resolve t).1=[]/\(resolve t).2.1=.mk 0 ⟨#[]⟩ 0 [] 0:=by
 unfold resolve at h⊢;simp only at h⊢;split
 ·exact⟨rfl,rfl⟩
 ·split
  ·exact⟨rfl,rfl⟩
  ·split
   ·exact⟨rfl,rfl⟩
   ·rename_i h1 h2 h3;simp[h1,h2,h3]at h
structure WkLe(w w':Wk)(n:Nat):Prop where
 fs:FsOk w'.fs
 pre:w.fs<+:w'.fs
 mark:w'.mark<=w.mark+2*n
 up:w.mark<=w'.mark
theorem WkLe.trans{a b c:Wk}{n m p:Nat}(h:WkLe a b n)(k:WkLe b c m)(hp:n+m<=p):WkLe a c p:=
 ⟨k.fs,h.pre.trans k.pre,by have:=h.mark;have:=k.mark;omega,Nat.le_trans h.up k.up⟩
theorem WkLe.refl{w:Wk}(h:FsOk w.fs)(n:Nat):WkLe w w n:=⟨h,List.prefix_rfl,by omega,Nat.le_refl _⟩
@[simp] theorem Xuu(w:Wk)(e l):(w.fail e l).fs=w.fs:=by unfold Wk.fail;split<;>rfl
@[simp] theorem Xzc(w:Wk)(e l):(w.fail e l).mark=w.mark:=by unfold Wk.fail;split<;>rfl
theorem Xiz(at_:Nat)(loop:Bool)(op:Int)(s:ByteArray)(n line:Int)(w:Wk)(h:FsOk w.fs):WkLe w (Xal at_ loop op s n line w).2.2 1/\(Xal at_ loop op s n line w).2.2.fs=w.fs:=by
 unfold Xal;repeat' split
 all_goals refine⟨⟨?_,?_,?_,?_⟩,?_⟩<;>simp only[]<;>(repeat' split)<;>simp[h]
theorem FsOk.push{fs:List Fn}(h:FsOk fs){f:Fn}(h1:fs.length<500)(h2:f.vars.length<=200)(h3: -1<=f.around)(h4:f.around<fs.length):FsOk (fs++ [f]):=by
 refine⟨by simp;omega,fun i g hg=>?_⟩;by_cases hi:i<fs.length
 ·rw[List.getElem?_append_left hi]at hg;exact h.each i g hg
 ·rw[List.getElem?_append_right (by omega)]at hg;rcases hz:i - fs.length with _|q
  ·rw[hz]at hg;simp at hg;subst hg;exact⟨h3,by omega,h2⟩
  ·rw[hz]at hg;simp at hg
mutual
theorem Xmw(at_:Nat)(loop:Bool):∀(t:T) (w:Wk),FsOk w.fs->at_<w.fs.length->WkLe w (wT at_ loop t w).2 t.wt
 |.mk op s n l x,w,h,ha=>by
  simp only[wT,T.wt];split
  ·exact .refl h _
  ·split
   ·split
    ·exact⟨by simpa using h,by simp,by simp;omega,by simp⟩
    ·rename_i hc;have hlen:=h.len;have hp:FsOk (w.fs++ [Xb8 op s l at_ w.mark]):=h.push (by omega) (by omega) (by simp[Xb8];try omega) (by simp[Xb8,ha]);have:=wP_le w.fs.length l {w with mark:=w.mark+2,fs:=w.fs++ [Xb8 op s l at_ w.mark]} hp (by simp);exact⟨this.fs,(List.prefix_append _ _).trans this.pre,by have:=this.mark;simp at this⊢;omega,by have:=this.up;simp at this⊢;omega⟩
   ·have h1:=Xiz at_ loop op s n x w h;have h2:=wL_le at_ ((Xal at_ loop op s n x w).2.1||decide (op=35)) l (Xal at_ loop op s n x w).2.2 h1.1.fs (by rw[h1.2];exact ha);exact h1.1.trans h2 (by omega)
theorem wL_le(at_:Nat)(loop:Bool):∀(l:List T) (w:Wk),FsOk w.fs->at_<w.fs.length->WkLe w (wL at_ loop l w).2 (T.wtL l)
 |[],w,h,ha=>by simp only[wL];exact .refl h _
 |t::r,w,h,ha=>by simp only[wL,T.wtL];have h1:=Xmw at_ loop t w h ha;have h2:=wL_le at_ loop r (wT at_ loop t w).2 h1.fs (Nat.lt_of_lt_of_le ha h1.pre.length_le);exact h1.trans h2 (Nat.le_refl _)
theorem wP_le(me:Nat):∀(l:List T) (w:Wk),FsOk w.fs->me<w.fs.length->WkLe w (wP me l w).2 (T.wtL l)
 |[],w,h,ha=>by simp only[wP];exact .refl h _
 |[t],w,h,ha=>by simp only[wP,T.wtL];exact Xmw me false t w h ha
 |t::u::r,w,h,ha=>by simp only[wP];have h2:=wP_le me (u::r) w h ha;exact(WkLe.refl h 0).trans h2 (by simp only[T.wtL];omega)
end
mutual
theorem Xsc(at_:Nat)(loop:Bool):∀(t:T) (w:Wk),w.e≠0->wT at_ loop t w=(t,w)
 |.mk op s n l x,w,h=>by simp only[wT,h,ne_eq,not_false_eq_true,if_true]
theorem Xn3(at_:Nat)(loop:Bool):∀(l:List T) (w:Wk),w.e≠0->wL at_ loop l w=(l,w)
 |[],w,h=>rfl
 |t::r,w,h=>by simp only[wL,Xsc at_ loop t w h,Xn3 at_ loop r w h]
end
def Jah(E:Env)(b i:Nat)(st:St)(t:T)(w:Wk)(r:Rt AV)(st':St):Prop:=
 ∃v,r=.ok v/\NodeV st.I.length st'.I.length v t/\WS E st' b i w/\HFr b st.H st'.H/\IFr (some i) st.I st'.I
def Xr9(n:Nat):Prop:=∀t:T,t.wt<=n->t.fk->∀(at_:Nat) (loop:Bool) (w:Wk) (E:Env) (st:St) (b i:Nat),WS E st b i w->E.Wf st->FsOk w.fs->at_<w.fs.length->w.mark+2*t.wt<=10000000000->
 ∀k,3*t.wt+600<=k->CallQ k E 45 [.ptr b 0,.agg t.enc,.int .i64 at_,.bool loop] st (Jah E b i st (wT at_ loop t w).1 (wT at_ loop t w).2)
def WFun(n:Nat):Prop:=∀t:T,t.wt<=n->t.fk->isFn t.op=true->∀(at_:Nat) (loop:Bool) (w:Wk) (E:Env) (st:St) (b i:Nat),WS E st b i w->w.e=0->E.Wf st->FsOk w.fs->at_<w.fs.length->w.mark+2*t.wt<=10000000000->
 ∀k,3*t.wt+599<=k->CallQ k E 70 [.ptr b 0,.agg t.enc,.int .i64 at_] st (Jah E b i st (wT at_ loop t w).1 (wT at_ loop t w).2)
theorem WS.base{E:Env}{st b i w}(n:Nat)(h:WS E st b i w):WS {E with base:=n} st b i w:=⟨h.blk,h.rob,h.rom,h.arr⟩
theorem WS.app{E:Env}{H:List ABlk}{I:List (Nat×Nat)}{b i w}(h:WS E ⟨H,I⟩ b i w)(l:List ABlk):WS E ⟨H++l,I⟩ b i w:=⟨Xae h.blk,h.rob,h.rom,h.arr⟩
theorem WS.cut{E E':Env}{st:St}{b i w}(n:Nat)(h:WS E st b i w)(hb:b<n)(h1:E'.rob=E.rob)(h2:E'.rom=E.rom):WS E' ⟨st.H.take n,st.I⟩ b i w:=
 ⟨by show(st.H.take n)[b]?=_;rw[List.getElem?_take_of_lt hb];exact h.blk,by rw[h1];exact h.rob,by rw[h2];exact h.rom,h.arr⟩
theorem HFr.setN{b:Nat}{H H':List ABlk}{j:Nat}{x:ABlk}(h:HFr b H H')(hj:H.length<=j):HFr b H (H'.set j x):=
 ⟨by simpa using h.len,fun q y n e=>by rw[List.getElem?_set_ne (by have:=(uB e);omega)];exact h.get q y n e⟩
theorem WS.setN{E:Env}{H:List ABlk}{I:List (Nat×Nat)}{b i w j}{x:ABlk}(h:WS E ⟨H,I⟩ b i w)(hj:j≠b):WS E ⟨H.set j x,I⟩ b i w:=
 ⟨by show(H.set j x)[b]?=_;rw[List.getElem?_set_ne hj];exact h.blk,h.rob,h.rom,h.arr⟩
theorem WS.fail{E:Env}{H:List ABlk}{I:List (Nat×Nat)}{b i w}(h:WS E ⟨H,I⟩ b i w)(h0:w.e=0)(e line:Int):WS E ⟨H.set b (.cells 71 [.sl (some i) w.fs.length (encFs w.fs),.int .i64 w.mark,.int .i64 e,.int .i64 line]),I⟩ b i (w.fail e line):=
 ⟨by rw[Wk.fail,if_pos h0];exact List.getElem?_set_self (List.getElem?_eq_some_iff.1 h.blk).1,h.rob,h.rom,by rw[Xuu];exact h.arr⟩
theorem f72k{E:Env}{st:St}{b i:Nat}{w:Wk}(hw:WS E st b i w)(h0:w.e=0)(e line:Int)(k:Nat)(hk:1<=k):doCall (aCall prog k) E .keep (.fn 72) [.ptr b 0,.int .i64 e,.int .i64 line] st=
  some (.ok (.tup []),⟨st.H.set b (.cells 71 [.sl (some i) w.fs.length (encFs w.fs),.int .i64 w.mark,.int .i64 e,.int .i64 line]),st.I⟩):=by
 obtain⟨⟨r,st'⟩,e1,h1,h2⟩:=f72 (hw.base st.H.length) h0 e line k hk;simp only at h1 h2;subst h1 h2;simp only[doCall,e1,Xam,Xas];simp;rw[List.take_of_length_le (by simp)]
theorem Xwp{H:List ABlk}{n:Nat}{x y z:ABlk}(hl:H.length=n+3)(h0:H[n]?=some x)(h1:H[n+1]?=some y)(h2:H[n+2]?=some z):H=H.take n++ [x,y,z]:=by
 rw[<-List.take_append_drop n H]
 congr 1
 ·simp
 ·rw[List.drop_eq_getElem_cons (by omega),List.drop_eq_getElem_cons (by omega),List.drop_eq_getElem_cons (by omega),List.drop_eq_nil_of_le (by omega)];rw[List.getElem?_eq_getElem (by omega)]at h0 h1 h2;cases h0;cases h1;cases h2;rfl
theorem AccT.old{m I I' ts v}(h:AccT m I ts v)(f:∀(j:Nat) (x:Nat×Nat),I[j]?=some x->I'[j]?=some x):AccT m I' ts v:=by
 rcases h with h|⟨j,e,hj,hi⟩
 ·exact .inl h
 ·exact .inr ⟨j,e,hj,f j _ hi⟩
theorem AccT.cells{m I ts v}(h:AccT m I ts v):v.cells=[v]:=by rcases h with⟨-,rfl⟩|⟨j,rfl, -, -⟩<;>rfl
theorem Xbx{I:List (Nat×Nat)}{p:Nat×Nat}(j:Nat)(x:Nat×Nat)(e:I[j]?=some x):(I++ [p])[j]?=some x:=by rw[List.getElem?_append_left (uB e)];exact e
theorem f45s{n:Nat}(ihT:Xr9 n)(ihF:WFun (n+1)):Xr9 (n+1):=by
  intro t ht hfk at_ loop w E st b i hw hE hf ha hm k hk;obtain⟨k,rfl⟩:=uK (k:=k) (by omega);have hbl:=(List.getElem?_eq_some_iff.1 hw.blk).1;have hmw:=Xaa hE;by_cases he:w.e=0;rotate_left
  ·rw[Xsc at_ loop t w he];obtain⟨op,s0,nn,l,line⟩:=t;refine Xa4 rfl rfl (by decide) fun s hs e0 e1 e2 e3=>?_;have hb1:∀x,(st.H++x)[b]?=_:=fun x=>Xae hw.blk;simp[hs,e0,e1,e2,e3,hb1,he,Xag,hmw,wrC];exact⟨_,rfl,.of _ _ (.mk op s0 nn l line),hw.app _,.app _ _ _,.refl _ _⟩
  have c69:=f69 t k (by omega);have hrob:=hw.rob;by_cases hfn:isFn t.op=true
  ·have cF:=Xrk (E:=E) (st:=⟨st.H++ [.cells 24 t.enc,.cells 24 [.int .i64 0,.str ⟨#[]⟩,.int .i64 0,.nils,.int .i64 0]],st.I⟩) (Q:=fun v st'=>NodeV st.I.length st'.I.length v (wT at_ loop t w).1/\WS {E with base:=st.H.length+2} st' b i (wT at_ loop t w).2/\HFr b (st.H++ [.cells 24 t.enc,.cells 24 [.int .i64 0,.str ⟨#[]⟩,.int .i64 0,.nils,.int .i64 0]]) st'.H/\IFr (some i) st.I st'.I)
      (by
        refine(ihF t ht hfk hfn at_ loop w _ ⟨st.H++ [.cells 24 t.enc,.cells 24 [.int .i64 0,.str ⟨#[]⟩,.int .i64 0,.nils,.int .i64 0]],st.I⟩ b i ((hw.app _).base _) he (Env.Wf.based (hE.of (by simp) (by simp))) hf ha hm k (by omega)).mono ?_;rintro r st' ⟨v,h1,h2,h3,h4,h5⟩;exact⟨v,h1,h2,by simpa using h3,h4,h5⟩)
      (fun v st' h=>by obtain⟨lv, -, -, -,h⟩:=h.1.cells;exact h _)
   have c69':=c69.full (E:=E) (st:=⟨st.H++ [.cells 24 t.enc,.cells 24 [.int .i64 0,.str ⟨#[]⟩,.int .i64 0,.nils,.int .i64 0]],st.I⟩) rfl (hE.of (by simp) (by simp));generalize wT at_ loop t w=res at cF⊢;obtain⟨op,s0,nn,l,line⟩:=t;simp only[T.op_mk]at hfn;simp only[T.enc,T.op_mk,hfn]at cF c69';refine Xa4 rfl rfl (by decide) fun s hs e0 e1 e2 e3=>?_;have hb1:∀x,(st.H++x)[b]?=_:=fun x=>Xae hw.blk;simp[hs,e0,e1,e2,e3,hb1,he,c69'];refine Xac cF fun p hp=>?_;obtain⟨v,st',rfl,h1,h2,h3,h4⟩:=hp;obtain⟨lv,rfl,hlv, -, -⟩:=h1.cells;have hH:=h3.take;have hHl:=h3.take_len;have hws:=h2.cut (E':=E) (st.H.length+2) (by omega) rfl rfl;simp only[List.length_append,List.length_cons,List.length_nil,Nat.zero_add,Nat.reduceAdd]at hH hHl hws;generalize hHt:st'.H.take (st.H.length+2)=H2 at hH hHl hws;have q1:H2[st.H.length+1]?=some (.cells 24 [.int .i64 0,.str ⟨#[]⟩,.int .i64 0,.nils,.int .i64 0]):=hH.get _ _ (by omega) (by simp);have qs:∀x,(H2.set (st.H.length+1) x)[st.H.length+1]?=some x:=fun x=>List.getElem?_set_self (by omega);have hmw2:∀x y,Xaf E (st.H.length+1) x y=true:=fun x y=>hmw _ _ _ (by omega);simp[hs,hHt,q1,Xag,hmw2,wrC,hlv,qs];exact⟨_,rfl,h1,hws.setN (by omega),((HFr.app b st.H _).trans hH).setN (by omega),h4⟩
  have c71:=fun s0=>Xfb (w:=.int .i64 (Xbu w.fs at_ s0)) (f71 hf (b:=b) (st:=⟨st.H++ [.cells 24 t.enc,.cells 24 [.int .i64 0,.str ⟨#[]⟩,.int .i64 0,.nils,.int .i64 0],.cells 24 [.int .i64 t.op,.str t.s,.int .i64 t.n,.nils,.int .i64 t.line]],st.I⟩)
    (Xae hw.blk) s0 at_ (by omega) (by omega) k (by omega)) (fun _=>rfl) rfl (E:=E)
  have c72:=fun e line=>f72k (hw.app [.cells 24 t.enc,.cells 24 [.int .i64 0,.str ⟨#[]⟩,.int .i64 0,.nils,.int .i64 0],.cells 24 [.int .i64 t.op,.str t.s,.int .i64 t.n,.nils,.int .i64 t.line]]) he e line k (by omega);have c69':=c69.full (E:=E) (st:=⟨st.H++ [.cells 24 t.enc,.cells 24 [.int .i64 0,.str ⟨#[]⟩,.int .i64 0,.nils,.int .i64 0]],st.I⟩) rfl (hE.of (by simp) (by simp));obtain⟨op,s0,nn,l,line⟩:=t;simp only[T.op_mk]at hfn;have hfn':isFn op=false:=by simpa using hfn
  simp only[T.wt]at hk hm ht;simp only[T.enc,T.op_mk,T.s_mk,T.n_mk,T.line_mk,hfn']at c69' c71 c72;have hres:wT at_ loop (.mk op s0 nn l line) w=(let q:=Xal at_ loop op s0 nn line w;let r:=wL at_ (q.2.1||decide (op=35)) l q.2.2;(.mk op s0 q.1 r.1 line,r.2)):=by simp only[wT,he,ne_eq,not_true,if_false,hfn',Bool.false_eq_true]
  rw[hres];simp only;have hle:=Xiz at_ loop op s0 nn line w hf;refine Xa4 rfl rfl (by decide) fun s hs e0 e1 e2 e3=>?_;have hb1:∀x,(st.H++x)[b]?=_:=fun x=>Xae hw.blk;rw[Xa2,Xa2,Xa2,Xa2,Xa2]
  refine Xco (fun s' m' st'=>m'=[]/\s'.length=115/\lk s' 0=.ptr b 0/\lk s' 2=.int .i64 at_/\lk s' 3=.bool (Xal at_ loop op s0 nn line w).2.1/\lk s' 5=.ptr st.H.length 0/\lk s' 8=.ptr (st.H.length+1) 0/\lk s' 9=.ptr (st.H.length+2) 0/\
    ∃Hb,st'=⟨Hb++ [.cells 24 [.int .i64 op,.str s0,.int .i64 nn,.sl none l.length (T.encL l),.int .i64 line],.cells 24 [.int .i64 0,.str ⟨#[]⟩,.int .i64 0,.nils,.int .i64 0],.cells 24 [.int .i64 op,.str s0,.int .i64 (Xal at_ loop op s0 nn line w).1,.nils,.int .i64 line]],st.I⟩/\
      Hb.length=st.H.length/\HFr b st.H Hb/\WS E ⟨Hb,st.I⟩ b i (Xal at_ loop op s0 nn line w).2.2) ?_ ?_
  ·have hsb:∀x y,(st.H++y).set b x=st.H.set b x++y:=fun x y=>List.set_append_left _ _ hbl;have hmk:=Xah (n:=(w.mark:Int)+1) (by omega);have g1:∀x y j,(st.H.set b x++y)[st.H.length+j]?=y[j]?:=fun x y j=>by rw[List.getElem?_append_right (by simp)];congr 1;simp
   have g2:∀x y,(st.H.set b x++y)[st.H.length]?=y[0]?:=fun x y=>g1 x y 0;have g3:∀x y j v,(st.H.set b x++y).set (st.H.length+j) v=st.H.set b x++y.set j v:=fun x y j v=>by rw[List.set_append_right _ _ (by simp)];congr 2;simp
   have g4:∀x y,(st.H.set b x++y)[b]?=some x:=fun x y=>by rw[List.getElem?_append_left (by simpa using hbl)];exact List.getElem?_set_self hbl
   have hmwb:∀x n,Xaf E b x [.int .i64 n]=true:=fun x n=>by simp[Xaf,Xdw,hrob]
   by_cases o1:op=1
   ·subst o1;simp[hs,e0,e1,e2,e3,hb1,he,c69',Xag,hmw,wrC,c71];refine Xaq (fun hv=>?_) (fun hv=>?_)
    ·simp[hs,e0,e1,e2,e3,c72,hsb,g1,g2,g3,Xag,hmw,wrC];exact⟨rfl,rfl,by simp[hs],by simp[hs,e0],by simp[hs,e2],by simp[hs,e3,Xal],by simp[hs],by simp[hs],by simp[hs],st.H.set b (.cells 71 [.sl (some i) w.fs.length (encFs w.fs),.int .i64 w.mark,.int .i64 50,.int .i64 line]),by simp[Xal],by simp,.set _ _ _,by simpa [Xal,hv]using hw.fail he 50 line⟩
    ·simp[hs,e0,e1,e2,e3,Xag,hmw,wrC];exact⟨rfl,rfl,by simp[hs],by simp[hs,e0],by simp[hs,e2],by simp[hs,e3,Xal],by simp[hs],by simp[hs],by simp[hs],st.H,by simp[Xal],rfl,.refl _ _,by simpa [Xal,hv]using hw⟩
   by_cases o30:op=30
   ·subst o30;simp[hs,e0,e1,e2,e3,hb1,he,c69',Xag,hmw,wrC,c71];exact⟨rfl,rfl,by simp[hs],by simp[hs,e0],by simp[hs,e2],by simp[hs,e3,Xal],by simp[hs],by simp[hs],by simp[hs],st.H,by simp[Xal],rfl,.refl _ _,by simpa [Xal]using hw⟩
   by_cases o35:op=35
   ·subst o35;simp[hs,e0,e1,e2,e3,hb1,he,c69',Xag,hmw,wrC,c71];exact⟨rfl,rfl,by simp[hs],by simp[hs,e0],by simp[hs,e2],by simp[hs,e3,Xal],by simp[hs],by simp[hs],by simp[hs],st.H,by simp[Xal],rfl,.refl _ _,by simpa [Xal]using hw⟩
   by_cases o38:op=38
   ·subst o38;simp[hs,e0,e1,e2,e3,hb1,he,c69',Xag,hmw,wrC,c71];exact⟨rfl,rfl,by simp[hs],by simp[hs,e0],by simp[hs,e2],by simp[hs,e3,Xal],by simp[hs],by simp[hs],by simp[hs],st.H,by simp[Xal],rfl,.refl _ _,by simpa [Xal]using hw⟩
   by_cases o11:op=11
   ·subst o11;simp[hs,e0,e1,e2,e3,hb1,he,c69',Xag,hmw,wrC,hmk,hmwb,hsb]
    exact⟨rfl,rfl,by simp[hs],by simp[hs,e0],by simp[hs,e2],by simp[hs,e3,Xal],by simp[hs],by simp[hs],by simp[hs],st.H.set b (.cells 71 [.sl (some i) w.fs.length (encFs w.fs),.int .i64 (w.mark+1),.int .i64 0,.int .i64 w.line]),by simp[Xal],by simp,.set _ _ _,
      ⟨by simp[Xal,he];exact List.getElem?_set_self hbl,hw.rob,hw.rom,by simpa [Xal]using hw.arr⟩⟩
   by_cases o16:op=16
   ·subst o16;simp[hs,e0,e1,e2,e3,hb1,he,c69',Xag,hmw,wrC,hmk,hmwb,hsb]
    exact⟨rfl,rfl,by simp[hs],by simp[hs,e0],by simp[hs,e2],by simp[hs,e3,Xal],by simp[hs],by simp[hs],by simp[hs],st.H.set b (.cells 71 [.sl (some i) w.fs.length (encFs w.fs),.int .i64 (w.mark+1),.int .i64 0,.int .i64 w.line]),by simp[Xal],by simp,.set _ _ _,
      ⟨by simp[Xal,he];exact List.getElem?_set_self hbl,hw.rob,hw.rom,by simpa [Xal]using hw.arr⟩⟩
   by_cases o15:op=15
   ·subst o15;simp[hs,e0,e1,e2,e3,hb1,he,c69',Xag,hmw,wrC,hmk,hmwb,hsb]
    exact⟨rfl,rfl,by simp[hs],by simp[hs,e0],by simp[hs,e2],by simp[hs,e3,Xal],by simp[hs],by simp[hs],by simp[hs],st.H.set b (.cells 71 [.sl (some i) w.fs.length (encFs w.fs),.int .i64 (w.mark+1),.int .i64 0,.int .i64 w.line]),by simp[Xal],by simp,.set _ _ _,
      ⟨by simp[Xal,he];exact List.getElem?_set_self hbl,hw.rob,hw.rom,by simpa [Xal]using hw.arr⟩⟩
   by_cases o36:op=36
   ·subst o36;by_cases ha0:at_=0
    ·simp[hs,e0,e1,e2,e3,hb1,he,c69',Xag,hmw,wrC,ha0];simp[hs,e0,e1,e2,e3,c72,hsb,g1,g2,g3,Xag,hmw,wrC];exact⟨rfl,rfl,by simp[hs],by simp[hs,e0],by simp[hs,e2,ha0],by simp[hs,e3,Xal],by simp[hs],by simp[hs],by simp[hs],st.H.set b (.cells 71 [.sl (some i) w.fs.length (encFs w.fs),.int .i64 w.mark,.int .i64 51,.int .i64 line]),by simp[Xal],by simp,.set _ _ _,by simpa [Xal,ha0]using hw.fail he 51 line⟩
    ·simp[hs,e0,e1,e2,e3,hb1,he,c69',Xag,hmw,wrC,ha0];exact⟨rfl,rfl,by simp[hs],by simp[hs,e0],by simp[hs,e2],by simp[hs,e3,Xal],by simp[hs],by simp[hs],by simp[hs],st.H,by simp[Xal],rfl,.refl _ _,by simpa [Xal,ha0]using hw⟩
   by_cases o39:op=39
   ·subst o39;cases loop
    ·simp[hs,e0,e1,e2,e3,hb1,he,c69',Xag,hmw,wrC];simp[hs,e0,e1,e2,e3,c72,hsb,g1,g2,g3,Xag,hmw,wrC];exact⟨rfl,rfl,by simp[hs],by simp[hs,e0],by simp[hs,e2],by simp[hs,e3,Xal],by simp[hs],by simp[hs],by simp[hs],st.H.set b (.cells 71 [.sl (some i) w.fs.length (encFs w.fs),.int .i64 w.mark,.int .i64 51,.int .i64 line]),by simp[Xal],by simp,.set _ _ _,by simpa [Xal]using hw.fail he 51 line⟩
    ·simp[hs,e0,e1,e2,e3,hb1,he,c69',Xag,hmw,wrC];exact⟨rfl,rfl,by simp[hs],by simp[hs,e0],by simp[hs,e2],by simp[hs,e3,Xal],by simp[hs],by simp[hs],by simp[hs],st.H,by simp[Xal],rfl,.refl _ _,by simpa [Xal]using hw⟩
   by_cases o40:op=40
   ·subst o40;cases loop
    ·simp[hs,e0,e1,e2,e3,hb1,he,c69',Xag,hmw,wrC];simp[hs,e0,e1,e2,e3,c72,hsb,g1,g2,g3,Xag,hmw,wrC];exact⟨rfl,rfl,by simp[hs],by simp[hs,e0],by simp[hs,e2],by simp[hs,e3,Xal],by simp[hs],by simp[hs],by simp[hs],st.H.set b (.cells 71 [.sl (some i) w.fs.length (encFs w.fs),.int .i64 w.mark,.int .i64 51,.int .i64 line]),by simp[Xal],by simp,.set _ _ _,by simpa [Xal]using hw.fail he 51 line⟩
    ·simp[hs,e0,e1,e2,e3,hb1,he,c69',Xag,hmw,wrC];exact⟨rfl,rfl,by simp[hs],by simp[hs,e0],by simp[hs,e2],by simp[hs,e3,Xal],by simp[hs],by simp[hs],by simp[hs],st.H,by simp[Xal],rfl,.refl _ _,by simpa [Xal]using hw⟩
   by_cases o34:op=34
   ·subst o34;simp[hs,e0,e1,e2,e3,hb1,he,c69',Xag,hmw,wrC];exact⟨rfl,rfl,by simp[hs],by simp[hs,e0],by simp[hs,e2],by simp[hs,e3,Xal],by simp[hs],by simp[hs],by simp[hs],st.H,by simp[Xal],rfl,.refl _ _,by simpa [Xal]using hw⟩
   simp[hs,e0,e1,e2,e3,hb1,he,c69',Xag,hmw,wrC,o1,o30,o35,o38,o11,o16,o15,o36,o39,o40,o34];exact⟨rfl,rfl,by simp[hs],by simp[hs,e0],by simp[hs,e2],by simp[hs,e3,Xal,o1,o30,o35,o38,o11,o16,o15,o36,o39,o40,o34],by simp[hs],by simp[hs],by simp[hs],st.H,by simp[Xal,o1,o30,o35,o38,o11,o16,o15,o36,o39,o40,o34],rfl,.refl _ _,by simpa [Xal,o1,o30,o35,o38,o11,o16,o15,o36,o39,o40,o34]using hw⟩
  clear e0 e1 e2 e3 hs c71 c72 c69';rintro s _ _ ⟨rfl,hs,e0,e2,e3,e5,e8,e9,Hb,rfl,hbL,hbF,hbW⟩;generalize hst:Xal at_ loop op s0 nn line w=q at e3 hbW hle⊢;obtain⟨n1,L1,w1⟩:=q;simp only at e3 hbW hle⊢;have hlw:=T.len_wtL l;have hw1m:=hle.1.mark;have ha1:at_<w1.fs.length:=by rw[hle.2];exact ha
  obtain⟨-,hfkl⟩:=hfk;generalize hres2:wL at_ (L1||decide (op=35)) l w1=res;simp[hs,e0,e2,e3,e5,e8,e9]
  refine Xau (fun n s m st'=> ∃(j:Nat) (Hb:List ABlk) (I':List (Nat×Nat)) (ts:List T) (lv:AV) (w':Wk),j<=l.length/\n=l.length - j/\s.length=115/\m=[]/\lk s 0=.ptr b 0/\lk s 2=.int .i64 at_/\lk s 3=.bool L1/\lk s 5=.ptr st.H.length 0/\
    lk s 8=.ptr (st.H.length+1) 0/\lk s 9=.ptr (st.H.length+2) 0/\lk s 11=.int .i64 j/\
    st'=⟨Hb++ [.cells 24 [.int .i64 op,.str s0,.int .i64 nn,.sl none l.length (T.encL l),.int .i64 line],.cells 24 [.int .i64 0,.str ⟨#[]⟩,.int .i64 0,.nils,.int .i64 0],.cells 24 [.int .i64 op,.str s0,.int .i64 n1,lv,.int .i64 line]],I'⟩/\
    Hb.length=st.H.length/\HFr b st.H Hb/\WS E ⟨Hb,I'⟩ b i w'/\AccT st.I.length I' ts lv/\IFr (some i) st.I I'/\ts.length=j/\WkLe w1 w' (T.wtL (l.take j))/\
    (ts++(wL at_ (L1||decide (op=35)) (l.drop j) w').1,(wL at_ (L1||decide (op=35)) (l.drop j) w').2)=res) l.length (by omega)
    ⟨0,Hb,st.I,[],.nils,w1,by omega,by omega,by simp[hs],rfl,by simp[hs,e0],by simp[hs,e2],by simp[hs,e3],by simp[hs,e5],by simp[hs,e8],by simp[hs,e9],by simp[hs],rfl,hbL,hbF,hbW,.inl ⟨rfl,rfl⟩,.refl _ _,rfl,.refl hle.1.fs _,by simpa using hres2⟩ ?_
  clear e0 e2 e3 e5 e8 e9 hs hbL hbF hbW Hb hres2;rintro _ s m _ ⟨j,Hb,I',ts,lv,w',hj,rfl,hs,rfl,e0,e2,e3,e5,e8,e9,e11,rfl,hbL,hbF,hbW,hacc,hIf,htl,hwk,hq⟩;have g1:∀y j,(Hb++y)[st.H.length+j]?=y[j]?:=fun y j=>by rw[<-hbL];exact Xby _ _ _
  have g2:∀y,(Hb++y)[st.H.length]?=y[0]?:=fun y=>g1 y 0;have g3:∀y j v,(Hb++y).set (st.H.length+j) v=Hb++y.set j v:=fun y j v=>by rw[<-hbL];exact Xe6 _ _ _ _
  by_cases hc:j<l.length
  ·obtain⟨t,hg⟩:∃t,l[j]?=some t:=⟨_,List.getElem?_eq_getElem hc⟩;rw[T.drop_cons hg,wL]at hq;have hrd:=T.rd hg;have hwj:=Xah (n:=(j:Int)+1) (by omega);have hwt:=Xcm hg;have hwt1:=Xcu hg;have hE2:E.Wf ⟨Hb++ [.cells 24 [.int .i64 op,.str s0,.int .i64 nn,.sl none l.length (T.encL l),.int .i64 line],.cells 24 [.int .i64 0,.str ⟨#[]⟩,.int .i64 0,.nils,.int .i64 0],.cells 24 [.int .i64 op,.str s0,.int .i64 n1,lv,.int .i64 line]],I'⟩:=hE.of (by simp;omega) hIf.len;have hmk:=hwk.mark;have hal:at_<w'.fs.length:=Nat.lt_of_lt_of_le ha1 hwk.pre.length_le
   have cT:=Xrk (E:=E) (Q:=fun v st'=>NodeV I'.length st'.I.length v (wT at_ (L1||decide (op=35)) t w').1/\WS {E with base:=_} st' b i (wT at_ (L1||decide (op=35)) t w').2/\HFr b _ st'.H/\IFr (some i) I' st'.I)
     (by
       refine(ihT t (by omega) (T.fkL_get hfkl hg) at_ (L1||decide (op=35)) w' _ _ b i ((hbW.app _).base _) hE2.based hwk.fs hal (by omega) k (by omega)).mono ?_;rintro r st' ⟨v,h1,h2,h3,h4,h5⟩;exact⟨v,h1,h2,h3,h4,h5⟩)
     (fun v st' h=>by obtain⟨lv, -, -, -,h⟩:=h.1.cells;exact h _)
   have hle2:=Xmw at_ (L1||decide (op=35)) t w' hwk.fs hal;generalize wT at_ (L1||decide (op=35)) t w'=r1 at cT hq hle2;obtain⟨t',w2⟩:=r1;simp only at cT hq hle2;have hlvo:=hacc.one;cases L1
   all_goals
     simp only[Bool.false_or,Bool.true_or]at cT;simp[Nat.testBit,hs,e0,e2,e3,e5,e8,e9,e11,g1,g2,hc,hrd];refine Xac cT fun p hp=>?_;obtain⟨v,st2,rfl,h1,h2,h3,h4⟩:=hp;obtain⟨lv2,rfl,hlv,hfin, -⟩:=h1.cells;have hH:=h3.take;have hHl:=h3.take_len;simp only[List.length_append,List.length_cons,List.length_nil,Nat.zero_add,Nat.reduceAdd,hbL]at hH hHl;have hsp:=Xwp hHl (hH.get _ _ (by omega) (g2 _)) (hH.get _ _ (by omega) (g1 _ 1)) (hH.get _ _ (by omega) (g1 _ 2));have hws:=(h2.cut (E':=E) (st.H.length+3) (by omega) rfl rfl).cut (E':=E) st.H.length hbl rfl rfl;simp only at hws;have hbF2:HFr b st.H ((st2.H.take (st.H.length+3)).take st.H.length):=((hbF.trans (HFr.app b Hb _)).trans hH).take;have hbL2:((st2.H.take (st.H.length+3)).take st.H.length).length=st.H.length:=by rw[List.length_take,hHl];omega
     generalize hHb:(st2.H.take (st.H.length+3)).take st.H.length=Hb2 at hsp hws hbF2 hbL2;have k1:∀y j,(Hb2++y)[st.H.length+j]?=y[j]?:=fun y j=>by rw[<-hbL2];exact Xby _ _ _
     have k2:∀y,(Hb2++y)[st.H.length]?=y[0]?:=fun y=>k1 y 0;have k3:∀y j v,(Hb2++y).set (st.H.length+j) v=Hb2++y.set j v:=fun y j v=>by rw[<-hbL2];exact Xe6 _ _ _ _
     have hil:i<st.I.length:=(List.getElem?_eq_some_iff.1 hw.arr).1;have hacc2:=(hacc.fr (fun q e=>by cases e;exact hil) h4).old (I':=st2.I++ [(1,5)]) Xbx;have hIl:=hIf.len;have h4l:=h4.len;obtain⟨v',I3,happ,hacc3,hold⟩:=hacc2.app (E:=E) (H:=Hb2++ [.cells 24 [.int .i64 op,.str s0,.int .i64 nn,.sl none l.length (T.encL l),.int .i64 line],.cells 24 [.int .i64 0,.str ⟨#[]⟩,.int .i64 0,.nils,.int .i64 0],.cells 24 [.int .i64 op,.str s0,.int .i64 n1,lv,.int .i64 line]]) (by simp;omega) hE.rom (by omega) t' st2.I.length;rw[T.enc_eq]at happ;have hv':=hacc3.one;have hvc:=hacc3.cells;have hmw2:∀x y,Xaf E (st.H.length+2) x y=true:=fun x y=>hmw _ _ _ (by omega);simp[Nat.testBit,hs,e0,hbL,hsp,k1,k2];simp[Nat.testBit,hs,Xap,wrC,hlv,hfin,k1,k2,happ];simp[hs,e9,k1,k2,k3,Xag,hmw2,wrC,hvc,hv'];simp[Nat.testBit,hs,e11,hwj];refine⟨_,by omega,j+1,Hb2,I3,ts++ [t'],v',w2,by omega,rfl,by simp[hs],rfl,by simp[hs,e0],by simp[hs,e2],by simp[hs,e3],by simp[hs,e5],by simp[hs,e8],by simp[hs,e9],by simp[hs],rfl,hbL2,hbF2,?_,hacc3,?_,by simp[htl],?_,by simpa using hq⟩
     ·exact⟨hws.blk,hws.rob,hws.rom,hold.get i _ hil (Xbx i _ hws.arr)⟩
     ·refine⟨Nat.le_trans (Nat.le_trans hIl h4l) (by have:=hold.len;simp at this;omega),fun q x hq e=>?_⟩;have hql:=uB e;exact hold.get q x hql (Xbx q x (h4.get q x hq (hIf.get q x hq e)))
     ·exact hwk.trans hle2 (by omega)
  ·rw[List.drop_eq_nil_of_le (by omega)]at hq;simp only[wL,List.append_nil]at hq;subst hq;have hlvo:=hacc.one;have hmw1:∀x y,Xaf E (st.H.length+1) x y=true:=fun x y=>hmw _ _ _ (by omega);simp[hs,e0,e2,e3,e5,e8,e9,e11,g1,g2,hc];simp[hs,e8,g1,g2,g3,Xag,hmw1,wrC,hlvo];refine⟨_,rfl,hacc.node op s0 n1 line,hbW.app _,hbF.trans (.app _ _ _),hIf⟩
theorem Xtd(me:Nat)(b:T)(w:Wk):∀ps:List T,wP me (ps++ [b]) w=(ps.map (fun x=>x.setN (Xbu w.fs me x.s))++ [(wT me false b w).1],(wT me false b w).2)
 |[]=>by simp[wP]
 |[a]=>by simp[wP]
 |a::c::r=>by have:=Xtd me b w (c::r);simp only[List.cons_append]at this⊢;rw[wP,this];simp
def OwnNew(m:Nat)(v:AV):Prop:=∀j,owns v=some j->m<=j
theorem OwnNew.to{m:Nat}{I:List (Nat×Nat)}{v v':AV}(h:OwnNew m v)(hm:m<=I.length)(k:OwnTo I v v'):OwnNew m v':=by
 intro j hj;rcases k with k|⟨q,k,hq⟩
 ·exact h j (by rw[<-k];exact hj)
 ·rw[k]at hj;cases hj;omega
theorem IFr.old{m:Nat}{I I':List (Nat×Nat)}{v:AV}(h:IFr (owns v) I I')(hn:OwnNew m v):IOld m I I':=
 ⟨h.len,fun j x hj e=>h.get j x (fun e'=>by have:=hn j e'.symm;omega) e⟩
theorem AccS.one{E I vs v}(h:AccS E I vs v):v.one=true:=by rcases h with⟨-,rfl⟩|⟨j,rfl, -, -⟩<;>rfl
theorem AccS.cells{E I vs v}(h:AccS E I vs v):v.cells=[v]:=by rcases h with⟨-,rfl⟩|⟨j,rfl, -, -⟩<;>rfl
theorem AccS.len{E I vs v}(h:AccS E I vs v):lenA false v=some (.int .i64 vs.length):=by rcases h with⟨rfl,rfl⟩|⟨j,rfl, -, -⟩<;>simp[lenA]
theorem AccS.fin{E I vs v}(h:AccS E I vs v):v.fin 0=.sl none vs.length (vs.map .str):=by
 rcases h with⟨rfl,rfl⟩|⟨j,rfl, -, -⟩
 ·rfl
 ·simp[finS]
theorem Xhj{ps:List T}{i:Nat}{t:T}(h:ps[i]?=some t):(ps.take (i+1)).foldl (fun o x=>withS o x.s) []=withS ((ps.take i).foldl (fun o x=>withS o x.s) []) t.s:=by rw[List.take_add_one,h];simp
theorem Xhk:∀(ps:List T) (o:List ByteArray),(ps.foldl (fun o x=>withS o x.s) o).length<=o.length+ps.length
 |[],o=>by simp
 |t::r,o=>by have h1:=Xdc o t.s;have h2:=Xhk r (withS o t.s);simp only[List.foldl_cons,List.length_cons];omega
structure FnSt(E:Env)(st:St)(b i:Nat)(w:Wk)(op:Int)(s0:ByteArray)(nn:Int)(l:List T)(line:Int)(at_ mk:Nat)(pn:Nat)(vs:List ByteArray)(s:List AV)(st':St):Prop where
 sl:s.length=148
 e0:lk s 0=.ptr b 0
 e4:lk s 4=.ptr st.H.length 0
 e6:lk s 6=.ptr (st.H.length+1) 0
 e7:lk s 7=.ptr (st.H.length+2) 0
 e8:lk s 8=.int .i64 ((l.length:Int) - 1)
 ex:∃Hb I' vv,st'=⟨Hb++ [.cells 24 [.int .i64 op,.str s0,.int .i64 nn,.sl none l.length (T.encL l),.int .i64 line],.cells 24 [.int .i64 0,.str ⟨#[]⟩,.int .i64 0,.nils,.int .i64 0],.cells 43 [.int .i64 at_,.str s0,.int .i64 pn,vv,.int .i64 mk]],I'⟩/\
  Hb.length=st.H.length/\HFr b st.H Hb/\WS E ⟨Hb,I'⟩ b i w/\AccS E I' vs vv/\OwnNew st.I.length vv/\IOld st.I.length st.I I'
theorem f70s{n:Nat}(ihT:Xr9 n):WFun (n+1):=by
  intro t ht hfk hfn at_ loop w E st b i hw he hE hf ha hm k hk;obtain⟨k,rfl⟩:=uK (k:=k) (by omega);have hbl:=(List.getElem?_eq_some_iff.1 hw.blk).1;have hmw:=Xaa hE;have hrob:=hw.rob;have hil:i<st.I.length:=(List.getElem?_eq_some_iff.1 hw.arr).1;obtain⟨op,s0,nn,l,line⟩:=t;simp only[T.op_mk]at hfn;obtain⟨hl0,hfkl⟩:=hfk;obtain⟨ps,bd,rfl⟩:∃ps bd,l=ps++ [bd]:=⟨l.dropLast,l.getLast (hl0 hfn).1,(List.dropLast_concat_getLast _).symm⟩;simp only[T.wt]at hk hm ht;generalize hl:ps++ [bd]=l at*;have hlw:=T.len_wtL l;have hll:l.length=ps.length+1:=by rw[<-hl];simp
  have hb1:∀x,(st.H++x)[b]?=_:=fun x=>Xae hw.blk;have hsb:∀x y,(st.H++y).set b x=st.H.set b x++y:=fun x y=>List.set_append_left _ _ hbl;have hmwb:∀x n,Xaf E b x [.int .i64 n]=true:=fun x n=>by simp[Xaf,Xdw,hrob]
  have hmk:=Xah (n:=(w.mark:Int)+2) (by omega);have hlm:=Xah (n:=(l.length:Int) - 1) (by omega);refine Xa8 rfl rfl (by decide) fun s hs e0 e1 e2=>?_;rw[Xa2,Xa2,Xa2];refine Xco (fun s' m' st'=>m'=[]/\FnSt E st b i {w with mark:=w.mark+2} op s0 nn l line at_ w.mark 0 [] s' st') ?_ ?_
  ·simp[Nat.testBit,hs,e0,e1,e2,hb1,Xap,wrC,Xag,hmw,hmk,hmwb,hsb,hlm]
   exact⟨rfl,rfl,by simp[hs],by simp[hs,e0],by simp[hs],by simp[hs],by simp[hs],by simp[hs],st.H.set b (.cells 71 [.sl (some i) w.fs.length (encFs w.fs),.int .i64 (w.mark+2),.int .i64 w.e,.int .i64 w.line]),st.I,.nils,rfl,by simp,.set _ _ _,
     ⟨List.getElem?_set_self hbl,hw.rob,hw.rom,hw.arr⟩,.inl ⟨rfl,rfl⟩,nofun,.refl _ _⟩
  clear e0 e1 e2 hs;generalize hw1:({w with mark:=w.mark+2}:Wk)=w1;rintro s _ st1 ⟨rfl,F⟩;refine Xco (fun s' m' st'=>m'=[]/\FnSt E st b i w1 op s0 nn l line at_ w.mark 0 (ps.foldl (fun o x=>withS o x.s) []) s' st') ?_ ?_
  ·have hs:=F.sl;simp[hs]
   refine Xau (fun n s m st'=> ∃j:Nat,j<=ps.length/\n=ps.length - j/\m=[]/\lk s 9=.int .i64 j/\FnSt E st b i w1 op s0 nn l line at_ w.mark 0 ((ps.take j).foldl (fun o x=>withS o x.s) []) s st') ps.length (by omega)
     ⟨0,by omega,by omega,rfl,by simp[hs],by simp[hs],by simp[hs,F.e0],by simp[hs,F.e4],by simp[hs,F.e6],by simp[hs,F.e7],by simp[hs,F.e8],F.ex⟩ ?_
   clear F hs s;rintro _ s _ st' ⟨j,hj,rfl,rfl,e9,F⟩;obtain⟨hs,e0,e4,e6,e7,e8,Hb,I',vv,rfl,hbL,hbF,hbW,hac,hon,hio⟩:=F;have g1:∀y j,(Hb++y)[st.H.length+j]?=y[j]?:=fun y j=>by rw[<-hbL];exact Xby _ _ _
   have g2:∀y,(Hb++y)[st.H.length]?=y[0]?:=fun y=>g1 y 0;have g3:∀y j v,(Hb++y).set (st.H.length+j) v=Hb++y.set j v:=fun y j v=>by rw[<-hbL];exact Xe6 _ _ _ _
   by_cases hc:j<ps.length
   ·obtain⟨t,hg⟩:∃t,ps[j]?=some t:=⟨_,List.getElem?_eq_getElem hc⟩;have hgl:l[j]?=some t:=by rw[<-hl,List.getElem?_append_left hc];exact hg
    have hjl:j<l.length:=by omega
    have hc':(j:Int)<(l.length:Int) - 1:=by omega
    have hcs:=T.cell hgl 1 (by omega);have hts:t.enc[1]?=some (.str t.s):=by rw[T.enc_eq];rfl
    rw[hts]at hcs;have hgs:=T.g_s hgl;have hwj:=Xah (n:=(j:Int)+1) (by omega);have hfl:=Xhk (ps.take j) [];simp at hfl;have hE1:E.Wf ⟨Hb++ [.cells 24 [.int .i64 op,.str s0,.int .i64 nn,.sl none l.length (T.encL l),.int .i64 line],.cells 24 [.int .i64 0,.str ⟨#[]⟩,.int .i64 0,.nils,.int .i64 0],.cells 43 [.int .i64 at_,.str s0,.int .i64 (0:Nat),vv,.int .i64 w.mark]],I'⟩:=hE.of (by simp;omega) hio.len
    have c68:=Xf9 (E:=E) (st:=⟨Hb++ [.cells 24 [.int .i64 op,.str s0,.int .i64 nn,.sl none l.length (T.encL l),.int .i64 line],.cells 24 [.int .i64 0,.str ⟨#[]⟩,.int .i64 0,.nils,.int .i64 0],.cells 43 [.int .i64 at_,.str s0,.int .i64 (0:Nat),vv,.int .i64 w.mark]],I'⟩)
      (Q:=fun v' I''=>AccS E I'' (withS ((ps.take j).foldl (fun o x=>withS o x.s) []) t.s) v'/\IFr (owns vv) I' I''/\OwnTo I' vv v') (by
      refine(f68 (st:=⟨_,I'⟩) t.s (hac.base _) hE1.based (by omega) k (by omega)).mono ?_;rintro r st' ⟨v',h1,h2,h3,h4,h5⟩;exact⟨v',h1,by rw[h2];exact List.prefix_rfl,h3,h4,h5⟩) (fun v' I'' h=>h.1.refs _)
    simp only[Int.natCast_zero]at c68;simp[Nat.testBit,hs,e0,e4,e7,e8,e9,hc',g1,g2,hjl,hcs,hgs];refine Xac c68 fun p hp=>?_;obtain⟨v',I'',rfl,h1,h2,h3⟩:=hp;have hv1:=h1.one;have hvc:=h1.cells;have hmw2:∀x y,Xaf E (st.H.length+2) x y=true:=fun x y=>hmw _ _ _ (by omega);simp[Nat.testBit,hs,e7];simp[hs,e9,g1,g3,Xag,hmw2,wrC,hvc,hv1];simp[Nat.testBit,hs,e9,hwj]
    exact⟨_,by omega,j+1,by omega,rfl,rfl,by simp[hs],by simp[hs],by simp[hs,e0],by simp[hs,e4],by simp[hs,e6],by simp[hs,e7],by simp[hs,e8],Hb,I'',v',rfl,hbL,hbF,
      ⟨hbW.blk,hbW.rob,hbW.rom,(h2.old hon).get i _ hil hbW.arr⟩,by rw[Xhj hg];exact h1,hon.to hio.len h3,hio.trans (h2.old hon)⟩
   ·have hc':¬(j:Int)<(l.length:Int) - 1:=by omega
    have hjp:ps.take j=ps:=List.take_of_length_le (by omega);rw[hjp]at hac;simp[hs,e8,e9,hc'];exact⟨rfl,rfl,by simp[hs],by simp[hs,e0],by simp[hs,e4],by simp[hs,e6],by simp[hs,e7],by simp[hs,e8],Hb,I',vv,rfl,hbL,hbF,hbW,hac,hon,hio⟩
  have hpar:Xc6 l=ps.foldl (fun o x=>withS o x.s) []:=by rw[<-hl];simp[Xc6]
  rw[<-hpar];have hplen:(Xc6 l).length<=ps.length:=by rw[hpar];have:=Xhk ps [];simpa using this
  generalize hpv:Xc6 l=pv at hplen;rintro s _ st1 ⟨rfl,F⟩;rw[Xa2];refine Xco (fun s' m' st'=>m'=[]/\FnSt E st b i w1 op s0 nn l line at_ w.mark pv.length (if op=10/\s0≠⟨#[]⟩then withS pv s0 else pv) s' st') ?_ ?_
  ·obtain⟨hs,e0,e4,e6,e7,e8,Hb,I',vv,rfl,hbL,hbF,hbW,hac,hon,hio⟩:=F;have g1:∀y j,(Hb++y)[st.H.length+j]?=y[j]?:=fun y j=>by rw[<-hbL];exact Xby _ _ _
   have g2:∀y,(Hb++y)[st.H.length]?=y[0]?:=fun y=>g1 y 0;have g3:∀y j v,(Hb++y).set (st.H.length+j) v=Hb++y.set j v:=fun y j v=>by rw[<-hbL];exact Xe6 _ _ _ _
   have hmw2:∀x y,Xaf E (st.H.length+2) x y=true:=fun x y=>hmw _ _ _ (by omega);have hln:=hac.len;have hvl:=hac.one;have hE1:E.Wf ⟨Hb++ [.cells 24 [.int .i64 op,.str s0,.int .i64 nn,.sl none l.length (T.encL l),.int .i64 line],.cells 24 [.int .i64 0,.str ⟨#[]⟩,.int .i64 0,.nils,.int .i64 0],.cells 43 [.int .i64 at_,.str s0,.int .i64 pv.length,vv,.int .i64 w.mark]],I'⟩:=hE.of (by simp;omega) hio.len
   have c68:=Xf9 (E:=E) (st:=⟨Hb++ [.cells 24 [.int .i64 op,.str s0,.int .i64 nn,.sl none l.length (T.encL l),.int .i64 line],.cells 24 [.int .i64 0,.str ⟨#[]⟩,.int .i64 0,.nils,.int .i64 0],.cells 43 [.int .i64 at_,.str s0,.int .i64 pv.length,vv,.int .i64 w.mark]],I'⟩)
       (Q:=fun v' I''=>AccS E I'' (withS pv s0) v'/\IFr (owns vv) I' I''/\OwnTo I' vv v') (by
       refine(f68 (st:=⟨_,I'⟩) s0 (hac.base _) hE1.based (by omega) k (by omega)).mono ?_;rintro r st' ⟨v',h1,h2,h3,h4,h5⟩;exact⟨v',h1,by rw[h2];exact List.prefix_rfl,h3,h4,h5⟩) (fun v' I'' h=>h.1.refs _)
   simp[-lenA,hs,e4,e7,g1,g2,g3,Xag,hmw2,wrC,hln];by_cases o10:op=10;rotate_left
   ·simp[hs,e4,e7,g1,g2,o10];exact⟨rfl,rfl,by simp[hs],by simp[hs,e0],by simp[hs,e4],by simp[hs,e6],by simp[hs,e7],by simp[hs,e8],Hb,I',vv,rfl,hbL,hbF,hbW,by simpa [o10]using hac,hon,hio⟩
   by_cases hse:s0=⟨#[]⟩
   ·simp[hs,e4,e7,g1,g2,o10,hse];exact⟨rfl,rfl,by simp[hs],by simp[hs,e0],by simp[hs,e4],by simp[hs,e6],by simp[hs,e7],by simp[hs,e8],Hb,I',vv,by simp[o10,hse],hbL,hbF,hbW,by simpa [hse]using hac,hon,hio⟩
   simp[hs,e4,e7,g1,g2,o10,hse];rw[o10]at c68;refine Xac c68 fun p hp=>?_;obtain⟨v',I'',rfl,h1,h2,h3⟩:=hp;have hv1:=h1.one;have hvc:=h1.cells;simp[hs,e7,g1,g3,Xag,hmw2,wrC,hvc,hv1]
   exact⟨rfl,rfl,by simp[hs],by simp[hs,e0],by simp[hs,e4],by simp[hs,e6],by simp[hs,e7],by simp[hs,e8],Hb,I'',v',by simp[o10],hbL,hbF,
       ⟨hbW.blk,hbW.rob,hbW.rom,(h2.old hon).get i _ hil hbW.arr⟩,by simpa [o10,hse]using h1,hon.to hio.len h3,hio.trans (h2.old hon)⟩
  have hv1len:(if op=10/\s0≠⟨#[]⟩then withS pv s0 else pv).length<=ps.length+1:=by split;have:=Xdc pv s0;omega;omega
  have hgl:l.getLast?=some bd:=by rw[<-hl];simp
  have hfo:Xb8 op s0 l at_ w.mark={around:=at_,name:=s0,params:=pv.length,vars:=decT bd (if op=10/\s0≠⟨#[]⟩then withS pv s0 else pv),mark:=w.mark}:=by simp only[Xb8,hpv,hgl,Option.getD_some]
  generalize (if op=10/\s0≠⟨#[]⟩then withS pv s0 else pv)=v1 at hv1len hfo;have hgb:l[ps.length]?=some bd:=by rw[<-hl];simp
  have hrb:=T.rd hgb;have hwb:=T.wtL_get hgb;have hkl:ps.length<l.length:=by omega
  have hki:((l.length:Int) - 1)=(ps.length:Nat):=by omega
  rintro s _ st1 ⟨rfl,F⟩;refine Xco (fun s' m' st'=>m'=[]/\FnSt E st b i w1 op s0 nn l line at_ w.mark pv.length (decT bd v1) s' st') ?_ ?_
  ·obtain⟨hs,e0,e4,e6,e7,e8,Hb,I',vv,rfl,hbL,hbF,hbW,hac,hon,hio⟩:=F;have g1:∀y j,(Hb++y)[st.H.length+j]?=y[j]?:=fun y j=>by rw[<-hbL];exact Xby _ _ _
   have g2:∀y,(Hb++y)[st.H.length]?=y[0]?:=fun y=>g1 y 0;have g3:∀y j v,(Hb++y).set (st.H.length+j) v=Hb++y.set j v:=fun y j v=>by rw[<-hbL];exact Xe6 _ _ _ _
   have hmw2:∀x y,Xaf E (st.H.length+2) x y=true:=fun x y=>hmw _ _ _ (by omega);have hE1:E.Wf ⟨Hb++ [.cells 24 [.int .i64 op,.str s0,.int .i64 nn,.sl none l.length (T.encL l),.int .i64 line],.cells 24 [.int .i64 0,.str ⟨#[]⟩,.int .i64 0,.nils,.int .i64 0],.cells 43 [.int .i64 at_,.str s0,.int .i64 pv.length,vv,.int .i64 w.mark]],I'⟩:=hE.of (by simp;omega) hio.len
   have c44:=Xf9 (E:=E) (st:=⟨Hb++ [.cells 24 [.int .i64 op,.str s0,.int .i64 nn,.sl none l.length (T.encL l),.int .i64 line],.cells 24 [.int .i64 0,.str ⟨#[]⟩,.int .i64 0,.nils,.int .i64 0],.cells 43 [.int .i64 at_,.str s0,.int .i64 pv.length,vv,.int .i64 w.mark]],I'⟩)
       (Q:=fun v' I''=>AccS E I'' (decT bd v1) v'/\IFr (owns vv) I' I''/\OwnTo I' vv v') (by
       refine(f44 bd.wt bd (Nat.le_refl _) v1 vv _ ⟨_,I'⟩ (hac.base _) hE1.based (by omega) k (by omega)).mono ?_;rintro r st' ⟨v',h1,h2,h3,h4,h5⟩;exact⟨v',h1,h2,h3,h4,h5⟩) (fun v' I'' h=>h.1.refs _)
   simp[Nat.testBit,hs,e4,e7,e8,hki,g1,g2,hkl,hrb];refine Xac c44 fun p hp=>?_;obtain⟨v',I'',rfl,h1,h2,h3⟩:=hp;have hv1:=h1.one;have hvc:=h1.cells;simp[Nat.testBit,hs,e7];simp[hs,e7,g1,g3,Xag,hmw2,wrC,hvc,hv1];simp[Nat.testBit,hs]
   exact⟨rfl,rfl,by simp[hs],by simp[hs,e0],by simp[hs,e4],by simp[hs,e6],by simp[hs,e7],by simp[hs,e8],Hb,I'',v',rfl,hbL,hbF,
       ⟨hbW.blk,hbW.rob,hbW.rom,(h2.old hon).get i _ hil hbW.arr⟩,h1,hon.to hio.len h3,hio.trans (h2.old hon)⟩
  have hwT:wT at_ loop (.mk op s0 nn l line) w=if w.fs.length=500\/200<(decT bd v1).length then(.mk op s0 nn l line,w1.fail 52 line)else
      ((.mk op s0 w.fs.length (wP w.fs.length l {w1 with fs:=w.fs++ [{around:=at_,name:=s0,params:=pv.length,vars:=decT bd v1,mark:=w.mark}]}).1 line),(wP w.fs.length l {w1 with fs:=w.fs++ [{around:=at_,name:=s0,params:=pv.length,vars:=decT bd v1,mark:=w.mark}]}).2):=by
    simp only[wT,he,ne_eq,not_true,if_false,hfn,if_true,hfo,<-hw1]
  rw[hwT];have hwe:w1.e=0:=by rw[<-hw1];exact he
  have hwf:w1.fs=w.fs:=by rw[<-hw1]
  have hwm:w1.mark=w.mark+2:=by rw[<-hw1]
  have hlen500:=hf.len;generalize hvars:decT bd v1=vs;rintro s _ st1 ⟨rfl,F⟩;obtain⟨hs,e0,e4,e6,e7,e8,Hb,I',vv,rfl,hbL,hbF,hbW,hac,hon,hio⟩:=F;have g1:∀y j,(Hb++y)[st.H.length+j]?=y[j]?:=fun y j=>by rw[<-hbL];exact Xby _ _ _
  have g2:∀y,(Hb++y)[st.H.length]?=y[0]?:=fun y=>g1 y 0;have g3:∀y j v,(Hb++y).set (st.H.length+j) v=Hb++y.set j v:=fun y j v=>by rw[<-hbL];exact Xe6 _ _ _ _
  have hbl2:b<Hb.length:=by omega
  have gb:∀y,(Hb++y)[b]?=_:=fun y=>Xae hbW.blk;have hsb2:∀x y,(Hb++y).set b x=Hb.set b x++y:=fun x y=>List.set_append_left _ _ hbl2;have k1:∀x y j,(Hb.set b x++y)[st.H.length+j]?=y[j]?:=fun x y j=>by rw[List.getElem?_append_right (by simp;omega)];congr 1;simp;omega
  have k2:∀x y,(Hb.set b x++y)[st.H.length]?=y[0]?:=fun x y=>k1 x y 0;have k3:∀x y j v,(Hb.set b x++y).set (st.H.length+j) v=Hb.set b x++y.set j v:=fun x y j v=>by rw[List.set_append_right _ _ (by simp;omega)];congr 2;simp;omega
  have hmw1:∀x y,Xaf E (st.H.length+1) x y=true:=fun x y=>hmw _ _ _ (by omega);have hln:=hac.len;have hvl:=hac.one;have lsl:∀o n c,lenA false (.sl o n c)=some (.int .i64 n):=fun _ _ _=>rfl;by_cases hlim:w.fs.length=500\/200<vs.length
  ·rw[if_pos hlim];simp only;have c72:=f72k (hbW.app [.cells 24 [.int .i64 op,.str s0,.int .i64 nn,.sl none l.length (T.encL l),.int .i64 line],.cells 24 [.int .i64 0,.str ⟨#[]⟩,.int .i64 0,.nils,.int .i64 0],.cells 43 [.int .i64 at_,.str s0,.int .i64 pv.length,vv,.int .i64 w.mark]]) hwe 52 line k (by omega);have hcond:((w1.fs.length:Int)=500\/(200:Int)<vs.length):=by rw[hwf];omega
   by_cases h5:(w1.fs.length:Int)=500
   ·simp[-lenA,lsl,hs,e0,e4,e6,e7,gb,g1,g2,h5,c72,hsb2,k1,k2,k3,Xag,hmw1,wrC];exact⟨_,rfl,.of _ _ (.mk op s0 nn l line),(hbW.fail hwe 52 line).app _,((hbF.trans (.set _ _ _)).trans (.app _ _ _)),⟨hio.len,fun q x hq e=>hio.get q x (uB e) e⟩⟩
   ·have h200:(200:Int)<vs.length:=by omega
    simp[-lenA,lsl,hs,e0,e4,e6,e7,gb,g1,g2,h5,hln,h200,c72,hsb2,k1,k2,k3,Xag,hmw1,wrC];exact⟨_,rfl,.of _ _ (.mk op s0 nn l line),(hbW.fail hwe 52 line).app _,((hbF.trans (.set _ _ _)).trans (.app _ _ _)),⟨hio.len,fun q x hq e=>hio.get q x (uB e) e⟩⟩
  rw[if_neg hlim];simp only;generalize hF:({around:=at_,name:=s0,params:=pv.length,vars:=vs,mark:=w.mark}:Fn)=F;have hFe:F.enc=[.int .i64 at_,.str s0,.int .i64 pv.length,.sl none vs.length (vs.map .str),.int .i64 w.mark]:=by rw[<-hF];rfl
  have hn5:¬(w1.fs.length:Int)=500:=by rw[hwf];omega
  have hn2:¬(200:Int)<vs.length:=by omega
  have hil':i<I'.length:=(List.getElem?_eq_some_iff.1 hbW.arr).1;have harr:=hbW.arr;simp only[hwf]at harr;have hrom:=hbW.rom
  have happ:∀H,appA E ⟨H,I'++ [(1,5)]⟩ 5 64 (.sl (some i) w.fs.length (encFs w.fs)) (.sl (some I'.length) 1 [.int .i64 at_,.str s0,.int .i64 pv.length,.sl none vs.length (vs.map .str),.int .i64 w.mark])=
      some (.sl (some i) (w.fs.length+1) (encFs (w.fs++ [F])),⟨H,(I'++ [(1,5)]).set i (w.fs.length+1,5)⟩):=by
    intro H;have h1:(I'++ [(1,5)])[i]?=some (w.fs.length,5):=Xbx i _ harr;have h2:(w.fs.length+1)*64<=70368744177664:=by omega
    have h3:w.fs.length+1<=70368744177664:=by omega
    rw[Xgo,Xck,Xho,hFe];simp[appA,srcA,hrom,h1,h2,h3,finS]
  have hmwf:∀cs y,Xaf E b (.sl (some i) w.fs.length (encFs w.fs)::cs) [.sl (some i) y (encFs (w.fs++ [F]))]=true:=by intro cs y;simp[Xaf,Xdw,hrob,Xdp]
  have hfin:=hac.fin;rw[Xa2,Xa2,Xa2,Xa2,Xa2]
  refine Xco (fun s' m' st'=>m'=[]/\s'.length=148/\lk s' 0=.ptr b 0/\lk s' 4=.ptr st.H.length 0/\lk s' 6=.ptr (st.H.length+1) 0/\lk s' 8=.int .i64 ps.length/\lk s' 10=.int .i64 w.fs.length/\lk s' 11=.ptr (st.H.length+3) 0/\
    ∃Hb2 B,st'=⟨Hb2++ [.cells 24 [.int .i64 op,.str s0,.int .i64 nn,.sl none l.length (T.encL l),.int .i64 line],.cells 24 [.int .i64 0,.str ⟨#[]⟩,.int .i64 0,.nils,.int .i64 0],B,.cells 24 [.int .i64 op,.str s0,.int .i64 w.fs.length,.nils,.int .i64 line]],(I'++ [(1,5)]).set i (w.fs.length+1,5)⟩/\
      Hb2.length=st.H.length/\HFr b st.H Hb2/\WS E ⟨Hb2,(I'++ [(1,5)]).set i (w.fs.length+1,5)⟩ b i {w1 with fs:=w.fs++ [F]}) ?_ ?_
  ·rw[hki]at e8;have hbb:=hbW.blk;simp only[hwf]at hbb;have gb':∀y,(Hb++y)[b]?=_:=fun y=>Xae hbb;have hmw3:∀x y,Xaf E (st.H.length+3) x y=true:=fun x y=>hmw _ _ _ (by omega);rw[hwf]at hn5;simp[-lenA,lsl,hs,e0,e4,e6,e7,gb',g1,g2,hn5,hln,hn2];simp[Nat.testBit,hs,Xap,wrC,hvl,hfin,gb',e0,happ];simp[hs,e0,gb',Xag,hmwf,wrC,hsb2];simp[Nat.testBit,hs,e0,e4,hbL,k1,k2,k3,Xag,hmw3,wrC];have hx:(List.set (I'++ [(1,5)]) i (w.fs.length+1,5))[i]?=some (w.fs.length+1,5):=List.getElem?_set_self (by simp;omega)
   exact⟨rfl,rfl,by simp[hs],by simp[hs,e0],by simp[hs,e4],by simp[hs,e6],by simp[hs,e8],by simp[hs],by simp[hs],_,_,rfl,by simpa using hbL,hbF.trans (.set _ _ _),
     ⟨by simp;exact List.getElem?_set_self hbl2,hrob,hrom,by simpa using hx⟩⟩
  have hio2:IFr (some i) st.I ((I'++ [(1,5)]).set i (w.fs.length+1,5)):=by refine⟨by have:=hio.len;simp;omega,fun q x hq e=>?_⟩;rw[List.getElem?_set_ne (fun h=>hq (by rw[h]))];exact Xbx q x (hio.get q x (uB e) e)
  have hf2:FsOk ({w1 with fs:=w.fs++ [F]}:Wk).fs:=hf.push (by omega) (by rw[<-hF];simp<;>omega) (by rw[<-hF];simp<;>omega) (by rw[<-hF];simp<;>omega);generalize hI2:(I'++ [(1,5)]).set i (w.fs.length+1,5)=I2 at hio2⊢;generalize hw2:({w1 with fs:=w.fs++ [F]}:Wk)=w2 at hf2⊢;have hw2l:w2.fs.length=w.fs.length+1:=by rw[<-hw2];simp
  have hw2m:w2.mark=w.mark+2:=by rw[<-hw2];exact hwm
  have hpm:∀x∈ps,ok64 0:=fun _ _=>by unfold ok64;omega
  clear gb hbW hac hon hio hln hvl happ hmwf hfin harr k1 k2 k3 hsb2 g1 g2 g3 e0 e4 e6 e7 e8 hs;rintro s _ _ ⟨rfl,hs,e0,e4,e6,e8,e10,e11,Hb2,B,rfl,hbL2,hbF2,hbW2⟩;have g1:∀y j,(Hb2++y)[st.H.length+j]?=y[j]?:=fun y j=>by rw[<-hbL2];exact Xby _ _ _
  have g2:∀y,(Hb2++y)[st.H.length]?=y[0]?:=fun y=>g1 y 0;have g3:∀y j v,(Hb2++y).set (st.H.length+j) v=Hb2++y.set j v:=fun y j v=>by rw[<-hbL2];exact Xe6 _ _ _ _
  have hmwj:∀j x y,Xaf E (st.H.length+j) x y=true:=fun j x y=>hmw _ _ _ (by omega);have c71:=fun(y:List ABlk) (I3:List (Nat×Nat)) sx=>Xfb (w:=.int .i64 (Xbu w2.fs w.fs.length sx)) (f71 hf2 (b:=b) (st:=⟨Hb2++y,I3⟩) (Xae hbW2.blk) sx w.fs.length (by omega) (by omega) k (by omega)) (fun _=>rfl) rfl (E:=E)
  refine Xco (fun s' m' st'=>m'=[]/\s'.length=148/\lk s' 0=.ptr b 0/\lk s' 4=.ptr st.H.length 0/\lk s' 6=.ptr (st.H.length+1) 0/\lk s' 8=.int .i64 ps.length/\lk s' 10=.int .i64 w.fs.length/\lk s' 11=.ptr (st.H.length+3) 0/\
    ∃J I3 lv,st'=⟨Hb2++(.cells 24 [.int .i64 op,.str s0,.int .i64 nn,.sl none l.length (T.encL l),.int .i64 line]::.cells 24 [.int .i64 0,.str ⟨#[]⟩,.int .i64 0,.nils,.int .i64 0]::B::.cells 24 [.int .i64 op,.str s0,.int .i64 w.fs.length,lv,.int .i64 line]::J),I3⟩/\AccT st.I.length I3 (ps.map (fun x=>x.setN (Xbu w2.fs w.fs.length x.s))) lv/\IOld st.I.length I2 I3) ?_ ?_
  ·simp[hs]
   refine Xau (fun n s m st'=> ∃(j:Nat) (J:List ABlk) (I3:List (Nat×Nat)) (lv:AV),j<=ps.length/\n=ps.length - j/\m=[]/\s.length=148/\lk s 0=.ptr b 0/\lk s 4=.ptr st.H.length 0/\lk s 6=.ptr (st.H.length+1) 0/\lk s 8=.int .i64 ps.length/\lk s 10=.int .i64 w.fs.length/\lk s 11=.ptr (st.H.length+3) 0/\lk s 12=.int .i64 j/\
     st'=⟨Hb2++(.cells 24 [.int .i64 op,.str s0,.int .i64 nn,.sl none l.length (T.encL l),.int .i64 line]::.cells 24 [.int .i64 0,.str ⟨#[]⟩,.int .i64 0,.nils,.int .i64 0]::B::.cells 24 [.int .i64 op,.str s0,.int .i64 w.fs.length,lv,.int .i64 line]::J),I3⟩/\AccT st.I.length I3 ((ps.take j).map (fun x=>x.setN (Xbu w2.fs w.fs.length x.s))) lv/\IOld st.I.length I2 I3) ps.length (by omega)
     ⟨0,[],I2,.nils,by omega,by omega,rfl,by simp[hs],by simp[hs,e0],by simp[hs,e4],by simp[hs,e6],by simp[hs,e8],by simp[hs,e10],by simp[hs,e11],by simp[hs],rfl,.inl ⟨rfl,rfl⟩,.refl _ _⟩ ?_
   clear hs e0 e4 e6 e8 e10 e11;rintro _ s _ _ ⟨j,J,I3,lv,hj,rfl,rfl,hs,e0,e4,e6,e8,e10,e11,e12,rfl,hacc,hold⟩;by_cases hc:j<ps.length
   ·obtain⟨t,hg⟩:∃t,ps[j]?=some t:=⟨_,List.getElem?_eq_getElem hc⟩;have hgl:l[j]?=some t:=by rw[<-hl,List.getElem?_append_left hc];exact hg
    have hjl:j<l.length:=by omega
    have hrd:=T.rd hgl;rw[T.enc_eq]at hrd;have hwj:=Xah (n:=(j:Int)+1) (by omega);have hacc2:=hacc.old (I':=I3++ [(1,5)]) Xbx;have hl3:=hold.len;have hl2:=hio2.len;obtain⟨v',I4,happ,hacc3,hold3⟩:=hacc2.app (E:=E) (H:=Hb2++(.cells 24 [.int .i64 op,.str s0,.int .i64 nn,.sl none l.length (T.encL l),.int .i64 line]::.cells 24 [.int .i64 0,.str ⟨#[]⟩,.int .i64 0,.nils,.int .i64 0]::B::.cells 24 [.int .i64 op,.str s0,.int .i64 w.fs.length,lv,.int .i64 line]::(J++ [.cells 24 [.int .i64 t.op,.str t.s,.int .i64 (Xbu w2.fs w.fs.length t.s),.sl none t.l.length (T.encL t.l),.int .i64 t.line]]))) (by simp;omega) hE.rom (by simp;omega) (t.setN (Xbu w2.fs w.fs.length t.s)) I3.length;have hse:(t.setN (Xbu w2.fs w.fs.length t.s)).enc=[.int .i64 t.op,.str t.s,.int .i64 (Xbu w2.fs w.fs.length t.s),.sl none t.l.length (T.encL t.l),.int .i64 t.line]:=by rw[T.enc_eq];rfl
    rw[hse]at happ;have hlvo:=hacc3.one;have hlvc:=hacc3.cells;simp[hs,e0,e4,e8,e10,e11,e12,hc,g1,g2,hjl,hrd,hbL2];simp[hs,e0,e10,g1,g3,Xag,hmwj,wrC];simp[c71,hs,g1,g3,Xag,hmwj,wrC];simp[hs,e11,g1,Xap,wrC,happ];simp[hs,e11,g1,g3,Xag,hmwj,wrC,hlvo,hlvc];simp[hs,e12,hwj]
    exact⟨_,by omega,j+1,J++ [.cells 24 [.int .i64 t.op,.str t.s,.int .i64 (Xbu w2.fs w.fs.length t.s),.sl none t.l.length (T.encL t.l),.int .i64 t.line]],I4,v',by omega,rfl,rfl,by simp[hs],by simp[hs,e0],by simp[hs,e4],by simp[hs,e6],by simp[hs,e8],by simp[hs,e10],by simp[hs,e11],by simp[hs],rfl,
      by rw[List.take_add_one,hg];simpa using hacc3,hold.trans ((IOld.push _ _ _).trans hold3)⟩
   ·rw[List.take_of_length_le (by omega)]at hacc;simp[hs,e8,e12,hc];exact⟨rfl,rfl,by simp[hs],by simp[hs,e0],by simp[hs,e4],by simp[hs,e6],by simp[hs,e8],by simp[hs,e10],by simp[hs,e11],J,I3,lv,rfl,hacc,hold⟩
  clear hs e0 e4 e6 e8 e10 e11 s;rintro s _ _ ⟨rfl,hs,e0,e4,e6,e8,e10,e11,J,I3,lv,rfl,hacc,hold⟩;have hl3:=hold.len;have hl2:=hio2.len;have hWb:WS E ⟨Hb2++(.cells 24 [.int .i64 op,.str s0,.int .i64 nn,.sl none l.length (T.encL l),.int .i64 line]::.cells 24 [.int .i64 0,.str ⟨#[]⟩,.int .i64 0,.nils,.int .i64 0]::B::.cells 24 [.int .i64 op,.str s0,.int .i64 w.fs.length,lv,.int .i64 line]::J),I3⟩ b i w2:=⟨Xae hbW2.blk,hbW2.rob,hbW2.rom,hold.get i _ hil hbW2.arr⟩;have hE2:E.Wf ⟨Hb2++(.cells 24 [.int .i64 op,.str s0,.int .i64 nn,.sl none l.length (T.encL l),.int .i64 line]::.cells 24 [.int .i64 0,.str ⟨#[]⟩,.int .i64 0,.nils,.int .i64 0]::B::.cells 24 [.int .i64 op,.str s0,.int .i64 w.fs.length,lv,.int .i64 line]::J),I3⟩:=hE.of (by simp;omega) (by omega);have hwP:wP w.fs.length l w2=(ps.map (fun x=>x.setN (Xbu w2.fs w.fs.length x.s))++ [(wT w.fs.length false bd w2).1],(wT w.fs.length false bd w2).2):=by rw[<-hl];exact Xtd _ _ _ _
  rw[hwP]
  have cT:=Xrk (E:=E) (Q:=fun v st'=>NodeV I3.length st'.I.length v (wT w.fs.length false bd w2).1/\WS {E with base:=_} st' b i (wT w.fs.length false bd w2).2/\HFr b _ st'.H/\IFr (some i) I3 st'.I)
      (by
        refine(ihT bd (by omega) (T.fkL_get hfkl hgb) w.fs.length false w2 _ _ b i (hWb.base _) hE2.based hf2 (by omega) (by omega) k (by omega)).mono ?_;rintro r st' ⟨v,h1,h2,h3,h4,h5⟩;exact⟨v,h1,h2,h3,h4,h5⟩)
      (fun v st' h=>by obtain⟨lv, -, -, -,h⟩:=h.1.cells;exact h _)
  generalize wT w.fs.length false bd w2=r1 at cT⊢;obtain⟨t',w3⟩:=r1;simp only at cT⊢;simp[Nat.testBit,hs,e0,e4,e8,e10,e11,g1,g2,hkl,hrb];refine Xac cT fun p hp=>?_;obtain⟨v,st2,rfl,h1,h2,h3,h4⟩:=hp;obtain⟨lv2,rfl,hlv,hfin, -⟩:=h1.cells;have hH:=h3.take;have hHl:=h3.take_len;have q1:=hH.get (st.H.length+1) _ (by omega) (g1 _ 1);have q3:=hH.get (st.H.length+3) _ (by omega) (g1 _ 3);have hbig:st.H.length+4<=(Hb2++(.cells 24 [.int .i64 op,.str s0,.int .i64 nn,.sl none l.length (T.encL l),.int .i64 line]::.cells 24 [.int .i64 0,.str ⟨#[]⟩,.int .i64 0,.nils,.int .i64 0]::B::.cells 24 [.int .i64 op,.str s0,.int .i64 w.fs.length,lv,.int .i64 line]::J)).length:=by simp;omega
  have hws:=h2.cut (E':=E) (Hb2++(.cells 24 [.int .i64 op,.str s0,.int .i64 nn,.sl none l.length (T.encL l),.int .i64 line]::.cells 24 [.int .i64 0,.str ⟨#[]⟩,.int .i64 0,.nils,.int .i64 0]::B::.cells 24 [.int .i64 op,.str s0,.int .i64 w.fs.length,lv,.int .i64 line]::J)).length (by omega) rfl rfl;have hbF3:HFr b st.H (st2.H.take (Hb2++(.cells 24 [.int .i64 op,.str s0,.int .i64 nn,.sl none l.length (T.encL l),.int .i64 line]::.cells 24 [.int .i64 0,.str ⟨#[]⟩,.int .i64 0,.nils,.int .i64 0]::B::.cells 24 [.int .i64 op,.str s0,.int .i64 w.fs.length,lv,.int .i64 line]::J)).length):=(hbF2.trans (HFr.app b Hb2 _)).trans hH;generalize hm2:(Hb2++(.cells 24 [.int .i64 op,.str s0,.int .i64 nn,.sl none l.length (T.encL l),.int .i64 line]::.cells 24 [.int .i64 0,.str ⟨#[]⟩,.int .i64 0,.nils,.int .i64 0]::B::.cells 24 [.int .i64 op,.str s0,.int .i64 w.fs.length,lv,.int .i64 line]::J)).length=m2 at hHl hws hbF3 hbig q1 q3⊢;generalize hHt:st2.H.take m2=H2 at hHl hws hbF3 q1 q3⊢;have h4l:=h4.len;have hacc2:=(hacc.fr (fun q e=>by cases e;exact hil) h4).old (I':=st2.I++ [(1,5)]) Xbx;obtain⟨v',I4,happ,hacc3,hold3⟩:=hacc2.app (E:=E) (H:=H2) (by simp<;>omega) hE.rom (by simp<;>omega) t' st2.I.length;rw[T.enc_eq]at happ;have hlvo:=hacc3.one;have hlvc:=hacc3.cells;have r1:∀x,(H2.set (st.H.length+3) x)[st.H.length+3]?=some x:=fun x=>List.getElem?_set_self (by omega);have r2:∀x,(H2.set (st.H.length+3) x)[st.H.length+1]?=_:=fun x=>by rw[List.getElem?_set_ne (by omega)]
  have r3:∀x y,((H2.set (st.H.length+3) x).set (st.H.length+1) y)[st.H.length+1]?=some y:=fun x y=>List.getElem?_set_self (by simp;omega);simp[Nat.testBit,hs,e11,q3];simp[Nat.testBit,hs,e11,Xap,wrC,hlv,hfin,q3,happ];simp[hs,e11,q3,Xag,hmwj,wrC,hlvo,hlvc];simp[Nat.testBit,hs,e6,e11,q1,r1,r2,r3,Xag,hmwj,wrC,hlvo];have hws2:WS E ⟨H2,I4⟩ b i w3:=⟨hws.blk,hws.rob,hws.rom,hold3.get i _ hil (Xbx i _ hws.arr)⟩;refine⟨_,rfl,hacc3.node op s0 w.fs.length line,(hws2.setN (by omega)).setN (by omega),(hbF3.setN (by omega)).setN (by omega),?_⟩;refine⟨by have:=hold3.len;simp at this⊢;omega,fun q x hq e=>?_⟩;have hql:=uB e;exact hold3.get q x hql (Xbx q x (h4.get q x hq (hold.get q x hql (hio2.get q x hq e))))
theorem Xqj:∀n,Xr9 n
 |0=>fun t ht=>absurd ht (by cases t;simp[T.wt])
 |n+1=>f45s (Xqj n) (f70s (Xqj n))
@[simp] theorem Xfw:∀(m:Nat) (fs:List Fn),AV.finL m (encFs fs)=encFs fs
 |m,[]=>rfl
 |m,f::r=>by rw[Xck,Xd1,Xfw m r];congr 1;simp[Fn.enc,finS]
theorem Xhc{α:Type}{I I':List α}(hl:I.length<=I'.length)(hg:∀(j:Nat) (x:α),I[j]?=some x->I'[j]?=some x):I<+:I':=by
 refine⟨I'.drop I.length,List.ext_getElem? fun j=>?_⟩;by_cases h:j<I.length
 ·rw[List.getElem?_append_left h,hg j _ (List.getElem?_eq_getElem h),List.getElem?_eq_getElem h]
 ·rw[List.getElem?_append_right (by omega),List.getElem?_drop];congr 1;omega
def resV(r:List Fn×T×Int×Int):AV:=.tup [.sl none r.1.length (encFs r.1),.agg r.2.1.enc,.int .i64 r.2.2.1,.int .i64 r.2.2.2]
theorem NodeV.fin{lo m v t}(h:NodeV lo m v t)(q:Nat)(hq:q<=lo):v.fin q=.agg t.enc:=by
 obtain⟨lv,rfl,⟨h1,rfl⟩|⟨o,rfl,h⟩⟩:=h
 ·rw[T.enc_eq,h1];simp
 ·rw[T.enc_eq];cases o with
  |none=>simp
  |some j=>
   have:¬j<q:=by have:=(h j rfl).1;omega
   simp[this]
theorem f21(t:T)(ht:t.ok)(hw:t.wt<=4000000000)(k:Nat)(hk:3*t.wt+2000<=k):PureC k 21 [.agg t.enc] (resV (resolve t)):=by
  intro E st hE;obtain⟨k,rfl⟩:=uK (k:=k) (by omega);have hmw:=Xaa hE;have hE1:E.Wf ⟨st.H++ [.cells 24 t.enc,.cells 24 [.int .i64 0,.str ⟨#[]⟩,.int .i64 0,.nils,.int .i64 0]],st.I⟩:=hE.of (by simp) (by simp);have c27:=(f27 t ht k (by omega)).full rfl hE1;have hmw1:∀x y,Xaf E (st.H.length+1) x y=true:=fun x y=>hmw _ _ _ (by omega);have hmw3:∀x y,Xaf E (st.H.length+3) x y=true:=fun x y=>hmw _ _ _ (by omega);cases hr:right t
  ·rw[hr]at c27;obtain⟨op,s0,nn,l,line⟩:=t;refine Xai rfl rfl (by decide) fun s hs e0=>?_;simp only[T.enc]at c27;have hres:resolve (.mk op s0 nn l line)=([],.mk 0 ⟨#[]⟩ 0 [] 0,0,30):=by simp[resolve,hr]
   rw[hres];simp[hs,e0,c27,Xap,wrC,Xag,hmw1];exact⟨⟨List.prefix_append _ _,List.prefix_rfl⟩,rfl⟩
  rw[hr]at c27
  have c44:=Xf9 (E:=E) (st:=⟨st.H++ [.cells 24 t.enc,.cells 24 [.int .i64 0,.str ⟨#[]⟩,.int .i64 0,.nils,.int .i64 0]],st.I⟩)
        (Q:=fun v' I''=>AccS E I'' (decT t []) v'/\IFr none st.I I''/\OwnTo st.I .nils v') (by
        refine(f44 t.wt t (Nat.le_refl _) [] .nils _ ⟨_,st.I⟩ (.inl ⟨rfl,rfl⟩) hE1.based (by simp;omega) k (by simp;omega)).mono ?_;rintro r st' ⟨v',h1,h2,h3,h4,h5⟩;exact⟨v',h1,h2,h3,h4,h5⟩) (fun v' I'' h=>h.1.refs _)
  have hfk:=Xlp hr;have hWT:=Xqj t.wt t (Nat.le_refl _) hfk 0 false
  have hres0:resolve t=if 200<(decT t []).length then([],.mk 0 ⟨#[]⟩ 0 [] 0,t.line,52)else
      (let r:=wT 0 false t {fs:=[{around:= -1,name:=⟨#[]⟩,params:=0,vars:=decT t [],mark:=0}],mark:=4,e:=0,line:=0};if r.2.e≠0 then([],.mk 0 ⟨#[]⟩ 0 [] 0,r.2.line,r.2.e)else(r.2.fs,r.1,0,0)):=by
    simp only[resolve,hr,Bool.not_true,Bool.false_eq_true,if_false]
  rw[hres0];generalize decT t []=vs at c44⊢;obtain⟨op,s0,nn,l,line⟩:=t;refine Xai rfl rfl (by decide) fun s hs e0=>?_;simp only[T.enc]at c27 c44;simp[hs,e0,c27];refine Xac c44 fun p hp=>?_;obtain⟨v,I1,rfl,hac,hIf,hOw⟩:=hp;have hln:=hac.len;have hpre:st.I<+:I1:=Xhc hIf.len fun j x e=>hIf.get j x nofun e;have lsl:∀o n c,lenA false (.sl o n c)=some (.int .i64 n):=fun _ _ _=>rfl;by_cases hlim:200<vs.length
  ·have hlim':(200:Int)<vs.length:=by omega
   simp[-lenA,Nat.testBit,lsl,hs,hln,hlim',Xap,wrC,Xag,hmw1,hlim];exact⟨⟨List.prefix_append _ _,hpre⟩,rfl⟩
  have hlim':¬(200:Int)<vs.length:=by omega
  have hvo:=hac.one;have hvc:=hac.cells;have hfin:=hac.fin;have hE2:E.Wf ⟨st.H++ [.cells 24 [.int .i64 op,.str s0,.int .i64 nn,.sl none l.length (T.encL l),.int .i64 line],.cells 24 [.int .i64 0,.str ⟨#[]⟩,.int .i64 0,.nils,.int .i64 0],.cells 71 [.sl (some I1.length) 1 [.int .i64 (-1),.str ⟨#[]⟩,.int .i64 0,.sl none vs.length (vs.map .str),.int .i64 0],.int .i64 4,.int .i64 0,.int .i64 0]],I1++ [(1,5)]⟩:=hE.of (by simp) (by simp;have:=hIf.len;omega)
  have hf0:FsOk [({around:= -1,name:=⟨#[]⟩,params:=0,vars:=vs,mark:=0}:Fn)]:=⟨by simp,fun i f h=>by
    rcases i with _|i
    ·simp at h;subst h;exact⟨by simp,by simp,by simp;omega⟩
    ·simp at h⟩
  have hW0:WS E ⟨st.H++ [.cells 24 [.int .i64 op,.str s0,.int .i64 nn,.sl none l.length (T.encL l),.int .i64 line],.cells 24 [.int .i64 0,.str ⟨#[]⟩,.int .i64 0,.nils,.int .i64 0],.cells 71 [.sl (some I1.length) 1 [.int .i64 (-1),.str ⟨#[]⟩,.int .i64 0,.sl none vs.length (vs.map .str),.int .i64 0],.int .i64 4,.int .i64 0,.int .i64 0]],I1++ [(1,5)]⟩ (st.H.length+2) I1.length
      {fs:=[{around:= -1,name:=⟨#[]⟩,params:=0,vars:=vs,mark:=0}],mark:=4,e:=0,line:=0}:=
    ⟨by simp[encFs,Fn.enc],by have:=hE.rob;omega,by have:=hE.rom;have:=hIf.len;omega,by simp⟩
  have cT:=Xrk (E:=E) (Q:=fun v st'=>NodeV (I1.length+1) st'.I.length v (wT 0 false (.mk op s0 nn l line) {fs:=[{around:= -1,name:=⟨#[]⟩,params:=0,vars:=vs,mark:=0}],mark:=4,e:=0,line:=0}).1/\
      WS {E with base:=_} st' (st.H.length+2) I1.length (wT 0 false (.mk op s0 nn l line) {fs:=[{around:= -1,name:=⟨#[]⟩,params:=0,vars:=vs,mark:=0}],mark:=4,e:=0,line:=0}).2/\HFr (st.H.length+2) _ st'.H/\IFr (some I1.length) (I1++ [(1,5)]) st'.I)
      (by
        refine(hWT _ _ _ _ _ (hW0.base _) hE2.based hf0 (by simp) (by simp only[];omega) k (by omega)).mono ?_;rintro r st' ⟨v,h1,h2,h3,h4,h5⟩;exact⟨v,h1,by simpa using h2,h3,h4,h5⟩)
      (fun v st' h=>by obtain⟨lv, -, -, -,h⟩:=h.1.cells;exact h _)
  rw[if_neg hlim];generalize wT 0 false (.mk op s0 nn l line) {fs:=[{around:= -1,name:=⟨#[]⟩,params:=0,vars:=vs,mark:=0}],mark:=4,e:=0,line:=0}=r1 at cT⊢;obtain⟨t',w3⟩:=r1;simp only[T.enc,Int.natCast_zero]at cT⊢;simp[-lenA,Nat.testBit,lsl,hs,hln,hlim',Xap,wrC,Xag,hmw1,hvo,hvc,hfin];refine Xac cT fun p hp=>?_;obtain⟨v2,st2,rfl,h1,h2,h3,h4⟩:=hp;have hH:=h3.take;have hHl:=h3.take_len;simp only[List.length_append,List.length_cons,List.length_nil,Nat.zero_add,Nat.reduceAdd]at hH hHl;have q1:=hH.get (st.H.length+1) _ (by omega) (Xby _ _ 1);have hws:=h2.cut (E':=E) (st.H.length+3) (by omega) rfl rfl;have hold:∀j x,st.H[j]?=some x->(st2.H.take (st.H.length+3))[j]?=some x:=fun j x e=>hH.get j x (by have:=(uB e);omega) (Xae e);generalize hHt:st2.H.take (st.H.length+3)=H2 at hH hHl q1 hws hold;have q2:=hws.blk;simp only at q2;have a1:∀y,(H2++y)[st.H.length+1]?=_:=fun y=>Xae q1;have a2:∀y,(H2++y)[st.H.length+2]?=_:=fun y=>Xae q2;have b1:∀y x,((H2++y).set (st.H.length+1) x)[st.H.length+1]?=some x:=fun y x=>List.getElem?_set_self (by rw[List.length_append];omega);have b2:∀y x,((H2++y).set (st.H.length+1) x)[st.H.length+2]?=_:=fun y x=>by rw[List.getElem?_set_ne (by omega)]
  have b3:∀y x,((H2++y).set (st.H.length+1) x)[H2.length]?=y[0]?:=fun y x=>by rw[List.getElem?_set_ne (by omega)];simp
  have hmwH:∀x y,Xaf E H2.length x y=true:=fun x y=>hmw _ _ _ (by omega);have hmw1:∀x y,Xaf E (st.H.length+1) x y=true:=fun x y=>hmw _ _ _ (by omega);obtain⟨lv2,rfl,hlv,hfin2, -⟩:=h1.cells
  have hgr:∀y x,Grow st ⟨(H2++y).set (st.H.length+1) x,st2.I⟩:=fun y x=>⟨Xhc (by rw[List.length_set,List.length_append];omega) fun j z e=>by
      rw[List.getElem?_set_ne (by have:=(uB e);omega)];exact Xae (hold j z e),Xhc (by have h5:=hIf.len;have h6:=h4.len;rw[List.length_append]at h6;show st.I.length<=st2.I.length;omega) fun j z e=>by
      have hj:=uB e;exact h4.get j z (fun e'=>by have h:=Option.some.inj e';have:=hIf.len;omega) (Xbx j z (hIf.get j z nofun e))⟩
  simp[hs,hHt,Xag,hmwH,wrC,hlv];by_cases he:w3.e=0
  ·simp[Nat.testBit,hs,a2,b1,b2,b3,he,Xag,hmw1,wrC,hlv,a1];have hfn:=h1.fin st.I.length (by have:=hIf.len;omega);have hi:¬I1.length<st.I.length:=by have:=hIf.len;omega
   simp at hfn;rw[hfn];exact⟨hgr _ _,by simp[resV,Xfw,hi]⟩
  ·simp[Nat.testBit,hs,a2,b1,b2,b3,he,Xag,hmw1,wrC,hlv,a1,Xap];exact⟨hgr _ _,rfl⟩
end Go.Proofs.YP
