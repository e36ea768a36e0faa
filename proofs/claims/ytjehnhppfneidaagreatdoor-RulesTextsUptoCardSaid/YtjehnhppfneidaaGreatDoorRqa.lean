/- Texts that the laws of the seat rest on: an abstract machine, what the functions answer in it, plain laws. -/
import GoSem.Core.Sem
import GoSem.Core.Region
set_option linter.unusedVariables false
set_option linter.unusedSimpArgs false
set_option linter.unusedSectionVars false
namespace Go.Proofs.YP
open Go
inductive AV where
 |int (k:IntKind) (n:Int)
 |bool (b:Bool)
 |str (s:ByteArray)
 |nilp
 |ptr (b off:Nat)
 |eptr (cs:List AV) (off:Nat)
 |nils
 |sl (own:Option Nat) (n:Nat) (cs:List AV)
 |hs (b n:Nat)
 |nilm
 |map (b:Nat)
 |nilf
 |fn (f:Nat) (first caps:List AV)
 |yld (b:Nat)
 |nili
 |iface (t:Nat) (v:AV)
 |agg (cs:List AV)
 |tup (vs:List AV)
 deriving Inhabited
def AV.undef:AV:=.tup []
def AV.cells:AV->List AV
 |.agg cs=>cs
 |v=> [v]
def AV.one:AV->Bool
 |.agg _|.tup _=>false
 |_=>true
inductive Ref where
 |blk (b:Nat)
 |arr (i:Nat)
 deriving DecidableEq
mutual
def AV.refs:AV->List Ref
 |.ptr b _=> [.blk b]
 |.eptr cs _=>AV.refsL cs
 |.sl none _ cs=>AV.refsL cs
 |.sl (some i) _ cs=>.arr i::AV.refsL cs
 |.map b=> [.blk b]
 |.hs b _=> [.blk b]
 |.fn _ x y=>AV.refsL x++AV.refsL y
 |.yld b=> [.blk b]
 |.iface _ v=>v.refs
 |.agg cs=>AV.refsL cs
 |.tup vs=>AV.refsL vs
 |.int _ _|.bool _|.str _|.nilp|.nils|.nilm|.nilf|.nili=> []
def AV.refsL:List AV->List Ref
 |[]=> []
 |v::vs=>v.refs++AV.refsL vs
end
mutual
def AV.fin(m:Nat):AV->AV
 |.eptr cs o=>.eptr (AV.finL m cs) o
 |.nils=>.sl none 0 []
 |.sl none n cs=>.sl none n (AV.finL m cs)
 |.sl (some i) n cs=>.sl (if i<m then some i else none) n (AV.finL m cs)
 |.fn f x y=>.fn f (AV.finL m x) (AV.finL m y)
 |.iface t v=>.iface t (v.fin m)
 |.agg cs=>.agg (AV.finL m cs)
 |.tup vs=>.tup (AV.finL m vs)
 |.int k n=>.int k n
 |.bool b=>.bool b
 |.str s=>.str s
 |.nilp=>.nilp
 |.ptr b o=>.ptr b o
 |.nilm=>.nilm
 |.map b=>.map b
 |.hs b n=>.hs b n
 |.nilf=>.nilf
 |.yld b=>.yld b
 |.nili=>.nili
def AV.finL(m:Nat):List AV->List AV
 |[]=> []
 |v::vs=>v.fin m::AV.finL m vs
end
def AV.arg:AV->AV
 |.nils=>.nils
 |v=>v.fin 0
mutual
def AV.beq:AV->AV->Bool
 |.int k n,.int k' n'=>decide (k=k') && decide (n=n')
 |.bool a,.bool b=>a==b
 |.str a,.str b=>decide (a=b)
 |.nilp,.nilp=>true
 |.ptr b o,.ptr b' o'=>decide (b=b') && decide (o=o')
 |.eptr c o,.eptr c' o'=>AV.beqL c c' && decide (o=o')
 |.nils,.nils=>true
 |.sl w n c,.sl w' n' c'=>decide (w=w') && decide (n=n') && AV.beqL c c'
 |.nilm,.nilm=>true
 |.map b,.map b'=>decide (b=b')
 |.hs b n,.hs b' n'=>decide (b=b') && decide (n=n')
 |.nilf,.nilf=>true
 |.fn f x y,.fn f' x' y'=>decide (f=f') && AV.beqL x x' && AV.beqL y y'
 |.yld b,.yld b'=>decide (b=b')
 |.nili,.nili=>true
 |.iface t v,.iface t' v'=>decide (t=t') && v.beq v'
 |.agg c,.agg c'=>AV.beqL c c'
 |.tup c,.tup c'=>AV.beqL c c'
 |_,_=>false
def AV.beqL:List AV->List AV->Bool
 |[],[]=>true
 |v::vs,u::us=>v.beq u && AV.beqL vs us
 |_,_=>false
end
mutual
theorem AV.beq_refl:∀v:AV,v.beq v=true
 |.int _ _|.bool _|.str _|.nilp|.ptr _ _|.nils|.nilm|.map _|.nilf|.yld _|.nili|.hs _ _=>by simp[AV.beq]
 |.eptr c _=>by simp[AV.beq,AV.beqL_refl c]
 |.sl _ _ c=>by simp[AV.beq,AV.beqL_refl c]
 |.fn _ x y=>by simp[AV.beq,AV.beqL_refl x,AV.beqL_refl y]
 |.iface _ v=>by simp[AV.beq,AV.beq_refl v]
 |.agg c=>by simp[AV.beq,AV.beqL_refl c]
 |.tup c=>by simp[AV.beq,AV.beqL_refl c]
theorem AV.beqL_refl:∀l:List AV,AV.beqL l l=true
 |[]=>by simp[AV.beqL]
 |v::vs=>by simp[AV.beqL,AV.beq_refl v,AV.beqL_refl vs]
end
mutual
theorem AV.eq_of_beq:∀v u:AV,v.beq u=true->v=u
 |.int _ _,u,h|.bool _,u,h|.str _,u,h|.nilp,u,h|.ptr _ _,u,h|.nils,u,h|.nilm,u,h|.map _,u,h|.nilf,u,h|.yld _,u,h|.nili,u,h|.hs _ _,u,h=>by cases u<;>simp_all [AV.beq]
 |.eptr c _,u,h=>by cases u<;>simp[AV.beq]at h;rw[AV.eqL_of_beqL _ _ h.1,h.2]
 |.sl _ _ c,u,h=>by cases u<;>simp[AV.beq]at h;rw[AV.eqL_of_beqL _ _ h.2,h.1.1,h.1.2]
 |.fn _ x y,u,h=>by cases u<;>simp[AV.beq]at h;rw[AV.eqL_of_beqL _ _ h.1.2,AV.eqL_of_beqL _ _ h.2,h.1.1]
 |.iface _ v,u,h=>by cases u<;>simp[AV.beq]at h;rw[AV.eq_of_beq _ _ h.2,h.1]
 |.agg c,u,h=>by cases u<;>simp[AV.beq]at h;rw[AV.eqL_of_beqL _ _ h]
 |.tup c,u,h=>by cases u<;>simp[AV.beq]at h;rw[AV.eqL_of_beqL _ _ h]
theorem AV.eqL_of_beqL:∀l k:List AV,AV.beqL l k=true->l=k
 |[],k,h=>by cases k<;>simp_all [AV.beqL]
 |v::vs,k,h=>by
  cases k with
  |nil=>simp[AV.beqL]at h
  |cons u us=>simp[AV.beqL]at h;rw[AV.eq_of_beq _ _ h.1,AV.eqL_of_beqL _ _ h.2]
end
inductive AO where
 |t (n:Nat)
 |c (v:AV)
 |g (n:Nat)
 deriving Inhabited
inductive Tr where
 |no|keep|full|quiet
 deriving DecidableEq
inductive BK where
 |num|str|boo|sli|fnc|ifc
 deriving DecidableEq
inductive AOp where
 |mv (x:AO)
 |pick (c x y:AO)
 |alloc (ty:Nat) (z:List AV)
 |box (ty:Nat) (x:AO)
 |build (z:List AV) (ps:List (Nat×Nat×AO))
 |bsl (own:Bool) (sz n:Nat) (z:List AV) (ps:List (Nat×Nat×AO))
 |ld (k:Option Nat) (x:AO)
 |st (n:Nat) (p x:AO)
 |nck (x:AO)
 |fa (off:Nat) (x:AO)
 |ia (sz:Nat) (x i:AO)
 |iaa (len sz:Nat) (x i:AO)
 |ixs (x i:AO)
 |fld (off:Nat) (k:Option Nat) (x:AO)
 |ext (n:Nat) (x:AO)
 |bin (k:BK) (op:BinOp) (x y:AO)
 |un (op:UnOp) (x:AO)
 |cvi (k:IntKind) (x:AO)
 |cvs (x:AO)
 |mks (sz bytes:Nat) (z:List AV) (l c:AO)
 |mkh (ty bytes:Nat) (z:List AV) (l c:AO)
 |frz (x:AO)
 |slc (sz:Option Nat) (x:AO) (lo hi:Option AO)
 |len (str:Bool) (x:AO)
 |app (sz bytes:Nat) (x y:AO)
 |appw (sz bytes:Nat) (x y v i:AO)
 |mini (x y:AO)
 |mki (t:Nat) (x:AO)
 |mkf (f:Nat) (x y:List AO)
 |mkm
 |lkp (str:Bool) (z:AV) (ok:Bool) (m k:AO)
 |upd (str:Bool) (m k v:AO)
 |ta (t:Nat) (ok:Bool) (z:AV) (x:AO)
 |pan (x:AO)
 |call (tr:Tr) (f:Nat) (args:List AO)
 |callv (tr:Tr) (f:AO) (args:List AO)
structure AOper where
 dst:Option Nat
 op:AOp
 guard:Option (Nat×Bool)
inductive ACode where
 |skip
 |reg (ops:List AOper)
 |dreg (ops:List (AOper×Nat))
 |seq (a b:ACode)
 |cond (c:AO) (x y:ACode)
 |block (id:Nat) (b:ACode)
 |scope (b:ACode)
 |loop (b:ACode)
 |rf (f:AO) (ps:List Nat) (asg body:ACode)
 |exit (id:Nat)
 |ret
 |bad
inductive ARes where
 |tmp (t:Nat)
 |cell (a:Nat) (k:Option Nat)
structure AFn where
 ntmps:Nat
 res:List ARes
 body:ACode
inductive LState where
 |ready|busy|done|exhausted
 deriving DecidableEq
inductive AJump where
 |ret
 |exit (id:Nat)
 deriving DecidableEq
inductive ABlk where
 |cells (ty:Nat) (c:List AV)
 |map (es:List (AV×AV))
 |loop (s:LState) (pend:Option AJump) (fn:Nat) (tmps:List AV) (ps:List Nat) (asg body:ACode) (dfr:Nat)
 |dfr
 |opq
structure St where
 H:List ABlk
 I:List (Nat×Nat)
structure Env where
 base:Nat
 rob:Nat
 rom:Nat
inductive Rt(α:Type) where
 |ok (a:α)
 |pan (v:AV)
def Xa6{α β:Type}(x:Option α)(f:α->Option β):Option β:=
 match x with
 |some a=>f a
 |none=>none
@[simp] theorem Xam{α β:Type}(a:α)(f:α->Option β):Xa6 (some a) f=f a:=rfl
@[simp] theorem Xvs{α β:Type}(f:α->Option β):Xa6 (none:Option α) f=none:=rfl
@[congr] theorem Xtz{α β:Type}{x x':Option α}{f:α->Option β}(h:x=x'):Xa6 x f=Xa6 x' f:=by rw[h]
theorem Xab{α β:Type}{x:Option α}{f:α->Option β}{b:β}:Xa6 x f=some b↔∃a,x=some a/\f a=some b:=by cases x<;>simp[Xa6]
def Xar(b:Bool){α:Type}(x:Option α):Option α:=if b then x else none
@[simp] theorem Xax{α:Type}(x:Option α):Xar true x=x:=rfl
@[simp] theorem Xsl{α:Type}(x:Option α):Xar false x=none:=rfl
@[congr] theorem Xsm{α:Type}{b b':Bool}{x:Option α}(h:b=b'):Xar b x=Xar b' x:=by rw[h]
theorem Xad{α:Type}{b:Bool}{x:Option α}{a:α}:Xar b x=some a↔b=true/\x=some a:=by cases b<;>simp[Xar]
def lk(s:List AV)(t:Nat):AV:=(s[t]?).getD AV.undef
def put(s:List AV)(d:Option Nat)(v:AV):List AV:=
 match d with
 |some d=>s.set d v
 |none=>s
def rdC(k:Option Nat)(c:List AV)(off:Nat):Option AV:=
 match k with
 |none=>c[off]?
 |some n=>if off+n<=c.length then some (.agg ((c.drop off).take n))else none
def wrC(c:List AV)(off:Nat)(vs:List AV):List AV:=c.take off++vs++c.drop (off+vs.length)
def loadA(st:St)(k:Option Nat):AV->Option AV
 |.ptr b off=>
  match st.H[b]? with
  |some (.cells _ c)=>rdC k c off
  |_=>none
 |.eptr c off=>rdC k c off
 |_=>none
def Xdw(new old:List AV):Bool:=(AV.refsL new).all fun r=>decide (r∈AV.refsL old)
def Xaf(E:Env)(b:Nat)(old new:List AV):Bool:=decide (E.rob<=b) && (decide (E.base<=b)||Xdw new old)
def Xag(E:Env)(st:St)(n:Nat)(p v:AV):Option St:=
 match p with
 |.ptr b off=>
  match st.H[b]? with
  |some (.cells t c)=>
   Xar (decide (v.cells.length=n) && v.cells.all AV.one && decide (off+n<=c.length) && Xaf E b c v.cells)
    (some {st with H:=st.H.set b (.cells t (wrC c off v.cells))})
  |_=>none
 |_=>none
def Xap(z:List AV):List (Nat×Nat×List AV)->Option (List AV)
 |[]=>some z
 |(off,n,cs)::r=>Xar (decide (cs.length=n) && decide (off+n<=z.length) && cs.all AV.one) (Xap (wrC z off cs) r)
def i64(n:Int):AV:=.int .i64 n
def Xcl(op:BinOp)(k:IntKind)(a b:Int):Option AV:=
 match op with
 |.add=>some (.int k (k.wrap (a+b)))
 |.sub=>some (.int k (k.wrap (a - b)))
 |.mul=>some (.int k (k.wrap (a*b)))
 |.quo=>Xar (decide (b≠0)) (some (.int k (k.wrap (a.tdiv b))))
 |.rem=>Xar (decide (b≠0)) (some (.int k (a.tmod b)))
 |.and=>some (.int k (k.wrap ((BitVec.ofInt k.bits a &&& BitVec.ofInt k.bits b).toNat)))
 |.or=>some (.int k (k.wrap ((BitVec.ofInt k.bits a|||BitVec.ofInt k.bits b).toNat)))
 |.eql=>some (.bool (a==b))
 |.neq=>some (.bool (a !=b))
 |.lss=>some (.bool (decide (a<b)))
 |.leq=>some (.bool (decide (a<=b)))
 |.gtr=>some (.bool (decide (a>b)))
 |.geq=>some (.bool (decide (a≥b)))
 |_=>none
def strBin(op:BinOp)(a b:ByteArray):Option AV:=
 match op with
 |.add=>Xar (decide (a.size+b.size<=9223372036854775807)) (some (.str (a++b)))
 |.eql=>some (.bool (decide (a=b)))
 |.neq=>some (.bool (!decide (a=b)))
 |_=>none
def eqBin(op:BinOp)(b:Bool):Option AV:=
 match op with
 |.eql=>some (.bool b)
 |.neq=>some (.bool !b)
 |_=>none
def binA(K:BK)(op:BinOp)(x y:AV):Option AV:=
 match K,x,y with
 |.num,.int k a,.int k' b=>
  match op with
  |.shl=>Xar (decide (0<=b)) (some (.int k (k.wrap (a*2 ^ (min b.toNat k.bits)))))
  |.shr=>Xar (decide (0<=b)) (some (.int k (a.fdiv (2 ^ (min b.toNat k.bits)))))
  |_=>Xar (decide (k=k')) (Xcl op k a b)
 |.str,.str a,.str b=>strBin op a b
 |.boo,.bool a,.bool b=>eqBin op (a==b)
 |.fnc,.nilf,.nilf=>eqBin op true
 |.fnc,.fn _ _ _,.nilf=>eqBin op false
 |.fnc,.yld _,.nilf=>eqBin op false
 |.ifc,.iface _ _,.nili=>eqBin op false
 |.ifc,.nili,.nili=>eqBin op true
 |.sli,.nils,.nils=>eqBin op true
 |.sli,.sl (some _) _ _,.nils=>eqBin op false
 |_,_,_=>none
def unA(op:UnOp)(x:AV):Option AV:=
 match op,x with
 |.not,.bool b=>some (.bool !b)
 |.neg,.int k n=>some (.int k (k.wrap (0 - n)))
 |.xor,.int k n=>some (.int k (k.wrap ((BitVec.ofInt k.bits (if k.signed then -1 else k.max) ^^^ BitVec.ofInt k.bits n).toNat)))
 |_,_=>none
def lenA(str:Bool):AV->Option AV
 |.str s=>Xar str (some (i64 s.size))
 |.nils=>Xar (!str) (some (i64 0))
 |.sl _ n _=>Xar (!str) (some (i64 n))
 |.hs _ n=>Xar (!str) (some (i64 n))
 |_=>none
def Xel:List AV->Option (List UInt8)
 |[]=>some []
 |.int .u8 n::r=>Xa6 (Xel r) fun l=>some (UInt8.ofNat n.toNat::l)
 |_::_=>none
def asN:AV->Option Nat
 |.int _ n=>Xar (decide (0<=n)) (some n.toNat)
 |_=>none
def optN(ev:AO->AV)(d:Nat):Option AO->Option Nat
 |none=>some d
 |some x=>asN (ev x)
def slcA(sz:Option Nat)(x:AV)(lo hi:Nat):Option AV:=
 match sz,x with
 |none,.str s=>Xar (decide (lo<=hi) && decide (hi<=s.size)) (some (.str (s.extract lo hi)))
 |some _,.nils=>Xar (decide (lo=0) && decide (hi=0)) (some (.sl none 0 []))
 |some sz,.sl _ n cs=>Xar (decide (lo<=hi) && decide (hi<=n) && decide (cs.length=n*sz)) (some (.sl none (hi - lo) ((cs.drop (lo*sz)).take ((hi - lo)*sz))))
 |_,_=>none
def lenN:AV->Nat
 |.str s=>s.size
 |.sl _ n _=>n
 |_=>0
def srcA(sz:Nat):AV->Option (Nat×List AV)
 |.nils=>some (0,[])
 |.sl _ n cs=>Xar (decide (cs.length=n*sz) && cs.all AV.one) (some (n,AV.finL 0 cs))
 |_=>none
def appA(E:Env)(st:St)(sz bytes:Nat)(x y:AV):Option (AV×St):=
 Xa6 (srcA sz y) fun(m,ys)=>
  match x with
  |.nils=>
   if m=0 then some (.nils,st)
   else Xar (decide (m*bytes<=70368744177664) && decide (m<=70368744177664)) (some (.sl (some st.I.length) m ys,{st with I:=st.I++ [(m,sz)]}))
  |.sl (some i) n cs=>
   Xar (decide (E.rom<=i) && decide (st.I[i]?=some (n,sz)) && decide (cs.length=n*sz) && decide ((n+m)*bytes<=70368744177664) && decide (n+m<=70368744177664))
    (some (.sl (some i) (n+m) (cs++ys),{st with I:=st.I.set i (n+m,sz)}))
  |_=>none
def Xhf(sz:Nat)(x y i:AV):Bool:=
 match x,srcA sz y,i with
 |.sl (some _) n _,some (1,_),.int .i64 j=>decide (j=n)
 |_,_,_=>false
def Xgp(str:Bool):AV->AV->Option Bool
 |.int k a,.int k' b=>Xar (!str && decide (k=k')) (some (a==b))
 |.str a,.str b=>Xar str (some (decide (a=b)))
 |_,_=>none
def Xew(str:Bool)(k:AV):List (AV×AV)->Option (Option AV)
 |[]=>some none
 |(q,v)::r=>Xa6 (Xgp str k q) fun b=>if b then some (some v)else Xew str k r
def Xc7(str:Bool):AV->Bool
 |.int _ _=>!str
 |.str _=>str
 |_=>false
def updA(str:Bool)(k v:AV):List (AV×AV)->Option (List (AV×AV))
 |[]=>some [(k,v)]
 |(q,u)::r=>Xa6 (Xgp str k q) fun b=>if b then some ((k,v)::r)else Xa6 (updA str k v r) fun r'=>some ((q,u)::r')
def Xc0(es:List (AV×AV)):List AV:=es.flatMap fun e=> [e.1,e.2]
def okv(v:AV)(st:St):Option (Rt AV×St):=some (.ok v,st)
@[simp] theorem Xas(v:AV)(st:St):okv v st=some (.ok v,st):=rfl
def okOf(x:Option AV)(st:St):Option (Rt AV×St):=Xa6 x fun v=>okv v st
@[simp] theorem Xyh(v:AV)(st:St):okOf (some v) st=some (.ok v,st):=rfl
@[simp] theorem Xyi(st:St):okOf none st=none:=rfl
def aOp(E:Env)(st:St)(ev:AO->AV):AOp->Option (Rt AV×St)
  |.mv x=>okv (ev x) st
  |.pick c x y=>
    match ev c with
    |.bool b=>okv (if b then ev x else ev y) st
    |_=>none
  |.alloc ty z=>Xar (z.all AV.one) (okv (.ptr st.H.length 0) {st with H:=st.H++ [.cells ty z]})
  |.box ty x=>Xar ((ev x).cells.all AV.one) (okv (.ptr st.H.length 0) {st with H:=st.H++ [.cells ty (ev x).cells]})
  |.build z ps=>okOf (Xa6 (Xap z (ps.map fun p=>(p.1,p.2.1,(ev p.2.2).cells))) fun cs=>some (.agg cs)) st
  |.bsl own sz n z ps=>Xa6 (Xap z (ps.map fun p=>(p.1,p.2.1,(ev p.2.2).cells))) fun cs=>
      if own then okv (.sl (some st.I.length) n (AV.finL 0 cs)) {st with I:=st.I++ [(n,sz)]}else okv (.sl none n (AV.finL 0 cs)) st
  |.ld k x=>okOf (loadA st k (ev x)) st
  |.st n p x=>Xa6 (Xag E st n (ev p) (ev x)) fun st'=>okv AV.undef st'
  |.nck x=>
    match ev x with
    |.ptr b o=>okv (.ptr b o) st
    |.eptr c o=>okv (.eptr c o) st
    |_=>none
  |.fa off x=>
    match ev x with
    |.ptr b o=>okv (.ptr b (o+off)) st
    |.eptr c o=>okv (.eptr c (o+off)) st
    |_=>none
  |.ia sz x i=>
    match ev x,ev i with
    |.sl _ n cs,.int _ j=>Xar (decide (0<=j) && decide (j<n)) (okv (.eptr cs (j.toNat*sz)) st)
    |.hs b n,.int _ j=>Xar (decide (0<=j) && decide (j<n)) (okv (.ptr b (j.toNat*sz)) st)
    |_,_=>none
  |.iaa len sz x i=>
    match ev x,ev i with
    |.ptr b o,.int _ j=>Xar (decide (0<=j) && decide (j<len)) (okv (.ptr b (o+j.toNat*sz)) st)
    |.eptr c o,.int _ j=>Xar (decide (0<=j) && decide (j<len)) (okv (.eptr c (o+j.toNat*sz)) st)
    |_,_=>none
  |.ixs x i=>
    match ev x,ev i with
    |.str s,.int _ j=>Xar (decide (0<=j)) (okOf ((s.data[j.toNat]?).map fun b=>.int .u8 b.toNat) st)
    |_,_=>none
  |.fld off k x=>
    match ev x with
    |.agg cs=>okOf (rdC k cs off) st
    |_=>none
  |.ext n x=>
    match ev x with
    |.tup vs=>okOf vs[n]? st
    |_=>none
  |.bin K op x y=>okOf (binA K op (ev x) (ev y)) st
  |.un op x=>okOf (unA op (ev x)) st
  |.cvi k x=>
    match ev x with
    |.int _ n=>okv (.int k (k.wrap n)) st
    |_=>none
  |.cvs x=>
    match ev x with
    |.nils=>okv (.str ⟨#[]⟩) st
    |.sl _ n cs=>Xar (decide (cs.length=n)) (Xa6 (Xel cs) fun l=>okv (.str ⟨l.toArray⟩) st)
    |_=>none
  |.mks sz bytes z l c=>
    match ev l,ev c with
    |.int .i64 a,.int .i64 b=>Xar (decide (a=0) && decide (0<=b) && decide (b<=1073741824) && decide (bytes<=65536) && decide (z.length=sz))
        (okv (.sl (some st.I.length) 0 []) {st with I:=st.I++ [(0,sz)]})
    |_,_=>none
  |.mkh ty bytes z l c=>
    match ev l,ev c with
    |.int .i64 a,.int .i64 b=>Xar (decide (a=b) && decide (0<=b) && decide (b<=1048576) && decide (bytes<=65536) && z.all AV.one)
        (okv (.hs st.H.length b.toNat) {st with H:=st.H++ [.cells ty (List.replicate b.toNat z).flatten]})
    |_,_=>none
  |.frz x=>
    match ev x with
    |.hs b n=>
      match st.H[b]? with
      |some (.cells _ c)=>Xar (decide (E.rob<=b)) (okv (.sl none n (AV.finL 0 c)) {st with H:=st.H.set b .opq})
      |_=>none
    |_=>none
  |.slc sz x lo hi=>Xa6 (optN ev 0 lo) fun a=>Xa6 (optN ev (lenN (ev x)) hi) fun b=>okOf (slcA sz (ev x) a b) st
  |.len str x=>okOf (lenA str (ev x)) st
  |.app sz bytes x y=>Xa6 (appA E st sz bytes (ev x) (ev y)) fun(v,st')=>okv v st'
  |.appw sz bytes x y v i=>Xar (Xhf sz (ev x) (ev y) (ev i)) (Xa6 (appA E st sz bytes (ev x) (.sl none 1 (ev v).cells)) fun(v,st')=>okv v st')
  |.mini x y=>
    match ev x,ev y with
    |.int k a,.int _ b=>okv (.int k (if b<a then b else a)) st
    |_,_=>none
  |.mki t x=>okv (.iface t (ev x)) st
  |.mkf f x y=>okv (.fn f (x.map ev) (y.map ev)) st
  |.mkm=>okv (.map st.H.length) {st with H:=st.H++ [.map []]}
  |.lkp str z ok m k=>
    match ev m with
    |.map b=>
      match st.H[b]? with
      |some (.map es)=>Xar (Xc7 str (ev k)) (Xa6 (Xew str (ev k) es) fun r=>
          let v:=r.getD z
          okv (if ok then .tup [v,.bool r.isSome]else v) st)
      |_=>none
    |_=>none
  |.upd str m k v=>
    match ev m with
    |.map b=>
      match st.H[b]? with
      |some (.map es)=>Xar (Xc7 str (ev k) && (ev k).one && Xaf E b [] [ev k,ev v]) (Xa6 (updA str (ev k) (ev v) es) fun es'=>
          okv AV.undef {st with H:=st.H.set b (.map es')})
      |_=>none
    |_=>none
  |.ta t ok z x=>
    match ev x with
    |.iface u v=>if u=t then okv (if ok then .tup [v,.bool true]else v) st else Xar ok (okv (.tup [z,.bool false]) st)
    |.nili=>Xar ok (okv (.tup [z,.bool false]) st)
    |_=>none
  |.pan x=>
    match ev x with
    |.iface t v=>some (.pan (.iface t v),st)
    |_=>none
  |.call .. |.callv .. =>none
inductive Cal where
 |fn (f:Nat)
 |yld (b:Nat)
abbrev CSem:=Env->Cal->List AV->St->Option (Rt AV×St)
def Xa5(n m:Nat)(l:List Ref):Bool:=l.all fun
 |.blk b=>decide (b<n)
 |.arr i=>decide (i<m)
def doCall(C:CSem)(E:Env)(tr:Tr)(cal:Cal)(args:List AV)(st:St):Option (Rt AV×St):=
 match tr with
 |.no=>C E cal args st
 |.keep=>Xa6 (C {E with base:=st.H.length} cal args st) fun
  |(.ok v,st')=>Xar (Xa5 st.H.length st'.I.length v.refs) (okv v {st' with H:=st'.H.take st.H.length})
  |(.pan v,st')=>some (.pan v,st')
 |.full=>Xa6 (C {E with base:=st.H.length} cal (args.map AV.arg) st) fun
  |(.ok v,st')=>Xar (Xa5 st.H.length st.I.length (v.fin st.I.length).refs) (okv (v.fin st.I.length) {H:=st'.H.take st.H.length,I:=st'.I.take st.I.length})
  |(.pan v,st')=>some (.pan v,st')
 |.quiet=>Xa6 (C {base:=st.H.length,rob:=st.H.length,rom:=st.I.length} cal args st) fun
  |(.ok v,_)=>Xar (Xa5 st.H.length st.I.length (v.fin st.I.length).refs) (okv (v.fin st.I.length) st)
  |(.pan _,_)=>none
section
variable(GT:Nat->Option (List AV))
def evA(s:List AV):AO->AV
 |.t n=>lk s n
 |.c v=>v
 |.g n=>match GT n with
  |some c=>.eptr c 0
  |none=>AV.undef
variable(C:CSem)(E:Env)
def aExec(op:AOp)(s:List AV)(st:St):Option (Rt AV×St):=
 match op with
 |.call tr f args=>doCall C E tr (.fn f) (args.map (evA GT s)) st
 |.callv tr x args=>
  match evA GT s x with
  |.fn f a b=>doCall C E tr (.fn f) (a++args.map (evA GT s)++b) st
  |.yld b=>doCall C E tr (.yld b) (args.map (evA GT s)) st
  |_=>none
 |op=>aOp E st (evA GT s) op
def Xbz(o:AOper)(s:List AV):Bool:=
 match o.guard with
 |none=>true
 |some (t,b)=>match s[t]? with
  |some (.bool c)=>c==b
  |_=>false
def Xie(o:AOper)(s:List AV)(st:St):Option (Rt (List AV)×St):=
 if Xbz o s then
  Xa6 (aExec GT C E o.op s st) fun
   |(.ok v,st')=>some (.ok (put s o.dst v),st')
   |(.pan v,st')=>some (.pan v,st')
 else some (.ok (put s o.dst AV.undef),st)
def aOps:List AOper->List AV->St->Option (Rt (List AV)×St)
 |[],s,st=>some (.ok s,st)
 |o::r,s,st=>Xa6 (Xie GT C E o s st) fun
  |(.ok s',st')=>aOps r s' st'
  |(.pan v,st')=>some (.pan v,st')
def Xak:AOp->Bool
 |.bsl own .. =>own
 |.alloc .. |.box .. |.st .. |.mks .. |.mkh .. |.frz _|.app .. |.appw .. |.mkm|.upd .. |.pan _=>true
 |.call tr .. |.callv tr .. =>decide (tr≠ .quiet)
 |_=>false
def reads:AOp->Bool
 |.ld .. |.lkp .. |.call .. |.callv .. =>true
 |_=>false
def sameAt(o:AOper)(s:List AV)(st:St)(v:AV):Bool:=
 match aExec GT C E o.op s st with
 |some (.ok u,_)=>u.beq v
 |_=>false
def Xbb(o:AOper)(s:List AV)(v:AV)(m:Nat):List (Option Nat×St)->Bool
 |(some e,_)::(p,st)::r=>m.testBit e||(sameAt GT C E o s st v && Xbb o s v m ((p,st)::r))
 |_=>true
def Xex(p:Nat):List (AOper×Nat)->List (Option Nat×St)->List AV->St->Bool
  |[],_,_,_=>true
  |(o,m)::r,sts,s,st=>
    if m.testBit p then Xex p r sts s st
    else !Xak o.op && (if Xbz o s then
        match aExec GT C E o.op s st with
        |some (.ok v,_)=>(!reads o.op||Xbb GT C E o s v m sts) && Xex p r sts (put s o.dst v) st
        |_=>false
      else Xex p r sts (put s o.dst AV.undef) st)
structure Done where
 i:Nat
 o:AOper
 s:List AV
 v:AV
def aDraw:Nat->List (AOper×Nat)->List Done->List (Option Nat×St)->List AV->St->Option (Rt (List AV)×St)
 |_,[],_,_,s,st=>some (.ok s,st)
 |i,(o,m)::r,ds,sts,s,st=>
  if Xbz o s then
   Xa6 (aExec GT C E o.op s st) fun
    |(.ok v,st')=>
     if Xak o.op then
      Xar (ds.all fun d=>m.testBit d.i||sameAt GT C E d.o d.s st' d.v)
       (aDraw (i+1) r ds ((some i,st')::sts) (put s o.dst v) st')
     else if reads o.op then
      Xar (Xbb GT C E o s v m sts) (aDraw (i+1) r (⟨i,o,s,v⟩::ds) sts (put s o.dst v) st)
     else aDraw (i+1) r ds sts (put s o.dst v) st
    |(.pan v,st')=>Xar (Xak o.op && Xex GT C E i r sts s st) (some (.pan v,st'))
  else if Xak o.op then aDraw (i+1) r ds ((some i,st)::sts) (put s o.dst AV.undef) st
  else aDraw (i+1) r ds sts (put s o.dst AV.undef) st
end
inductive AExit where
 |nrm|ret
 |exit (id:Nat)
 |pan (v:AV)
abbrev Xe5:=Option (AExit×List AV×List Nat×St)
def iter(f:List AV->List Nat->St->Xe5):Nat->List AV->List Nat->St->Xe5
 |0,_,_,_=>none
 |k+1,s,m,st=>Xa6 (f s m st) fun
  |(.nrm,s',m',st')=>iter f k s' m' st'
  |r=>some r
def AJump.exit':Option AJump->AExit
 |none=>.nrm
 |some .ret=>.ret
 |some (.exit id)=>.exit id
section
variable(GT:Nat->Option (List AV))(C:CSem)(E:Env)(lf:Nat)
def Xfo(rd:Option Nat)(f:AV)(ps:List Nat)(asg body:ACode)(s:List AV)(m:List Nat)(st:St):Xe5:=
  Xa6 (match rd with
    |none=>some (st.H.length,st.H.length::m,{st with H:=st.H++ [.dfr]})
    |some l0=>match st.H[l0]? with
      |some (.loop _ _ _ _ _ _ _ d)=>some (d,m,st)
      |_=>none) fun(d,m',st1)=>
  let l:=st1.H.length;let st2:St:={st1 with H:=st1.H++ [.loop .ready none 0 s ps asg body d]}
  match f with
  |.fn g a b=>Xa6 (C E (.fn g) (a++ [.yld l]++b) st2) fun
    |(.ok _,st3)=>match st3.H[l]? with
      |some (.loop ls p g' t ps' as' bd d')=>Xar (decide (ls≠ .busy))
          (some (AJump.exit' p,s,m',{st3 with H:=st3.H.set l (.loop .exhausted p g' t ps' as' bd d')}))
      |_=>none
    |(.pan v,st3)=>some (.pan v,s,m',st3)
  |_=>none
def aRun(rd:Option Nat):ACode->List AV->List Nat->St->Xe5
 |.skip,s,m,st=>some (.nrm,s,m,st)
 |.reg ops,s,m,st=>Xa6 (aOps GT C E ops s st) fun
  |(.ok s',st')=>some (.nrm,s',m,st')
  |(.pan v,st')=>some (.pan v,s,m,st')
 |.dreg ops,s,m,st=>Xa6 (aDraw GT C E 0 ops [] [(none,st)] s st) fun
  |(.ok s',st')=>some (.nrm,s',m,st')
  |(.pan v,st')=>some (.pan v,s,m,st')
 |.seq a b,s,m,st=>Xa6 (aRun rd a s m st) fun
  |(.nrm,s',m',st')=>aRun rd b s' m' st'
  |r=>some r
 |.cond c x y,s,m,st=>
  match evA GT s c with
  |.bool b=>if b then aRun rd x s m st else aRun rd y s m st
  |_=>none
 |.block id b,s,m,st=>Xa6 (aRun rd b s m st) fun
  |(.exit j,s',m',st')=>if j=id then some (.nrm,s',m',st')else some (.exit j,s',m',st')
  |r=>some r
 |.scope b,s,m,st=>aRun rd b s m st
 |.loop b,s,m,st=>iter (aRun rd b) lf s m st
 |.rf f ps asg body,s,m,st=>Xfo C E rd (evA GT s f) ps asg body s m st
 |.exit id,s,m,st=>some (.exit id,s,m,st)
 |.ret,s,m,st=>some (.ret,s,m,st)
 |.bad,_,_,_=>none
def Xec(t:List AV):List Nat->List AV->List AV
 |p::ps,a::zq=>Xec (t.set p a) ps zq
 |_,_=>t
def Xch(l:Nat)(j:Option AJump)(st:St):Option (Rt AV×St):=
 match st.H[l]? with
 |some (.loop _ _ f t ps zq bd d)=>
  some (.ok (.bool j.isNone),{st with H:=st.H.set l (.loop (if j.isNone then .ready else .done) j f t ps zq bd d)})
 |_=>none
def Xd6(l:Nat)(args:List AV)(st:St):Option (Rt AV×St):=
 match st.H[l]? with
 |some (.loop _ _ _ t ps asg body _)=>Xar (decide (args.length=ps.length) && decide (E.rob<=l))
  (Xa6 (aRun GT C E lf (some l) asg (Xec t ps args) [] st) fun
   |(.nrm,s1,[],st1)=>
    match st1.H[l]? with
    |some (.loop .ready p f t ps zq bd d)=>
     Xa6 (aRun GT C E lf (some l) body s1 [] {st1 with H:=st1.H.set l (.loop .busy p f t ps zq bd d)}) fun
      |(.nrm,_,_,st2)=>Xch l none st2
      |(.ret,_,_,st2)=>Xch l (some .ret) st2
      |(.exit id,_,_,st2)=>Xch l (some (.exit id)) st2
      |(.pan _,_,_,_)=>none
    |_=>none
   |_=>none)
 |_=>none
end
def Xbf(st:St):List Nat->Option St
 |[]=>some st
 |d::ds=>match st.H[d]? with
  |some .dfr=>Xbf {st with H:=st.H.set d .opq} ds
  |_=>none
def resA(s:List AV)(st:St):ARes->Option AV
 |.tmp t=>some (lk s t)
 |.cell a k=>loadA st k (lk s a)
def resAll(s:List AV)(st:St):List ARes->Option (List AV)
 |[]=>some []
 |r::rs=>Xa6 (resA s st r) fun v=>Xa6 (resAll s st rs) fun vs=>some (v::vs)
def oneOr:List AV->AV
 |[v]=>v
 |vs=>.tup vs
def Xe3(fn:AFn)(st:St)(s:List AV):Option (Rt AV×St):=
 Xa6 (resAll s st fn.res) fun vs=>some (.ok (oneOr vs),st)
structure AProg where
 GT:Nat->Option (List AV)
 fn:Nat->Option AFn
 ovr:Nat->Option (CSem->Env->List AV->St->Option (Rt AV×St))
def aCall(A:AProg):Nat->CSem
 |0=>fun _ _ _ _=>none
 |k+1=>fun E cal args st=>
  match cal with
  |.yld l=>Xd6 A.GT (aCall A k) E k l args st
  |.fn f=>
   match A.ovr f with
   |some g=>g (aCall A k) E args st
   |none=>
    match A.fn f with
    |none=>none
    |some fn=>Xa6 (aRun A.GT (aCall A k) E k none fn.body (args++List.replicate (fn.ntmps - args.length) AV.undef) [] st) fun
     |(.nrm,s,m,st')=>Xa6 (Xbf st' m) fun st''=>Xe3 fn st'' s
     |(.ret,s,m,st')=>Xa6 (Xbf st' m) fun st''=>Xe3 fn st'' s
     |(.pan v,_,m,st')=>Xa6 (Xbf st' m) fun st''=>some (.pan v,st'')
     |(.exit _,_,_,_)=>none
abbrev oO(d:Nat)(x:AOp):AOper:=⟨some d,x,none⟩
abbrev oG(d:Nat)(x:AOp)(t:Nat)(b:Bool):AOper:=⟨some d,x,some (t,b)⟩
abbrev oS(x:AOp):AOper:=⟨none,x,none⟩
abbrev oV(d a:Nat):AOper:=⟨some d,.mv (.t a),none⟩
abbrev oF(d n a:Nat):AOper:=⟨some d,.fa n (.t a),none⟩
abbrev oL(d a:Nat):AOper:=⟨some d,.ld none (.t a),none⟩
abbrev oN(d a:Nat):AOper:=⟨some d,.nck (.t a),none⟩
theorem uB{α}{l:List α}{i:Nat}{a:α}(h:l[i]?=some a):i<l.length:=(List.getElem?_eq_some_iff.1 h).1
theorem uV{α}{l:List α}{i:Nat}{a:α}(h:l[i]?=some a):l[i]'(uB h)=a:=(List.getElem?_eq_some_iff.1 h).2
theorem uK{k:Nat}(h:0<k):∃k',k=k'+1:=⟨k - 1,by omega⟩
theorem mkA{α}(l:List α):Array.mk l=l.toArray:=rfl
section
variable(P:Program)
def szG(t:TypeId):Option Nat:=(P.info? t).map (·.size)
def Xwd(t:TypeId):Option Value:=(P.info? t).bind (·.zero)
def Xsq(t:TypeId)(i:Nat):Option Field:=match P.underlying t with
 |some (.struct fs)=>fs[i]?
 |_=>none
def gV:Nat->Value->AV
 |_,.int k n=>.int k n
 |_,.bool b=>.bool b
 |_,.string s=>.str s
 |_,.pointer none=>.nilp
 |_,.slice none 0 0=>.nils
 |_,.map none=>.nilm
 |_,.nilFunc=>.nilf
 |_,.nilIface=>.nili
 |d+1,.iface t v=>.iface t (gV d v)
 |d+1,.agg c=>.agg (c.toList.map (gV d))
 |d+1,.tuple c=>.tup (c.toList.map (gV d))
 |_,.func (.func f) a b=>.fn f [] []
 |_,_=>.nilp
def gO:Operand->AO
 |.tmp t=>.t t
 |.const v=>.c (gV 3 v)
 |.func f=>.c (.fn f [] [])
 |.global g=>.g g
def gS(t:TypeId):Nat:=(szG P t).getD 0
def gZ(t:TypeId):List AV:=match Xwd P t with
 |some v=>v.cells.toList.map (gV 3)
 |none=> []
def gZ1(t:TypeId):AV:=match Xwd P t with
 |some v=>gV 3 v
 |none=>.nilp
def gK(t:TypeId):Option Nat:=match P.underlying t with
 |some (.struct _)|some (.array _ _)=>some (gS P t)
 |_=>none
def gRef:Nat->TypeId->Bool
 |0,_=>false
 |d+1,t=>match P.underlying t with
  |some (.int _)|some .string|some .bool=>false
  |some (.slice e)=>gRef d e
  |some (.array _ e)=>gRef d e
  |some (.struct fs)=>fs.toList.any fun f=>gRef d f.type
  |some (.tuple ts)=>ts.toList.any fun t=>gRef d t
  |_=>true
def gKeep:List Nat:=[68,44,29,45,70,72,99]
def gNo:List Nat:=[61,62,63,97,94,144,51,52,53,55,56,146,168,78,79,80,81,82,83,84,85,86,117,118,119,120,121,122,123,124,125,126,127,128,129,130]
def gT(g:Nat)(ty:TypeId)(draws:Bool):Tr:=
 if gKeep.elem g then .keep else if gNo.elem g then .no else if gRef P 8 ty then .no else if draws && (g==54)then .quiet else .full
def gB(t:TypeId):BK:=match P.underlying t with
 |some (.int _)=>.num
 |some .string=>.str
 |some .bool=>.boo
 |some (.slice _)=>.sli
 |some (.func ..)=>.fnc
 |_=>.ifc
def gStr(t:TypeId):Bool:=match P.underlying t with|some .string=>true|_=>false
def gBy(e:TypeId):Nat:=((P.info? e).map (·.bytes)).getD 0
def gOff(t:TypeId)(i:Nat):Nat:=match Xsq P t i with
 |some fd=>fd.offset
 |none=>0
def gE(t:TypeId):TypeId:=match P.underlying t with
 |some (.slice e)=>e
 |_=>0
def gL(l:Array Operand):List AO:=l.toList.map gO
def gRep(n:Nat)(z:List AV):List AV:=match n with
 |0=> []
 |n+1=>z++gRep n z
def gOp(f:Nat)(draws:Bool)(o:Oper):AOp:=
 match o.op with
 |.move x|.assign x=>if(f==97 && o.dst==some 74)||(f==135 && o.dst==some 105)then .frz (gO x)else .mv (gO x)
 |.pick c a b=>.pick (gO c) (gO a) (gO b)
 |.alloc t=>.alloc t (gZ P t)
 |.box t x=>.box t (gO x)
 |.build t ps=>match P.underlying t with
  |some (.struct fs)=>.build (gZ P t) (ps.toList.map fun(i,x)=>((fs.toList[i]?.map (·.offset)).getD 0,(fs.toList[i]?.map fun f=>gS P f.type).getD 0,gO x))
  |some (.array _ e)=>.build (gZ P t) (ps.toList.map fun(i,x)=>(i*gS P e,gS P e,gO x))
  |_=>.mkm
 |.buildSlice t len ps=>.bsl (!(f==14||f==34||f==190)) (gS P (gE P t)) len (gRep len (gZ P (gE P t))) (ps.toList.map fun(i,x)=>(i*gS P (gE P t),gS P (gE P t),gO x))
 |.load t x=>.ld (gK P t) (gO x)
 |.store t p x=>.st (gS P t) (gO p) (gO x)
 |.nilCheck x=>.nck (gO x)
 |.fieldAddr t x i=>.fa (gOff P t i) (gO x)
 |.field t x i=>.fld (gOff P t i) (gK P ((Xsq P t i).map (·.type)|>.getD 0)) (gO x)
 |.indexAddr t x i=>match P.underlying t with
  |some (.slice e)=>.ia (gS P e) (gO x) (gO i)
  |some (.array n e)=>.iaa n (gS P e) (gO x) (gO i)
  |_=>.mkm
 |.index t x i=>.ixs (gO x) (gO i)
 |.extract x n=>.ext n (gO x)
 |.binOp op t x y _=>.bin (gB P t) op (gO x) (gO y)
 |.unOp op _ x=>.un op (gO x)
 |.convert s d x=>match P.underlying d with
  |some (.int k)=>.cvi k (gO x)
  |_=>.cvs (gO x)
 |.makeSlice t l c=>if f==135 then .mkh (gE P t) (gBy P (gE P t)) (gZ P (gE P t)) (gO l) (gO c)else .mks (gS P (gE P t)) (gBy P (gE P t)) (gZ P (gE P t)) (gO l) (gO c)
 |.slice t x lo hi _=>match P.underlying t with
  |some (.slice e)=>.slc (some (gS P e)) (gO x) (lo.map gO) (hi.map gO)
  |_=>.slc none (gO x) (lo.map gO) (hi.map gO)
 |.makeInterface t x=>.mki t (gO x)
 |.makeFunc (.func g) a b=>.mkf g (gL a) (gL b)
 |.makeMap _ _=>.mkm
 |.lookup t m k ok=>match P.underlying t with
  |some (.map key e)=>.lkp (gStr P key) (gZ1 P e) ok (gO m) (gO k)
  |_=>.mkm
 |.mapUpdate t m k v|.insert t m k v=>match P.underlying t with
  |some (.map key _)=>.upd (gStr P key) (gO m) (gO k) (gO v)
  |_=>.mkm
 |.typeAssert x _ t ok=>.ta t ok (gZ1 P t) (gO x)
 |.panic x=>.pan (gO x)
 |.call c=>match c.callee with
  |.builtin .len=>.len (gStr P (c.argTypes.toList.headD 0)) (gO (c.args.toList.headD (.tmp 0)))
  |.builtin .append=>.app (gS P (gE P (c.argTypes.toList.headD 0))) (gBy P (gE P (c.argTypes.toList.headD 0))) (gO (c.args.toList.headD (.tmp 0))) (gO (c.args.toList.getD 1 (.tmp 0)))
  |.builtin .min=>.mini (gO (c.args.toList.headD (.tmp 0))) (gO (c.args.toList.getD 1 (.tmp 0)))
  |.value (.func g)=>.call (gT P g o.type draws) g (gL c.args)
  |.value x=>.callv (if draws then .quiet else .no) (gO x) (gL c.args)
  |_=>.mkm
 |_=>.mkm
def Xuf(f:Nat)(draws:Bool)(ops:List Oper)(o:Oper):AOper:=
 ⟨o.dst,gOp P f draws o,match o.guard with
  |none=>none
  |some (j,b)=>some (((ops[j]?).bind (·.dst)).getD 0,b)⟩
def Xug(ms:List Nat):List Oper->List Nat
 |[]=>ms
 |o::r=>Xug (ms++ [o.after.toList.foldl (fun s e=>if Region.binds .any e then s|||2 ^ e.on|||ms.getD e.on 0 else s) 0]) r
def gX(ops:List Oper)(i:Nat)(o:AOper):AOper:=
 let d:=fun(k:Nat)=>((ops[k]?).bind (·.dst)).getD 0
 if i==10 then⟨none,.nck (.t (d 9)),none⟩else match o.op with
 |.bsl _ a b c e=>⟨o.dst,.bsl false a b c e,o.guard⟩
 |.app a b x y=>⟨o.dst,.appw a b x y (.t (d 5)) (.t (d 6)),o.guard⟩
 |_=>o
def gXs(ops:List Oper):Nat->List (AOper×Nat)->List (AOper×Nat)
 |_,[]=> []
 |i,(o,m)::r=>(gX ops i o,m)::gXs ops (i+1) r
def Xib(f:Nat):Code->ACode
 |.skip|.label _=>.skip
 |.region _ ops false=>.reg (ops.toList.map (Xuf P f false ops.toList))
 |.region id ops true=>if f==146 && [15,18,23,37,46].elem id then .dreg (gXs ops.toList 0 ((ops.toList.zip (Xug [] ops.toList)).map fun(o,m)=>(Xuf P f true ops.toList o,m)))else .dreg ((ops.toList.zip (Xug [] ops.toList)).map fun(o,m)=>(Xuf P f true ops.toList o,m))
 |.seq a b=>.seq (Xib f a) (Xib f b)
 |.cond c x y=>.cond (gO c) (Xib f x) (Xib f y)
 |.block i b=>.block i (Xib f b)
 |.scope b=>.scope (Xib f b)
 |.loop b=>.loop (Xib f b)
 |.rangeFunc g ps a b=>.rf (gO g) ps.toList (Xib f a) (Xib f b)
 |.exit i=>.exit i
 |.ret=>.ret
 |_=>.bad
def gRes:ResultVar->ARes
 |.tmp t=>.tmp t
 |.cell a t=>.cell a (gK P t)
def gFn(f:Nat)(fn:Func):AFn:=⟨fn.ntmps,fn.results.toList.map (gRes P),match fn.body with|none=>.bad|some c=>Xib P f c⟩
end
abbrev GX(P:Program)(n:Nat)(f:Func):={a:AFn // gFn P n f=a}
end Go.Proofs.YP
