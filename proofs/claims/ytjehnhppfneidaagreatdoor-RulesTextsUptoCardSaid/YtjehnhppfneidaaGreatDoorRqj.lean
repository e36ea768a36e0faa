/- Texts that the laws of the seat rest on: an abstract machine, what the functions answer in it, plain laws. -/
import Derived.Test.YtjehnhppfneidaaGreatDoorRqi
set_option linter.unusedVariables false
set_option linter.unusedSimpArgs false
set_option linter.unusedSectionVars false
set_option maxHeartbeats 8000000
set_option maxRecDepth 20000
namespace Go.Proofs.YP
open Go
def l55:ACode:=(.seq (.seq (.reg [oV 50 12,oF 51 3 6,oL 52 51,oO 53 (.len false (.t 52)),oO 54 (.bin .num .lss (.t 50) (.t 53))])
 (.cond (.t 54) (.skip) (.exit 0)))
 (.seq (.block 1 (.seq (.reg [oV 57 3,oV 13 57])
 (.seq (.seq (.reg [oF 58 0 6,oL 59 58,oO 60 (.bin .num .eql (.t 59) (.c (.int .i64 38))),oV 61 60,oG 62 (.mv (.t 12)) 61 true,oG 63 (.bin .num .eql (.t 62) (.c (.int .i64 0))) 61 true,oO 64 (.pick (.t 61) (.t 63) (.c (.bool false)))])
 (.cond (.t 64) (.reg [oV 65 0,oF 66 2 6,oL 67 66,oO 68 (.call .no 86 [(.t 65),(.t 67)]),oV 13 68]) (.skip)))
 (.dreg [(oV 69 0,0),(oF 70 3 6,0),(oL 71 70,2),(oV 72 12,0),(oO 73 (.ia 5 (.t 71) (.t 72)),14),(oO 74 (.ld (some 5) (.t 73)),30),(oV 75 2,0),(oV 76 13,0),(oF 77 0 6,0),(oL 78 77,256),(oO 79 (.bin .num .eql (.t 78) (.c (.int .i64 17))),768),(oV 80 79,1792),(oG 81 (.mv (.t 12)) 80 true,3840),(oG 82 (.bin .num .eql (.t 81) (.c (.int .i64 0))) 80 true,7936),(oO 83 (.pick (.t 80) (.t 82) (.c (.bool false))),16128),(oO 84 (.call .no 55 [(.t 69),(.t 74),(.t 75),(.t 76),(.t 83)]),32767)]))))
 (.reg [oV 55 12,oO 56 (.bin .num .add (.t 55) (.c (.int .i64 1))),oV 12 56])))
def d55:ACode:=(.seq (.seq (.reg [oV 41 4,oO 42 (.un .not (.t 41))])
 (.cond (.t 42) (.reg [oV 43 0,oO 44 (.ld (some 5) (.t 6)),oV 45 10,oV 46 11,oV 47 2,oV 48 3,oO 49 (.call .no 85 [(.t 43),(.t 44),(.t 45),(.t 46),(.t 47),(.t 48)])]) (.skip)))
 (.seq (.reg [oO 12 (.mv (.c (.int .i64 0)))])
 (.block 0 (.loop l55))))
def y55a:ACode:=.seq (.reg [oO 6 (.box 24 (.t 1))])
 (.seq (.reg [oV 14 0,oN 15 14,oF 16 2 15,oL 17 16,oV 10 17])
 (.seq (.reg [oV 18 0,oN 19 18,oF 20 2 19,oL 21 20,oO 22 (.bin .num .add (.t 21) (.c (.int .i64 1))),oN 23 18,oF 24 2 23,oS (.st 1 (.t 24) (.t 22))])
 (.seq (.seq (.reg [oF 25 0 6,oL 26 25,oO 27 (.bin .num .eql (.t 26) (.c (.int .i64 41))),oV 28 27,oG 29 (.fa 0 (.t 6)) 28 false,oG 30 (.ld none (.t 29)) 28 false,oG 31 (.bin .num .eql (.t 30) (.c (.int .i64 10))) 28 false,oO 32 (.pick (.t 28) (.c (.bool true)) (.t 31))])
 (.cond (.t 32) (.seq (.reg [oV 33 0,oO 34 (.ld (some 5) (.t 6)),oV 35 10,oV 36 2,oO 37 (.call .no 83 [(.t 33),(.t 34),(.t 35),(.t 36)])])
 (.ret)) (.skip)))
 (.seq (.reg [oO 38 (.ld (some 5) (.t 6)),oV 39 10,oO 40 (.call .no 84 [(.t 38),(.t 39)]),oV 11 40])
 d55))))
def Xmo(n:Nat):Prop:=∀(t:T),t.wt<=n->t.wt<=10000000000->∀{E mb fs bs o o' nx rs rv st},DkS E mb fs bs o o' nx rs rv st->(∀G∈fs,G.vars.length<=500)->∀(to:Int) (f:Nat) (rd:Bool),0<=nx->nx+(t.count:Nat)<=1000000000->rs.length+3*t.count<=5000000000->RD fs bs f t->
 ∀k,20*t.wt+1100<=k->CallQ k E 55 [.ptr mb 0,.agg t.enc,.int .i64 f,.int .i64 to,.bool (!rd)] st fun r st'=>r=.ok (.tup [])/\DkTo E mb (.sl o' fs.length (encFs fs)) (.sl o bs.length (bs.map (.int .i64))) rv st st' (nx+(t.count:Nat)) (rs++rT fs bs t nx f to rd)
theorem Xtm{fs bs}{t:T}(h:isFn t.op=true)(k0:Int)(f:Nat)(to:Int)(rd:Bool):rT fs bs t k0 f to rd=hdR fs bs t.op t.s t.n k0 f++rB fs bs t.n.toNat (k0+1) t.l:=by obtain⟨op,s,n,l,x⟩:=t;simp only[T.op_mk]at h;simp only[rT,h,if_true,T.op_mk,T.s_mk,T.n_mk,T.l_mk]
def Xs0(n:Nat):Prop:=∀(t:T),t.wt<=n->t.wt<=10000000000->isFn t.op=true->∀{E mb fs bs o o' k0 rs rv st},DkS E mb fs bs o o' (k0+1) rs rv st->(∀G∈fs,G.vars.length<=500)->∀(f:Nat),0<=k0->k0+(t.count:Nat)<=1000000000->rs.length+3*t.count<=5000000000->RD fs bs f t->
 ∀k,20*t.wt+1099<=k->CallQ k E 83 [.ptr mb 0,.agg t.enc,.int .i64 k0,.int .i64 f] st fun r st'=>r=.ok (.tup [])/\DkTo E mb (.sl o' fs.length (encFs fs)) (.sl o bs.length (bs.map (.int .i64))) rv st st' (k0+(t.count:Nat)) (rs++rT fs bs t k0 f 0 true)
theorem f83(n:Nat)(ih:Xmo n):Xs0 (n+1):=by
  intro t ht hwb hfn E mb fs bs o o' k0 rs rv st h hvs f hk0 hk1 hrl hRD k hk;obtain⟨k,rfl⟩:=uK (k:=k) (by omega);rw[Xtm hfn];obtain⟨op,s0,nn,l,line⟩:=t;simp only[T.op_mk,T.s_mk,T.n_mk,T.l_mk]at*;have hRD':BehA fs bs f (behV fs bs f)/\(∃g:Nat,nn=g/\BehA fs bs g (behV fs bs g))/\FnD fs op s0 nn f/\RDB fs bs nn.toNat l:=by simpa only[RD,hfn,if_true]using hRD
  obtain⟨hbf,⟨g,hg,hbg⟩,hfd,hb⟩:=hRD';obtain⟨tb,q1,q2,q3,q4,q5,q6⟩:=Xmp (k0+1) hb;rw[q6];have hgn:nn.toNat=g:=by omega
  rw[hgn]at q3⊢;have hcn:(T.mk op s0 nn l line).count=1+T.countL l:=rfl;rw[hcn]at hk1 hrl⊢;have hlw:=T.len_wtL l;simp only[T.wt]at ht hwb hk;have hwt:=T.wtL_get q1;have hhl:=Xo2 fs bs op s0 nn k0 f;have h1:=h.more [.cells 24 [.int .i64 op,.str s0,.int .i64 nn,.sl none l.length (T.encL l),.int .i64 line]];have hml:=(List.getElem?_eq_some_iff.1 h.now.1).1;have hmw1:∀x y,Xaf E mb x y=true:=fun x y=>by simp[Xaf,h.base,h.rob]
  have ho:op=41\/op=10:=by simpa [isFn]using hfn
  have key:∀(s:List AV) (st2:St),s.length=81->lk s 0=.ptr mb 0->lk s 5=.ptr st.H.length 0->lk s 8=.int .i64 nn->
      DkTo E mb (.sl o' fs.length (encFs fs)) (.sl o bs.length (bs.map (.int .i64))) rv ⟨st.H++ [.cells 24 [.int .i64 op,.str s0,.int .i64 nn,.sl none l.length (T.encL l),.int .i64 line]],st.I⟩ st2 (k0+1) (rs++hdR fs bs op s0 nn k0 f)->
      WP (aCall prog k) E k none d83 s [] st2 (endQ [] fun r st'=>r=.ok (.tup [])/\DkTo E mb (.sl o' fs.length (encFs fs)) (.sl o bs.length (bs.map (.int .i64))) rv st st' (k0+((1+T.countL l:Nat):Int)) (rs++(hdR fs bs op s0 nn k0 f++rT fs bs tb (k0+1+((l.length - 1:Nat):Int)) g (behV fs bs g+2) true))):=by
    intro s st2 hs e0 e5 e8 hto;obtain⟨rv2,h2⟩:=h1.next hto (by simp;omega);have p5:st2.H[st.H.length]?=some (.cells 24 [.int .i64 op,.str s0,.int .i64 nn,.sl none l.length (T.encL l),.int .i64 line]):=by rw[hto.old _ (by simp) (by omega)];simp
    have hm2:=h2.now.1;have hml2:=uB hm2;have hb2:=DkTo.bump h2.now [] (k0+1+((l.length - 1:Nat):Int));rw[List.append_nil]at hb2;obtain⟨rv3,h3⟩:=h2.next hb2 (by simp;omega);have hw1:=Xah (n:=k0+1+(l.length:Int)) (by omega);have hw2:=Xah (n:=k0+1+(l.length:Int) - 1) (by omega);have hw3:=Xah (n:=(l.length:Int) - 1) (by omega);have he1:k0+1+(l.length:Int) - 1=k0+1+((l.length - 1:Nat):Int):=by omega
    have he2:(l.length:Int) - 1=((l.length - 1:Nat):Int):=by omega
    rw[he1]at hw2;rw[he2]at hw3;have hrd:=T.rd q1;have p5':((st2.H.set mb (.cells 90 [.sl o' fs.length (encFs fs),.sl o bs.length (bs.map (.int .i64)),.int .i64 (k0+1+((l.length - 1:Nat):Int)),rv2])))[st.H.length]?=some (.cells 24 [.int .i64 op,.str s0,.int .i64 nn,.sl none l.length (T.encL l),.int .i64 line]):=by rw[List.getElem?_set_ne (by omega)];exact p5
    have c54:=(d54 (E:=E) h3.now.1 hbg 2 (by omega) k (by omega)).2;have c55:=ih tb (by omega) (by omega) h3 hvs (behV fs bs g+2) g true (by omega) (by omega) (by simp;omega) q3 k (by omega);have hlt:l.length - 1<l.length:=by omega
    subst hg;rw[T.enc_eq]at hrd c55;unfold d83;simp[-Xan, -Xav,Xaj,Xao,Nat.testBit,hs,e0,e5,e8,p5,hm2,Xag,hmw1,hw1,he1,hw2,Xap,wrC,Xak];simp only[Bool.not_true]at c55;simp[-Xan, -Xav,Xaj,Xao,Nat.testBit,hs,e0,e5,e8,p5',he2,hw3,hlt,hrd,c54,Xak];refine Xac c55 fun p hp=>?_;obtain⟨r,st3⟩:=p;obtain⟨r1,r2⟩:=hp;simp only at r1;subst r1;simp[-Xan, -Xav,Xaj,Xao,Nat.testBit,hs,endQ,Xak];have hfin:=(hto.andThen h2.now (hb2.andThen h3.now r2)).pre (st:=st) (fun j hj=>List.getElem?_append_left hj) (by simp) List.prefix_rfl;have hnx:k0+1+((l.length - 1:Nat):Int)+(tb.count:Nat)=k0+((1+T.countL l:Nat):Int):=by omega
    rw[hnx,List.append_assoc]at hfin;exact hfin
  refine Xa4 (c0:=y83a) rfl rfl (by decide) fun s hs e0 e1 e2 e3=>?_;unfold y83a;rcases ho with rfl|rfl
  ·simp[hs,e0,e1];refine Jdz h1 s0 nn line l k0 f hbf hfd hvs (by omega) st.H.length (by simp) _ (by simp[hs]) (by simp[hs,e0]) (by simp[hs,e2]) (by simp[hs,e3]) (by simp[hs]) (by simp[hs]) k (by omega) _ ?_;intro s' st' a1 a2 a3;exact key s' st' a1 ((a2 0 (by omega)).trans (by simp[hs,e0])) ((a2 5 (by omega)).trans (by simp[hs])) ((a2 8 (by omega)).trans (by simp[hs])) a3
  ·simp[hs,e0,e1];refine Jdy h1 s0 nn line l k0 f g hg hbg hfd hvs (by omega) st.H.length (by simp) _ (by simp[hs]) (by simp[hs,e0]) (by simp[hs,e2]) (by simp[hs,e3]) (by simp[hs]) (by simp[hs]) k (by omega) _ ?_;intro s' st' a1 a2 a3;exact key s' st' a1 ((a2 0 (by omega)).trans (by simp[hs,e0])) ((a2 5 (by omega)).trans (by simp[hs])) ((a2 8 (by omega)).trans (by simp[hs])) a3
theorem Jc2{E mb fs bs o o' nx rs rv st}(h:DkS E mb fs bs o o' nx rs rv st)(op:Int)(s0:ByteArray)(nn line:Int)(l:List T)(to:Int)(f B6 j:Nat)(t:T)(ht:l[j]?=some t)(hjb:j<=10000000000)(h38:op=38->VarA bs nn (vset bs nn))
  (p6:st.H[B6]?=some (.cells 24 [.int .i64 op,.str s0,.int .i64 nn,.sl none l.length (T.encL l),.int .i64 line])) (s:List AV) (hs:s.length=85) (e0:lk s 0=.ptr mb 0) (e2:lk s 2=.int .i64 f) (e3:lk s 3=.int .i64 to) (e6:lk s 6=.ptr B6 0) (e12:lk s 12=.int .i64 (j:Nat)) (m:List Nat) (k:Nat) (hk:2<=k) (Q:Q4) (P:St->Prop)
  (c:CallQ k E 55 [.ptr mb 0,.agg t.enc,.int .i64 f,.int .i64 (if op=38/\j=0 then vset bs nn else to),.bool (!(decide (op≠17)||decide (0<j)))] st fun r st'=>r=.ok (.tup [])/\P st')
  (hQ:∀s' st',s'.length=85->(∀i,i=0\/i=2\/i=3\/i=6->lk s' i=lk s i)->lk s' 12=.int .i64 ((j+1:Nat):Int)->P st'->Q .nrm s' m st'):
  WP (aCall prog k) E k none l55 s m st Q:=by
 have hjl:=uB ht;have hrd:=T.rd ht;have hwj:=Xah (n:=(j:Int)+1) (by omega);have hm:=h.now.1;have hw1:IntKind.i64.wrap 1=1:=rfl;rw[T.enc_eq]at hrd c;unfold l55;simp[hs,e12,e6,p6,hjl];by_cases o38:op=38
 ·subst o38;by_cases hj0:j=0
  ·subst hj0;have c86:=f86 (E:=E) hm (h38 rfl) k (by omega);simp at c;simp[-Xan, -Xav,Xaj,Xao,Nat.testBit,hs,e0,e2,e3,e6,e12,p6,hjl,hrd,c86,Xak];refine Xac c fun p hp=>?_;obtain⟨r,st2⟩:=p;obtain⟨r1,r2⟩:=hp;simp only at r1;subst r1;simp[-Xan, -Xav,Xaj,Xao,Nat.testBit,hs,e12,hwj,Xak];refine hQ _ _ (by simp[hs]) (fun i hi=>?_) (by simp[hs,hw1]) r2;rcases hi with rfl|rfl|rfl|rfl<;>simp[hs]
  ·have hj1:¬(j:Int)=0:=by omega
   have hj2:0<j:=by omega
   simp[hj0,hj2]at c;simp[-Xan, -Xav,Xaj,Xao,Nat.testBit,hs,e0,e2,e3,e6,e12,p6,hjl,hrd,hj0,hj1,Xak];refine Xac c fun p hp=>?_;obtain⟨r,st2⟩:=p;obtain⟨r1,r2⟩:=hp;simp only at r1;subst r1;simp[-Xan, -Xav,Xaj,Xao,Nat.testBit,hs,e12,hwj,Xak];refine hQ _ _ (by simp[hs]) (fun i hi=>?_) (by simp[hs,hw1]) r2;rcases hi with rfl|rfl|rfl|rfl<;>simp[hs]
 by_cases o17:op=17
 ·subst o17;by_cases hj0:j=0
  ·subst hj0;simp at c;simp[-Xan, -Xav,Xaj,Xao,Nat.testBit,hs,e0,e2,e3,e6,e12,p6,hjl,hrd,Xak,Xak];refine Xac c fun p hp=>?_;obtain⟨r,st2⟩:=p;obtain⟨r1,r2⟩:=hp;simp only at r1;subst r1;simp[-Xan, -Xav,Xaj,Xao,Nat.testBit,hs,e12,hwj,Xak];refine hQ _ _ (by simp[hs]) (fun i hi=>?_) (by simp[hs,hw1]) r2;rcases hi with rfl|rfl|rfl|rfl<;>simp[hs]
  ·have hj1:¬(j:Int)=0:=by omega
   have hj2:0<j:=by omega
   simp[hj0,hj2]at c;simp[-Xan, -Xav,Xaj,Xao,Nat.testBit,hs,e0,e2,e3,e6,e12,p6,hjl,hrd,hj0,hj1,Xak];refine Xac c fun p hp=>?_;obtain⟨r,st2⟩:=p;obtain⟨r1,r2⟩:=hp;simp only at r1;subst r1;simp[-Xan, -Xav,Xaj,Xao,Nat.testBit,hs,e12,hwj,Xak];refine hQ _ _ (by simp[hs]) (fun i hi=>?_) (by simp[hs,hw1]) r2;rcases hi with rfl|rfl|rfl|rfl<;>simp[hs]
 simp[o38,o17]at c;simp[-Xan, -Xav,Xaj,Xao,Nat.testBit,hs,e0,e2,e3,e6,e12,p6,hjl,hrd,o38,o17,Xak];refine Xac c fun p hp=>?_;obtain⟨r,st2⟩:=p;obtain⟨r1,r2⟩:=hp;simp only at r1;subst r1;simp[-Xan, -Xav,Xaj,Xao,Nat.testBit,hs,e12,hwj,Xak];refine hQ _ _ (by simp[hs]) (fun i hi=>?_) (by simp[hs,hw1]) r2;rcases hi with rfl|rfl|rfl|rfl<;>simp[hs]
theorem f55(n:Nat)(ih:Xmo n)(h83:Xs0 (n+1)):Xmo (n+1):=by
  intro t ht hwb E mb fs bs o o' nx rs rv st h hvs to f rd hk0 hk1 hrl hRD k hk;obtain⟨k,rfl⟩:=uK (k:=k) (by omega);have hml:=(List.getElem?_eq_some_iff.1 h.now.1).1;have hm:=h.now.1;have hmw1:∀x y,Xaf E mb x y=true:=fun x y=>by simp[Xaf,h.base,h.rob]
  have hw1:=Xah (n:=nx+1) (by omega);have hb1:=DkTo.bump h.now [.cells 24 t.enc] (nx+1);obtain⟨rv1,h1⟩:=h.next hb1 (by have:=h.len;omega);have hcw:=Xb3 t;have p6:((st.H++ [ABlk.cells 24 t.enc]).set mb (ABlk.cells 90 [.sl o' fs.length (encFs fs),.sl o bs.length (bs.map (.int .i64)),.int .i64 (nx+1),rv]))[st.H.length]?=some (.cells 24 t.enc):=by rw[List.getElem?_set_ne (by omega)];simp
  have p6b:=uV p6;by_cases hfn:isFn t.op
  ·have c83:=h83 t ht hwb hfn h1 hvs f hk0 hk1 hrl hRD k (by omega);have hrT:rT fs bs t nx f 0 true=rT fs bs t nx f to rd:=by rw[Xtm hfn,Xtm hfn]
   rw[hrT]at c83;obtain⟨op,s0,nn,l,line⟩:=t;simp only[T.op_mk,T.enc]at*;have ho:op=41\/op=10:=by simpa [isFn]using hfn
   refine Xmh (c0:=y55a) rfl rfl (by decide) fun s hs e0 e1 e2 e3 e4=>?_;unfold y55a;rcases ho with rfl|rfl
   ·simp[hs,e0,e1,e2,Xae hm,Xag,hmw1,hw1,wrC,p6,p6b,Xak];refine Xac c83 fun p hp=>?_;obtain⟨r,st2⟩:=p;obtain⟨r1,r2⟩:=hp;simp only at r1;subst r1;simp[hs];exact hb1.andThen h1.now r2
   ·simp[hs,e0,e1,e2,Xae hm,Xag,hmw1,hw1,wrC,p6,p6b,Xak];refine Xac c83 fun p hp=>?_;obtain⟨r,st2⟩:=p;obtain⟨r1,r2⟩:=hp;simp only at r1;subst r1;simp[hs];exact hb1.andThen h1.now r2
  have c84:=f84 t hwb nx hk0 (by omega) E ⟨(st.H++ [ABlk.cells 24 t.enc]).set mb (ABlk.cells 90 [.sl o' fs.length (encFs fs),.sl o bs.length (bs.map (.int .i64)),.int .i64 (nx+1),rv]),st.I⟩ k h1.wf (by omega);have hct:t.count=1+T.countL t.l:=by cases t;rfl
  have g85':=fun{rv2 st2} (h2:DkS E mb fs bs o o' (nx+1) rs rv2 st2) hloc h37 pv hpv=>g85 h2 t nx to f hk0 (by omega) hloc h37 pv hpv (by have:=T.len_le t.l;omega) k (by obtain⟨op,s0,nn,l,line⟩:=t;have:=T.len_wtL l;simp only[T.wt]at hk;simp only[T.l_mk];omega);obtain⟨op,s0,nn,l,line⟩:=t;have hfo:op≠41/\op≠10:=by have h':¬(decide (op=41)||decide (op=10))=true:=hfn;simpa using h'
  obtain⟨ho1,ho2⟩:=hfo;obtain⟨hloc,h37,hRDL⟩:LocOK fs bs (.mk op s0 nn l line) f/\(op=37->0<l.length)/\RDL fs bs f l:=by simp only[RD,isFn,ho1,ho2,decide_false,Bool.or_self,Bool.false_eq_true,if_false]at hRD;exact hRD
  have hrT:rT fs bs (T.mk op s0 nn l line) nx f to rd=(if rd=true then ownR fs bs (T.mk op s0 nn l line) nx f to else [])++rL fs bs op nn f to 0 (nx+1) l:=by simp only[rT,isFn,ho1,ho2,decide_false,Bool.or_self,Bool.false_eq_true,if_false]
  have hcn:(T.mk op s0 nn l line).count=1+T.countL l:=rfl;rw[hcn]at hk1 hrl⊢;rw[hrT];simp only[T.op_mk,T.enc,T.l_mk]at*;have hlw:=T.len_wtL l;have hll:=T.len_le l;refine Xmh (c0:=y55a) rfl rfl (by decide) fun s hs e0 e1 e2 e3 e4=>?_;unfold y55a;simp[hs,e0,e1,e2,Xae hm,Xag,hmw1,hw1,wrC,p6,p6b,Xak,ho1,ho2];refine Xac c84 fun p hp=>?_;obtain⟨r,st2⟩:=p;obtain⟨v,r1,r2,r3,r4,r5⟩:=hp;simp only at r1 r2 r3 r4 r5;subst r1
  have hto2:DkTo E mb (.sl o' fs.length (encFs fs)) (.sl o bs.length (bs.map (.int .i64))) rv1 ⟨(st.H++ [ABlk.cells 24 [.int .i64 op,.str s0,.int .i64 nn,.sl none l.length (T.encL l),.int .i64 line]]).set mb (ABlk.cells 90 [.sl o' fs.length (encFs fs),.sl o bs.length (bs.map (.int .i64)),.int .i64 (nx+1),rv]),st.I⟩ st2 (nx+1) rs:=by
    refine⟨⟨rv1,⟨Xcf r4 h1.now.1,?_⟩,.inl rfl⟩,fun j hj _=>?_,r4.length_le,r5.len,fun j x _ e=>r5.get j x (uB e) e⟩
    ·rcases h1.now.2 with h2|⟨j,e,hj,hi⟩
     ·exact .inl h2
     ·exact .inr ⟨j,e,hj,r5.get _ _ (uB hi) hi⟩
    ·obtain⟨y,hy⟩:=r4;rw[<-hy,List.getElem?_append_left hj]
  obtain⟨rv2,h2⟩:=h1.next hto2 (by have:=h.len;omega);have hl2:=h2.now.1;have p62:st2.H[st.H.length]?=some (.cells 24 [.int .i64 op,.str s0,.int .i64 nn,.sl none l.length (T.encL l),.int .i64 line]):=Xcf r4 p6;have hll2:=uB p62;have c85:=g85' h2 hloc h37 v r2.val;have hol:(ownR fs bs (T.mk op s0 nn l line) nx f to).length<=2+l.length:=by have:=Xi3 fs bs (.mk op s0 nn l line) nx f to (posF (nx+1) l);simpa [ownR]using this
  generalize ownR fs bs (T.mk op s0 nn l line) nx f to=own at c85 hol⊢;simp[hs];unfold d55;refine Xco (fun s m st'=>m=[]/\s.length=85/\lk s 0=.ptr mb 0/\lk s 2=.int .i64 f/\lk s 3=.int .i64 to/\lk s 6=.ptr st.H.length 0/\DkTo E mb (.sl o' fs.length (encFs fs)) (.sl o bs.length (bs.map (.int .i64))) rv2 st2 st' (nx+1) (rs++if rd=true then own else [])) ?_ ?_
  ·cases rd
   ·simp[hs,e4];exact⟨rfl,rfl,by simp[hs],by simp[hs,e0],by simp[hs,e2],by simp[hs,e3],by simp[hs],by simpa using DkTo.refl h2.now⟩
   ·simp[hs,e0,e2,e3,e4,p62,Xak];refine Xac c85 fun p hp=>?_;obtain⟨r,st3⟩:=p;obtain⟨r1,r2⟩:=hp;simp only at r1;subst r1;simp[hs];exact⟨rfl,rfl,by simp[hs],by simp[hs,e0],by simp[hs,e2],by simp[hs,e3],by simp[hs],by simpa using r2⟩
  clear hs e0 e1 e2 e3 e4 s;rintro s _ st3 ⟨rfl,hs,e0,e2,e3,e6,hto3⟩;generalize hown:(if rd=true then own else [])=ow at hto3⊢
  have hownl:ow.length<=2+l.length:=by
    rw[<-hown];split
    ·exact hol
    ·simp
  obtain⟨rv3,h3⟩:=h2.next hto3 (by simp;omega);simp[hs]
  refine Xau (fun n s m st'=> ∃(j:Nat),j<=l.length/\n=l.length - j/\m=[]/\s.length=85/\lk s 0=.ptr mb 0/\lk s 2=.int .i64 f/\lk s 3=.int .i64 to/\lk s 6=.ptr st.H.length 0/\lk s 12=.int .i64 (j:Nat)/\
      DkTo E mb (.sl o' fs.length (encFs fs)) (.sl o bs.length (bs.map (.int .i64))) rv3 st3 st' (nx+1+(T.countL (l.take j):Nat)) (rs++ow++rL fs bs op nn f to 0 (nx+1) (l.take j))) l.length (by simp only[T.wt]at hk;omega)
      ⟨0,by omega,by omega,rfl,by simp[hs],by simp[hs,e0],by simp[hs,e2],by simp[hs,e3],by simp[hs,e6],by simp[hs],by simpa [rL,T.countL]using DkTo.refl h3.now⟩ ?_
  clear hs e0 e2 e3 e6 s;rintro _ s _ st4 ⟨j,hj,rfl,rfl,hs,e0,e2,e3,e6,e12,hto⟩;have p64:st4.H[st.H.length]?=some (.cells 24 [.int .i64 op,.str s0,.int .i64 nn,.sl none l.length (T.encL l),.int .i64 line]):=by rw[hto.old _ (by have:=hto3.len;omega) (by omega),hto3.old _ hll2 (by omega)];exact p62
  by_cases hc:j<l.length
  ·obtain⟨t,hg⟩:∃t,l[j]?=some t:=⟨_,List.getElem?_eq_getElem hc⟩;have hwt:=Xcm hg;have hct:=Xbt hg;have hcr:=Xhs l (j+1) (by omega);have hrLl:=rL_len fs bs op nn f to 0 (nx+1) (l.take j);have hsn:=Xky fs bs op nn f to l 0 (nx+1) j t hg;rw[Nat.zero_add]at hsn;have hlt:(l.take j).length=j:=by simp;omega
   obtain⟨rvj,hj'⟩:=h3.next hto (by simp;omega);have c:=ih t (by simp only[T.wt]at ht;omega) (by simp only[T.wt]at hwb;omega) hj' hvs (if op=38/\j=0 then vset bs nn else to) f (decide (op≠17)||decide (0<j)) (by omega) (by omega) (by simp;omega) (Xqm hRDL hg) k (by simp only[T.wt]at hk;omega);refine Jc2 hj' op s0 nn line l to f st.H.length j t hg (by omega) (fun h38=>hloc.var (.inr (.inr h38))) p64 s hs e0 e2 e3 e6 e12 [] k (by omega) _ _ c ?_;intro s' st5 a1 a2 a3 a4;refine⟨_,by omega,j+1,by omega,rfl,rfl,a1,(a2 0 (by omega)).trans e0,(a2 2 (by omega)).trans e2,(a2 3 (by omega)).trans e3,(a2 6 (by omega)).trans e6,a3,?_⟩;have hfin:=hto.andThen hj'.now a4;have hnn:nx+1+(T.countL (l.take j):Nat)+(t.count:Nat)=nx+1+(T.countL (l.take (j+1)):Nat):=by rw[hct];push_cast;omega
   rw[hnn,List.append_assoc,<-hsn]at hfin;exact hfin
  ·have:j=l.length:=by omega
   subst this;rw[List.take_length]at hto;unfold l55;simp[hs,e6,e12,p64];have hfin:=hb1.andThen h1.now (hto2.andThen h2.now (hto3.andThen h3.now hto));have hnn:nx+1+(T.countL l:Nat)=nx+((1+T.countL l:Nat):Int):=by push_cast;omega
   rw[hnn,List.append_assoc]at hfin;exact hfin
theorem Xn7:∀n,Xmo n
 |0=>fun t h=>by cases t;simp only[T.wt]at h;omega
 |n+1=>f55 n (Xn7 n) (f83 n (Xn7 n))
def l34c:ACode:=(.seq (.seq (.reg [oV 87 16,oV 88 6,oV 89 14,oO 90 (.ia 5 (.t 88) (.t 89)),oF 91 2 90,oL 92 91,oO 93 (.bin .num .lss (.t 87) (.t 92))])
 (.cond (.t 93) (.skip) (.exit 4)))
 (.seq (.block 5 (.dreg [(oF 96 1 15,0),(oL 97 96,1),(oV 98 10,0),(oN 99 98,4),(oF 100 1 99,12),(oL 101 100,28),(oV 102 14,0),(oO 103 (.ia 1 (.t 101) (.t 102)),124),(oL 104 103,252),(oV 105 16,0),(oO 106 (.bin .num .add (.t 104) (.t 105)),1020),(oO 107 (.bsl false 1 1 [(.int .i64 0)] [(0,1,(.t 106))]),2044),(oO 108 (.app 1 8 (.t 97) (.t 107)),4095),(oF 109 1 15,8191),(oS (.st 1 (.t 109) (.t 108)),16383)]))
 (.reg [oV 94 16,oO 95 (.bin .num .add (.t 94) (.c (.int .i64 1))),oV 16 95])))
def l34b:ACode:=(.seq (.seq (.reg [oV 66 14,oV 67 6,oO 68 (.len false (.t 67)),oO 69 (.bin .num .lss (.t 66) (.t 68))])
 (.cond (.t 69) (.skip) (.exit 2)))
 (.seq (.block 3 (.seq (.dreg [(oV 72 6,0),(oV 73 14,0),(oO 74 (.ia 5 (.t 72) (.t 73)),3),(oF 75 4 74,7),(oL 76 75,15),(oV 77 10,0),(oV 78 14,0),(oO 79 (.call .quiet 54 [(.t 77),(.t 78),(.c (.int .i64 0))]),96),(oV 80 10,0),(oV 81 14,0),(oO 82 (.call .quiet 54 [(.t 80),(.t 81),(.c (.int .i64 1))]),992),(oV 83 10,0),(oV 84 14,0),(oO 85 (.call .quiet 54 [(.t 83),(.t 84),(.c (.int .i64 2))]),8160),(oO 86 (.build [(.int .i64 0),.nils,(.int .i64 0),(.int .i64 0),(.int .i64 0)] [(0,1,(.t 76)),(2,1,(.t 79)),(3,1,(.t 82)),(4,1,(.t 85))]),16383),(oO 15 (.alloc 82 [(.int .i64 0),.nils,(.int .i64 0),(.int .i64 0),(.int .i64 0)]),0),(oS (.st 5 (.t 15) (.t 86)),65535)])
 (.seq (.seq (.reg [oO 16 (.mv (.c (.int .i64 0)))])
 (.block 4 (.loop l34c)))
 (.reg [oF 110 1 13,oL 111 110,oO 112 (.ld (some 5) (.t 15)),oO 113 (.bsl false 5 1 [(.int .i64 0),.nils,(.int .i64 0),(.int .i64 0),(.int .i64 0)] [(0,5,(.t 112))]),oO 114 (.app 5 56 (.t 111) (.t 113)),oF 115 1 13,oS (.st 1 (.t 115) (.t 114))]))))
 (.reg [oV 70 14,oO 71 (.bin .num .add (.t 70) (.c (.int .i64 1))),oV 14 71])))
def l34a:ACode:=(.seq (.seq (.reg [oV 34 12,oV 35 6,oO 36 (.len false (.t 35)),oO 37 (.bin .num .lss (.t 34) (.t 36))])
 (.cond (.t 37) (.skip) (.exit 0)))
 (.seq (.block 1 (.seq (.reg [oV 40 10,oV 41 10,oN 42 41,oF 43 1 42,oL 44 43,oV 45 11,oO 46 (.bsl false 1 1 [(.int .i64 0)] [(0,1,(.t 45))]),oO 47 (.app 1 8 (.t 44) (.t 46)),oN 48 40,oF 49 1 48,oS (.st 1 (.t 49) (.t 47))])
 (.reg [oV 50 11,oV 51 6,oV 52 12,oO 53 (.ia 5 (.t 51) (.t 52)),oF 54 3 53,oL 55 54,oO 56 (.len false (.t 55)),oO 57 (.bin .num .add (.t 50) (.t 56)),oO 58 (.bin .num .add (.t 57) (.c (.int .i64 3))),oV 11 58])))
 (.reg [oV 38 12,oO 39 (.bin .num .add (.t 38) (.c (.int .i64 1))),oV 12 39])))
def y34e:ACode:=(.seq (.dreg [(oV 116 10,0),(oO 117 (.ld (some 5) (.t 7)),0),(oV 118 10,0),(oO 119 (.call .quiet 54 [(.t 118),(.c (.int .i64 0)),(.c (.int .i64 2))]),4),(oO 120 (.call .no 55 [(.t 116),(.t 117),(.c (.int .i64 0)),(.t 119),(.c (.bool false))]),15)])
 (.seq (.reg [oV 121 10,oN 122 121,oF 123 3 122,oL 124 123,oF 125 2 13,oS (.st 1 (.t 125) (.t 124))])
 (.seq (.dreg [(oV 126 6,0),(oO 127 (.ld (some 3) (.t 13)),0),(oV 2 126,1),(oS (.st 3 (.t 3) (.t 127)),7),(oO 4 (.mv (.c (.int .i64 0))),15),(oO 5 (.mv (.c (.int .i64 0))),31)])
 (.ret))))
def y34d:ACode:=(.seq (.seq (.reg [oO 14 (.mv (.c (.int .i64 0)))])
 (.block 2 (.loop l34b)))
 y34e)
def y34c:ACode:=(.seq (.seq (.reg [oV 59 11,oO 60 (.bin .num .add (.t 59) (.c (.int .i64 9))),oO 61 (.bin .num .gtr (.t 60) (.c (.int .i64 100000)))])
 (.cond (.t 61) (.seq (.reg [oO 62 (.build [(.int .i64 0),.nils,.nils] []),oO 2 (.mv (.c .nils)),oS (.st 3 (.t 3) (.t 62)),oO 4 (.mv (.c (.int .i64 0))),oO 5 (.mv (.c (.int .i64 52)))])
 (.ret)) (.skip)))
 (.seq (.reg [oV 63 11,oO 64 (.bin .num .add (.t 63) (.c (.int .i64 9))),oO 65 (.build [(.int .i64 0),.nils,.nils] [(0,1,(.t 64))]),oO 13 (.alloc 49 [(.int .i64 0),.nils,.nils]),oS (.st 3 (.t 13) (.t 65))])
 y34d))
def y34b:ACode:=(.seq (.seq (.reg [oO 12 (.mv (.c (.int .i64 0)))])
 (.block 0 (.loop l34a)))
 y34c)
def y34a:ACode:=.seq (.reg [oO 1 (.box 24 (.t 0)),oO 2 (.mv (.c .nils)),oO 3 (.alloc 49 [(.int .i64 0),.nils,.nils]),oO 4 (.mv (.c (.int .i64 0))),oO 5 (.mv (.c (.int .i64 0)))])
 (.seq (.reg [oO 18 (.ld (some 5) (.t 1)),oO 19 (.call .full 21 [(.t 18)]),oV 17 19,oO 20 (.ext 0 (.t 17)),oO 21 (.ext 1 (.t 17)),oO 22 (.ext 2 (.t 17)),oO 23 (.ext 3 (.t 17)),oO 7 (.alloc 24 [(.int .i64 0),(.str ⟨#[]⟩),(.int .i64 0),.nils,(.int .i64 0)]),oV 6 20,oS (.st 5 (.t 7) (.t 21)),oV 8 22,oV 9 23])
 (.seq (.seq (.reg [oV 24 9,oO 25 (.bin .num .neq (.t 24) (.c (.int .i64 0)))])
 (.cond (.t 25) (.seq (.reg [oO 26 (.build [(.int .i64 0),.nils,.nils] []),oV 27 8,oV 28 9,oO 2 (.mv (.c .nils)),oS (.st 3 (.t 3) (.t 26)),oV 4 27,oV 5 28])
 (.ret)) (.skip)))
 (.seq (.reg [oV 29 6,oO 30 (.build [.nils,.nils,(.int .i64 0),.nils] [(0,1,(.t 29))]),oO 31 (.box 90 (.t 30)),oV 10 31])
 (.seq (.reg [oO 32 (.ld (some 5) (.t 7)),oO 33 (.call .no 53 [(.t 32)]),oV 11 33])
 y34b))))
theorem Xw0{E:Env}{st:St}(hE:E.Wf st)(m0:Nat)(hm0:m0<=st.I.length)(mb:Nat)(hmw3:∀x y,Xaf E mb x y=true)(s:List AV)(hs:s.length=128)(fs:List Fn)(at_:Int)(xs:List Int)(bv nx rv:AV)(j:Nat)(f:Fn)(hg:fs[j]?=some f)(hfl:fs.length<=10000000000)
  (e6:lk s 6=.sl none fs.length (encFs fs)) (e10:lk s 10=.ptr mb 0) (e11:lk s 11=.int .i64 at_) (e12:lk s 12=.int .i64 j)
  (hm:st.H[mb]?=some (.cells 90 [.sl none fs.length (encFs fs),bv,nx,rv])) (hac:AccI E st.I xs bv) (how:∀j,owns bv=some j->m0<=j) (hxl:xs.length<=100000000000) (hat:0<=at_/\at_<=100000000000000) (hvl:f.vars.length<=500) (m:List Nat) (k:Nat) (Q:Q4)
  (hQ:∀s' st' bv',s'.length=128->(∀i,i=3\/i=6\/i=7\/i=10->lk s' i=lk s i)->lk s' 11=.int .i64 (at_+(f.vars.length+3:Nat))->lk s' 12=.int .i64 ((j+1:Nat):Int)->
   st'.H[mb]?=some (.cells 90 [.sl none fs.length (encFs fs),bv',nx,rv])->AccI E st'.I (xs++ [at_]) bv'->(∀j,owns bv'=some j->m0<=j)->(∀q,q≠mb->st'.H[q]?=st.H[q]?)->st'.H.length=st.H.length->IOld m0 st.I st'.I->Q .nrm s' m st'):
  WP (aCall prog k) E k none l34a s m st Q:=by
 have hjl:=uB hg;have hv:(encFs fs)[j*5+3]?=some (.sl none f.vars.length (f.vars.map .str)):=Xb2 hg 3 (by omega);have hv2:=uV hv;have hv3:j*5+3<fs.length*5:=by omega
 have hwj:=Xah (n:=(j:Int)+1) (by omega);have hw1:=Xah (n:=at_+(f.vars.length:Int)) (by omega);have hw2:=Xah (n:=at_+(f.vars.length:Int)+3) (by omega);have hw3:at_+(f.vars.length:Int)+3=at_+(f.vars.length+3:Nat):=by omega
 rw[hw3]at hw2;have hw4:=Xah (n:=at_+((f.vars.length:Int)+3)) (by omega);have hml:=uB hm;obtain⟨v',I',happ,hac',hio,how'⟩:=hac.app (m:=m0) hE.rom hm0 how hxl st.H at_ 0;have happ:appA E ⟨st.H,st.I⟩ 1 8 bv (.sl none 1 [.int .i64 at_])=some (v',⟨st.H,I'⟩):=happ;have hvo:=hac'.one;have hvc:=hac'.cells;unfold l34a;simp[hs,e6,e12,hjl];simp[hs,e10,e11,hm,Xap,wrC,happ,Xag,hmw3,hvo,hvc];simp[hs,e6,e11,e12,hjl,hv,hv2,hv3,hw1,hw3,hw2,hwj];refine hQ _ _ v' (by simp[hs]) (fun i hi=>by rcases hi with rfl|rfl|rfl|rfl<;>simp[hs]) (by simp[hs,hw4]) (by simp[hs]) ?_ hac' how' (fun q hn=>?_) (by simp) hio
 ·show(List.set _ _ _)[_]?=_;rw[List.getElem?_set_self hml]
 ·show(List.set _ _ _)[_]?=_;rw[List.getElem?_set_ne (Ne.symm hn)]
theorem Xwy{E:Env}{st:St}(hE:E.Wf st)(m0:Nat)(hm0:m0<=st.I.length)(mb W j:Nat)(hmwW:∀x y,Xaf E W x y=true)(s:List AV)(hs:s.length=128)(fs:List Fn)(f:Fn)(hg:fs[j]?=some f)(F nx rv pv z0 z2 z3 z4:AV)(bs:List Int)(o:Option Nat)(b:Int)(hb:bs[j]?=some b)(hbb:0<=b/\b<=100000000000000)(kk:Nat)(hkk:kk<f.params)(hn:f.params<=1000)
  (e6:lk s 6=.sl none fs.length (encFs fs)) (e10:lk s 10=.ptr mb 0) (e14:lk s 14=.int .i64 j) (e15:lk s 15=.ptr W 0) (e16:lk s 16=.int .i64 kk)
  (hm:st.H[mb]?=some (.cells 90 [F,.sl o bs.length (bs.map (.int .i64)),nx,rv])) (hW:st.H[W]?=some (.cells 82 [z0,pv,z2,z3,z4])) (hac:AccI E st.I (parL b kk) pv) (how:∀j,owns pv=some j->m0<=j) (m:List Nat) (k:Nat) (Q:Q4)
  (hQ:∀s' st' pv',s'.length=128->(∀i,i<16->lk s' i=lk s i)->lk s' 16=.int .i64 ((kk+1:Nat):Int)->st'.H[W]?=some (.cells 82 [z0,pv',z2,z3,z4])->AccI E st'.I (parL b (kk+1)) pv'->(∀j,owns pv'=some j->m0<=j)->
   (∀q,q≠W->st'.H[q]?=st.H[q]?)->st'.H.length=st.H.length->IOld m0 st.I st'.I->Q .nrm s' m st'):
  WP (aCall prog k) E k none l34c s m st Q:=by
 have hjl:=uB hg;have hp:(encFs fs)[j*5+2]?=some (.int .i64 (f.params:Int)):=Xb2 hg 2 (by omega);have hp2:=uV hp;have hp3:j*5+2<fs.length*5:=by omega
 have hwj:=Xah (n:=(kk:Int)+1) (by omega);have hwb:=Xah (n:=b+(kk:Int)) (by omega);have hb1:(bs.map (AV.int IntKind.i64))[j]?=some (.int .i64 b):=by rw[List.getElem?_map,hb];rfl
 have hb2:=uV hb1;have hb3:=uB hb;have hb4:=uV hb;obtain⟨v',I',happ,hac',hio,how'⟩:=hac.app (m:=m0) hE.rom hm0 how (by rw[Xeq];omega) st.H (b+kk) 0;have happ:appA E ⟨st.H,st.I⟩ 1 8 pv (.sl none 1 [.int .i64 (b+kk)])=some (v',⟨st.H,I'⟩):=happ;have hvo:=hac'.one;have hvc:=hac'.cells;have hpo:=hac.one;unfold l34c;simp[hs,e6,e14,e16,hjl,hp,hp2,hp3,hkk];simp[-Xan, -Xav,Xaj,Xao,Nat.testBit,hs,e10,e14,e15,e16,hm,hW,hb1,hb2,hb3,hb4,hwb,Xap,wrC,happ,Xag,hmwW,hvo,hvc,Xak];simp[hs,e16,hwj];refine hQ _ _ v' (by simp[hs]) (fun i h1=>?_) (by simp[hs]) ?_ hac' how' (fun q hq=>?_) (by simp) hio
 ·simp only[Xdj,List.length_set];repeat' rw[if_neg (by omega)]
 ·show(List.set _ _ _)[_]?=_;rw[List.getElem?_set_self (uB hW)]
 ·show(List.set _ _ _)[_]?=_;rw[List.getElem?_set_ne (Ne.symm hq)]
theorem Xwz{E:Env}{st:St}(hE:E.Wf st)(m0:Nat)(hm0:m0<=st.I.length)(mb V:Nat)(hmwV:∀x y,Xaf E V x y=true)(s:List AV)(hs:s.length=128)(fs:List Fn)(bs:List Int)(o:Option Nat)(nx rv fv sets zz:AV)(rs:List FS)(j:Nat)(f:Fn)(hg:fs[j]?=some f)(hfl:fs.length<=10000000000)(b:Int)(hb:bs[j]?=some b)(hbb:0<=b/\b<=10000000000000)
    (hpl:f.params<=1000) (hvl:f.vars.length<=1000) (e6:lk s 6=.sl none fs.length (encFs fs)) (e10:lk s 10=.ptr mb 0) (e13:lk s 13=.ptr V 0) (e14:lk s 14=.int .i64 j)
    (hm:st.H[mb]?=some (.cells 90 [.sl none fs.length (encFs fs),.sl o bs.length (bs.map (.int .i64)),nx,rv])) (hV:st.H[V]?=some (.cells 49 [sets,fv,zz])) (hac:AccX E st.I rs fv) (how:∀j,owns fv=some j->m0<=j) (hrl:rs.length<=100000000000) (m:List Nat) (k:Nat) (hk:1002<=k) (Q:Q4)
    (hQ:∀s' st' fv',s'.length=128->(∀i,i=3\/i=6\/i=7\/i=10\/i=13->lk s' i=lk s i)->lk s' 14=.int .i64 ((j+1:Nat):Int)->st'.H[V]?=some (.cells 49 [sets,fv',zz])->AccX E st'.I (rs++ [fsF b f]) fv'->(∀j,owns fv'=some j->m0<=j)->
      (∀q,q<st.H.length->q≠V->st'.H[q]?=st.H[q]?)->st.H.length<=st'.H.length->IOld m0 st.I st'.I->Q .nrm s' m st'):
    WP (aCall prog k) E k none l34b s m st Q:=by
  have hmw:=Xaa hE;have hmw1:∀q x y,Xaf E (st.H.length+q) x y=true:=fun q x y=>hmw _ _ _ (by omega);have hmw0:∀x y,Xaf E st.H.length x y=true:=fun x y=>hmw _ _ _ (by omega);have hjl:=uB hg;have hk4:(encFs fs)[j*5+4]?=some (.int .i64 f.mark):=Xb2 hg 4 (by omega);have hk5:=uV hk4;have hk6:j*5+4<fs.length*5:=by omega
  have hp:(encFs fs)[j*5+2]?=some (.int .i64 (f.params:Int)):=Xb2 hg 2 (by omega);have hp2:=uV hp;have hp3:j*5+2<fs.length*5:=by omega
  have hwj:=Xah (n:=(j:Int)+1) (by omega);have hVl:=uB hV;have hml:=uB hm;have hVm:V≠mb:=fun e=>by rw[e,hm]at hV;cases hV
  have hbeh:BehA fs bs j (b+f.vars.length):=⟨f,b,hg,hb,hbb.1,by omega,rfl⟩;have c0:=fun X=>(d54 (E:=E) (st:=⟨st.H++X,st.I⟩) (Xae hm) hbeh 0 (by omega) k (by omega)).2;have c1:=fun X=>(d54 (E:=E) (st:=⟨st.H++X,st.I⟩) (Xae hm) hbeh 1 (by omega) k (by omega)).2;have c2:=fun X=>(d54 (E:=E) (st:=⟨st.H++X,st.I⟩) (Xae hm) hbeh 2 (by omega) k (by omega)).2;have d0:=(d54 (E:=E) (st:=st) hm hbeh 0 (by omega) k (by omega)).2;have d1:=(d54 (E:=E) (st:=st) hm hbeh 1 (by omega) k (by omega)).2;have d2:=(d54 (E:=E) (st:=st) hm hbeh 2 (by omega) k (by omega)).2;simp only[Int.add_zero]at c0 d0;unfold l34b;simp[hs,e6,e14,hjl];simp[-Xan, -Xav,Xaj,Xao,Nat.testBit,hs,e6,e10,e14,hjl,hk4,hk5,hk6,c0,c1,c2,d0,d1,d2,Xag,hmw0,hmw1,wrC,Xap,Xak]
  refine Xau (fun n s' m' st'=> ∃(kk:Nat) (pv:AV),kk<=f.params/\n=f.params - kk/\s'.length=128/\m'=m/\(∀i,i=3\/i=6\/i=7\/i=10\/i=13\/i=14->lk s' i=lk s i)/\lk s' 15=.ptr st.H.length 0/\lk s' 16=.int .i64 kk/\
      st'.H[st.H.length]?=some (.cells 82 [.int .i64 f.mark,pv,.int .i64 (b+f.vars.length),.int .i64 (b+f.vars.length+1),.int .i64 (b+f.vars.length+2)])/\AccI E st'.I (parL b kk) pv/\(∀j,owns pv=some j->st.I.length<=j)/\(∀q,q<st.H.length->st'.H[q]?=st.H[q]?)/\st'.H.length=st.H.length+1/\IOld st.I.length st.I st'.I) f.params (by omega)
    ⟨0,.nils,by omega,by omega,by simp[hs],rfl,fun i hi=>by rcases hi with rfl|rfl|rfl|rfl|rfl|rfl<;>simp[hs],by simp[hs],by simp[hs],by simp,.inl ⟨rfl,rfl⟩,fun j e=>by simp[owns]at e,fun q hq=>by show(_++_)[_]?=_;rw[List.getElem?_append_left hq],by simp,.refl _ _⟩ ?_
  clear hs;rintro _ s' m' st' ⟨kk,pv,hkk,rfl,hs,rfl,hsl,e15,e16,hW,hacp,howp,hold,hlen,hio⟩;have hE':E.Wf st':=hE.of (H:=st'.H) (I:=st'.I) (by omega) hio.len;have e6':lk s' 6=_:=(hsl 6 (by omega)).trans e6;have e14':lk s' 14=_:=(hsl 14 (by omega)).trans e14;by_cases hc:kk<f.params
  ·refine Xwy hE' st.I.length hio.len mb st.H.length j hmw0 s' hs fs f hg (.sl none fs.length (encFs fs)) nx rv pv _ _ _ _ bs o b hb (by omega) kk hc hpl e6' (by rw[hsl 10 (by omega)];exact e10) e14' e15 e16 (by rw[hold mb hml];exact hm) hW hacp howp m' k _ ?_;intro s2 st2 pv' r1 r2 r3 r4 r5 r6 r7 r8 r9;exact⟨_,by omega,kk+1,pv',by omega,rfl,r1,rfl,fun i hi=>by rw[r2 i (by omega)];exact hsl i hi,by rw[r2 15 (by omega)];exact e15,r3,r4,r5,r6,fun q hq=>by rw[r7 q (by omega)];exact hold q hq,by omega,hio.trans r9⟩
  have:kk=f.params:=by omega
  subst this;have hV':st'.H[V]?=some (.cells 49 [sets,fv,zz]):=by rw[hold V hVl];exact hV
  have hac2:AccX E st'.I rs fv:=hac.old hac.ownLt hio;have hfin:=hacp.fin0;have hpo:=hacp.one;have hpc:=hacp.cells;have hpl2:=Xeq b f.params;rw[hpl2]at hfin;obtain⟨v',I',happ,hac',hio',how'⟩:=hac2.app (m:=m0) hE'.rom (by have:=hio.len;omega) how hrl st'.H (fsF b f) 0;have happ:appA E ⟨st'.H,st'.I⟩ 5 56 fv (.sl none 1 (fsF b f).enc)=some (v',⟨st'.H,I'⟩):=happ;have hvo:=hac'.one;have hvc:=hac'.cells;simp only[fsF,FS.enc,hpl2]at happ;have e13':lk s' 13=.ptr V 0:=by rw[hsl 13 (by omega)];exact e13
  unfold l34c;simp[hs,e6',e14',e16,hjl,hp,hp2,hp3];simp[hs,e13',e15,hV',hW,Xap,wrC,hfin,happ,Xag,hmwV,hvo,hvc,hpo];simp[hs,e14',hwj];refine hQ _ _ v' (by simp[hs]) (fun i hi=>?_) (by simp[hs]) ?_ hac' how' (fun q hq hn=>?_) (by simp;omega) ((hio.le hm0).trans hio')
  ·rw[<-hsl i (by omega)];rcases hi with rfl|rfl|rfl|rfl|rfl<;>simp[hs]
  ·show(List.set _ _ _)[_]?=_;rw[List.getElem?_set_self (by omega)]
  ·show(List.set _ _ _)[_]?=_;rw[List.getElem?_set_ne (Ne.symm hn)];exact hold q hq
structure C34(st0:St)(q:T)(fs:List Fn)(bv:AV)(s:List AV)(st:St):Prop where
 sl:s.length=128
 e3:lk s 3=.ptr (st0.H.length+1) 0
 e6:lk s 6=.sl none fs.length (encFs fs)
 e7:lk s 7=.ptr (st0.H.length+2) 0
 e10:lk s 10=.ptr (st0.H.length+3) 0
 h1:st.H[st0.H.length+1]?=some (.cells 49 [.int .i64 0,.nils,.nils])
 h2:st.H[st0.H.length+2]?=some (.cells 24 q.enc)
 h3:st.H[st0.H.length+3]?=some (.cells 90 [.sl none fs.length (encFs fs),bv,.int .i64 0,.nils])
 old:∀j,j<st0.H.length->st.H[j]?=st0.H[j]?
 io:IOld st0.I.length st0.I st.I
theorem C34.len{st0 q fs bv s st}(h:C34 st0 q fs bv s st):st0.H.length+4<=st.H.length:=by have:=(List.getElem?_eq_some_iff.1 h.h3).1;omega
theorem C34.next{st0 q fs bv s st s' st'}(h:C34 st0 q fs bv s st)(hs:s'.length=128)(hsl:∀i,i=3\/i=6\/i=7\/i=10->lk s' i=lk s i)(hH:∀j,j<st0.H.length+4->st'.H[j]?=st.H[j]?)(hI:IOld st0.I.length st.I st'.I):C34 st0 q fs bv s' st':=
 ⟨hs,(hsl 3 (by omega)).trans h.e3,(hsl 6 (by omega)).trans h.e6,(hsl 7 (by omega)).trans h.e7,(hsl 10 (by omega)).trans h.e10,(hH _ (by omega)).trans h.h1,(hH _ (by omega)).trans h.h2,(hH _ (by omega)).trans h.h3,fun j hj=>(hH j (by omega)).trans (h.old j hj),h.io.trans hI⟩
theorem C34.wf{E:Env}{st0 q fs bv s st}(hE:E.Wf st0)(h:C34 st0 q fs bv s st):E.Wf st:=hE.of (H:=st.H) (I:=st.I) (by have:=h.len;omega) h.io.len
theorem f34e{E:Env}{st0 st:St}(hE:E.Wf st0)(q:T)(fs:List Fn)(bs:List Int)(o:Option Nat)(s:List AV)(h:C34 st0 q fs (.sl o bs.length (bs.map (.int .i64))) s st)(V:Nat)(hV0:st0.H.length+4<=V)(e13:lk s 13=.ptr V 0)(sets:Int)(fv:AV)(F:List FS)
    (hV:st.H[V]?=some (.cells 49 [.int .i64 sets,fv,.nils])) (hac:AccX E st.I F fv) (how:∀j,owns fv=some j->st0.I.length<=j) (hF0:F≠ []) (hb0:BehA fs bs 0 (behV fs bs 0)) (hqw:q.wt<=1000000000) (hvs:∀G∈fs,G.vars.length<=500) (hRD:RD fs bs 0 q) (k:Nat) (hk:20*q.wt+1200<=k):
    WP (aCall prog k) E k none y34e s [] st (endQ Xj0 (Pur st0 (rulV (fs,(sets,F,rT fs bs q 0 0 (behV fs bs 0+2) true),0,0)))):=by
  obtain⟨hs,e3,e6,e7,e10,h1,h2,h3,hold,hio⟩:=h;have hVl:=uB hV;have hEs:E.Wf st:=hE.of (H:=st.H) (I:=st.I) (by omega) hio.len;have hmw:=Xaa hE;have hmw1:∀x y,Xaf E (st0.H.length+1) x y=true:=fun x y=>hmw _ _ _ (by omega);have hmwV:∀x y,Xaf E V x y=true:=fun x y=>hmw _ _ _ (by omega);have hS:DkS E (st0.H.length+3) fs bs o none 0 [] .nils st:=⟨hEs,by have:=hE.base;omega,by have:=hE.rob;omega,⟨h3,.inl ⟨rfl,rfl⟩⟩,by simp⟩;have hcw:=Xb3 q;have c55:=Xn7 q.wt q (Nat.le_refl _) (by omega) hS hvs (behV fs bs 0+2) 0 true (Int.le_refl _) (by omega) (by simp;omega) hRD k (by omega);have c54:=(d54 (E:=E) (st:=st) h3 hb0 2 (by omega) k (by omega)).2
  obtain⟨i,rfl,hi1,hi2⟩:∃i,fv=.sl (some i) F.length (Xbn F)/\E.rom<=i/\st.I[i]?=some (F.length,5):=by
    rcases hac with⟨e, -⟩|⟨-,i,x⟩
    ·exact absurd e hF0
    ·exact⟨i,x⟩
  have hi3:=how i rfl;have hi4:¬i<st0.I.length:=by omega
  have hqe:=T.enc_eq q;rw[hqe]at h2 c55;unfold y34e;simp only[Int.natCast_zero,Bool.not_true]at c55 c54;simp[-Xan, -Xav,Xaj,Xao,Nat.testBit,hs,e3,e6,e7,e10,e13,h2,hV,c54,Xap,wrC,Xak];refine Xac c55 fun p hp=>?_;obtain⟨r,st9⟩:=p;obtain⟨r1,r2⟩:=hp;simp only at r1;subst r1;have r2:DkTo E (st0.H.length+3) (.sl none fs.length (encFs fs)) (.sl o bs.length (bs.map (.int .i64))) .nils st st9 (0+(q.count:Nat)) ([]++rT fs bs q 0 0 (behV fs bs 0+2) true):=r2;obtain⟨⟨rv',⟨z1,z2⟩,z3⟩,z4,z5,z6⟩:=r2;have zV:st9.H[V]?=_:=(z4 V hVl (by omega)).trans hV;have zL:st9.H[st0.H.length+1]?=_:=(z4 _ (by omega) (by omega)).trans h1;have hro:=z2.one;have hrc:=z2.cells
  have hrf:rv'.fin st0.I.length=.sl none (rT fs bs q 0 0 (behV fs bs 0+2) true).length (encR (rT fs bs q 0 0 (behV fs bs 0+2) true)):=by
    rcases z2 with⟨e,rfl⟩|⟨j,rfl,hj,hx⟩
    ·simp only[List.nil_append]at e;rw[e];rfl
    ·have:¬j<st0.I.length:=by
        rcases z3 with z3|⟨j',z3,z3'⟩
        ·simp[owns]at z3
        ·simp[owns]at z3;have:=hio.len;omega
     simp[this,Xfv]
  have n1:V≠st0.H.length+1:=by omega
  have hl9:st0.H.length+1<st9.H.length:=by omega
  have a1:∀x,(st9.H.set V x)[st0.H.length+1]?=some (.cells 49 [.int .i64 0,.nils,.nils]):=fun x=>by rw[List.getElem?_set_ne n1];exact zL
  have a2:∀x,(st9.H.set V x)[V]?=some x:=fun x=>List.getElem?_set_self (by omega);have a3:∀x y,((st9.H.set V x).set (st0.H.length+1) y)[st0.H.length+1]?=some y:=fun x y=>List.getElem?_set_self (by simp;omega);have hg:∀x y,Grow st0 ⟨(st9.H.set V x).set (st0.H.length+1) y,st9.I⟩:=fun x y=>.of33 (fun j hj=>by show(List.set _ _ _)[_]?=_;rw[List.getElem?_set_ne (by omega),List.getElem?_set_ne (by omega),z4 j (by omega) (by omega)];exact hold j hj) (by simp;omega) (hio.trans ⟨z6.len,fun j x _ e=>z6.get j x nofun e⟩);simp[Nat.testBit,hs,Xak,e10,e13,z1,zV,Xag,hmwV,hro,hrc,wrC];simp[Nat.testBit,hs,e3,e6,e13,a1,a2,a3,Xag,hmw1,hro,hrc,wrC,Xak];exact⟨_,rfl,hg _ _,by simp[rulV,Xeh,hrf,hi4]⟩
theorem f34d{E:Env}{st0 st:St}(hE:E.Wf st0)(q:T)(fs:List Fn)(a:Int)(ha:0<=a/\a<=10000000000)(hfl:fs.length<=1000)(hf0:0<fs.length)(o:Option Nat)(s:List AV)(h:C34 st0 q fs (.sl o (baseL a fs).length ((baseL a fs).map (.int .i64))) s st)(V:Nat)(hV0:st0.H.length+4<=V)(e13:lk s 13=.ptr V 0)(sets:Int)
    (hV:st.H[V]?=some (.cells 49 [.int .i64 sets,.nils,.nils])) (hqw:q.wt<=1000000000) (hvs:∀G∈fs,G.vars.length<=500) (hps:∀G∈fs,G.params<=500) (hb0:BehA fs (baseL a fs) 0 (behV fs (baseL a fs) 0)) (hRD:RD fs (baseL a fs) 0 q) (k:Nat) (hk:20*q.wt+2000<=k):
    WP (aCall prog k) E k none y34d s [] st (endQ Xj0 (Pur st0 (rulV (fs,(sets,fsL a fs,rT fs (baseL a fs) q 0 0 (behV fs (baseL a fs) 0+2) true),0,0)))):=by
  have hmwV:∀x y,Xaf E V x y=true:=fun x y=>Xaa hE _ _ _ (by omega);unfold y34d;simp[h.sl,h.e6]
  refine Xau (fun n s' m' st'=> ∃(j:Nat) (fv:AV),j<=fs.length/\n=fs.length - j/\m'=[]/\C34 st0 q fs (.sl o (baseL a fs).length ((baseL a fs).map (.int .i64))) s' st'/\lk s' 13=.ptr V 0/\lk s' 14=.int .i64 j/\
      st'.H[V]?=some (.cells 49 [.int .i64 sets,fv,.nils])/\AccX E st'.I (fsL a (fs.take j)) fv/\(∀j,owns fv=some j->st0.I.length<=j)) fs.length (by omega)
    ⟨0,.nils,by omega,by omega,rfl,h.next (by simp[h.sl]) (fun i hi=>by rcases hi with rfl|rfl|rfl|rfl<;>simp[h.sl]) (fun _ _=>rfl) (.refl _ _),by simp[h.sl,e13],by simp[h.sl],hV,.inl ⟨rfl,rfl⟩,fun j e=>by simp[owns]at e⟩ ?_
  rintro _ s' m' st' ⟨j,fv,hj,rfl,rfl,hC,e13,e14,hV,hac,how⟩;clear h;by_cases hc:j<fs.length
  ·obtain⟨f,hg⟩:∃f,fs[j]?=some f:=⟨_,List.getElem?_eq_getElem hc⟩;have hfm:=List.mem_of_getElem? hg;have hbe:=Xc8 fs a j hvs;refine Xwz (hC.wf hE) st0.I.length hC.io.len (st0.H.length+3) V hmwV s' hC.sl fs (baseL a fs) o (.int .i64 0) .nils fv (.int .i64 sets) .nils _ j f hg (by omega) (baseE a (fs.take j)) (Xd4 fs a j hc) (by omega) (by have:=hps f hfm;omega) (by have:=hvs f hfm;omega) hC.e6 hC.e10 e13 e14 hC.h3 hV hac how (by rw[Xhi];simp;omega) _ k (by omega) _ ?_;intro s2 st2 fv' r1 r2 r3 r4 r5 r6 r7 r8 r9;have hl:=hC.len;exact⟨_,by omega,j+1,fv',by omega,rfl,rfl,hC.next r1 (fun i hi=>r2 i (by omega)) (fun q hq=>r7 q (by omega) (by omega)) r9,by rw[r2 13 (by omega)];exact e13,r3,r4,by rw[Xi9 fs a j f hg];exact r5,r6⟩
  have:j=fs.length:=by omega
  subst this;rw[List.take_length]at hac;unfold l34b;simp[hC.sl,hC.e6,e14];refine f34e hE q fs (baseL a fs) o _ (hC.next (by simp[hC.sl]) (fun i hi=>by rcases hi with rfl|rfl|rfl|rfl<;>simp[hC.sl]) (fun _ _=>rfl) (.refl _ _)) V hV0 (by simp[hC.sl,e13]) sets fv (fsL a fs) hV hac how ?_ hb0 hqw hvs hRD k (by omega);intro e;have:=Xhi a fs;rw[e]at this;simp at this;omega
theorem f34c{E:Env}{st0 st:St}(hE:E.Wf st0)(q:T)(fs:List Fn)(a:Int)(ha:0<=a/\a<=10000000000)(hfl:fs.length<=1000)(hf0:0<fs.length)(o:Option Nat)(s:List AV)(h:C34 st0 q fs (.sl o (baseL a fs).length ((baseL a fs).map (.int .i64))) s st)(e11:lk s 11=.int .i64 (baseE a fs))
  (hqw:q.wt<=1000000000) (hvs:∀G∈fs,G.vars.length<=500) (hps:∀G∈fs,G.params<=500) (hb0:BehA fs (baseL a fs) 0 (behV fs (baseL a fs) 0)) (hRD:RD fs (baseL a fs) 0 q) (k:Nat) (hk:20*q.wt+2000<=k):
  WP (aCall prog k) E k none y34c s [] st (endQ Xj0 (Pur st0 (rulV (if 100000<baseE a fs+9 then([],(0,[],[]),0,52)else(fs,(baseE a fs+9,fsL a fs,rT fs (baseL a fs) q 0 0 (behV fs (baseL a fs) 0+2) true),0,0))))):=by
 have hEs:=h.wf hE;have hl:=h.len;have hmw:=Xaa hEs;have hmw1:∀x y,Xaf E (st0.H.length+1) x y=true:=fun x y=>Xaa hE _ _ _ (by omega);have hbe:=Xc8 fs a fs.length hvs;rw[List.take_length]at hbe;have hw9:=Xah (n:=baseE a fs+9) (by omega);by_cases hc:100000<baseE a fs+9
 ·rw[if_pos hc];have a1:=h.h1;have a3:∀y,(st.H.set (st0.H.length+1) y)[st0.H.length+1]?=some y:=fun y=>List.getElem?_set_self (by omega);have hg:∀y,Grow st0 ⟨st.H.set (st0.H.length+1) y,st.I⟩:=fun y=>.of33 (fun j hj=>by show(List.set _ _ _)[_]?=_;rw[List.getElem?_set_ne (by omega)];exact h.old j hj) (by simp;omega) h.io;unfold y34c;simp[h.sl,h.e3,e11,hw9,Xap,wrC,Xag,hmw,hc,a1,hmw1,a3];exact⟨_,rfl,hg _,by simp[rulV,Xbn,encR,encFs]⟩
 ·rw[if_neg hc];unfold y34c;simp[h.sl,h.e3,e11,hw9,Xap,wrC,Xag,hmw,hc];refine f34d hE q fs a ha hfl hf0 o _ ?_ st.H.length hl ?_ _ ?_ hqw hvs hps hb0 hRD k hk
  ·exact h.next (by simp[h.sl]) (fun i hi=>by rcases hi with rfl|rfl|rfl|rfl<;>simp[h.sl]) (fun j hj=>by show(_++_)[_]?=_;rw[List.getElem?_append_left (by omega)]) (.refl _ _)
  ·simp[h.sl]
  ·simp
theorem f34b{E:Env}{st0 st:St}(hE:E.Wf st0)(q:T)(fs:List Fn)(a:Int)(ha:0<=a/\a<=10000000000)(hfl:fs.length<=1000)(hf0:0<fs.length)(s:List AV)(h:C34 st0 q fs .nils s st)(e11:lk s 11=.int .i64 a)
    (hqw:q.wt<=1000000000) (hvs:∀G∈fs,G.vars.length<=500) (hps:∀G∈fs,G.params<=500) (hb0:BehA fs (baseL a fs) 0 (behV fs (baseL a fs) 0)) (hRD:RD fs (baseL a fs) 0 q) (k:Nat) (hk:20*q.wt+2000<=k):
    WP (aCall prog k) E k none y34b s [] st (endQ Xj0 (Pur st0 (rulV (if 100000<baseE a fs+9 then([],(0,[],[]),0,52)else(fs,(baseE a fs+9,fsL a fs,rT fs (baseL a fs) q 0 0 (behV fs (baseL a fs) 0+2) true),0,0))))):=by
  have hmw3:∀x y,Xaf E (st0.H.length+3) x y=true:=fun x y=>Xaa hE _ _ _ (by omega);unfold y34b;simp[h.sl,h.e6]
  refine Xau (fun n s' m' st'=> ∃(j:Nat) (bv:AV),j<=fs.length/\n=fs.length - j/\m'=[]/\C34 st0 q fs bv s' st'/\lk s' 11=.int .i64 (baseE a (fs.take j))/\lk s' 12=.int .i64 j/\
      AccI E st'.I (baseL a (fs.take j)) bv/\(∀j,owns bv=some j->st0.I.length<=j)) fs.length (by omega)
    ⟨0,.nils,by omega,by omega,rfl,h.next (by simp[h.sl]) (fun i hi=>by rcases hi with rfl|rfl|rfl|rfl<;>simp[h.sl]) (fun _ _=>rfl) (.refl _ _),by simp[h.sl,e11,baseE],by simp[h.sl],.inl ⟨rfl,rfl⟩,fun j e=>by simp[owns]at e⟩ ?_
  rintro _ s' m' st' ⟨j,bv,hj,rfl,rfl,hC,e11,e12,hac,how⟩;clear h;by_cases hc:j<fs.length
  ·obtain⟨f,hg⟩:∃f,fs[j]?=some f:=⟨_,List.getElem?_eq_getElem hc⟩;have hfm:=List.mem_of_getElem? hg;have hbe:=Xc8 fs a j hvs;refine Xw0 (hC.wf hE) st0.I.length hC.io.len (st0.H.length+3) hmw3 s' hC.sl fs _ _ bv (.int .i64 0) .nils j f hg (by omega) hC.e6 hC.e10 e11 e12 hC.h3 hac how (by rw[Xem];simp;omega) (by omega) (hvs f hfm) _ k _ ?_;intro s2 st2 bv' r1 r2 r3 r6 r7 r8 r9 r10 r11 r12;have hl:=hC.len;refine⟨_,by omega,j+1,bv',by omega,rfl,rfl,?_,by rw[Xgf fs a j f hg];exact r3,r6,by rw[Xge fs a j f hg];exact r8,r9⟩;exact⟨r1,(r2 3 (by omega)).trans hC.e3,(r2 6 (by omega)).trans hC.e6,(r2 7 (by omega)).trans hC.e7,(r2 10 (by omega)).trans hC.e10,by rw[r10 _ (by omega)];exact hC.h1,by rw[r10 _ (by omega)];exact hC.h2,r7,fun i hi=>by rw[r10 i (by omega)];exact hC.old i hi,hC.io.trans r12⟩
  have:j=fs.length:=by omega
  subst this;rw[List.take_length]at hac e11;have hbl:=Xem a fs
  obtain⟨i,rfl⟩:∃i,bv=.sl (some i) (baseL a fs).length ((baseL a fs).map (.int .i64)):=by
    rcases hac with⟨e, -⟩|⟨-,i,e, -, -⟩
    ·rw[e]at hbl;simp at hbl;omega
    ·exact⟨i,e⟩
  unfold l34a;simp[hC.sl,hC.e6,e12];exact f34c hE q fs a ha hfl hf0 (some i) _ (hC.next (by simp[hC.sl]) (fun i hi=>by rcases hi with rfl|rfl|rfl|rfl<;>simp[hC.sl]) (fun _ _=>rfl) (.refl _ _)) (by simp[hC.sl,e11]) hqw hvs hps hb0 hRD k hk
theorem f34(t:T)(ht:t.ok)(hw:t.wt<=1000000000)(hqw:(resolve t).2.1.wt<=1000000000)(hfl:(resolve t).1.length<=1000)(hf0:(resolve t).2.2.2=0->0<(resolve t).1.length)(hvs:∀G∈(resolve t).1,G.vars.length<=500)(hps:∀G∈(resolve t).1,G.params<=500)
  (hb0:(resolve t).2.2.2=0->BehA (resolve t).1 (baseL ((resolve t).2.1.count:Nat) (resolve t).1) 0 (behV (resolve t).1 (baseL ((resolve t).2.1.count:Nat) (resolve t).1) 0)) (hRD:(resolve t).2.2.2=0->RD (resolve t).1 (baseL ((resolve t).2.1.count:Nat) (resolve t).1) 0 (resolve t).2.1) (k:Nat) (hk:20*t.wt+20*(resolve t).2.1.wt+10000<=k):PureC k 34 [.agg t.enc] (rulV (rulesM t)):=by
 intro E st hE;obtain⟨k,rfl⟩:=uK (k:=k) (by omega);have hmw:=Xaa hE;have hmw1:∀j x y,Xaf E (st.H.length+j) x y=true:=fun j x y=>hmw _ _ _ (by omega);have hrr:(resV (resolve t)).refs=[]:=by simp[resV,Xdp,T.enc_refs]
 have c21:=fun st3 (h:E.Wf st3)=>(f21 t ht (by omega) k (by omega)).full (E:=E) (st:=st3) hrr h;have hcw:=Xb3 (resolve t).2.1;unfold rulesM;generalize resolve t=R at*;obtain⟨fs,q,x,y⟩:=R;simp only at*;have c53:=fun st3 (h:E.Wf st3)=>f53 q.wt q (Nat.le_refl _) (by omega) E st3 k h (by omega);obtain⟨op,s0,nn,l,line⟩:=t;have hqe:=T.enc_eq q;simp only[T.enc,resV]at c21;rw[hqe]at c21 c53;refine Xai (c0:=y34a) rfl rfl (by decide) fun s hs e0=>?_;have hE1:∀y,E.Wf ⟨st.H++y,st.I⟩:=fun y=>hE.of (by simp) (by simp);unfold y34a;by_cases hy:y=0
 ·subst hy;simp[hs,e0,c21 _ (hE1 _),Xag,hmw1,wrC,Xap];refine Xac (c53 _ (hE1 _)) fun p hp=>?_;obtain⟨r,st2⟩:=p;obtain⟨r1,r2⟩:=hp;simp only at r1;subst r1;simp[hs];have hp:=r2.H;refine f34b hE q fs (q.count:Nat) (by omega) hfl (hf0 rfl) _ ?_ ?_ hqw hvs hps (hb0 rfl) (hRD rfl) k (by omega)
  ·exact⟨by simp[hs],by simp[hs],by simp[hs],by simp[hs],by simp[hs],Xcf r2.H (by simp),Xcf r2.H (by simp[hqe]),Xcf r2.H (by simp),fun j hj=>by(obtain⟨y,hy⟩:=r2.H;rw[<-hy,List.append_assoc,List.getElem?_append_left hj]),⟨r2.I.length_le,fun j x _ e=>Xcf r2.I e⟩⟩
  ·simp[hs]
 ·simp[hs,e0,c21 _ (hE1 _),Xag,hmw1,wrC,Xap,hy];exact⟨Grow.appH _ _,by simp[rulV,Xbn,encR,encFs]⟩
def mks(l:List T):List Int:=(l.filter fun t=>isMk t.op).map (·.n)
structure SetsOk(fs:List Fn)(bs:List Int)(a S:Int):Prop where
 one:1<=a
 base:∀(f:Nat) (G:Fn),fs[f]?=some G->∃b,bs[f]?=some b/\a<=b/\b+G.vars.length+2<S
theorem SetsOk.var{fs bs a S}(h:SetsOk fs bs a S){n:Int}{s:ByteArray}(hv:VarOk fs n s):a<=vset bs n/\vset bs n<S:=by
 obtain⟨h0,G,hG,hs⟩:=hv;obtain⟨b,hb,h1,h2⟩:=h.base _ G hG;have h3:n.tdiv 1000=((n / 1000).toNat:Int):=by rw[Int.tdiv_eq_ediv_of_nonneg h0];omega
 have h4:n.tmod 1000=n % 1000:=Int.tmod_eq_emod_of_nonneg h0;have h5:=uB hs;simp only[vset,h3,Int.toNat_natCast,hb,Option.getD_some,h4];omega
theorem SetsOk.beh{fs bs a S}(h:SetsOk fs bs a S){f:Nat}(hf:f<fs.length):a<=behV fs bs f/\behV fs bs f+2<S:=by obtain⟨G,hG⟩:∃G,fs[f]?=some G:=⟨_,List.getElem?_eq_getElem hf⟩;obtain⟨b,hb,h1,h2⟩:=h.base _ G hG;simp only[behV,hb,hG,Option.getD_some,Option.map_some];omega
theorem Xis:∀(l:List Fn) (a:Int) (j:Nat) (f:Fn),l[j]?=some f->baseE a (l.take j)+f.vars.length+2<baseE a l
 |[],a,j,f,h=>by simp at h
 |g::r,a,0,f,h=>by
  simp at h;subst h
  have:∀(l:List Fn) (b:Int),b<=baseE b l:=fun l=>by
   induction l with
   |nil=>intro b;simp[baseE]
   |cons g r ih=>intro b;simp only[baseE];have:=ih (b+(g.vars.length+3:Nat));omega
  have:=this r (a+(g.vars.length+3:Nat));simp only[List.take_zero,baseE];omega
 |g::r,a,j+1,f,h=>by simp only[List.take_succ_cons,baseE];exact Xis r _ j f (by simpa using h)
theorem Xmk:∀(l:List Fn) (a:Int) (j:Nat),a<=baseE a (l.take j)
 |[],a,j=>by simp[baseE]
 |g::r,a,0=>by simp[baseE]
 |g::r,a,j+1=>by have:=Xmk r (a+(g.vars.length+3:Nat)) j;simp only[List.take_succ_cons,baseE];omega
theorem SetsOk.of(fs:List Fn)(a:Int)(ha:1<=a):SetsOk fs (baseL a fs) a (baseE a fs):=
 ⟨ha,fun f G hG=>⟨_,Xd4 fs a f (uB hG),Xmk fs a f,Xis fs a f G hG⟩⟩
mutual
def linT(L:Int):T->T
 |.mk op s n l _=>.mk op s n (linL L l) L
def linL(L:Int):List T->List T
 |[]=> []
 |t::r=>linT L t::linL L r
end
def linW(L:Int)(w:Wk):Wk:={w with line:=if w.e=0 then 0 else L}
@[simp] theorem Jhu(L w):(linW L w).e=w.e:=rfl
@[simp] theorem Jdo(L w):(linW L w).fs=w.fs:=rfl
@[simp] theorem Xyq(L w):(linW L w).mark=w.mark:=rfl
@[simp] theorem Jdp(L t):(linT L t).op=t.op:=by cases t;rfl
@[simp] theorem Jhv(L t):(linT L t).s=t.s:=by cases t;rfl
def rn(s:ByteArray):ByteArray:=s++⟨#[95]⟩
theorem Xw4{a b:ByteArray}(h:rn a=rn b):a=b:=by
 have h1:(rn a).data.toList=(rn b).data.toList:=by rw[h]
 simp[rn]at h1;obtain⟨⟨a⟩⟩:=a;obtain⟨⟨b⟩⟩:=b;simp at h1;rw[h1]
@[simp] theorem Jjc(a b:ByteArray):(rn a=rn b)=(a=b):=propext ⟨Xw4,fun h=>by rw[h]⟩
def rnS(op:Int)(s:ByteArray):ByteArray:=if isVn op=true\/(op=10/\s≠⟨#[]⟩)then rn s else s
mutual
def renT:T->T
 |.mk op s n l x=>.mk op (rnS op s) n (renL l) x
def renL:List T->List T
 |[]=> []
 |t::r=>renT t::renL r
end
def renF(f:Fn):Fn:={f with name:=if f.name=⟨#[]⟩then⟨#[]⟩else rn f.name,vars:=f.vars.map rn}
def renW(w:Wk):Wk:={w with fs:=w.fs.map renF}
@[simp] theorem Jhp(w):(renW w).e=w.e:=rfl
@[simp] theorem Xw5(w):(renW w).mark=w.mark:=rfl
@[simp] theorem Jc5(w):(renW w).fs=w.fs.map renF:=rfl
@[simp] theorem Jc6(t):(renT t).op=t.op:=by cases t;rfl
theorem Xro{op:Int}(h:isDec op=true):isVn op=true:=by simp only[isDec,Bool.or_eq_true,decide_eq_true_eq]at h;rcases h with((rfl|rfl)|rfl)|rfl<;>rfl
theorem Xj6{s:ByteArray}(h:Xbq s=true):s≠⟨#[]⟩:=by rintro rfl;simp[Xbq]at h
def NE(l:List ByteArray):Prop:=(⟨#[]⟩:ByteArray)∉l
theorem NE.withS{l:List ByteArray}{s:ByteArray}(h:NE l)(hs:s≠⟨#[]⟩):NE (withS l s):=by
 unfold NE YP.withS at*;split
 ·exact h
 ·simp only[List.mem_append,List.mem_singleton,not_or];exact⟨h,fun e=>hs e.symm⟩
mutual
theorem Xk6:∀(t:T) (o:List ByteArray),t.wf->NE o->NE (decT t o)
 |.mk op s n l x,o,hw,ho=>by
  simp only[decT]
  have h1:NE (if isDec op=true then withS o s else o):=by
   split
   ·rename_i hd;exact ho.withS (Xj6 (hw.2.2.1 (Xro hd)))
   ·exact ho
  split
  ·exact h1
  ·exact decL_ne l _ hw.2.2.2.2 h1
theorem decL_ne:∀(l:List T) (o:List ByteArray),T.wfL l->NE o->NE (decL l o)
 |[],o,_,ho=>ho
 |t::r,o,hw,ho=>decL_ne r _ hw.2 (Xk6 t o hw.1 ho)
end
theorem Xj3:∀(l:List T) (o:List ByteArray),(∀u∈l,u.op=1/\u.wf)->NE o->NE (l.foldl (fun o x=>withS o x.s) o)
 |[],o,_,ho=>ho
 |t::r,o,h,ho=>by simp only[List.foldl_cons];refine Xj3 r _ (fun u hu=>h u (by simp[hu])) (ho.withS ?_);obtain⟨h1,h2⟩:=h t (by simp);obtain⟨op,s,n,l,x⟩:=t;simp only[T.op_mk]at h1;subst h1;exact Xj6 (h2.2.2.1 rfl)
theorem Jd2(op:Int)(s:ByteArray)(n:Int)(l:List T)(x at_:Int)(mark:Nat)(hf:isFn op=true)(hw:(T.mk op s n l x).wf):NE (Xb8 op s l at_ mark).vars:=by
 obtain⟨h1,h2,h3,⟨h4, -⟩,h5⟩:=hw;obtain⟨hl,hp⟩:=h2 hf;have hb:(l.getLast?.getD default).wf:=by rw[List.getLast?_eq_some_getLast hl];exact T.wfL_mem h5 (List.getLast_mem hl)
 have hps:NE (Xc6 l):=Xj3 l.dropLast [] (fun u hu=>⟨hp u hu,T.wfL_mem h5 (List.dropLast_subset l hu)⟩) (by simp[NE]);unfold Xb8;refine Xk6 _ _ hb ?_;split
 ·rename_i h10;exact hps.withS h10.2
 ·exact hps
def NEs(fs:List Fn):Prop:=∀f∈fs,NE f.vars
theorem NEs.app{a:List Fn}{f:Fn}(h:NEs a)(hf:NE f.vars):NEs (a++ [f]):=fun g hg=>by
 rcases List.mem_append.1 hg with hg|hg
 ·exact h g hg
 ·rw[List.mem_singleton]at hg;subst hg;exact hf
mutual
theorem Xtb(at_:Nat)(loop:Bool):∀(t:T) (w:Wk),t.wf->NEs w.fs->NEs (wT at_ loop t w).2.fs
 |.mk op s n l x,w,hw,h=>by
  by_cases hwe:w.e≠0
  ·rw[Xg3 _ _ _ _ hwe];exact h
  simp only[wT,if_neg hwe];split
  ·rename_i hf;split
   ·rw[Xgu];exact h
   ·exact wP_ne w.fs.length l {w with mark:=w.mark+2,fs:=w.fs++ [Xb8 op s l at_ w.mark]} hw.2.2.2.2 (h.app (Jd2 op s n l x at_ w.mark hf hw))
  ·have:=wL_ne at_ ((Xal at_ loop op s n x w).2.1||decide (op=35)) l (Xal at_ loop op s n x w).2.2 hw.2.2.2.2 (by rw[Xfl];exact h);exact this
theorem wL_ne(at_:Nat)(loop:Bool):∀(l:List T) (w:Wk),T.wfL l->NEs w.fs->NEs (wL at_ loop l w).2.fs
 |[],w,_,h=>h
 |t::r,w,hw,h=>wL_ne at_ loop r _ hw.2 (Xtb at_ loop t w hw.1 h)
theorem wP_ne(me:Nat):∀(l:List T) (w:Wk),T.wfL l->NEs w.fs->NEs (wP me l w).2.fs
 |[],w,_,h=>h
 |[t],w,hw,h=>by simp only[wP];exact Xtb me false t w hw.1 h
 |t::u::r,w,hw,h=>by simp only[wP];exact wP_ne me (u::r) w hw.2 h
end
theorem Xm2(t:T)(h:(resolve t).2.2.2=0):NEs (resolve t).1:=by obtain⟨hr,hl,w,hw,he,hres⟩:=Xcy t h;rw[hres];refine Xtb 0 false t w (Xgr hr) ?_;rw[hw];intro f hf;rw[List.mem_singleton]at hf;subst hf;exact Xk6 t [] (Xgr hr) (by simp[NE])
theorem Xrm(s:ByteArray)(l:List ByteArray)(h:s∉l):ixS s l=none:=by have:=Xfa s l;simp only[h,decide_false]at this;simpa using this
theorem Xi5{l:List ByteArray}{s:ByteArray}(h:l.Nodup):(withS l s).Nodup:=by
 unfold withS;split
 ·exact h
 ·rename_i hs;rw[List.nodup_append];refine⟨h,by simp,fun a ha b hb=>?_⟩;rw[List.mem_singleton]at hb;subst hb;exact fun e=>hs (e▸ha)
mutual
theorem Xk7:∀(t:T) (o:List ByteArray),o.Nodup->(decT t o).Nodup
 |.mk op s n l x,o,ho=>by
  simp only[decT]
  have h1:(if isDec op=true then withS o s else o).Nodup:=by
   split
   ·exact Xi5 ho
   ·exact ho
  split
  ·exact h1
  ·exact decL_nd l _ h1
theorem decL_nd:∀(l:List T) (o:List ByteArray),o.Nodup->(decL l o).Nodup
 |[],o,ho=>ho
 |t::r,o,ho=>decL_nd r _ (Xk7 t o ho)
end
theorem Xhe:∀(l:List T) (o:List ByteArray),o.Nodup->(l.foldl (fun o x=>withS o x.s) o).Nodup
 |[],o,ho=>ho
 |t::r,o,ho=>by simp only[List.foldl_cons];exact Xhe r _ (Xi5 ho)
theorem Jd3(op:Int)(s:ByteArray)(l:List T)(at_:Int)(mark:Nat):(Xb8 op s l at_ mark).vars.Nodup:=by
 unfold Xb8;refine Xk7 _ _ ?_;split
 ·exact Xi5 (Xhe _ _ (by simp))
 ·exact Xhe _ _ (by simp)
def NDs(fs:List Fn):Prop:=∀f∈fs,f.vars.Nodup
theorem NDs.app{a:List Fn}{f:Fn}(h:NDs a)(hf:f.vars.Nodup):NDs (a++ [f]):=fun g hg=>by
 rcases List.mem_append.1 hg with hg|hg
 ·exact h g hg
 ·rw[List.mem_singleton]at hg;subst hg;exact hf
mutual
theorem Xtc(at_:Nat)(loop:Bool):∀(t:T) (w:Wk),NDs w.fs->NDs (wT at_ loop t w).2.fs
 |.mk op s n l x,w,h=>by
  by_cases hwe:w.e≠0
  ·rw[Xg3 _ _ _ _ hwe];exact h
  simp only[wT,if_neg hwe];split
  ·split
   ·rw[Xgu];exact h
   ·exact wP_nd w.fs.length l {w with mark:=w.mark+2,fs:=w.fs++ [Xb8 op s l at_ w.mark]} (h.app (Jd3 op s l at_ w.mark))
  ·exact wL_nd at_ ((Xal at_ loop op s n x w).2.1||decide (op=35)) l (Xal at_ loop op s n x w).2.2 (by rw[Xfl];exact h)
theorem wL_nd(at_:Nat)(loop:Bool):∀(l:List T) (w:Wk),NDs w.fs->NDs (wL at_ loop l w).2.fs
 |[],w,h=>h
 |t::r,w,h=>wL_nd at_ loop r _ (Xtc at_ loop t w h)
theorem wP_nd(me:Nat):∀(l:List T) (w:Wk),NDs w.fs->NDs (wP me l w).2.fs
 |[],w,h=>h
 |[t],w,h=>by simp only[wP];exact Xtc me false t w h
 |t::u::r,w,h=>by simp only[wP];exact wP_nd me (u::r) w h
end
theorem Xm3(t:T)(h:(resolve t).2.2.2=0):NDs (resolve t).1:=by obtain⟨hr,hl,w,hw,he,hres⟩:=Xcy t h;rw[hres];refine Xtc 0 false t w ?_;rw[hw];intro f hf;rw[List.mem_singleton]at hf;subst hf;exact Xk7 t [] (by simp)
mutual
def dT(fs:List Fn)(f:Nat):T->Prop
 |.mk op s n l _=>if isFn op then(op=41->InV fs f s)/\dB fs n.toNat l else dL fs f l
def dL(fs:List Fn)(f:Nat):List T->Prop
 |[]=>True
 |t::r=>dT fs f t/\dL fs f r
def dB(fs:List Fn)(g:Nat):List T->Prop
 |[]=>True
 |t::r=>(r=[]->dT fs g t)/\dB fs g r
end
mutual
theorem dT.mono{fs fs':List Fn}(h:fs<+:fs'):∀(t:T) (f:Nat),dT fs f t->dT fs' f t
 |.mk op s n l x,f,g=>by
  simp only[dT]at g⊢;split at g
  ·rename_i hf;rw[if_pos hf];exact⟨fun e=>(g.1 e).mono h,dB.mono h l _ g.2⟩
  ·rename_i hf;rw[if_neg hf];exact dL.mono h l f g
theorem dL.mono{fs fs':List Fn}(h:fs<+:fs'):∀(l:List T) (f:Nat),dL fs f l->dL fs' f l
 |[],f,_=>trivial
 |t::r,f,g=>⟨dT.mono h t f g.1,dL.mono h r f g.2⟩
theorem dB.mono{fs fs':List Fn}(h:fs<+:fs'):∀(l:List T) (f:Nat),dB fs f l->dB fs' f l
 |[],f,_=>trivial
 |t::r,f,g=>⟨fun e=>dT.mono h t f (g.1 e),dB.mono h r f g.2⟩
end
mutual
theorem wT_d(at_:Nat)(loop:Bool):∀(t:T) (w:Wk),at_<w.fs.length->(∃out,∀s∈decT t out,InV w.fs at_ s)->(wT at_ loop t w).2.e=0->dT (wT at_ loop t w).2.fs at_ (wT at_ loop t w).1
 |.mk op s n l x,w,ha,hd,he=>by
  by_cases hwe:w.e≠0
  ·rw[Xg3 _ _ _ _ hwe]at he;exact absurd he hwe
  simp only[wT,if_neg hwe]at he⊢;split at he
  ·rename_i hf;rw[if_pos hf];split at he
   ·exact absurd he (Xpd _ _ _ (by decide))
   ·rename_i hlim;rw[if_neg hlim];have hv:=Xk2 op s l at_ w.mark;have hr:=wP_d w.fs.length l {w with mark:=w.mark+2,fs:=w.fs++ [Xb8 op s l at_ w.mark]} (by simp) (fun b hb=>by obtain⟨out,ho⟩:=hv.2.1;rw[hb]at ho;exact⟨out,fun y hy=>⟨Xb8 op s l at_ w.mark,by simp,by rw[ho];exact hy⟩⟩) he;simp only[dT,if_pos hf,Int.toNat_natCast];refine⟨fun h41=>?_,hr⟩;obtain⟨out,ho⟩:=hd;refine(ho s ?_).mono ((List.prefix_append w.fs [Xb8 op s l at_ w.mark]).trans (wP_pfx w.fs.length l {w with mark:=w.mark+2,fs:=w.fs++ [Xb8 op s l at_ w.mark]}));subst h41;simp only[decT,if_pos hf];rw[if_pos (by rfl)];exact Xf2 _ _
  ·rename_i hf;rw[if_neg hf];simp only at he⊢;have hqf:=Xfl at_ loop op s n x w;have hdl:∃out,∀y∈decL l out,InV (Xal at_ loop op s n x w).2.2.fs at_ y:=by obtain⟨out,ho⟩:=hd;simp only[decT,if_neg hf]at ho;exact⟨_,fun y hy=>by rw[hqf];exact ho y hy⟩
   have hr:=wL_d at_ ((Xal at_ loop op s n x w).2.1||decide (op=35)) l _ (by rw[hqf];exact ha) hdl he;simp only[dT,if_neg hf];exact hr
theorem wL_d(at_:Nat)(loop:Bool):∀(l:List T) (w:Wk),at_<w.fs.length->(∃out,∀s∈decL l out,InV w.fs at_ s)->(wL at_ loop l w).2.e=0->dL (wL at_ loop l w).2.fs at_ (wL at_ loop l w).1
 |[],w,_,_,_=>trivial
 |t::r,w,ha,hd,he=>by
  simp only[wL]at he⊢;obtain⟨out,ho⟩:=hd;simp only[decL]at ho;have he1:(wT at_ loop t w).2.e=0:=by refine Classical.byContradiction fun hc=>?_;rw[Xix _ _ _ _ hc]at he;exact hc he
  have h1:=wT_d at_ loop t w ha ⟨out,fun y hy=>ho y (decL_sub _ _ _ hy)⟩ he1;have hp:=Xjo at_ loop t w;have h2:=wL_d at_ loop r _ (Nat.lt_of_lt_of_le ha hp.length_le) ⟨_,fun y hy=>(ho y hy).mono hp⟩ he;exact⟨dT.mono (wL_pfx at_ loop r _) _ _ h1,h2⟩
theorem wP_d(me:Nat):∀(l:List T) (w:Wk),me<w.fs.length->(∀b,l.getLast?.getD default=b->∃out,∀s∈decT b out,InV w.fs me s)->(wP me l w).2.e=0->dB (wP me l w).2.fs me (wP me l w).1
 |[],w,_,_,_=>trivial
 |[t],w,ha,hd,he=>by simp only[wP]at he⊢;exact⟨fun _=>wT_d me false t w ha (hd t rfl) he,trivial⟩
 |t::u::r,w,ha,hd,he=>by simp only[wP]at he⊢;have h2:=wP_d me (u::r) w ha (fun b hb=>hd b (by simpa using hb)) he;refine⟨fun e=>?_,h2⟩;rcases r with _|⟨v,r⟩<;>simp[wP]at e
end
theorem Xoe(t:T)(h:(resolve t).2.2.2=0):dT (resolve t).1 0 (resolve t).2.1:=by obtain⟨hr,hl,w,hw,he,hres⟩:=Xcy t h;rw[hres];exact wT_d 0 false t w (by rw[hw];simp) ⟨[],fun s hs=>⟨_,by rw[hw];rfl,hs⟩⟩ he
mutual
def frE:T->Prop
 |.mk op _ _ l _=>(isFn op=true->0<l.length/\∀j u,l[j]?=some u->if j+1=l.length then u.op=32 else u.op=1/\u.l=[])/\frEL l
def frEL:List T->Prop
 |[]=>True
 |t::r=>frE t/\frEL r
end
theorem Xo7:∀{l:List T},(∀t∈l,frE t)->frEL l
 |[],_=>trivial
 |a::r,h=>⟨h a (by simp),Xo7 fun t ht=>h t (by simp[ht])⟩
theorem Xpa:∀(h:Nat) (t:T),fit h t=true->frE t
 |0,_,e=>by simp[fit]at e
 |h+1,.mk op s n l x,e=>by
  simp only[fit,Bool.and_eq_true]at e;obtain⟨⟨e1,e2⟩,e3⟩:=e;have hp:=Xhl _ _ _ _ _ e3;refine⟨fun hf=>⟨?_,fun j u hj=>?_⟩,Xo7 fun t ht=>Xpa h t (Xfs _ _ _ _ _ e3 t ht)⟩
  ·have hop:op=10\/op=41:=by simp[isFn]at hf;omega
   rcases hop with rfl|rfl<;>(simp[okF,Xaw,forms]at e1;omega)
  ·obtain⟨h1,h2⟩:=hp j u hj;have hop:op=10\/op=41:=by simp[isFn]at hf;omega
   simp only[Xbc,if_pos hop,Nat.zero_add]at h1;split at h1
   ·rename_i hl;rw[if_pos hl];exact of_decide_eq_true h1
   ·rename_i hl;rw[if_neg hl];have h1:=of_decide_eq_true h1;exact⟨h1,Xl5 h u h2 h1⟩
mutual
theorem Xl3:∀t:T,frE (Xdu t)->frE t
 |.mk op s n l x,h=>by simp only[Xdu,frE]at h⊢;obtain⟨h1,h2⟩:=h;refine⟨fun hf=>?_,frEL_bare l h2⟩;obtain⟨h3,h4⟩:=h1 hf;rw[Xen]at h3 h4;simp only[List.length_map]at h3 h4;refine⟨h3,fun j u hu=>?_⟩;have:=h4 j (Xdu u) (by rw[List.getElem?_map,hu];rfl);rw[Xlb,Xsz,Xen]at this;simpa using this
theorem frEL_bare:∀l:List T,frEL (bareL l)->frEL l
 |[],_=>trivial
 |t::r,h=>⟨Xl3 t h.1,frEL_bare r h.2⟩
end
theorem Xkv(t:T)(h:(resolve t).2.2.2=0):frE (resolve t).2.1:=by obtain⟨hr, -⟩:=Xcy t h;refine Xl3 _ ?_;rw[(Xgk t h).1];simp only[right,rBlk,Bool.and_eq_true]at hr;exact Xpa _ _ hr.2
mutual
theorem Xvn{fs:List Fn}{bs:List Int}(hnd:NDs fs)(hne:NEs fs):∀(t:T) (f:Nat),goodT fs t->frm t->frE t->dT fs f t->RW fs bs f t->RD fs bs f t
 |.mk op s n l x,f,hg,hr,he,hd,hw=>by
  simp only[RW]at hw;simp only[dT]at hd;simp only[RD];by_cases hfn:isFn op=true
  ·rw[if_pos hfn]at hw hd⊢;obtain⟨h1,⟨g,h2,h3⟩,h4⟩:=hw;refine⟨h1,⟨g,h2,h3⟩,⟨fun h41=>?_,fun h10=>?_⟩,?_⟩
   ·obtain⟨G,hG,hs⟩:=hd.1 h41;have:=Xfa s G.vars;rw[decide_eq_true hs]at this;exact⟨G,hG,Option.isSome_iff_exists.1 this⟩
   ·obtain⟨-,F,hF, -⟩:=hg.2.1 hfn;have hm:=List.mem_of_getElem? hF;exact⟨F,hF,hnd F hm,fun e=>by subst e;exact Xrm _ _ (hne F hm)⟩
   ·obtain⟨e1,e2⟩:=he.1 hfn;exact RDB_of hnd hne l n.toNat e1 e2 hg.2.2 hr.2 he.2 hd.2 h4
  ·rw[if_neg hfn]at hw hd⊢;exact⟨hw.1,fun h37=>by rw[hr.1.throw h37];exact Nat.one_pos,RDL_of hnd hne l f hg.2.2 hr.2 he.2 hd hw.2⟩
theorem RDL_of{fs:List Fn}{bs:List Int}(hnd:NDs fs)(hne:NEs fs):∀(l:List T) (f:Nat),goodL fs l->frmL l->frEL l->dL fs f l->RWL fs bs f l->RDL fs bs f l
 |[],_,_,_,_,_,_=>trivial
 |t::r,f,hg,hr,he,hd,hw=>⟨Xvn hnd hne t f hg.1 hr.1 he.1 hd.1 hw.1,RDL_of hnd hne r f hg.2 hr.2 he.2 hd.2 hw.2⟩
theorem RDB_of{fs:List Fn}{bs:List Int}(hnd:NDs fs)(hne:NEs fs):∀(l:List T) (g:Nat),0<l.length->(∀j u,l[j]?=some u->if j+1=l.length then u.op=32 else u.op=1/\u.l=[])->goodL fs l->frmL l->frEL l->dB fs g l->RWB fs bs g l->RDB fs bs g l
 |[],_,h0,_,_,_,_,_,_=>by simp at h0
 |t::r,g,h0,h,hg,hr,he,hd,hw=>by
  simp only[RDB];by_cases hrn:r=[]
  ·subst hrn;have h32:t.op=32:=by simpa using h 0 t rfl
   exact .inl ⟨rfl,h32,Xvn hnd hne t g hg.1 hr.1 he.1 (hd.1 rfl) (hw.1 h32)⟩
  ·have hl:0<r.length:=List.length_pos_iff.2 hrn;have h1:=h 0 t rfl;rw[if_neg (by simp;omega)]at h1;refine .inr ⟨hrn,by rw[h1.1];decide,?_,RDB_of hnd hne r g hl (fun j u hj=>?_) hg.2 hr.2 he.2 hd.2 hw.2⟩
   ·obtain⟨op,s,n,l,x⟩:=t;obtain⟨-,h2⟩:=h1;simp only[T.l_mk]at h2;subst h2;rfl
   ·have:=h (j+1) u (by simpa using hj);simpa using this
end
theorem Xtk(t:T)(ht:t.ok)(hw:t.wt<=1000000000)(k:Nat)(hk:40*t.wt+10000<=k):PureC k 34 [.agg t.enc] (rulV (rulesM t)):=by
 have hwt:=Xdn t;obtain⟨h1,h2⟩:=Xcq t
 exact f34 t ht hw (by omega) (by omega) (fun h=>(Xcr t h).2.2.2) (fun G hG=>by have:=(h2 G hG).1;omega) (fun G hG=>by have:=(h2 G hG).2;omega)
  (fun h=>BehA.of ⟨by omega,by have:=Xb3 (resolve t).2.1;omega⟩ (by omega) (fun G hG=>by have:=(h2 G hG).1;omega) (Xcr t h).2.2.2)
  (fun h=>Xvn (Xm3 t h) (Xm2 t h) _ 0 (Xcr t h).1 (Xhb t h) (Xkv t h) (Xoe t h) (Xii t hw h)) k (by omega)
theorem Jdw:doCall (Xh3 400) {base:=0,rob:=0,rom:=0} .full (.fn 24) [.str ⟨#[118,97,114,32,97,32,61,32,123,125]⟩] ⟨[],[]⟩=some (.ok (.agg [.int .i64 32,.str ⟨#[]⟩,.int .i64 0,.sl none 1 [.int .i64 30,.str ⟨#[97]⟩,.int .i64 0,.sl none 1 [.int .i64 11,.str ⟨#[]⟩,.int .i64 0,.sl none 0 [],.int .i64 1],.int .i64 1],.int .i64 1]),⟨[],[]⟩):=by kernel_rfl
theorem k24g:doCall (aCall prog 400) {base:=0,rob:=0,rom:=0} .full (.fn 24) [.str ⟨#[118,97,114,32,97,32,61,32,123,125]⟩] ⟨[],[]⟩=some (.ok (.agg [.int .i64 32,.str ⟨#[]⟩,.int .i64 0,.sl none 1 [.int .i64 30,.str ⟨#[97]⟩,.int .i64 0,.sl none 1 [.int .i64 11,.str ⟨#[]⟩,.int .i64 0,.sl none 0 [],.int .i64 1],.int .i64 1],.int .i64 1]),⟨[],[]⟩):=by have h:=Jdw;rw[Xh2]at h;exact h
theorem Jdv:(fun Y:ABlk=>doCall (Xh3 400) {base:=0,rob:=0,rom:=0} .full (.fn 24) [.str ⟨#[118,97,114,32,97,10,98]⟩] ⟨[Y],[]⟩)=fun Y:ABlk=>some (.ok (.agg [.int .i64 32,.str ⟨#[]⟩,.int .i64 0,.sl none 2 [.int .i64 30,.str ⟨#[97]⟩,.int .i64 0,.sl none 0 [],.int .i64 1,.int .i64 31,.str ⟨#[]⟩,.int .i64 0,.sl none 1 [.int .i64 1,.str ⟨#[98]⟩,.int .i64 0,.sl none 0 [],.int .i64 2],.int .i64 2],.int .i64 1]),⟨[Y],[]⟩):=by kernel_rfl
theorem k24h(Y:ABlk):doCall (aCall prog 400) {base:=0,rob:=0,rom:=0} .full (.fn 24) [.str ⟨#[118,97,114,32,97,10,98]⟩] ⟨[Y],[]⟩=some (.ok (.agg [.int .i64 32,.str ⟨#[]⟩,.int .i64 0,.sl none 2 [.int .i64 30,.str ⟨#[97]⟩,.int .i64 0,.sl none 0 [],.int .i64 1,.int .i64 31,.str ⟨#[]⟩,.int .i64 0,.sl none 1 [.int .i64 1,.str ⟨#[98]⟩,.int .i64 0,.sl none 0 [],.int .i64 2],.int .i64 2],.int .i64 1]),⟨[Y],[]⟩):=by have h:=congrFun Jdv Y;rw[Xh2]at h;exact h
theorem f56(l:List Int)(hl:l.length<=1000000000000)(k:Nat)(hk:l.length+3<=k):PureC k 56 [.sl none l.length (l.map (.int .i64)),.sl none l.length (l.map (.int .i64))] (.bool true):=by
 intro E st hE;obtain⟨k,rfl⟩:=uK (k:=k) (by omega);refine Xaz rfl rfl (by decide) fun s hs e0 e1=>?_;simp[hs,e0,e1]
 refine Xau (fun n s m st'=> ∃j:Nat,j<=l.length/\n=l.length - j/\s.length=26/\m=[]/\lk s 0=.sl none l.length (l.map (.int .i64))/\lk s 1=.sl none l.length (l.map (.int .i64))/\lk s 5=.int .i64 j/\st'=st) l.length (by omega)
  ⟨0,by omega,by omega,by simp[hs],rfl,by simp[hs,e0],by simp[hs,e1],by simp[hs],rfl⟩ ?_
 clear hs e0 e1;rintro _ s m _ ⟨j,hj,rfl,hs,rfl,e0,e1,e5,rfl⟩;by_cases hc:j<l.length
 ·have hwj:=Xah (n:=(j:Int)+1) (by omega);simp[Nat.testBit,hs,e0,e1,e5,hc];simp[hs,e5,hwj];exact⟨_,by omega,j+1,by omega,rfl,by simp[hs],rfl,by simp[hs,e0],by simp[hs,e1],by simp[hs],rfl⟩
 ·simp[hs,e0,e5,hc];exact Grow.refl _
theorem f49(r:Rule)(hl:r.l.length<=1000000000000)(k:Nat)(hk:r.l.length+10<=k):PureC k 49 [.agg r.enc,.agg r.enc] (.bool true):=by intro E st hE;obtain⟨k,rfl⟩:=uK (k:=k) (by omega);have c56:=f56 r.l hl k (by omega) E ⟨st.H++ [.cells 55 r.enc,.cells 55 r.enc],st.I⟩ (hE.of (by simp) (by simp));simp only[Rule.enc]at c56⊢;refine Xaz rfl rfl (by decide) fun s hs e0 e1=>?_;simp[hs,e0,e1];refine Xac c56 fun p hp=>?_;obtain⟨q,st2⟩:=p;obtain⟨v,r1,r2,r3⟩:=hp;simp only at r1 r2;subst r1;have r3:=Xef r3;subst r3;have a0:st2.H[st.H.length]?=some (.cells 55 [.int .i64 r.kind,.int .i64 r.f,.int .i64 r.x,.int .i64 r.y,.int .i64 r.z,.int .i64 r.n,.int .i64 r.m,.str r.s,.sl none r.l.length (r.l.map (.int .i64))]):=Xcf r2.H (by simp);have a1:st2.H[st.H.length+1]?=some (.cells 55 [.int .i64 r.kind,.int .i64 r.f,.int .i64 r.x,.int .i64 r.y,.int .i64 r.z,.int .i64 r.n,.int .i64 r.m,.str r.s,.sl none r.l.length (r.l.map (.int .i64))]):=Xcf r2.H (by simp);simp[hs,a0,a1];exact⟨(List.prefix_append _ _).trans r2.H,r2.I⟩
def sysE(n:Int)(F:List FS)(R:List Rule):List AV:=[.int .i64 n,.sl none F.length (Xbn F),.sl none R.length (encR R)]
theorem f35(n:Int)(F:List FS)(R:List Rule)(hF:F.length<=1000000000)(hR:R.length<=1000000000)(hFp:∀x∈F,x.params.length<=1000000000)(hRl:∀x∈R,x.l.length<=1000000000)(k:Nat)(hk:1000010010<=k):PureC k 35 [.agg (sysE n F R),.agg (sysE n F R)] (.bool true):=by
  intro E st hE;obtain⟨k,rfl⟩:=uK (k:=k) (by omega);unfold sysE;refine Xaz rfl rfl (by decide) fun s hs e0 e1=>?_;simp[hs,e0,e1]
  refine Xau (fun n' s m st'=> ∃(j:Nat) (H:List ABlk),j<=F.length/\n'=F.length - j/\s.length=104/\m=[]/\lk s 2=.ptr st.H.length 0/\lk s 3=.ptr (st.H.length+1) 0/\lk s 5=.int .i64 j/\st.I<+:st'.I/\
      st'.H=st.H++([.cells 49 [.int .i64 n,.sl none F.length (Xbn F),.sl none R.length (encR R)],.cells 49 [.int .i64 n,.sl none F.length (Xbn F),.sl none R.length (encR R)]]++H)) F.length (by omega)
    ⟨0,[],by omega,by omega,by simp[hs],rfl,by simp[hs],by simp[hs],by simp[hs],List.prefix_rfl,by simp⟩ ?_
  clear hs e0 e1;rintro _ s m ⟨H',I'⟩ ⟨j,H,hj,rfl,hs,rfl,e2,e3,e5,hI,hH⟩;simp only at hH hI;subst hH;have b0:∀x,(st.H++([ABlk.cells 49 [.int .i64 n,.sl none F.length (Xbn F),.sl none R.length (encR R)],.cells 49 [.int .i64 n,.sl none F.length (Xbn F),.sl none R.length (encR R)]]++H)++x)[st.H.length]?=some (.cells 49 [.int .i64 n,.sl none F.length (Xbn F),.sl none R.length (encR R)]):=fun x=>by simp
  have b1:∀x,(st.H++([ABlk.cells 49 [.int .i64 n,.sl none F.length (Xbn F),.sl none R.length (encR R)],.cells 49 [.int .i64 n,.sl none F.length (Xbn F),.sl none R.length (encR R)]]++H)++x)[st.H.length+1]?=some (.cells 49 [.int .i64 n,.sl none F.length (Xbn F),.sl none R.length (encR R)]):=fun x=>by rw[List.append_assoc,Xby];simp
  have hE2:E.Wf ⟨st.H++([ABlk.cells 49 [.int .i64 n,.sl none F.length (Xbn F),.sl none R.length (encR R)],.cells 49 [.int .i64 n,.sl none F.length (Xbn F),.sl none R.length (encR R)]]++H),I'⟩:=hE.of (by simp) hI.length_le;have hGl:st.H<+:st.H++([ABlk.cells 49 [.int .i64 n,.sl none F.length (Xbn F),.sl none R.length (encR R)],.cells 49 [.int .i64 n,.sl none F.length (Xbn F),.sl none R.length (encR R)]]++H):=List.prefix_append _ _;generalize hHH:st.H++([ABlk.cells 49 [.int .i64 n,.sl none F.length (Xbn F),.sl none R.length (encR R)],.cells 49 [.int .i64 n,.sl none F.length (Xbn F),.sl none R.length (encR R)]]++H)=HH at b0 b1 hE2 hGl⊢;have a0:=b0 [];have a1:=b1 [];rw[List.append_nil]at a0 a1;have hmw:=Xaa hE2;by_cases hc:j<F.length
  ·obtain⟨x,hg⟩:∃x,F[j]?=some x:=⟨_,List.getElem?_eq_getElem hc⟩;have hrd:=Xmc hg;have hwj:=Xah (n:=(j:Int)+1) (by omega);have hxp:=hFp x (List.mem_of_getElem? hg);have c56:=f56 x.params (by omega) k (by omega) E ⟨HH++ [.cells 82 x.enc,.cells 82 x.enc],I'⟩ (hE2.of (by simp) (by simp));simp only[FS.enc]at hrd c56;simp[hs,e2,e3,e5,a0,a1,Xae a0,Xae a1,hc,hrd,Xag,hmw,wrC];refine Xac c56 fun p hp=>?_;obtain⟨q,st2⟩:=p;obtain⟨v,r1,r2,r3⟩:=hp;simp only at r1 r2;subst r1;have r3:=Xef r3;subst r3;have d0:st2.H[HH.length]?=some (.cells 82 x.enc):=Xcf r2.H (by simp[FS.enc]);have d1:st2.H[HH.length+1]?=some (.cells 82 x.enc):=Xcf r2.H (by simp[FS.enc]);simp only[FS.enc]at d0 d1;simp[hs,d0,d1];simp[hs,e5,hwj];obtain⟨tl,htl⟩:=r2.H;refine⟨_,by omega,j+1,H++([.cells 82 x.enc,.cells 82 x.enc]++tl),by omega,rfl,by simp[hs],rfl,by simp[hs,e2],by simp[hs,e3],by simp[hs],hI.trans r2.I,?_⟩;rw[<-htl,<-hHH];simp[FS.enc]
  ·have hjF:j=F.length:=by omega
   have c49:=fun(i:Nat) (r:Rule) (hr:R[i]?=some r) st3 (h:E.Wf st3)=>(f49 r (by have:=hRl r (List.mem_of_getElem? hr);omega) k (by have:=hRl r (List.mem_of_getElem? hr);omega)).full (E:=E) (st:=st3) (by simp) h (by simp[Rule.enc_fin]);simp[hs,e2,e3,e5,a0,a1,hc]
   refine Xau (fun n' s m st'=> ∃(i:Nat),i<=R.length/\n'=R.length - i/\s.length=104/\m=[]/\lk s 2=.ptr st.H.length 0/\lk s 3=.ptr (st.H.length+1) 0/\lk s 8=.int .i64 i/\st'=⟨HH,I'⟩) R.length (by omega)
     ⟨0,by omega,by omega,by simp[hs],rfl,by simp[hs,e2],by simp[hs,e3],by simp[hs],rfl⟩ ?_
   clear hs e2 e3 e5;rintro _ s m _ ⟨i,hi,rfl,hs,rfl,e2,e3,e8,rfl⟩;by_cases hd:i<R.length
   ·obtain⟨r,hg⟩:∃r,R[i]?=some r:=⟨_,List.getElem?_eq_getElem hd⟩;have hrd:=Xk4 hg;have hwi:=Xah (n:=(i:Int)+1) (by omega);have c:=c49 i r hg ⟨HH,I'⟩ hE2;simp only[Rule.enc]at hrd c;simp[Nat.testBit,hs,e2,e3,e8,a0,a1,hd,hrd,c];simp[hs,e8,hwi];exact⟨_,by omega,i+1,by omega,rfl,by simp[hs],rfl,by simp[hs,e2],by simp[hs,e3],by simp[hs],rfl⟩
   ·simp[hs,e2,e3,e8,a0,hd];exact⟨hGl,hI⟩
def tC:T:=.mk 32 ⟨#[]⟩ 0 [.mk 30 ⟨#[97]⟩ 0 [.mk 11 ⟨#[]⟩ 0 [] 1] 1] 1
def tD:T:=.mk 32 ⟨#[]⟩ 0 [.mk 30 ⟨#[97]⟩ 0 [] 1,.mk 31 ⟨#[]⟩ 0 [.mk 1 ⟨#[98]⟩ 0 [] 2] 2] 1
theorem rC:rulV (rulesM tC)=.tup [.sl none 1 [.int .i64 (-1),.str ⟨#[]⟩,.int .i64 0,.sl none 1 [.str ⟨#[97]⟩],.int .i64 0],.agg [.int .i64 16,.sl none 1 [.int .i64 0,.sl none 0 [],.int .i64 4,.int .i64 5,.int .i64 6],.sl none 2 [.int .i64 3,.int .i64 0,.int .i64 2,.int .i64 3,.int .i64 0,.int .i64 0,.int .i64 0,.str ⟨#[]⟩,.sl none 0 [],.int .i64 1,.int .i64 0,.int .i64 2,.int .i64 0,.int .i64 0,.int .i64 0,.int .i64 4,.str ⟨#[]⟩,.sl none 0 []]],.int .i64 0,.int .i64 0]:=by kernel_rfl
theorem rD:rulV (rulesM tD)=.tup [.sl none 0 [],.agg [.int .i64 0,.sl none 0 [],.sl none 0 []],.int .i64 2,.int .i64 50]:=by kernel_rfl
theorem Jcx:tC.ok:=by simp[tC,T.ok,T.okL,ok64];decide
theorem Jcv:tD.ok:=by simp[tD,T.ok,T.okL,ok64];decide
theorem Jcw:tC.wt<=100:=by decide
theorem Jcu:tD.wt<=100:=by decide
theorem Xsb(k:Nat)(hk:20000<=k)(n:Nat)(h:n<=100):n<=1000000000/\40*n+10000<=k:=by omega
theorem k33c(k:Nat)(hk:20000<=k)(E:Env)(st:St)(h:E.Wf st):doCall (aCall prog k) E .full (.fn 33) [.agg tC.enc] st=some (.ok (rulV (rulesM tC)),st):=by obtain⟨h1,h2⟩:=Xsb k hk _ Jcw;exact(Xks tC Jcx h1 k h2).full (by rw[rC];rfl) h
theorem k33d(k:Nat)(hk:20000<=k)(E:Env)(st:St)(h:E.Wf st):doCall (aCall prog k) E .full (.fn 33) [.agg tD.enc] st=some (.ok (rulV (rulesM tD)),st):=by obtain⟨h1,h2⟩:=Xsb k hk _ Jcu;exact(Xks tD Jcv h1 k h2).full (by rw[rD];rfl) h
theorem f32e(k:Nat)(hk:30000<=k):CallQ (k+1) {base:=0,rob:=0,rom:=0} 32 [] ⟨[],[]⟩ fun r st'=> ∃v,r=.ok v/\Grow ⟨[],[]⟩ st'/\v=.bool true:=by
 have c1:=Xej (Xgh (show 400<=k by omega)) _ _ _ _ _ _ (k24g);have c2:=fun Y=>Xej (Xgh (show 400<=k by omega)) _ _ _ _ _ _ (k24h Y);have c1:doCall (aCall prog k) {base:=0,rob:=0,rom:=0} .full (.fn 24) _ ⟨[],[]⟩=_:=c1;have c2:∀Y,doCall (aCall prog k) {base:=0,rob:=0,rom:=0} .full (.fn 24) _ ⟨[Y],[]⟩=_:=c2;have c3:=k33c k (by omega) {base:=0,rob:=0,rom:=0} ⟨[],[]⟩ wf0;have c4:=fun Y=>k33d k (by omega) {base:=0,rob:=0,rom:=0} ⟨[Y],[]⟩ ⟨by simp,by simp,by simp⟩;have c5:=fun Y Z=>(f49 (rSub 2 3) (by decide) k (by simp[rSub];omega)).fullA (args':=[.agg (rSub 2 3).enc,.agg [.int .i64 3,.int .i64 0,.int .i64 2,.int .i64 3,.int .i64 0,.int .i64 0,.int .i64 0,.str ⟨#[]⟩,.nils]]) (E:={base:=0,rob:=0,rom:=0}) (st:=⟨[Y,Z],[]⟩) rfl ⟨by simp,by simp,by simp⟩ (by simp[Rule.enc_fin,Rule.enc,rSub]);have c6:=fun Y Z=>(f49 {kind:=1,x:=2,m:=4} (by decide) k (by simp;omega)).fullA (args':=[.agg (Rule.enc {kind:=1,x:=2,m:=4}),.agg [.int .i64 1,.int .i64 0,.int .i64 2,.int .i64 0,.int .i64 0,.int .i64 0,.int .i64 4,.str ⟨#[]⟩,.nils]]) (E:={base:=0,rob:=0,rom:=0}) (st:=⟨[Y,Z],[]⟩) rfl ⟨by simp,by simp,by simp⟩ (by simp[Rule.enc_fin,Rule.enc,rSub]);rw[rC]at c3;rw[rD]at c4;simp[tC]at c3;simp[tD]at c4;simp only[rSub,Rule.enc,List.map_nil,List.length_nil]at c5 c6;have hm:∀j x y,0<=j->Xaf {base:=0,rob:=0,rom:=0} j x y=true:=fun j x y h=>by simp[Xaf]
 have hm1:=fun x y=>hm 0 x y (by omega);have hm2:=fun x y=>hm 1 x y (by omega);refine Xgw rfl rfl (by decide) fun s hs=>?_;simp[hs,c1,c3,Xag,hm1,wrC];simp[hs,c2,c4,Xag,hm2,wrC];simp[hs,Xap,wrC,c5,c6,rdC];exact Grow.appH ⟨[],[]⟩ _
theorem k32e:doCall (aCall prog 30001) {base:=0,rob:=0,rom:=0} .full (.fn 32) [] ⟨[],[]⟩=some (.ok (.bool true),⟨[],[]⟩):=by obtain⟨⟨r,st'⟩,e,v,e1,g,e2⟩:=f32e 30000 (Nat.le_refl _);simp only at e1 g e2;subst e1 e2;have e:aCall prog 30001 {base:=0,rob:=0,rom:=0} (.fn 32) [] ⟨[],[]⟩=some (.ok (.bool true),st'):=e;have h1:=Xc5 g.H;have h2:=Xc5 g.I;simp only[List.length_cons,List.length_nil,Nat.zero_add]at h1 h2;simp only[doCall,List.map_nil,List.length_cons,List.length_nil,Nat.zero_add,e,Xam];simp only[AV.fin,AV.refs,Xda,Xax,Xas,h1,h2]
theorem Xm0(t:T):rulV (rulesM t)=.tup [.sl none (rulesM t).1.length (encFs (rulesM t).1),.agg (sysE (rulesM t).2.1.1 (rulesM t).2.1.2.1 (rulesM t).2.1.2.2),.int .i64 (rulesM t).2.2.1,.int .i64 (rulesM t).2.2.2]:=rfl
theorem Xkr(t:T):(rulesM t).1.length<=500/\(rulesM t).2.1.2.1.length<=500/\(rulesM t).2.1.2.2.length<=3*t.wt:=by
 have h1:=(Xcq t).1;have h2:=Xoj (resolve t).1 (baseL ((resolve t).2.1.count:Nat) (resolve t).1) (resolve t).2.1 0 0 (behV (resolve t).1 (baseL ((resolve t).2.1.count:Nat) (resolve t).1) 0+2) true;have h3:=Xb3 (resolve t).2.1;have h4:=Xdn t;unfold rulesM;simp only;split
 ·simp
 ·split
  ·simp
  ·simp only[Xhi];exact⟨h1,h1,by omega⟩
theorem Xxl(fs:List Fn)(bs:List Int)(op:Int)(s:ByteArray)(n:Int)(l:List T)(x:Int)(k0:Int)(f:Nat)(to:Int):∀r∈ownR fs bs (.mk op s n l x) k0 f to,r.l.length<=l.length:=by
 intro r hr;have hpl:=Xdy (k0+1) l;unfold ownR ownS at hr;simp only[T.op_mk,T.n_mk,T.s_mk,T.l_mk]at hr;generalize posF (k0+1) l=ps at hpl hr;obtain⟨r0,h0,rfl⟩:=List.mem_map.1 hr
 have hz:r0.l=[]\/r0.l=ps.tail:=by
  by_cases o1:op=1
  ·subst o1;simp at h0;subst h0;exact .inl rfl
  by_cases o8:op=8
  ·subst o8;simp at h0;subst h0;exact .inl rfl
  by_cases o13:op=13
  ·subst o13;simp at h0;subst h0;exact .inl rfl
  by_cases o14:op=14
  ·subst o14;simp at h0;subst h0;exact .inl rfl
  by_cases o21:op=21
  ·subst o21;simp at h0;subst h0;exact .inl rfl
  by_cases o22:op=22
  ·subst o22;simp at h0;rcases h0 with rfl|rfl<;>exact .inl rfl
  by_cases o23:op=23
  ·subst o23;simp at h0;rcases h0 with rfl|rfl<;>exact .inl rfl
  by_cases o16:op=16
  ·subst o16;simp at h0;subst h0;exact .inr rfl
  by_cases o11:op=11
  ·subst o11;simp at h0;rcases h0 with rfl|⟨a,b, -,rfl⟩<;>exact .inl rfl
  by_cases o17:op=17
  ·subst o17;rcases l with _|⟨t0,q⟩
   ·simp at h0
   ·simp at h0;rcases h0 with rfl|rfl
    ·split
     ·exact .inl rfl
     ·split<;>exact .inl rfl
    ·exact .inl rfl
  by_cases o15:op=15
  ·subst o15;rcases l with _|⟨t0,q⟩
   ·simp at h0
   ·simp at h0;subst h0;exact .inr rfl
  by_cases o30:op=30
  ·subst o30;rcases ps with _|⟨p,q⟩
   ·simp at h0
   ·simp at h0;subst h0;exact .inl rfl
  by_cases o36:op=36
  ·subst o36;rcases ps with _|⟨p,q⟩
   ·simp at h0
   ·simp at h0;subst h0;exact .inl rfl
  by_cases o37:op=37
  ·subst o37;rcases ps with _|⟨p,q⟩
   ·simp at h0
   ·simp at h0;subst h0;exact .inl rfl
  simp[o1,o8,o11,o13,o14,o17,o21,o22,o23,o15,o16,o30,o36,o37]at h0
 show r0.l.length<=_;rcases hz with h|h<;>rw[h]
 ·exact Nat.zero_le _
 ·rw[List.length_tail];omega
mutual
theorem Xtl(fs:List Fn)(bs:List Int):∀(t:T) (k0:Int) (f:Nat) (to:Int) (rd:Bool),∀r∈rT fs bs t k0 f to rd,r.l.length<=t.count
 |.mk op s n l x,k0,f,to,rd,r,hr=>by
  have hl:=T.len_le l;simp only[T.count];simp only[rT]at hr;split at hr
  ·rcases List.mem_append.1 hr with hr|hr
   ·unfold hdR at hr;simp only[List.mem_cons]at hr;rcases hr with rfl|hr
    ·exact Nat.zero_le _
    ·split at hr
     ·simp only[List.mem_cons,List.not_mem_nil,or_false]at hr;subst hr;exact Nat.zero_le _
     ·simp at hr
   ·have:=rB_ll fs bs n.toNat (k0+1) l r hr;omega
  ·rcases List.mem_append.1 hr with hr|hr
   ·split at hr
    ·have:=Xxl fs bs op s n l x k0 f to r hr;omega
    ·simp at hr
   ·have:=rL_ll fs bs op n f to 0 (k0+1) l r hr;omega
theorem rL_ll(fs:List Fn)(bs:List Int)(op n:Int)(f:Nat)(to:Int):∀(i:Nat) (a:Int) (l:List T),∀r∈rL fs bs op n f to i a l,r.l.length<=T.countL l
 |_,_,[],r,hr=>by simp[rL]at hr
 |i,a,t::q,r,hr=>by
  simp only[T.countL];simp only[rL]at hr;rcases List.mem_append.1 hr with hr|hr
  ·have:=Xtl fs bs t _ _ _ _ r hr;omega
  ·have:=rL_ll fs bs op n f to (i+1) _ q r hr;omega
theorem rB_ll(fs:List Fn)(bs:List Int)(g:Nat):∀(a:Int) (l:List T),∀r∈rB fs bs g a l,r.l.length<=T.countL l
 |_,[],r,hr=>by simp[rB]at hr
 |a,t::q,r,hr=>by
  simp only[T.countL];simp only[rB]at hr;rcases List.mem_append.1 hr with hr|hr
  ·split at hr
   ·have:=Xtl fs bs t _ _ _ _ r hr;omega
   ·simp at hr
  ·have:=rB_ll fs bs g _ q r hr;omega
end
theorem Xo5:∀(l:List Fn) (a:Int),(∀G∈l,G.params<=200)->∀x∈fsL a l,x.params.length<=200
 |[],a,_,x,h=>by simp[fsL]at h
 |g::r,a,hp,x,h=>by
  simp only[fsL,List.mem_cons]at h;rcases h with rfl|h
  ·simp only[fsF,Xeq];exact hp g (by simp)
  ·exact Xo5 r _ (fun G hG=>hp G (by simp[hG])) x h
theorem Xm1(t:T)(hw:t.wt<=100000000):(∀x∈(rulesM t).2.1.2.1,x.params.length<=1000000000)/\∀x∈(rulesM t).2.1.2.2,x.l.length<=1000000000:=by
 have h1:=Xcq t;have h3:=Xb3 (resolve t).2.1;have h4:=Xdn t;unfold rulesM;simp only;split
 ·simp
 ·split
  ·simp
  ·refine⟨fun x hx=>?_,fun x hx=>?_⟩
   ·have:=Xo5 _ _ (fun G hG=>(h1.2 G hG).2) x hx;omega
   ·have:=Xtl _ _ _ _ _ _ _ x hx;omega
def PureE(k f:Nat)(args:List AV)(P:AV->Prop):Prop:=∀E st,E.Wf st->CallQ k E f args st fun r st'=> ∃v,r=.ok v/\Grow st st'/\P (v.fin st.I.length)
theorem PureE.full{k f args P E st}(h:PureE k f args P)(hr:∀w,P w->w.refs=[])(hw:E.Wf st)(hf:args.map AV.arg=args:=by simp):obP (doCall (aCall prog k) E .full (.fn f) args st) fun p=> ∃w,P w/\p=(.ok w,st):=by obtain⟨⟨r,st'⟩,e,v,rfl,g,hv⟩:=h _ st hw.based;simp only[doCall,hf,e,Xam,hr _ hv,Xda,Xax,Xas,Xc5 g.H,Xc5 g.I];exact⟨_,rfl,_,hv,rfl⟩
theorem PureE.call{k f args P E st}{Q:Rt AV×St->Prop}(h:PureE k f args P)(hr:∀w,P w->w.refs=[])(hw:E.Wf st)(hf:args.map AV.arg=args)(hq:∀w,P w->Q (.ok w,st)):obP (doCall (aCall prog k) E .full (.fn f) args st) Q:=
 Xac (h.full hr hw hf) fun p hp=>by obtain⟨w,hw,rfl⟩:=hp;exact hq w hw
theorem Xcv{t:ByteArray}{i:Nat}(h:i<t.size):∃b,t.data[i]?=some b:=⟨_,Array.getElem?_eq_getElem h⟩
theorem Xj4(n:Int):ok64 (IntKind.i64.wrap n):=by
 show ok64 (if true && decide (n % 2 ^ 64≥2 ^ 63)then n % 2 ^ 64 - 2 ^ 64 else n % 2 ^ 64);by_cases hc:n % 2 ^ 64≥2 ^ 63
 ·rw[if_pos (by rw[Bool.true_and];exact decide_eq_true hc)];unfold ok64;omega
 ·rw[if_neg (by rw[Bool.true_and];exact fun h=>hc (of_decide_eq_true h))];unfold ok64;omega
def runL(a:Bool):List UInt8->Nat
 |[]=>0
 |b::r=>if Xga b.toNat||(a && Xev b.toNat)then runL a r+1 else 0
theorem Xoc(a:Bool):∀l,runL a l<=l.length
 |[]=>by simp[runL]
 |b::r=>by have:=Xoc a r;simp only[runL];split<;>simp;omega
theorem f150(t:ByteArray)(a:Bool)(ht:t.size<=9223372036854775806)(k:Nat)(hk:t.size+4<=k):PureC k 150 [.str t,.bool a] (i64 (runL a t.data.toList)):=by
 intro E st hE;obtain⟨k,rfl⟩:=uK (k:=k) (by omega);refine Xaz rfl rfl (by decide) fun s hs e0 e1=>?_;simp[hs,e0,e1];refine Xau (fun n s m st'=> ∃i:Nat,i<=t.size/\n=t.size - i/\s.length=28/\m=[]/\st=st'/\lk s 0=.str t/\lk s 1=.bool a/\lk s 5=.int .i64 i/\i+runL a (t.data.toList.drop i)=runL a t.data.toList) t.size (by omega) ⟨0,by simp[hs,e0,e1]⟩ ?_;rintro _ s m _ ⟨i,hi,rfl,hs,rfl,rfl,e0,e1,e5,hn⟩;by_cases h:i<t.size
 ·obtain⟨b,hb⟩:∃b,t.data[i]?=some b:=⟨_,Array.getElem?_eq_getElem h⟩;have hb':t.data[i]'h=b:=by rw[Array.getElem?_eq_getElem h]at hb;simpa using hb
  have h1:=(f152 b.toNat k (by omega)).full (E:=E) (st:=st) rfl hE;have h2:=(f149 b.toNat k (by omega)).full (E:=E) (st:=st) rfl hE;rw[Xes hb,runL]at hn;have hw:=Xah (n:=(i:Int)+1) (by omega);cases h3:Xga b.toNat
  ·cases a
   ·simp[h3]at hn;simp[hs,e0,e1,e5,h,hb',h1,h3,<-hn,Grow.refl]
   ·cases h4:Xev b.toNat
    ·simp[h3,h4]at hn;simp[hs,e0,e1,e5,h,hb',h1,h2,h3,h4,<-hn,Grow.refl]
    ·simp[h3,h4]at hn;simp[hs,e0,e1,e5,h,hb',h1,h2,h3,h4,hw];exact⟨_,by omega,i+1,by omega,rfl,by simp[hs],rfl,rfl,by simp[hs,e0],by simp[hs,e1],by simp[hs],by omega⟩
  ·simp[h3]at hn;simp[hs,e0,e1,e5,h,hb',h1,h3,hw];exact⟨_,by omega,i+1,by omega,rfl,by simp[hs],rfl,rfl,by simp[hs,e0],by simp[hs,e1],by simp[hs],by omega⟩
 ·rw[List.drop_eq_nil_of_le (by simpa using h),runL]at hn;simp[hs,e0,e1,e5,h,<-hn,Grow.refl]
def isNB(w:AV):Prop:=∃n b,w=.tup [.int .i64 n,.bool b]/\ok64 n
theorem f153(t:ByteArray)(ht:t.size<=9223372036854775806)(k:Nat)(hk:20<=k):PureE k 153 [.str t] isNB:=by
  intro E st hE;obtain⟨k,rfl⟩:=uK (k:=k) (by omega);refine Xai rfl rfl (by decide) fun s hs e0=>?_;by_cases h15:15<t.size
  ·have h15':(15:Int)<t.size:=by omega
   simp[hs,e0,h15',Grow.refl,isNB,ok64]
  have h15':¬(15:Int)<t.size:=by omega
  by_cases hret:1<t.size/\t.data[0]?=some 48
  ·have h1':(1:Int)<t.size:=by omega
   simp[hs,e0,h15',h1',hret.2,Grow.refl,isNB,ok64]
  rw[Xa2];refine Xco (fun s m st'=>m=[]/\s.length=34/\lk s 0=.str t/\st=st') ?_ ?_
  ·by_cases h1:1<t.size
   ·have h1':(1:Int)<t.size:=by omega
    obtain⟨b,hb⟩:∃b,t.data[0]?=some b:=⟨_,Array.getElem?_eq_getElem (by have:0<t.size:=by omega
                                                                        exact this)⟩
    have hne:¬b.toNat=48:=fun e=>hret ⟨h1,by rw[hb];congr 1;exact UInt8.toNat_inj.1 (by simpa using e)⟩;have hne':¬(b.toNat:Int)=48:=by omega
    simp[hs,e0,h15',h1',hb,hne',nrmQ]
   ·have h1':¬(1:Int)<t.size:=by omega
    simp[hs,e0,h15',h1',nrmQ]
  rintro s m _ ⟨rfl,hs,e0,rfl⟩;simp[hs,e0];refine Xau (fun n s m st'=> ∃(i:Nat) (x:Int),i<=t.size/\n=t.size - i/\s.length=34/\m=[]/\st=st'/\lk s 0=.str t/\lk s 5=.int .i64 i/\lk s 4=.int .i64 x/\ok64 x) t.size (by omega) ⟨0,0,by simp[hs,e0,ok64]⟩ ?_;rintro _ s m _ ⟨i,x,hi,rfl,hs,rfl,rfl,e0,e5,e4,hx⟩;by_cases h:i<t.size
  ·obtain⟨b,hb⟩:∃b,t.data[i]?=some b:=⟨_,Array.getElem?_eq_getElem h⟩;have hb':t.data[i]'h=b:=by rw[Array.getElem?_eq_getElem h]at hb;simpa using hb
   have hw:=Xah (n:=(i:Int)+1) (by omega);simp[hs,e0,e4,e5,h,hb',hw];exact⟨_,by omega,i+1,IntKind.i64.wrap (IntKind.i64.wrap (10*x)+IntKind.i64.wrap (IntKind.u8.wrap (↑b.toNat - 48))),by omega,rfl,by simp[hs],rfl,rfl,by simp[hs,e0],by simp[hs],by simp[hs],Xj4 _⟩
  ·simp[hs,e0,e4,e5,h,Grow.refl,isNB];exact hx
def Xub(c:Int):Int:=if Xga c then IntKind.i64.wrap (IntKind.u8.wrap (c - 48))else if 97<=c/\c<=102 then IntKind.i64.wrap (IntKind.i64.wrap (IntKind.u8.wrap (c - 97))+10)else -1
theorem f176(c:Int)(k:Nat)(hk:3<=k):PureC k 176 [.int .u8 c] (.int .i64 (Xub c)):=by
 intro E st hE;obtain⟨k,rfl⟩:=uK (k:=k) (by omega);refine Xai rfl rfl (by decide) fun s hs e0=>?_;have h1:=(f152 c k (by omega)).full (E:=E) (st:=st) rfl hE;cases h:Xga c
 ·simp[hs,e0,h1,h];repeat' (first|(with_reducible refine Xaq (fun h=>?_) (fun h=>?_))<;>simp[*])
  all_goals simp[Grow.refl,Xub, *]
 ·simp[hs,e0,h1,h,Xub,Grow.refl]
def Xo0(n:Nat)(w:AV):Prop:=∃(c:Int) (i:Nat),w=.tup [.int .u8 c,.int .i64 i]/\i<=n
theorem f172(t:ByteArray)(ht:t.size<=9223372036854775806)(k:Nat)(hk:10<=k):PureE k 172 [.str t] (Xo0 t.size):=by
 intro E st hE;obtain⟨k,rfl⟩:=uK (k:=k) (by omega);refine Xai rfl rfl (by decide) fun s hs e0=>?_;by_cases h2:t.size<2
 ·have h2':(t.size:Int)<2:=by omega
  have zero:Xo0 t.size (.tup [.int .u8 0,.int .i64 0]):=⟨0,0,rfl,by omega⟩;simp[hs,e0,h2',Grow.refl,zero]
 have h2':¬(t.size:Int)<2:=by omega
 obtain⟨b,hb⟩:=Xcv (t:=t) (i:=1) (by omega);have g1:=fun c=>(f176 c k (by omega)).full (E:=E) (st:=st) rfl hE;have two:∀c,Xo0 t.size (.tup [.int .u8 c,.int .i64 2]):=fun c=>⟨c,2,rfl,by omega⟩;have zero:∀c,Xo0 t.size (.tup [.int .u8 c,.int .i64 0]):=fun c=>⟨c,0,rfl,by omega⟩;by_cases h4:4<=t.size
 ·have h4':(4:Int)<=t.size:=by omega
  obtain⟨b2,hb2⟩:=Xcv (t:=t) (i:=2) (by omega);obtain⟨b3,hb3⟩:=Xcv (t:=t) (i:=3) (by omega);have four:∀c,Xo0 t.size (.tup [.int .u8 c,.int .i64 4]):=fun c=>⟨c,4,rfl,by omega⟩;simp[hs,e0,h2',hb];repeat' (with_reducible refine Xaq (fun h=>?_) (fun h=>?_)<;>simp[*,Grow.refl,Xdj])
 ·have h4':¬(4:Int)<=t.size:=by omega
  simp[hs,e0,h2',hb];repeat' (with_reducible refine Xaq (fun h=>?_) (fun h=>?_)<;>simp[*,Grow.refl,Xdj])
def Xk0(a b:Nat)(w:AV):Prop:=∃i:Nat,w=.int .i64 i/\a<=i/\i<=b
theorem f155(t:ByteArray)(h1:1<=t.size)(ht:t.size<=9223372036854775806)(k:Nat)(hk:10<=k):PureE k 155 [.str t] (Xk0 0 t.size):=by
 intro E st hE;obtain⟨k,rfl⟩:=uK (k:=k) (by omega);refine Xai rfl rfl (by decide) fun s hs e0=>?_;obtain⟨b,hb⟩:=Xcv (t:=t) (i:=0) (by omega);have zero:Xk0 0 t.size (.int .i64 0):=⟨0,rfl,by omega,by omega⟩;have one:Xk0 0 t.size (.int .i64 1):=⟨1,rfl,by omega,by omega⟩;by_cases h3:3<=t.size
 ·have h3':(3:Int)<=t.size:=by omega
  have h2':(2:Int)<=t.size:=by omega
  have h2:2<=t.size:=by omega
  have two:Xk0 0 t.size (.int .i64 2):=⟨2,rfl,by omega,by omega⟩;have three:Xk0 0 t.size (.int .i64 3):=⟨3,rfl,by omega,by omega⟩;simp[hs,e0,h3',h3];repeat' (with_reducible refine Xaq (fun h=>?_) (fun h=>?_)<;>simp[*,Grow.refl,Xdj])
 ·have h3':¬(3:Int)<=t.size:=by omega
  by_cases h2:2<=t.size
  ·have h2':(2:Int)<=t.size:=by omega
   have two:Xk0 0 t.size (.int .i64 2):=⟨2,rfl,by omega,by omega⟩;simp[hs,e0,h3',h2',h2];repeat' (with_reducible refine Xaq (fun h=>?_) (fun h=>?_)<;>simp[*,Grow.refl,Xdj])
  ·have h2':¬(2:Int)<=t.size:=by omega
   simp[hs,e0,h3',h2',hb];repeat' (with_reducible refine Xaq (fun h=>?_) (fun h=>?_)<;>simp[*,Grow.refl,Xdj])
theorem Xkf:∀cs:List AV,(∀c∈cs,∃n,c=.int .u8 n)->∃l,Xel cs=some l/\l.length=cs.length
 |[],_=>⟨[],rfl,rfl⟩
 |c::r,h=>by obtain⟨n,rfl⟩:=h c (by simp);obtain⟨l,hl,hn⟩:=Xkf r fun c hc=>h c (by simp[hc]);exact⟨UInt8.ofNat n.toNat::l,by simp[Xel,hl],by simp[hn]⟩
def Xrn(n:Nat)(w:AV):Prop:=∃(x:ByteArray) (i:Nat),w=.tup [.str x,.int .i64 i]/\i<=n/\x.size<=i
def AccG(m:Nat)(I:List (Nat×Nat))(sz n:Nat)(cs:List AV)(v:AV):Prop:=
 (n=0/\cs=[]/\v=.nils)\/∃i,v=.sl (some i) n cs/\m<=i/\I[i]?=some (n,sz)/\cs.length=n*sz
theorem AccG.push{m I sz n cs v}(h:AccG m I sz n cs v)(x:List (Nat×Nat)):AccG m (I++x) sz n cs v:=by
 rcases h with h|⟨j,e,hj,hi,hl⟩
 ·exact .inl h
 ·exact .inr ⟨j,e,hj,by rw[List.getElem?_append_left (uB hi)];exact hi,hl⟩
theorem AccG.app{E:Env}{m:Nat}{I0 I:List (Nat×Nat)}{sz bytes n k:Nat}{cs ys:List AV}{v y:AV}(h:AccG m I sz n cs v)(hr:E.rom<=m)(hm:I0.length=m)(hp:I0<+:I)(hb:bytes<=1000)(hn:n+k<=1000000000)(hs:srcA sz y=some (k,ys))(hy:ys.length=k*sz)(H:List ABlk):
  ∃v' I',appA E ⟨H,I⟩ sz bytes v y=some (v',⟨H,I'⟩)/\AccG m I' sz (n+k) (cs++ys) v'/\I0<+:I':=by
 have hlen:=hp.length_le;have hb1:∀x,x<=1000000000->x*bytes<=70368744177664:=fun x hx=>Nat.le_trans (Nat.mul_le_mul hx hb) (by decide);rcases h with⟨rfl,rfl,rfl⟩|⟨j,rfl,hj,hi,hl⟩
 ·by_cases hk:k=0
  ·subst hk;have:ys=[]:=List.eq_nil_of_length_eq_zero (by simpa using hy);subst this;exact⟨.nils,I,by simp[appA,hs],.inl ⟨rfl,rfl,rfl⟩,hp⟩
  ·refine⟨.sl (some I.length) k ys,I++ [(k,sz)],?_,.inr ⟨I.length,by simp,by omega,by simp,by simpa using hy⟩,hp.trans (List.prefix_append _ _)⟩;have h2:k<=70368744177664:=by omega
   simp[appA,hs,hk,hb1 k (by omega),h2]
 ·have hlt:=uB hi;have h2:n+k<=70368744177664:=by omega
  have h3:E.rom<=j:=by omega
  refine⟨.sl (some j) (n+k) (cs++ys),I.set j (n+k,sz),?_,.inr ⟨j,rfl,hj,by rw[List.getElem?_set_self hlt],by rw[List.length_append,hl,hy,Nat.add_mul]⟩,?_⟩
  ·simp[appA,hs,h3,hi,hl,hb1 (n+k) hn,h2]
  ·obtain⟨r,rfl⟩:=hp;rw[List.set_append_right _ _ (by omega)];exact List.prefix_append _ _
theorem Xq0{sz:Nat}{o:Option Nat}{x:List AV}(hl:x.length=sz)(h1:x.all AV.one=true):srcA sz (.sl o 1 x)=some (1,AV.finL 0 x):=by simp[srcA,hl,h1]
theorem Grow.of{st st':St}(h1:st.H<+:st'.H)(h2:st.I<+:st'.I):Grow st st':=⟨h1,h2⟩
def isU8(c:AV):Prop:=∃n,c=.int .u8 n
def J154(t:ByteArray)(st:St)(n:Nat)(s:List AV)(m:List Nat)(st':St):Prop:=
 ∃(i j:Nat) (cs:List AV),1<=i/\i<=t.size/\n=t.size - i/\s.length=66/\m=[]/\Grow st st'/\lk s 0=.str t/\lk s 5=.int .i64 i/\j+1<=i/\AccG st.I.length st'.I 1 j cs (lk s 4)/\∀c∈cs,isU8 c
theorem f154(t:ByteArray)(h1:1<=t.size)(ht:t.size<=1000000)(k:Nat)(hk:t.size+20<=k):PureE k 154 [.str t] (Xrn t.size):=by
 intro E st hE;obtain⟨k,rfl⟩:=uK (k:=k) (by omega);refine Xai rfl rfl (by decide) fun s hs e0=>?_;obtain⟨b0,hb0⟩:=Xcv (t:=t) (i:=0) (by omega);have none0:Xrn t.size (.tup [.str ⟨#[]⟩,.int .i64 0]):=⟨⟨#[]⟩,0,rfl,by omega,by simp[ByteArray.size]⟩;simp[hs,e0];refine Xau (J154 t st) (t.size - 1) (by omega) ⟨1,0,[],by omega,by omega,rfl,by simp[hs],rfl,.refl _,by simp[hs,e0],by simp[hs],by omega,.inl ⟨rfl,rfl,by simp[hs]⟩,by simp⟩ ?_;rintro _ s m st' ⟨i,j,cs,hi1,hi,rfl,hs,rfl,hg,e0,e5,hj,ho,hcs⟩;obtain⟨v,e4⟩:∃v,lk s 4=v:=⟨_,rfl⟩;rw[e4]at ho;have hE':=hE.grow hg;by_cases h:i<t.size
 ·obtain⟨b,hb⟩:=Xcv h;have hb':t.data[i]'h=b:=by rw[Array.getElem?_eq_getElem h]at hb;simpa using hb
  have hw:=Xah (n:=(i:Int)+1) (by omega);by_cases q0:b=b0
  ·subst q0;have hge:¬(t.size:Int)<=i:=by omega
   obtain⟨l,hl,hll⟩:=Xkf cs hcs
   have hfin:Xrn t.size (.tup [.str ⟨l.toArray⟩,.int .i64 (i+1)]):=⟨_,i+1,rfl,by omega,by
    have:cs.length=j:=by
     rcases ho with⟨rfl,rfl,_⟩|⟨_,_,_,_,h⟩
     ·rfl
     ·omega
    simp[ByteArray.size];omega⟩
   have hfin0:cs=[]->Xrn t.size (.tup [.str ⟨#[]⟩,.int .i64 (i+1)]):=fun e=>⟨⟨#[]⟩,i+1,rfl,by omega,by simp[ByteArray.size]⟩;rcases ho with⟨rfl,rfl,rfl⟩|⟨q,rfl,hq1,hq2,hq3⟩
   ·simp[hs,e0,e4,e5,h,hb',hb0,hge,cvsA,hw,hg,hfin0]
   ·have hq3':cs.length=j:=by omega
    simp[hs,e0,e4,e5,h,hb',hb0,hge,cvsA,hw,hg,hq3',hl,hfin]
  have q0':¬(b.toNat:Int)=b0.toNat:=fun e=>q0 (UInt8.toNat_inj.1 (by omega))
  have app:∀c:Int,∃v' I',appA E ⟨st'.H,st'.I++ [(1,1)]⟩ 1 1 v (.sl (some st'.I.length) 1 [.int .u8 c])=some (v',⟨st'.H,I'⟩)/\AccG st.I.length I' 1 (j+1) (cs++ [.int .u8 c]) v'/\st.I<+:I':=fun c=>
   (ho.push [(1,1)]).app hE.rom rfl (hg.I.trans (List.prefix_append _ _)) (by omega) (by omega) (Xq0 rfl rfl) rfl st'.H
  have u8s:∀c:Int,∀x∈cs++ [AV.int .u8 c],isU8 x:=fun c x hx=>by
   rcases List.mem_append.1 hx with hx|hx
   ·exact hcs x hx
   ·exact⟨c,by simpa using hx⟩
  by_cases c1:(b.toNat:Int)<32
  ·simp[hs,e0,e4,e5,h,hb',hb0,q0',c1,none0,hg]
  by_cases c2:(126:Int)<b.toNat
  ·simp[hs,e0,e4,e5,h,hb',hb0,q0',c1,c2,none0,hg]
  by_cases c3:(b.toNat:Int)=92
  ·have hsub:(t.extract i t.size).size=t.size - i:=by simp[ByteArray.size_extract]
   rw[c3]at q0';simp[hs,e0,e4,e5,h,hb',hb0,q0',c3,hi];refine(f172 (t.extract i t.size) (by omega) k (by omega)).call (by rintro _ ⟨c,n,rfl,_⟩;rfl) hE' rfl ?_;rintro _ ⟨c,n,rfl,hn⟩;rw[hsub]at hn;by_cases hn0:n=0
   ·subst hn0;simp[hs,e0,e4,e5,none0,hg]
   ·have hn0':¬(n:Int)=0:=by omega
    obtain⟨v',I',ha1,ha2,ha3⟩:=app c;have hw2:=Xah (n:=(i:Int)+n) (by omega);simp[hs,e0,e4,e5,hn0,Xap,wrC,ha1,hw2];exact⟨_,by omega,i+n,j+1,_,by omega,by omega,rfl,by simp[hs],rfl,.of hg.H ha3,by simp[hs,e0],by simp[hs],by omega,by simpa [hs]using ha2,u8s c⟩
  ·obtain⟨v',I',ha1,ha2,ha3⟩:=app b.toNat;simp[hs,e0,e4,e5,h,hb',hb0,q0',c1,c2,c3,Xap,wrC,ha1,hw];exact⟨_,by omega,i+1,j+1,_,by omega,by omega,rfl,by simp[hs],rfl,.of hg.H ha3,by simp[hs,e0],by simp[hs],by omega,by simpa [hs]using ha2,u8s _⟩
 ·have hge:(t.size:Int)<=i:=by omega
  simp[hs,e0,e4,e5,h,hge,none0,hg]
def Xt6(n:Nat)(w:AV):Prop:=w=.int .i64 (-1)\/Xk0 0 n w
theorem f109(t:ByteArray)(h1:1<=t.size)(ht:t.size<=1000000)(k:Nat)(hk:t.size+20<=k):PureE k 109 [.str t] (Xt6 t.size):=by
 intro E st hE;obtain⟨k,rfl⟩:=uK (k:=k) (by omega);refine Xai rfl rfl (by decide) fun s hs e0=>?_;obtain⟨b,hb⟩:=Xcv (t:=t) (i:=0) (by omega);have len:∀i:Nat,i<=t.size->Xt6 t.size (.int .i64 i):=fun i hi=>.inr ⟨i,rfl,by omega,hi⟩;have one:=len 1 (by omega);have zero:=len 0 (by omega);have minus:Xt6 t.size (.int .i64 (-1)):=.inl rfl;simp only[Int.natCast_zero,Int.natCast_one]at zero one;by_cases hq:b.toNat=32\/b.toNat=9\/b.toNat=13\/b.toNat=10
 ·simp[hs,e0,hb];repeat' (with_reducible refine Xaq (fun h=>?_) (fun h=>?_)<;>simp[*,Grow.refl,Xdj])
  all_goals omega
 have q1:¬(b.toNat:Int)=32:=by omega
 have q2:¬(b.toNat:Int)=9:=by omega
 have q3:¬(b.toNat:Int)=13:=by omega
 have q4:¬(b.toNat:Int)=10:=by omega
 by_cases h2:t.size<2
 ·have h2':(t.size:Int)<2:=by omega
  simp[hs,e0,hb,q1,q2,q3,q4,h2',Grow.refl,zero]
 have h2':¬(t.size:Int)<2:=by omega
 by_cases q5:(b.toNat:Int)=47;rotate_left
 ·simp[hs,e0,hb,q1,q2,q3,q4,q5,h2',Grow.refl,zero]
 obtain⟨c,hc⟩:=Xcv (t:=t) (i:=1) (by omega);by_cases q6:¬(c.toNat:Int)=47/\¬(c.toNat:Int)=42
 ·simp[hs,e0,hb,q5,h2',hc,q6.1,q6.2,Grow.refl,zero]
 have q6':¬¬((c.toNat:Int)=47\/(c.toNat:Int)=42):=fun h=>q6 ⟨fun e=>h (.inl e),fun e=>h (.inr e)⟩;rcases Decidable.not_not.1 q6' with q7|q7
 ·simp[hs,e0,hb,q5,h2',hc,q7];refine Xau (fun n s m st'=> ∃i:Nat,2<=i/\i<=t.size/\n=t.size - i/\s.length=86/\m=[]/\st=st'/\lk s 0=.str t/\lk s 3=.int .i64 i) (t.size - 2) (by omega) ⟨2,by omega,by omega,rfl,by simp[hs],rfl,rfl,by simp[hs,e0],by simp[hs]⟩ ?_;rintro _ s m _ ⟨i,hi2,hi,rfl,hs,rfl,rfl,e0,e3⟩;by_cases h:i<t.size
  ·obtain⟨d,hd⟩:=Xcv h;have hd':t.data[i]'h=d:=by rw[Array.getElem?_eq_getElem h]at hd;simpa using hd
   have hw:=Xah (n:=(i:Int)+1) (by omega);by_cases q8:(d.toNat:Int)=10
   ·simp[hs,e0,e3,h,hc,q7,hd',q8,Grow.refl,len i hi]
   ·simp[hs,e0,e3,h,hc,q7,hd',q8,hw];exact⟨_,by omega,i+1,by omega,by omega,rfl,by simp[hs],rfl,rfl,by simp[hs,e0],by simp[hs]⟩
  ·have hl:=len t.size (by omega);simp[hs,e0,e3,h,hc,q7,Grow.refl,hl]
 ·simp[hs,e0,hb,q5,h2',hc,q7];refine Xau (fun n s m st'=> ∃i:Nat,2<=i/\i<=t.size/\n=t.size - i/\s.length=86/\m=[]/\st=st'/\lk s 0=.str t/\lk s 3=.int .i64 i) (t.size - 2) (by omega) ⟨2,by omega,by omega,rfl,by simp[hs],rfl,rfl,by simp[hs,e0],by simp[hs]⟩ ?_;rintro _ s m _ ⟨i,hi2,hi,rfl,hs,rfl,rfl,e0,e3⟩;by_cases h:i<t.size
  ·obtain⟨d,hd⟩:=Xcv h;have hd':t.data[i]'h=d:=by rw[Array.getElem?_eq_getElem h]at hd;simpa using hd
   have hw:=Xah (n:=(i:Int)+1) (by omega);by_cases h3:i+1<t.size
   ·obtain⟨e,he⟩:=Xcv h3;have he':t.data[i+1]'h3=e:=by rw[Array.getElem?_eq_getElem h3]at he;simpa using he
    have h3':(i:Int)+1<t.size:=by omega
    have hw3:=Xah (n:=(i:Int)+2) (by omega);have ht1:((i:Int)+1).toNat=i+1:=by omega
    have h0:(0:Int)<=(i:Int)+1:=by omega
    by_cases q8:(d.toNat:Int)=42
    ·by_cases q9:(e.toNat:Int)=47
     ·simp[hs,e0,e3,h,hc,q7,hd',q8,hw,h3',he,q9,hw3,ht1,h0,Grow.refl];exact len (i+2) (by omega)
     ·simp[hs,e0,e3,h,hc,q7,hd',q8,hw,h3',he,q9,hw3,ht1,h0];exact⟨_,by omega,i+1,by omega,by omega,rfl,by simp[hs],rfl,rfl,by simp[hs,e0],by simp[hs]⟩
    ·simp[hs,e0,e3,h,hc,q7,hd',q8,hw,h3'];exact⟨_,by omega,i+1,by omega,by omega,rfl,by simp[hs],rfl,rfl,by simp[hs,e0],by simp[hs]⟩
   ·have h3':¬(i:Int)+1<t.size:=by omega
    simp[hs,e0,e3,h,hc,q7,hd',hw,h3'];exact⟨_,by omega,i+1,by omega,by omega,rfl,by simp[hs],rfl,rfl,by simp[hs,e0],by simp[hs]⟩
  ·simp[hs,e0,e3,h,hc,q7,Grow.refl,minus]
structure Tk where
 kind:Int
 s:ByteArray
 n:Int
 line:Int
 nl:Bool
def Tk.enc(t:Tk):List AV:=[.int .i64 t.kind,.str t.s,.int .i64 t.n,.int .i64 t.line,.bool t.nl]
def Tk.encL:List Tk->List AV
 |[]=> []
 |t::r=>t.enc++Tk.encL r
def Tk.ok(t:Tk):Prop:=ok64 t.kind/\ok64 t.n/\ok64 t.line/\t.s.size<=1000000
def isOne(n:Nat)(w:AV):Prop:=∃(t:Tk) (i:Nat) (e:Int),w=.tup [.agg t.enc,.int .i64 i,.int .i64 e]/\t.ok/\ok64 e/\(e=0->1<=i/\i<=n/\t.s.size<=i)
theorem isOne.err(n:Nat)(e:Int)(he:ok64 e)(h0:e≠0):isOne n (.tup [.agg [.int .i64 0,.str ⟨#[]⟩,.int .i64 0,.int .i64 0,.bool false],.int .i64 0,.int .i64 e]):=
 ⟨⟨0,⟨#[]⟩,0,0,false⟩,0,e,rfl,⟨by simp[ok64],by simp[ok64],by simp[ok64],by simp[ByteArray.size]⟩,he,fun h=>absurd h h0⟩
theorem isOne.is{n:Nat}{kd x:Int}{u:ByteArray}{i:Nat}(hk:ok64 kd)(hx:ok64 x)(hn:n<=1000000)(h1:1<=i)(h2:i<=n)(h3:u.size<=i):isOne n (.tup [.agg [.int .i64 kd,.str u,.int .i64 x,.int .i64 0,.bool false],.int .i64 i,.int .i64 0]):=
 ⟨⟨kd,u,x,0,false⟩,i,0,rfl,⟨hk,hx,by simp[ok64],by simp only;omega⟩,by unfold ok64;omega,fun _=>⟨h1,h2,h3⟩⟩
theorem f110(t:ByteArray)(h1:1<=t.size)(ht:t.size<=1000000)(k:Nat)(hk:t.size+1100<=k):PureE k 110 [.str t] (isOne t.size):=by
 intro E st hE;obtain⟨k,rfl⟩:=uK (k:=k) (by omega);refine Xai rfl rfl (by decide) fun s hs e0=>?_;have hE':E.Wf ⟨st.H++ [.cells 130 [.int .i64 0,.str ⟨#[]⟩,.int .i64 0,.int .i64 0,.bool false]],st.I⟩:=hE.of (by simp) (by simp);obtain⟨b,hb⟩:=Xcv (t:=t) (i:=0) (by omega);have g149:=(f149 b.toNat k (by omega)).full (E:=E) rfl hE';have g152:=(f152 b.toNat k (by omega)).full (E:=E) rfl hE';have g150:=fun a=>(f150 t a (by omega) k (by omega)).full (E:=E) rfl hE';have hd0:t.data.toList=b::t.data.toList.drop 1:=Xes hb;have hle:=fun a=>Xoc a t.data.toList;have hsz:t.data.toList.length=t.size:=Array.length_toList;rw[hsz]at hle;have mw:=Xaa hE st.H.length [.int .i64 0,.str ⟨#[]⟩,.int .i64 0,.int .i64 0,.bool false];have ex:∀n:Nat,n<=t.size->(t.extract 0 n).size=n:=fun n hn=>by rw[ByteArray.size_extract];omega
 cases h3:Xev b.toNat
 ·cases h4:Xga b.toNat
  ·by_cases hq:b.toNat=34\/b.toNat=39
   ·have hq':(b.toNat:Int)=34\/¬(b.toNat:Int)=34/\(b.toNat:Int)=39:=by omega
    rcases hq' with hq'|⟨hq1,hq'⟩
    ·have g1:Xev 34=false:=by decide
     have g2:Xga 34=false:=by decide
     rw[hq']at g149 g152;simp[hs,e0,hb,g149,g152,hq',g1,g2];refine(f154 t h1 (by omega) k (by omega)).call (by rintro _ ⟨x,n,rfl,_⟩;rfl) hE' rfl ?_;rintro _ ⟨x,n,rfl,hn1,hn2⟩;by_cases hn:n=0
     ·simp[hs,e0,hn,Xag,Xap,wrC,mw,isOne.err _ 22 (by unfold ok64;omega) (by omega),Grow.appH]
     ·have hi:=isOne.is (n:=t.size) (kd:=4) (x:=0) (u:=x) (i:=n) (by unfold ok64;omega) (by unfold ok64;omega) ht (by omega) hn1 hn2;simp[hs,e0,hn,Xag,Xap,wrC,mw,hi,Grow.appH]
    ·have g1:Xev 39=false:=by decide
     have g2:Xga 39=false:=by decide
     rw[hq']at g149 g152;simp[hs,e0,hb,g149,g152,hq',g1,g2];refine(f154 t h1 (by omega) k (by omega)).call (by rintro _ ⟨x,n,rfl,_⟩;rfl) hE' rfl ?_;rintro _ ⟨x,n,rfl,hn1,hn2⟩;by_cases hn:n=0
     ·simp[hs,e0,hn,Xag,Xap,wrC,mw,isOne.err _ 22 (by unfold ok64;omega) (by omega),Grow.appH]
     ·have hi:=isOne.is (n:=t.size) (kd:=4) (x:=0) (u:=x) (i:=n) (by unfold ok64;omega) (by unfold ok64;omega) ht (by omega) hn1 hn2;simp[hs,e0,hn,Xag,Xap,wrC,mw,hi,Grow.appH]
   ·have q1:¬(b.toNat:Int)=34:=by omega
    have q2:¬(b.toNat:Int)=39:=by omega
    simp[hs,e0,hb,g149,g152,h3,h4,q1,q2];refine(f155 t h1 (by omega) k (by omega)).call (by rintro _ ⟨n,rfl,_⟩;rfl) hE' rfl ?_;rintro _ ⟨n,rfl,hn1,hn2⟩;by_cases hn:n=0
    ·simp[hs,e0,hn,Xag,Xap,wrC,mw,isOne.err _ 21 (by unfold ok64;omega) (by omega),Grow.appH]
    ·have hi:=isOne.is (n:=t.size) (kd:=5) (x:=0) (u:=t.extract 0 n) (i:=n) (by unfold ok64;omega) (by unfold ok64;omega) ht (by omega) hn2 (by rw[ex n hn2];omega);simp[hs,e0,hn,Xag,Xap,wrC,mw,hn2,hi,Grow.appH]
  ·have hr:1<=runL false t.data.toList:=by rw[hd0,runL];simp[h4]
   have hi:=fun x hx=>isOne.is (n:=t.size) (kd:=3) (x:=x) (u:=⟨#[]⟩) (i:=runL false t.data.toList) (by unfold ok64;omega) hx ht hr (hle false) (by simp[ByteArray.size]);obtain⟨r,hr0⟩:∃r,runL false t.data.toList=r:=⟨_,rfl⟩;have hl:=hle false;rw[hr0]at hr hi hl
   have g53:∀{Q:Rt AV×St->Prop},(∀n b,ok64 n->Q (.ok (.tup [.int .i64 n,.bool b]),_))->obP (doCall (aCall prog k) E .full (.fn 153) [.str (t.extract 0 r)] _) Q:=fun{Q} hq=>
    (f153 (t.extract 0 r) (by rw[ex r hl];omega) k (by omega)).call (by rintro _ ⟨n,b,rfl,_⟩;rfl) hE' rfl (by rintro _ ⟨n,b,rfl,h⟩;exact hq n b h)
   have dot:(r<t.size/\∃c,t.data[r]?=some c/\(c.toNat:Int)=46)\/((¬r<t.size)\/(r<t.size/\∃c,t.data[r]?=some c/\¬(c.toNat:Int)=46)):=by
    by_cases h:r<t.size
    ·obtain⟨c,hc⟩:=Xcv h;by_cases h2:(c.toNat:Int)=46
     ·exact .inl ⟨h,c,hc,h2⟩
     ·exact .inr (.inr ⟨h,c,hc,h2⟩)
    ·exact .inr (.inl h)
   rcases dot with⟨hlt,c,hc,hc2⟩|hlt|⟨hlt,c,hc,hc2⟩
   ·have hc':t.data[r]'hlt=c:=by rw[Array.getElem?_eq_getElem hlt]at hc;simpa using hc
    simp[hs,e0,hb,g149,g152,h3,h4,g150,hr0,hlt,hc',hc2,Xag,Xap,wrC,mw,isOne.err _ 25 (by unfold ok64;omega) (by omega),Grow.appH]
   ·simp[hs,e0,hb,g149,g152,h3,h4,g150,hr0,hlt,hl];refine g53 fun x b2 hx=>?_;cases b2
    ·simp[hs,e0,Xag,Xap,wrC,mw,isOne.err _ 24 (by unfold ok64;omega) (by omega),Grow.appH]
    ·by_cases hne:(runL true t.data.toList:Int)=r
     ·simp[hs,e0,g150,hne,Xag,Xap,wrC,mw,hi x hx,Grow.appH]
     ·simp[hs,e0,g150,hne,Xag,Xap,wrC,mw,isOne.err _ 24 (by unfold ok64;omega) (by omega),Grow.appH]
   ·have hc':t.data[r]'hlt=c:=by rw[Array.getElem?_eq_getElem hlt]at hc;simpa using hc
    simp[hs,e0,hb,g149,g152,h3,h4,g150,hr0,hlt,hc',hc2,hl];refine g53 fun x b2 hx=>?_;cases b2
    ·simp[hs,e0,Xag,Xap,wrC,mw,isOne.err _ 24 (by unfold ok64;omega) (by omega),Grow.appH]
    ·by_cases hne:(runL true t.data.toList:Int)=r
     ·simp[hs,e0,g150,hne,Xag,Xap,wrC,mw,hi x hx,Grow.appH]
     ·simp[hs,e0,g150,hne,Xag,Xap,wrC,mw,isOne.err _ 24 (by unfold ok64;omega) (by omega),Grow.appH]
 ·have hr:1<=runL true t.data.toList:=by rw[hd0,runL];simp[h3]
  have hi:=fun kd hkd=>isOne.is (n:=t.size) (kd:=kd) (x:=0) (u:=t.extract 0 (runL true t.data.toList)) (i:=runL true t.data.toList) hkd (by unfold ok64;omega) ht hr (hle true) (by rw[ex _ (hle true)];omega);have g151:=(f151 (t.extract 0 (runL true t.data.toList)) k (by omega)).full (E:=E) rfl hE';cases h5:Xc2 (t.extract 0 (runL true t.data.toList))
  ·simp[hs,e0,hb,g149,h3,g150,hle true,g151,h5,Xag,Xap,wrC,mw,hi 1 (by unfold ok64;omega),Grow.appH]
  ·simp[hs,e0,hb,g149,h3,g150,hle true,g151,h5,Xag,Xap,wrC,mw,hi 2 (by unfold ok64;omega),Grow.appH]
attribute [simp] Tk.encL
theorem Tk.encL_app:∀a b:List Tk,Tk.encL (a++b)=Tk.encL a++Tk.encL b
 |[],b=>by simp
 |t::r,b=>by simp[Tk.encL_app r b]
theorem Tk.encL_len:∀l:List Tk,(Tk.encL l).length=l.length*5
 |[]=>by simp
 |t::r=>by simp[Tk.encL_len r,Tk.enc];omega
theorem Tk.encL_fin(m:Nat):∀l:List Tk,AV.finL m (Tk.encL l)=Tk.encL l
 |[]=>by simp
 |t::r=>by rw[Tk.encL,Xd1,Tk.encL_fin m r];simp[Tk.enc]
theorem Tk.encL_refs:∀l:List Tk,AV.refsL (Tk.encL l)=[]
 |[]=>by simp
 |t::r=>by rw[Tk.encL,Xcs,Tk.encL_refs r];simp[Tk.enc]
def Tk.pot:List Tk->Nat
 |[]=>0
 |t::r=>32+t.s.size+Tk.pot r
theorem Tk.pot_app:∀a b:List Tk,Tk.pot (a++b)=Tk.pot a+Tk.pot b
 |[],b=>by simp[Tk.pot]
 |t::r,b=>by simp only[List.cons_append,Tk.pot,Tk.pot_app r b];omega
def isToks(n:Nat)(w:AV):Prop:=∃l:List Tk,w=.sl none l.length (Tk.encL l)/\(∀t∈l,t.ok)/\Tk.pot l<=33*n
theorem isToks.nil(n:Nat):isToks n (.sl none 0 []):=⟨[],rfl,by simp,by simp[Tk.pot]⟩
def isLex(n:Nat)(w:AV):Prop:=∃v a e,w=.tup [v,.int .i64 a,.int .i64 e]/\isToks n v
theorem isLex.err(n:Nat)(a e:Int):isLex n (.tup [.sl none 0 [],.int .i64 a,.int .i64 e]):=⟨_,a,e,rfl,.nil n⟩
def J75(t:ByteArray)(st:St)(n:Nat)(s:List AV)(m:List Nat)(st':St):Prop:=
 ∃(p:Nat) (l:List Tk) (line:Int) (nl:Bool),p<=t.size/\n=t.size - p/\s.length=75/\m=[]/\Grow st st'/\lk s 0=.str t/\lk s 8=.int .i64 p/\lk s 6=.int .i64 line/\lk s 7=.bool nl/\ok64 line/\
  AccG st.I.length st'.I 5 l.length (Tk.encL l) (lk s 5)/\(∀t∈l,t.ok)/\Tk.pot l<=33*p
def J75i(t:ByteArray)(st':St)(v:AV)(p q n:Nat)(s:List AV)(m:List Nat)(st2:St):Prop:=
 ∃(i:Nat) (line:Int) (nl:Bool),p<=i/\i<=p+q/\n=p+q - i/\s.length=75/\m=[]/\st'=st2/\lk s 0=.str t/\lk s 8=.int .i64 p/\lk s 9=.int .i64 q/\lk s 10=.int .i64 i/\lk s 6=.int .i64 line/\lk s 7=.bool nl/\ok64 line/\lk s 5=v
theorem f75(t:ByteArray)(ht:t.size<=60000)(k:Nat)(hk:t.size+1200<=k):PureE k 75 [.str t] (isLex t.size):=by
  intro E st hE;obtain⟨k,rfl⟩:=uK (k:=k) (by omega);refine Xai rfl rfl (by decide) fun s hs e0=>?_;have hlong:¬(65536:Int)<t.size:=by omega
  simp[hs,e0,hlong];refine Xau (J75 t st) t.size (by omega) ⟨0,[],1,false,by omega,rfl,by simp[hs],rfl,.refl _,by simp[hs,e0],by simp[hs],by simp[hs],by simp[hs],by simp[ok64],.inl ⟨rfl,rfl,by simp[hs]⟩,by simp,by simp[Tk.pot]⟩ ?_;rintro _ s m st' ⟨p,l,line,nl,hp,rfl,hs,rfl,hg,e0,e8,e6,e7,hline,hacc,hok,hpot⟩;obtain⟨v,e5⟩:∃v,lk s 5=v:=⟨_,rfl⟩;rw[e5]at hacc;have hE':=hE.grow hg;by_cases hlt:p<t.size;rotate_left
  ·have hfin:isLex t.size (.tup [v.fin st.I.length,.int .i64 0,.int .i64 0]):=by
      refine⟨_,0,0,rfl,l,?_,hok,by omega⟩;rcases hacc with⟨h1,h2,rfl⟩|⟨i,rfl,hi,_⟩
      ·have:l=[]:=List.eq_nil_of_length_eq_zero h1;subst this;rfl
      ·have:¬i<st.I.length:=by omega
       simp[this,Tk.encL_fin]
   simp[hs,e0,e8,e6,e7,e5,hlt,hg,hfin]
  have hsub:(t.extract p t.size).size=t.size - p:=by rw[ByteArray.size_extract];omega
  simp[hs,e0,e8,hlt,hp];refine(f109 (t.extract p t.size) (by omega) (by omega) k (by omega)).call (by rintro _ (rfl|⟨n,rfl,_⟩)<;>rfl) hE' rfl ?_;rintro _ (rfl|⟨q,rfl, -,hq⟩)
  ·simp[hs,e6,hg,isLex.err]
  rw[hsub]at hq;have hqn:¬(q:Int)<0:=by omega
  simp[hs,e8,hqn];refine Xau (J75i t st' v p q) q (by omega) ⟨p,line,nl,by omega,by omega,by omega,by simp[hs],rfl,rfl,by simp[hs,e0],by simp[hs,e8],by simp[hs],by simp[hs],by simp[hs,e6],by simp[hs,e7],hline,by simp[hs,e5]⟩ ?_;clear hs e0 e8 e6 e7 e5 hline s line nl;rintro _ s m _ ⟨i,line,nl,hi1,hi2,rfl,hs,rfl,rfl,e0,e8,e9,e10,e6,e7,hline,e5⟩;have hwpq:=Xah (n:=(p:Int)+q) (by omega);by_cases hi3:i<p+q
  ·have hi3':(i:Int)<(p:Int)+q:=by omega
   obtain⟨c,hc⟩:=Xcv (t:=t) (i:=i) (by omega);have hwi:=Xah (n:=(i:Int)+1) (by omega);by_cases h10:(c.toNat:Int)=10
   ·simp[hs,e0,e8,e9,e10,e6,hwpq,hi3',hc,h10,hwi];exact⟨_,by omega,i+1,IntKind.i64.wrap (line+1),true,by omega,by omega,rfl,by simp[hs],rfl,rfl,by simp[hs,e0],by simp[hs,e8],by simp[hs,e9],by simp[hs],by simp[hs],by simp[hs],Xj4 _,by simp[hs,e5]⟩
   ·simp[hs,e0,e8,e9,e10,e6,hwpq,hi3',hc,h10,hwi];exact⟨_,by omega,i+1,line,nl,by omega,by omega,rfl,by simp[hs],rfl,rfl,by simp[hs,e0],by simp[hs,e8],by simp[hs,e9],by simp[hs],by simp[hs,e6],by simp[hs,e7],hline,by simp[hs,e5]⟩
  have hi3':¬(i:Int)<(p:Int)+q:=by omega
  by_cases hq0:q=0;rotate_left
  ·have hqp:0<q:=by omega
   simp[hs,e0,e8,e9,e10,e6,hwpq,hi3',hqp];exact⟨_,by omega,p+q,l,line,nl,by omega,rfl,by simp[hs],rfl,hg,by simp[hs,e0],by simp[hs],by simp[hs,e6],by simp[hs,e7],hline,by simpa [hs,e5]using hacc,hok,by omega⟩
  subst hq0;have hqp:¬(0:Int)<0:=by omega
  simp only[Int.natCast_zero,Int.add_zero]at*;simp[hs,e0,e8,e9,e10,e6,hwpq,hi3',hp];refine(f110 (t.extract p t.size) (by omega) (by omega) k (by omega)).call (by rintro _ ⟨u,n,e,rfl,_⟩;simp[Tk.enc]) hE' rfl ?_;rintro _ ⟨⟨kd,us,un,ul,unl⟩,n,e,rfl,htk,he,h1⟩;have mw:=Xaa hE' st'.H.length;rw[hsub]at h1;by_cases he0:e=0;rotate_left
  ·simp[hs,e6,Tk.enc,Xag,wrC,mw,he0,Grow.trans hg (Grow.appH _ _),isLex.err]
  subst he0;obtain⟨hn1,hn2,hn3⟩:=h1 rfl;simp only at hn3
  have hlen:lenA false v=some (.int .i64 l.length):=by
    rcases hacc with⟨h1,_,rfl⟩|⟨i,rfl,_⟩
    ·simp[lenA,h1]
    ·simp[lenA]
  by_cases h20:l.length=20000
  ·simp[-lenA,hs,e5,e6,Tk.enc,Xag,wrC,mw,hlen,h20,Grow.trans hg (Grow.appH _ _),isLex.err]
  have hlp:∀l:List Tk,l.length<=Tk.pot l:=fun l=>by
    induction l with
    |nil=>simp
    |cons t r ih=>simp only[List.length_cons,Tk.pot];omega
  have hll:=hlp l
  obtain⟨v',I',ha1,ha2,ha3⟩:=(hacc.push [(1,5)]).app (E:=E) (bytes:=48) (k:=1) (y:=.sl (some st'.I.length) 1 (Tk.enc ⟨kd,us,un,line,nl⟩)) (ys:=Tk.enc ⟨kd,us,un,line,nl⟩) hE.rom rfl (hg.I.trans (List.prefix_append _ _)) (by omega) (by omega) (by simp[srcA,Tk.enc]) rfl
    (st'.H++ [.cells 130 (Tk.enc ⟨kd,us,un,line,nl⟩)])
  simp only[Tk.enc]at ha1;have hwn:=Xah (n:=(p:Int)+n) (by omega);have h20':¬(l.length:Int)=20000:=by omega
  simp[-lenA,hs,e0,e5,e6,e7,e8,Tk.enc,Xag,Xap,wrC,mw,hlen,h20,h20',ha1,hwn]
  exact⟨_,by omega,p+n,l++ [⟨kd,us,un,line,nl⟩],line,false,by omega,rfl,by simp[hs],rfl,.of (hg.H.trans (List.prefix_append _ _)) ha3,by simp[hs,e0],by simp[hs],by simp[hs,e6],by simp[hs],hline,
    by simpa [hs,Tk.encL_app,Tk.enc]using ha2,fun x hx=>by
      rcases List.mem_append.1 hx with hx|hx
      ·exact hok x hx
      ·rw[List.mem_singleton.1 hx];exact⟨htk.1,htk.2.1,hline,htk.2.2.2⟩,by
      rw[Tk.pot_app];simp only[Tk.pot];omega⟩
theorem f47(t:ByteArray)(ht:t.size<=60000)(k:Nat)(hk:t.size+1210<=k):PureE k 47 [.str t] (isToks t.size):=by intro E st hE;obtain⟨k,rfl⟩:=uK (k:=k) (by omega);refine Xai rfl rfl (by decide) fun s hs e0=>?_;simp[hs,e0];refine(f75 t ht k (by omega)).call (by rintro _ ⟨_,a,e,rfl,l,rfl,_⟩;simp[Tk.encL_refs]) hE rfl ?_;rintro _ ⟨_,a,e,rfl,l,rfl,hl⟩;simp[hs,Grow.refl,Tk.encL_fin];exact⟨l,rfl,hl⟩
section
variable{H:List ABlk}{rb:Nat}
theorem rg(h:rb<H.length)(c:ABlk)(l:List ABlk):(H.set rb c++l)[rb]?=some c:=by rw[List.getElem?_append_left (by simpa using h),List.getElem?_set_self h]
theorem rg0(h:rb<H.length)(c:ABlk):(H.set rb c)[rb]?=some c:=List.getElem?_set_self h
theorem rs(h:rb<H.length)(c c':ABlk)(l:List ABlk):(H.set rb c++l).set rb c'=H.set rb c'++l:=by rw[List.set_append_left _ _ (by simpa using h),List.set_set]
@[simp] theorem lg(c:ABlk)(l:List ABlk)(j:Nat):(H.set rb c++l)[H.length+j]?=l[j]?:=by rw[List.getElem?_append_right (by simp)];simp
@[simp] theorem lg0(c:ABlk)(l:List ABlk):(H.set rb c++l)[H.length]?=l[0]?:=lg c l 0
@[simp] theorem ls(c:ABlk)(l:List ABlk)(j:Nat)(x:ABlk):(H.set rb c++l).set (H.length+j) x=H.set rb c++l.set j x:=by rw[List.set_append_right _ _ (by simp)];simp
@[simp] theorem ls0(c:ABlk)(l:List ABlk)(x:ABlk):(H.set rb c++l).set H.length x=H.set rb c++l.set 0 x:=ls c l 0 x
end
def RQ(tk:List Tk)(p e ln:Int):List AV:=[.sl none tk.length (Tk.encL tk),.int .i64 p,.int .i64 e,.int .i64 ln]
@[simp] theorem RD_0(tk p e ln):(RQ tk p e ln)[0]?=some (.sl none tk.length (Tk.encL tk)):=nr rfl
@[simp] theorem RD_1(tk p e ln):(RQ tk p e ln)[1]?=some (.int .i64 p):=nr rfl
@[simp] theorem RD_2(tk p e ln):(RQ tk p e ln)[2]?=some (.int .i64 e):=nr rfl
@[simp] theorem RD_3(tk p e ln):(RQ tk p e ln)[3]?=some (.int .i64 ln):=nr rfl
@[simp] theorem Jj7(tk p e ln)(h):(RQ tk p e ln)[0]'h=.sl none tk.length (Tk.encL tk):=nr rfl
@[simp] theorem Jj6(tk p e ln)(h):(RQ tk p e ln)[1]'h=.int .i64 p:=nr rfl
@[simp] theorem Jj5(tk p e ln)(h):(RQ tk p e ln)[2]'h=.int .i64 e:=nr rfl
@[simp] theorem Jj4(tk p e ln)(h):(RQ tk p e ln)[3]'h=.int .i64 ln:=nr rfl
@[simp] theorem Ji6(tk p e ln):(RQ tk p e ln).length=4:=nr rfl
@[simp] theorem Jj3(tk p e ln x):wrC (RQ tk p e ln) 1 [.int .i64 x]=RQ tk x e ln:=nr rfl
@[simp] theorem Jj2(tk p e ln x):wrC (RQ tk p e ln) 2 [.int .i64 x]=RQ tk p x ln:=nr rfl
@[simp] theorem Jj1(tk p e ln x):wrC (RQ tk p e ln) 3 [.int .i64 x]=RQ tk p e x:=nr rfl
theorem Xbm{E:Env}{rb:Nat}(h:E.rob<=rb)(c:List AV)(k:IntKind)(n:Int):Xaf E rb c [.int k n]=true:=by simp[Xaf,h,Xdw,AV.refsL,AV.refs]
theorem Xcg{E:Env}{H:List ABlk}{I:List (Nat×Nat)}(h:E.Wf ⟨H,I⟩)(j:Nat)(x y:List AV):Xaf E (H.length+j) x y=true:=Xaa h _ x y (by simp)
theorem Xbi{E:Env}{H:List ABlk}{I:List (Nat×Nat)}(h:E.Wf ⟨H,I⟩)(x y:List AV):Xaf E H.length x y=true:=Xaa h _ x y (by simp)
def RdP(H:List ABlk)(I:List (Nat×Nat))(rb ty:Nat)(tk:List Tk)(Q:AV->Nat->Int->Int->Prop)(r:Rt AV)(st':St):Prop:=
  ∃v p' e' ln' X Y,r=.ok v/\st'=⟨H.set rb (.cells ty (RQ tk (p':Nat) e' ln'))++X,I++Y⟩/\Q (v.fin I.length) p' e' ln'
def RdC(k f:Nat)(args:List AV)(tk:List Tk)(p:Nat)(e ln:Int)(Q:AV->Nat->Int->Int->Prop):Prop:=
 ∀E H I rb ty,E.Wf ⟨H,I⟩->E.rob<=rb->rb<H.length->CallQ k E f (.ptr rb 0::args) ⟨H.set rb (.cells ty (RQ tk p e ln)),I⟩ (RdP H I rb ty tk Q)
theorem RdP.mk{H I rb ty tk Q v}(p':Nat){x e' ln':Int}{X:List ABlk}{Y:List (Nat×Nat)}(hx:x=p')(q:Q (v.fin I.length) p' e' ln'):RdP H I rb ty tk Q (.ok v) ⟨H.set rb (.cells ty (RQ tk x e' ln'))++X,I++Y⟩:=by subst hx;exact⟨_,_,_,_,_,_,rfl,rfl,q⟩
theorem RdP.mkX{H I rb ty tk Q v}(p':Nat){x e' ln':Int}{X:List ABlk}(hx:x=p')(q:Q (v.fin I.length) p' e' ln'):RdP H I rb ty tk Q (.ok v) ⟨H.set rb (.cells ty (RQ tk x e' ln'))++X,I⟩:=by
 have:=RdP.mk (Y:=[]) (rb:=rb) (H:=H) (X:=X) (ty:=ty) (tk:=tk) p' hx q
 rwa [List.append_nil]at this
theorem RdP.mk0{H I rb ty tk Q v}(p':Nat){x e' ln':Int}(hx:x=p')(q:Q (v.fin I.length) p' e' ln'):RdP H I rb ty tk Q (.ok v) ⟨H.set rb (.cells ty (RQ tk x e' ln')),I⟩:=by
 have:=RdP.mkX (X:=[]) (rb:=rb) (H:=H) (ty:=ty) (tk:=tk) p' hx q
 rwa [List.append_nil]at this
theorem RdP.mkI{H I I' rb ty tk Q v}(p':Nat){x e' ln':Int}{X:List ABlk}(hI:I<+:I')(hx:x=p')(q:Q (v.fin I.length) p' e' ln'):RdP H I rb ty tk Q (.ok v) ⟨H.set rb (.cells ty (RQ tk x e' ln'))++X,I'⟩:=by obtain⟨Y,rfl⟩:=hI;exact RdP.mk p' hx q
theorem RdC.call{k f args args' tk p e ln Q}(h:RdC k f args tk p e ln Q){E:Env}{H:List ABlk}{I:List (Nat×Nat)}{rb ty:Nat}(hE:E.Wf ⟨H,I⟩)(hr:E.rob<=rb)(hb:rb<H.length)(l:List ABlk)(hf:args'.map AV.arg=args)(hq:∀w p' e' ln',Q w p' e' ln'->w.refs=[])
  {P:Rt AV×St->Prop} (hp:∀w p' e' ln',Q w p' e' ln'->P (.ok w,⟨H.set rb (.cells ty (RQ tk (p':Nat) e' ln'))++l,I⟩)):
  obP (doCall (aCall prog k) E .full (.fn f) (.ptr rb 0::args') ⟨H.set rb (.cells ty (RQ tk p e ln))++l,I⟩) P:=by
 have e1:∀c,H.set rb c++l=(H++l).set rb c:=fun c=>by rw[List.set_append_left _ _ hb]
 have hE2:Env.Wf {E with base:=(H++l).length} ⟨H++l,I⟩:=⟨Nat.le_refl _,by have:=hE.rob;simp at this⊢;omega,hE.rom⟩;obtain⟨⟨r,st'⟩,e2,v,p',e',ln',X,Y,rfl,rfl,q⟩:=h {E with base:=(H++l).length} (H++l) I rb ty hE2 hr (by simp;omega);have hlen:((H++l).set rb (.cells ty (RQ tk p e ln))).length=(H++l).length:=by simp
 simp only[doCall,List.map_cons,Xvi,hf,e1,hlen];rw[e2,Xam];have ht:((H++l).set rb (.cells ty (RQ tk (p':Nat) e' ln'))++X).take (H++l).length=(H++l).set rb (.cells ty (RQ tk (p':Nat) e' ln')):=by exact List.take_left' (by simp)
 have hi:(I++Y).take I.length=I:=List.take_left;simp only[hq _ _ _ _ q,Xda,Xax,Xas,ht,hi];refine⟨_,rfl,?_⟩;have:=hp _ _ _ _ q;rw[e1]at this;exact this
theorem RdC.call0{k f args args' tk p e ln Q}(h:RdC k f args tk p e ln Q){E:Env}{H:List ABlk}{I:List (Nat×Nat)}{rb ty:Nat}(hE:E.Wf ⟨H,I⟩)(hr:E.rob<=rb)(hb:rb<H.length)(hf:args'.map AV.arg=args)(hq:∀w p' e' ln',Q w p' e' ln'->w.refs=[])
  {P:Rt AV×St->Prop} (hp:∀w p' e' ln',Q w p' e' ln'->P (.ok w,⟨H.set rb (.cells ty (RQ tk (p':Nat) e' ln')),I⟩)):
  obP (doCall (aCall prog k) E .full (.fn f) (.ptr rb 0::args') ⟨H.set rb (.cells ty (RQ tk p e ln)),I⟩) P:=by
 have:=h.call (P:=P) hE hr hb [] hf hq (ty:=ty) (fun w p' e' ln' q=>by rw[List.append_nil];exact hp w p' e' ln' q)
 rwa [List.append_nil]at this
def isQ(w0:AV)(p0:Nat)(e0 ln0:Int)(w:AV)(p':Nat)(e' ln':Int):Prop:=w=w0/\p'=p0/\e'=e0/\ln'=ln0
theorem RdC.eq{k f args tk p e ln w0 p0 e0 ln0}(h:RdC k f args tk p e ln (isQ w0 p0 e0 ln0)){E:Env}{H:List ABlk}{I:List (Nat×Nat)}{rb ty:Nat}(hE:E.Wf ⟨H,I⟩)(hr:E.rob<=rb)(hb:rb<H.length)(hw:w0.refs=[])(hf:args.map AV.arg=args)(l:List ABlk):
  doCall (aCall prog k) E .full (.fn f) (.ptr rb 0::args) ⟨H.set rb (.cells ty (RQ tk p e ln))++l,I⟩=some (.ok w0,⟨H.set rb (.cells ty (RQ tk p0 e0 ln0))++l,I⟩):=by
 obtain⟨q,h1,h2⟩:=h.call (P:=fun q=>q=(.ok w0,⟨H.set rb (.cells ty (RQ tk p0 e0 ln0))++l,I⟩)) hE hr hb l hf (by rintro w p' e' ln' ⟨rfl,_⟩;exact hw) (by rintro w p' e' ln' ⟨rfl,rfl,rfl,rfl⟩;rfl);rw[h1,h2]
theorem RdC.eq0{k f args tk p e ln w0 p0 e0 ln0}(h:RdC k f args tk p e ln (isQ w0 p0 e0 ln0)){E:Env}{H:List ABlk}{I:List (Nat×Nat)}{rb ty:Nat}(hE:E.Wf ⟨H,I⟩)(hr:E.rob<=rb)(hb:rb<H.length)(hw:w0.refs=[])(hf:args.map AV.arg=args):
  doCall (aCall prog k) E .full (.fn f) (.ptr rb 0::args) ⟨H.set rb (.cells ty (RQ tk p e ln)),I⟩=some (.ok w0,⟨H.set rb (.cells ty (RQ tk p0 e0 ln0)),I⟩):=by
 have:=h.eq (ty:=ty) hE hr hb hw hf []
 rwa [List.append_nil,List.append_nil]at this
def Tk.no:Tk:=⟨0,⟨#[]⟩,0,0,false⟩
def tkAt(tk:List Tk)(i:Nat):Tk:=(tk[i]?).getD Tk.no
theorem Tk.encL_drop:∀(l:List Tk) (i:Nat),(Tk.encL l).drop (i*5)=Tk.encL (l.drop i)
 |l,0=>by simp
 |[],i+1=>by simp
 |t::r,i+1=>by rw[Tk.encL,List.drop_succ_cons,<-Tk.encL_drop r i,show(i+1)*5=t.enc.length+i*5 by simp[Tk.enc];omega,List.drop_append];simp
theorem Tk.rd{l:List Tk}{i:Nat}{t:Tk}(h:l[i]?=some t):rdC (some 5) (Tk.encL l) (i*5)=some (.agg t.enc):=by
 have hlt:=uB h;have hd:l.drop i=t::l.drop (i+1):=by rw[List.drop_eq_getElem_cons hlt];congr 1;exact uV h
 simp only[rdC,Tk.encL_len,Tk.encL_drop,hd,Tk.encL];rw[if_pos (by omega),List.take_append_of_le_length (by simp[Tk.enc])];rw[show(5:Nat)=t.enc.length by simp[Tk.enc],List.take_length]
theorem Tk.cell{l:List Tk}{i:Nat}{t:Tk}(h:l[i]?=some t)(j:Nat)(hj:j<5):(Tk.encL l)[i*5+j]?=t.enc[j]?:=by
 have hlt:=uB h;have hd:l.drop i=t::l.drop (i+1):=by rw[List.drop_eq_getElem_cons hlt];congr 1;exact uV h
 rw[<-List.getElem?_drop,Tk.encL_drop,hd,Tk.encL,List.getElem?_append_left (by simpa [Tk.enc]using hj)]
@[simp] theorem wr5(a b c d e a' b' c' d' e':AV):wrC [a,b,c,d,e] 0 [a',b',c',d',e']=[a',b',c',d',e']:=nr rfl
@[simp] theorem wr50(a b c d e x:AV):wrC [a,b,c,d,e] 0 [x]=[x,b,c,d,e]:=nr rfl
@[simp] theorem wr51(a b c d e x:AV):wrC [a,b,c,d,e] 1 [x]=[a,x,c,d,e]:=nr rfl
@[simp] theorem wr52(a b c d e x:AV):wrC [a,b,c,d,e] 2 [x]=[a,b,x,d,e]:=nr rfl
@[simp] theorem wr53(a b c d e x:AV):wrC [a,b,c,d,e] 3 [x]=[a,b,c,x,e]:=nr rfl
@[simp] theorem wr54(a b c d e x:AV):wrC [a,b,c,d,e] 4 [x]=[a,b,c,d,x]:=nr rfl
@[simp] theorem Jjb(a0 a1 a2 a3 a4 a5 a6 a7 a8 a9 x0 x1 x2 x3 x4:AV):wrC [a0,a1,a2,a3,a4,a5,a6,a7,a8,a9] 0 [x0,x1,x2,x3,x4]=[x0,x1,x2,x3,x4,a5,a6,a7,a8,a9]:=nr rfl
@[simp] theorem Jja(a0 a1 a2 a3 a4 a5 a6 a7 a8 a9 x0 x1 x2 x3 x4:AV):wrC [a0,a1,a2,a3,a4,a5,a6,a7,a8,a9] 5 [x0,x1,x2,x3,x4]=[a0,a1,a2,a3,a4,x0,x1,x2,x3,x4]:=nr rfl
@[simp] theorem Ji9(a0 a1 a2 a3 a4 a5 a6 a7 a8 a9 a10 a11 a12 a13 a14 x0 x1 x2 x3 x4:AV):wrC [a0,a1,a2,a3,a4,a5,a6,a7,a8,a9,a10,a11,a12,a13,a14] 0 [x0,x1,x2,x3,x4]=[x0,x1,x2,x3,x4,a5,a6,a7,a8,a9,a10,a11,a12,a13,a14]:=nr rfl
@[simp] theorem Ji8(a0 a1 a2 a3 a4 a5 a6 a7 a8 a9 a10 a11 a12 a13 a14 x0 x1 x2 x3 x4:AV):wrC [a0,a1,a2,a3,a4,a5,a6,a7,a8,a9,a10,a11,a12,a13,a14] 5 [x0,x1,x2,x3,x4]=[a0,a1,a2,a3,a4,x0,x1,x2,x3,x4,a10,a11,a12,a13,a14]:=nr rfl
@[simp] theorem Ji7(a0 a1 a2 a3 a4 a5 a6 a7 a8 a9 a10 a11 a12 a13 a14 x0 x1 x2 x3 x4:AV):wrC [a0,a1,a2,a3,a4,a5,a6,a7,a8,a9,a10,a11,a12,a13,a14] 10 [x0,x1,x2,x3,x4]=[a0,a1,a2,a3,a4,a5,a6,a7,a8,a9,x0,x1,x2,x3,x4]:=nr rfl
attribute [simp] Xag Xap
theorem f103{tk:List Tk}{p:Nat}(e ln:Int)(hn:tk.length<=60000)(hp:p<=tk.length)(j:Nat)(hj:j<=1)(k:Nat)(hk:1<=k):
  RdC k 103 [.int .i64 j] tk p e ln (isQ (.agg (tkAt tk (p+j)).enc) p e ln):=by
 intro E H I rb ty hE hr hb;obtain⟨k,rfl⟩:=uK (k:=k) (by omega);refine Xaz rfl rfl (by decide) fun s hs e0 e1=>?_;have hw:=Xah (n:=(p:Int)+j) (by omega);have m0:=Xbi hE;by_cases h:p+j<tk.length
 ·obtain⟨t,ht⟩:∃t,tk[p+j]?=some t:=⟨_,List.getElem?_eq_getElem h⟩;have h':(p:Int)+j<tk.length:=by omega
  have h0:(0:Int)<=(p:Int)+j:=by omega
  have htn:((p:Int)+j).toNat=p+j:=by omega
  have hrd:=Tk.rd ht;simp[hs,e0,e1,rg hb,hw,h',h0,htn,hrd,Nat.testBit,Tk.enc,m0];exact RdP.mkX p rfl ⟨by simp[tkAt,ht,Tk.enc],rfl,rfl,rfl⟩
 ·have h':¬(p:Int)+j<tk.length:=by omega
  simp[hs,e0,e1,rg hb,hw,h',Nat.testBit,m0];exact RdP.mkX p rfl ⟨by simp[tkAt,List.getElem?_eq_none (by omega:tk.length<=p+j),Tk.no,Tk.enc],rfl,rfl,rfl⟩
@[simp] theorem Tk.enc_refs(t:Tk):AV.refsL t.enc=[]:=by simp[Tk.enc]
theorem Xdi{tk:List Tk}{p:Nat}{e ln:Int}(hn:tk.length<=60000)(hp:p<=tk.length){k:Nat}(hk:1<=k){E:Env}{H:List ABlk}{I:List (Nat×Nat)}{rb ty:Nat}(hE:E.Wf ⟨H,I⟩)(hr:E.rob<=rb)(hb:rb<H.length)(l:List ABlk):
  doCall (aCall prog k) E .full (.fn 103) [.ptr rb 0,.int .i64 0] ⟨H.set rb (.cells ty (RQ tk p e ln))++l,I⟩=some (.ok (.agg (tkAt tk p).enc),⟨H.set rb (.cells ty (RQ tk p e ln))++l,I⟩):=
 (f103 e ln hn hp 0 (by omega) k hk).eq hE hr hb (by simp) rfl l
theorem Xg4{tk:List Tk}{p:Nat}{e ln:Int}(hn:tk.length<=60000)(hp:p<=tk.length){k:Nat}(hk:1<=k){E:Env}{H:List ABlk}{I:List (Nat×Nat)}{rb ty:Nat}(hE:E.Wf ⟨H,I⟩)(hr:E.rob<=rb)(hb:rb<H.length):
  doCall (aCall prog k) E .full (.fn 103) [.ptr rb 0,.int .i64 0] ⟨H.set rb (.cells ty (RQ tk p e ln)),I⟩=some (.ok (.agg (tkAt tk p).enc),⟨H.set rb (.cells ty (RQ tk p e ln)),I⟩):=
 (f103 e ln hn hp 0 (by omega) k hk).eq0 hE hr hb (by simp) rfl
def isB(tk:List Tk)(p:Nat)(e:Int)(s:ByteArray):Bool:=decide (e=0) && ((decide ((tkAt tk p).kind=5)||decide ((tkAt tk p).kind=2)) && decide ((tkAt tk p).s=s))
theorem f104{tk:List Tk}{p:Nat}(e ln:Int)(s0:ByteArray)(hn:tk.length<=60000)(hp:p<=tk.length)(k:Nat)(hk:2<=k):
  RdC k 104 [.str s0] tk p e ln (isQ (.bool (isB tk p e s0)) p e ln):=by
 intro E H I rb ty hE hr hb;obtain⟨k,rfl⟩:=uK (k:=k) (by omega);refine Xaz rfl rfl (by decide) fun s hs e0 e1=>?_;have m0:=Xbi hE;have g:=Xg4 (e:=e) (ln:=ln) (ty:=ty) hn hp (k:=k) (by omega) hE hr hb;obtain⟨⟨tkd,ts,tn,tl,tnl⟩,ht⟩:∃t,tkAt tk p=t:=⟨_,rfl⟩;rw[ht]at g;simp[hs,e0,e1,g,Tk.enc,m0,rg hb];repeat' (with_reducible refine Xaq (fun h=>?_) (fun h=>?_)<;>simp[*])
 all_goals exact RdP.mkX p rfl ⟨by simp[isB, *],rfl,rfl,rfl⟩
theorem Xl0{tk:List Tk}{p:Nat}{e:Int}{s:ByteArray}(h:isB tk p e s=true):p<tk.length/\e=0:=by
 simp only[isB,Bool.and_eq_true,Bool.or_eq_true,decide_eq_true_eq]at h;refine⟨?_,h.1⟩;rcases Nat.lt_or_ge p tk.length with h1|h1
 ·exact h1
 ·rw[tkAt,List.getElem?_eq_none h1]at h;simp[Tk.no]at h
theorem Xyx{tk:List Tk}{p:Nat}{e ln:Int}(s:ByteArray)(hn:tk.length<=60000)(hp:p<=tk.length){k:Nat}(hk:2<=k){E:Env}{H:List ABlk}{I:List (Nat×Nat)}{rb ty:Nat}(hE:E.Wf ⟨H,I⟩)(hr:E.rob<=rb)(hb:rb<H.length)(l:List ABlk):
  doCall (aCall prog k) E .full (.fn 104) [.ptr rb 0,.str s] ⟨H.set rb (.cells ty (RQ tk p e ln))++l,I⟩=some (.ok (.bool (isB tk p e s)),⟨H.set rb (.cells ty (RQ tk p e ln))++l,I⟩):=
 (f104 e ln s hn hp k hk).eq hE hr hb rfl rfl l
theorem Xlz{tk:List Tk}{p:Nat}{e ln:Int}(s:ByteArray)(hn:tk.length<=60000)(hp:p<=tk.length){k:Nat}(hk:2<=k){E:Env}{H:List ABlk}{I:List (Nat×Nat)}{rb ty:Nat}(hE:E.Wf ⟨H,I⟩)(hr:E.rob<=rb)(hb:rb<H.length):
  doCall (aCall prog k) E .full (.fn 104) [.ptr rb 0,.str s] ⟨H.set rb (.cells ty (RQ tk p e ln)),I⟩=some (.ok (.bool (isB tk p e s)),⟨H.set rb (.cells ty (RQ tk p e ln)),I⟩):=
 (f104 e ln s hn hp k hk).eq0 hE hr hb rfl rfl
def takeN(tk:List Tk)(p:Nat)(e:Int)(s:ByteArray):Nat:=if isB tk p e s then p+1 else p
theorem f105{tk:List Tk}{p:Nat}(e ln:Int)(s0:ByteArray)(hn:tk.length<=60000)(hp:p<=tk.length)(k:Nat)(hk:3<=k):
  RdC k 105 [.str s0] tk p e ln (isQ (.bool (isB tk p e s0)) (takeN tk p e s0) e ln):=by
 intro E H I rb ty hE hr hb;obtain⟨k,rfl⟩:=uK (k:=k) (by omega);refine Xaz rfl rfl (by decide) fun s hs e0 e1=>?_;have g:=Xlz (e:=e) (ln:=ln) (ty:=ty) s0 hn hp (k:=k) (by omega) hE hr hb;have hw:=Xah (n:=(p:Int)+1) (by omega);cases hB:isB tk p e s0
 ·rw[hB]at g;simp[hs,e0,e1,g];exact RdP.mk0 p rfl ⟨by simp,by simp[takeN,hB],rfl,rfl⟩
 ·rw[hB]at g;simp[hs,e0,e1,g,rg0 hb,hw,Xbm hr];exact RdP.mk0 (p+1) (by simp) ⟨by simp,by simp[takeN,hB],rfl,rfl⟩
theorem Xcc{tk:List Tk}{p:Nat}{e ln:Int}(s:ByteArray)(hn:tk.length<=60000)(hp:p<=tk.length){k:Nat}(hk:3<=k){E:Env}{H:List ABlk}{I:List (Nat×Nat)}{rb ty:Nat}(hE:E.Wf ⟨H,I⟩)(hr:E.rob<=rb)(hb:rb<H.length)(l:List ABlk):
  doCall (aCall prog k) E .full (.fn 105) [.ptr rb 0,.str s] ⟨H.set rb (.cells ty (RQ tk p e ln))++l,I⟩=some (.ok (.bool (isB tk p e s)),⟨H.set rb (.cells ty (RQ tk (takeN tk p e s:Nat) e ln))++l,I⟩):=
 (f105 e ln s hn hp k hk).eq hE hr hb rfl rfl l
theorem Xgq{tk:List Tk}{p:Nat}{e ln:Int}(s:ByteArray)(hn:tk.length<=60000)(hp:p<=tk.length){k:Nat}(hk:3<=k){E:Env}{H:List ABlk}{I:List (Nat×Nat)}{rb ty:Nat}(hE:E.Wf ⟨H,I⟩)(hr:E.rob<=rb)(hb:rb<H.length):
  doCall (aCall prog k) E .full (.fn 105) [.ptr rb 0,.str s] ⟨H.set rb (.cells ty (RQ tk p e ln)),I⟩=some (.ok (.bool (isB tk p e s)),⟨H.set rb (.cells ty (RQ tk (takeN tk p e s:Nat) e ln)),I⟩):=
 (f105 e ln s hn hp k hk).eq0 hE hr hb rfl rfl
def failQ(w0:AV)(p:Nat)(e c:Int)(w:AV)(p':Nat)(e' ln':Int):Prop:=w=w0/\p'=p/\(e'=if e=0 then c else e)/\ok64 ln'
theorem Xg5{tk:List Tk}(h:∀t∈tk,t.ok){i:Nat}{t:Tk}(ht:tk[i]?=some t):ok64 t.line:=(h t (List.mem_of_getElem? ht)).2.2.1
theorem f107{tk:List Tk}{p:Nat}(e ln c:Int)(hn:tk.length<=60000)(hk0:∀t∈tk,t.ok)(hp:p<=tk.length)(hln:ok64 ln)(k:Nat)(hk:1<=k):
  RdC k 107 [.int .i64 c] tk p e ln (failQ (.tup []) p e c):=by
 intro E H I rb ty hE hr hb;obtain⟨k,rfl⟩:=uK (k:=k) (by omega);refine Xaz rfl rfl (by decide) fun s hs e0 e1=>?_;by_cases he:e=0;rotate_left
 ·simp[hs,e0,e1,rg0 hb,he];exact RdP.mk0 p rfl ⟨by simp,rfl,by simp[he],hln⟩
 by_cases h:p<tk.length
 ·obtain⟨t,ht⟩:∃t,tk[p]?=some t:=⟨_,List.getElem?_eq_getElem h⟩;have h3:=Tk.cell ht 3 (by omega);simp[hs,e0,e1,rg0 hb,he,h,Nat.testBit,h3,Tk.enc,Xbm hr];exact RdP.mk0 p rfl ⟨by simp,rfl,by simp[he],Xg5 hk0 ht⟩
 by_cases h0:0<tk.length
 ·obtain⟨t,ht⟩:∃t,tk[tk.length - 1]?=some t:=⟨_,List.getElem?_eq_getElem (by omega)⟩;have h3:=Tk.cell ht 3 (by omega);have hw:=Xah (n:=(tk.length:Int) - 1) (by omega);have htn:((tk.length:Int) - 1).toNat=tk.length - 1:=by omega
  have h0':(1:Int)<=(tk.length:Int):=by omega
  have h0'':(tk.length:Int) - 1<tk.length:=by omega
  simp[hs,e0,e1,rg0 hb,he,h,h0,Nat.testBit,h3,Tk.enc,Xbm hr,hw,htn,h0',h0''];exact RdP.mk0 p rfl ⟨by simp,rfl,by simp[he],Xg5 hk0 ht⟩
 ·simp[hs,e0,e1,rg0 hb,he,h,h0,Nat.testBit,Xbm hr];exact RdP.mk0 p rfl ⟨by simp,rfl,by simp[he],hln⟩
def isBo(w:AV):Prop:=∃b,w=.bool b
theorem f108(s0:ByteArray)(k:Nat)(hk:1<=k):PureE k 108 [.str s0] isBo:=by intro E st hE;obtain⟨k,rfl⟩:=uK (k:=k) (by omega);refine Xai rfl rfl (by decide) fun s hs e0=>?_;have hb:∀b,isBo (.bool b):=fun b=>⟨b,rfl⟩;simp[hs,e0];repeat' (with_reducible refine Xaq (fun h=>?_) (fun h=>?_)<;>simp[*,Grow.refl,Xdj])
def nd0:List AV:=[.int .i64 0,.str ⟨#[]⟩,.int .i64 0,.sl none 0 [],.int .i64 0]
def stopQ(p:Nat)(w:AV)(p':Nat)(e' ln':Int):Prop:=w=.agg nd0/\p'=p/\e'≠0/\ok64 e'/\ok64 ln'
theorem failQ.ref{w0:AV}{p:Nat}{e c:Int}(h:w0.refs=[]):∀w p' e' ln',failQ w0 p e c w p' e' ln'->w.refs=[]:=by rintro _ _ _ _ ⟨rfl,_⟩;exact h
theorem f74{tk:List Tk}{p:Nat}(e ln:Int)(b:Bool)(hn:tk.length<=60000)(hk0:∀t∈tk,t.ok)(hp:p<=tk.length)(he:ok64 e)(hln:ok64 ln)(k:Nat)(hk:4<=k):
    RdC k 74 [.bool b] tk p e ln (stopQ p):=by
  intro E H I rb ty hE hr hb;obtain⟨k,rfl⟩:=uK (k:=k) (by omega);refine Xaz rfl rfl (by decide) fun s hs e0 e1=>?_;have m0:=Xbi hE;have m1:=Xcg hE;have g:=fun l=>Xdi (e:=e) (ln:=ln) (ty:=ty) hn hp (k:=k) (by omega) hE hr hb l;obtain⟨⟨tkd,ts,tn,tl,tnl⟩,ht⟩:∃t,tkAt tk p=t:=⟨_,rfl⟩;rw[ht]at g;simp only[Tk.enc]at g
  have fin:∀(c:Int) (e':Int),c≠0->ok64 c->(e'=if e=0 then c else e)->e'≠0/\ok64 e':=fun c e' hc hc2 h=>by
    rw[h];split
    ·exact⟨hc,hc2⟩
    ·rename_i h;exact⟨h,he⟩
  have go:∀c:Int,c≠0->ok64 c->∀(l:List ABlk) (P:Rt AV×St->Prop),(∀e' ln',e'≠0->ok64 e'->ok64 ln'->P (.ok (.tup []),⟨H.set rb (.cells ty (RQ tk (p:Nat) e' ln'))++l,I⟩))->
      obP (doCall (aCall prog k) E .full (.fn 107) [.ptr rb 0,.int .i64 c] ⟨H.set rb (.cells ty (RQ tk p e ln))++l,I⟩) P:=fun c hc hc2 l P hP=>
    (f107 e ln c hn hk0 hp hln k (by omega)).call hE hr hb l rfl (failQ.ref rfl) (by
      rintro _ _ e' ln' ⟨rfl,rfl,h1,h2⟩;exact hP e' ln' (fin c e' hc hc2 h1).1 (fin c e' hc hc2 h1).2 h2)
  have o42:ok64 42:=by unfold ok64;omega
  have o44:ok64 44:=by unfold ok64;omega
  have o47:ok64 47:=by unfold ok64;omega
  have o40:ok64 40:=by unfold ok64;omega
  have hE2:∀e' ln' l,E.Wf ⟨H.set rb (.cells ty (RQ tk p e' ln'))++l,I⟩:=fun _ _ _=>hE.of (by simp) (by simp);by_cases h2:tkd=2
  ·by_cases h3:ts=⟨#[119,105,116,104]⟩
   ·simp[hs,e0,e1,g,m0,m1,h2,h3];refine go _ (by decide) o42 _ _ fun e' ln' q1 q2 q3=>?_;simp[hs,m0];exact RdP.mkX p rfl ⟨by simp[nd0],rfl,q1,q2,q3⟩
   ·simp[hs,e0,e1,g,m0,m1,h2,h3];refine(f108 ts k (by omega)).call (by rintro _ ⟨b,rfl⟩;rfl) (hE2 _ _ _) rfl ?_;rintro _ ⟨b2,rfl⟩;cases b2
    ·simp[hs,e0];refine go _ (by decide) o40 _ _ fun e' ln' q1 q2 q3=>?_;simp[hs,m0];exact RdP.mkX p rfl ⟨by simp[nd0],rfl,q1,q2,q3⟩
    ·simp[hs,e0];refine go _ (by decide) o47 _ _ fun e' ln' q1 q2 q3=>?_;simp[hs,m0];exact RdP.mkX p rfl ⟨by simp[nd0],rfl,q1,q2,q3⟩
  ·by_cases h5:tkd=5
   ·by_cases h3:ts=⟨#[47]⟩
    ·cases b
     ·simp[hs,e0,e1,g,m0,m1,h5,h3];refine go _ (by decide) o47 _ _ fun e' ln' q1 q2 q3=>?_;simp[hs,m0];exact RdP.mkX p rfl ⟨by simp[nd0],rfl,q1,q2,q3⟩
     ·simp[hs,e0,e1,g,m0,m1,h5,h3];refine go _ (by decide) o44 _ _ fun e' ln' q1 q2 q3=>?_;simp[hs,m0];exact RdP.mkX p rfl ⟨by simp[nd0],rfl,q1,q2,q3⟩
    ·simp[hs,e0,e1,g,m0,m1,h5,h3];refine go _ (by decide) o40 _ _ fun e' ln' q1 q2 q3=>?_;simp[hs,m0];exact RdP.mkX p rfl ⟨by simp[nd0],rfl,q1,q2,q3⟩
   ·simp[hs,e0,e1,g,m0,m1,h2,h5];refine go _ (by decide) o40 _ _ fun e' ln' q1 q2 q3=>?_;simp[hs,m0];exact RdP.mkX p rfl ⟨by simp[nd0],rfl,q1,q2,q3⟩
theorem stopQ.ref{p:Nat}:∀w p' e' ln',stopQ p w p' e' ln'->w.refs=[]:=by rintro _ _ _ _ ⟨rfl,_⟩;rfl
def mustQ(tk:List Tk)(p:Nat)(e:Int)(w:AV)(p':Nat)(e' ln':Int):Prop:=w=.tup []/\ok64 e'/\ok64 ln'/\((e'=0/\e=0/\p<tk.length/\p'=p+1)\/(e'≠0/\p'=p))
theorem f163{tk:List Tk}{p:Nat}(e ln:Int)(s0:ByteArray)(hn:tk.length<=60000)(hk0:∀t∈tk,t.ok)(hp:p<=tk.length)(he:ok64 e)(hln:ok64 ln)(k:Nat)(hk:6<=k):
  RdC k 163 [.str s0] tk p e ln (mustQ tk p e):=by
 intro E H I rb ty hE hr hb;obtain⟨k,rfl⟩:=uK (k:=k) (by omega);refine Xaz rfl rfl (by decide) fun s hs e0 e1=>?_;have g:=Xgq (e:=e) (ln:=ln) (ty:=ty) s0 hn hp (k:=k) (by omega) hE hr hb;cases hB:isB tk p e s0
 ·rw[hB]at g;simp only[takeN,hB,Bool.false_eq_true,if_false]at g;by_cases hz:e=0
  ·subst hz;simp[hs,e0,e1,g,rg0 hb];refine(f74 0 ln false hn hk0 hp he hln k (by omega)).call0 hE hr hb rfl stopQ.ref ?_;rintro _ _ e' ln' ⟨rfl,rfl,q1,q2,q3⟩;simp[hs];exact RdP.mk0 _ rfl ⟨by simp,q2,q3,.inr ⟨q1,rfl⟩⟩
  ·simp[hs,e0,e1,g,rg0 hb,hz];exact RdP.mk0 p rfl ⟨by simp,he,hln,.inr ⟨hz,rfl⟩⟩
 ·rw[hB]at g;simp only[takeN,hB,if_true]at g;obtain⟨hlt,rfl⟩:=Xl0 hB;simp[hs,e0,e1,g];exact RdP.mk0 (p+1) (by simp) ⟨by simp,he,hln,.inl ⟨rfl,rfl,hlt,rfl⟩⟩
theorem mustQ.ref{tk:List Tk}{p:Nat}{e:Int}:∀w p' e' ln',mustQ tk p e w p' e' ln'->w.refs=[]:=by rintro _ _ _ _ ⟨rfl,_⟩;rfl
def nameQ(tk:List Tk)(p:Nat)(e:Int)(w:AV)(p':Nat)(e' ln':Int):Prop:=ok64 e'/\ok64 ln'/\((e'=0/\e=0/\p<tk.length/\p'=p+1/\w=.str (tkAt tk p).s)\/(e'≠0/\p'=p/\w=.str ⟨#[]⟩))
theorem nameQ.ref{tk:List Tk}{p:Nat}{e:Int}:∀w p' e' ln',nameQ tk p e w p' e' ln'->w.refs=[]:=by rintro _ _ _ _ ⟨_,_,⟨_,_,_,_,rfl⟩|⟨_,_,rfl⟩⟩<;>rfl
theorem Xhg{tk:List Tk}{p:Nat}(h:(tkAt tk p).kind≠0):p<tk.length:=by
 rcases Nat.lt_or_ge p tk.length with h1|h1
 ·exact h1
 ·rw[tkAt,List.getElem?_eq_none h1]at h;simp[Tk.no]at h
theorem f164{tk:List Tk}{p:Nat}(e ln:Int)(hn:tk.length<=60000)(hk0:∀t∈tk,t.ok)(hp:p<=tk.length)(he:ok64 e)(hln:ok64 ln)(k:Nat)(hk:6<=k):
  RdC k 164 [] tk p e ln (nameQ tk p e):=by
 intro E H I rb ty hE hr hb;obtain⟨k,rfl⟩:=uK (k:=k) (by omega);refine Xai rfl rfl (by decide) fun s hs e0=>?_;have m0:=Xbi hE;have g:=Xg4 (e:=e) (ln:=ln) (ty:=ty) hn hp (k:=k) (by omega) hE hr hb;have hkl:=Xhg (tk:=tk) (p:=p);obtain⟨⟨tkd,ts,tn,tl,tnl⟩,ht⟩:∃t,tkAt tk p=t:=⟨_,rfl⟩;rw[ht]at g hkl;simp only[Tk.enc]at g;by_cases hz:e=0
 ·subst hz;by_cases h1:tkd=1
  ·have hlt:=hkl (by simp[h1]);have hw:=Xah (n:=(p:Int)+1) (by omega);simp[hs,e0,g,m0,rg hb,rs hb,h1,hw,Xbm hr];exact RdP.mkX (p+1) (by simp) ⟨he,hln,.inl ⟨rfl,rfl,hlt,rfl,by simp[ht]⟩⟩
  ·simp[hs,e0,g,m0,rg hb,rs hb,h1];refine(f74 0 ln false hn hk0 hp he hln k (by omega)).call hE hr hb _ rfl stopQ.ref ?_;rintro _ _ e' ln' ⟨rfl,rfl,q1,q2,q3⟩;simp[hs];exact RdP.mkX _ rfl ⟨q2,q3,.inr ⟨q1,rfl,by simp⟩⟩
 ·simp[hs,e0,g,m0,rg hb,rs hb,hz];refine(f74 e ln false hn hk0 hp he hln k (by omega)).call hE hr hb _ rfl stopQ.ref ?_;rintro _ _ e' ln' ⟨rfl,rfl,q1,q2,q3⟩;simp[hs];exact RdP.mkX _ rfl ⟨q2,q3,.inr ⟨q1,rfl,by simp⟩⟩
def endQ'(tk:List Tk)(p:Nat)(e:Int)(w:AV)(p':Nat)(e' ln':Int):Prop:=w=.tup []/\ok64 e'/\ok64 ln'/\p<=p'/\p'<=tk.length/\p'<=p+1/\(e≠0->e'≠0)
theorem endQ'.ref{tk:List Tk}{p:Nat}{e:Int}:∀w p' e' ln',endQ' tk p e w p' e' ln'->w.refs=[]:=by rintro _ _ _ _ ⟨rfl,_⟩;rfl
theorem f148{tk:List Tk}{p:Nat}(e ln:Int)(hn:tk.length<=60000)(hk0:∀t∈tk,t.ok)(hp:p<=tk.length)(he:ok64 e)(hln:ok64 ln)(k:Nat)(hk:6<=k):
  RdC k 148 [] tk p e ln (endQ' tk p e):=by
 intro E H I rb ty hE hr hb;obtain⟨k,rfl⟩:=uK (k:=k) (by omega);refine Xai rfl rfl (by decide) fun s hs e0=>?_;have m0:=Xbi hE;have g:=Xg4 (e:=e) (ln:=ln) (ty:=ty) hn hp (k:=k) (by omega) hE hr hb;have g2:=Xcc (e:=e) (ln:=ln) (ty:=ty) ⟨#[59]⟩ hn hp (k:=k) (by omega) hE hr hb;obtain⟨⟨tkd,ts,tn,tl,tnl⟩,ht⟩:∃t,tkAt tk p=t:=⟨_,rfl⟩;rw[ht]at g;simp only[Tk.enc]at g;cases hB:isB tk p e ⟨#[59]⟩;rotate_left
 ·simp only[takeN,hB,if_true]at g2;obtain⟨hlt,rfl⟩:=Xl0 hB;simp[hs,e0,g,g2,m0];exact RdP.mkX (p+1) (by simp) ⟨by simp,he,hln,by omega,by omega,by omega,fun h=>h⟩
 simp only[takeN,hB,Bool.false_eq_true,if_false]at g2;by_cases hz:e=0;rotate_left
 ·simp[hs,e0,g,g2,m0,rg hb,hz];exact RdP.mkX p rfl ⟨by simp,he,hln,by omega,hp,by omega,fun h=>h⟩
 subst hz
 have ok0:RdP H I rb ty tk (endQ' tk p 0) (.ok (.tup [])) ⟨H.set rb (.cells ty (RQ tk p 0 ln))++ [.cells 130 [.int .i64 tkd,.str ts,.int .i64 tn,.int .i64 tl,.bool tnl]],I⟩:=
  RdP.mkX p rfl ⟨by simp,he,hln,by omega,hp,by omega,fun h=>h⟩
 have st0:∀{P:Rt AV×St->Prop} (l:List ABlk),(∀e' ln',e'≠0->ok64 e'->ok64 ln'->P (.ok (.agg nd0),⟨H.set rb (.cells ty (RQ tk (p:Nat) e' ln'))++l,I⟩))->obP (doCall (aCall prog k) E .full (.fn 74) [.ptr rb 0,.bool false] ⟨H.set rb (.cells ty (RQ tk p 0 ln))++l,I⟩) P:=fun l hP=>
  (f74 0 ln false hn hk0 hp he hln k (by omega)).call hE hr hb l rfl stopQ.ref (by rintro _ _ e' ln' ⟨rfl,rfl,q1,q2,q3⟩;exact hP e' ln' q1 q2 q3)
 have fin:∀e' ln',e'≠0->ok64 e'->ok64 ln'->RdP H I rb ty tk (endQ' tk p 0) (.ok (.tup [])) ⟨H.set rb (.cells ty (RQ tk (p:Nat) e' ln'))++ [.cells 130 [.int .i64 tkd,.str ts,.int .i64 tn,.int .i64 tl,.bool tnl]],I⟩:=fun e' ln' q1 q2 q3=>
  RdP.mkX p rfl ⟨by simp,q2,q3,by omega,hp,by omega,fun _=>q1⟩
 by_cases hd:tkd=0
 ·subst hd;simp[hs,e0,g,g2,m0,rg hb,ok0]
 cases tnl
 ·by_cases h5:tkd=5
  ·subst h5;by_cases h3:ts=⟨#[125]⟩
   ·subst h3;simp[hs,e0,g,g2,m0,rg hb,ok0]
   ·simp[hs,e0,g,g2,m0,rg hb,h3];refine st0 _ fun e' ln' q1 q2 q3=>?_;simp[hs,fin e' ln' q1 q2 q3]
  ·simp[hs,e0,g,g2,m0,rg hb,h5,hd];refine st0 _ fun e' ln' q1 q2 q3=>?_;simp[hs,fin e' ln' q1 q2 q3]
 ·simp[hs,e0,g,g2,m0,rg hb,hd,ok0]
theorem sz0:ByteArray.size ⟨#[]⟩=0:=rfl
mutual
/-- A tree's numbers are int64's. -/
def T.ok1:T->Prop
 |.mk op s n l x=>ok64 op/\ok64 n/\ok64 x/\T.okL1 l
def T.okL1:List T->Prop
 |[]=>True
 |t::r=>t.ok1/\T.okL1 r
end
theorem T.okL1_app:∀{a b:List T},T.okL1 a->T.okL1 b->T.okL1 (a++b)
 |[],b,_,h=>h
 |t::r,b,h,h'=>⟨h.1,T.okL1_app h.2 h'⟩
theorem T.wtL_app:∀a b:List T,T.wtL (a++b)=T.wtL a+T.wtL b
 |[],b=>by simp[T.wtL]
 |t::r,b=>by simp only[List.cons_append,T.wtL,T.wtL_app r b];omega
mutual
theorem T.ok_of:∀t:T,t.ok1->t.wt<=1000000->t.ok
 |.mk op s n l x,h,hw=>by simp only[T.wt]at hw;have:=T.len_wtL l;exact⟨by omega,by omega,h.1,h.2.1,h.2.2.1,T.okL_of l h.2.2.2 (by omega)⟩
theorem T.okL_of:∀l:List T,T.okL1 l->T.wtL l<=1000000->T.okL l
 |[],_,_=>trivial
 |t::r,h,hw=>by simp only[T.wtL]at hw;exact⟨T.ok_of t h.1 (by omega),T.okL_of r h.2 (by omega)⟩
end
def pt(tk:List Tk)(p:Nat):Nat:=Tk.pot (tk.take p)
theorem Xb6{tk:List Tk}{p:Nat}(h:p<tk.length):pt tk (p+1)=pt tk p+32+(tkAt tk p).s.size:=by have hx:=List.getElem?_eq_getElem h;unfold pt;rw[List.take_add_one,hx,Tk.pot_app];simp only[Option.toList_some,Tk.pot,tkAt,hx,Option.getD_some];omega
theorem Xcd{tk:List Tk}{p q:Nat}(h:p<=q):pt tk p<=pt tk q:=by
 unfold pt;obtain⟨d,rfl⟩:=Nat.exists_eq_add_of_le h;have:tk.take (p+d)=tk.take p++(tk.drop p).take d:=by rw[List.take_add]
 rw[this,Tk.pot_app];omega
theorem Xw6{tk:List Tk}{p q:Nat}(h:pt tk p<pt tk q):p<q:=by
 rcases Nat.lt_or_ge p q with h1|h1
 ·exact h1
 ·have:=Xcd (tk:=tk) h1;omega
theorem Xw7(tk:List Tk)(p:Nat):pt tk p<=Tk.pot tk:=by
 have:=Xcd (tk:=tk) (Nat.le_max_left p tk.length);unfold pt at this⊢
 rwa [List.take_of_length_le (Nat.le_max_right p tk.length)]at this
def Go1(tk:List Tk)(p:Nat)(e:Int)(p':Nat)(e' ln':Int):Prop:=p<=p'/\p'<=tk.length/\ok64 e'/\ok64 ln'/\(e≠0->e'≠0)
def NodeQ(tk:List Tk)(x sl A:Nat)(p:Nat)(e:Int)(w:AV)(p':Nat)(e' ln':Int):Prop:=
 ∃t:T,w=.agg t.enc/\t.ok1/\Go1 tk p e p' e' ln'/\(e'=0->t.wt+sl+pt tk p<=pt tk p'+x)/\t.wt+pt tk p<=pt tk p'+x+A
def ListQ(tk:List Tk)(A:Nat)(p:Nat)(e:Int)(w:AV)(p':Nat)(e' ln':Int):Prop:=
 ∃l:List T,w=.sl none l.length (T.encL l)/\T.okL1 l/\Go1 tk p e p' e' ln'/\(e'=0->T.wtL l+pt tk p<=pt tk p')/\T.wtL l+pt tk p<=pt tk p'+A
theorem NodeQ.ref{tk x sl A p e}:∀w p' e' ln',NodeQ tk x sl A p e w p' e' ln'->w.refs=[]:=by rintro _ _ _ _ ⟨t,rfl,_⟩;simp only[AV.refs,T.enc_refs]
theorem ListQ.ref{tk A p e}:∀w p' e' ln',ListQ tk A p e w p' e' ln'->w.refs=[]:=by rintro _ _ _ _ ⟨l,rfl,_⟩;simp only[AV.refs,T.encL_refs]
def mu(tk:List Tk)(p:Nat)(e:Int):Nat:=2*(tk.length - p)+if e=0 then 1 else 0
theorem Xj5{tk:List Tk}{p q:Nat}{e f:Int}(h:p<q)(hq:q<=tk.length):mu tk q f+1<=mu tk p e:=by unfold mu;split<;>split<;>omega
theorem Xlu{tk:List Tk}{p q:Nat}{f:Int}(h:p<=q)(hf:f≠0):mu tk q f+1<=mu tk p 0:=by unfold mu;rw[if_neg hf,if_pos rfl];omega
theorem Xyl{tk:List Tk}{p q:Nat}{e f:Int}(h:p<=q)(hf:e≠0->f≠0):mu tk q f<=mu tk p e:=by
 unfold mu;by_cases he:e=0
 ·rw[if_pos he];split<;>omega
 ·rw[if_neg he,if_neg (hf he)];omega
def fu(tk:List Tk)(p:Nat)(e:Int)(c:Nat):Nat:=64*mu tk p e+c+tk.length+300
theorem Xd0{tk:List Tk}{p q:Nat}{e f:Int}{c d k:Nat}(h:p<=q)(hf:e≠0->f≠0)(hc:d<c)(hk:fu tk p e c<=k+1):fu tk q f d<=k:=by have:=Xyl (tk:=tk) h hf;unfold fu at*;omega
theorem Xbj{tk:List Tk}{p q:Nat}{e f:Int}{c d k:Nat}(h:p<q)(hq:q<=tk.length)(hd:d<=63)(hk:fu tk p e c<=k+1):fu tk q f d<=k:=by have:=Xj5 (tk:=tk) (e:=e) (f:=f) h hq;unfold fu at*;omega
theorem Xza{tk:List Tk}{p q:Nat}{f:Int}{c d k:Nat}(h:p<=q)(hf:f≠0)(hd:d<=63)(hk:fu tk p 0 c<=k+1):fu tk q f d<=k:=by have:=Xlu (tk:=tk) h hf;unfold fu at*;omega
theorem fu_k{tk:List Tk}{p:Nat}{e:Int}{c k:Nat}(hk:fu tk p e c<=k+1):tk.length+290<=k:=by unfold fu at hk;omega
structure At(tk:List Tk)(p:Nat)(e ln:Int):Prop where
 n:tk.length<=60000
 ok:∀t∈tk,t.ok
 p:p<=tk.length
 e:ok64 e
 ln:ok64 ln
 w:Tk.pot tk<=2000000
theorem At.to{tk p e ln p' e' ln'}(h:At tk p e ln)(g:Go1 tk p e p' e' ln'):At tk p' e' ln':=⟨h.n,h.ok,g.2.1,g.2.2.1,g.2.2.2.1,h.w⟩
theorem At.next{tk p e ln}(h:At tk p e ln)(hp:p<tk.length):At tk (p+1) e ln:=⟨h.n,h.ok,hp,h.e,h.ln,h.w⟩
theorem Go1.refl{tk p e ln}(h:At tk p e ln):Go1 tk p e p e ln:=⟨Nat.le_refl _,h.p,h.e,h.ln,id⟩
theorem Go1.trans{tk p e p' e' ln' p'' e'' ln''}(h:Go1 tk p e p' e' ln')(k:Go1 tk p' e' p'' e'' ln''):Go1 tk p e p'' e'' ln'':=
 ⟨Nat.le_trans h.1 k.1,k.2.1,k.2.2.1,k.2.2.2.1,fun x=>k.2.2.2.2 (h.2.2.2.2 x)⟩
theorem Go1.next{tk p e ln}(h:At tk p e ln)(hp:p<tk.length):Go1 tk p e (p+1) e ln:=⟨by omega,hp,h.e,h.ln,id⟩
theorem At.pt{tk p e ln}(h:At tk p e ln)(q:Nat):pt tk q<=2000000:=Nat.le_trans (Xw7 tk q) h.w
theorem Xlm{tk p e ln}(h:At tk p e ln)(s:ByteArray):Go1 tk p e (takeN tk p e s) e ln:=by
 unfold takeN;split
 ·rename_i hB;exact .next h (Xl0 hB).1
 ·exact .refl h
structure Par(tk:List Tk)(k:Nat):Prop where
 expr:∀{p e ln},At tk p e ln->fu tk p e 28<=k->RdC k 147 [] tk p e ln (NodeQ tk 0 16 8 p e)
 cond:∀{p e ln},At tk p e ln->fu tk p e 27<=k->RdC k 169 [] tk p e ln (NodeQ tk 0 16 8 p e)
 chain:∀{p e ln} (lv:Nat),lv<=6->At tk p e ln->fu tk p e (26 - lv)<=k->RdC k 175 [.int .i64 lv] tk p e ln (NodeQ tk 0 16 8 p e)
 signed:∀{p e ln},At tk p e ln->fu tk p e 19<=k->RdC k 181 [] tk p e ln (NodeQ tk 0 16 8 p e)
 thing:∀{p e ln},At tk p e ln->fu tk p e 18<=k->RdC k 185 [] tk p e ln (NodeQ tk 0 16 8 p e)
 parts:∀{p e ln} (t:T) (b:Bool),t.ok1->At tk p e ln->fu tk p e 17<=k->RdC k 184 [.agg t.enc,.bool b] tk p e ln (NodeQ tk t.wt 0 8 p e)
 partsE:∀{p e ln} (t:T) (b:Bool),e≠0->At tk p e ln->5<=k->RdC k 184 [.agg t.enc,.bool b] tk p e ln (isQ (.agg t.enc) p e ln)
 head:∀{p e ln},At tk p e ln->fu tk p e (if e=0 then 16 else 40)<=k->RdC k 165 [] tk p e ln (NodeQ tk 0 16 8 p e)
 object:∀{p e ln},At tk p e ln->fu tk p e 16<=k->RdC k 188 [] tk p e ln (NodeQ tk 0 16 8 p e)
 args:∀{p e ln},At tk p e ln->fu tk p e 30<=k->RdC k 186 [] tk p e ln (ListQ tk 8 p e)
 rest:∀{p e ln},At tk p e ln->fu tk p e 45<=k->RdC k 167 [] tk p e ln (ListQ tk 10 p e)
 block:∀{p e ln},At tk p e ln->fu tk p e 30<=k->RdC k 145 [] tk p e ln (NodeQ tk 0 12 8 p e)
 stmts:∀{p e ln},At tk p e ln->fu tk p e (if e=0 then 40 else 5)<=k->RdC k 73 [] tk p e ln (ListQ tk 9 p e)
 stmt:∀{p e ln},At tk p e ln->fu tk p e 35<=k->RdC k 106 [] tk p e ln (NodeQ tk 0 12 9 p e)
 within:∀{p e ln},At tk p e ln->fu tk p e 41<=k->RdC k 166 [] tk p e ln (NodeQ tk 0 8 10 p e)
section
variable{tk:List Tk}{p:Nat}{e ln:Int}{k:Nat}{E:Env}{H:List ABlk}{I:List (Nat×Nat)}{rb ty:Nat}
theorem Xbe(ha:At tk p e ln)(s0:ByteArray)(hk:6<=k)(hE:E.Wf ⟨H,I⟩)(hr:E.rob<=rb)(hb:rb<H.length)(l:List ABlk){P:Rt AV×St->Prop}
  (hp:∀p' e' ln',Go1 tk p e p' e' ln'->At tk p' e' ln'->(e'=0->e=0/\p<p'/\pt tk p+32<=pt tk p')->(e'≠0->p'=p)->pt tk p<=pt tk p'->P (.ok (.tup []),⟨H.set rb (.cells ty (RQ tk (p':Nat) e' ln'))++l,I⟩)):
  obP (doCall (aCall prog k) E .full (.fn 163) [.ptr rb 0,.str s0] ⟨H.set rb (.cells ty (RQ tk p e ln))++l,I⟩) P:=
 (f163 e ln s0 ha.n ha.ok ha.p ha.e ha.ln k hk).call hE hr hb l rfl mustQ.ref (by
  rintro _ p' e' ln' ⟨rfl,h1,h2,hm⟩
  have g:Go1 tk p e p' e' ln':=by
   rcases hm with⟨h3,h4,h5,rfl⟩|⟨h3,rfl⟩
   ·exact⟨by omega,h5,h1,h2,fun h=>absurd h4 h⟩
   ·exact⟨Nat.le_refl _,ha.p,h1,h2,fun _=>h3⟩
  refine hp p' e' ln' g (ha.to g) (fun h=>?_) (fun h=>?_) (Xcd g.1)
  ·rcases hm with⟨h3,h4,h5,rfl⟩|⟨h3,_⟩
   ·exact⟨h4,by omega,by rw[Xb6 h5];omega⟩
   ·exact absurd h h3
  ·rcases hm with⟨h3,_⟩|⟨_,h4⟩
   ·exact absurd h3 h
   ·exact h4)
theorem Xdo(ha:At tk p e ln)(s0:ByteArray)(hk:6<=k)(hE:E.Wf ⟨H,I⟩)(hr:E.rob<=rb)(hb:rb<H.length){P:Rt AV×St->Prop}
  (hp:∀p' e' ln',Go1 tk p e p' e' ln'->At tk p' e' ln'->(e'=0->e=0/\p<p'/\pt tk p+32<=pt tk p')->(e'≠0->p'=p)->pt tk p<=pt tk p'->P (.ok (.tup []),⟨H.set rb (.cells ty (RQ tk (p':Nat) e' ln')),I⟩)):
  obP (doCall (aCall prog k) E .full (.fn 163) [.ptr rb 0,.str s0] ⟨H.set rb (.cells ty (RQ tk p e ln)),I⟩) P:=by
 have:=Xbe (ty:=ty) (P:=P) ha s0 hk hE hr hb [] (by simpa using hp)
 rwa [List.append_nil]at this
theorem takeF(tk:List Tk)(p:Nat)(e:Int)(s:ByteArray):(isB tk p e s=true/\takeN tk p e s=p+1/\p<tk.length/\e=0/\pt tk (p+1)=pt tk p+32+s.size)\/(isB tk p e s=false/\takeN tk p e s=p):=by
 cases h:isB tk p e s
 ·exact .inr ⟨rfl,by simp[takeN,h]⟩
 ·obtain⟨h1,h2⟩:=Xl0 h;refine .inl ⟨rfl,by simp[takeN,h],h1,h2,?_⟩;rw[Xb6 h1];simp only[isB,Bool.and_eq_true,decide_eq_true_eq]at h;rw[h.2.2]
end
theorem Xxg{tk:List Tk}{k:Nat}(hP:Par tk k){p:Nat}{e ln:Int}(ha:At tk p e ln)(hk:fu tk p e (if e=0 then 16 else 40)<=k+1):RdC (k+1) 165 [] tk p e ln (NodeQ tk 0 16 8 p e):=by
 intro E H I rb ty hE hr hb;refine Xai rfl rfl (by decide) fun s hs e0=>?_;have hkk:=fu_k hk;have m0:=Xbi hE;have m1:=Xcg hE;simp[hs,e0];refine Xbe ha _ (by omega) hE hr hb _ fun p1 e1 ln1 g1 a1 q1 q2 q3=>?_;simp[hs,e0];refine(hP.expr a1 ?_).call hE hr hb _ rfl NodeQ.ref ?_
 ·by_cases h1:e1=0
  ·exact Xbj (q1 h1).2.1 a1.p (by omega) hk
  ·by_cases he:e=0
   ·subst he;exact Xza g1.1 h1 (by omega) hk
   ·rw[if_neg he]at hk;exact Xd0 g1.1 (fun _=>h1) (by omega) hk
 rintro _ p2 e2 ln2 ⟨⟨op,ss,nn,l,line⟩,rfl,ht,g2,hw1,hw2⟩;have a2:=a1.to g2;simp[hs,e0,m1];refine Xbe a2 _ (by omega) hE hr hb _ fun p3 e3 ln3 g3 a3 q4 q5 q6=>?_;simp[hs,e0,m0];exact RdP.mkX p3 rfl ⟨.mk op ss nn l line,by simp,ht,g1.trans (g2.trans g3),fun h=>by have:=hw1 (q4 h).1;omega,by omega⟩
def J170(H:List ABlk)(I:List (Nat×Nat))(rb ty:Nat)(tk:List Tk)(p:Nat)(e ln:Int)(n:Nat)(s:List AV)(m:List Nat)(st:St):Prop:=
 ∃(i:Nat) (d:Int),i<=p/\n=p - i/\s.length=54/\m=[]/\st=⟨H.set rb (.cells ty (RQ tk p e ln)),I⟩/\lk s 0=.ptr rb 0/\lk s 6=.int .i64 i/\lk s 5=.int .i64 d
def boQ(p:Nat)(e ln:Int)(w:AV)(p':Nat)(e' ln':Int):Prop:=(∃b,w=.bool b)/\p'=p/\e'=e/\ln'=ln
theorem boQ.ref{p:Nat}{e ln:Int}:∀w p' e' ln',boQ p e ln w p' e' ln'->w.refs=[]:=by rintro _ _ _ _ ⟨⟨b,rfl⟩,_⟩;rfl
theorem f170{tk:List Tk}{p q:Nat}{e ln:Int}(ha:At tk p e ln)(hq:q<=p)(k:Nat)(hk:tk.length+10<=k):RdC k 170 [.int .i64 q] tk p e ln (boQ p e ln):=by
  intro E H I rb ty hE hr hb;obtain⟨k,rfl⟩:=uK (k:=k) (by omega);refine Xaz rfl rfl (by decide) fun s hs e0 e1=>?_;have hp:=ha.p;have hn:=ha.n;have fin:∀b,RdP H I rb ty tk (boQ p e ln) (.ok (.bool b)) ⟨H.set rb (.cells ty (RQ tk p e ln)),I⟩:=fun b=>RdP.mk0 p rfl ⟨⟨b,by simp⟩,rfl,rfl,rfl⟩;simp[hs,e0,e1];refine Xau (J170 H I rb ty tk p e ln) (p - q) (by omega) ⟨q,0,hq,rfl,by simp[hs],rfl,rfl,by simp[hs,e0],by simp[hs],by simp[hs]⟩ ?_;rintro _ s m _ ⟨i,d,hi,rfl,hs,rfl,rfl,e0,e6,e5⟩;by_cases hlt:i<p;rotate_left
  ·simp[hs,e0,e6,e5,rg0 hb,hlt,fin]
  obtain⟨t,ht⟩:∃t,tk[i]?=some t:=⟨_,List.getElem?_eq_getElem (by omega)⟩;have c0:=Tk.cell ht 0 (by omega);have c1:=Tk.cell ht 1 (by omega);have hin:i<tk.length:=by omega
  have hw:=Xah (n:=(i:Int)+1) (by omega);simp only[Nat.add_zero]at c0
  have next:∀(s':List AV),s'.length=54->lk s' 0=.ptr rb 0->lk s' 6=.int .i64 ((i:Int)+1)->(∃x,lk s' 5=.int .i64 x)->
      ∃n',n'<p - i/\J170 H I rb ty tk p e ln n' s' [] ⟨H.set rb (.cells ty (RQ tk p e ln)),I⟩:=fun s' h1 h2 h3 ⟨x,h4⟩=>
    ⟨p - (i+1),by omega,i+1,x,by omega,rfl,h1,rfl,rfl,h2,by simpa using h3,h4⟩
  by_cases h5:t.kind=5;rotate_left
  ·simp[hs,e0,e6,e5,rg0 hb,hlt,hin,c0,Tk.enc,h5,hw];exact next _ (by simp[hs]) (by simp[hs,e0]) (by simp[hs]) (by simp[hs,e5])
  simp[hs,e0,e6,e5,rg0 hb,hlt,hin,c0,c1,Tk.enc,h5];repeat' (with_reducible refine Xaq (fun h=>?_) (fun h=>?_)<;>simp[hs,e0,e6,e5,rg0 hb,h,hw,fin])
  all_goals exact next _ (by simp[hs]) (by simp[hs,e0]) (by simp[hs]) (by simp[hs,e5])
def z5:ABlk:=.cells 24 [.int .i64 0,.str ⟨#[]⟩,.int .i64 0,.nils,.int .i64 0]
def M147(H:List ABlk)(I:List (Nat×Nat))(rb ty:Nat)(tk:List Tk)(p:Nat)(e ln:Int)(s:List AV)(m:List Nat)(st:St):Prop:=
 ∃(p1:Nat) (e1 ln1:Int) (t:T) (c:Bool),m=[]/\s.length=52/\lk s 0=.ptr rb 0/\lk s 2=.ptr H.length 0/\lk s 5=.ptr (H.length+1) 0/\lk s 6=.bool c/\st=⟨H.set rb (.cells ty (RQ tk p1 e1 ln1))++ [z5,.cells 24 t.enc],I⟩/\
  t.ok1/\Go1 tk p e p1 e1 ln1/\(e1=0->t.wt+16+pt tk p<=pt tk p1)/\t.wt+pt tk p<=pt tk p1+8
theorem Xxh{tk:List Tk}{k:Nat}(hP:Par tk k){p:Nat}{e ln:Int}(ha:At tk p e ln)(hk:fu tk p e 28<=k+1):RdC (k+1) 147 [] tk p e ln (NodeQ tk 0 16 8 p e):=by
  intro E H I rb ty hE hr hb;refine Xai rfl rfl (by decide) fun s hs e0=>?_;have hkk:=fu_k hk;have m0:=Xbi hE;have m1:=Xcg hE;rw[Xa2,Xa2,Xa2,Xa2,Xa2];refine Xco (M147 H I rb ty tk p e ln) ?_ ?_
  ·have gi:=Xyx (e:=e) (ln:=ln) (ty:=ty) ⟨#[40]⟩ ha.n ha.p (k:=k) (by omega) hE hr hb;obtain⟨b,hB⟩:∃b,isB tk p e ⟨#[40]⟩=b:=⟨_,rfl⟩;rw[hB]at gi;simp[hs,e0,gi,rg hb];refine(hP.cond ha (Xd0 (Nat.le_refl _) id (by omega) hk)).call hE hr hb _ rfl NodeQ.ref ?_;rintro _ p1 e1 ln1 ⟨⟨op,ss,nn,l,line⟩,rfl,ht,g1,hw1,hw2⟩;have a1:=ha.to g1
   have c170:∀(l:List ABlk) {P:Rt AV×St->Prop},(∀b,P (.ok (.bool b),⟨H.set rb (.cells ty (RQ tk p1 e1 ln1))++l,I⟩))->obP (doCall (aCall prog k) E .full (.fn 170) [.ptr rb 0,.int .i64 p] ⟨H.set rb (.cells ty (RQ tk p1 e1 ln1))++l,I⟩) P:=fun l P hP2=>
     (f170 a1 g1.1 k (by omega)).call hE hr hb l rfl boQ.ref (by rintro _ _ _ _ ⟨⟨b,rfl⟩,rfl,rfl,rfl⟩;exact hP2 b)
   have fin:∀(s':List AV),s'.length=52->lk s' 0=.ptr rb 0->lk s' 2=.ptr H.length 0->lk s' 5=.ptr (H.length+1) 0->(∃c,lk s' 6=.bool c)->
       nrmQ (M147 H I rb ty tk p e ln) .nrm s' [] ⟨H.set rb (.cells ty (RQ tk p1 e1 ln1))++ [.cells 24 [.int .i64 0,.str ⟨#[]⟩,.int .i64 0,.nils,.int .i64 0],.cells 24 [.int .i64 op,.str ss,.int .i64 nn,.sl none l.length (T.encL l),.int .i64 line]],I⟩:=fun s' h1 h2 h3 h4 ⟨c,h5⟩=>
     ⟨rfl,p1,e1,ln1,.mk op ss nn l line,c,rfl,h1,h2,h3,h4,h5,by simp[z5],ht,g1,hw1,hw2⟩
   simp[hs,e0,m1];cases b
   ·repeat' (with_reducible refine Xaq (fun h=>?_) (fun h=>?_)<;>first|(subst h;simp[hs,e0])|simp[hs,e0,h])
    all_goals exact fin _ (by simp[hs]) (by simp[hs,e0]) (by simp[hs]) (by simp[hs]) (by simp[hs])
   ·repeat' (with_reducible refine Xaq (fun h=>?_) (fun h=>?_)<;>first|(subst h;simp[hs,e0])|simp[hs,e0,h])
    all_goals
      refine c170 _ fun b2=>?_;cases b2
      ·simp[hs,e0];exact fin _ (by simp[hs]) (by simp[hs,e0]) (by simp[hs]) (by simp[hs]) (by simp[hs])
      ·simp[hs,e0];exact fin _ (by simp[hs]) (by simp[hs,e0]) (by simp[hs]) (by simp[hs]) (by simp[hs])
  rintro s m _ ⟨p1,e1,ln1,⟨op,ss,nn,l,line⟩,c,rfl,hs,e0,e2,e5,e6,rfl,ht,g1,hw1,hw2⟩;have a1:=ha.to g1;have mm:=Xcd (tk:=tk) g1.1
  have fin0:∀X,RdP H I rb ty tk (NodeQ tk 0 16 8 p e) (.ok (.agg [.int .i64 op,.str ss,.int .i64 nn,.sl none l.length (T.encL l),.int .i64 line])) ⟨H.set rb (.cells ty (RQ tk p1 e1 ln1))++X,I⟩:=fun X=>
    RdP.mkX p1 rfl ⟨.mk op ss nn l line,by simp,ht,g1,hw1,hw2⟩
  cases c
  ·simp[hs,e0,e2,e5,e6,z5,m0,fin0]
  have gt:=Xcc (e:=e1) (ln:=ln1) (ty:=ty) ⟨#[61]⟩ a1.n a1.p (k:=k) (by omega) hE hr hb;rcases takeF tk p1 e1 ⟨#[61]⟩with⟨hB,hT,hlt,rfl,hpt⟩|⟨hB,hT⟩;rotate_left
  ·rw[hB,hT]at gt;simp[hs,e0,e2,e5,e6,gt,z5,m0,fin0]
  rw[hB,hT]at gt;have hw1:=hw1 rfl;simp[hs,e0,e2,e5,e6,gt,z5,Nat.testBit];refine(hP.expr (a1.next hlt) (Xbj (by have:=g1.1;omega) hlt (by omega) hk)).call hE hr hb _ rfl NodeQ.ref ?_;rintro _ p2 e2' ln2 ⟨⟨op2,ss2,nn2,l2,line2⟩,rfl,ht2,g2,hw3,hw4⟩;simp[hs,e0,e2,e5,e6,m0,m1];refine RdP.mk p2 rfl ⟨.mk 17 ⟨#[]⟩ 0 [.mk op ss nn l line,.mk op2 ss2 nn2 l2 line2] line,by simp,⟨by simp[ok64],by simp[ok64],ht.2.2.1,ht,ht2,trivial⟩,g1.trans ((Go1.next a1 hlt).trans g2),fun h=>?_,?_⟩
  ·have:=hw3 h;simp only[T.wt,T.wtL,sz0]at*;omega
  ·simp only[T.wt,T.wtL,sz0]at*;omega
theorem Xxi{tk:List Tk}{k:Nat}(hP:Par tk k){p:Nat}{e ln:Int}(ha:At tk p e ln)(hk:fu tk p e 27<=k+1):RdC (k+1) 169 [] tk p e ln (NodeQ tk 0 16 8 p e):=by
 intro E H I rb ty hE hr hb;refine Xai rfl rfl (by decide) fun s hs e0=>?_;have hkk:=fu_k hk;have m0:=Xbi hE;have m1:=Xcg hE;simp[hs,e0];refine(hP.chain 0 (by omega) ha (Xd0 (Nat.le_refl _) id (by omega) hk)).call hE hr hb _ rfl NodeQ.ref ?_;rintro _ p1 e1 ln1 ⟨⟨op,ss,nn,l,line⟩,rfl,ht,g1,hw1,hw2⟩;have a1:=ha.to g1;have mm:=Xcd (tk:=tk) g1.1;have gt:=Xcc (e:=e1) (ln:=ln1) (ty:=ty) ⟨#[63]⟩ a1.n a1.p (k:=k) (by omega) hE hr hb;rcases takeF tk p1 e1 ⟨#[63]⟩with⟨hB,hT,hlt,rfl,hpt⟩|⟨hB,hT⟩;rotate_left
 ·rw[hB,hT]at gt;simp[hs,e0,m0,m1,gt];exact RdP.mkX p1 rfl ⟨.mk op ss nn l line,by simp,ht,g1,hw1,hw2⟩
 rw[hB,hT]at gt;have hw1:=hw1 rfl;have gn:=Go1.next a1 hlt;simp[hs,e0,m1,gt];refine(hP.expr (a1.next hlt) (Xbj (by have:=g1.1;omega) hlt (by omega) hk)).call hE hr hb _ rfl NodeQ.ref ?_;rintro _ p2 e2 ln2 ⟨⟨op2,ss2,nn2,l2,line2⟩,rfl,ht2,g2,hw3,hw4⟩;have a2:=(a1.next hlt).to g2;have mm2:=Xcd (tk:=tk) g2.1;simp[hs,e0,m1];refine Xbe a2 _ (by omega) hE hr hb _ fun p3 e3 ln3 g3 a3 q4 q5 q6=>?_;simp[hs,e0,Nat.testBit];refine(hP.expr a3 (Xbj (by have:=g1.1;have:=g2.1;have:=g3.1;omega) a3.p (by omega) hk)).call hE hr hb _ rfl NodeQ.ref ?_;rintro _ p4 e4 ln4 ⟨⟨op3,ss3,nn3,l3,line3⟩,rfl,ht3,g4,hw5,hw6⟩;simp[hs,e0,m0,m1];refine RdP.mk p4 rfl ⟨.mk 23 ⟨#[]⟩ 0 [.mk op ss nn l line,.mk op2 ss2 nn2 l2 line2,.mk op3 ss3 nn3 l3 line3] line,by simp,⟨by simp[ok64],by simp[ok64],ht.2.2.1,ht,ht2,ht3,trivial⟩,g1.trans (gn.trans (g2.trans (g3.trans g4))),fun h=>?_,?_⟩
 ·have h5:=hw5 h
  have h3:e3=0:=by
   rcases Decidable.em (e3=0)with h'|h'
   ·exact h'
   ·exact absurd h (g4.2.2.2.2 h')
  have h2:=hw3 (q4 h3).1;simp only[T.wt,T.wtL,sz0]at*;omega
 ·simp only[T.wt,T.wtL,sz0]at*;omega
def isSg(w:AV):Prop:=∃l:List ByteArray,w=.sl none l.length (l.map .str)/\l.length<=2/\∀s∈l,s≠⟨#[]⟩
theorem f182(lv:Int)(k:Nat)(hk:1<=k):PureE k 182 [.int .i64 lv] isSg:=by
 intro E st hE;obtain⟨k,rfl⟩:=uK (k:=k) (by omega);refine Xai rfl rfl (by decide) fun s hs e0=>?_;have one:∀a:ByteArray,a≠⟨#[]⟩->isSg (.sl none 1 [.str a]):=fun a ha=>⟨[a],rfl,by simp,by simpa using ha⟩;have two:∀a b:ByteArray,a≠⟨#[]⟩->b≠⟨#[]⟩->isSg (.sl none 2 [.str a,.str b]):=fun a b ha hb=>⟨[a,b],rfl,by simp,by simp[ha,hb]⟩;simp[hs,e0];repeat' (with_reducible refine Xaq (fun h=>?_) (fun h=>?_)<;>simp[hs,h,wrC,Grow.app st [] [(1,1)]])
 all_goals exact⟨⟨List.prefix_rfl,List.prefix_append _ _⟩,by first|exact one _ (by decide)|exact two _ _ (by decide) (by decide)⟩
theorem Xof:∀l:List ByteArray,AV.refsL (l.map .str)=[]
 |[]=>rfl
 |a::r=>by simp[Xof r]
def newO(m:Nat)(o:Option Nat):Prop:=∀j,o=some j->m<=j
theorem newO.fin{m:Nat}{o:Option Nat}(h:newO m o)(n:Nat)(cs:List AV):AV.fin m (.sl o n cs)=.sl none n (AV.finL m cs):=by
 cases o with
 |none=>rfl
 |some j=>
  have:=h j rfl;simp only[AV.fin];rw[if_neg (by omega)]
theorem newO.fin0(o:Option Nat)(n:Nat)(cs:List AV):AV.fin 0 (.sl o n cs)=.sl none n (AV.finL 0 cs):=newO.fin (fun _ _=>Nat.zero_le _) n cs
def nodeC(t:T)(o:Option Nat):List AV:=match t with
 |.mk op s n l line=> [.int .i64 op,.str s,.int .i64 n,.sl o l.length (T.encL l),.int .i64 line]
@[simp] theorem Ja7(op s n l line o):nodeC (.mk op s n l line) o=[.int .i64 op,.str s,.int .i64 n,.sl o l.length (T.encL l),.int .i64 line]:=nr rfl
def J175(H:List ABlk)(I:List (Nat×Nat))(rb ty:Nat)(tk:List Tk)(p:Nat)(e ln:Int)(lv n:Nat)(s:List AV)(m:List Nat)(st:St):Prop:=
 ∃(p1:Nat) (e1 ln1:Int) (t:T) (o:Option Nat) (X:List ABlk) (I':List (Nat×Nat)),n=tk.length - p1/\s.length=71/\m=[]/\lk s 0=.ptr rb 0/\lk s 1=.int .i64 lv/\lk s 4=.ptr H.length 0/\lk s 5=.ptr (H.length+1) 0/\
  st=⟨H.set rb (.cells ty (RQ tk p1 e1 ln1))++z5::.cells 24 (nodeC t o)::X,I'⟩/\I<+:I'/\newO I.length o/\t.ok1/\Go1 tk p e p1 e1 ln1/\(e1=0->t.wt+16+pt tk p<=pt tk p1)/\t.wt+pt tk p<=pt tk p1+8
def Jhn(H:List ABlk)(rb ty:Nat)(tk:List Tk)(p1:Nat)(ln1:Int)(sg:List ByteArray)(l:List ABlk)(I':List (Nat×Nat))(lv n:Nat)(s:List AV)(m:List Nat)(st:St):Prop:=
 ∃(i p2:Nat) (w:ByteArray),i<=sg.length/\n=sg.length - i/\s.length=71/\m=[]/\lk s 0=.ptr rb 0/\lk s 1=.int .i64 lv/\lk s 4=.ptr H.length 0/\lk s 5=.ptr (H.length+1) 0/\lk s 6=.str w/\lk s 7=.sl none sg.length (sg.map .str)/\lk s 8=.int .i64 i/\
  st=⟨H.set rb (.cells ty (RQ tk p2 0 ln1))++l,I'⟩/\((w=⟨#[]⟩/\p2=p1)\/(w≠⟨#[]⟩/\p1<tk.length/\p2=p1+1/\pt tk p2=pt tk p1+32+w.size))
theorem Xts{tk:List Tk}{k:Nat}(hP:Par tk k){p:Nat}{e ln:Int}(lv:Nat)(hlv:lv<=6)(ha:At tk p e ln)(hk:fu tk p e (26 - lv)<=k+1):RdC (k+1) 175 [.int .i64 lv] tk p e ln (NodeQ tk 0 16 8 p e):=by
  intro E H I rb ty hE hr hb;refine Xaz rfl rfl (by decide) fun s hs e0 e1=>?_;have hkk:=fu_k hk;have m0:=Xbi hE;have m1:=Xcg hE;by_cases h6:lv=6
  ·subst h6;simp[hs,e0,e1];refine(hP.signed ha (Xd0 (Nat.le_refl _) id (by omega) hk)).call hE hr hb _ rfl NodeQ.ref ?_;rintro _ p1 e1' ln1 ⟨⟨op,ss,nn,l,line⟩,rfl,ht,g1,hw1,hw2⟩;simp[hs,m0];exact RdP.mkX p1 rfl ⟨.mk op ss nn l line,by simp,ht,g1,hw1,hw2⟩
  have h6':¬(lv:Int)=6:=by omega
  have hw0:=Xah (n:=(lv:Int)+1) (by omega);have cc:∀{p1:Nat} {e1 ln1:Int},At tk p1 e1 ln1->fu tk p1 e1 (26 - (lv+1))<=k->RdC k 175 [.int .i64 ((lv:Int)+1)] tk p1 e1 ln1 (NodeQ tk 0 16 8 p1 e1):=fun h1 h2=>by have:=hP.chain (lv+1) (by omega) h1 h2;simpa using this
  simp[hs,e0,e1,h6',hw0];refine(cc ha (Xd0 (Nat.le_refl _) id (by omega) hk)).call hE hr hb _ rfl NodeQ.ref ?_;rintro _ p1 e1' ln1 ⟨⟨op,ss,nn,l,line⟩,rfl,ht,g1,hw1,hw2⟩;simp[hs,e0,e1,m1];refine Xau (J175 H I rb ty tk p e ln lv) (tk.length - p1) (by omega) ⟨p1,e1',ln1,.mk op ss nn l line,none,[],I,rfl,by simp[hs],rfl,by simp[hs,e0],by simp[hs,e1],by simp[hs],by simp[hs],by simp[z5],List.prefix_rfl,(fun _ h=>nomatch h),ht,g1,hw1,hw2⟩ ?_;clear hs e0 e1 s ht g1 hw1 hw2;rintro _ s m _ ⟨p1,e1',ln1,⟨op,ss,nn,l,line⟩,o,X,I',rfl,hs,rfl,e0,e1,e4,e5,rfl,hI,ho,ht,g1,hw1,hw2⟩;have f0:=newO.fin0 o;have fI:=ho.fin;have hE':E.Wf ⟨H,I'⟩:=hE.of (Nat.le_refl _) hI.length_le;have a1:=ha.to g1;have mm:=Xcd (tk:=tk) g1.1;by_cases hz:e1'=0;rotate_left
  ·simp[hs,e0,e4,e5,z5,rg hb,hz,m0];exact RdP.mkI p1 hI rfl ⟨.mk op ss nn l line,by simp[fI],ht,g1,hw1,hw2⟩
  subst hz;have hw1:=hw1 rfl;have hEs:E.Wf ⟨H.set rb (.cells ty (RQ tk p1 0 ln1))++z5::.cells 24 (nodeC (.mk op ss nn l line) o)::X,I'⟩:=hE'.of (by simp) (Nat.le_refl _);simp[hs,e0,e1,rg hb];refine(f182 lv k (by omega)).call (by rintro _ ⟨l,rfl,_⟩;simp only[AV.refs,Xof]) hEs rfl ?_;rintro _ ⟨sg,rfl,hsg,hne⟩;simp[hs];refine Xau (Jhn H rb ty tk p1 ln1 sg (z5::.cells 24 (nodeC (.mk op ss nn l line) o)::X) I' lv) sg.length (by omega) ⟨0,p1,⟨#[]⟩,by omega,rfl,by simp[hs],rfl,by simp[hs,e0],by simp[hs,e1],by simp[hs,e4],by simp[hs,e5],by simp[hs],by simp[hs],by simp[hs],rfl,.inl ⟨rfl,rfl⟩⟩ ?_;clear hs e0 e1 e4 e5 s;rintro _ s m _ ⟨i,p2,w,hi,rfl,hs,rfl,e0,e1,e4,e5,e6,e7,e8,rfl,hw⟩
  have hp2:p2<=tk.length:=by
    rcases hw with⟨_,rfl⟩|⟨_,h,rfl,_⟩
    ·exact a1.p
    ·omega
  by_cases hlt:i<sg.length/\w=⟨#[]⟩
  ·obtain⟨hlt,rfl⟩:=hlt
   have hp:p2=p1:=by
     rcases hw with⟨_,h⟩|⟨h,_⟩
     ·exact h
     ·exact absurd rfl h
   subst hp;obtain⟨g,hg⟩:∃g,sg[i]?=some g:=⟨_,List.getElem?_eq_getElem hlt⟩;have hgne:=hne g (List.mem_of_getElem? hg);have hwi:=Xah (n:=(i:Int)+1) (by omega);have gt:=Xcc (e:=0) (ln:=ln1) (ty:=ty) g a1.n a1.p (k:=k) (by omega) hE' hr hb;have hg':sg[i]'hlt=g:=by rw[List.getElem?_eq_getElem hlt]at hg;simpa using hg
   rcases takeF tk p2 0 g with⟨hB,hT,hlt2,_,hpt⟩|⟨hB,hT⟩
   ·rw[hB,hT]at gt;simp[hs,e0,e6,e7,e8,hlt,hg,hg',gt,hwi];exact⟨_,by omega,i+1,p2+1,g,by omega,rfl,by simp[hs],rfl,by simp[hs,e0],by simp[hs,e1],by simp[hs,e4],by simp[hs,e5],by simp[hs],by simp[hs,e7],by simp[hs],by simp,.inr ⟨hgne,hlt2,rfl,hpt⟩⟩
   ·rw[hB,hT]at gt;simp[hs,e0,e6,e7,e8,hlt,hg,hg',gt,hwi];exact⟨_,by omega,i+1,p2,⟨#[]⟩,by omega,rfl,by simp[hs],rfl,by simp[hs,e0],by simp[hs,e1],by simp[hs,e4],by simp[hs,e5],by simp[hs,e6],by simp[hs,e7],by simp[hs],rfl,.inl ⟨rfl,rfl⟩⟩
  rcases hw with⟨rfl,rfl⟩|⟨hwne,hlt2,rfl,hpt⟩
  ·have hlt':¬i<sg.length:=fun h=>hlt ⟨h,rfl⟩;simp[hs,e0,e4,e5,e6,e7,e8,hlt',z5,m0,Xa1];exact RdP.mkI _ hI rfl ⟨.mk op ss nn l line,by simp[fI],ht,g1,fun _=>hw1,hw2⟩
  have gn:=Go1.next a1 hlt2;have an:=a1.next hlt2;have hil:i<sg.length\/¬i<sg.length:=Decidable.em _;rcases hil with hil|hil<;>
  ·simp[hs,e0,e1,e4,e5,e6,e7,e8,hil,hwne,hw0];refine(cc an (Xbj (by have:=g1.1;omega) hlt2 (by omega) hk)).call hE' hr hb _ rfl NodeQ.ref ?_;rintro _ p3 e3 ln3 ⟨⟨op2,ss2,nn2,l2,line2⟩,rfl,ht2,g2,hw3,hw4⟩;have mm2:=Xcd (tk:=tk) g2.1
   have fin:∀(op3:Int) (ss3:ByteArray) (s':List AV) (Y:List ABlk) (I2:List (Nat×Nat)),ok64 op3->ss3.size<=w.size->I'<+:I2->s'.length=71->lk s' 0=.ptr rb 0->lk s' 1=.int .i64 lv->lk s' 4=.ptr H.length 0->lk s' 5=.ptr (H.length+1) 0->
       ∃n',n'<tk.length - p1/\J175 H I rb ty tk p e ln lv n' s' [] ⟨H.set rb (.cells ty (RQ tk p3 e3 ln3))++ .cells 24 [.int .i64 0,.str ⟨#[]⟩,.int .i64 0,.nils,.int .i64 0]::.cells 24 [.int .i64 op3,.str ss3,.int .i64 0,.sl (some I'.length) 2 [.int .i64 op,.str ss,.int .i64 nn,.sl none l.length (T.encL l),.int .i64 line,.int .i64 op2,.str ss2,.int .i64 nn2,.sl none l2.length (T.encL l2),.int .i64 line2],.int .i64 line]::Y,I2⟩:=fun op3 ss3 s' Y I2 hop hs3 hI2 q1 q2 q3 q4 q5=>by
     refine⟨tk.length - p3,?_,p3,e3,ln3,.mk op3 ss3 0 [.mk op ss nn l line,.mk op2 ss2 nn2 l2 line2] line,some I'.length,Y,I2,rfl,q1,rfl,q2,q3,q4,q5,by simp[z5],hI.trans hI2,fun j hj=>by cases hj;exact hI.length_le,⟨hop,by simp[ok64],ht.2.2.1,ht,ht2,trivial⟩,g1.trans (gn.trans g2),fun h=>?_,?_⟩
     ·have:=g2.1;omega
     ·have:=hw3 h;simp only[T.wt,T.wtL,sz0]at*;omega
     ·simp only[T.wt,T.wtL,sz0]at*;omega
   by_cases h0:lv=0
   ·subst h0;simp[hs,e0,e1,e4,e5,e6,z5,m0,m1,f0,AV.finL];exact fin 22 ⟨#[]⟩ _ _ _ (by simp[ok64]) (by simp[sz0]) (List.prefix_append _ _) (by simp[hs]) (by simp[hs,e0]) (by simp[hs,e1]) (by simp[hs,e4]) (by simp[hs,e5])
   ·by_cases h1:lv=1
    ·subst h1;simp[hs,e0,e1,e4,e5,e6,z5,m0,m1,f0,AV.finL];exact fin 21 ⟨#[]⟩ _ _ _ (by simp[ok64]) (by simp[sz0]) (List.prefix_append _ _) (by simp[hs]) (by simp[hs,e0]) (by simp[hs,e1]) (by simp[hs,e4]) (by simp[hs,e5])
    ·have h1':¬(lv:Int)=1:=by omega
     simp[hs,e0,e1,e4,e5,e6,h0,h1',z5,m0,m1,f0];exact fin 18 w _ _ _ (by simp[ok64]) (Nat.le_refl _) (List.prefix_append _ _) (by simp[hs]) (by simp[hs,e0]) (by simp[hs,e1]) (by simp[hs,e4]) (by simp[hs,e5])
theorem Xwo(o:Option Nat)(l:List T):srcA 5 (.sl o l.length (T.encL l))=some (l.length,T.encL l):=by simp only[srcA,T.encL_length,T.encL_one,decide_true,Bool.and_self,Xax,T.encL_fin]
theorem Xqf{E:Env}{H:List ABlk}{I:List (Nat×Nat)}{sz bytes j n k:Nat}{cs ys:List AV}{y:AV}(hr:E.rom<=j)(hi:I[j]?=some (n,sz))(hl:cs.length=n*sz)(hs:srcA sz y=some (k,ys))(hb:bytes<=1000)(hn:n+k<=1000000000):
  appA E ⟨H,I⟩ sz bytes (.sl (some j) n cs) y=some (.sl (some j) (n+k) (cs++ys),⟨H,I.set j (n+k,sz)⟩):=by
 have h1:(n+k)*bytes<=70368744177664:=Nat.le_trans (Nat.mul_le_mul hn hb) (by decide);have h2:n+k<=70368744177664:=by omega
 simp[appA,hs,hr,hi,hl,h1,h2]
theorem Xqg{E:Env}{I:List (Nat×Nat)}(hr:E.rom<=I.length){a b c d e:AV}{l:List T}(hl:l.length<=100000000)(Hx:List ABlk):
  appA E ⟨Hx,I++ [(1,5)]⟩ 5 64 (.sl (some I.length) 1 [a,b,c,d,e]) (.sl none l.length (T.encL l))=some (.sl (some I.length) (1+l.length) (a::b::c::d::e::T.encL l),⟨Hx,I++ [(1+l.length,5)]⟩):=by
 rw[Xqf hr (by simp) rfl (Xwo none l) (by omega) (by omega)];rw[List.set_append_right _ _ (Nat.le_refl _)];simp
theorem Xep{tk:List Tk}{k:Nat}(hP:Par tk k){p p1:Nat}{e1 ln1:Int}(t:T)(b:Bool)(ht:t.ok1)(a1:At tk p1 e1 ln1)(hk:fu tk p1 e1 17<=k)(hw1:e1=0->t.wt+16+pt tk p<=pt tk p1)(hw2:t.wt+pt tk p<=pt tk p1+8)
  {E:Env} {H:List ABlk} {I:List (Nat×Nat)} {rb ty:Nat} (hE:E.Wf ⟨H,I⟩) (hr:E.rob<=rb) (hb:rb<H.length) (l:List ABlk) {args':List AV} (hf:args'.map AV.arg=[.agg t.enc,.bool b]) {P:Rt AV×St->Prop}
  (hp:∀(t2:T) p' e' ln',t2.ok1->Go1 tk p1 e1 p' e' ln'->(e'=0->t2.wt+16+pt tk p<=pt tk p')->t2.wt+pt tk p<=pt tk p'+8->P (.ok (.agg t2.enc),⟨H.set rb (.cells ty (RQ tk (p':Nat) e' ln'))++l,I⟩)):
  obP (doCall (aCall prog k) E .full (.fn 184) (.ptr rb 0::args') ⟨H.set rb (.cells ty (RQ tk p1 e1 ln1))++l,I⟩) P:=by
 by_cases h:e1=0
 ·refine(hP.parts t b ht a1 hk).call hE hr hb l hf NodeQ.ref ?_;rintro _ p' e' ln' ⟨t2,rfl,ht2,g,h1,h2⟩;have:=hw1 h;exact hp t2 p' e' ln' ht2 g (fun h'=>by have:=h1 h';omega) (by omega)
 ·refine(hP.partsE t b h a1 (by unfold fu at hk;omega)).call hE hr hb l hf (by rintro _ _ _ _ ⟨rfl,_⟩;simp only[AV.refs,T.enc_refs]) ?_;rintro _ p' e' ln' ⟨rfl,rfl,rfl,rfl⟩;exact hp t _ _ _ ht (.refl a1) hw1 hw2
theorem Xq7{tk:List Tk}{k:Nat}(hP:Par tk k){p:Nat}{e ln:Int}(ha:At tk p e ln)(hk:fu tk p e 19<=k+1):RdC (k+1) 181 [] tk p e ln (NodeQ tk 0 16 8 p e):=by
 intro E H I rb ty hE hr hb;refine Xai rfl rfl (by decide) fun s hs e0=>?_;have hkk:=fu_k hk;have m0:=Xbi hE;have m1:=Xcg hE;have g:=Xdi (e:=e) (ln:=ln) (ty:=ty) ha.n ha.p (k:=k) (by omega) hE hr hb;obtain⟨⟨tkd,ts,tn,tl,tnl⟩,htt⟩:∃t,tkAt tk p=t:=⟨_,rfl⟩
 have htl:ok64 tl:=by
  by_cases h:p<tk.length
  ·have:=Xg5 ha.ok (List.getElem?_eq_getElem h);have e1:tkAt tk p=tk[p]:=by simp[tkAt,List.getElem?_eq_getElem h]
   rw[<-e1,htt]at this;exact this
  ·rw[tkAt,List.getElem?_eq_none (by omega)]at htt;simp[Tk.no]at htt;rw[<-htt.2.2.2.1];simp[ok64]
 rw[htt]at g;simp only[Tk.enc]at g;have gt1:=Xcc (e:=e) (ln:=ln) (ty:=ty) ⟨#[33]⟩ ha.n ha.p (k:=k) (by omega) hE hr hb;have gt2:=Xcc (e:=e) (ln:=ln) (ty:=ty) ⟨#[45]⟩ ha.n ha.p (k:=k) (by omega) hE hr hb;have gt3:=Xcc (e:=e) (ln:=ln) (ty:=ty) ⟨#[110,101,119]⟩ ha.n ha.p (k:=k) (by omega) hE hr hb;rcases takeF tk p e ⟨#[33]⟩with⟨hB,hT,hlt,rfl,hpt⟩|⟨hB,hT⟩
 ·rw[hB,hT]at gt1;simp[hs,e0,g,gt1];refine(hP.signed (ha.next hlt) (Xbj (by omega) hlt (by omega) hk)).call hE hr hb _ rfl NodeQ.ref ?_;rintro _ p1 e1 ln1 ⟨⟨op,ss,nn,l,line⟩,rfl,ht,g1,hw1,hw2⟩;simp[hs,e0,m0];refine RdP.mk p1 rfl ⟨.mk 19 ⟨#[]⟩ 0 [.mk op ss nn l line] tl,by simp,⟨by simp[ok64],by simp[ok64],htl,ht,trivial⟩,(Go1.next ha hlt).trans g1,fun h=>?_,?_⟩
  ·have:=hw1 h;simp only[T.wt,T.wtL,sz0]at*;omega
  ·simp only[T.wt,T.wtL,sz0]at*;omega
 rw[hB,hT]at gt1;rcases takeF tk p e ⟨#[45]⟩with⟨hB,hT,hlt,rfl,hpt⟩|⟨hB,hT⟩
 ·rw[hB,hT]at gt2;simp[hs,e0,g,gt1,gt2];refine(hP.signed (ha.next hlt) (Xbj (by omega) hlt (by omega) hk)).call hE hr hb _ rfl NodeQ.ref ?_;rintro _ p1 e1 ln1 ⟨⟨op,ss,nn,l,line⟩,rfl,ht,g1,hw1,hw2⟩;simp[hs,e0,m0];refine RdP.mk p1 rfl ⟨.mk 20 ⟨#[]⟩ 0 [.mk op ss nn l line] tl,by simp,⟨by simp[ok64],by simp[ok64],htl,ht,trivial⟩,(Go1.next ha hlt).trans g1,fun h=>?_,?_⟩
  ·have:=hw1 h;simp only[T.wt,T.wtL,sz0]at*;omega
  ·simp only[T.wt,T.wtL,sz0]at*;omega
 rw[hB,hT]at gt2;rcases takeF tk p e ⟨#[110,101,119]⟩with⟨hB,hT,hlt,rfl,hpt⟩|⟨hB,hT⟩;rotate_left
 ·rw[hB,hT]at gt3;simp[hs,e0,g,gt1,gt2,gt3];refine(hP.thing ha (Xd0 (Nat.le_refl _) id (by omega) hk)).call hE hr hb _ rfl NodeQ.ref ?_;rintro _ p1 e1 ln1 ⟨⟨op,ss,nn,l,line⟩,rfl,ht,g1,hw1,hw2⟩;simp[hs,e0,m1];refine Xep hP (.mk op ss nn l line) true ht (ha.to g1) (Xd0 g1.1 g1.2.2.2.2 (by omega) hk) hw1 hw2 hE hr hb _ (by simp) fun t2 p2 e2 ln2 ht2 g2 hw3 hw4=>?_;obtain⟨op2,ss2,nn2,l2,line2⟩:=t2;simp[hs,e0,m0];exact RdP.mkX p2 rfl ⟨.mk op2 ss2 nn2 l2 line2,by simp,ht2,g1.trans g2,hw3,hw4⟩
 rw[hB,hT]at gt3;have gn:=Go1.next ha hlt;simp[hs,e0,g,gt1,gt2,gt3];refine(hP.thing (ha.next hlt) (Xbj (by omega) hlt (by omega) hk)).call hE hr hb _ rfl NodeQ.ref ?_;rintro _ p1 e1 ln1 ⟨⟨op,ss,nn,l,line⟩,rfl,ht,g1,hw1,hw2⟩;have a1:=(ha.next hlt).to g1;simp[hs,e0];refine Xep hP (p:=p+1) (.mk op ss nn l line) false ht a1 (Xbj (by have:=g1.1;omega) a1.p (by omega) hk) hw1 hw2 hE hr hb _ (by simp) fun t2 p2 e2 ln2 ht2 g2 hw3 hw4=>?_;obtain⟨op2,ss2,nn2,l2,line2⟩:=t2;have a2:=a1.to g2;have gt4:=fun l=>Xcc (e:=e2) (ln:=ln2) (ty:=ty) ⟨#[40]⟩ a2.n a2.p (k:=k) (by omega) (I:=I++ [(1,5)]) (hE.of (Nat.le_refl _) (by simp)) hr hb l;have hE2:E.Wf ⟨H,I++ [(1,5)]⟩:=hE.of (Nat.le_refl _) (by simp);rcases takeF tk p2 e2 ⟨#[40]⟩with⟨hB4,hT4,hlt4,rfl,hpt4⟩|⟨hB4,hT4⟩;rotate_left
 ·rw[hB4,hT4]at gt4;simp[hs,e0,m1,gt4];refine Xep hP (p:=p) (.mk 16 ⟨#[]⟩ 0 [.mk op2 ss2 nn2 l2 line2] tl) true ⟨by simp[ok64],by simp[ok64],htl,ht2,trivial⟩ a2 (Xbj (by have:=g1.1;have:=g2.1;omega) a2.p (by omega) hk) (fun h=>?_) ?_ hE2 hr hb _ (by simp) fun t3 p3 e3 ln3 ht3 g3 hw5 hw6=>?_
  ·have:=hw3 h;simp only[T.wt,T.wtL,sz0]at*;omega
  ·simp only[T.wt,T.wtL,sz0]at*;omega
  obtain⟨op3,ss3,nn3,l3,line3⟩:=t3;simp[hs,e0,m0];exact RdP.mk p3 rfl ⟨.mk op3 ss3 nn3 l3 line3,by simp,ht3,gn.trans (g1.trans (g2.trans g3)),hw5,hw6⟩
 rw[hB4,hT4]at gt4;have hw3:=hw3 rfl;simp[hs,e0,m1,gt4,Nat.testBit];refine(hP.args (a2.next hlt4) (Xbj (by have:=g1.1;have:=g2.1;omega) hlt4 (by omega) hk)).call hE2 hr hb _ rfl ListQ.ref ?_;rintro _ p3 e3 ln3 ⟨l3,rfl,ht3,g3,hw5,hw6⟩;have hll:=T.len_wtL l3;have hp3:=ha.pt p3;have happ:=Xqg hE.rom (a:=.int .i64 op2) (b:=.str ss2) (c:=.int .i64 nn2) (d:=.sl none l2.length (T.encL l2)) (e:=.int .i64 line2) (l:=l3) (by omega);have hE3:E.Wf ⟨H,I++ [(1+l3.length,5)]⟩:=hE.of (Nat.le_refl _) (by simp);have a3:=(a2.next hlt4).to g3;simp[hs,e0,m1,happ,Nat.testBit];refine Xep hP (p:=p) (.mk 16 ⟨#[]⟩ 0 (.mk op2 ss2 nn2 l2 line2::l3) tl) true ⟨by simp[ok64],by simp[ok64],htl,ht2,ht3⟩ a3 (Xbj (by have:=g1.1;have:=g2.1;have:=g3.1;omega) a3.p (by omega) hk) (fun h=>?_) ?_ hE3 hr hb _ ?_ fun t3 p4 e4 ln4 ht4 g4 hw7 hw8=>?_
 ·have:=hw5 h;simp only[T.wt,T.wtL,sz0]at*;omega
 ·simp only[T.wt,T.wtL,sz0]at*;omega
 ·simp[Nat.add_comm]
 obtain⟨op3,ss3,nn3,l4,line3⟩:=t3;simp[hs,e0,m0];exact RdP.mk p4 rfl ⟨.mk op3 ss3 nn3 l4 line3,by simp,ht4,gn.trans (g1.trans (g2.trans ((Go1.next a2 hlt4).trans (g3.trans g4)))),hw7,hw8⟩
def J186(H:List ABlk)(I:List (Nat×Nat))(rb ty:Nat)(tk:List Tk)(p:Nat)(e ln:Int)(n:Nat)(s:List AV)(m:List Nat)(st:St):Prop:=
 ∃(p1:Nat) (e1 ln1:Int) (l:List T) (I':List (Nat×Nat)) (more:Bool),n=mu tk p1 e1+(if more then 1 else 0)/\s.length=28/\m=[]/\lk s 0=.ptr rb 0/\lk s 5=.bool more/\
  st=⟨H.set rb (.cells ty (RQ tk p1 e1 ln1)),I'⟩/\I<+:I'/\AccG I.length I' 5 l.length (T.encL l) (lk s 3)/\T.okL1 l/\Go1 tk p e p1 e1 ln1/\(e1=0->T.wtL l+pt tk p<=pt tk p1)/\T.wtL l+pt tk p<=pt tk p1+8
theorem AccG.fin{m:Nat}{I:List (Nat×Nat)}{l:List T}{v:AV}(h:AccG m I 5 l.length (T.encL l) v):v.fin m=.sl none l.length (T.encL l):=by
 rcases h with⟨h1,h2,rfl⟩|⟨i,rfl,hi,_⟩
 ·have:l=[]:=List.eq_nil_of_length_eq_zero h1;subst this;rfl
 ·have:¬i<m:=by omega
  simp[this]
theorem RdP.mkJ{H I I' rb ty tk Q v}(p':Nat){x e' ln':Int}(hI:I<+:I')(hx:x=p')(q:Q (v.fin I.length) p' e' ln'):RdP H I rb ty tk Q (.ok v) ⟨H.set rb (.cells ty (RQ tk x e' ln')),I'⟩:=by
 have:=RdP.mkI (X:=[]) (H:=H) (rb:=rb) (ty:=ty) (tk:=tk) p' hI hx q
 rwa [List.append_nil]at this
theorem Xxj{tk:List Tk}{k:Nat}(hP:Par tk k){p:Nat}{e ln:Int}(ha:At tk p e ln)(hk:fu tk p e 30<=k+1):RdC (k+1) 186 [] tk p e ln (ListQ tk 8 p e):=by
  intro E H I rb ty hE hr hb;refine Xai rfl rfl (by decide) fun s hs e0=>?_;have hkk:=fu_k hk;have gi:=Xlz (e:=e) (ln:=ln) (ty:=ty) ⟨#[41]⟩ ha.n ha.p (k:=k) (by omega) hE hr hb;have hmu:mu tk p e<=2*tk.length+1:=by unfold mu;split<;>omega
  simp[hs,e0,gi];refine Xau (J186 H I rb ty tk p e ln) (mu tk p e+if !isB tk p e ⟨#[41]⟩then 1 else 0) (by unfold fu at hk;split<;>omega) ⟨p,e,ln,[],I,!isB tk p e ⟨#[41]⟩,rfl,by simp[hs],rfl,by simp[hs,e0],by simp[hs],rfl,List.prefix_rfl,.inl ⟨rfl,rfl,by simp[hs]⟩,trivial,.refl ha,by simp[T.wtL],by simp[T.wtL]⟩ ?_;clear hs e0 s;rintro _ s m _ ⟨p1,e1,ln1,l,I',more,rfl,hs,rfl,e0,e5,rfl,hI,hacc,hl,g1,hw1,hw2⟩;obtain⟨v,e3⟩:∃v,lk s 3=v:=⟨_,rfl⟩;rw[e3]at hacc;have hE':E.Wf ⟨H,I'⟩:=hE.of (Nat.le_refl _) hI.length_le;have a1:=ha.to g1;have mm:=Xcd (tk:=tk) g1.1;by_cases hc:e1=0/\more=true;rotate_left
  ·have hout:(e1=0/\more=false)\/e1≠0:=by
      by_cases h:e1=0
      ·refine .inl ⟨h,?_⟩;cases more
       ·rfl
       ·exact absurd ⟨h,rfl⟩ hc
      ·exact .inr h
   have fin:∀p2 e2 ln2,Go1 tk p1 e1 p2 e2 ln2->(e2=0->e1=0)->pt tk p1<=pt tk p2->RdP H I rb ty tk (ListQ tk 8 p e) (.ok v) ⟨H.set rb (.cells ty (RQ tk p2 e2 ln2)),I'⟩:=fun p2 e2 ln2 g2 h0 hpp=>
     RdP.mkJ p2 hI rfl ⟨l,hacc.fin,hl,g1.trans g2,fun h=>by have:=hw1 (h0 h);omega,by omega⟩
   rcases hout with⟨rfl,rfl⟩|hz
   ·simp[hs,e0,e3,e5,rg0 hb];refine Xdo a1 _ (by omega) hE' hr hb fun p2 e2 ln2 g2 a2 q1 q2 q3=>?_;simp[hs,e3];exact fin p2 e2 ln2 g2 (fun _=>rfl) q3
   ·simp[hs,e0,e3,e5,rg0 hb,hz];refine Xdo a1 _ (by omega) hE' hr hb fun p2 e2 ln2 g2 a2 q1 q2 q3=>?_;simp[hs,e3];exact fin p2 e2 ln2 g2 (fun h=>(q1 h).1) q3
  obtain⟨rfl,rfl⟩:=hc;have hw1:=hw1 rfl;simp[hs,e0,e3,e5,rg0 hb];refine(hP.expr a1 (Xd0 g1.1 g1.2.2.2.2 (by omega) hk)).call0 hE' hr hb rfl NodeQ.ref ?_;rintro _ p2 e2 ln2 ⟨⟨op,ss,nn,l2,line⟩,rfl,ht,g2,hw3,hw4⟩;have a2:=a1.to g2;have mm2:=Xcd (tk:=tk) g2.1;have hll:=T.len_wtL l;have hp1:=ha.pt p1
  obtain⟨v',I2,ha1,ha2,ha3⟩:=(hacc.push [(1,5)]).app (E:=E) (bytes:=64) (k:=1) (y:=.sl (some I'.length) 1 (T.mk op ss nn l2 line).enc) (ys:=(T.mk op ss nn l2 line).enc) hE.rom rfl (hI.trans (List.prefix_append _ _)) (by omega) (by omega) (by simp[srcA]) rfl
    (H.set rb (.cells ty (RQ tk p2 e2 ln2)))
  simp only[T.enc]at ha1;have hE2:E.Wf ⟨H,I2⟩:=hE.of (Nat.le_refl _) ha3.length_le;have gt:=Xgq (e:=e2) (ln:=ln2) (ty:=ty) ⟨#[44]⟩ a2.n a2.p (k:=k) (by omega) hE2 hr hb;have gT:=Xlm a2 ⟨#[44]⟩;have hpt:pt tk p2<=pt tk (takeN tk p2 e2 ⟨#[44]⟩):=Xcd gT.1;simp[hs,e0,e3,ha1,gt];refine⟨_,?_,takeN tk p2 e2 ⟨#[44]⟩,e2,ln2,l++ [.mk op ss nn l2 line],I2,isB tk p2 e2 ⟨#[44]⟩,rfl,by simp[hs],rfl,by simp[hs,e0],by simp[hs],rfl,ha3,by simpa [hs,T.encL_append]using ha2,T.okL1_app hl ⟨ht,trivial⟩,g1.trans (g2.trans gT),fun h=>?_,?_⟩
  ·have hmu2:mu tk (takeN tk p2 e2 ⟨#[44]⟩) e2+1<=mu tk p1 0:=by
      by_cases h:e2=0
      ·have:=hw3 h;have hlt:=Xw6 (tk:=tk) (p:=p1) (q:=p2) (by simp only[T.wt]at this;omega);exact Xj5 (by have:=gT.1;omega) gT.2.1
      ·exact Xlu (by have:=g2.1;have:=gT.1;omega) h
   simp only[if_true];split<;>omega
  ·have:=hw3 h;rw[T.wtL_app];simp only[T.wtL];omega
  ·rw[T.wtL_app];simp only[T.wtL];omega
def J184(H:List ABlk)(I:List (Nat×Nat))(rb ty:Nat)(tk:List Tk)(p:Nat)(e ln:Int)(x0:Nat)(b:Bool)(n:Nat)(s:List AV)(m:List Nat)(st:St):Prop:=
 ∃(p1:Nat) (e1 ln1:Int) (t:T) (o:Option Nat) (X:List ABlk) (I':List (Nat×Nat)),n=tk.length - p1/\s.length=80/\m=[]/\lk s 0=.ptr rb 0/\lk s 2=.bool b/\lk s 4=.ptr H.length 0/\lk s 6=.ptr (H.length+1) 0/\
  st=⟨H.set rb (.cells ty (RQ tk p1 e1 ln1))++ .cells 24 (nodeC t o)::z5::X,I'⟩/\I<+:I'/\newO I.length o/\t.ok1/\Go1 tk p e p1 e1 ln1/\(e1=0->t.wt+pt tk p<=pt tk p1+x0)/\t.wt+pt tk p<=pt tk p1+x0+8
theorem Xdd{tk:List Tk}(h:∀t∈tk,t.ok)(p:Nat):ok64 (tkAt tk p).line:=by
 unfold tkAt;cases hx:tk[p]? with
 |none=>simp[Tk.no,ok64]
 |some t=>exact Xg5 h hx
theorem Xsg{tk:List Tk}(h:∀t∈tk,t.ok)(p:Nat):ok64 (tkAt tk p).n:=by
 unfold tkAt;cases hx:tk[p]? with
 |none=>simp[Tk.no,ok64]
 |some t=>exact(h t (List.mem_of_getElem? hx)).2.1
theorem Xq8{tk:List Tk}{k:Nat}{p:Nat}{e ln:Int}(t:T)(b:Bool)(he:e≠0)(ha:At tk p e ln)(hk:5<=k+1):RdC (k+1) 184 [.agg t.enc,.bool b] tk p e ln (isQ (.agg t.enc) p e ln):=by intro E H I rb ty hE hr hb;obtain⟨op,ss,nn,l,line⟩:=t;refine Xa8 rfl rfl (by decide) fun s hs e0 e1 e2=>?_;have m1:=Xcg hE;simp[hs,e0,e1,e2];refine Xau (fun n s m st=>s.length=80/\m=[]/\lk s 0=.ptr rb 0/\lk s 4=.ptr H.length 0/\lk s 6=.ptr (H.length+1) 0/\st=⟨H.set rb (.cells ty (RQ tk p e ln))++ [.cells 24 (nodeC (.mk op ss nn l line) none),z5],I⟩) 0 (by omega) ⟨by simp[hs],rfl,by simp[hs,e0],by simp[hs],by simp[hs],by simp[z5]⟩ ?_;rintro _ s m _ ⟨hs,rfl,e0,e4,e6,rfl⟩;simp[hs,e0,e4,e6,z5,rg hb,he,m1];exact RdP.mkX p rfl ⟨by simp,rfl,rfl,rfl⟩
theorem Xtr{tk:List Tk}{k:Nat}(hP:Par tk k){p:Nat}{e ln:Int}(t:T)(b:Bool)(htt:t.ok1)(ha:At tk p e ln)(hk:fu tk p e 17<=k+1):RdC (k+1) 184 [.agg t.enc,.bool b] tk p e ln (NodeQ tk t.wt 0 8 p e):=by
  intro E H I rb ty hE hr hb;obtain⟨x0,hx0⟩:∃x0,t.wt=x0:=⟨_,rfl⟩;rw[hx0];obtain⟨op,ss,nn,l,line⟩:=t;refine Xa8 rfl rfl (by decide) fun s hs e0 e1 e2=>?_;have hkk:=fu_k hk;have hn:=ha.n;have m1:=Xcg hE;have m0:=Xbi hE;simp[hs,e0,e1,e2];refine Xau (J184 H I rb ty tk p e ln x0 b) (tk.length - p) (by omega) ⟨p,e,ln,.mk op ss nn l line,none,[],I,rfl,by simp[hs],rfl,by simp[hs,e0],by simp[hs,e2],by simp[hs],by simp[hs],by simp[z5],List.prefix_rfl,(fun _ h=>nomatch h),htt,.refl ha,fun _=>by omega,by omega⟩ ?_;clear hs e0 e1 e2 s htt hx0;rintro _ s m _ ⟨p1,e1,ln1,⟨op,ss,nn,l,line⟩,o,X,I',rfl,hs,rfl,e0,e2,e4,e6,rfl,hI,ho,ht,g1,hw1,hw2⟩;have f0:=newO.fin0 o;have fI:=ho.fin;have hE':E.Wf ⟨H,I'⟩:=hE.of (Nat.le_refl _) hI.length_le;have hE1:E.Wf ⟨H,I'++ [(1,5)]⟩:=hE'.of (Nat.le_refl _) (by simp);have a1:=ha.to g1;have mm:=Xcd (tk:=tk) g1.1;by_cases hz:e1=0;rotate_left
  ·simp[hs,e0,e4,e6,z5,rg hb,hz,m1];exact RdP.mkI p1 hI rfl ⟨.mk op ss nn l line,by simp[fI],ht,g1,hw1,hw2⟩
  subst hz;have hw1:=hw1 rfl;have gt1:=Xcc (e:=0) (ln:=ln1) (ty:=ty) ⟨#[46]⟩ a1.n a1.p (k:=k) (by omega) hE' hr hb;have gt2:=Xcc (e:=0) (ln:=ln1) (ty:=ty) ⟨#[91]⟩ a1.n a1.p (k:=k) (by omega) hE' hr hb;have gt3:=Xcc (e:=0) (ln:=ln1) (ty:=ty) ⟨#[40]⟩ a1.n a1.p (k:=k) (by omega) hE' hr hb;rcases takeF tk p1 0 ⟨#[46]⟩with⟨hB,hT,hlt, -,hpt⟩|⟨hB,hT⟩
  ·rw[hB,hT]at gt1;have an:=a1.next hlt;have gn:=Go1.next a1 hlt;have g:=Xdi (e:=0) (ln:=ln1) (ty:=ty) an.n an.p (k:=k) (by omega) hE' hr hb;have hkl:=Xhg (tk:=tk) (p:=p1+1);have hpn:p1+1<tk.length->pt tk (p1+1+1)=pt tk (p1+1)+32+(tkAt tk (p1+1)).s.size:=fun h=>Xb6 h;obtain⟨⟨tkd,ts,tn,tl,tnl⟩,htt⟩:∃t,tkAt tk (p1+1)=t:=⟨_,rfl⟩;rw[htt]at g hkl hpn;simp only[Tk.enc,show((p1+1:Nat):Int)=(p1:Int)+1 from by omega]at g;by_cases hkd:tkd=1\/tkd=2
   ·have hlt2:=hkl (by simp only;omega);have hpn:=hpn hlt2;have hw:=Xah (n:=(p1:Int)+1+1) (by omega)
    have fin:∀s':List AV,s'.length=80->lk s' 0=.ptr rb 0->lk s' 2=.bool b->lk s' 4=.ptr H.length 0->lk s' 6=.ptr (H.length+1) 0->∀(x:Int) (Y:List ABlk),x=((p1+1+1:Nat):Int)->
        ∃n',n'<tk.length - p1/\J184 H I rb ty tk p e ln x0 b n' s' [] ⟨H.set rb (.cells ty (RQ tk x 0 ln1))++ .cells 24 [.int .i64 13,.str ts,.int .i64 0,.sl (some I'.length) 1 [.int .i64 op,.str ss,.int .i64 nn,.sl none l.length (T.encL l),.int .i64 line],.int .i64 line]::.cells 24 [.int .i64 0,.str ⟨#[]⟩,.int .i64 0,.nils,.int .i64 0]::Y,I'++ [(1,5)]⟩:=fun s' q1 q2 q3 q4 q5 x Y hx=>by
      subst hx;refine⟨tk.length - (p1+1+1),by omega,p1+1+1,0,ln1,.mk 13 ts 0 [.mk op ss nn l line] line,some I'.length,Y,I'++ [(1,5)],rfl,q1,rfl,q2,q3,q4,q5,by simp[z5],hI.trans (List.prefix_append _ _),(fun j hj=>by cases hj;exact hI.length_le),⟨by simp[ok64],by simp[ok64],ht.2.2.1,ht,trivial⟩,g1.trans (gn.trans (.next an hlt2)),fun _=>?_,?_⟩
      ·simp only[T.wt,T.wtL,sz0]at*;omega
      ·simp only[T.wt,T.wtL,sz0]at*;omega
    rcases hkd with rfl|rfl<;>
    ·simp[hs,e0,e4,gt1,g,m1,m0,rg hb,rs hb,Xbm hr,f0,z5,hw];exact fin _ (by simp[hs]) (by simp[hs,e0]) (by simp[hs,e2]) (by simp[hs,e4]) (by simp[hs,e6]) _ _ (by omega)
   ·have k1:¬tkd=1:=by omega
    have k2:¬tkd=2:=by omega
    simp[hs,e0,e4,e6,gt1,g,m1,m0,rg hb,k1,k2,z5];refine(f74 0 ln1 false an.n an.ok an.p an.e an.ln k (by omega)).call hE' hr hb _ rfl stopQ.ref ?_;rintro _ p2 e2' ln2 ⟨rfl,hp2,q1,q2,q3⟩;simp[hs,e6,nd0,m1];refine RdP.mkI p2 hI rfl ⟨.mk 0 ⟨#[]⟩ 0 [] 0,by simp,⟨by simp[ok64],by simp[ok64],by simp[ok64],trivial⟩,⟨by have:=g1.1;omega,by have:=an.p;omega,q2,q3,fun _=>q1⟩,fun h=>absurd h q1,?_⟩;subst hp2;simp only[T.wt,T.wtL,sz0]at*;omega
  rw[hB,hT]at gt1;rcases takeF tk p1 0 ⟨#[91]⟩with⟨hB,hT,hlt, -,hpt⟩|⟨hB,hT⟩
  ·rw[hB,hT]at gt2;have an:=a1.next hlt;have gn:=Go1.next a1 hlt;simp[hs,e0,rg hb,gt1,gt2];refine(hP.expr an (Xbj (by have:=g1.1;omega) hlt (by omega) hk)).call hE' hr hb _ rfl NodeQ.ref ?_;rintro _ p2 e2' ln2 ⟨⟨op2,ss2,nn2,l2,line2⟩,rfl,ht2,g2,hw3,hw4⟩;have a2:=an.to g2;simp[hs,e0,m1];refine Xbe a2 _ (by omega) hE' hr hb _ fun p3 e3 ln3 g3 a3 q4 q5 q6=>?_
   have fin:∀s':List AV,s'.length=80->lk s' 0=.ptr rb 0->lk s' 2=.bool b->lk s' 4=.ptr H.length 0->lk s' 6=.ptr (H.length+1) 0->∀(Y:List ABlk),
         ∃n',n'<tk.length - p1/\J184 H I rb ty tk p e ln x0 b n' s' [] ⟨H.set rb (.cells ty (RQ tk p3 e3 ln3))++ .cells 24 [.int .i64 14,.str ⟨#[]⟩,.int .i64 0,.sl (some I'.length) 2 [.int .i64 op,.str ss,.int .i64 nn,.sl none l.length (T.encL l),.int .i64 line,.int .i64 op2,.str ss2,.int .i64 nn2,.sl none l2.length (T.encL l2),.int .i64 line2],.int .i64 line]::.cells 24 [.int .i64 0,.str ⟨#[]⟩,.int .i64 0,.nils,.int .i64 0]::Y,I'++ [(2,5)]⟩:=fun s' q1 q2' q3' q4' q5' Y=>by
     refine⟨tk.length - p3,by have:=g2.1;have:=g3.1;omega,p3,e3,ln3,.mk 14 ⟨#[]⟩ 0 [.mk op ss nn l line,.mk op2 ss2 nn2 l2 line2] line,some I'.length,Y,I'++ [(2,5)],rfl,q1,rfl,q2',q3',q4',q5',by simp[z5],hI.trans (List.prefix_append _ _),(fun j hj=>by cases hj;exact hI.length_le),⟨by simp[ok64],by simp[ok64],ht.2.2.1,ht,ht2,trivial⟩,g1.trans (gn.trans (g2.trans g3)),fun h=>?_,?_⟩
     ·have:=hw3 (q4 h).1;simp only[T.wt,T.wtL,sz0]at*;omega
     ·simp only[T.wt,T.wtL,sz0]at*;omega
   simp[hs,e0,e4,m1,m0,f0,z5];exact fin _ (by simp[hs]) (by simp[hs,e0]) (by simp[hs,e2]) (by simp[hs,e4]) (by simp[hs,e6]) _
  rw[hB,hT]at gt2
  have fin0:∀Y,RdP H I rb ty tk (NodeQ tk x0 0 8 p e) (.ok (.agg [.int .i64 op,.str ss,.int .i64 nn,.sl o l.length (T.encL l),.int .i64 line])) ⟨H.set rb (.cells ty (RQ tk p1 0 ln1))++Y,I'⟩:=fun Y=>
    RdP.mkI p1 hI rfl ⟨.mk op ss nn l line,by simp[fI],ht,g1,fun _=>by omega,hw2⟩
  cases b
  ·simp[hs,e0,e2,e4,e6,rg hb,gt1,gt2,z5,m1,Xa1,fin0]
  rcases takeF tk p1 0 ⟨#[40]⟩with⟨hB,hT,hlt, -,hpt⟩|⟨hB,hT⟩;rotate_left
  ·rw[hB,hT]at gt3;simp[hs,e0,e2,e4,e6,rg hb,gt1,gt2,gt3,z5,m1,Xa1,fin0]
  rw[hB,hT]at gt3;have an:=a1.next hlt;have gn:=Go1.next a1 hlt;simp[hs,e0,e2,e4,rg hb,gt1,gt2,gt3,z5,m1,f0,Nat.testBit];refine(hP.args an (Xbj (by have:=g1.1;omega) hlt (by omega) hk)).call hE1 hr hb _ rfl ListQ.ref ?_;rintro _ p2 e2' ln2 ⟨l2,rfl,ht2,g2,hw3,hw4⟩;have hll:=T.len_wtL l2;have hp2:=ha.pt p2;have happ:=Xqg hE'.rom (a:=.int .i64 op) (b:=.str ss) (c:=.int .i64 nn) (d:=.sl none l.length (T.encL l)) (e:=.int .i64 line) (l:=l2) (by omega)
  have fin:∀s':List AV,s'.length=80->lk s' 0=.ptr rb 0->lk s' 2=.bool true->lk s' 4=.ptr H.length 0->lk s' 6=.ptr (H.length+1) 0->∀(Y:List ABlk),
        ∃n',n'<tk.length - p1/\J184 H I rb ty tk p e ln x0 true n' s' [] ⟨H.set rb (.cells ty (RQ tk p2 e2' ln2))++ .cells 24 [.int .i64 15,.str ⟨#[]⟩,.int .i64 0,.sl (some I'.length) (1+l2.length) (.int .i64 op::.str ss::.int .i64 nn::.sl none l.length (T.encL l)::.int .i64 line::T.encL l2),.int .i64 line]::.cells 24 [.int .i64 0,.str ⟨#[]⟩,.int .i64 0,.nils,.int .i64 0]::Y,I'++ [(1+l2.length,5)]⟩:=fun s' q1 q2' q3' q4' q5' Y=>by
    refine⟨tk.length - p2,by have:=g2.1;omega,p2,e2',ln2,.mk 15 ⟨#[]⟩ 0 (.mk op ss nn l line::l2) line,some I'.length,Y,I'++ [(1+l2.length,5)],rfl,q1,rfl,q2',q3',q4',q5',by simp[z5,Nat.add_comm],hI.trans (List.prefix_append _ _),(fun j hj=>by cases hj;exact hI.length_le),⟨by simp[ok64],by simp[ok64],ht.2.2.1,ht,ht2⟩,g1.trans (gn.trans g2),fun h=>?_,?_⟩
    ·have:=hw3 h;simp only[T.wt,T.wtL,sz0]at*;omega
    ·simp only[T.wt,T.wtL,sz0]at*;omega
  simp[hs,e0,e4,z5,m1,m0,f0,happ,Nat.testBit];exact fin _ (by simp[hs]) (by simp[hs,e0]) (by simp[hs,e2]) (by simp[hs,e4]) (by simp[hs,e6]) _
def isPl(w:AV):Prop:=∃n:Int,w=.int .i64 n/\ok64 n
theorem f187(s0:ByteArray)(k:Nat)(hk:1<=k):PureE k 187 [.str s0] isPl:=by intro E st hE;obtain⟨k,rfl⟩:=uK (k:=k) (by omega);refine Xai rfl rfl (by decide) fun s hs e0=>?_;have h4:isPl (.int .i64 4):=⟨4,rfl,by simp[ok64]⟩;have h5:isPl (.int .i64 5):=⟨5,rfl,by simp[ok64]⟩;have h6:isPl (.int .i64 6):=⟨6,rfl,by simp[ok64]⟩;have h7:isPl (.int .i64 7):=⟨7,rfl,by simp[ok64]⟩;have h8:isPl (.int .i64 8):=⟨8,rfl,by simp[ok64]⟩;have h9:isPl (.int .i64 9):=⟨9,rfl,by simp[ok64]⟩;have h0:isPl (.int .i64 0):=⟨0,rfl,by simp[ok64]⟩;simp[hs,e0];repeat' (with_reducible refine Xaq (fun h=>?_) (fun h=>?_)<;>simp[*,Grow.refl,Xdj])
theorem Xtp{tk:List Tk}{k:Nat}(hP:Par tk k){p:Nat}{e ln:Int}(ha:At tk p e ln)(hk:fu tk p e 18<=k+1):RdC (k+1) 185 [] tk p e ln (NodeQ tk 0 16 8 p e):=by
 intro E H I rb ty hE hr hb;refine Xai rfl rfl (by decide) fun s hs e0=>?_;have hkk:=fu_k hk;have hn:=ha.n;have m0:=Xbi hE;have m1:=Xcg hE;have g:=Xdi (e:=e) (ln:=ln) (ty:=ty) ha.n ha.p (k:=k) (by omega) hE hr hb;have hkl:=Xhg (tk:=tk) (p:=p);have htl:=Xdd ha.ok p;have htn:=Xsg ha.ok p;have hpn:p<tk.length->pt tk (p+1)=pt tk p+32+(tkAt tk p).s.size:=fun h=>Xb6 h;obtain⟨⟨tkd,ts,tn,tl,tnl⟩,htt⟩:∃t,tkAt tk p=t:=⟨_,rfl⟩;rw[htt]at g hkl htl htn hpn;simp only[Tk.enc]at g;simp only at htl htn hkl hpn;by_cases hz:e=0;rotate_left
 ·simp[hs,e0,g,m0,m1,rg hb,hz];exact RdP.mkX p rfl ⟨.mk 0 ⟨#[]⟩ 0 [] 0,by simp,⟨by simp[ok64],by simp[ok64],by simp[ok64],trivial⟩,.refl ha,fun h=>absurd h hz,by simp only[T.wt,T.wtL,sz0];omega⟩
 subst hz;have hw:p<tk.length->IntKind.i64.wrap ((p:Int)+1)=(p:Int)+1:=fun h=>Xah (by omega)
 have fin:∀(op x:Int) (ss:ByteArray) (Y:List ABlk),p<tk.length->ok64 op->ok64 x->ss.size<=ts.size->RdP H I rb ty tk (NodeQ tk 0 16 8 p 0) (.ok (.agg [.int .i64 op,.str ss,.int .i64 x,.nils,.int .i64 tl])) ⟨H.set rb (.cells ty (RQ tk ((p:Int)+1) 0 ln))++Y,I⟩:=fun op x ss Y hlt ho hx hss=>by
  have:=hpn hlt;refine RdP.mkX (p+1) (by simp) ⟨.mk op ss x [] tl,by simp,⟨ho,hx,htl,trivial⟩,.next ha hlt,fun _=>?_,?_⟩
  ·simp only[T.wt,T.wtL];omega
  ·simp only[T.wt,T.wtL];omega
 have err:∀(e' ln':Int) (Y:List ABlk),e'≠0->ok64 e'->ok64 ln'->RdP H I rb ty tk (NodeQ tk 0 16 8 p 0) (.ok (.agg [.int .i64 0,.str ⟨#[]⟩,.int .i64 0,.nils,.int .i64 tl])) ⟨H.set rb (.cells ty (RQ tk p e' ln'))++Y,I⟩:=fun e' ln' Y h1 h2 h3=>
  RdP.mkX p rfl ⟨.mk 0 ⟨#[]⟩ 0 [] tl,by simp,⟨by simp[ok64],by simp[ok64],htl,trivial⟩,⟨Nat.le_refl _,ha.p,h2,h3,fun _=>h1⟩,fun h=>absurd h h1,by simp only[T.wt,T.wtL,sz0];omega⟩
 have errS:∀(e' ln':Int) (Y:List ABlk),e'≠0->ok64 e'->ok64 ln'->RdP H I rb ty tk (NodeQ tk 0 16 8 p 0) (.ok (.agg [.int .i64 0,.str ⟨#[]⟩,.int .i64 0,.sl none 0 [],.int .i64 0])) ⟨H.set rb (.cells ty (RQ tk p e' ln'))++Y,I⟩:=fun e' ln' Y h1 h2 h3=>
  RdP.mkX p rfl ⟨.mk 0 ⟨#[]⟩ 0 [] 0,by simp,⟨by simp[ok64],by simp[ok64],by simp[ok64],trivial⟩,⟨Nat.le_refl _,ha.p,h2,h3,fun _=>h1⟩,fun h=>absurd h h1,by simp only[T.wt,T.wtL,sz0];omega⟩
 have stp:∀(Y:List ABlk) {P:Rt AV×St->Prop},(∀e' ln',e'≠0->ok64 e'->ok64 ln'->P (.ok (.agg nd0),⟨H.set rb (.cells ty (RQ tk p e' ln'))++Y,I⟩))->obP (doCall (aCall prog k) E .full (.fn 74) [.ptr rb 0,.bool true] ⟨H.set rb (.cells ty (RQ tk p 0 ln))++Y,I⟩) P:=fun Y P hP2=>
  (f74 0 ln true ha.n ha.ok ha.p ha.e ha.ln k (by omega)).call hE hr hb Y rfl stopQ.ref (by rintro _ _ e' ln' ⟨rfl,rfl,q1,q2,q3⟩;exact hP2 e' ln' q1 q2 q3)
 by_cases k1:tkd=1
 ·subst k1;have hlt:=hkl (by omega);by_cases he:ts=⟨#[101,118,97,108]⟩\/ts=⟨#[97,114,103,117,109,101,110,116,115]⟩
  ·rcases he with rfl|rfl<;>
   ·simp[hs,e0,g,m0,m1,rg hb];refine(f107 0 ln 43 ha.n ha.ok ha.p ha.ln k (by omega)).call hE hr hb _ rfl (failQ.ref rfl) ?_;rintro _ _ e' ln' ⟨rfl,rfl,q1,q2⟩;simp only[if_true]at q1;simp[hs,m0,m1];exact err e' ln' _ (by omega) (by rw[q1];simp[ok64]) q2
  ·have h1:¬ts=⟨#[101,118,97,108]⟩:=fun h=>he (.inl h);have h2:¬ts=⟨#[97,114,103,117,109,101,110,116,115]⟩:=fun h=>he (.inr h);simp[hs,e0,g,m0,m1,rg hb,rs hb,Xbm hr,h1,h2,hw hlt];exact fin 1 0 ts _ hlt (by simp[ok64]) (by simp[ok64]) (Nat.le_refl _)
 by_cases k3:tkd=3
 ·subst k3;have hlt:=hkl (by omega);simp[hs,e0,g,m0,m1,rg hb,rs hb,Xbm hr,hw hlt];exact fin 2 tn ⟨#[]⟩ _ hlt (by simp[ok64]) htn (by simp[sz0])
 by_cases k4:tkd=4
 ·subst k4;have hlt:=hkl (by omega);simp[hs,e0,g,m0,m1,rg hb,rs hb,Xbm hr,hw hlt];exact fin 3 0 ts _ hlt (by simp[ok64]) (by simp[ok64]) (Nat.le_refl _)
 by_cases k2:tkd=2
 ·subst k2;have hlt:=hkl (by omega);by_cases hf:ts=⟨#[102,117,110,99,116,105,111,110]⟩
  ·subst hf;have hpn:=hpn hlt;have an:=ha.next hlt;have gn:=Go1.next ha hlt;have g2:=Xdi (e:=0) (ln:=ln) (ty:=ty) an.n an.p (k:=k) (by omega) hE hr hb;simp only[Tk.enc,show((p+1:Nat):Int)=(p:Int)+1 from by omega]at g2;by_cases hk1:(tkAt tk (p+1)).kind=1
   ·simp[hs,e0,g,m0,m1,rg hb,rs hb,Xbm hr,hw hlt,g2,hk1];have nm:=(f164 0 ln an.n an.ok an.p an.e an.ln k (by omega)).call (rb:=rb) (ty:=ty) (E:=E) (H:=H) (I:=I) (args':=[]) hE hr hb;simp only[show((p+1:Nat):Int)=(p:Int)+1 from by omega]at nm;refine nm _ rfl nameQ.ref ?_;rintro w p1 e1 ln1 ⟨he1,hl1,hcase⟩
    obtain⟨S,hS,g1,hS1,hS2⟩:∃S:ByteArray,w=AV.str S/\Go1 tk (p+1) 0 p1 e1 ln1/\(S.size+pt tk (p+1)<=pt tk p1)/\True:=by
     rcases hcase with⟨h1,_,h2,rfl,rfl⟩|⟨h1,rfl,rfl⟩
     ·exact⟨(tkAt tk (p+1)).s,rfl,⟨by omega,h2,he1,hl1,fun h=>absurd rfl h⟩,by rw[Xb6 h2];omega,trivial⟩
     ·exact⟨⟨#[]⟩,rfl,⟨by omega,an.p,he1,hl1,fun _=>h1⟩,by rw[sz0];omega,trivial⟩
    subst hS;have a1:=an.to g1;simp[hs,e0,m1];refine(hP.rest a1 (Xbj (by have:=g1.1;omega) a1.p (by omega) hk)).call hE hr hb _ rfl ListQ.ref ?_;rintro _ p2 e2 ln2 ⟨l,rfl,hl,g3,hw1,hw2⟩;simp[hs,e0,m1,m0];refine RdP.mkX p2 rfl ⟨.mk 10 S 0 l tl,by simp,⟨by simp[ok64],by simp[ok64],htl,hl⟩,gn.trans (g1.trans g3),fun h=>?_,?_⟩
    ·have:=hw1 h;simp only[T.wt];omega
    ·simp only[T.wt];omega
   ·simp[hs,e0,g,m0,m1,rg hb,rs hb,Xbm hr,hw hlt,g2,hk1];have nm:=(hP.rest an (Xbj (by omega) an.p (by omega) hk)).call (rb:=rb) (ty:=ty) (E:=E) (H:=H) (I:=I) (args':=[]) hE hr hb;simp only[show((p+1:Nat):Int)=(p:Int)+1 from by omega]at nm;refine nm _ rfl ListQ.ref ?_;rintro _ p2 e2 ln2 ⟨l,rfl,hl,g3,hw1,hw2⟩;simp[hs,e0,m1,m0];refine RdP.mkX p2 rfl ⟨.mk 10 ⟨#[]⟩ 0 l tl,by simp,⟨by simp[ok64],by simp[ok64],htl,hl⟩,gn.trans g3,fun h=>?_,?_⟩
    ·have:=hw1 h;simp only[T.wt,sz0];omega
    ·simp only[T.wt,sz0];omega
  ·have hE3:∀Y,E.Wf ⟨H.set rb (.cells ty (RQ tk p 0 ln))++Y,I⟩:=fun Y=>hE.of (by simp) (Nat.le_refl _);simp[hs,e0,g,m0,m1,rg hb,hf];refine(f187 ts k (by omega)).call (by rintro _ ⟨n,rfl,_⟩;rfl) (hE3 _) rfl ?_;rintro _ ⟨n,rfl,hn0⟩;by_cases hnz:n=0
   ·subst hnz;simp[hs,e0,m0,m1];refine stp _ fun e' ln' q1 q2 q3=>?_;simp[hs,m0,nd0];exact errS e' ln' _ q1 q2 q3
   ·simp[hs,e0,m0,m1,rg hb,rs hb,Xbm hr,hw hlt,hnz];exact fin n 0 ⟨#[]⟩ _ hlt hn0 (by simp[ok64]) (by simp[sz0])
 by_cases k5:tkd=5
 ·subst k5;have hlt:=hkl (by omega);by_cases h40:ts=⟨#[40]⟩
  ·subst h40;simp[hs,e0,g,m0,m1,rg hb];refine(hP.head ha (by rw[if_pos rfl];exact Xd0 (Nat.le_refl _) id (by omega) hk)).call hE hr hb _ rfl NodeQ.ref ?_;rintro _ p1 e1 ln1 ⟨⟨op,ss,nn,l,line⟩,rfl,ht,g1,hw1,hw2⟩;simp[hs,m0];exact RdP.mkX p1 rfl ⟨.mk op ss nn l line,by simp,ht,g1,hw1,hw2⟩
  by_cases h123:ts=⟨#[123]⟩
  ·subst h123;simp[hs,e0,g,m0,m1,rg hb];refine(hP.object ha (Xd0 (Nat.le_refl _) id (by omega) hk)).call hE hr hb _ rfl NodeQ.ref ?_;rintro _ p1 e1 ln1 ⟨⟨op,ss,nn,l,line⟩,rfl,ht,g1,hw1,hw2⟩;simp[hs,m0];exact RdP.mkX p1 rfl ⟨.mk op ss nn l line,by simp,ht,g1,hw1,hw2⟩
  simp[hs,e0,g,m0,m1,rg hb,h40,h123];refine stp _ fun e' ln' q1 q2 q3=>?_;simp[hs,m0,nd0];exact errS e' ln' _ q1 q2 q3
 simp[hs,e0,g,m0,m1,rg hb,k1,k2,k3,k4,k5];refine stp _ fun e' ln' q1 q2 q3=>?_;simp[hs,m0,nd0];exact errS e' ln' _ q1 q2 q3
theorem f189(t:Tk)(k:Nat)(hk:1<=k):PureC k 189 [.agg t.enc] (.bool (decide (t.kind=1)||decide (t.kind=2)||decide (t.kind=4)||decide (t.kind=3))):=by
 intro E st hE;obtain⟨k,rfl⟩:=uK (k:=k) (by omega);refine Xai rfl rfl (by decide) fun s hs e0=>?_;obtain⟨kd,ts,tn,tl,tnl⟩:=t;simp only[Tk.enc]at e0;simp[hs,e0];repeat' (with_reducible refine Xaq (fun h=>?_) (fun h=>?_)<;>simp[*,hs,h,Grow.appH])
 all_goals omega
def Jdx(n:Nat)(w:AV):Prop:=∃s:ByteArray,w=.str s/\s.size<=n
theorem f190:∀(j:Nat) (n:Int),ok64 n->n<10 ^ (j+1)->j<=30->∀k,j+2<=k->PureE k 190 [.int .i64 n] (Jdx (j+1)):=by
 intro j;induction j with
 |zero=>
  intro n hn h10 _ k hk E st hE;obtain⟨k,rfl⟩:=uK (k:=k) (by omega);refine Xai rfl rfl (by decide) fun s hs e0=>?_;have h:n<10:=by simpa using h10
  simp[hs,e0,h,wrC,cvsA,Xel,Grow.refl];exact⟨_,rfl,by simp[ByteArray.size]⟩
 |succ j ih=>
  intro n hn h10 hj k hk E st hE;obtain⟨k,rfl⟩:=uK (k:=k) (by omega);refine Xai rfl rfl (by decide) fun s hs e0=>?_;by_cases h:n<10
  ·simp[hs,e0,h,wrC,cvsA,Xel,Grow.refl];exact⟨_,rfl,by simp[ByteArray.size]⟩
  have hq:n.tdiv 10=n / 10:=Int.tdiv_eq_ediv_of_nonneg (by omega);have hw:=Xah (n:=n / 10) (by unfold ok64 at hn;omega);have hlt:n / 10<10 ^ (j+1):=by have e1:(10:Int) ^ (j+1+1)=10 ^ (j+1)*10:=Int.pow_succ 10 (j+1);rw[e1]at h10;exact Int.ediv_lt_of_lt_mul (by omega) h10
  simp[hs,e0,h,hq,hw,Nat.testBit];refine(ih (n / 10) (by unfold ok64 at hn⊢;omega) hlt (by omega) k (by omega)).call (by rintro _ ⟨s,rfl,_⟩;rfl) hE rfl ?_;rintro _ ⟨x,rfl,hx⟩;have hsz:∀b,x.size+(⟨#[b]⟩:ByteArray).size<=9223372036854775807:=fun b=>by have:(⟨#[b]⟩:ByteArray).size=1:=rfl;omega
  simp[hs,e0,wrC,cvsA,Xel,hsz,Grow.refl];refine⟨_,rfl,?_⟩;rw[ByteArray.size_append];have:∀b,(⟨#[b]⟩:ByteArray).size=1:=fun _=>rfl;rw[this];omega
theorem AccG.one{m I sz n cs v}(h:AccG m I sz n cs v):v.one=true:=by rcases h with⟨_,_,rfl⟩|⟨i,rfl,_⟩<;>rfl
theorem AccG.cells{m I sz n cs v}(h:AccG m I sz n cs v):v.cells=[v]:=by rcases h with⟨_,_,rfl⟩|⟨i,rfl,_⟩<;>rfl
theorem AccG.appU{E:Env}{m:Nat}{I0 I:List (Nat×Nat)}{sz bytes n k:Nat}{cs ys:List AV}{v y:AV}(h:AccG m I sz n cs v)(hr:E.rom<=m)(hm:I0.length=m)(hp:I0<+:I)(hb:bytes<=1000)(hn:n+k<=1000000000)(hs:srcA sz y=some (k,ys))(hy:ys.length=k*sz):
  ∃v' I',(∀H,appA E ⟨H,I⟩ sz bytes v y=some (v',⟨H,I'⟩))/\AccG m I' sz (n+k) (cs++ys) v'/\I0<+:I':=by
 have hlen:=hp.length_le;have hb1:∀x,x<=1000000000->x*bytes<=70368744177664:=fun x hx=>Nat.le_trans (Nat.mul_le_mul hx hb) (by decide);rcases h with⟨rfl,rfl,rfl⟩|⟨j,rfl,hj,hi,hl⟩
 ·by_cases hk:k=0
  ·subst hk;have:ys=[]:=List.eq_nil_of_length_eq_zero (by simpa using hy);subst this;exact⟨.nils,I,by simp[appA,hs],.inl ⟨rfl,rfl,rfl⟩,hp⟩
  ·refine⟨.sl (some I.length) k ys,I++ [(k,sz)],?_,.inr ⟨I.length,by simp,by omega,by simp,by simpa using hy⟩,hp.trans (List.prefix_append _ _)⟩;have h2:k<=70368744177664:=by omega
   simp[appA,hs,hk,hb1 k (by omega),h2]
 ·have hlt:=uB hi;have h2:n+k<=70368744177664:=by omega
  have h3:E.rom<=j:=by omega
  refine⟨.sl (some j) (n+k) (cs++ys),I.set j (n+k,sz),?_,.inr ⟨j,rfl,hj,by rw[List.getElem?_set_self hlt],by rw[List.length_append,hl,hy,Nat.add_mul]⟩,?_⟩
  ·simp[appA,hs,h3,hi,hl,hb1 (n+k) hn,h2]
  ·obtain⟨r,rfl⟩:=hp;rw[List.set_append_right _ _ (by omega)];exact List.prefix_append _ _
def J188(H:List ABlk)(I:List (Nat×Nat))(rb ty:Nat)(tk:List Tk)(p:Nat)(e ln line:Int)(n:Nat)(s:List AV)(m:List Nat)(st:St):Prop:=
 ∃(p1:Nat) (e1 ln1:Int) (l:List T) (v:AV) (X:List ABlk) (I':List (Nat×Nat)),n=tk.length - p1/\s.length=94/\m=[]/\lk s 0=.ptr rb 0/\lk s 2=.ptr H.length 0/\lk s 3=.ptr (H.length+1) 0/\
  st=⟨H.set rb (.cells ty (RQ tk p1 e1 ln1))++z5::.cells 24 [.int .i64 11,.str ⟨#[]⟩,.int .i64 0,v,.int .i64 line]::X,I'⟩/\I<+:I'/\AccG I.length I' 5 l.length (T.encL l) v/\T.okL1 l/\Go1 tk p e p1 e1 ln1/\(e1=0->T.wtL l+24+pt tk p<=pt tk p1)/\T.wtL l+pt tk p<=pt tk p1
theorem Xq9{tk:List Tk}{k:Nat}(hP:Par tk k){p:Nat}{e ln:Int}(ha:At tk p e ln)(hk:fu tk p e 16<=k+1):RdC (k+1) 188 [] tk p e ln (NodeQ tk 0 16 8 p e):=by
  intro E H I rb ty hE hr hb;refine Xai rfl rfl (by decide) fun s hs e0=>?_;have hkk:=fu_k hk;have hn:=ha.n;have m0:=Xbi hE;have m1:=Xcg hE;have g:=Xdi (e:=e) (ln:=ln) (ty:=ty) ha.n ha.p (k:=k) (by omega) hE hr hb;have htl:=Xdd ha.ok p;obtain⟨line,hline⟩:∃x,(tkAt tk p).line=x:=⟨_,rfl⟩;rw[hline]at htl;simp only[Tk.enc,hline]at g;simp[hs,e0,g,m1];refine Xbe ha _ (by omega) hE hr hb _ fun p1 e1 ln1 g1 a1 q1 q2 q3=>?_;simp[hs];refine Xau (J188 H I rb ty tk p e ln line) (tk.length - p1) (by omega) ⟨p1,e1,ln1,[],.nils,[],I,rfl,by simp[hs],rfl,by simp[hs,e0],by simp[hs],by simp[hs],by simp[z5],List.prefix_rfl,.inl ⟨rfl,rfl,rfl⟩,trivial,g1,fun h=>by have:=(q1 h).2.2;simp only[T.wtL];omega,by simp only[T.wtL];omega⟩ ?_;clear hs e0 s q1 q2 q3 a1 g1 g;rintro _ s m _ ⟨p1,e1,ln1,l,v,X,I',rfl,hs,rfl,e0,e2,e3,rfl,hI,hacc,hl,g1,hw1,hw2⟩;have fI:=hacc.fin;have o1:=hacc.one;have hE':E.Wf ⟨H,I'⟩:=hE.of (Nat.le_refl _) hI.length_le;have a1:=ha.to g1;have mm:=Xcd (tk:=tk) g1.1;by_cases hz:e1=0;rotate_left
  ·simp[hs,e0,e2,e3,z5,o1,rg hb,hz,m0];exact RdP.mkI p1 hI rfl ⟨.mk 11 ⟨#[]⟩ 0 l line,by simp[fI],⟨by simp[ok64],by simp[ok64],htl,hl⟩,g1,fun h=>absurd h hz,by simp only[T.wt,sz0];omega⟩
  subst hz;have hw1:=hw1 rfl;have gt1:=Xcc (e:=0) (ln:=ln1) (ty:=ty) ⟨#[125]⟩ a1.n a1.p (k:=k) (by omega) hE' hr hb;rcases takeF tk p1 0 ⟨#[125]⟩with⟨hB,hT,hlt, -,hpt⟩|⟨hB,hT⟩
  ·rw[hB,hT]at gt1;simp[hs,e0,e2,e3,z5,o1,rg hb,gt1,m0];exact RdP.mkI (p1+1) hI (by simp) ⟨.mk 11 ⟨#[]⟩ 0 l line,by simp[fI],⟨by simp[ok64],by simp[ok64],htl,hl⟩,g1.trans (.next a1 hlt),fun _=>by simp only[T.wt,sz0];omega,by simp only[T.wt,sz0];omega⟩
  rw[hB,hT]at gt1;have g:=Xdi (e:=0) (ln:=ln1) (ty:=ty) a1.n a1.p (k:=k) (by omega) hE' hr hb;have hkl:=Xhg (tk:=tk) (p:=p1);have htl2:=Xdd ha.ok p1;have htn2:=Xsg ha.ok p1;have hpn:p1<tk.length->pt tk (p1+1)=pt tk p1+32+(tkAt tk p1).s.size:=fun h=>Xb6 h;have hkey:=fun t Hx=>(f189 t k (by omega)).full (E:=E) (st:=⟨H.set rb (.cells ty (RQ tk p1 0 ln1))++Hx,I'⟩) rfl (hE'.of (by simp) (Nat.le_refl _)) (by simp[Tk.enc]);have hkey2:=fun t Hx=>(f189 t k (by omega)).full (E:=E) (st:=⟨H.set rb (.cells ty (RQ tk ((p1:Int)+1) 0 ln1))++Hx,I'⟩) rfl (hE'.of (by simp) (Nat.le_refl _)) (by simp[Tk.enc]);obtain⟨⟨tkd,ts,tn,tl,tnl⟩,htt⟩:∃t,tkAt tk p1=t:=⟨_,rfl⟩;rw[htt]at g hkl htl2 htn2 hpn;have hk1:=hkey ⟨tkd,ts,tn,tl,tnl⟩;simp only[Tk.enc]at g hk1;simp only at htl2 htn2 hkl hpn;obtain⟨b,hbk⟩:∃b,(decide (tkd=1)||decide (tkd=2)||decide (tkd=4)||decide (tkd=3))=b:=⟨_,rfl⟩;rw[hbk]at hk1;cases b
  ·simp[hs,e0,e2,e3,z5,o1,rg hb,gt1,g,hk1,m0,m1];refine(f74 0 ln1 false a1.n a1.ok a1.p a1.e a1.ln k (by omega)).call hE' hr hb _ rfl stopQ.ref ?_;rintro _ p2 e2' ln2 ⟨rfl,rfl,q1,q2,q3⟩;simp[hs,e2,nd0,m0];refine RdP.mkI _ hI rfl ⟨.mk 0 ⟨#[]⟩ 0 [] 0,by simp,⟨by simp[ok64],by simp[ok64],by simp[ok64],trivial⟩,⟨g1.1,a1.p,q2,q3,fun _=>q1⟩,fun h=>absurd h q1,?_⟩;simp only[T.wt,T.wtL,sz0]at*;omega
  have hlt:p1<tk.length:=hkl (by simp at hbk;omega);have hpn:=hpn hlt;have an:=a1.next hlt;have gn:=Go1.next a1 hlt;have hw:=Xah (n:=(p1:Int)+1) (by omega);have gx:=Xdi (e:=0) (ln:=ln1) (ty:=ty) an.n an.p (k:=k) (by omega) hE' hr hb;obtain⟨u,hu⟩:∃t,tkAt tk (p1+1)=t:=⟨_,rfl⟩;rw[hu]at gx;simp only[show((p1+1:Nat):Int)=(p1:Int)+1 from by omega]at gx;have hk2:=hkey2 u;obtain⟨b2,hbk2⟩:∃b,(decide (u.kind=1)||decide (u.kind=2)||decide (u.kind=4)||decide (u.kind=3))=b:=⟨_,rfl⟩;rw[hbk2]at hk2
  have fin0:∀(e' ln':Int) (Y:List ABlk),e'≠0->ok64 e'->ok64 ln'->RdP H I rb ty tk (NodeQ tk 0 16 8 p e) (.ok (.agg [.int .i64 11,.str ⟨#[]⟩,.int .i64 0,v,.int .i64 line])) ⟨H.set rb (.cells ty (RQ tk ((p1:Int)+1) e' ln'))++Y,I'⟩:=fun e' ln' Y h1 h2 h3=>
    RdP.mkI (p1+1) hI (by simp) ⟨.mk 11 ⟨#[]⟩ 0 l line,by simp[fI],⟨by simp[ok64],by simp[ok64],htl,hl⟩,g1.trans ⟨by omega,hlt,h2,h3,fun _=>h1⟩,fun h=>absurd h h1,by simp only[T.wt,sz0];omega⟩
  by_cases hg1:(tkd=1/\(ts=⟨#[103,101,116]⟩\/ts=⟨#[115,101,116]⟩))/\b2=true
  ·obtain⟨⟨rfl,hg⟩,rfl⟩:=hg1;have err:∀(Y:List ABlk) {P:Rt AV×St->Prop},(∀e' ln',e'≠0->ok64 e'->ok64 ln'->P (.ok (.tup []),⟨H.set rb (.cells ty (RQ tk ((p1:Int)+1) e' ln'))++Y,I'⟩))->obP (doCall (aCall prog k) E .full (.fn 107) [.ptr rb 0,.int .i64 46] ⟨H.set rb (.cells ty (RQ tk ((p1:Int)+1) 0 ln1))++Y,I'⟩) P:=fun Y P hP2=>by have:=(f107 0 ln1 46 an.n an.ok an.p an.ln k (by omega)).call (ty:=ty) (P:=P) hE' hr hb Y (args':=[.int .i64 46]) rfl (failQ.ref rfl) (by rintro _ _ e' ln' ⟨rfl,rfl,q1,q2⟩;simp only[if_true]at q1;exact hP2 e' ln' (by omega) (by rw[q1];simp[ok64]) q2);simpa using this
   rcases hg with rfl|rfl<;>
   ·simp[hs,e0,e2,e3,z5,o1,rg hb,rs hb,gt1,g,gx,hk1,hk2,m0,m1,Xbm hr,hw];refine err _ fun e' ln' q1 q2 q3=>?_;simp[hs,e2,e3,m0,o1];exact fin0 e' ln' _ q1 q2 q3
  have hcase:((tkd=1)=True/\(tkd=3)=False/\(ts=⟨#[103,101,116]⟩)=True/\(tkd=3)=False/\b2=false)\/((tkd=1)=True/\(tkd=3)=False/\(ts=⟨#[103,101,116]⟩)=False/\(ts=⟨#[115,101,116]⟩)=True/\b2=false)\/((tkd=1)=True/\(tkd=3)=False/\(ts=⟨#[103,101,116]⟩)=False/\(ts=⟨#[115,101,116]⟩)=False/\True)\/((tkd=1)=False/\(tkd=3)=False/\True/\True/\True)\/tkd=3:=by
    by_cases k1:tkd=1
    ·have k3:(tkd=3)=False:=eq_false (by omega);by_cases kb:b2=true
     ·have kg:¬ts=⟨#[103,101,116]⟩:=fun h=>hg1 ⟨⟨k1,.inl h⟩,kb⟩;have ks:¬ts=⟨#[115,101,116]⟩:=fun h=>hg1 ⟨⟨k1,.inr h⟩,kb⟩;exact .inr (.inr (.inl ⟨eq_true k1,k3,eq_false kg,eq_false ks,trivial⟩))
     ·have kb:b2=false:=by simpa using kb
      by_cases kg:ts=⟨#[103,101,116]⟩
      ·exact .inl ⟨eq_true k1,k3,eq_true kg,k3,kb⟩
      ·by_cases ks:ts=⟨#[115,101,116]⟩
       ·exact .inr (.inl ⟨eq_true k1,k3,eq_false kg,eq_true ks,kb⟩)
       ·exact .inr (.inr (.inl ⟨eq_true k1,k3,eq_false kg,eq_false ks,trivial⟩))
    ·by_cases k3:tkd=3
     ·exact .inr (.inr (.inr (.inr k3)))
     ·exact .inr (.inr (.inr (.inl ⟨eq_false k1,eq_false k3,trivial,trivial,trivial⟩)))
  have mst:∀(Y:List ABlk) {P:Rt AV×St->Prop},(∀p' e' ln',Go1 tk (p1+1) 0 p' e' ln'->At tk p' e' ln'->pt tk p1+32+ts.size<=pt tk p'->(e'=0->pt tk p1+64+ts.size<=pt tk p')->P (.ok (.tup []),⟨H.set rb (.cells ty (RQ tk (p':Nat) e' ln'))++Y,I'⟩))->
      obP (doCall (aCall prog k) E .full (.fn 163) [.ptr rb 0,.str ⟨#[58]⟩] ⟨H.set rb (.cells ty (RQ tk ((p1:Int)+1) 0 ln1))++Y,I'⟩) P:=fun Y P hP2=>by
    have:=Xbe (ty:=ty) (P:=P) (k:=k) an ⟨#[58]⟩ (by omega) hE' hr hb Y (fun p' e' ln' g2 a2 q1 q2 q3=>hP2 p' e' ln' g2 a2 (by omega) (fun h=>by have:=(q1 h).2.2;omega));simpa using this
  have app:∀(nm:ByteArray) (x:T),∃v' I2,(∀Hx,appA E ⟨Hx,I'++ [(1,5),(1,5)]⟩ 5 64 v (.sl (some (I'.length+1)) 1 [.int .i64 12,.str nm,.int .i64 0,.sl none 1 x.enc,.int .i64 tl])=some (v',⟨Hx,I2⟩))/\AccG I.length I2 5 (l++ [T.mk 12 nm 0 [x] tl]).length (T.encL (l++ [.mk 12 nm 0 [x] tl])) v'/\I<+:I2:=fun nm x=>by have hll:=T.len_wtL l;have hp1:=ha.pt p1;obtain⟨op,ss,nn,l2,line2⟩:=x;obtain⟨v',I2,ha1,ha2,ha3⟩:=(hacc.push [(1,5),(1,5)]).appU (E:=E) (bytes:=64) (k:=1) (y:=.sl (some (I'.length+1)) 1 [.int .i64 12,.str nm,.int .i64 0,.sl none 1 (T.mk op ss nn l2 line2).enc,.int .i64 tl]) (ys:=T.encL [.mk 12 nm 0 [.mk op ss nn l2 line2] tl]) hE.rom rfl (hI.trans (List.prefix_append _ _)) (by omega) (by omega) (by simp[srcA,T.encL]) rfl;exact⟨v',I2,ha1,by rw[T.encL_append,List.length_append];exact ha2,ha3⟩
  have pair:∀(nm:ByteArray),nm.size<=19+ts.size->∀(p3:Nat) (e3 ln3:Int) (x:T) (v':AV) (I2:List (Nat×Nat)),x.ok1->AccG I.length I2 5 (l++ [T.mk 12 nm 0 [x] tl]).length (T.encL (l++ [.mk 12 nm 0 [x] tl])) v'->I<+:I2->Go1 tk p e p3 e3 ln3->(e3=0->x.wt+60+ts.size+pt tk p1<=pt tk p3)->x.wt+pt tk p1+ts.size+20<=pt tk p3->p1<p3->
      T.okL1 (l++ [.mk 12 nm 0 [x] tl])/\(e3=0->T.wtL (l++ [.mk 12 nm 0 [x] tl])+24+pt tk p<=pt tk p3)/\T.wtL (l++ [.mk 12 nm 0 [x] tl])+pt tk p<=pt tk p3:=fun nm hnm p3 e3 ln3 x v' I2 hx h1 h2 h3 h4 h5 h6=>by
    refine⟨T.okL1_app hl ⟨⟨by simp[ok64],by simp[ok64],htl2,hx,trivial⟩,trivial⟩,fun h=>?_,?_⟩
    ·have:=h4 h;rw[T.wtL_app];simp only[T.wtL,T.wt];omega
    ·rw[T.wtL_app];simp only[T.wtL,T.wt];omega
  rcases hcase with⟨k1,k3,kg,ks,kb⟩|⟨k1,k3,kg,ks,kb⟩|⟨k1,k3,kg,ks,kb⟩|⟨k1,k3,kg,ks,kb⟩|rfl;rotate_left 4
  ·simp[hs,e0,e2,e3,z5,o1,rg hb,rs hb,gt1,g,gx,hk1,hk2,m0,m1,Xbm hr,hw];refine(f190 18 tn htn2 (by unfold ok64 at htn2;omega) (by omega) k (by omega)).call (by rintro _ ⟨s,rfl,_⟩;rfl) (hE'.of (by simp) (Nat.le_refl _)) rfl ?_;rintro _ ⟨S,rfl,hS⟩;simp[hs,e0,m1];refine mst _ fun p2 e2' ln2 g2 a2 q1 q2=>?_;simp[hs,e0];refine(hP.expr a2 (Xbj (by have:=g1.1;have:=g2.1;omega) a2.p (by omega) hk)).call hE' hr hb _ rfl NodeQ.ref ?_;rintro _ p3 e3' ln3 ⟨⟨op,ss,nn,l2,line2⟩,rfl,ht,g3,hw3,hw4⟩;have a3:=a2.to g3;have g13:=g1.trans (gn.trans (g2.trans g3));obtain⟨v',I2,happ,hacc2,hI2⟩:=app S (.mk op ss nn l2 line2);have hE2:E.Wf ⟨H,I2⟩:=hE.of (Nat.le_refl _) hI2.length_le;have o2:=hacc2.one;have c2:=hacc2.cells;have f2:=hacc2.fin
   have e23:e3'=0->e2'=0:=fun h=>by
     rcases Decidable.em (e2'=0)with h'|h'
     ·exact h'
     ·exact absurd h (g3.2.2.2.2 h')
   obtain⟨w1,w2,w3⟩:=pair S (by omega) p3 e3' ln3 (.mk op ss nn l2 line2) v' I2 ht hacc2 hI2 g13 (fun h=>by have:=hw3 h;have:=q2 (e23 h);omega) (by omega) (by have:=g2.1;have:=g3.1;omega);have gt2:=Xcc (e:=e3') (ln:=ln3) (ty:=ty) ⟨#[44]⟩ a3.n a3.p (k:=k) (by omega) hE2 hr hb;simp only[T.enc]at happ;rcases takeF tk p3 e3' ⟨#[44]⟩with⟨hB3,hT3,hlt3,rfl,hpt3⟩|⟨hB3,hT3⟩
   ·rw[hB3,hT3]at gt2;simp[hs,e0,e2,e3,m0,m1,o1,o2,c2,wr53,happ,gt2];exact⟨_,by have:=g2.1;have:=g3.1;omega,p3+1,0,ln3,_,v',_,I2,rfl,by simp[hs],rfl,by simp[hs,e0],by simp[hs,e2],by simp[hs,e3],by simp[z5];rfl,hI2,hacc2,w1,g13.trans (.next a3 hlt3),fun _=>by have:=w2 rfl;omega,by omega⟩
   ·rw[hB3,hT3]at gt2;simp[hs,e0,e2,e3,m0,m1,o1,o2,c2,wr53,happ,gt2];refine Xbe a3 _ (by omega) hE2 hr hb _ fun p4 e4 ln4 g4 a4 q4 q5 q6=>?_;simp[hs,e2,e3,m0,o2];exact RdP.mkI p4 hI2 rfl ⟨.mk 11 ⟨#[]⟩ 0 (l++ [.mk 12 S 0 [.mk op ss nn l2 line2] tl]) line,by simp[f2],⟨by simp[ok64],by simp[ok64],htl,w1⟩,g13.trans g4,fun h=>by have:=w2 (q4 h).1;simp only[T.wt,sz0];omega,by simp only[T.wt,sz0];omega⟩
  all_goals
    simp[hs,e0,e2,e3,z5,o1,rg hb,rs hb,gt1,g,gx,hk1,hk2,m0,m1,Xbm hr,hw,k1,k3,kg,ks,kb];refine mst _ fun p2 e2' ln2 g2 a2 q1 q2=>?_;simp[hs,e0];refine(hP.expr a2 (Xbj (by have:=g1.1;have:=g2.1;omega) a2.p (by omega) hk)).call hE' hr hb _ rfl NodeQ.ref ?_;rintro _ p3 e3' ln3 ⟨⟨op,ss,nn,l2,line2⟩,rfl,ht,g3,hw3,hw4⟩;have a3:=a2.to g3;have g13:=g1.trans (gn.trans (g2.trans g3));obtain⟨v',I2,happ,hacc2,hI2⟩:=app ts (.mk op ss nn l2 line2);have hE2:E.Wf ⟨H,I2⟩:=hE.of (Nat.le_refl _) hI2.length_le;have o2:=hacc2.one;have c2:=hacc2.cells;have f2:=hacc2.fin
    have e23:e3'=0->e2'=0:=fun h=>by
      rcases Decidable.em (e2'=0)with h'|h'
      ·exact h'
      ·exact absurd h (g3.2.2.2.2 h')
    obtain⟨w1,w2,w3⟩:=pair ts (by omega) p3 e3' ln3 (.mk op ss nn l2 line2) v' I2 ht hacc2 hI2 g13 (fun h=>by have:=hw3 h;have:=q2 (e23 h);omega) (by omega) (by have:=g2.1;have:=g3.1;omega);have gt2:=Xcc (e:=e3') (ln:=ln3) (ty:=ty) ⟨#[44]⟩ a3.n a3.p (k:=k) (by omega) hE2 hr hb;simp only[T.enc]at happ;rcases takeF tk p3 e3' ⟨#[44]⟩with⟨hB3,hT3,hlt3,rfl,hpt3⟩|⟨hB3,hT3⟩
    ·rw[hB3,hT3]at gt2;simp[hs,e0,e2,e3,m0,m1,o1,o2,c2,wr53,happ,gt2];exact⟨_,by have:=g2.1;have:=g3.1;omega,p3+1,0,ln3,_,v',_,I2,rfl,by simp[hs],rfl,by simp[hs,e0],by simp[hs,e2],by simp[hs,e3],by simp[z5];rfl,hI2,hacc2,w1,g13.trans (.next a3 hlt3),fun _=>by have:=w2 rfl;omega,by omega⟩
    ·rw[hB3,hT3]at gt2;simp[hs,e0,e2,e3,m0,m1,o1,o2,c2,wr53,happ,gt2];refine Xbe a3 _ (by omega) hE2 hr hb _ fun p4 e4 ln4 g4 a4 q4 q5 q6=>?_;simp[hs,e2,e3,m0,o2];exact RdP.mkI p4 hI2 rfl ⟨.mk 11 ⟨#[]⟩ 0 (l++ [.mk 12 ts 0 [.mk op ss nn l2 line2] tl]) line,by simp[f2],⟨by simp[ok64],by simp[ok64],htl,w1⟩,g13.trans g4,fun h=>by have:=w2 (q4 h).1;simp only[T.wt,sz0];omega,by simp only[T.wt,sz0];omega⟩
theorem Go1.e0{tk p e p' e' ln'}(g:Go1 tk p e p' e' ln')(h:e'=0):e=0:=by
 rcases Decidable.em (e=0)with h'|h'
 ·exact h'
 ·exact absurd h (g.2.2.2.2 h')
theorem AccG.add{E:Env}{I I':List (Nat×Nat)}{l:List T}{v:AV}(h:AccG I.length I' 5 l.length (T.encL l) v)(hr:E.rom<=I.length)(hI:I<+:I')(hl:l.length<=900000000)(x:T):
  ∃v' I2,(∀Hx,appA E ⟨Hx,I'++ [(1,5)]⟩ 5 64 v (.sl (some I'.length) 1 x.enc)=some (v',⟨Hx,I2⟩))/\AccG I.length I2 5 (l++ [x]).length (T.encL (l++ [x])) v'/\I<+:I2:=by
 obtain⟨op,ss,nn,l2,line2⟩:=x;obtain⟨v',I2,ha1,ha2,ha3⟩:=(h.push [(1,5)]).appU (E:=E) (bytes:=64) (k:=1) (y:=.sl (some I'.length) 1 (T.mk op ss nn l2 line2).enc) (ys:=T.encL [.mk op ss nn l2 line2]) hr rfl (hI.trans (List.prefix_append _ _)) (by omega) (by omega) (by simp[srcA,T.encL]) rfl;exact⟨v',I2,ha1,by rw[T.encL_append,List.length_append];exact ha2,ha3⟩
def J167(H:List ABlk)(I:List (Nat×Nat))(rb ty:Nat)(tk:List Tk)(p:Nat)(e ln:Int)(n:Nat)(s:List AV)(m:List Nat)(st:St):Prop:=
 ∃(p1:Nat) (e1 ln1:Int) (l:List T) (v:AV) (I':List (Nat×Nat)) (more:Bool),n=mu tk p1 e1+(if more then 1 else 0)/\s.length=40/\m=[]/\lk s 0=.ptr rb 0/\lk s 3=v/\lk s 5=.bool more/\
  st=⟨H.set rb (.cells ty (RQ tk p1 e1 ln1)),I'⟩/\I<+:I'/\AccG I.length I' 5 l.length (T.encL l) v/\T.okL1 l/\Go1 tk p e p1 e1 ln1/\(e1=0->T.wtL l+pt tk p<=pt tk p1)/\T.wtL l+pt tk p<=pt tk p1+1
theorem Xxe{tk:List Tk}{k:Nat}(hP:Par tk k){p:Nat}{e ln:Int}(ha:At tk p e ln)(hk:fu tk p e 45<=k+1):RdC (k+1) 167 [] tk p e ln (ListQ tk 10 p e):=by
  intro E H I rb ty hE hr hb;refine Xai rfl rfl (by decide) fun s hs e0=>?_;have hkk:=fu_k hk;have hn:=ha.n;simp[hs,e0];refine Xdo ha _ (by omega) hE hr hb fun p1 e1 ln1 g1 a1 q1 q2 q3=>?_;have gi:=Xlz (e:=e1) (ln:=ln1) (ty:=ty) ⟨#[41]⟩ a1.n a1.p (k:=k) (by omega) hE hr hb;have hmu:mu tk p1 e1<=mu tk p e:=Xyl g1.1 g1.2.2.2.2;have hmu2:mu tk p e<=2*tk.length+1:=by unfold mu;split<;>omega
  simp[hs,e0,gi];refine Xau (J167 H I rb ty tk p e ln) (mu tk p1 e1+if !isB tk p1 e1 ⟨#[41]⟩then 1 else 0) (by unfold fu at hk;split<;>omega) ⟨p1,e1,ln1,[],.nils,I,!isB tk p1 e1 ⟨#[41]⟩,rfl,by simp[hs],rfl,by simp[hs,e0],by simp[hs],by simp[hs],rfl,List.prefix_rfl,.inl ⟨rfl,rfl,rfl⟩,trivial,g1,fun _=>by simp only[T.wtL];omega,by simp only[T.wtL];omega⟩ ?_;clear hs e0 s q1 q2 q3 a1 g1 hmu gi;rintro _ s m _ ⟨p1,e1,ln1,l,v,I',more,rfl,hs,rfl,e0,e3,e5,rfl,hI,hacc,hl,g1,hw1,hw2⟩;have hE':E.Wf ⟨H,I'⟩:=hE.of (Nat.le_refl _) hI.length_le;have a1:=ha.to g1;have mm:=Xcd (tk:=tk) g1.1;have hll:=T.len_wtL l;have hp1:=ha.pt p1;by_cases hc:e1=0/\more=true;rotate_left
  ·have hout:(e1=0/\more=false)\/e1≠0:=by
      by_cases h:e1=0
      ·refine .inl ⟨h,?_⟩;cases more
       ·rfl
       ·exact absurd ⟨h,rfl⟩ hc
      ·exact .inr h
   have fin:∀p2 e2 ln2,Go1 tk p1 e1 p2 e2 ln2->pt tk p1<=pt tk p2->∀p3 e3 ln3 (x:T) (v':AV) (I2:List (Nat×Nat)),I<+:I2->AccG I.length I2 5 (l++ [x]).length (T.encL (l++ [x])) v'->x.ok1->Go1 tk p2 e2 p3 e3 ln3->(e3=0->x.wt+12+pt tk p2<=pt tk p3)->x.wt+pt tk p2<=pt tk p3+8->
       RdP H I rb ty tk (ListQ tk 10 p e) (.ok v') ⟨H.set rb (.cells ty (RQ tk p3 e3 ln3)),I2⟩:=fun p2 e2 ln2 g2 hpp p3 e3 ln3 x v' I2 h1 h2 h3 h4 h5 h6=>by
     refine RdP.mkJ p3 h1 rfl ⟨l++ [x],h2.fin,T.okL1_app hl ⟨h3,trivial⟩,g1.trans (g2.trans h4),fun h=>?_,?_⟩
     ·have:=h5 h;have:=hw1 (g2.e0 (h4.e0 h));rw[T.wtL_app];simp only[T.wtL];omega
     ·rw[T.wtL_app];simp only[T.wtL];omega
   rcases hout with⟨rfl,rfl⟩|hz
   ·simp[hs,e0,e3,e5,rg0 hb];refine Xdo a1 _ (by omega) hE' hr hb fun p2 e2 ln2 g2 a2 q1 q2 q3=>?_;simp[hs,e0,e3];refine(hP.block a2 (Xd0 (Nat.le_trans g1.1 g2.1) (fun h=>g2.2.2.2.2 (g1.2.2.2.2 h)) (by omega) hk)).call0 hE' hr hb rfl NodeQ.ref ?_;rintro _ p3 e3' ln3 ⟨⟨op,ss,nn,l2,line⟩,rfl,ht,g3,hw3,hw4⟩;obtain⟨v',I2,happ,hacc2,hI2⟩:=hacc.add hE.rom hI (by omega) (.mk op ss nn l2 line);simp only[T.enc]at happ;simp[hs,e3,happ];exact fin p2 e2 ln2 g2 q3 p3 e3' ln3 _ v' I2 hI2 hacc2 ht g3 (fun h=>by have:=hw3 h;omega) hw4
   ·simp[hs,e0,e3,e5,rg0 hb,hz];refine Xdo a1 _ (by omega) hE' hr hb fun p2 e2 ln2 g2 a2 q1 q2 q3=>?_;simp[hs,e0,e3];refine(hP.block a2 (Xd0 (Nat.le_trans g1.1 g2.1) (fun h=>g2.2.2.2.2 (g1.2.2.2.2 h)) (by omega) hk)).call0 hE' hr hb rfl NodeQ.ref ?_;rintro _ p3 e3' ln3 ⟨⟨op,ss,nn,l2,line⟩,rfl,ht,g3,hw3,hw4⟩;obtain⟨v',I2,happ,hacc2,hI2⟩:=hacc.add hE.rom hI (by omega) (.mk op ss nn l2 line);simp only[T.enc]at happ;simp[hs,e3,happ];exact fin p2 e2 ln2 g2 q3 p3 e3' ln3 _ v' I2 hI2 hacc2 ht g3 (fun h=>by have:=hw3 h;omega) hw4
  obtain⟨rfl,rfl⟩:=hc;have hw1:=hw1 rfl;have g:=Xg4 (e:=0) (ln:=ln1) (ty:=ty) a1.n a1.p (k:=k) (by omega) hE' hr hb;have htl:=Xdd ha.ok p1;obtain⟨line,hline⟩:∃x,(tkAt tk p1).line=x:=⟨_,rfl⟩;rw[hline]at htl;simp only[Tk.enc,hline]at g;simp[hs,e0,e3,e5,rg0 hb,g];refine(f164 0 ln1 a1.n a1.ok a1.p a1.e a1.ln k (by omega)).call0 hE' hr hb rfl nameQ.ref ?_;rintro w p2 e2 ln2 ⟨he1,hl1,hcase⟩
  obtain⟨S,hS,g2,hS1,hS2,hS3⟩:∃S:ByteArray,w=AV.str S/\Go1 tk p1 0 p2 e2 ln2/\(e2=0->p1<p2/\S.size+32+pt tk p1<=pt tk p2)/\(e2≠0->S.size=0)/\pt tk p1<=pt tk p2:=by
    rcases hcase with⟨h1,_,h2,rfl,rfl⟩|⟨h1,rfl,rfl⟩
    ·exact⟨(tkAt tk p1).s,rfl,⟨by omega,h2,he1,hl1,fun h=>absurd rfl h⟩,fun _=>⟨by omega,by rw[Xb6 h2];omega⟩,fun h=>absurd h1 h,by rw[Xb6 h2];omega⟩
    ·exact⟨⟨#[]⟩,rfl,⟨by omega,a1.p,he1,hl1,fun _=>h1⟩,fun h=>absurd h h1,fun _=>sz0,Nat.le_refl _⟩
  subst hS;have a2:=a1.to g2;obtain⟨v',I2,happ,hacc2,hI2⟩:=hacc.add hE.rom hI (by omega) (.mk 1 S 0 [] line);simp only[T.enc,T.encL,List.length_nil]at happ;have hE2:E.Wf ⟨H,I2⟩:=hE.of (Nat.le_refl _) hI2.length_le;have gt:=Xgq (e:=e2) (ln:=ln2) (ty:=ty) ⟨#[44]⟩ a2.n a2.p (k:=k) (by omega) hE2 hr hb;have gT:=Xlm a2 ⟨#[44]⟩;have hpt:pt tk p2<=pt tk (takeN tk p2 e2 ⟨#[44]⟩):=Xcd gT.1;simp[hs,e0,e3,happ,gt];refine⟨_,?_,takeN tk p2 e2 ⟨#[44]⟩,e2,ln2,l++ [.mk 1 S 0 [] line],v',I2,isB tk p2 e2 ⟨#[44]⟩,rfl,by simp[hs],rfl,by simp[hs,e0],by simp[hs],by simp[hs],rfl,hI2,hacc2,T.okL1_app hl (show T.okL1 [T.mk 1 S 0 [] line]from⟨⟨by simp[ok64],by simp[ok64],htl,trivial⟩,trivial⟩),g1.trans (g2.trans gT),fun h=>?_,?_⟩
  ·have hmu2:mu tk (takeN tk p2 e2 ⟨#[44]⟩) e2+1<=mu tk p1 0:=by
      by_cases h:e2=0
      ·exact Xj5 (by have:=gT.1;have:=(hS1 h).1;omega) gT.2.1
      ·exact Xlu (by have:=g2.1;have:=gT.1;omega) h
   simp only[if_true];split<;>omega
  ·have:=(hS1 h).2;rw[T.wtL_app];simp only[T.wtL,T.wt];omega
  ·rw[T.wtL_app];simp only[T.wtL,T.wt];by_cases h:e2=0
   ·have:=(hS1 h).2;omega
   ·have:=hS2 h;omega
theorem Xwm{tk:List Tk}{p:Nat}{e ln:Int}(he:e≠0)(ha:At tk p e ln)(k:Nat)(hk:5<=k):RdC k 73 [] tk p e ln (isQ (.sl none 0 []) p e ln):=by intro E H I rb ty hE hr hb;obtain⟨k,rfl⟩:=uK (k:=k) (by omega);refine Xai rfl rfl (by decide) fun s hs e0=>?_;simp[hs,e0];refine Xau (fun n s m st=>s.length=29/\m=[]/\lk s 0=.ptr rb 0/\lk s 3=.nils/\st=⟨H.set rb (.cells ty (RQ tk p e ln)),I⟩) 0 (by omega) ⟨by simp[hs],rfl,by simp[hs,e0],by simp[hs],rfl⟩ ?_;rintro _ s m _ ⟨hs,rfl,e0,e3,rfl⟩;simp[hs,e0,e3,rg0 hb,he];exact RdP.mk0 p rfl ⟨by simp,rfl,rfl,rfl⟩
theorem Xtt{tk:List Tk}{k:Nat}(hP:Par tk k){p:Nat}{e ln:Int}(ha:At tk p e ln)(hk:fu tk p e 30<=k+1):RdC (k+1) 145 [] tk p e ln (NodeQ tk 0 12 8 p e):=by
 intro E H I rb ty hE hr hb;refine Xai rfl rfl (by decide) fun s hs e0=>?_;have hkk:=fu_k hk;have m0:=Xbi hE;have m1:=Xcg hE;have g:=Xdi (e:=e) (ln:=ln) (ty:=ty) ha.n ha.p (k:=k) (by omega) hE hr hb;have htl:=Xdd ha.ok p;obtain⟨line,hline⟩:∃x,(tkAt tk p).line=x:=⟨_,rfl⟩;rw[hline]at htl;simp only[Tk.enc,hline]at g;simp[hs,e0,g,m1];refine Xbe ha _ (by omega) hE hr hb _ fun p1 e1 ln1 g1 a1 q1 q2 q3=>?_;simp[hs,e0];by_cases hz:e1=0
 ·refine(hP.stmts a1 (by rw[if_pos hz];exact Xbj (q1 hz).2.1 a1.p (by omega) hk)).call hE hr hb _ rfl ListQ.ref ?_;rintro _ p2 e2 ln2 ⟨l,rfl,hl,g2,hw1,hw2⟩;have:=(q1 hz).2.2;simp[hs,e0,m1];refine Xbe (a1.to g2) _ (by omega) hE hr hb _ fun p3 e3 ln3 g3 a3 q4 q5 q6=>?_;simp[hs,m0];exact RdP.mkX p3 rfl ⟨.mk 32 ⟨#[]⟩ 0 l line,by simp,⟨by simp[ok64],by simp[ok64],htl,hl⟩,g1.trans (g2.trans g3),fun h=>by have:=hw1 (q4 h).1;simp only[T.wt,sz0];omega,by simp only[T.wt,sz0];omega⟩
 ·refine(Xwm hz a1 k (by omega)).call hE hr hb _ rfl (by rintro _ _ _ _ ⟨rfl,_⟩;rfl) ?_;rintro _ p2 e2 ln2 ⟨rfl,rfl,rfl,rfl⟩;simp[hs,e0,m1];refine Xbe a1 _ (by omega) hE hr hb _ fun p3 e3 ln3 g3 a3 q4 q5 q6=>?_;simp[hs,m0];exact RdP.mkX p3 rfl ⟨.mk 32 ⟨#[]⟩ 0 [] line,by simp,⟨by simp[ok64],by simp[ok64],htl,trivial⟩,g1.trans g3,fun h=>absurd (q4 h).1 hz,by simp only[T.wt,T.wtL,sz0];omega⟩
def J73(H:List ABlk)(I:List (Nat×Nat))(rb ty:Nat)(tk:List Tk)(p:Nat)(e ln:Int)(n:Nat)(s:List AV)(m:List Nat)(st:St):Prop:=
 ∃(p1:Nat) (e1 ln1:Int) (l:List T) (v:AV) (I':List (Nat×Nat)),n=mu tk p1 e1/\s.length=29/\m=[]/\lk s 0=.ptr rb 0/\lk s 3=v/\
  st=⟨H.set rb (.cells ty (RQ tk p1 e1 ln1)),I'⟩/\I<+:I'/\AccG I.length I' 5 l.length (T.encL l) v/\T.okL1 l/\Go1 tk p e p1 e1 ln1/\(e1=0->T.wtL l+pt tk p<=pt tk p1)/\T.wtL l+pt tk p<=pt tk p1+9
theorem Xtq{tk:List Tk}{k:Nat}(hP:Par tk k){p:Nat}{e ln:Int}(ha:At tk p e ln)(hk:fu tk p e (if e=0 then 40 else 5)<=k+1):RdC (k+1) 73 [] tk p e ln (ListQ tk 9 p e):=by
  intro E H I rb ty hE hr hb;refine Xai rfl rfl (by decide) fun s hs e0=>?_;have hkk:=fu_k hk;have hn:=ha.n;have hmu2:mu tk p e<=2*tk.length+1:=by unfold mu;split<;>omega
  simp[hs,e0];refine Xau (J73 H I rb ty tk p e ln) (mu tk p e) (by unfold fu at hk;omega) ⟨p,e,ln,[],.nils,I,rfl,by simp[hs],rfl,by simp[hs,e0],by simp[hs],rfl,List.prefix_rfl,.inl ⟨rfl,rfl,rfl⟩,trivial,.refl ha,fun _=>by simp only[T.wtL];omega,by simp only[T.wtL];omega⟩ ?_;clear hs e0 s;rintro _ s m _ ⟨p1,e1,ln1,l,v,I',rfl,hs,rfl,e0,e3,rfl,hI,hacc,hl,g1,hw1,hw2⟩;have hE':E.Wf ⟨H,I'⟩:=hE.of (Nat.le_refl _) hI.length_le;have a1:=ha.to g1;have mm:=Xcd (tk:=tk) g1.1;have hll:=T.len_wtL l;have hp1:=ha.pt p1;have fin:RdP H I rb ty tk (ListQ tk 9 p e) (.ok v) ⟨H.set rb (.cells ty (RQ tk p1 e1 ln1)),I'⟩:=RdP.mkJ p1 hI rfl ⟨l,hacc.fin,hl,g1,hw1,hw2⟩;by_cases hz:e1=0;rotate_left
  ·simp[hs,e0,e3,rg0 hb,hz,fin]
  subst hz;have hw1:=hw1 rfl;have he:e=0:=g1.e0 rfl;subst he;rw[if_pos rfl]at hk;have g:=Xg4 (e:=0) (ln:=ln1) (ty:=ty) a1.n a1.p (k:=k) (by omega) hE' hr hb;simp only[Tk.enc]at g;by_cases hkd:(tkAt tk p1).kind=0
  ·simp[hs,e0,e3,rg0 hb,g,hkd,fin]
  have gi:=Xlz (e:=0) (ln:=ln1) (ty:=ty) ⟨#[125]⟩ a1.n a1.p (k:=k) (by omega) hE' hr hb;cases hB:isB tk p1 0 ⟨#[125]⟩;rotate_left
  ·rw[hB]at gi;simp[hs,e0,e3,rg0 hb,g,hkd,gi,fin,Xa1]
  rw[hB]at gi;have gt:=Xgq (e:=0) (ln:=ln1) (ty:=ty) ⟨#[59]⟩ a1.n a1.p (k:=k) (by omega) hE' hr hb;rcases takeF tk p1 0 ⟨#[59]⟩with⟨hB2,hT2,hlt, -,hpt⟩|⟨hB2,hT2⟩
  ·rw[hB2,hT2]at gt;simp[hs,e0,e3,rg0 hb,g,hkd,gi,gt,Xa1];exact⟨_,by have:=Xj5 (tk:=tk) (e:=0) (f:=0) (p:=p1) (q:=p1+1) (by omega) hlt;omega,p1+1,0,ln1,l,v,I',rfl,by simp[hs],rfl,by simp[hs,e0],by simp[hs,e3],by simp,hI,hacc,hl,g1.trans (.next a1 hlt),fun _=>by omega,by omega⟩
  rw[hB2,hT2]at gt;simp[hs,e0,e3,rg0 hb,g,hkd,gi,gt];refine(hP.stmt a1 (Xd0 g1.1 g1.2.2.2.2 (by omega) hk)).call0 hE' hr hb rfl NodeQ.ref ?_;rintro _ p2 e2 ln2 ⟨⟨op,ss,nn,l2,line⟩,rfl,ht,g2,hw3,hw4⟩;obtain⟨v',I2,happ,hacc2,hI2⟩:=hacc.add hE.rom hI (by omega) (.mk op ss nn l2 line);simp only[T.enc]at happ;simp[hs,e0,e3,happ];refine⟨_,?_,p2,e2,ln2,l++ [.mk op ss nn l2 line],v',I2,rfl,by simp[hs],rfl,by simp[hs,e0],by simp[hs],rfl,hI2,hacc2,T.okL1_app hl ⟨ht,trivial⟩,g1.trans g2,fun h=>?_,?_⟩
  ·have:mu tk p2 e2+1<=mu tk p1 0:=by
      by_cases h:e2=0
      ·have:=hw3 h;exact Xj5 (Xw6 (tk:=tk) (by simp only[T.wt]at this;omega)) g2.2.1
      ·exact Xlu g2.1 h
   omega
  ·have:=hw3 h;rw[T.wtL_app];simp only[T.wtL];omega
  ·rw[T.wtL_app];simp only[T.wtL];omega
theorem Xq6{tk:List Tk}{k:Nat}(hP:Par tk k){p:Nat}{e ln:Int}(ha:At tk p e ln)(hk:fu tk p e 41<=k+1):RdC (k+1) 166 [] tk p e ln (NodeQ tk 0 8 10 p e):=by
 intro E H I rb ty hE hr hb;refine Xai rfl rfl (by decide) fun s hs e0=>?_;have hkk:=fu_k hk;have m0:=Xbi hE;have m1:=Xcg hE;have g:=Xdi (e:=e) (ln:=ln) (ty:=ty) ha.n ha.p (k:=k) (by omega) hE hr hb;have htl:=Xdd ha.ok p;obtain⟨line,hline⟩:∃x,(tkAt tk p).line=x:=⟨_,rfl⟩;rw[hline]at htl;simp only[Tk.enc,hline]at g;have gi:=Xyx (e:=e) (ln:=ln) (ty:=ty) ⟨#[123]⟩ ha.n ha.p (k:=k) (by omega) hE hr hb;cases hB:isB tk p e ⟨#[123]⟩;rotate_left
 ·rw[hB]at gi;simp[hs,e0,g,gi,m1];refine(hP.block ha (Xd0 (Nat.le_refl _) id (by omega) hk)).call hE hr hb _ rfl NodeQ.ref ?_;rintro _ p2 e2 ln2 ⟨⟨op,ss,nn,l2,line⟩,rfl,ht,g2,hw3,hw4⟩;simp[hs,e0,m0];exact RdP.mkX p2 rfl ⟨.mk op ss nn l2 line,by simp,ht,g2,fun h=>by have:=hw3 h;omega,by omega⟩
 rw[hB]at gi;have gt:=Xcc (e:=e) (ln:=ln) (ty:=ty) ⟨#[59]⟩ ha.n ha.p (k:=k) (by omega) hE hr hb;rcases takeF tk p e ⟨#[59]⟩with⟨hB2,hT2,hlt,rfl,hpt⟩|⟨hB2,hT2⟩
 ·rw[hB2,hT2]at gt;simp[hs,e0,g,gi,gt,m0,m1];exact RdP.mkX (p+1) (by simp) ⟨.mk 32 ⟨#[]⟩ 0 [] line,by simp,⟨by simp[ok64],by simp[ok64],htl,trivial⟩,.next ha hlt,fun _=>by simp only[T.wt,T.wtL,sz0];omega,by simp only[T.wt,T.wtL,sz0];omega⟩
 rw[hB2,hT2]at gt
 have go:∀(Y:List ABlk) {P:Rt AV×St->Prop},(∀(t:T) p' e' ln',t.ok1->Go1 tk p e p' e' ln'->(e'=0->t.wt+12+pt tk p<=pt tk p')->t.wt+pt tk p<=pt tk p'+9->P (.ok (.agg t.enc),⟨H.set rb (.cells ty (RQ tk (p':Nat) e' ln'))++Y,I⟩))->obP (doCall (aCall prog k) E .full (.fn 106) [.ptr rb 0] ⟨H.set rb (.cells ty (RQ tk p e ln))++Y,I⟩) P:=fun Y P hP2=>
  (hP.stmt ha (Xd0 (Nat.le_refl _) id (by omega) hk)).call hE hr hb _ rfl NodeQ.ref (by
   rintro _ p2 e2 ln2 ⟨t,rfl,ht,g2,hw3,hw4⟩;exact hP2 t p2 e2 ln2 ht g2 (fun h=>by have:=hw3 h;omega) hw4)
 by_cases hz:e=0/\(tkAt tk p).kind=0
 ·obtain⟨rfl,hz⟩:=hz;simp[hs,e0,g,gi,gt,m0,m1,rg hb,hz];refine(f74 0 ln true ha.n ha.ok ha.p ha.e ha.ln k (by omega)).call hE hr hb _ rfl stopQ.ref ?_;rintro _ _ e' ln' ⟨rfl,rfl,q1,q2,q3⟩;simp[hs,m0,m1];exact RdP.mkX _ rfl ⟨.mk 32 ⟨#[]⟩ 0 [] line,by simp,⟨by simp[ok64],by simp[ok64],htl,trivial⟩,⟨Nat.le_refl _,ha.p,q2,q3,fun _=>q1⟩,fun h=>absurd h q1,by simp only[T.wt,T.wtL,sz0];omega⟩
 have fin:∀(t:T) p' e' ln' (X:List ABlk) (Y:List (Nat×Nat)),t.ok1->Go1 tk p e p' e' ln'->(e'=0->t.wt+12+pt tk p<=pt tk p')->t.wt+pt tk p<=pt tk p'+9->RdP H I rb ty tk (NodeQ tk 0 8 10 p e) (.ok (.agg [.int .i64 32,.str ⟨#[]⟩,.int .i64 0,.sl (some I.length) 1 t.enc,.int .i64 line])) ⟨H.set rb (.cells ty (RQ tk (p':Nat) e' ln'))++X,I++Y⟩:=fun t p' e' ln' X Y h1 h2 h3 h4=>by obtain⟨op,ss,nn,l2,line2⟩:=t;exact RdP.mk p' rfl ⟨.mk 32 ⟨#[]⟩ 0 [.mk op ss nn l2 line2] line,by simp,⟨by simp[ok64],by simp[ok64],htl,h1,trivial⟩,h2,fun h=>by have:=h3 h;simp only[T.wt,T.wtL,sz0]at*;omega,by simp only[T.wt,T.wtL,sz0]at*;omega⟩
 by_cases hz1:e=0
 ·subst hz1;have hz2:¬(tkAt tk p).kind=0:=fun h=>hz ⟨rfl,h⟩;simp[hs,e0,g,gi,gt,m0,m1,rg hb,hz2];refine go _ fun t p' e' ln' h1 h2 h3 h4=>?_;obtain⟨op,ss,nn,l2,line2⟩:=t;simp[hs,m0,m1];exact fin (.mk op ss nn l2 line2) p' e' ln' _ _ h1 h2 h3 h4
 ·simp[hs,e0,g,gi,gt,m0,m1,rg hb,hz1];refine go _ fun t p' e' ln' h1 h2 h3 h4=>?_;obtain⟨op,ss,nn,l2,line2⟩:=t;simp[hs,m0,m1];exact fin (.mk op ss nn l2 line2) p' e' ln' _ _ h1 h2 h3 h4
end Go.Proofs.YP
