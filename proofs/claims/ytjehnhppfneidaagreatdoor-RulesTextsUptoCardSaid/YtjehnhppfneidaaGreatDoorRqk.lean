/- Texts that the laws of the seat rest on: an abstract machine, what the functions answer in it, plain laws. -/
import Derived.Test.YtjehnhppfneidaaGreatDoorRqj
set_option linter.unusedVariables false
set_option linter.unusedSimpArgs false
set_option linter.unusedSectionVars false
set_option maxHeartbeats 8000000
set_option maxRecDepth 20000
namespace Go.Proofs.YP
open Go
def N0(line:Int):List AV:=[.int .i64 0,.str ⟨#[]⟩,.int .i64 0,.nils,.int .i64 line]
def WdP(H:List ABlk)(I:List (Nat×Nat))(rb ty:Nat)(tk:List Tk)(p:Nat)(e ln line:Int)(r:Rt AV)(st':St):Prop:=
 (r=.ok (.bool false)/\st'=⟨H.set rb (.cells ty (RQ tk p e ln))++ [.cells 24 (N0 line)],I⟩)\/
 ∃(op:Int) (S:ByteArray) (l:List T) (v:AV) (p':Nat) (e' ln':Int) (X:List ABlk) (I':List (Nat×Nat)),r=.ok (.bool true)/\st'=⟨H.set rb (.cells ty (RQ tk p' e' ln'))++ .cells 24 [.int .i64 op,.str S,.int .i64 0,v,.int .i64 line]::X,I'⟩/\I<+:I'/\v.fin I.length=.sl none l.length (T.encL l)/\v.one=true/\ok64 op/\T.okL1 l/\Go1 tk p e p' e' ln'/\(e'=0->1+S.size+T.wtL l+12+pt tk p<=pt tk p')/\1+S.size+T.wtL l+pt tk p<=pt tk p'+8
def WdC(k f:Nat)(tk:List Tk)(p:Nat)(e ln:Int)(w:ByteArray):Prop:=
 ∀E H I rb ty line,E.Wf ⟨H,I⟩->E.rob<=rb->rb<H.length->ok64 line->CallQ k E f [.ptr rb 0,.ptr H.length 0,.str w] ⟨H.set rb (.cells ty (RQ tk p e ln))++ [.cells 24 (N0 line)],I⟩ (WdP H I rb ty tk p e ln line)
theorem Xhw{E:Env}{I:List (Nat×Nat)}(hr:E.rom<=I.length){n:Nat}{cs:List AV}(hl:cs.length=n*5)(hn:n<=1000)(t:T)(Hx:List ABlk):
  appA E ⟨Hx,I++ [(n,5)]⟩ 5 64 (.sl (some I.length) n cs) (.sl none 1 t.enc)=some (.sl (some I.length) (n+1) (cs++t.enc),⟨Hx,I++ [(n+1,5)]⟩):=by
 have hs:srcA 5 (.sl none 1 t.enc)=some (1,t.enc):=by obtain⟨op,ss,nn,l,line⟩:=t;simp[srcA]
 rw[Xqf hr (by simp) hl hs (by omega) (by omega)];rw[List.set_append_right _ _ (Nat.le_refl _)];simp
@[simp] theorem om5(j n:Nat)(cs:List AV)(i:Int):Xhf 5 (.sl (some j) n cs) (.sl none 1 [.int .i64 0,.str ⟨#[]⟩,.int .i64 0,.sl none 0 [],.int .i64 0]) (.int .i64 i)=decide (i=n):=by simp[Xhf,srcA]
theorem WdP.mk{H:List ABlk}{I I':List (Nat×Nat)}{rb ty:Nat}{tk:List Tk}{p:Nat}{e ln line:Int}(l:List T)(p':Nat){op e' ln':Int}{S:ByteArray}{o:Option Nat}{n:Nat}{cs:List AV}{X:List ABlk}(hn:n=l.length)(hc:cs=T.encL l)(hop:ok64 op)(hl:T.okL1 l)(ho:newO I.length o)(hI:I<+:I')(hline:ok64 line)(g:Go1 tk p e p' e' ln')(h1:e'=0->1+S.size+T.wtL l+12+pt tk p<=pt tk p')(h2:1+S.size+T.wtL l+pt tk p<=pt tk p'+8):
  WdP H I rb ty tk p e ln line (.ok (.bool true)) ⟨H.set rb (.cells ty (RQ tk p' e' ln'))++ .cells 24 [.int .i64 op,.str S,.int .i64 0,.sl o n cs,.int .i64 line]::X,I'⟩:=by
 subst hn hc;exact .inr ⟨op,S,l,_,p',e',ln',X,I',rfl,rfl,hI,by rw[ho.fin,T.encL_fin],rfl,hop,hl,g,h1,h2⟩
theorem WdP.mk0{H:List ABlk}{I:List (Nat×Nat)}{rb ty:Nat}{tk:List Tk}{p:Nat}{e ln line:Int}(p':Nat){op e' ln':Int}{S:ByteArray}{X:List ABlk}(hop:ok64 op)(g:Go1 tk p e p' e' ln')(h1:e'=0->1+S.size+12+pt tk p<=pt tk p')(h2:1+S.size+pt tk p<=pt tk p'+8):
  WdP H I rb ty tk p e ln line (.ok (.bool true)) ⟨H.set rb (.cells ty (RQ tk p' e' ln'))++ .cells 24 [.int .i64 op,.str S,.int .i64 0,.nils,.int .i64 line]::X,I⟩:=
 .inr ⟨op,S,[],.nils,p',e',ln',X,I,rfl,rfl,List.prefix_rfl,rfl,rfl,hop,trivial,g,by simpa only[T.wtL,Nat.add_zero]using h1,by simpa only[T.wtL,Nat.add_zero]using h2⟩
theorem newO.no(m:Nat):newO m none:=fun _ h=>nomatch h
theorem newO.so(m:Nat):newO m (some m):=fun _ h=>by cases h;exact Nat.le_refl _
section
variable{tk:List Tk}{p:Nat}{e ln:Int}{k:Nat}{E:Env}{H:List ABlk}{I:List (Nat×Nat)}{rb ty:Nat}
theorem Xfq(ha:At tk p e ln)(hk:6<=k)(hE:E.Wf ⟨H,I⟩)(hr:E.rob<=rb)(hb:rb<H.length)(l:List ABlk){P:Rt AV×St->Prop}
  (hp:∀S p' e' ln',Go1 tk p e p' e' ln'->At tk p' e' ln'->S.size+pt tk p<=pt tk p'->(e'=0->S.size+32+pt tk p<=pt tk p')->P (.ok (.str S),⟨H.set rb (.cells ty (RQ tk (p':Nat) e' ln'))++l,I⟩)):
  obP (doCall (aCall prog k) E .full (.fn 164) [.ptr rb 0] ⟨H.set rb (.cells ty (RQ tk p e ln))++l,I⟩) P:=
 (f164 e ln ha.n ha.ok ha.p ha.e ha.ln k hk).call hE hr hb l rfl nameQ.ref (by
  rintro w p' e' ln' ⟨h1,h2,hm⟩;rcases hm with⟨h3,h4,h5,rfl,rfl⟩|⟨h3,rfl,rfl⟩
  ·have g:Go1 tk p e (p+1) e' ln':=⟨by omega,h5,h1,h2,fun h=>absurd h4 h⟩;have:=Xb6 h5;exact hp _ _ e' ln' g (ha.to g) (by omega) (fun _=>by omega)
  ·have g:Go1 tk p' e p' e' ln':=⟨Nat.le_refl _,ha.p,h1,h2,fun _=>h3⟩;exact hp _ _ e' ln' g (ha.to g) (by rw[sz0];omega) (fun h=>absurd h h3))
theorem Xbp(ha:At tk p e ln)(hk:6<=k)(hE:E.Wf ⟨H,I⟩)(hr:E.rob<=rb)(hb:rb<H.length)(l:List ABlk){P:Rt AV×St->Prop}
  (hp:∀p' e' ln',Go1 tk p e p' e' ln'->pt tk p<=pt tk p'->P (.ok (.tup []),⟨H.set rb (.cells ty (RQ tk (p':Nat) e' ln'))++l,I⟩)):
  obP (doCall (aCall prog k) E .full (.fn 148) [.ptr rb 0] ⟨H.set rb (.cells ty (RQ tk p e ln))++l,I⟩) P:=
 (f148 e ln ha.n ha.ok ha.p ha.e ha.ln k hk).call hE hr hb l rfl endQ'.ref (by
  rintro _ p' e' ln' ⟨rfl,h1,h2,h3,h4,h5,h6⟩;exact hp p' e' ln' ⟨h3,h4,h1,h2,h6⟩ (Xcd h3))
end
theorem w_if{tk:List Tk}{k:Nat}(hP:Par tk k){p:Nat}{e ln:Int}(ha:At tk p e ln)(hlt:p<tk.length)(hk:fu tk p e 34<=k+1):WdC (k+1) 146 tk p e ln ⟨#[105,102]⟩:=by
 intro E H I rb ty line hE hr hb hline;refine Xa8 rfl rfl (by decide) fun s hs e0 e1 e2=>?_;have hkk:=fu_k hk;have hn:=ha.n;have m0:=Xbi hE;have m1:=Xcg hE;have hw:=Xah (n:=(p:Int)+1) (by omega);have an:=ha.next hlt;have gn:=Go1.next ha hlt;have hpt:=Xb6 hlt;have hc:(p:Int)+1=((p+1:Nat):Int):=by omega
 simp[hs,e0,e1,e2,N0,rg hb,rs hb,Xbm hr,m0,hw];rw[hc];refine(hP.head an (by split<;>exact Xbj (by omega) hlt (by omega) hk)).call hE hr hb _ rfl NodeQ.ref ?_;rintro _ p2 e2' ln2 ⟨⟨op,ss,nn,l2,line2⟩,rfl,ht,g2,hw3,hw4⟩;have a2:=an.to g2;have hE2:E.Wf ⟨H,I++ [(1,5)]⟩:=hE.of (Nat.le_refl _) (by simp);have hE3:E.Wf ⟨H,I++ [(2,5)]⟩:=hE.of (Nat.le_refl _) (by simp);simp[hs,e0,e1,e2,m0,Nat.testBit];refine(hP.within a2 (Xbj (by have:=g2.1;omega) a2.p (by omega) hk)).call hE2 hr hb _ rfl NodeQ.ref ?_;rintro _ p3 e3 ln3 ⟨⟨op3,ss3,nn3,l3,line3⟩,rfl,ht3,g3,hw5,hw6⟩;have a3:=a2.to g3;have ap2:=Xhw hE.rom (cs:=(T.mk op ss nn l2 line2).enc) (n:=1) rfl (by omega) (.mk op3 ss3 nn3 l3 line3);simp only[T.enc,List.cons_append,List.nil_append]at ap2;have gt:=Xcc (e:=e3) (ln:=ln3) (ty:=ty) ⟨#[101,108,115,101]⟩ a3.n a3.p (k:=k) (by omega) hE3 hr hb;rcases takeF tk p3 e3 ⟨#[101,108,115,101]⟩with⟨hB,hT,hlt3,rfl,hpt3⟩|⟨hB,hT⟩;rotate_left
 ·rw[hB,hT]at gt;simp[hs,e0,e1,e2,m0,ap2,Nat.testBit,gt];refine WdP.mk [.mk op ss nn l2 line2,.mk op3 ss3 nn3 l3 line3] p3 rfl (by simp[T.encL]) (by simp[ok64]) ⟨ht,ht3,trivial⟩ (.so _) (List.prefix_append _ _) hline (gn.trans (g2.trans g3)) (fun h=>?_) ?_
  ·have:=hw5 h;have:=hw3 (g3.e0 h);simp only[T.wtL,sz0];omega
  ·simp only[T.wtL,sz0];omega
 rw[hB,hT]at gt;have a4:=a3.next hlt3;have hc3:(p3:Int)+1=((p3+1:Nat):Int):=by omega
 have g4:=Go1.next a3 hlt3;simp[hs,e0,e1,e2,m0,ap2,Nat.testBit,gt];rw[hc3];refine(hP.within a4 (Xbj (by have:=g2.1;have:=g3.1;omega) a4.p (by omega) hk)).call hE3 hr hb _ rfl NodeQ.ref ?_;rintro _ p5 e5 ln5 ⟨⟨op5,ss5,nn5,l5,line5⟩,rfl,ht5,g5,hw7,hw8⟩;have ap3:=Xhw hE.rom (cs:=T.encL [T.mk op ss nn l2 line2,.mk op3 ss3 nn3 l3 line3]) (n:=2) rfl (by omega) (.mk op5 ss5 nn5 l5 line5);simp only[T.enc,T.encL,List.cons_append,List.nil_append]at ap3;simp[hs,e0,e1,e2,m0,ap3,Nat.testBit];refine WdP.mk [.mk op ss nn l2 line2,.mk op3 ss3 nn3 l3 line3,.mk op5 ss5 nn5 l5 line5] p5 rfl (by simp[T.encL]) (by simp[ok64]) ⟨ht,ht3,ht5,trivial⟩ (.so _) (List.prefix_append _ _) hline (gn.trans (g2.trans (g3.trans (g4.trans g5)))) (fun h=>?_) ?_
 ·have:=hw7 h;have:=hw5 (g5.e0 h);have:=hw3 (g3.e0 (g5.e0 h));simp only[T.wtL,sz0];omega
 ·simp only[T.wtL,sz0];omega
theorem Xs7{tk:List Tk}{k:Nat}(hP:Par tk k){p:Nat}{e ln:Int}(ha:At tk p e ln)(hlt:p<tk.length)(hk:fu tk p e 34<=k+1):WdC (k+1) 146 tk p e ln ⟨#[119,104,105,108,101]⟩:=by
 intro E H I rb ty line hE hr hb hline;refine Xa8 rfl rfl (by decide) fun s hs e0 e1 e2=>?_;have hkk:=fu_k hk;have hn:=ha.n;have m0:=Xbi hE;have m1:=Xcg hE;have hw:=Xah (n:=(p:Int)+1) (by omega);have an:=ha.next hlt;have gn:=Go1.next ha hlt;have hpt:=Xb6 hlt;have hc:(p:Int)+1=((p+1:Nat):Int):=by omega
 simp[hs,e0,e1,e2,N0,rg hb,rs hb,Xbm hr,m0,hw];rw[hc];refine(hP.head an (by split<;>exact Xbj (by omega) hlt (by omega) hk)).call hE hr hb _ rfl NodeQ.ref ?_;rintro _ p2 e2' ln2 ⟨⟨op,ss,nn,l2,line2⟩,rfl,ht,g2,hw3,hw4⟩;have a2:=an.to g2;have hE2:E.Wf ⟨H,I++ [(1,5)]⟩:=hE.of (Nat.le_refl _) (by simp);simp[hs,e0,e1,e2,m0,Nat.testBit];refine(hP.within a2 (Xbj (by have:=g2.1;omega) a2.p (by omega) hk)).call hE2 hr hb _ rfl NodeQ.ref ?_;rintro _ p3 e3 ln3 ⟨⟨op3,ss3,nn3,l3,line3⟩,rfl,ht3,g3,hw5,hw6⟩;have ap2:=Xhw hE.rom (cs:=(T.mk op ss nn l2 line2).enc) (n:=1) rfl (by omega) (.mk op3 ss3 nn3 l3 line3);simp only[T.enc,List.cons_append,List.nil_append]at ap2;simp[hs,e0,e1,e2,m0,ap2,Nat.testBit];refine WdP.mk [.mk op ss nn l2 line2,.mk op3 ss3 nn3 l3 line3] p3 rfl (by simp[T.encL]) (by simp[ok64]) ⟨ht,ht3,trivial⟩ (.so _) (List.prefix_append _ _) hline (gn.trans (g2.trans g3)) (fun h=>?_) ?_
 ·have:=hw5 h;have:=hw3 (g3.e0 h);simp only[T.wtL,sz0];omega
 ·simp only[T.wtL,sz0];omega
theorem Jcj{tk:List Tk}{k:Nat}(hP:Par tk k){p:Nat}{e ln:Int}(ha:At tk p e ln)(hlt:p<tk.length)(hk:fu tk p e 34<=k+1):WdC (k+1) 146 tk p e ln ⟨#[118,97,114]⟩:=by
 intro E H I rb ty line hE hr hb hline;refine Xa8 rfl rfl (by decide) fun s hs e0 e1 e2=>?_;have hkk:=fu_k hk;have hn:=ha.n;have m0:=Xbi hE;have m1:=Xcg hE;have hw:=Xah (n:=(p:Int)+1) (by omega);have an:=ha.next hlt;have gn:=Go1.next ha hlt;have hpt:=Xb6 hlt;have hc:(p:Int)+1=((p+1:Nat):Int):=by omega
 simp[hs,e0,e1,e2,N0,rg hb,rs hb,Xbm hr,m0,hw];rw[hc];refine Xfq an (by omega) hE hr hb _ fun S p2 e2' ln2 g2 a2 q1 q2=>?_;have gt:=Xcc (e:=e2') (ln:=ln2) (ty:=ty) ⟨#[61]⟩ a2.n a2.p (k:=k) (by omega) hE hr hb;have hE2:E.Wf ⟨H,I++ [(1,5)]⟩:=hE.of (Nat.le_refl _) (by simp);rcases takeF tk p2 e2' ⟨#[61]⟩with⟨hB,hT,hlt3,rfl,hpt3⟩|⟨hB,hT⟩;rotate_left
 ·rw[hB,hT]at gt;simp[hs,e0,e1,e2,m0,gt];refine Xbp a2 (by omega) hE hr hb _ fun p3 e3 ln3 g3 q3=>?_;simp[hs];refine WdP.mk0 p3 ?_ (gn.trans (g2.trans g3)) (fun h=>?_) ?_
  ·simp[ok64]
  ·have:=q2 (g3.e0 h);omega
  ·omega
 rw[hB,hT]at gt;have a3:=a2.next hlt3;have g3:=Go1.next a2 hlt3;have hc3:(p2:Int)+1=((p2+1:Nat):Int):=by omega
 simp[hs,e0,e1,e2,m0,gt];rw[hc3];refine(hP.expr a3 (Xbj (by have:=g2.1;omega) a3.p (by omega) hk)).call hE hr hb _ rfl NodeQ.ref ?_;rintro _ p4 e4 ln4 ⟨⟨op,ss,nn,l2,line2⟩,rfl,ht,g4,hw3,hw4⟩;simp[hs,e0,e1,e2,m0];refine Xbp (a3.to g4) (by omega) hE2 hr hb _ fun p5 e5 ln5 g5 q3=>?_;simp[hs];exact WdP.mk [.mk op ss nn l2 line2] p5 rfl (by simp[T.encL]) (by simp[ok64]) ⟨ht,trivial⟩ (.so _) (List.prefix_append _ _) hline (gn.trans (g2.trans (g3.trans (g4.trans g5)))) (fun h=>by have:=hw3 (g5.e0 h);have:=q2 rfl;simp only[T.wtL];omega) (by simp only[T.wtL];omega)
theorem Jck{tk:List Tk}{k:Nat}(hP:Par tk k){p:Nat}{e ln:Int}(ha:At tk p e ln)(hlt:p<tk.length)(hk:fu tk p e 34<=k+1):WdC (k+1) 146 tk p e ln ⟨#[116,114,121]⟩:=by
 intro E H I rb ty line hE hr hb hline;refine Xa8 rfl rfl (by decide) fun s hs e0 e1 e2=>?_;have hkk:=fu_k hk;have hn:=ha.n;have m0:=Xbi hE;have m1:=Xcg hE;have hw:=Xah (n:=(p:Int)+1) (by omega);have an:=ha.next hlt;have gn:=Go1.next ha hlt;have hpt:=Xb6 hlt;have hc:(p:Int)+1=((p+1:Nat):Int):=by omega
 simp[hs,e0,e1,e2,N0,rg hb,rs hb,Xbm hr,m0,hw];rw[hc];refine(hP.block an (Xbj (by omega) hlt (by omega) hk)).call hE hr hb _ rfl NodeQ.ref ?_;rintro _ p2 e2' ln2 ⟨⟨op,ss,nn,l2,line2⟩,rfl,ht,g2,hw3,hw4⟩;have a2:=an.to g2;have hE2:E.Wf ⟨H,I++ [(1,5)]⟩:=hE.of (Nat.le_refl _) (by simp);simp[hs,e0,e1,e2,m0];refine Xbe a2 _ (by omega) hE2 hr hb _ fun p3 e3 ln3 g3 a3 q1 q2 q3=>?_;simp[hs,e0,e1,e2,m0];refine Xbe a3 _ (by omega) hE2 hr hb _ fun p4 e4 ln4 g4 a4 q4 q5 q6=>?_;simp[hs,e0,e1,e2,m0];refine Xfq a4 (by omega) hE2 hr hb _ fun S p5 e5 ln5 g5 a5 q7 q8=>?_;simp[hs,e0,e1,e2,m0];refine Xbe a5 _ (by omega) hE2 hr hb _ fun p6 e6 ln6 g6 a6 q9 q10 q11=>?_;simp[hs,e0,e1,e2,m0,Nat.testBit];refine(hP.block a6 (Xbj (by have:=g2.1;have:=g3.1;have:=g4.1;have:=g5.1;have:=g6.1;omega) a6.p (by omega) hk)).call hE2 hr hb _ rfl NodeQ.ref ?_;rintro _ p7 e7 ln7 ⟨⟨op3,ss3,nn3,l3,line3⟩,rfl,ht3,g7,hw5,hw6⟩;have ap2:=Xhw hE.rom (cs:=(T.mk op ss nn l2 line2).enc) (n:=1) rfl (by omega) (.mk op3 ss3 nn3 l3 line3);simp only[T.enc,List.cons_append,List.nil_append]at ap2;simp[hs,e0,e1,e2,m0,ap2,Nat.testBit];refine WdP.mk [.mk op ss nn l2 line2,.mk op3 ss3 nn3 l3 line3] p7 rfl (by simp[T.encL]) (by simp[ok64]) ⟨ht,ht3,trivial⟩ (.so _) (List.prefix_append _ _) hline (gn.trans (g2.trans (g3.trans (g4.trans (g5.trans (g6.trans g7)))))) (fun h=>?_) ?_
 ·have h7:=hw5 h;have h6:=g7.e0 h;have h5:=g6.e0 h6;have h4:=g5.e0 h5;have h3:=g4.e0 h4;have:=hw3 (g3.e0 h3);simp only[T.wtL];omega
 ·simp only[T.wtL];omega
theorem Xmu{tk:List Tk}{k:Nat}(hP:Par tk k){p:Nat}{e ln:Int}(ha:At tk p e ln)(hlt:p<tk.length)(hk:fu tk p e 34<=k+1):WdC (k+1) 146 tk p e ln ⟨#[102,117,110,99,116,105,111,110]⟩:=by
 intro E H I rb ty line hE hr hb hline;refine Xa8 rfl rfl (by decide) fun s hs e0 e1 e2=>?_;have hkk:=fu_k hk;have hn:=ha.n;have m0:=Xbi hE;have m1:=Xcg hE;have hw:=Xah (n:=(p:Int)+1) (by omega);have an:=ha.next hlt;have gn:=Go1.next ha hlt;have hpt:=Xb6 hlt;have hc:(p:Int)+1=((p+1:Nat):Int):=by omega
 simp[hs,e0,e1,e2,N0,rg hb,rs hb,Xbm hr,m0,hw];rw[hc];refine Xfq an (by omega) hE hr hb _ fun S p2 e2' ln2 g2 a2 q1 q2=>?_;simp[hs,e0,e1,e2,m0];refine(hP.rest a2 (Xbj (by have:=g2.1;omega) a2.p (by omega) hk)).call hE hr hb _ rfl ListQ.ref ?_;rintro _ p3 e3 ln3 ⟨l3,rfl,ht3,g3,hw5,hw6⟩;simp[hs,e0,e1,e2,m0];refine WdP.mk l3 p3 rfl rfl ?_ ht3 (.no _) List.prefix_rfl hline (gn.trans (g2.trans g3)) (fun h=>?_) ?_
 ·simp[ok64]
 ·have:=hw5 h;omega
 ·omega
theorem Jcl{tk:List Tk}{k:Nat}(hP:Par tk k){p:Nat}{e ln:Int}(ha:At tk p e ln)(hlt:p<tk.length)(hk:fu tk p e 34<=k+1):WdC (k+1) 146 tk p e ln ⟨#[102,111,114]⟩:=by
 intro E H I rb ty line hE hr hb hline;refine Xa8 rfl rfl (by decide) fun s hs e0 e1 e2=>?_;have hkk:=fu_k hk;have hn:=ha.n;have m0:=Xbi hE;have m1:=Xcg hE;have hw:=Xah (n:=(p:Int)+1) (by omega);have an:=ha.next hlt;have gn:=Go1.next ha hlt;have hpt:=Xb6 hlt;have hc:(p:Int)+1=((p+1:Nat):Int):=by omega
 simp[hs,e0,e1,e2,N0,rg hb,rs hb,Xbm hr,m0,hw];rw[hc];refine Xbe an _ (by omega) hE hr hb _ fun p1 e1' ln1 g1 a1 q1 q2 q3=>?_;have gt:=Xcc (e:=e1') (ln:=ln1) (ty:=ty) ⟨#[118,97,114]⟩ a1.n a1.p (k:=k) (by omega) hE hr hb;have g:=Xdi (e:=e1') (ln:=ln1) (ty:=ty) a1.n a1.p (k:=k) (by omega) hE hr hb;simp only[Tk.enc]at g;have hc1:(p1:Int)+1=((p1+1:Nat):Int):=by omega
 have fl:∀(e2' ln2:Int) (Y:List ABlk) {P:Rt AV×St->Prop},Go1 tk p1 e1' p1 e2' ln2->(∀p' e3 ln3,Go1 tk p1 e1' p' e3 ln3->At tk p' e3 ln3->P (.ok (.tup []),⟨H.set rb (.cells ty (RQ tk (p':Nat) e3 ln3))++Y,I⟩))->obP (doCall (aCall prog k) E .full (.fn 107) [.ptr rb 0,.int .i64 47] ⟨H.set rb (.cells ty (RQ tk p1 e2' ln2))++Y,I⟩) P:=fun e2' ln2 Y P g2 hP2=>
  (f107 e2' ln2 47 a1.n a1.ok a1.p g2.2.2.2.1 k (by omega)).call hE hr hb Y rfl (failQ.ref rfl) (by
   rintro _ p' e' ln' ⟨rfl,rfl,h1,h2⟩
   have g3:Go1 tk p' e1' p' e' ln':=by
    refine⟨Nat.le_refl _,a1.p,?_,h2,fun h=>?_⟩
    ·rw[h1];split
     ·simp[ok64]
     ·exact g2.2.2.1
    ·rw[h1];split
     ·omega
     ·exact g2.2.2.2.2 h
   exact hP2 p' e' ln' g3 (a1.to g3))
 rcases takeF tk p1 e1' ⟨#[118,97,114]⟩with⟨hB,hT,hlt1,rfl,hpt1⟩|⟨hB,hT⟩;rw[hB,hT]at gt;have a2:=a1.next hlt1;have g2:=Go1.next a1 hlt1;simp[hs,e0,e1,e2,m0,gt];rw[hc1];rotate_left;rw[hB,hT]at gt;by_cases hz:(tkAt tk p1).kind=0;simp[hs,e0,e1,e2,m0,gt,g,hz];refine(f74 e1' ln1 false a1.n a1.ok a1.p a1.e a1.ln k (by omega)).call hE hr hb _ rfl stopQ.ref ?_;rintro _ _ e' ln' ⟨rfl,rfl,h1,h2,h3⟩;simp[hs,e0,e1,e2];refine fl e' ln' _ ⟨Nat.le_refl _,a1.p,h2,h3,fun _=>h1⟩ fun p2 e2' ln2 g2 a2=>?_;simp[hs,e0,e1,e2,m0];rotate_left;simp[hs,e0,e1,e2,m0,gt,g,hz];refine fl e1' ln1 _ (.refl a1) fun p2 e2' ln2 g2 a2=>?_;simp[hs,e0,e1,e2,m0]
 all_goals
  have mm2:=Xcd (tk:=tk) g2.1;refine Xfq a2 (by omega) hE hr hb _ fun S p3 e3 ln3 g3 a3 q4 q5=>?_;simp[hs,e0,e1,e2,m0];refine Xbe a3 _ (by omega) hE hr hb _ fun p4 e4 ln4 g4 a4 q6 q7 q8=>?_;simp[hs,e0,e1,e2,m0];refine(hP.expr a4 (Xbj (by have:=g1.1;have:=g2.1;have:=g3.1;have:=g4.1;omega) a4.p (by omega) hk)).call hE hr hb _ rfl NodeQ.ref ?_;rintro _ p5 e5 ln5 ⟨⟨op,ss,nn,l2,line2⟩,rfl,ht,g5,hw3,hw4⟩;have a5:=a4.to g5;have hE2:E.Wf ⟨H,I++ [(1,5)]⟩:=hE.of (Nat.le_refl _) (by simp);simp[hs,e0,e1,e2,m0];refine Xbe a5 _ (by omega) hE2 hr hb _ fun p6 e6 ln6 g6 a6 q9 q10 q11=>?_;simp[hs,e0,e1,e2,m0,Nat.testBit];refine(hP.within a6 (Xbj (by have:=g1.1;have:=g2.1;have:=g3.1;have:=g4.1;have:=g5.1;have:=g6.1;omega) a6.p (by omega) hk)).call hE2 hr hb _ rfl NodeQ.ref ?_;rintro _ p7 e7 ln7 ⟨⟨op3,ss3,nn3,l3,line3⟩,rfl,ht3,g7,hw5,hw6⟩;have ap2:=Xhw hE.rom (cs:=(T.mk op ss nn l2 line2).enc) (n:=1) rfl (by omega) (.mk op3 ss3 nn3 l3 line3);simp only[T.enc,List.cons_append,List.nil_append]at ap2;simp[hs,e0,e1,e2,m0,ap2,Nat.testBit];refine WdP.mk [.mk op ss nn l2 line2,.mk op3 ss3 nn3 l3 line3] p7 rfl (by simp[T.encL]) (by simp[ok64]) ⟨ht,ht3,trivial⟩ (.so _) (List.prefix_append _ _) hline (gn.trans (g1.trans (g2.trans (g3.trans (g4.trans (g5.trans (g6.trans g7))))))) (fun h=>?_) ?_
  ·have h7:=hw5 h;have h6:=g7.e0 h;have:=hw3 (g6.e0 h6);simp only[T.wtL];omega
  ·simp only[T.wtL];omega
theorem Xs9{tk:List Tk}{k:Nat}(hP:Par tk k){p:Nat}{e ln:Int}(ha:At tk p e ln)(hlt:p<tk.length)(hk:fu tk p e 33<=k+1):WdC (k+1) 168 tk p e ln ⟨#[98,114,101,97,107]⟩:=by
 intro E H I rb ty line hE hr hb hline;refine Xa8 rfl rfl (by decide) fun s hs e0 e1 e2=>?_;have hkk:=fu_k hk;have hn:=ha.n;have m0:=Xbi hE;have m1:=Xcg hE;have hw:=Xah (n:=(p:Int)+1) (by omega);have an:=ha.next hlt;have gn:=Go1.next ha hlt;have hpt:=Xb6 hlt;have hc:(p:Int)+1=((p+1:Nat):Int):=by omega
 simp[hs,e0,e1,e2,N0,rg hb,rs hb,Xbm hr,m0,hw];rw[hc];refine Xbp an (by omega) hE hr hb _ fun p2 e2' ln2 g2 q2=>?_;simp[hs];refine WdP.mk0 p2 ?_ (gn.trans g2) (fun h=>?_) ?_
 ·simp[ok64]
 ·simp only[T.wtL,sz0];omega
 ·simp only[T.wtL,sz0];omega
theorem Xmv{tk:List Tk}{k:Nat}(hP:Par tk k){p:Nat}{e ln:Int}(ha:At tk p e ln)(hlt:p<tk.length)(hk:fu tk p e 33<=k+1):WdC (k+1) 168 tk p e ln ⟨#[99,111,110,116,105,110,117,101]⟩:=by
 intro E H I rb ty line hE hr hb hline;refine Xa8 rfl rfl (by decide) fun s hs e0 e1 e2=>?_;have hkk:=fu_k hk;have hn:=ha.n;have m0:=Xbi hE;have m1:=Xcg hE;have hw:=Xah (n:=(p:Int)+1) (by omega);have an:=ha.next hlt;have gn:=Go1.next ha hlt;have hpt:=Xb6 hlt;have hc:(p:Int)+1=((p+1:Nat):Int):=by omega
 simp[hs,e0,e1,e2,N0,rg hb,rs hb,Xbm hr,m0,hw];rw[hc];refine Xbp an (by omega) hE hr hb _ fun p2 e2' ln2 g2 q2=>?_;simp[hs];refine WdP.mk0 p2 ?_ (gn.trans g2) (fun h=>?_) ?_
 ·simp[ok64]
 ·simp only[T.wtL,sz0];omega
 ·simp only[T.wtL,sz0];omega
theorem Xs8{tk:List Tk}{k:Nat}(hP:Par tk k){p:Nat}{e ln:Int}(ha:At tk p e ln)(hlt:p<tk.length)(hk:fu tk p e 33<=k+1):WdC (k+1) 168 tk p e ln ⟨#[116,104,114,111,119]⟩:=by
 intro E H I rb ty line hE hr hb hline;refine Xa8 rfl rfl (by decide) fun s hs e0 e1 e2=>?_;have hkk:=fu_k hk;have hn:=ha.n;have m0:=Xbi hE;have m1:=Xcg hE;have hw:=Xah (n:=(p:Int)+1) (by omega);have an:=ha.next hlt;have gn:=Go1.next ha hlt;have hpt:=Xb6 hlt;have hc:(p:Int)+1=((p+1:Nat):Int):=by omega
 have g:=Xdi (e:=e) (ln:=ln) (ty:=ty) an.n an.p (k:=k) (by omega) hE hr hb;simp only[Tk.enc,<-hc]at g;cases hnl:(tkAt tk (p+1)).nl
 ·rw[hnl]at g;simp[hs,e0,e1,e2,N0,rg hb,rs hb,Xbm hr,m0,hw,g];rw[hc];refine(hP.expr an (Xbj (by omega) an.p (by omega) hk)).call hE hr hb _ rfl NodeQ.ref ?_;rintro _ p4 e4 ln4 ⟨⟨op,ss,nn,l2,line2⟩,rfl,ht,g4,hw3,hw4⟩;have hE2:E.Wf ⟨H,I++ [(1,5)]⟩:=hE.of (Nat.le_refl _) (by simp);simp[hs,e0,e1,e2,m0];refine Xbp (an.to g4) (by omega) hE2 hr hb _ fun p5 e5 ln5 g5 q3=>?_;simp[hs];refine WdP.mk [.mk op ss nn l2 line2] p5 rfl (by simp[T.encL]) (by simp[ok64]) ⟨ht,trivial⟩ (.so _) (List.prefix_append _ _) hline (gn.trans (g4.trans g5)) (fun h=>?_) ?_
  ·have:=hw3 (g5.e0 h);simp only[T.wtL,sz0];omega
  ·simp only[T.wtL,sz0];omega
 ·rw[hnl]at g;simp[hs,e0,e1,e2,N0,rg hb,rs hb,Xbm hr,m0,hw,g];rw[hc];refine(f74 e ln false an.n an.ok an.p an.e an.ln k (by omega)).call hE hr hb _ rfl stopQ.ref ?_;rintro _ p2 e' ln' ⟨rfl,rfl,h1,h2,h3⟩;have gs:Go1 tk (p+1) e (p+1) e' ln':=⟨Nat.le_refl _,an.p,h2,h3,fun _=>h1⟩;have zq:=an.to gs;simp[hs,e0,e1,e2,m0];rw[hc];refine(hP.expr zq (Xbj (by omega) zq.p (by omega) hk)).call hE hr hb _ rfl NodeQ.ref ?_;rintro _ p4 e4 ln4 ⟨⟨op,ss,nn,l2,line2⟩,rfl,ht,g4,hw3,hw4⟩;have hE2:E.Wf ⟨H,I++ [(1,5)]⟩:=hE.of (Nat.le_refl _) (by simp);simp[hs,e0,e1,e2,m0];refine Xbp (zq.to g4) (by omega) hE2 hr hb _ fun p5 e5 ln5 g5 q3=>?_;simp[hs];refine WdP.mk [.mk op ss nn l2 line2] p5 rfl (by simp[T.encL]) (by simp[ok64]) ⟨ht,trivial⟩ (.so _) (List.prefix_append _ _) hline ((gn.trans gs).trans (g4.trans g5)) (fun h=>?_) ?_
  ·have:=hw3 (g5.e0 h);simp only[T.wtL,sz0];omega
  ·simp only[T.wtL,sz0];omega
theorem Xqx{tk:List Tk}{k:Nat}(hP:Par tk k){p:Nat}{e ln:Int}(ha:At tk p e ln)(hlt:p<tk.length)(hk:fu tk p e 33<=k+1):WdC (k+1) 168 tk p e ln ⟨#[114,101,116,117,114,110]⟩:=by
 intro E H I rb ty line hE hr hb hline;refine Xa8 rfl rfl (by decide) fun s hs e0 e1 e2=>?_;have hkk:=fu_k hk;have hn:=ha.n;have m0:=Xbi hE;have m1:=Xcg hE;have hw:=Xah (n:=(p:Int)+1) (by omega);have an:=ha.next hlt;have gn:=Go1.next ha hlt;have hpt:=Xb6 hlt;have hc:(p:Int)+1=((p+1:Nat):Int):=by omega
 have g:=Xdi (e:=e) (ln:=ln) (ty:=ty) an.n an.p (k:=k) (by omega) hE hr hb;obtain⟨⟨tkd,ts,tn,tl,tnl⟩,htt⟩:∃t,tkAt tk (p+1)=t:=⟨_,rfl⟩;rw[htt]at g;simp only[Tk.enc,<-hc]at g
 have hcase:(¬tkd=0/\tnl=false/\¬(tkd=5/\(ts=⟨#[59]⟩\/ts=⟨#[125]⟩)))\/tkd=0\/(¬tkd=0/\tnl=true)\/(tkd=5/\tnl=false/\ts=⟨#[59]⟩)\/(tkd=5/\tnl=false/\ts=⟨#[125]⟩):=by
  by_cases h0:tkd=0
  ·exact .inr (.inl h0)
  cases tnl
  ·by_cases h5:tkd=5
   ·by_cases h1:ts=⟨#[59]⟩
    ·exact .inr (.inr (.inr (.inl ⟨h5,rfl,h1⟩)))
    ·by_cases h2:ts=⟨#[125]⟩
     ·exact .inr (.inr (.inr (.inr ⟨h5,rfl,h2⟩)))
     ·exact .inl ⟨h0,rfl,fun h=>h.2.elim h1 h2⟩
   ·exact .inl ⟨h0,rfl,fun h=>h5 h.1⟩
  ·exact .inr (.inr (.inl ⟨h0,rfl⟩))
 rcases hcase with⟨h0,rfl,h5⟩|rfl|⟨h0,rfl⟩|⟨rfl,rfl,rfl⟩|⟨rfl,rfl,rfl⟩
 ·by_cases h:tkd=5
  ·have h1:¬ts=⟨#[59]⟩:=fun q=>h5 ⟨h,.inl q⟩;have h2:¬ts=⟨#[125]⟩:=fun q=>h5 ⟨h,.inr q⟩;subst h;simp[hs,e0,e1,e2,N0,rg hb,rs hb,Xbm hr,m0,m1,hw,g,h1,h2];rw[hc];refine(hP.expr an (Xbj (by omega) an.p (by omega) hk)).call hE hr hb _ rfl NodeQ.ref ?_;rintro _ p4 e4 ln4 ⟨⟨op,ss,nn,l2,line2⟩,rfl,ht,g4,hw3,hw4⟩;have hE2:E.Wf ⟨H,I++ [(1,5)]⟩:=hE.of (Nat.le_refl _) (by simp);simp[hs,e0,e1,e2,m0];refine Xbp (an.to g4) (by omega) hE2 hr hb _ fun p5 e5 ln5 g5 q3=>?_;simp[hs];refine WdP.mk [.mk op ss nn l2 line2] p5 rfl (by simp[T.encL]) (by simp[ok64]) ⟨ht,trivial⟩ (.so _) (List.prefix_append _ _) hline (gn.trans (g4.trans g5)) (fun h=>?_) ?_
   ·have:=hw3 (g5.e0 h);simp only[T.wtL,sz0];omega
   ·simp only[T.wtL,sz0];omega
  ·simp[hs,e0,e1,e2,N0,rg hb,rs hb,Xbm hr,m0,m1,hw,g,h0,h];rw[hc];refine(hP.expr an (Xbj (by omega) an.p (by omega) hk)).call hE hr hb _ rfl NodeQ.ref ?_;rintro _ p4 e4 ln4 ⟨⟨op,ss,nn,l2,line2⟩,rfl,ht,g4,hw3,hw4⟩;have hE2:E.Wf ⟨H,I++ [(1,5)]⟩:=hE.of (Nat.le_refl _) (by simp);simp[hs,e0,e1,e2,m0];refine Xbp (an.to g4) (by omega) hE2 hr hb _ fun p5 e5 ln5 g5 q3=>?_;simp[hs];refine WdP.mk [.mk op ss nn l2 line2] p5 rfl (by simp[T.encL]) (by simp[ok64]) ⟨ht,trivial⟩ (.so _) (List.prefix_append _ _) hline (gn.trans (g4.trans g5)) (fun h=>?_) ?_
   ·have:=hw3 (g5.e0 h);simp only[T.wtL,sz0];omega
   ·simp only[T.wtL,sz0];omega
 ·simp[hs,e0,e1,e2,N0,rg hb,rs hb,Xbm hr,m0,m1,hw,g];rw[hc];refine Xbp an (by omega) hE hr hb _ fun p2 e2' ln2 g2 q2=>?_;simp[hs];refine WdP.mk0 p2 ?_ (gn.trans g2) (fun h=>?_) ?_
  ·simp[ok64]
  ·simp only[T.wtL,sz0];omega
  ·simp only[T.wtL,sz0];omega
 ·simp[hs,e0,e1,e2,N0,rg hb,rs hb,Xbm hr,m0,m1,hw,g,h0];rw[hc];refine Xbp an (by omega) hE hr hb _ fun p2 e2' ln2 g2 q2=>?_;simp[hs];refine WdP.mk0 p2 ?_ (gn.trans g2) (fun h=>?_) ?_
  ·simp[ok64]
  ·simp only[T.wtL,sz0];omega
  ·simp only[T.wtL,sz0];omega
 ·simp[hs,e0,e1,e2,N0,rg hb,rs hb,Xbm hr,m0,m1,hw,g];rw[hc];refine Xbp an (by omega) hE hr hb _ fun p2 e2' ln2 g2 q2=>?_;simp[hs];refine WdP.mk0 p2 ?_ (gn.trans g2) (fun h=>?_) ?_
  ·simp[ok64]
  ·simp only[T.wtL,sz0];omega
  ·simp only[T.wtL,sz0];omega
 ·simp[hs,e0,e1,e2,N0,rg hb,rs hb,Xbm hr,m0,m1,hw,g];rw[hc];refine Xbp an (by omega) hE hr hb _ fun p2 e2' ln2 g2 q2=>?_;simp[hs];refine WdP.mk0 p2 ?_ (gn.trans g2) (fun h=>?_) ?_
  ·simp[ok64]
  ·simp only[T.wtL,sz0];omega
  ·simp only[T.wtL,sz0];omega
theorem Xxf{tk:List Tk}{k:Nat}(hP:Par tk k){p:Nat}{e ln:Int}(w:ByteArray)(ha:At tk p e ln)(hlt:p<tk.length)(hk:fu tk p e 33<=k+1):WdC (k+1) 168 tk p e ln w:=by
 by_cases h0:w=⟨#[114,101,116,117,114,110]⟩
 ·subst h0;exact Xqx hP ha hlt hk
 by_cases h1:w=⟨#[116,104,114,111,119]⟩
 ·subst h1;exact Xs8 hP ha hlt hk
 by_cases h2:w=⟨#[98,114,101,97,107]⟩
 ·subst h2;exact Xs9 hP ha hlt hk
 by_cases h3:w=⟨#[99,111,110,116,105,110,117,101]⟩
 ·subst h3;exact Xmv hP ha hlt hk
 intro E H I rb ty line hE hr hb hline;refine Xa8 rfl rfl (by decide) fun s hs e0 e1 e2=>?_;simp[hs,e0,e1,e2,h0,h1,h2,h3];exact .inl ⟨rfl,rfl⟩
theorem Xor{k f:Nat}{args:List AV}{E:Env}{st:St}{Q:Rt AV->St->Prop}{P:Rt AV×St->Prop}(h:CallQ k E f args st Q)(hq:∀r st',Q r st'->P (r,st')):obP (doCall (aCall prog k) E .no (.fn f) args st) P:=
 Xac (show obP (doCall (aCall prog k) E .no (.fn f) args st) _ from h) fun p hp=>hq p.1 p.2 hp
theorem Xxc{tk:List Tk}{k:Nat}(hP:Par tk k){p:Nat}{e ln:Int}(w:ByteArray)(hJ:fu tk p e 33<=k->WdC k 168 tk p e ln w)(ha:At tk p e ln)(hlt:p<tk.length)(hk:fu tk p e 34<=k+1):WdC (k+1) 146 tk p e ln w:=by
 by_cases h0:w=⟨#[118,97,114]⟩
 ·subst h0;exact Jcj hP ha hlt hk
 by_cases h1:w=⟨#[105,102]⟩
 ·subst h1;exact w_if hP ha hlt hk
 by_cases h2:w=⟨#[119,104,105,108,101]⟩
 ·subst h2;exact Xs7 hP ha hlt hk
 by_cases h3:w=⟨#[102,111,114]⟩
 ·subst h3;exact Jcl hP ha hlt hk
 by_cases h4:w=⟨#[116,114,121]⟩
 ·subst h4;exact Jck hP ha hlt hk
 by_cases h5:w=⟨#[102,117,110,99,116,105,111,110]⟩
 ·subst h5;exact Xmu hP ha hlt hk
 intro E H I rb ty line hE hr hb hline;refine Xa8 rfl rfl (by decide) fun s hs e0 e1 e2=>?_;simp[hs,e0,e1,e2,h0,h1,h2,h3,h4,h5];refine Xor (hJ (Xd0 (Nat.le_refl _) id (by omega) hk) E H I rb ty line hE hr hb hline) fun r st' h=>?_;rcases h with⟨rfl,rfl⟩|⟨op,S,l,v,p',e',ln',X,I',rfl,rfl,h⟩
 ·simp[hs];exact .inl ⟨rfl,rfl⟩
 ·simp[hs];exact .inr ⟨op,S,l,v,p',e',ln',X,I',rfl,rfl,h⟩
theorem Xn1{tk:List Tk}{p:Nat}{e ln line:Int}{k:Nat}{w:ByteArray}(h:WdC k 146 tk p e ln w){E:Env}{H:List ABlk}{I:List (Nat×Nat)}{rb ty:Nat}(hE:E.Wf ⟨H,I⟩)(hr:E.rob<=rb)(hb:rb<H.length)(hline:ok64 line)(a b:ABlk){P:Rt AV×St->Prop}
  (h0:P (.ok (.bool false),⟨H.set rb (.cells ty (RQ tk p e ln))++ [a,b,.cells 24 (N0 line)],I⟩))
  (h1:∀(op:Int) (S:ByteArray) (l:List T) (v:AV) (p':Nat) (e' ln':Int) (X:List ABlk) (I':List (Nat×Nat)),I<+:I'->v.fin I.length=.sl none l.length (T.encL l)->v.one=true->ok64 op->T.okL1 l->Go1 tk p e p' e' ln'->(e'=0->1+S.size+T.wtL l+12+pt tk p<=pt tk p')->1+S.size+T.wtL l+pt tk p<=pt tk p'+8->
   P (.ok (.bool true),⟨H.set rb (.cells ty (RQ tk p' e' ln'))++a::b::.cells 24 [.int .i64 op,.str S,.int .i64 0,v,.int .i64 line]::X,I'⟩)):
  obP (doCall (aCall prog k) E .no (.fn 146) [.ptr rb 0,.ptr (H.length+2) 0,.str w] ⟨H.set rb (.cells ty (RQ tk p e ln))++ [a,b,.cells 24 (N0 line)],I⟩) P:=by
 have e1:∀c l,H.set rb c++a::b::l=(H++ [a,b]).set rb c++l:=fun c l=>by rw[List.set_append_left _ _ hb];simp
 have hE2:E.Wf ⟨H++ [a,b],I⟩:=hE.of (by simp) (Nat.le_refl _);have:=h E (H++ [a,b]) I rb ty line hE2 hr (by simp;omega) hline;rw[show(H++ [a,b]).length=H.length+2 by simp,<-e1]at this;refine Xor this fun r st' hw=>?_;rcases hw with⟨rfl,rfl⟩|⟨op,S,l,v,p',e',ln',X,I',rfl,rfl,q1,q2,q3,q4,q5,q6,q7,q8⟩
 ·rw[<-e1];exact h0
 ·rw[<-e1];exact h1 op S l v p' e' ln' X I' q1 q2 q3 q4 q5 q6 q7 q8
theorem Xxd{tk:List Tk}{k:Nat}(hP:Par tk k){p:Nat}{e ln:Int}(hW:∀w,p<tk.length->fu tk p e 34<=k->WdC k 146 tk p e ln w)(ha:At tk p e ln)(hk:fu tk p e 35<=k+1):RdC (k+1) 106 [] tk p e ln (NodeQ tk 0 12 9 p e):=by
 intro E H I rb ty hE hr hb;refine Xai rfl rfl (by decide) fun s hs e0=>?_;have hkk:=fu_k hk;have hn:=ha.n;have hp:=ha.p;have m0:=Xbi hE;have m1:=Xcg hE;have g:=Xdi (e:=e) (ln:=ln) (ty:=ty) ha.n ha.p (k:=k) (by omega) hE hr hb;have gb:=fun l=>(f103 (tk:=tk) (p:=p) e ln ha.n ha.p 1 (by omega) k (by omega)).eq (ty:=ty) hE hr hb (by simp) rfl l;have hkl:=Xhg (tk:=tk) (p:=p);have htl:=Xdd ha.ok p;have hpn:p<tk.length->pt tk (p+1)=pt tk p+32+(tkAt tk p).s.size:=fun h=>Xb6 h;obtain⟨⟨tkd,ts,tn,tl,tnl⟩,htt⟩:∃t,tkAt tk p=t:=⟨_,rfl⟩;rw[htt]at g hkl htl hpn;simp only[Tk.enc]at g;simp only at htl hkl hpn;obtain⟨⟨ukd,us,un,ul,unl⟩,hut⟩:∃t,tkAt tk (p+1)=t:=⟨_,rfl⟩;rw[hut]at gb;simp only[Tk.enc,Int.natCast_one]at gb;have hE2:E.Wf ⟨H,I++ [(1,5)]⟩:=hE.of (Nat.le_refl _) (by simp);by_cases hbl:tkd=5/\ts=⟨#[123]⟩
 ·obtain⟨rfl,rfl⟩:=hbl;simp[hs,e0,g,m0,m1];refine(hP.block ha (Xd0 (Nat.le_refl _) id (by omega) hk)).call hE hr hb _ rfl NodeQ.ref ?_;rintro _ p2 e2 ln2 ⟨⟨op,ss,nn,l2,line⟩,rfl,ht,g2,hw3,hw4⟩;simp[hs,e0,m0];exact RdP.mkX p2 rfl ⟨.mk op ss nn l2 line,by simp,ht,g2,fun h=>by have:=hw3 h;omega,by omega⟩
 have ex:∀(Y:List ABlk) {P:Rt AV×St->Prop},(∀(t:T) p' e' ln',t.ok1->Go1 tk p e p' e' ln'->(e'=0->t.wt+16+pt tk p<=pt tk p')->t.wt+pt tk p<=pt tk p'+8->P (.ok (.agg t.enc),⟨H.set rb (.cells ty (RQ tk (p':Nat) e' ln'))++Y,I⟩))->obP (doCall (aCall prog k) E .full (.fn 147) [.ptr rb 0] ⟨H.set rb (.cells ty (RQ tk p e ln))++Y,I⟩) P:=fun Y P hP2=>
  (hP.expr ha (Xd0 (Nat.le_refl _) id (by omega) hk)).call hE hr hb _ rfl NodeQ.ref (by
   rintro _ p2 e2 ln2 ⟨t,rfl,ht,g2,hw3,hw4⟩;exact hP2 t p2 e2 ln2 ht g2 (fun h=>by have:=hw3 h;omega) hw4)
 have fin:∀(t:T) p' e' ln' (X:List ABlk) (Y:List (Nat×Nat)),t.ok1->Go1 tk p e p' e' ln'->(e'=0->t.wt+16+pt tk p<=pt tk p')->t.wt+pt tk p<=pt tk p'+8->RdP H I rb ty tk (NodeQ tk 0 12 9 p e) (.ok (.agg [.int .i64 31,.str ⟨#[]⟩,.int .i64 0,.sl (some I.length) 1 t.enc,.int .i64 tl])) ⟨H.set rb (.cells ty (RQ tk (p':Nat) e' ln'))++X,I++Y⟩:=fun t p' e' ln' X Y h1 h2 h3 h4=>by obtain⟨op,ss,nn,l2,line2⟩:=t;exact RdP.mk p' rfl ⟨.mk 31 ⟨#[]⟩ 0 [.mk op ss nn l2 line2] tl,by simp,⟨by simp[ok64],by simp[ok64],htl,h1,trivial⟩,h2,fun h=>by have:=h3 h;simp only[T.wt,T.wtL,sz0]at*;omega,by simp only[T.wt,T.wtL,sz0]at*;omega⟩
 have hcase:(tkd=2)\/(tkd=1/\ukd=5/\us=⟨#[58]⟩)\/(¬tkd=2/\¬(tkd=5/\ts=⟨#[123]⟩)/\¬(tkd=1/\ukd=5/\us=⟨#[58]⟩)):=by
  by_cases h2:tkd=2
  ·exact .inl h2
  ·by_cases h1:tkd=1/\ukd=5/\us=⟨#[58]⟩
   ·exact .inr (.inl h1)
   ·exact .inr (.inr ⟨h2,hbl,h1⟩)
 rcases hcase with rfl|⟨rfl,rfl,rfl⟩|⟨h2,h5,h1⟩
 ·have hlt:=hkl (by omega);simp[hs,e0,g,m0,m1];refine Xn1 (hW ts hlt (Xd0 (Nat.le_refl _) id (by omega) hk)) hE hr hb htl _ _ ?_ fun op S l v p' e' ln' X I' q1 q2 q3 q4 q5 q6 q7 q8=>?_
  ·simp[hs,e0,gb,N0,m1];refine ex _ fun t p2 e2 ln2 ht g2 w1 w2=>?_;obtain⟨op2,ss2,nn2,l2,line2⟩:=t;simp[hs,e0,m1];refine Xbp (ha.to g2) (by omega) hE2 hr hb _ fun p3 e3 ln3 g3 q3=>?_;simp[hs,m0];exact fin (.mk op2 ss2 nn2 l2 line2) p3 e3 ln3 _ _ ht (g2.trans g3) (fun h=>by have:=w1 (g3.e0 h);omega) (by omega)
  ·simp[hs,q3,m0];exact RdP.mkI p' q1 rfl ⟨.mk op S 0 l tl,by simp[q2],⟨q4,by simp[ok64],htl,q5⟩,q6,fun h=>by have:=q7 h;simp only[T.wt];omega,by simp only[T.wt];omega⟩
 ·by_cases he:ts=⟨#[101,118,97,108]⟩\/ts=⟨#[97,114,103,117,109,101,110,116,115]⟩
  ·rcases he with rfl|rfl<;>
   ·simp[hs,e0,g,gb,m0,m1];refine ex _ fun t p2 e2 ln2 ht g2 w1 w2=>?_;obtain⟨op2,ss2,nn2,l2,line2⟩:=t;simp[hs,e0,m1];refine Xbp (ha.to g2) (by omega) hE2 hr hb _ fun p3 e3 ln3 g3 q3=>?_;simp[hs,m0];exact fin (.mk op2 ss2 nn2 l2 line2) p3 e3 ln3 _ _ ht (g2.trans g3) (fun h=>by have:=w1 (g3.e0 h);omega) (by omega)
  ·have h1:¬ts=⟨#[101,118,97,108]⟩:=fun h=>he (.inl h);have h2:¬ts=⟨#[97,114,103,117,109,101,110,116,115]⟩:=fun h=>he (.inr h);have hlt:=hkl (by omega);have hpn:=hpn hlt;have an:=ha.next hlt;have hw:=Xah (n:=(p:Int)+1) (by omega);have hc:(p:Int)+1=((p+1:Nat):Int):=by omega
   simp[hs,e0,g,gb,m0,m1,h1,h2,rg hb,rs hb,Xbm hr,hw];rw[hc];refine(f107 e ln 45 an.n an.ok an.p an.ln k (by omega)).call hE hr hb _ rfl (failQ.ref rfl) ?_;rintro _ _ e' ln' ⟨rfl,rfl,q1,q2⟩;simp[hs,m0]
   have q3:e'≠0/\ok64 e':=by
    rw[q1];split
    ·exact⟨by omega,by simp[ok64]⟩
    ·rename_i h;exact⟨h,ha.e⟩
   rw[hc];exact RdP.mkX (p+1) rfl ⟨.mk 0 ⟨#[]⟩ 0 [] tl,by simp,⟨by simp[ok64],by simp[ok64],htl,trivial⟩,⟨by omega,hlt,q3.2,q2,fun _=>q3.1⟩,fun h=>absurd h q3.1,by simp only[T.wt,T.wtL,sz0];omega⟩
 ·by_cases k5:tkd=5
  ·subst k5;have h6:¬ts=⟨#[123]⟩:=fun h=>h5 ⟨rfl,h⟩;simp[hs,e0,g,gb,m0,m1,h6];refine ex _ fun t p2 e2 ln2 ht g2 w1 w2=>?_;obtain⟨op2,ss2,nn2,l2,line2⟩:=t;simp[hs,e0,m1];refine Xbp (ha.to g2) (by omega) hE2 hr hb _ fun p3 e3 ln3 g3 q3=>?_;simp[hs,m0];exact fin (.mk op2 ss2 nn2 l2 line2) p3 e3 ln3 _ _ ht (g2.trans g3) (fun h=>by have:=w1 (g3.e0 h);omega) (by omega)
  by_cases k1:tkd=1
  ·subst k1;by_cases k6:ukd=5
   ·subst k6;have h6:¬us=⟨#[58]⟩:=fun h=>h1 ⟨rfl,rfl,h⟩;simp[hs,e0,g,gb,m0,m1,h6];refine ex _ fun t p2 e2 ln2 ht g2 w1 w2=>?_;obtain⟨op2,ss2,nn2,l2,line2⟩:=t;simp[hs,e0,m1];refine Xbp (ha.to g2) (by omega) hE2 hr hb _ fun p3 e3 ln3 g3 q3=>?_;simp[hs,m0];exact fin (.mk op2 ss2 nn2 l2 line2) p3 e3 ln3 _ _ ht (g2.trans g3) (fun h=>by have:=w1 (g3.e0 h);omega) (by omega)
   ·simp[hs,e0,g,gb,m0,m1,k6];refine ex _ fun t p2 e2 ln2 ht g2 w1 w2=>?_;obtain⟨op2,ss2,nn2,l2,line2⟩:=t;simp[hs,e0,m1];refine Xbp (ha.to g2) (by omega) hE2 hr hb _ fun p3 e3 ln3 g3 q3=>?_;simp[hs,m0];exact fin (.mk op2 ss2 nn2 l2 line2) p3 e3 ln3 _ _ ht (g2.trans g3) (fun h=>by have:=w1 (g3.e0 h);omega) (by omega)
  ·simp[hs,e0,g,gb,m0,m1,k5,k1,h2];refine ex _ fun t p2 e2 ln2 ht g2 w1 w2=>?_;obtain⟨op2,ss2,nn2,l2,line2⟩:=t;simp[hs,e0,m1];refine Xbp (ha.to g2) (by omega) hE2 hr hb _ fun p3 e3 ln3 g3 q3=>?_;simp[hs,m0];exact fin (.mk op2 ss2 nn2 l2 line2) p3 e3 ln3 _ _ ht (g2.trans g3) (fun h=>by have:=w1 (g3.e0 h);omega) (by omega)
structure ParW(tk:List Tk)(k:Nat):Prop where
 par:Par tk k
 jump:∀{p e ln} (w:ByteArray),At tk p e ln->p<tk.length->fu tk p e 33<=k->WdC k 168 tk p e ln w
 word:∀{p e ln} (w:ByteArray),At tk p e ln->p<tk.length->fu tk p e 34<=k->WdC k 146 tk p e ln w
theorem fu_0{tk:List Tk}{p:Nat}{e:Int}{c:Nat}(h:fu tk p e c<=0):False:=by unfold fu at h;omega
theorem parW(tk:List Tk):∀k,ParW tk k
 |0=>⟨⟨fun _ h=>(fu_0 h).elim,fun _ h=>(fu_0 h).elim,fun _ _ _ h=>(fu_0 h).elim,fun _ h=>(fu_0 h).elim,fun _ h=>(fu_0 h).elim,fun _ _ _ _ h=>(fu_0 h).elim,fun _ _ _ _ h=>absurd h (by omega),fun _ h=>(fu_0 h).elim,fun _ h=>(fu_0 h).elim,fun _ h=>(fu_0 h).elim,fun _ h=>(fu_0 h).elim,fun _ h=>(fu_0 h).elim,fun _ h=>(fu_0 h).elim,fun _ h=>(fu_0 h).elim,fun _ h=>(fu_0 h).elim⟩,fun _ _ _ h=>(fu_0 h).elim,fun _ _ _ h=>(fu_0 h).elim⟩
 |k+1=>by obtain⟨hP,hJ,hW⟩:=parW tk k;exact⟨⟨Xxh hP,Xxi hP,fun lv h=>Xts hP lv h,Xq7 hP,Xtp hP,fun t b h=>Xtr hP t b h,fun t b h=>Xq8 t b h,Xxg hP,Xq9 hP,Xxj hP,Xxe hP,Xtt hP,Xtq hP,fun a h=>Xxd hP (fun w h1 h2=>hW w a h1 h2) a h,Xq6 hP⟩,fun w a h1 h2=>Xxf hP w a h1 h2,fun w a h1 h2=>Xxc hP w (fun h=>hJ w a h1 h) a h1 h2⟩
theorem Tk.len_pot:∀l:List Tk,32*l.length<=Tk.pot l
 |[]=>by simp
 |t::r=>by have:=Tk.len_pot r;simp only[Tk.pot,List.length_cons];omega
theorem Xoh{k f args args' tk p e ln Q}(h:RdC k f args tk p e ln Q){E:Env}{H:List ABlk}{I:List (Nat×Nat)}(hE:E.Wf ⟨H,I⟩)(a:ABlk)(l:List ABlk)(hf:args'.map AV.arg=args)(hq:∀w p' e' ln',Q w p' e' ln'->w.refs=[])
  {P:Rt AV×St->Prop} (hp:∀w p' e' ln',Q w p' e' ln'->P (.ok w,⟨H++a::.cells 126 (RQ tk (p':Nat) e' ln')::l,I⟩)):
  obP (doCall (aCall prog k) E .full (.fn f) (.ptr (H.length+1) 0::args') ⟨H++a::.cells 126 (RQ tk p e ln)::l,I⟩) P:=by
 have e1:∀c,H++a::c::l=(H++ [a,a]).set (H.length+1) c++l:=fun c=>by rw[List.set_append_right _ _ (by omega)];simp
 have hE2:E.Wf ⟨H++ [a,a],I⟩:=hE.of (by simp) (Nat.le_refl _);have:=h.call (P:=P) (rb:=H.length+1) (ty:=126) hE2 (by have:=hE.rob;simp only at this;omega) (by simp) l hf hq (fun w p' e' ln' q=>by rw[<-e1];exact hp w p' e' ln' q)
 rwa [<-e1]at this
@[simp] theorem wr40(a b c d x:AV):wrC [a,b,c,d] 0 [x]=[x,b,c,d]:=nr rfl
def isPrs(n:Nat)(w:AV):Prop:=∃(t:T) (a b:Int),w=.tup [.agg t.enc,.int .i64 a,.int .i64 b]/\t.ok/\t.wt<=n
theorem isPrs.no(n:Nat)(hn:1<=n)(a b:Int):isPrs n (.tup [.agg [.int .i64 0,.str ⟨#[]⟩,.int .i64 0,.sl none 0 [],.int .i64 0],.int .i64 a,.int .i64 b]):=
 ⟨.mk 0 ⟨#[]⟩ 0 [] 0,a,b,rfl,⟨by simp[sz0],by simp,by simp[ok64],by simp[ok64],by simp[ok64],trivial⟩,by simp only[T.wt,T.wtL,sz0];omega⟩
theorem f46(tk:List Tk)(hok:∀t∈tk,t.ok)(hpot:Tk.pot tk<=66000)(k:Nat)(hk:300000<=k):PureE k 46 [.sl none tk.length (Tk.encL tk)] (isPrs 70000):=by
 intro E st hE;obtain⟨H,I⟩:=st;have hlen:=Tk.len_pot tk;obtain⟨k,rfl⟩:=uK (k:=k) (by omega);refine Xai rfl rfl (by decide) fun s hs e0=>?_;have ha:At tk 0 0 0:=⟨by omega,hok,by omega,by simp[ok64],by simp[ok64],by omega⟩;have m0:=Xaa hE H.length;have mj:=fun j=>Xaa hE (H.length+j);have hfu:fu tk 0 0 (if(0:Int)=0 then 40 else 5)<=k:=by unfold fu mu;simp only[if_true];omega
 simp[hs,e0];show obP (doCall _ _ _ _ _ ⟨H++ .cells 24 [.int .i64 0,.str ⟨#[]⟩,.int .i64 0,.nils,.int .i64 0]::.cells 126 (RQ tk ((0:Nat):Int) 0 0)::[],I⟩) _;refine Xoh ((parW tk k).par.stmts ha hfu) hE _ _ rfl ListQ.ref ?_;rintro _ p1 e1 ln1 ⟨l,rfl,hl,g1,hw1,hw2⟩;have a1:=ha.to g1;have hp1:=Xw7 tk p1;have zero:=fun a b=>isPrs.no 70000 (by omega) a b;by_cases hz:e1=0;rotate_left
 ·simp[hs,e0,hz,mj,m0];exact⟨Grow.appH ⟨H,I⟩ _,zero _ _⟩
 subst hz;have hw1:=hw1 rfl;by_cases hlt:p1<tk.length
 ·simp[hs,e0,mj,hlt];refine Xoh (f74 0 ln1 true a1.n a1.ok a1.p a1.e a1.ln k (by omega)) hE _ _ rfl stopQ.ref ?_;rintro _ p2 e2 ln2 ⟨rfl,rfl,q1,q2,q3⟩;simp[hs,e0,q1,m0];exact⟨Grow.appH ⟨H,I⟩ _,zero _ _⟩
 have htok:(T.mk 32 ⟨#[]⟩ 0 l 0).ok:=T.ok_of _ ⟨by simp[ok64],by simp[ok64],by simp[ok64],hl⟩ (by simp only[T.wt,sz0];omega);have c27:=fun Hx=>(f27 _ htok k (by simp only[T.wt,sz0];omega)).full (E:=E) (st:=⟨H++Hx,I⟩) rfl (hE.of (by simp) (Nat.le_refl _));simp only[T.enc]at c27;cases hr:right (.mk 32 ⟨#[]⟩ 0 l 0)
 ·rw[hr]at c27;simp[hs,e0,mj,hlt,c27,m0];exact⟨Grow.appH ⟨H,I⟩ _,zero _ _⟩
 rw[hr]at c27;by_cases h0:0<tk.length
 ·obtain⟨t,ht⟩:∃t,tk[0]?=some t:=⟨_,List.getElem?_eq_getElem h0⟩;have h3:=Tk.cell ht 3 (by omega);simp[hs,e0,mj,hlt,c27,m0,h0,h3,Tk.enc];exact⟨Grow.appH ⟨H,I⟩ _,.mk 32 ⟨#[]⟩ 0 l t.line,0,0,rfl,T.ok_of _ ⟨by simp[ok64],by simp[ok64],Xg5 hok ht,hl⟩ (by simp only[T.wt,sz0];omega),by simp only[T.wt,sz0];omega⟩
 ·simp[hs,e0,mj,hlt,c27,m0,h0];exact⟨Grow.appH ⟨H,I⟩ _,.mk 32 ⟨#[]⟩ 0 l 0,0,0,rfl,htok,by simp only[T.wt,sz0];omega⟩
theorem isPrs.ref{n:Nat}:∀w,isPrs n w->w.refs=[]:=by rintro _ ⟨t,a,b,rfl,_⟩;simp[T.enc_refs]
theorem isToks.ref{n:Nat}:∀w,isToks n w->w.refs=[]:=by rintro _ ⟨l,rfl,_⟩;simp only[AV.refs,Tk.encL_refs]
def isTree(n:Nat)(w:AV):Prop:=∃t:T,w=.agg t.enc/\t.ok/\t.wt<=n
theorem isTree.ref{n:Nat}:∀w,isTree n w->w.refs=[]:=by rintro _ ⟨t,rfl,_⟩;simp only[AV.refs,T.enc_refs]
theorem f24(t:ByteArray)(ht:t.size<=2000)(k:Nat)(hk:300010<=k):PureE k 24 [.str t] (isTree 70000):=by intro E st hE;obtain⟨H,I⟩:=st;obtain⟨k,rfl⟩:=uK (k:=k) (by omega);refine Xai rfl rfl (by decide) fun s hs e0=>?_;have m0:=Xaa hE H.length;have mj:=fun j=>Xaa hE (H.length+j);have hE2:∀Hx,E.Wf ⟨H++Hx,I⟩:=fun Hx=>hE.of (by simp) (Nat.le_refl _);simp[hs,e0];refine(f47 t (by omega) k (by omega)).call isToks.ref (hE2 _) rfl ?_;rintro _ ⟨tk,rfl,hok,hpot⟩;simp[hs];refine(f46 tk hok (by omega) k (by omega)).call isPrs.ref (hE2 _) (by simp[Tk.encL_fin]) ?_;rintro _ ⟨⟨op,ss,nn,l,line⟩,a,b,rfl,htok,hwt⟩;simp[hs,m0,mj];exact⟨Grow.appH ⟨H,I⟩ _,.mk op ss nn l line,rfl,htok,hwt⟩
theorem Xmy(x:ByteArray)(n:Nat):(x.extract 0 n).size<=n:=by rw[ByteArray.size_extract];omega
theorem Xi0(t:T):∀f∈(rulesM t).1,f.vars.length<=1000000:=by
 have h1:=Xcq t;unfold rulesM;simp only;split
 ·simp
 ·split
  ·simp
  ·intro f hf;have:=(h1.2 f hf).1;omega
theorem f12(z:ByteArray)(k:Nat)(hk:2100000000<=k)(E:Env)(st:St)(hE:E.Wf st)
    (h32:doCall (aCall prog k) E .full (.fn 32) [] st=some (.ok (.bool true),st)):CallQ (k+1) E 12 [.str z] st (Tru st):=by
  have hmw:=Xaa hE;have hmw1:∀j x y,Xaf E (st.H.length+j) x y=true:=fun j x y=>hmw _ _ _ (by omega);have hE1:∀y,E.Wf ⟨st.H++y,st.I⟩:=fun y=>hE.of (by simp) (by simp)
  have parts:∀t:T,t.ok->t.wt<=70000->∃fs S F Rs x y,
      (∀st3,E.Wf st3->doCall (aCall prog k) E .full (.fn 33) [.agg t.enc] st3=some (.ok (.tup [.sl none fs.length (encFs fs),.agg (sysE S F Rs),.int .i64 x,.int .i64 y]),st3))/\
      (∀st3,E.Wf st3->doCall (aCall prog k) E .full (.fn 34) [.agg t.enc] st3=some (.ok (.tup [.sl none fs.length (encFs fs),.agg (sysE S F Rs),.int .i64 x,.int .i64 y]),st3))/\
      (∀st3,E.Wf st3->doCall (aCall prog k) E .full (.fn 22) [.sl none fs.length (encFs fs),.sl none fs.length (encFs fs)] st3=some (.ok (.bool true),st3))/\
      (∀st3,E.Wf st3->doCall (aCall prog k) E .full (.fn 35) [.agg (sysE S F Rs),.agg (sysE S F Rs)] st3=some (.ok (.bool true),st3)):=fun t ht hw=>by
    have c33:=fun st3 (h:E.Wf st3)=>(Xks t ht (by omega) k (by omega)).full (E:=E) (st:=st3) (Xjy _) h;have c34:=fun st3 (h:E.Wf st3)=>(Xtk t ht (by omega) k (by omega)).full (E:=E) (st:=st3) (Xjy _) h;obtain⟨h1,h2,h3⟩:=Xkr t;obtain⟨b1,b2⟩:=Xm1 t (by omega);have c22:=fun st3 (h:E.Wf st3)=>(f22 (rulesM t).1 (by omega) (Xi0 t) k (by omega)).full (E:=E) (st:=st3) rfl h (by simp[Xfw]);have c35:=fun st3 (h:E.Wf st3)=>(f35 (rulesM t).2.1.1 (rulesM t).2.1.2.1 (rulesM t).2.1.2.2 (by omega) (by omega) b1 b2 k (by omega)).full (E:=E) (st:=st3) rfl h (by simp[sysE,Xeh,Xfv]);rw[Xm0]at c33 c34;generalize rulesM t=R at*;obtain⟨fs,⟨S,F,Rs⟩,x,y⟩:=R;exact⟨fs,S,F,Rs,x,y,c33,c34,c22,c35⟩
  refine Xai rfl rfl (by decide) fun s hs e0=>?_;by_cases hx:2000<z.size
  ·have hx':(2000:Int)<z.size:=by omega
   have hle:2000<=z.size:=by omega
   simp[hs,e0,h32,hx',hle];refine(f24 (z.extract 0 2000) (Xmy z 2000) k (by omega)).call isTree.ref hE rfl ?_;rintro _ ⟨t,rfl,ht,hw⟩;obtain⟨fs,S,F,Rs,x,y,c33,c34,c22,c35⟩:=parts t ht hw;obtain⟨op,s0,nn,l,line⟩:=t;simp only[T.enc,sysE]at c33 c34 c35;simp[hs,e0,c33 _ (hE1 _),Xag,hmw,hmw1,wrC];simp[hs,e0,c34 _ (hE1 _),Xag,hmw1,wrC];simp[hs,c22 _ (hE1 _),c35 _ (hE1 _)];exact .of (Grow.appH _ _)
  ·have hx':¬(2000:Int)<z.size:=by omega
   simp[hs,e0,h32,hx'];refine(f24 z (by omega) k (by omega)).call isTree.ref hE rfl ?_;rintro _ ⟨t,rfl,ht,hw⟩;obtain⟨fs,S,F,Rs,x,y,c33,c34,c22,c35⟩:=parts t ht hw;obtain⟨op,s0,nn,l,line⟩:=t;simp only[T.enc,sysE]at c33 c34 c35;simp[hs,e0,c33 _ (hE1 _),Xag,hmw,hmw1,wrC];simp[hs,e0,c34 _ (hE1 _),Xag,hmw1,wrC];simp[hs,c22 _ (hE1 _),c35 _ (hE1 _)];exact .of (Grow.appH _ _)
theorem says12(x:ByteArray)(_:x.size<=1048576):Says 12 [.str x]:=
 Xti (f12 x 2100000000 (Nat.le_refl _) E0 ⟨[],[]⟩ wf0 (Xej (Xgh (by omega)) _ _ _ _ _ _ k32e))
end Go.Proofs.YP
