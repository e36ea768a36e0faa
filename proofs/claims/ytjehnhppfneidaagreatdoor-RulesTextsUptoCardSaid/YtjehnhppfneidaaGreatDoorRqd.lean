/- Texts that the laws of the seat rest on: an abstract machine, what the functions answer in it, plain laws. -/
import Derived.Test.YtjehnhppfneidaaGreatDoorRqc
set_option linter.unusedVariables false
set_option linter.unusedSimpArgs false
set_option linter.unusedSectionVars false
namespace Go.Proofs.YP
open Go
def Xhr(zq:List (AOper×Nat))(k:Nat):Bool:=match zq[k]? with
 |some (o,_)=>Xak o.op
 |none=>false
def Xdg(zq:List (AOper×Nat))(k:Nat):Nat:=match zq[k]? with
 |some (_,m)=>m
 |none=>0
def Xh5(zq:List (AOper×Nat))(D:Nat->Bool):Prop:=∀i,D i=true->∀k,(Xdg zq i).testBit k=true->D k=true
def Xba(listed:Array Bool)(k:Nat):Bool:=listed.getD k false
section
variable{P:Program}{GT:Nat->Option (List AV)}{C:CSem}{E:Env}{ops:Array Oper}{zq:List (AOper×Nat)}{s:Nat->List AV}{S:Nat->St}{V:Nat->AV}{L:Nat->Bool}
theorem Xos(zq:List (AOper×Nat))(k:Nat):(zq.map (·.2)).getD k 0=Xdg zq k:=by unfold Xdg;rw[List.getD_eq_getElem?_getD,List.getElem?_map];cases zq[k]?<;>rfl
theorem Xij(hmk:Xfg ops 0 ops.toList zq []=true)(hlen:zq.length=ops.size){listed:Array Bool}(hsz:listed.size=ops.size)(hcl:Xh5 zq (Xba listed)){i:Nat}(h:i∈Region.ready .any ops listed):
  i<ops.size/\Xba listed i=false/\∀k,(Xdg zq i).testBit k=true->Xba listed k=true:=by
 obtain⟨h1,o,ho,h2⟩:=mem_ready.1 h;have hi:i<ops.size:=(Array.getElem?_eq_some_iff.1 ho).1;have hd:Xba listed i=false:=by unfold Xba;simp only[Array.getD_eq_getD_getElem?]at h1⊢;rw[Array.getElem?_eq_getElem (by omega)]at h1⊢;exact h1
 refine⟨hi,hd,fun k hk=>?_⟩;have hai:zq[i]?=some zq[i]:=List.getElem?_eq_getElem (by omega);have hm:=(Xff hmk rfl i o zq[i].1 zq[i].2 (by simpa using ho) hai).1 k (by simpa [Xdg,hai]using hk);obtain⟨e,he,hb,hc⟩:=hm;have hon:=h2 e he hb;rcases hc with rfl|hc
 ·exact hon
 ·simp only[List.nil_append]at hc;rw[Xos]at hc;exact hcl e.on hon k hc
theorem Xog(hmk:Xfg ops 0 ops.toList zq []=true)(hlen:zq.length=ops.size){listed:Array Bool}(hsz:listed.size=ops.size)(h:Region.ready .any ops listed=[]):∀k,k<ops.size->Xba listed k=true:=by
 intro k;induction k using Nat.strongRecOn with
 |_ k ih=>
  intro hk;cases hd:Xba listed k with
  |true=>rfl
  |false=>
   have:k∈Region.ready .any ops listed:=by
    refine mem_ready.2 ⟨?_,ops[k],Array.getElem?_eq_getElem hk,fun e he hb=>?_⟩
    ·unfold Xba at hd;simp only[Array.getD_eq_getD_getElem?]at hd⊢;rw[Array.getElem?_eq_getElem (by omega)]at hd⊢;exact hd
    ·have hlt:=(Xff hmk rfl k ops[k] zq[k].1 zq[k].2 (by simp[hk]) (List.getElem?_eq_getElem (by omega))).2 e he hb;have hlt:e.on<k:=by simpa using hlt
     exact ih e.on hlt (by omega)
   rw[h]at this;cases this
variable(hT:Trc GT C E zq S L s V 0 [(none,S 0)])
include hT
theorem Xea{a b:Nat}(hab:a<=b)(h:∀k,a<=k->k<b->L k=true->Xhr zq k=true->False)(hL:∀k,L k=true->k<zq.length):S b=S a:=by
  induction b with
  |zero=>have:a=0:=by omega
         rw[this]
  |succ b ih=>
    rcases Nat.eq_or_lt_of_le hab with rfl|hab'
    ·rfl
    ·have e:=ih (by omega) fun k h1 h2=>h k h1 (by omega);rw[<-e];cases hb:L b with
     |false=>exact(hT.dead b (Nat.zero_le _) hb).2
     |true=>
       have hlt:=hL b hb;have hx:=List.getElem?_eq_getElem hlt;have h2:=(hT.live b zq[b].1 zq[b].2 (Nat.zero_le _) hx hb).2.1;apply h2;cases he:Xak zq[b].1.op with
       |false=>rfl
       |true=>exact(h b (by omega) (by omega) hb (by simp[Xhr,hx,he])).elim
theorem Xse(hS:Xey C)(hw:E.Wf (S 0))(hL:∀k,L k=true->k<zq.length):∀q,E.Wf (S q)
 |0=>hw
 |q+1=>by
  have ih:=Xse hS hw hL q;cases hb:L q with
  |false=>rw[(hT.dead q (Nat.zero_le _) hb).2];exact ih
  |true=>
   have hlt:=hL q hb;have hx:=List.getElem?_eq_getElem hlt;rcases(hT.live q zq[q].1 zq[q].2 (Nat.zero_le _) hx hb).2.2 with⟨_,h,_⟩|⟨_,_,h⟩
   ·exact(Xet hS ih h).wf ih
   ·rw[h];exact ih
theorem Xlo(hL:∀k,L k=true->k<zq.length):∀j,∃x r,stg zq S L 0 [(none,S 0)] j=(x,S j)::r
 |0=>⟨none,[],rfl⟩
 |j+1=>by
  obtain⟨x,r,h⟩:=Xlo hL j;simp only[stg];rw[if_neg (by omega)];by_cases he:effL zq L j=true
  ·rw[if_pos he];exact⟨_,_,rfl⟩
  ·rw[if_neg he,h]
   have:S (j+1)=S j:=Xea hT (Nat.le_succ j) (fun k h1 h2 hl hk=>by
    have:k=j:=by omega
    subst this;apply he;simp only[effL,hl,Bool.true_and];exact hk) hL
   rw[this];exact⟨x,r,rfl⟩
theorem Xlc(hL:∀k,L k=true->k<zq.length){o:AOper}{sl:List AV}{v:AV}{m:Nat}:∀{j:Nat},Xbb GT C E o sl v m (stg zq S L 0 [(none,S 0)] j)=true->
    ∀q,q<=j->(∀k,q<=k->k<j->L k=true->Xhr zq k=true->m.testBit k=false)->S q=S j\/sameAt GT C E o sl (S q) v=true
  |0,h,q,hq,hm=>by have:q=0:=by omega
                   rw[this];exact .inl rfl
  |j+1,h,q,hq,hm=>by
    rcases Nat.eq_or_lt_of_le hq with rfl|hq'
    ·exact .inl rfl
    ·simp only[stg]at h;rw[if_neg (by omega)]at h;by_cases he:effL zq L j=true
     ·rw[if_pos he]at h;obtain⟨x,r,hh⟩:=Xlo hT hL j;rw[hh]at h;have hel:L j=true/\Xhr zq j=true:=by simp only[effL,Bool.and_eq_true]at he;exact he
      have hmj:=hm j (by omega) (by omega) hel.1 hel.2;simp only[Xbb,hmj,Bool.false_or,Bool.and_eq_true]at h;rw[<-hh]at h;rcases Xlc hL h.2 q (by omega) (fun k h1 h2=>hm k h1 (by omega))with h'|h'
      ·rw[h'];exact .inr h.1
      ·exact .inr h'
     ·rw[if_neg he]at h
      have hSj:S (j+1)=S j:=Xea hT (Nat.le_succ j) (fun k h1 h2 hl hk=>by
        have:k=j:=by omega
        subst this;apply he;simp only[effL,hl,Bool.true_and];exact hk) hL
      rw[hSj];exact Xlc hL h q (by omega) (fun k h1 h2=>hm k h1 (by omega))
theorem Xy9(hL:∀k,L k=true->k<zq.length){i:Nat}{o:AOper}{v:AV}
  (hf:∀k o' m',i<k->zq[k]?=some (o',m')->L k=true->Xak o'.op=true->Xbz o' (s k)=true->m'.testBit i=true\/sameAt GT C E o (s i) (S (k+1)) v=true):
  ∀q,i+1<=q->(∀k,i<k->k<q->L k=true->Xhr zq k=true->(Xdg zq k).testBit i=false)->S q=S (i+1)\/sameAt GT C E o (s i) (S q) v=true:=by
 intro q;induction q with
 |zero=>intro h;omega
 |succ q ih=>
  intro hq hm;rcases Nat.eq_or_lt_of_le hq with e|hq'
  ·have:q=i:=by omega
   subst this;exact .inl rfl
  ·have ih':=ih (by omega) fun k h1 h2=>hm k h1 (by omega);have same:S (q+1)=S q->S (q+1)=S (i+1)\/sameAt GT C E o (s i) (S (q+1)) v=true:=fun e=>by rw[e];exact ih'
   cases hb:L q with
   |false=>exact same (hT.dead q (Nat.zero_le _) hb).2
   |true=>
    have hlt:=hL q hb;have hx:=List.getElem?_eq_getElem hlt;obtain⟨_,h2,h3⟩:=hT.live q zq[q].1 zq[q].2 (Nat.zero_le _) hx hb;cases he:Xak zq[q].1.op with
    |false=>exact same (h2 he)
    |true=>
     rcases h3 with⟨hw,_,_⟩|⟨_,_,h⟩
     ·rcases hf q zq[q].1 zq[q].2 (by omega) hx hb he hw with h|h
      ·have:=hm q (by omega) (by omega) hb (by simp[Xhr,hx,he]);simp only[Xdg,hx]at this;rw[h]at this;cases this
      ·exact .inr h
     ·exact same h
theorem Xfk(hfr:Xke zq=true)(hL:∀k,L k=true->k<zq.length):∀i,i<=zq.length->s i=slw zq V (fun k=>decide (k<i) && L k) (List.range zq.length) (s 0)
 |0,_=>by
  have:∀(l:List Nat) (x:List AV),slw zq V (fun k=>decide (k<0) && L k) l x=x:=fun l=>by
   induction l with
   |nil=>intro x;rfl
   |cons k l ih=>intro x;simp only[slw];rw[if_neg (by simp)];exact ih x
  exact(this _ _).symm
 |i+1,hi=>by
  have ih:=Xfk hfr hL i (by omega);cases hb:L i with
  |false=>
   rw[(hT.dead i (Nat.zero_le _) hb).1,ih];refine Xdf _ _ fun k _=>?_;by_cases hk:k=i
   ·subst hk;simp[hb]
   ·have:decide (k<i)=decide (k<i+1):=by simp;omega
    rw[this]
  |true=>
   have hx:=List.getElem?_eq_getElem (by omega:i<zq.length);rw[(hT.live i zq[i].1 zq[i].2 (Nat.zero_le _) hx hb).1];have hd:zq[i].1.dst=Xdq zq i:=by simp[Xdq,hx]
   rw[hd,ih,<-Xn9 (D:=fun k=>decide (k<i) && L k) (n:=zq.length) (by omega) (by simp) (fun k h1 h2 h3=>by simp at h3;omega)];refine Xdf _ _ fun k _=>?_;by_cases hk:k=i
   ·subst hk;simp[hb]
   ·have:decide (k<i)=decide (k<i+1):=by simp;omega
    simp[this,hk]
end
section
variable{P:Program}{GT:Nat->Option (List AV)}{C:CSem}(hC:Xd7 P GT C)(hS:Xey C){E:Env}{ops:Array Oper}{zq:List (AOper×Nat)}{s:Nat->List AV}{S:Nat->St}{V:Nat->AV}{L:Nat->Bool}
  (hlen:zq.length=ops.size) (hsk:∀i ao m (hi:i<ops.size),zq[i]?=some (ao,m)->ops[i].dst=ao.dst/\gdOK ops ops[i] ao=true) (hmk:Xfg ops 0 ops.toList zq []=true) (hfr:Xke zq=true)
  (hT:Trc GT C E zq S L s V 0 [(none,S 0)]) {res:Rt (List AV)} {st':St} (hO:Outc GT C E zq S L s 0 res st') (hw:E.Wf (S 0)) (hL:∀k,L k=true->k<zq.length)
  {w0:World} {rd:Option Nat} {F:Fence} {Q:Exit->Act->World->Prop} {W:List Nat} {a0:Act} {G:Gh} (hW:∀k d,Xdq zq k=some d->d∈W) (hF:RF G rd F) (hG:HGT GT G)
  (hok:∀s' a' w' G',res=.ok s'->G.Le G'->Inv P GT w0 G' st' w'->RVs G' s' a'.tmps.toList->SameB W a0 a'->Q .normal a' w')
  (hpan:∀v x a' w' G',res=.pan v->G.Le G'->Inv P GT w0 G' st' w'->RV G' v x->SameB W a0 a'->Q (.panic [{v:=x,recovered:=false}]) a' w')
  (J:(Nat->Bool)->Gh->St->Act->World->Prop)
  (hstep:∀(D:Nat->Bool) (i q:Nat) (hi:i<ops.size) (ao:AOper) (m:Nat) (G':Gh) (a:Act) (w:World) (r:Rt AV) (st2:St) (next:Act->World->Prop),
    zq[i]?=some (ao,m)->Xh5 zq D->D i=false->(∀k,m.testBit k=true->D k=true)->G.Le G'->E.Wf (S q)->J D G' (S q) a w->RVs G' (slw zq V D (List.range zq.length) (s 0)) a.tmps.toList->
    Xbz ao (slw zq V D (List.range zq.length) (s 0))=true->aExec GT C E ao.op (slw zq V D (List.range zq.length) (s 0)) (S q)=some (r,st2)->
    (∀v x w' G2,r=.ok v->G'.Le G2->J (fun k=>D k||decide (k=i)) G2 st2 (a.put ops[i].dst x) w'->RV G2 v x->next (a.put ops[i].dst x) w')->
    (∀v x w' G2,r=.pan v->G'.Le G2->Inv P GT w0 G2 st2 w'->RV G2 v x->Q (.panic [{v:=x,recovered:=false}]) a w')->ops[i].wpIn F 0 P a w next Q)
  (hskip:∀(D:Nat->Bool) (i:Nat) (hi:i<ops.size) (ao:AOper) (m:Nat) (G':Gh) (st:St) (a:Act) (w:World),zq[i]?=some (ao,m)->D i=false->Xbz ao (slw zq V D (List.range zq.length) (s 0))=false->J D G' st a w->J (fun k=>D k||decide (k=i)) G' st (a.put ops[i].dst undef) w)
  (hend:∀(D:Nat->Bool) (G':Gh) (st:St) (a:Act) (w:World),(∀k,k<ops.size->D k=true)->J D G' st a w->Inv P GT w0 G' st w)
include hS hlen hsk hmk hfr hT hO hw hL hW hF hok hpan hstep hskip hend
theorem Xit:∀(fuel:Nat) (listed:Array Bool) (a:Act) (w:World) (G':Gh) (q:Nat),listed.size=ops.size->listed.toList.count false=fuel->Xh5 zq (Xba listed)->(∀k,Xba listed k=true->L k=true)->
    (∀k,k<zq.length->Xhr zq k=true->(Xba listed k=true↔k<q))->q<=zq.length->G.Le G'->J (Xba listed) G' (S q) a w->RVs G' (slw zq V (Xba listed) (List.range zq.length) (s 0)) a.tmps.toList->SameB W a0 a->
    wpAnyIn F 0 P .any ops Q fuel listed a w:=by
  intro fuel
  have done:∀(listed:Array Bool) (a:Act) (w:World) (G':Gh) (q:Nat),listed.size=ops.size->(∀k,Xba listed k=true->L k=true)->
      (∀k,k<zq.length->Xhr zq k=true->(Xba listed k=true↔k<q))->q<=zq.length->G.Le G'->J (Xba listed) G' (S q) a w->RVs G' (slw zq V (Xba listed) (List.range zq.length) (s 0)) a.tmps.toList->SameB W a0 a->
      (∀k,k<ops.size->Xba listed k=true)->Q .normal a w:=by
    intro listed a w G' q hsz hDL heff hq hle hI hs hd hall;cases hO with
    |ok hLall=>
      have e1:S zq.length=S q:=Xea hT hq (fun k h1 h2 hl he=>by have:=(heff k h2 he).1 (hall k (by omega));omega) hL
      have e2:s zq.length=slw zq V (Xba listed) (List.range zq.length) (s 0):=by
        rw[Xfk hT hfr hL zq.length (Nat.le_refl _)];refine Xdf _ _ fun k hk=>?_;have hk':k<zq.length:=by simpa using hk
        rw[hall k (by omega),hLall k (Nat.zero_le _) hk'];simpa using hk'
      exact hok _ a w G' rfl hle (by rw[e1];exact hend _ _ _ _ _ hall hI) (by rw[e2];exact hs) hd
    |pan p o m v st' hp ho he hwp hLp hlo hhi hx=>
      have hlt:p<zq.length:=uB ho;have:=hDL p (hall p (by omega));rw[hLp]at this;cases this
  induction fuel with
  |zero=>
    intro listed a w G' q hsz hcnt hcl hDL heff hq hle hI hs hd
    have hall:∀k,k<ops.size->Xba listed k=true:=fun k hk=>by
      rw[List.count_eq_zero]at hcnt;cases h:Xba listed k with
      |true=>rfl
      |false=>
        exfalso;apply hcnt;unfold Xba at h;rw[Array.getD_eq_getD_getElem?,Array.getElem?_eq_getElem (by omega)]at h;simp only[Option.getD_some]at h;rw[<-h];exact Array.mem_toList_iff.2 (Array.getElem_mem _)
    refine⟨?_,done listed a w G' q hsz hDL heff hq hle hI hs hd hall⟩;rw[List.eq_nil_iff_forall_not_mem];intro i hi;have:=Xij hmk hlen hsz hcl hi;rw[hall i this.1]at this;exact absurd this.2.1 (by simp)
  |succ fuel ih=>
    intro listed a w G' q hsz hcnt hcl hDL heff hq hle hI hs hd;refine⟨fun hr=>done listed a w G' q hsz hDL heff hq hle hI hs hd (Xog hmk hlen hsz hr),fun i hir=>?_⟩;obtain⟨hi,hdi,hmask⟩:=Xij hmk hlen hsz hcl hir;have hia:i<zq.length:=by omega
    have hx:=List.getElem?_eq_getElem hia;generalize hao:zq[i]=aom at hx;obtain⟨ao,m⟩:=aom;have hm:Xdg zq i=m:=by simp[Xdg,hx]
    rw[hm]at hmask;obtain⟨hdst,hgd⟩:=hsk i ao m hi hx
    have hlook:∀t∈ao.looks,L i=true->(slw zq V (Xba listed) (List.range zq.length) (s 0))[t]?=(s i)[t]?:=fun t ht hLi=>by
      rw[Xfk hT hfr hL i (by omega)];refine Xko _ _ _ rfl fun k hk hdk=>?_;have hkn:k<zq.length:=by simpa using hk
      have hxk:=List.getElem?_eq_getElem hkn;have hdk':zq[k].1.dst=some t:=by simpa [Xdq,hxk]using hdk
      rcases Nat.lt_trichotomy k i with h|h|h
      ·rcases Xcz hfr hxk hx h with hb|⟨_,hb,_⟩
       ·have h1:=hmask k hb;rw[h1,hDL k h1];simp[h]
       ·exact absurd ht (hb t hdk').1
      ·subst h;rw[hdi];simp
      ·have h2:Xba listed k=false:=by
          cases hdk2:Xba listed k with
          |false=>rfl
          |true=>
            rcases Xcz hfr hx hxk h with hb|⟨_,_,hb⟩
            ·have:=hcl k hdk2 i (by simpa [Xdg,hxk]using hb);rw[hdi]at this;cases this
            ·exact absurd ht (hb t hdk')
       rw[h2];have:¬k<i:=by omega
       simp[this]
    have heffi:Xak ao.op=true->∀k,k<zq.length->Xhr zq k=true->(k<q↔k<i):=fun he k hk hek=>by
      rw[<-heff k hk hek];have hxk:=List.getElem?_eq_getElem hk;have hek':Xak zq[k].1.op=true:=by simpa [Xhr,hxk]using hek
      rcases Nat.lt_trichotomy k i with h|h|h
      ·rcases Xcz hfr hxk hx h with hb|⟨hb,_⟩
       ·exact⟨fun _=>h,fun _=>hmask k hb⟩
       ·exact(hb he hek').elim
      ·subst h;rw[hdi];simp
      ·constructor
       ·intro hdk;rcases Xcz hfr hx hxk h with hb|⟨hb,_⟩
        ·have:=hcl k hdk i (by simpa [Xdg,hxk]using hb);rw[hdi]at this;cases this
        ·exact(hb hek' he).elim
       ·intro h';omega
    have hSqi:Xak ao.op=true->S q=S i:=fun he=>by
      rcases Nat.le_total q i with h|h
      ·exact(Xea hT h (fun k h1 h2 hl hek=>by have:=(heffi he k (by omega) hek).2 h2;omega) hL).symm
      ·exact Xea hT h (fun k h1 h2 hl hek=>by have:=(heffi he k (by omega) hek).1 h2;omega) hL
    have hwq:=Xse hT hS hw hL q
    have hD':∀k,Xba (listed.setIfInBounds i true) k=(Xba listed k||decide (k=i)):=fun k=>by
      unfold Xba;by_cases hk:k=i
      ·subst hk;rw[Array.getD_eq_getD_getElem?,Array.getElem?_setIfInBounds_self_of_lt (by omega)];simp
      ·rw[Array.getD_eq_getD_getElem?,Array.getElem?_setIfInBounds_ne (by omega),<-Array.getD_eq_getD_getElem?];simp[hk]
    have hcnt':(listed.setIfInBounds i true).toList.count false=fuel:=by
      rw[Array.toList_setIfInBounds,List.count_set (by simp;omega)];have:listed.toList[i]'(by simp;omega)=false:=by unfold Xba at hdi;rw[Array.getD_eq_getD_getElem?,Array.getElem?_eq_getElem (by omega)]at hdi;simpa using hdi
      rw[this,hcnt];simp
    have hcl':Xh5 zq (Xba (listed.setIfInBounds i true)):=fun j hj k hk=>by
      rw[hD']at hj⊢;simp only[Bool.or_eq_true,decide_eq_true_eq]at hj⊢;rcases hj with hj|rfl
      ·exact .inl (hcl j hj k hk)
      ·rw[hm]at hk;exact .inl (hmask k hk)
    have hslot:∀(v:AV),V i=v->slw zq V (Xba (listed.setIfInBounds i true)) (List.range zq.length) (s 0)=put (slw zq V (Xba listed) (List.range zq.length) (s 0)) ao.dst v:=fun v hv=>by
      have e1:Xdq zq i=ao.dst:=by simp[Xdq,hx]
      rw[<-hv,<-e1,<-Xn9 hia hdi (fun k h1 h2 hdk=>?_)]
      ·exact Xdf _ _ fun k _=>hD' k
      ·have hxk:=List.getElem?_eq_getElem h2;rcases Xcz hfr hx hxk h1 with hb|⟨_,hb,_⟩
       ·have:=hcl k hdk i (by simpa [Xdg,hxk]using hb);rw[hdi]at this;cases this
       ·cases hd:ao.dst with
        |none=>exact .inr (by rw[e1,hd])
        |some d=>
          refine .inl fun e=>?_;rw[e1,hd]at e;have:zq[k].1.dst=some d:=by rw[e];simp[Xdq,hxk]
          exact(hb d hd).2 this
    have hput:∀{G2:Gh} {v:AV} {x:Value},V i=v->G'.Le G2->RV G2 v x->RVs G2 (slw zq V (Xba (listed.setIfInBounds i true)) (List.range zq.length) (s 0)) (a.put (ops[i]).dst x).tmps.toList:=fun{G2 v x} hv hle2 hr=>by
      rw[hslot v hv,hdst];cases ao.dst with
      |none=>exact hs.mono hle2
      |some d=>simp only[put,Act.put,Array.toList_setIfInBounds];exact(hs.mono hle2).set d hr
    have hdef:∀x,SameB W a0 (a.put (ops[i]).dst x):=fun x=>hd.trans (SameB.put x fun d h=>hW i d (by simp only[Xdq,hx,Option.bind_some];rw[<-hdst];exact h))
    have go:L i=true->∀(x:Value) (w':World) (G2:Gh) (q':Nat),q'=(if Xak ao.op then i+1 else q)->G'.Le G2->J (fun k=>Xba listed k||decide (k=i)) G2 (S q') (a.put (ops[i]).dst x) w'->RV G2 (V i) x->
        wpAnyIn F 0 P .any ops Q fuel (listed.setIfInBounds i true) (a.put (ops[i]).dst x) w':=fun hLi x w' G2 q' hq' hle2 hI' hr=>by
      refine ih _ _ w' G2 q' (by simp[hsz]) hcnt' hcl' (fun k hk=>?_) (fun k hk hek=>?_) ?_ (hle.trans hle2) (by rw[show Xba (listed.setIfInBounds i true)=fun k=>Xba listed k||decide (k=i)from funext hD'];exact hI') (hput rfl hle2 hr) (hdef x)
      ·rw[hD']at hk;simp only[Bool.or_eq_true,decide_eq_true_eq]at hk;rcases hk with hk|rfl
       ·exact hDL k hk
       ·exact hLi
      ·rw[hD'];simp only[Bool.or_eq_true,decide_eq_true_eq];by_cases he:Xak ao.op=true
       ·rw[hq',if_pos he];have h1:=heffi he k hk hek;have h2:=heff k hk hek;rw[h2,h1];omega
       ·rw[hq',if_neg he,heff k hk hek];have:k≠i:=fun e=>by subst e;apply he;simpa [Xhr,hx]using hek
        simp[this]
      ·rw[hq'];split<;>omega
    have hgi:ops[i]?=some ops[i]:=Array.getElem?_eq_getElem hi;unfold wpOpIn;simp only[hgi];rw[Xg2 hgd hs];by_cases hLi:L i=true
    ·
      have hwant:Xbz ao (slw zq V (Xba listed) (List.range zq.length) (s 0))=Xbz ao (s i):=Xf3 fun t ht=>hlook t ht hLi;rw[hwant];obtain⟨_,hne,hcase⟩:=hT.live i ao m (Nat.zero_le _) hx hLi;have hSi1:Xak ao.op=false->S (i+1)=S i:=hne;rcases hcase with⟨hwi,hxi,hrd⟩|⟨hwi,hVi,hSi⟩
      ·rw[if_pos hwi]
       have hcg:∀st,aExec GT C E ao.op (slw zq V (Xba listed) (List.range zq.length) (s 0)) st=aExec GT C E ao.op (s i) st:=fun st=>
         Xin (fun t ht=>hlook t (by simp[AOper.looks,ht]) hLi) st
       by_cases he:Xak ao.op=true
       ·refine hstep _ i q hi ao m G' a w (.ok (V i)) (S (i+1)) _ hx hcl hdi hmask hle hwq hI hs (by rw[hwant];exact hwi) (by rw[hcg,hSqi he];exact hxi) (fun v x w' G2 hv hle2 hI' hr=>?_) (fun v x w' G2 hv=>by cases hv);cases hv;exact go hLi x w' G2 (i+1) (by rw[if_pos he]) hle2 hI' hr
       ·simp only[Bool.not_eq_true]at he
        have hxq:aExec GT C E ao.op (s i) (S q)=some (.ok (V i),S q):=by
          by_cases hr:reads ao.op=true
          ·obtain⟨hb,hf⟩:=hrd he hr;have at_i:aExec GT C E ao.op (s i) (S i)=some (.ok (V i),S i):=by rw[<-hSi1 he];rw[hSi1 he]at hxi⊢;exact hxi
           rcases Nat.lt_or_ge i q with hqi|hqi
           ·rcases Xy9 hT hL hf q (by omega) (fun k h1 h2 hl hek=>by
               have hkn:=hL k hl;have hxk:=List.getElem?_eq_getElem hkn;cases hb2:(Xdg zq k).testBit i with
               |false=>rfl
               |true=>
                 have:=hcl k ((heff k hkn hek).2 h2) i hb2;rw[hdi]at this;cases this)with h|h
            ·rw[h,hSi1 he];exact at_i
            ·exact Xjw he h
           ·rcases Xlc hT hL hb q hqi (fun k h1 h2 hl hek=>by
               cases hb2:m.testBit k with
               |false=>rfl
               |true=>
                 have:=(heff k (by omega) hek).1 (hmask k hb2);omega)with h|h
            ·rw[h];exact at_i
            ·exact Xjw he h
          ·simp only[Bool.not_eq_true]at hr;exact Xnu he hr hxi (S q)
        refine hstep _ i q hi ao m G' a w (.ok (V i)) (S q) _ hx hcl hdi hmask hle hwq hI hs (by rw[hwant];exact hwi) (by rw[hcg];exact hxq) (fun v x w' G2 hv hle2 hI' hr=>?_) (fun v x w' G2 hv=>by cases hv);cases hv;exact go hLi x w' G2 q (by rw[he];rfl) hle2 hI' hr
      ·rw[if_neg (by rw[hwi];simp)];refine⟨fun f _=>hF.fn f,?_⟩;have hru:RV G' (V i) undef:=by rw[hVi];simp[AV.undef,RV,RVs,undef]
       by_cases he:Xak ao.op=true
       ·exact go hLi undef w G' (i+1) (by rw[if_pos he]) (.refl G') (by rw[hSi,<-hSqi he];exact hskip _ i hi ao m G' _ a w hx hdi (by rw[hwant];exact hwi) hI) hru
       ·exact go hLi undef w G' q (by rw[if_neg he]) (.refl G') (hskip _ i hi ao m G' _ a w hx hdi (by rw[hwant];exact hwi) hI) hru
    ·
      simp only[Bool.not_eq_true]at hLi;cases hO with
      |ok hLall=>rw[hLall i (Nat.zero_le _) hia]at hLi;cases hLi
      |pan p o mp v st' hp ho he hwp hLp hlo hhi hxp=>
        rcases Nat.lt_trichotomy i p with h|h|h
        ·rw[hlo i (Nat.zero_le _) h]at hLi;cases hLi
        ·subst h;rw[hx]at ho;cases ho
         have hlook':∀t∈ao.looks,(slw zq V (Xba listed) (List.range zq.length) (s 0))[t]?=(s i)[t]?:=fun t ht=>by
           rw[Xfk hT hfr hL i (by omega)];refine Xko _ _ _ rfl fun k hk hdk=>?_;have hkn:k<zq.length:=by simpa using hk
           have hxk:=List.getElem?_eq_getElem hkn;have hdk':zq[k].1.dst=some t:=by simpa [Xdq,hxk]using hdk
           rcases Nat.lt_trichotomy k i with h|h|h
           ·rcases Xcz hfr hxk hx h with hb|⟨_,hb,_⟩
            ·have h1:=hmask k hb;rw[h1,hDL k h1];simp[h]
            ·exact absurd ht (hb t hdk').1
           ·subst h;rw[hdi];simp
           ·have h2:Xba listed k=false:=by
               cases hdk2:Xba listed k with
               |false=>rfl
               |true=>
                 rcases Xcz hfr hx hxk h with hb|⟨_,_,hb⟩
                 ·have:=hcl k hdk2 i (by simpa [Xdg,hxk]using hb);rw[hdi]at this;cases this
                 ·exact absurd ht (hb t hdk')
            rw[h2];have:¬k<i:=by omega
            simp[this]
         rw[Xf3 hlook',if_pos hwp];refine hstep _ i q hi ao m G' a w (.pan v) st' _ hx hcl hdi hmask hle hwq hI hs (by rw[Xf3 hlook'];exact hwp) (by rw[Xin (fun t ht=>hlook' t (by simp[AOper.looks,ht])),hSqi he];exact hxp) (fun v x w' G2 hv=>by cases hv) (fun v x w' G2 hv hle2 hI' hr=>?_);cases hv;exact hpan v x a w' G2 rfl (hle.trans hle2) hI' hr hd
        ·rcases hhi i ao m h hx with⟨_,hb⟩|⟨hb,_⟩
         ·have:=hDL p (hmask p hb);rw[hLp]at this;cases this
         ·rw[hb]at hLi;cases hLi
end
theorem Xkp(w:World){g k:Nat}(o p:Obj)(h:g≠k):World.setBlk (World.setBlk w g o) k p=World.setBlk (World.setBlk w k p) g o:=by have e:(w.heap.setIfInBounds g o).setIfInBounds k p=(w.heap.setIfInBounds k p).setIfInBounds g o:=Array.setIfInBounds_comm _ _ h;exact congrArg (fun hp=>({w with heap:=hp}:World)) e
def Pend(P:Program)(GT:Nat->Option (List AV))(w0:World)(sz dv di d8 d9:Nat)(k:Bool)(G:Gh)(st:St)(a:Act)(w:World):Prop:=
 ∃(g n cap:Nat) (cur cur':Array Value) (ty:TypeId),
  (d8<a.tmps.size->a.eval (.tmp d8)=.slice (some ⟨g,0,none⟩) (n+1) cap)/\a.eval (.tmp di)=.int .i64 n/\(k=true->d9<a.tmps.size->a.eval (.tmp d9)=.pointer (some ⟨g,n*sz,none⟩))/\
  w.heap[g]?=some (.cells cur ty (0,0))/\n*sz+sz<=cur.size/\(a.eval (.tmp dv)).cells.size=sz/\(∀u∈(a.eval (.tmp dv)).cells.toList,u.oneCell'=true)/\
  cur'.toList=cur.toList.take (n*sz)++(a.eval (.tmp dv)).cells.toList++cur.toList.drop (n*sz+sz)/\(∀b,G.ι b≠some g)/\
  Inv P GT w0 G st (World.setBlk w g (.cells cur' ty (0,0)))
def JX(P:Program)(GT:Nat->Option (List AV))(w0:World)(sz dv di d8 d9:Nat)(D:Nat->Bool)(G:Gh)(st:St)(a:Act)(w:World):Prop:=
 if D 8=true/\D 10=false then Pend P GT w0 sz dv di d8 d9 (D 9) G st a w else Inv P GT w0 G st w
theorem Xb9{a:Act}{d:Option Nat}{x:Value}{t:Nat}(h:d≠some t):(a.put d x).eval (.tmp t)=a.eval (.tmp t):=by
 cases d with
 |none=>rfl
 |some d=>
  simp only[Act.put,Act.eval,Array.getD_eq_getD_getElem?];rw[Array.getElem?_setIfInBounds_ne (fun e=>h (by rw[e]))]
theorem Xfu{a:Act}{d:Nat}{x:Value}(h:d<a.tmps.size):(a.put (some d) x).eval (.tmp d)=x:=by simp only[Act.put,Act.eval,Array.getD_eq_getD_getElem?];rw[Array.getElem?_setIfInBounds_self_of_lt h];rfl
theorem Xgs(a:Act)(d:Option Nat)(x:Value):(a.put d x).tmps.size=a.tmps.size:=by cases d<;>simp[Act.put]
section
variable{P:Program}{GT:Nat->Option (List AV)}{w0:World}
theorem Pend.put{sz dv di d8 d9:Nat}{k:Bool}{G:Gh}{st:St}{a:Act}{w:World}(h:Pend P GT w0 sz dv di d8 d9 k G st a w){d:Option Nat}(x:Value)(h1:d≠some dv)(h2:d≠some di)(h3:d≠some d8)(h4:d≠some d9):
  Pend P GT w0 sz dv di d8 d9 k G st (a.put d x) w:=by
 obtain⟨g,n,cap,cur,cur',ty,a1,a2,a3,a4,a5,a6,a7,a8,a9,a10⟩:=h;refine⟨g,n,cap,cur,cur',ty,?_,?_,?_,a4,a5,?_,?_,?_,a9,a10⟩
 ·rw[Xgs,Xb9 h3];exact a1
 ·rw[Xb9 h2];exact a2
 ·rw[Xgs,Xb9 h4];exact a3
 ·rw[Xb9 h1];exact a6
 ·rw[Xb9 h1];exact a7
 ·rw[Xb9 h1];exact a8
theorem Pend.store{sz dv di d8 d9:Nat}{k:Bool}{G:Gh}{st st':St}{a:Act}{w:World}{E:Env}{n0:Nat}{x y:AO}{o:Oper}{ev:AO->AV}{r:Rt AV}(hO:∀x y,ckO GT x y=true->RV G (ev y) (a.eval x))(h:Pend P GT w0 sz dv di d8 d9 k G st a w)
  (hck:ckOp P GT o.op (.st n0 x y)=true) (hx:aOp E st ev (.st n0 x y)=some (r,st')):
  ∃w',(execOp a.eval o).run P w=.ok .skip w'/\r=.ok AV.undef/\Pend P GT w0 sz dv di d8 d9 k G st' a w':=by
 obtain⟨gp,n,cap,cur,cur',typ,a1,a2,a3,a4,a5,a6,a7,a8,a9,hI⟩:=h;obtain⟨dst,op,type,pos,after,guard⟩:=o;cases op with
 |store t p' x'=>
  simp only[ckOp,Bool.and_eq_true,decide_eq_true_eq]at hck;obtain⟨⟨hs,hp⟩,hxc⟩:=hck;have hp:=hO _ _ hp;have hxv:=hO _ _ hxc;simp only[aOp,Xab,Xas,Option.some.injEq,Prod.mk.injEq]at hx;obtain⟨st1,hst,rfl,rfl⟩:=hx;unfold Xag at hst;split at hst
  ·rename_i b off hb;split at hst
   ·rename_i ty c hblk;simp only[Xad,Bool.and_eq_true,decide_eq_true_eq,Option.some.injEq]at hst;obtain⟨⟨⟨⟨h1,h2⟩,h3⟩,_⟩,rfl⟩:=hst;rw[hb]at hp;simp only[RV]at hp;obtain⟨g,hg,hp⟩:=hp;have hne:gp≠g:=fun e=>a9 b (by rw[hg,e]);obtain⟨y0,hy,hr⟩:=hI.blk' hblk hg;rw[Xbv (Ne.symm hne)]at hy;simp only[RB]at hr;obtain⟨cs,xs,rest,rfl,hxs,hr⟩:=hr;have hcl:=hxv.cells.length;have hcs:=hr.length;have hcx:cs.size=xs.length+rest.length:=by rw[<-Array.length_toList,hxs,List.length_append]
    simp only[Array.length_toList]at hcl;obtain⟨cs',hrun,hcs'⟩:=Xb0 P (g:=g) (o:=off) (t:=ty) (a.eval x').cells.toList 0 cs w hy (by simp;omega) (hxv.cells.ones h2);refine⟨World.setBlk w g (.cells cs' ty (0,0)),?_,rfl,gp,n,cap,cur,cur',typ,a1,a2,a3,?_,a5,a6,a7,a8,a9,?_⟩
    ·have hsz:¬((a.eval x').cells.size≠n0):=by omega
     simp only[execOp,Instr.storeAt,hp,Instr.sureAddr,storeVar,Sem.run_bind,Xcj hs,Result.andThen_ok,Sem.run_pure,if_neg hsz,hrun]
    ·rw[Xbv hne];exact a4
    ·rw[<-Xkp w _ _ hne];refine hI.setBlk hg (by rw[hblk];simp) (o:=.cells ty (wrC c off (ev y).cells)) (x:=.cells cs' ty (0,0)) ?_;simp only[RB];refine⟨cs',xs.take off++(a.eval x').cells.toList++xs.drop (off+(a.eval x').cells.toList.length),rest,rfl,?_,hr.wr hxv.cells⟩;rw[hcs',hxs];simp only[Nat.add_zero];have hl:(a.eval x').cells.toList.length=n0:=by simpa using hcl.trans h1
     rw[List.take_append_of_le_length (by omega),List.drop_append_of_le_length (by omega)];simp only[List.append_assoc]
   ·cases hst
  ·cases hst
 |_=>simp[ckOp]at hck
structure XOK(P:Program)(GT:Nat->Option (List AV))(ops:Array Oper)(zq:List (AOper×Nat))(sz bts dx dy dv di d8 d9 d11 d12 off n m8 m9 m10 m11 m12 m13:Nat)(x11 x12 x13 y13:AO):Prop where
 alen:zq.length=14
 olen:ops.size=14
 a8:zq[8]?=some (⟨some d8,.appw sz bts (.t dx) (.t dy) (.t dv) (.t di),none⟩,m8)
 a9:zq[9]?=some (⟨some d9,.ia sz (.t d8) (.t di),none⟩,m9)
 a10:zq[10]?=some (⟨none,.nck (.t d9),none⟩,m10)
 a11:zq[11]?=some (⟨some d11,.nck x11,none⟩,m11)
 a12:zq[12]?=some (⟨some d12,.fa off x12,none⟩,m12)
 a13:zq[13]?=some (⟨none,.st n x13 y13,none⟩,m13)
 low:∀(i:Nat) (o:Oper) (ao:AOper) (m:Nat),i<8->ops[i]?=some o->zq[i]?=some (ao,m)->Xb1 P GT ops o ao=true
 c8:∀o,ops[8]?=some o->Xb1 P GT ops o ⟨some d8,.app sz bts (.t dx) (.t dy),none⟩=true
 c9:∀o,ops[9]?=some o->Xb1 P GT ops o ⟨some d9,.ia sz (.t d8) (.t di),none⟩=true
 c10:∀o,ops[10]?=some o->Xry P o sz d9 dv=true
 c11:∀o,ops[11]?=some o->Xb1 P GT ops o ⟨some d11,.nck x11,none⟩=true
 c12:∀o,ops[12]?=some o->Xb1 P GT ops o ⟨some d12,.fa off x12,none⟩=true
 c13:∀o,ops[13]?=some o->Xb1 P GT ops o ⟨none,.st n x13 y13,none⟩=true
 ne1:(d8≠dv/\d8≠di)/\(d9≠dv/\d9≠di)/\(d11≠dv/\d11≠di)/\(d12≠dv/\d12≠di)
 ne2:d9≠d8/\d11≠d8/\d12≠d8
 ne3:d11≠d9/\d12≠d9
 grd:∀(i:Nat) (ao:AOper) (m:Nat),zq[i]?=some (ao,m)->ao.guard=none
 b8:∀k,k<8->m8.testBit k=true
 b:m9.testBit 8=true/\m10.testBit 8=true/\m11.testBit 8=true/\m12.testBit 8=true/\m13.testBit 8=true
 b10:m10.testBit 9=true
theorem Xvb{ops:Array Oper}{zq:List (AOper×Nat)}(h:ckX P GT ops zq=true):∃sz bts dx dy dv di d8 d9 d11 d12 off n m8 m9 m10 m11 m12 m13 x11 x12 x13 y13,XOK P GT ops zq sz bts dx dy dv di d8 d9 d11 d12 off n m8 m9 m10 m11 m12 m13 x11 x12 x13 y13:=by
 unfold ckX at h;split at h
 ·rename_i d8 sz bts dx dy dv di m8 d9 sz' d8' di' m9 d9' m10 d11 x11 m11 d12 off x12 m12 n x13 y13 m13 o8 o9 o10 o11 o12 o13 ha ho;simp only[Bool.and_eq_true,decide_eq_true_eq,List.all_cons,List.all_nil,Bool.and_true,List.all_eq_true,List.mem_range]at h;obtain⟨⟨⟨⟨⟨h0,⟨⟨⟨⟨h8,h9⟩,h10⟩,h11⟩,h12⟩,h13⟩,⟨⟨h1,h2⟩,h3⟩,h4⟩,⟨h5,h6⟩,h7⟩,hg⟩,⟨hb8,hb⟩,hb10⟩:=h;subst h1 h2 h3 h4;have al:=congrArg List.length ha;have ol:=congrArg List.length ho;simp at al ol;have ga:∀k,zq[8+k]?=(zq.drop 8)[k]?:=fun k=>by rw[List.getElem?_drop]
  have go:∀k,ops[8+k]?=(ops.toList.drop 8)[k]?:=fun k=>by rw[List.getElem?_drop,Array.getElem?_toList]
  rw[ha]at ga;rw[ho]at go;have one:∀{k:Nat} {x y:Oper},[o8,o9,o10,o11,o12,o13][k]?=some x->ops[8+k]?=some y->y=x:=fun h1 h2=>by rw[go,h1]at h2;cases h2;rfl
  refine⟨sz',bts,dx,dy,dv,di',d8',d9',d11,d12,off,n,m8,m9,m10,m11,m12,m13,x11,x12,x13,y13,by omega,by omega,ga 0,ga 1,ga 2,ga 3,ga 4,ga 5,fun i o ao m hi e1 e2=>?_,fun o e=>?_,fun o e=>?_,fun o e=>?_,fun o e=>?_,fun o e=>?_,fun o e=>?_,h5,h6,h7,fun i ao m e=>?_,fun k hk=>hb8 k hk,hb,hb10⟩
  ·obtain⟨ao',ha',hc⟩:=(Xfe h0).2 i o (by rw[List.getElem?_take,if_pos hi,Array.getElem?_toList];exact e1);rw[List.getElem?_map,List.getElem?_take,if_pos hi,e2]at ha';cases ha';exact hc
  ·rw[one (k:=0) rfl e];exact h8
  ·rw[one (k:=1) rfl e];exact h9
  ·rw[one (k:=2) rfl e];exact h10
  ·rw[one (k:=3) rfl e];exact h11
  ·rw[one (k:=4) rfl e];exact h12
  ·rw[one (k:=5) rfl e];exact h13
  ·exact hg (ao,m) (List.mem_of_getElem? e)
 ·cases h
theorem XOK.sk{ops:Array Oper}{zq:List (AOper×Nat)}{sz bts dx dy dv di d8 d9 d11 d12 off n m8 m9 m10 m11 m12 m13:Nat}{x11 x12 x13 y13:AO}(hX:XOK P GT ops zq sz bts dx dy dv di d8 d9 d11 d12 off n m8 m9 m10 m11 m12 m13 x11 x12 x13 y13)
  (i:Nat) (ao:AOper) (m:Nat) (hi:i<ops.size) (hx:zq[i]?=some (ao,m)):ops[i].dst=ao.dst/\gdOK ops ops[i] ao=true:=by
 have hgi:ops[i]?=some ops[i]:=Array.getElem?_eq_getElem hi;have key:∀{o:Oper} {p:AOper},Xb1 P GT ops o p=true->o.dst=p.dst/\gdOK ops o p=true:=fun h=>by simp only[Xb1,Bool.and_eq_true,decide_eq_true_eq]at h;exact⟨h.1.1,h.2⟩
 rcases Nat.lt_or_ge i 8 with h|h
 ·exact key (hX.low i _ ao m h hgi hx)
 have hi14:=hX.olen;have hcases:i=8\/i=9\/i=10\/i=11\/i=12\/i=13:=by omega
 rcases hcases with rfl|rfl|rfl|rfl|rfl|rfl
 ·rw[hX.a8]at hx;cases hx;have:=key (hX.c8 _ hgi);exact this
 ·rw[hX.a9]at hx;cases hx;exact key (hX.c9 _ hgi)
 ·rw[hX.a10]at hx;cases hx;have:=hX.c10 _ hgi;simp only[Xry,Bool.and_eq_true,decide_eq_true_eq]at this;exact⟨this.1.1,by simp[gdOK,this.1.2]⟩
 ·rw[hX.a11]at hx;cases hx;exact key (hX.c11 _ hgi)
 ·rw[hX.a12]at hx;cases hx;exact key (hX.c12 _ hgi)
 ·rw[hX.a13]at hx;cases hx;exact key (hX.c13 _ hgi)
theorem Xif{F:Fence}{o:Oper}{a:Act}{w w':World}{x:Value}{next:Act->World->Prop}{Q:Exit->Act->World->Prop}(hF:∀f,F.fn f)(hnd:∀c,o.op≠ .defer c)
  (h:((execOp a.eval o).run P w=.ok (.value x) w')\/((execOp a.eval o).run P w=.ok .skip w'/\x=undef)) (hn:next (a.put o.dst x) w'):o.wpIn F 0 P a w next Q:=by
 refine⟨fun f _=>hF f,?_⟩;rw[Oper.semAt_eq _ _ _ hnd];show o.uponIn F 0 P a next Q ((execOp a.eval o).run P w)
 rcases h with h|⟨h,rfl⟩<;>rw[h]<;>exact hn
theorem Xt1{s:List AV}{t:Nat}(h:lk s t≠AV.undef):t<s.length:=by
 rcases Nat.lt_or_ge t s.length with h1|h1
 ·exact h1
 ·exact absurd (by simp[lk,List.getElem?_eq_none h1]) h
theorem Xws{t e:TypeId}{sz:Nat}(he:Xa9 P t=some e)(hs:szOf P e=some sz){ρ:Operand->Value}{o:Oper}{x i:Operand}(ho:o.op=.indexAddr t x i){g n cap j:Nat}(hx:ρ x=.slice (some ⟨g,0,none⟩) n cap)(hi:ρ i=.int .i64 j)(hj:j<n)(w:World):
  (execOp ρ o).run P w=.ok (.value (.pointer (some ⟨g,j*sz,none⟩))) w:=by
 obtain⟨dst,op,type,pos,after,guard⟩:=o;simp only at ho;subst ho;have hu:=Xay he;simp only[execOp,hx,hi,Sem.run_bind];have:(Instr.indexAt t (.slice (some ⟨g,0,none⟩) n cap) (.int .i64 j)).run P w=.ok (.pointer (some ⟨g,j*sz,none⟩)) w:=by simp only[Instr.indexAt,asIntOf,Sem.run_bind,Sem.run_pure,Result.andThen_ok,run_underlying hu];rw[if_pos ⟨by omega,by omega⟩];simp[Xcj hs,Addr.add_lit]
 rw[this];rfl
variable{C:CSem}(hC:Xd7 P GT C)(hS:Xey C){E:Env}{ops:Array Oper}{zq:List (AOper×Nat)}{rd:Option Nat}{F:Fence}{Q:Exit->Act->World->Prop}{G:Gh}(hF:RF G rd F)(hG:HGT GT G)
  {sz bts dx dy dv di d8 d9 d11 d12 off n m8 m9 m10 m11 m12 m13:Nat} {x11 x12 x13 y13:AO} (hX:XOK P GT ops zq sz bts dx dy dv di d8 d9 d11 d12 off n m8 m9 m10 m11 m12 m13 x11 x12 x13 y13)
include hC hS hF hG hX
theorem Xnq(D:Nat->Bool)(i:Nat)(hi:i<ops.size)(ao:AOper)(m:Nat)(G':Gh)(a:Act)(st:St)(sl:List AV)(w:World)(r:Rt AV)(st2:St)(next:Act->World->Prop)
    (hx:zq[i]?=some (ao,m)) (hcl:Xh5 zq D) (hdi:D i=false) (hmask:∀k,m.testBit k=true->D k=true) (hle:G.Le G') (hw:E.Wf st) (hJ:JX P GT w0 sz dv di d8 d9 D G' st a w) (hs:RVs G' sl a.tmps.toList)
    (hex:aExec GT C E ao.op sl st=some (r,st2))
    (hok:∀v x w' G2,r=.ok v->G'.Le G2->JX P GT w0 sz dv di d8 d9 (fun k=>D k||decide (k=i)) G2 st2 (a.put ops[i].dst x) w'->RV G2 v x->next (a.put ops[i].dst x) w')
    (hpan:∀v x w' G2,r=.pan v->G'.Le G2->Inv P GT w0 G2 st2 w'->RV G2 v x->Q (.panic [{v:=x,recovered:=false}]) a w'):ops[i].wpIn F 0 P a w next Q:=by
  have hgi:ops[i]?=some ops[i]:=Array.getElem?_eq_getElem hi;have hO:∀x y,ckO GT x y=true->RV G' (evA GT sl y) (a.eval x):=Xeg (hG.mono hle) hs;have hT:∀t,RV G' (lk sl t) (a.eval (.tmp t)):=fun t=>hO (.tmp t) (.t t) (by simp[ckO]);have hsz:a.tmps.size=sl.length:=by have:=hs.length;simpa using this
  have hFn:∀f,F.fn f:=hF.fn;have bit:∀{j k:Nat} {ao':AOper} {m':Nat},zq[j]?=some (ao',m')->m'.testBit k=true->D j=true->D k=true:=fun h1 h2 h3=>hcl _ h3 _ (by simpa [Xdg,h1]using h2);have cl10:D 10=true->D 8=true:=bit hX.a10 hX.b.2.1;have cl9:D 9=true->D 8=true:=bit hX.a9 hX.b.1;have cl109:D 10=true->D 9=true:=bit hX.a10 hX.b10;have plain:ckOp P GT ops[i].op ao.op=true->¬(D 8=true/\D 10=false)->¬((D 8||decide (8=i))=true/\(D 10||decide (10=i))=false)->ops[i].wpIn F 0 P a w next Q:=fun hck h1 h2=>by unfold JX at hJ hok;rw[if_neg h1]at hJ;exact Xgb hC hS (hF.mono hle) hck hw hex hJ (hG.mono hle) hs (fun v x w' G2 hv hle2 hI' hr=>hok v x w' G2 hv hle2 (by rw[if_neg h2];exact hI') hr) hpan
  have hi14:=hX.olen;rcases Nat.lt_or_ge i 8 with hlow|hhigh
  ·have hck:=hX.low i _ ao m hlow hgi hx;simp only[Xb1,Bool.and_eq_true]at hck
   have h8:D 8=false:=by
     cases h:D 8 with
     |false=>rfl
     |true=>have:=bit hX.a8 (hX.b8 i hlow) h;rw[hdi]at this;cases this
   refine plain hck.1.2 (by simp[h8]) ?_;have:¬8=i:=by omega
   simp[h8,this]
  have hcases:i=8\/i=9\/i=10\/i=11\/i=12\/i=13:=by omega
  rcases hcases with rfl|rfl|rfl|rfl|rfl|rfl
  ·
    rw[hX.a8]at hx;cases hx;have h9:D 9=false:=by cases h:D 9 with|false=>rfl|true=>rw[cl9 h]at hdi;cases hdi
    have h10:D 10=false:=by cases h:D 10 with|false=>rfl|true=>rw[cl10 h]at hdi;cases hdi
    unfold JX at hJ;rw[if_neg (by simp[hdi])]at hJ;have hck:=hX.c8 _ hgi;simp only[Xb1,Bool.and_eq_true,decide_eq_true_eq]at hck;obtain⟨⟨hdst,hck⟩,_⟩:=hck;simp only[aExec,aOp,Xad,Xab,Xas]at hex;obtain⟨hone,⟨v0,st0⟩,happ,hex⟩:=hex;simp only[Option.some.injEq,Prod.mk.injEq]at hex;obtain⟨rfl,rfl⟩:=hex;have ex:=hT dx;have ey:=hT dy;have ei:=hT di;have ev:=hT dv;simp only[evA]at hone happ;unfold Xhf at hone;split at hone
    ·rename_i x0 y0 i0 id nn cs ys0 j hxv hyv hiv;simp only[decide_eq_true_eq]at hone;subst hone;rw[hiv]at ei;rw[hxv]at happ ex;simp only[RV]at ei;unfold appA at happ;simp only[srcA,Xab,Xad,Bool.and_eq_true,decide_eq_true_eq,Option.some.injEq,Prod.mk.injEq]at happ;obtain⟨⟨m0,zs⟩,⟨⟨hvl,hv1⟩,rfl,rfl⟩,⟨⟨⟨⟨_,hid⟩,hcl2⟩,hby⟩,hnm⟩,rfl,rfl⟩:=happ;generalize hop:ops[8]=o at hck hdst hgi hok⊢;obtain⟨dst,op,type,pos,after,guard⟩:=o;cases op with
     |call c=>
       obtain⟨callee,args,argTypes⟩:=c;simp only[ckOp,Xvc]at hck;split at hck
       ·rename_i x' y' t u harg hty;simp only[Bool.and_eq_true,decide_eq_true_eq]at hck;obtain⟨⟨⟨ht,rfl⟩,hx'⟩,hy'⟩:=hck;have ha:args= #[x',y']:=by rw[<-Array.toArray_toList (xs:=args),harg]
        have hb:argTypes= #[t,t]:=by rw[<-Array.toArray_toList (xs:=argTypes),hty]
        subst ha hb;have hx'':x'=.tmp dx:=by cases x'<;>simp[ckO]at hx';rw[hx']
        have hy'':y'=.tmp dy:=by cases y'<;>simp[ckO]at hy';rw[hy']
        subst hx'' hy'';cases he:Xa9 P t with
        |none=>simp[he]at ht
        |some e=>
        simp only[he]at ht;have hu:=Xay he;cases hinf:P.info? e with
        |none=>simp[hinf]at ht
        |some inf=>
        simp only[hinf,Bool.and_eq_true,decide_eq_true_eq]at ht;obtain⟨⟨⟨⟨rfl,rfl⟩,hb1⟩,hs1⟩,hz⟩:=ht;cases hzv:inf.zero with
        |none=>simp[hzv]at hz
        |some z=>
        simp only[hzv,decide_eq_true_eq]at hz;obtain⟨g,cap,w2,cur,cur',ty,G2,hrun,f1,f2,f3,f4,f5,f6,f7,f8⟩:=Xr4 (type:=type) hJ hu hinf hzv hz hb1 hs1 ex hid hcl2 hby hnm hyv ey ev.cells (by rw[hvl,Nat.one_mul]);have hcsz:(a.eval (.tmp dv)).cells.toList.length=inf.size:=by rw[ev.cells.length,hvl,Nat.one_mul]
        have hfit:nn*inf.size+inf.size<=cur.size:=by rw[f2,<-Nat.succ_mul];exact Nat.mul_le_mul_right _ f3
        refine Xif hFn (by simp) (x:=.slice (some ⟨g,0,none⟩) (nn+1) cap) (w':=w2) (.inl ?_) ?_
        ·have hexec:(execOp a.eval ⟨dst,.call ⟨.builtin .append, #[.tmp dx,.tmp dy], #[t,t]⟩,type,pos,after,guard⟩).run P w=((Builtin.append_ #[t,t] type #[a.eval (.tmp dx),a.eval (.tmp dy)]).run P w).andThen fun v w=>.ok (.value v) w:=by simp only[execOp,resolve,Sem.run_bind,Sem.run_pure,Result.andThen_ok,invoke,Go.builtin];simp
         rw[hexec,hrun];rfl
        ·refine hok _ _ w2 G2 rfl f6 ?_ f8;simp only at hdst;subst hdst;unfold JX;rw[if_pos ⟨by simp,by simp[h10]⟩];have n1:=hX.ne1;refine⟨g,nn,cap,cur,cur',ty,fun h=>Xfu (by rwa [Xgs]at h),?_,fun h=>?_,f1,hfit,?_,?_,?_,f5,f7⟩
         ·rw[Xb9 (by simpa using n1.1.2)];exact ei
         ·simp[h9]at h
         ·rw[Xb9 (by simpa using n1.1.1)];simpa using hcsz
         ·rw[Xb9 (by simpa using n1.1.1)];exact ev.cells.ones hv1
         ·rw[Xb9 (by simpa using n1.1.1),f4,hcsz]
       ·cases hck
     |_=>simp[ckOp]at hck
    ·cases hone
  ·
    rw[hX.a9]at hx;cases hx;have h8:D 8=true:=hmask 8 hX.b.1;have h10:D 10=false:=by cases h:D 10 with|false=>rfl|true=>rw[cl109 h]at hdi;cases hdi
    unfold JX at hJ;rw[if_pos ⟨h8,h10⟩]at hJ;have hJ0:=hJ;obtain⟨g,nn,cap,cur,cur',ty,a1,a2,a3,a4,a5,a6,a7,a8,a9,hI⟩:=hJ;have hck:=hX.c9 _ hgi;simp only[Xb1,Bool.and_eq_true,decide_eq_true_eq]at hck;obtain⟨⟨hdst,hck⟩,_⟩:=hck;generalize hop:ops[9]=o at hck hdst hgi hok⊢
    have ho:∃t e,o.op=.indexAddr t (.tmp d8) (.tmp di)/\Xa9 P t=some e/\szOf P e=some sz:=by
      obtain⟨dst,op,type,pos,after,guard⟩:=o;cases op with
      |indexAddr t x' i'=>
        simp only[ckOp,Bool.and_eq_true]at hck;obtain⟨⟨h1,h2⟩,h3⟩:=hck;cases he:Xa9 P t with
        |none=>simp[he]at h1
        |some e=>
          simp only[he,decide_eq_true_eq]at h1;refine⟨t,e,?_,he,h1⟩;cases x'<;>simp[ckO]at h2;cases i'<;>simp[ckO]at h3;rw[h2,h3]
      |_=>simp[ckOp]at hck
    obtain⟨t,e,ho,he,hse⟩:=ho;simp only[aExec,aOp,evA]at hex;have e8:=hT d8;have ei:=hT di;split at hex
    ·rename_i own k cs kk j h1 h2;simp only[Xad,Bool.and_eq_true,decide_eq_true_eq,Xas,Option.some.injEq,Prod.mk.injEq]at hex;obtain⟨⟨hj0,hjk⟩,rfl,rfl⟩:=hex;have hlt:d8<a.tmps.size:=by rw[hsz];exact Xt1 (by rw[h1];simp[AV.undef])
     have a1':=a1 hlt;rw[h1]at e8;rw[h2,a2]at ei;simp only[RV]at ei;cases ei;obtain⟨A,cap2,q1,q2,q3,q4⟩:=e8.slice;rw[a1']at q1;cases q1;refine Xif hFn (by rw[ho];simp) (x:=.pointer (some ⟨g,nn*sz,none⟩)) (w':=w) (.inl (Xws he hse ho a1' a2 (by omega) w)) (hok _ _ w G' rfl (.refl G') ?_ ?_)
     ·rw[hdst];unfold JX;rw[if_pos ⟨by simp[h8],by simp[h10]⟩];have n1:=hX.ne1;have n2:=hX.ne2;refine⟨g,nn,cap,cur,cur',ty,fun h=>?_,?_,fun _ h=>Xfu (by rwa [Xgs]at h),a4,a5,?_,?_,?_,a9,hI⟩
      ·rw[Xb9 (by simpa using n2.1)];exact a1'
      ·rw[Xb9 (by simpa using n1.2.1.2)];exact a2
      ·rw[Xb9 (by simpa using n1.2.1.1)];exact a6
      ·rw[Xb9 (by simpa using n1.2.1.1)];exact a7
      ·rw[Xb9 (by simpa using n1.2.1.1)];exact a8
     ·simp only[RV];rcases q4 with⟨q4,_⟩|⟨g',q',q4,q5⟩
      ·omega
      ·cases q4;exact⟨g,0,by simp,q5⟩
    ·rename_i b k kk j h1 h2;simp only[Xad,Bool.and_eq_true,decide_eq_true_eq,Xas,Option.some.injEq,Prod.mk.injEq]at hex;have hlt:d8<a.tmps.size:=by rw[hsz];exact Xt1 (by rw[h1];simp[AV.undef])
     rw[h1,a1 hlt]at e8;simp only[RV]at e8;obtain⟨g',c',q1,q2,_⟩:=e8;cases q2;exact absurd q1 (a9 b)
    ·cases hex
  ·
    rw[hX.a10]at hx;cases hx;have h8:D 8=true:=hmask 8 hX.b.2.1;have h9:D 9=true:=hmask 9 hX.b10;unfold JX at hJ;rw[if_pos ⟨h8,hdi⟩]at hJ;obtain⟨g,nn,cap,cur,cur',ty,a1,a2,a3,a4,a5,a6,a7,a8,a9,hI⟩:=hJ;have hck:=hX.c10 _ hgi;generalize hop:ops[10]=o at hck hgi hok⊢;obtain⟨dst,op,type,pos,after,guard⟩:=o;simp only[Xry,Bool.and_eq_true,decide_eq_true_eq]at hck;obtain⟨⟨rfl,_⟩,hck⟩:=hck
    have hst:∃t,op=.store t (.tmp d9) (.tmp dv)/\szOf P t=some sz:=by
      cases op with
      |store t p' v'=>
        cases p'<;>cases v'<;>simp at hck;exact⟨t,by rw[hck.1.2,hck.2],hck.1.1⟩
      |_=>simp at hck
    obtain⟨t,rfl,hse⟩:=hst;simp only[aExec,aOp,evA]at hex;have e9:=hT d9;have hne:lk sl d9≠AV.undef:=fun e=>by rw[e]at hex;simp[AV.undef]at hex
    have hlt:d9<a.tmps.size:=by rw[hsz];exact Xt1 hne
    have hv:r=.ok (lk sl d9)/\st2=st:=by
      split at hex
      ·rename_i h;rw[h];simp only[Xas,Option.some.injEq,Prod.mk.injEq]at hex;exact⟨hex.1.symm,hex.2.symm⟩
      ·rename_i h;rw[h];simp only[Xas,Option.some.injEq,Prod.mk.injEq]at hex;exact⟨hex.1.symm,hex.2.symm⟩
      ·cases hex
    obtain⟨rfl,rfl⟩:=hv;have hl:(a.eval (.tmp dv)).cells.toList.length=sz:=by simpa using a6
    obtain⟨cs',hrun,hcs'⟩:=Xb0 P (g:=g) (o:=nn*sz) (t:=ty) (a.eval (.tmp dv)).cells.toList 0 cur w a4 (by omega) a7;have hcc:cs'=cur':=Array.toList_inj.1 (by rw[hcs',a8,Nat.add_zero,hl]);subst hcc;refine Xif hFn (by simp) (x:=undef) (w':=World.setBlk w g (.cells cs' ty (0,0))) (.inr ⟨?_,rfl⟩) ?_
    ·have hszn:¬((a.eval (.tmp dv)).cells.size≠sz):=by omega
     simp only[execOp,Instr.storeAt,a3 h9 hlt,Instr.sureAddr,storeVar,Sem.run_bind,Xcj hse,Result.andThen_ok,Sem.run_pure,if_neg hszn,hrun]
    ·refine hok (lk sl d9) (a.eval (.tmp d9)) _ G' rfl (.refl G') ?_ e9;unfold JX;rw[if_neg (by simp)];exact hI
  ·rw[hX.a11]at hx;cases hx;have hck:=hX.c11 _ hgi;simp only[Xb1,Bool.and_eq_true,decide_eq_true_eq]at hck;obtain⟨⟨hdst,hck⟩,_⟩:=hck;by_cases hp:D 8=true/\D 10=false
   ·unfold JX at hJ;rw[if_pos hp]at hJ;obtain⟨v,x,rfl,rfl,hrun,hr⟩:=Xoo hO hck (by simpa [aExec]using hex);refine Xif hFn (Xdl hck) (.inl (hrun w)) (hok v x w G' rfl (.refl G') ?_ hr);unfold JX;rw[if_pos (by simpa using hp),hdst];have n1:=hX.ne1;have n2:=hX.ne2;have n3:=hX.ne3;simpa using hJ.put x (by simpa using n1.2.2.1.1) (by simpa using n1.2.2.1.2) (by simpa using n2.2.1) (by simpa using n3.1)
   ·exact plain hck hp (by simpa using hp)
  ·rw[hX.a12]at hx;cases hx;have hck:=hX.c12 _ hgi;simp only[Xb1,Bool.and_eq_true,decide_eq_true_eq]at hck;obtain⟨⟨hdst,hck⟩,_⟩:=hck;by_cases hp:D 8=true/\D 10=false
   ·unfold JX at hJ;rw[if_pos hp]at hJ;obtain⟨v,x,rfl,rfl,hrun,hr⟩:=Xsh hO hck (by simpa [aExec]using hex);refine Xif hFn (Xdl hck) (.inl (hrun w)) (hok v x w G' rfl (.refl G') ?_ hr);unfold JX;rw[if_pos (by simpa using hp),hdst];have n1:=hX.ne1;have n2:=hX.ne2;have n3:=hX.ne3;simpa using hJ.put x (by simpa using n1.2.2.2.1) (by simpa using n1.2.2.2.2) (by simpa using n2.2.2) (by simpa using n3.2)
   ·exact plain hck hp (by simpa using hp)
  ·rw[hX.a13]at hx;cases hx;have hck:=hX.c13 _ hgi;simp only[Xb1,Bool.and_eq_true,decide_eq_true_eq]at hck;obtain⟨⟨hdst,hck⟩,_⟩:=hck;by_cases hp:D 8=true/\D 10=false
   ·unfold JX at hJ;rw[if_pos hp]at hJ;obtain⟨w',hrun,rfl,hP⟩:=hJ.store hO hck (by simpa [aExec]using hex);refine Xif hFn (Xdl hck) (.inr ⟨hrun,rfl⟩) (hok AV.undef undef w' G' rfl (.refl G') ?_ (by simp[AV.undef,RV,RVs,undef]));unfold JX;rw[if_pos (by simpa using hp),hdst];simpa [Act.put]using hP
   ·exact plain hck hp (by simpa using hp)
end
theorem Xcp{P:Program}{b:Frame}{a:Act}{k:List Item}{cs:List Frame}{w:World}{c:Code}:
  step P (lone (b.atR a (.code (.scope c)::k)) cs w)=.next (lone (b.atR a (.code c::.inScope c::k)) cs w):=step_lone_go (by simp[stepG,stepG.exec,Frame.atR])
theorem Xia{P:Program}{b:Frame}{a:Act}{k:List Item}{cs:List Frame}{w:World}{c:Code}:
  step P (lone (b.atR a (.inScope c::k)) cs w)=.next (lone (b.atR a k) cs w):=step_lone_go (by simp[stepG,stepG.exec,Frame.atR])
theorem Xkl{F:Fence}{n:Nat}{P:Program}{Q:Exit->Act->World->Prop}{a:Act}{w:World}{c:Code}(hq:∀l a w,Q (.goto l) a w->False)(h:c.wpIn F n P Q a w):(Code.scope c).wpIn F n P Q a w:=by
 intro b k cs hro hb hr;have h0:(lone (b.atR a (.code (.scope c)::k)) cs w).fenced P F:=fenced_calm hb hr rfl;obtain⟨e,a₁,w₁,hq₁,harr⟩:=h b (.inScope c::k) cs hro hb hr;have hx:∀id,exitTo id (.inScope c::k)=exitTo id k:=fun id=>rfl;cases e with
 |normal=>exact⟨.normal,a₁,w₁,hq₁,.head h0 Xcp (StepsIn.trans harr (.one (fenced_calm hb hr rfl) Xia))⟩
 |exit id=>exact⟨_,a₁,w₁,hq₁,fun k' hk=>.head h0 Xcp (harr.1 k' (by rw[hx];exact hk)),fun hr' hk=>let⟨k₁,h1,h2⟩:=harr.2 hr' (by rw[hx];exact hk);⟨k₁,h1,.head h0 Xcp h2⟩⟩
 |goto l=>exact(hq _ _ _ hq₁).elim
 |ret=>exact⟨_,a₁,w₁,hq₁,.of_steps (.one h0 Xcp) harr⟩
 |panic ch=>exact⟨_,a₁,w₁,hq₁,.of_steps (.one h0 Xcp) harr⟩
 |outgrown=>exact⟨_,a₁,w₁,hq₁,.of_steps (.one h0 Xcp) harr⟩
def RMk(G:Gh)(b:List Deferred):List Nat->List Deferred->Prop
 |[],ds=>ds=b
 |d::m,ds=> ∃r ds',ds={target:=.collected r,args:= #[]}::ds'/\G.ι d=some r/\RMk G b m ds'
theorem RMk.mono{G G':Gh}{b:List Deferred}(hle:G.Le G'):∀{m:List Nat} {ds:List Deferred},RMk G b m ds->RMk G' b m ds
 |[],ds,h=>h
 |d::m,ds,h=>by obtain⟨r,ds',h1,h2,h3⟩:=h;exact⟨r,ds',h1,hle.ι _ _ h2,h3.mono hle⟩
def ACode.wr:ACode->List Nat
 |.skip|.exit _|.ret|.bad|.rf .. => []
 |.reg ops=>ops.filterMap (·.dst)
 |.dreg ops=>ops.filterMap (·.1.dst)
 |.seq a b=>a.wr++b.wr
 |.cond _ x y=>x.wr++y.wr
 |.block _ b|.scope b|.loop b=>b.wr
def RunPost(P:Program)(GT:Nat->Option (List AV))(w0:World)(G:Gh)(b:List Deferred)(a0:Act)(W:List Nat)(x:AExit)(s':List AV)(m':List Nat)(st':St)(e:Exit)(a:Act)(w:World):Prop:=
 ∃G',G.Le G'/\Inv P GT w0 G' st' w/\RMk G' b m' a.defers/\(∀t,t∉W->a.tmps[t]?=a0.tmps[t]?)/\
  match x,e with
  |.nrm,.normal=>RVs G' s' a.tmps.toList
  |.ret,.ret=>RVs G' s' a.tmps.toList
  |.exit i,.exit j=>i=j/\RVs G' s' a.tmps.toList
  |.pan v,.panic ch=> ∃y,RV G' v y/\ch=[{v:=y,recovered:=false}]
  |_,_=>False
theorem RunPost.weak{P:Program}{GT:Nat->Option (List AV)}{w0:World}{G G1:Gh}{b:List Deferred}{a0 a1:Act}{W W1:List Nat}{x:AExit}{s':List AV}{m':List Nat}{st':St}{e:Exit}{a:Act}{w:World}(hle:G.Le G1)(hW:∀t∈W1,t∈W)(ha:∀t,t∉W->a1.tmps[t]?=a0.tmps[t]?)(h:RunPost P GT w0 G1 b a1 W1 x s' m' st' e a w):RunPost P GT w0 G b a0 W x s' m' st' e a w:=by obtain⟨G',h1,h2,h3,h4,h5⟩:=h;exact⟨G',hle.trans h1,h2,h3,fun t ht=>(h4 t fun h'=>ht (hW t h')).trans (ha t ht),h5⟩
theorem Xgm{p:Nat->Prop}(h:∃k,p k):∃k,p k/\∀j,p j->k<=j:=by
 obtain⟨k,hk⟩:=h;induction k using Nat.strongRecOn with
 |_ k ih=>
  by_cases hx:∃j,j<k/\p j
  ·obtain⟨j,hj,hpj⟩:=hx;exact ih j hj hpj
  ·refine⟨k,hk,fun j hj=>?_⟩;rcases Nat.lt_or_ge j k with h|h
   ·exact absurd ⟨j,h,hj⟩ hx
   ·exact h
open Classical in
noncomputable def Xre (p:Nat->Prop):Nat:=if h:∃k,p k then Classical.choose (Xgm h)else 0
theorem Xnc{p:Nat->Prop}{k:Nat}(h:p k):p (Xre p)/\Xre p<=k:=by have he:∃k,p k:=⟨k,h⟩;have:=Classical.choose_spec (Xgm he);unfold Xre;rw[dif_pos he];exact⟨this.1,this.2 k h⟩
def yv(l:Nat):Value:=.func (.yield l) #[] #[]
section
variable{P:Program}{GT:Nat->Option (List AV)}{C:CSem}
theorem Xgl{G:Gh}:∀{ps:List Nat} {zq t:List AV} {xs tv:List Value},RVs G zq xs->RVs G t tv->RVs G (Xec t ps zq) ((ps.zip xs).foldl (fun tmps (t,a)=>tmps.set t a) tv)
 |[],zq,t,xs,tv,_,h2=>by simpa [Xec]using h2
 |p::ps,[],t,xs,tv,h1,h2=>by simp only[RVs]at h1;subst h1;simpa [Xec]using h2
 |p::ps,a::zq,t,xs,tv,h1,h2=>by simp only[RVs]at h1;obtain⟨y,ys,rfl,h3,h4⟩:=h1;simp only[Xec,List.zip_cons_cons,List.foldl_cons];exact Xgl h4 (h2.set p h3)
theorem Xk1(l:List (Nat×Value)):∀(tv:Array Value),(l.foldl (fun tmps (t,a)=>tmps.setIfInBounds t a) tv).toList=l.foldl (fun tmps (t,a)=>tmps.set t a) tv.toList:=by
 induction l with
 |nil=>intro tv;rfl
 |cons p l ih=>intro tv;simp only[List.foldl_cons];rw[ih];simp
variable(hmix:P.follows .mixedOrders=true)(hC:Xd7 P GT C)(hS:Xey C)
include hC hS
theorem Xnr{E:Env}{rd:Option Nat}{F:Fence}{id:Nat}{ops:Array Oper}{zq:List (AOper×Nat)}{s:List AV}{st st':St}{r:Rt (List AV)}{a:Act}{w w0:World}{G:Gh}{Q:Exit->Act->World->Prop}
  (hmix:P.follows .mixedOrders=true) (hck:Xbk P GT (.region id ops true) (.dreg zq)=true) (hF:RF G rd F) (hw:E.Wf st) (h:aDraw GT C E 0 zq [] [(none,st)] s st=some (r,st')) (hI:Inv P GT w0 G st w) (hG:HGT GT G) (hs:RVs G s a.tmps.toList)
  (hok:∀s' a' w' G',r=.ok s'->G.Le G'->Inv P GT w0 G' st' w'->RVs G' s' a'.tmps.toList->SameB (ACode.dreg zq).wr a a'->Q .normal a' w')
  (hpan:∀v x a' w' G',r=.pan v->G.Le G'->Inv P GT w0 G' st' w'->RV G' v x->SameB (ACode.dreg zq).wr a a'->Q (.panic [{v:=x,recovered:=false}]) a' w'):(Code.region id ops true).wpIn F 0 P Q a w:=by
 simp only[Xbk,Bool.and_eq_true,Bool.or_eq_true]at hck;obtain⟨⟨hop,hmk⟩,hfr⟩:=hck;obtain⟨sf,S,V,L,h1,h2,hL,hT,hO,_⟩:=Xhz (zq:=zq) (i:=0) rfl (Nat.zero_le _) h;subst h1;subst h2;refine wpIn_region_any hmix ?_
 have hd:∀k,Xba (Array.replicate ops.size false) k=false:=fun k=>by
  unfold Xba;rw[Array.getD_eq_getD_getElem?];by_cases hk:k<ops.size
  ·rw[Array.getElem?_eq_getElem (by simpa using hk)];simp
  ·rw[Array.getElem?_eq_none (by simpa using hk)];rfl
 have hW:∀k d,Xdq zq k=some d->d∈(ACode.dreg zq).wr:=fun k d hd=>by
  unfold Xdq at hd;cases hk:zq[k]? with
  |none=>simp[hk]at hd
  |some p=>
   simp only[hk,Option.bind_some]at hd;exact List.mem_filterMap.2 ⟨p,List.mem_of_getElem? hk,hd⟩
 have hsl:RVs G (slw zq V (Xba (Array.replicate ops.size false)) (List.range zq.length) (sf 0)) a.tmps.toList:=by
  have:∀(l:List Nat) (x:List AV),slw zq V (Xba (Array.replicate ops.size false)) l x=x:=fun l=>by
   induction l with
   |nil=>intro x;rfl
   |cons k l ih=>intro x;simp only[slw,hd];exact ih x
  rw[this];exact hs
 rcases hop with hop|hop
 ·have hget:=Xfe hop;have hlen:zq.length=ops.size:=by have:=hget.1;simp at this;omega
  have hck1:∀i ao m (hi:i<ops.size),zq[i]?=some (ao,m)->Xb1 P GT ops ops[i] ao=true:=fun i ao m hi hx=>by obtain⟨ao',e,h⟩:=hget.2 i ops[i] (by simp[hi]);rw[List.getElem?_map,hx]at e;cases e;exact h
  refine Xit hS hlen (fun i ao m hi hx=>?_) hmk hfr hT hO hw hL (a0:=a) hW hF hok hpan (fun _ G st _ w=>Inv P GT w0 G st w) (fun D i q hi ao m G' a w r st2 next hx hcl hdi hmask hle hw hJ hs hwant hex hok hpan=>?_) (fun D i hi ao m G' st a w _ _ _ h=>h) (fun D G' st a w _ h=>h) ops.size _ a _ G 0 (by simp) (by simp) (fun i hi=>by rw[hd]at hi;cases hi) (fun k hk=>by rw[hd]at hk;cases hk) (fun k _ _=>by rw[hd];simp) (Nat.zero_le _) (.refl G) hI.drew hsl (.refl _ _)
  ·have:=hck1 i ao m hi hx;simp only[Xb1,Bool.and_eq_true,decide_eq_true_eq]at this;exact⟨this.1.1,this.2⟩
  ·have hck:=hck1 i ao m hi hx;simp only[Xb1,Bool.and_eq_true]at hck;exact Xgb hC hS (hF.mono hle) hck.1.2 hw hex hJ (hG.mono hle) hs hok hpan
 ·obtain⟨sz,bts,dx,dy,dv,di,d8,d9,d11,d12,off,n,m8,m9,m10,m11,m12,m13,x11,x12,x13,y13,hX⟩:=Xvb hop;refine Xit hS (hX.alen.trans hX.olen.symm) (fun i ao m hi hx=>?_) hmk hfr hT hO hw hL (a0:=a) hW hF hok hpan (JX P GT w0 sz dv di d8 d9) (fun D i q hi ao m G' a w r st2 next hx hcl hdi hmask hle hw hJ hs hwant hex hok hpan=>Xnq hC hS hF hG hX D i hi ao m G' a _ _ w r st2 next hx hcl hdi hmask hle hw hJ hs hex hok hpan) (fun D i hi ao m G' st a w hx _ hwant _=>?_) (fun D G' st a w hall h=>?_) ops.size _ a _ G 0 (by simp) (by simp) (fun i hi=>by rw[hd]at hi;cases hi) (fun k hk=>by rw[hd]at hk;cases hk) (fun k _ _=>by rw[hd];simp) (Nat.zero_le _) (.refl G) (by unfold JX;rw[if_neg (by simp[hd])];exact hI.drew) hsl (.refl _ _)
  ·exact hX.sk i ao m hi hx
  ·simp[Xbz,hX.grd i ao m hx]at hwant
  ·unfold JX at h
   rwa [if_neg (by simp[hall 10 (by have:=hX.olen;omega)])]at h
theorem Xq1{E:Env}{rd:Option Nat}{F:Fence}{g:Operand}{ps:Array Tmp}{asg body:Code}{f:AO}{ps':List Nat}{asg' body':ACode}{s:List AV}{m:List Nat}{st st':St}{x:AExit}{s':List AV}{m':List Nat}{a:Act}{w w0:World}{G:Gh}
    (hck:Xbk P GT (.rangeFunc g ps asg body) (.rf f ps' asg' body')=true) (hF:RF G rd F) (hw:E.Wf st) (h:Xfo C E rd (evA GT s f) ps' asg' body' s m st=some (x,s',m',st'))
    (hI:Inv P GT w0 G st w) (hG:HGT GT G) (hs:RVs G s a.tmps.toList) {db:List Deferred} (hm:RMk G db m a.defers):(Code.rangeFunc g ps asg body).wpIn F 0 P (RunPost P GT w0 G db a [] x s' m' st') a w:=by
  simp only[Xbk,Bool.and_eq_true,decide_eq_true_eq]at hck;obtain⟨⟨⟨hf,hps⟩,hca⟩,hcb⟩:=hck;have hfv:=Xeg hG hs _ _ hf;refine wpIn_rangeFunc fun fn _=>?_;unfold Xfo at h;simp only[Xab]at h;obtain⟨⟨d,m1,st1⟩,h1,h⟩:=h
  have sur:∃(G1:Gh) (wd:World) (dc:Nat) (mark:List Deferred),G.Le G1/\Inv P GT w0 G1 st1 wd/\E.Wf st1/\G1.ι d=some dc/\RMk G1 db m1 (mark++a.defers)/\
      (Instr.enterLoop fn a.tmps ps asg body F.round).run P w=.ok (wd.heap.size,mark) (wd.alloc (.loop {state:=.ready,pending:=none,fn:=fn,tmps:=a.tmps,params:=ps,assign:=asg,body:=body,defers:=dc})):=by
    cases rd with
    |none=>
      cases hF;simp only[Option.some.injEq,Prod.mk.injEq]at h1;obtain⟨rfl,rfl,rfl⟩:=h1;have hI1:=hI.alloc (o:=.dfr) (x:=.deferred (some [])) (by simp[RB]);have hle:=hI.le_blk w.heap.size;refine⟨_,_,w.heap.size,[{target:=.collected w.heap.size,args:= #[]}],hle,hI1,(StepOK.push hw).wf hw,by simp[Gh.withBlk],⟨w.heap.size,a.defers,rfl,by simp[Gh.withBlk],hm.mono hle⟩,?_⟩;have:=run_enterLoop_outer (P:=P) (w:=w) fn a.tmps ps asg body;simpa [World.size_alloc]using this
    |some l0=>
      obtain⟨l,hl,rfl⟩:=hF;simp only at h1;split at h1
      ·rename_i a1 b1 c1 d1 e1 f1 g1 d2 hb;simp only[Option.some.injEq,Prod.mk.injEq]at h1;obtain⟨rfl,rfl,rfl⟩:=h1;obtain⟨y,hy,hr⟩:=hI.blk' hb hl;simp only[RB]at hr;obtain⟨rec,rfl,_,_,_,_,_,_,hd⟩:=hr;refine⟨G,w,rec.defers,[],.refl G,hI,hw,hd,hm,?_⟩;unfold Instr.enterLoop;simp only[Fence.inRound_round,Sem.run_bind,run_getLoop hy,run_newObj_alloc,Result.andThen,Sem.run_pure]
      ·cases h1
  obtain⟨G1,wd,dc,mark,hle1,hI1,hw1,hdc,hm1,hent⟩:=sur;simp only at h;split at h
  ·rename_i gf p q hfe;simp only[Xab]at h;obtain⟨⟨r3,st3⟩,h3,h⟩:=h;rw[hfe]at hfv;simp only[RV]at hfv;obtain⟨fa,fb,hfv,hfa,hfb⟩:=hfv;have hle2:=hI1.le_blk wd.heap.size
   have hI2:=hI1.alloc (o:=.loop .ready none 0 s ps' asg' body' d) (x:=.loop {state:=.ready,pending:=none,fn:=fn,tmps:=a.tmps,params:=ps,assign:=asg,body:=body,defers:=dc})
     (by simp only[RB];exact⟨_,rfl,rfl,rfl,(hs.mono hle1).mono hle2,hps,hca,hcb,hle2.ι _ _ hdc⟩)
   have hle:=hle1.trans hle2;have hw2:E.Wf {st1 with H:=st1.H++ [.loop .ready none 0 s ps' asg' body' d]}:=(StepOK.push hw1).wf hw1;have hargs:RVs (G1.withBlk st1.H.length wd.heap.size) (p++ [.yld st1.H.length]++q) (fa++ #[yv wd.heap.size]++fb).toList:=by simp only[Array.toList_append];refine RVs.append (RVs.append (hfa.mono hle) ?_) (hfb.mono hle);simp only[RVs];exact⟨_,[],rfl,by simp only[RV];exact⟨wd.heap.size,by simp[Gh.withBlk],rfl⟩,rfl⟩
   have hcall:=hC _ _ _ _ _ _ h3 hw2 _ _ _ _ hI2 (hG.mono hle) hargs
   have hres:(resolve a.eval (rangeCall g wd.heap.size) 0).run P (wd.alloc (.loop {state:=.ready,pending:=none,fn:=fn,tmps:=a.tmps,params:=ps,assign:=asg,body:=body,defers:=dc}))=
       .ok {target:=.fn (.func gf) fb,args:=fa++ #[yv wd.heap.size]} (wd.alloc (.loop {state:=.ready,pending:=none,fn:=fn,tmps:=a.tmps,params:=ps,assign:=asg,body:=body,defers:=dc})):=by
     have evc:a.eval (.const (.func (.yield wd.heap.size) #[] #[]))=yv wd.heap.size:=rfl;simp only[resolve,rangeCall,hfv,Deferred.ofValue];simp[evc]
   refine⟨wd.heap.size,mark,_,_,_,gf,fa++ #[yv wd.heap.size]++fb,_,hent,hres,fun f' _=>hF.fn f',?_,hF.depth,hF.calls (hcall.2.mono fun e w3 post=>?_)⟩
   ·simp only[invoke];exact hcall.1.run _
   ·cases e with
    |outgrown=>exact post.elim
    |returned y=>
      obtain⟨v,G3,hv,hle3,hI3,hrv⟩:=post;subst hv;simp only at h;split at h
      ·rename_i ls pj g' t ps2 as2 bd2 d2 hb;simp only[Xad,decide_eq_true_eq,Option.some.injEq,Prod.mk.injEq]at h;obtain⟨hbusy,rfl,rfl,rfl,rfl⟩:=h;have hιl:G3.ι st1.H.length=some wd.heap.size:=hle3.ι _ _ (by simp[Gh.withBlk]);obtain⟨ob,hob,hr⟩:=hI3.blk' hb hιl;simp only[RB]at hr;obtain⟨rec,rfl,r1,r2,r3,r4,r5,r6,r7⟩:=hr;have hnb:rec.state≠ .busy:=fun e=>by cases ls<;>simp only[Xjk]at r1<;>rw[r1]at e<;>first|exact absurd rfl hbusy|cases e
       have hend:=run_endLoop (P:=P) hob hnb;have hI4:=hI3.setBlk hιl (by rw[hb];simp) (o:=.loop .exhausted pj g' t ps2 as2 bd2 d2) (x:=.loop {rec with state:=.exhausted}) (by simp only[RB];exact⟨_,rfl,rfl,r2,r3,r4,r5,r6,r7⟩);have hlea:=hle.trans hle3;refine⟨rec.pending,_,hend,?_⟩;have hmk:RMk G3 db m1 (mark++a.defers):=(hm1.mono hle2).mono hle3;cases pj with
       |none=>
         simp only[Xnv]at r2;rw[r2]at hI4⊢;exact⟨G3,hlea,hI4,hmk,fun _ _=>rfl,hs.mono hlea⟩
       |some j=>
         cases j with
         |ret=>
           simp only[Xnv]at r2;rw[r2]at hI4⊢;exact wpIn_ret ⟨G3,hlea,hI4,hmk,fun _ _=>rfl,hs.mono hlea⟩
         |exit i=>
           simp only[Xnv]at r2;rw[r2]at hI4⊢;exact wpIn_exit ⟨G3,hlea,hI4,hmk,fun _ _=>rfl,rfl,hs.mono hlea⟩
      ·cases h
    |panicked ch=>
      obtain⟨v,y,G3,hv,hle3,hI3,hrv,rfl⟩:=post;subst hv;simp only[Option.some.injEq,Prod.mk.injEq]at h;obtain⟨rfl,rfl,rfl,rfl⟩:=h;exact⟨G3,hle.trans hle3,hI3,(hm1.mono hle2).mono hle3,fun _ _=>rfl,y,hrv,rfl⟩
  ·cases h
theorem Xcb(hmix:P.follows .mixedOrders=true){E:Env}{lf:Nat}{rd:Option Nat}{F:Fence}{w0:World}{db:List Deferred}:∀(ac:ACode) {c:Code} {s:List AV} {m:List Nat} {st st':St} {x:AExit} {s':List AV} {m':List Nat} {a:Act} {w:World} {G:Gh},
  Xbk P GT c ac=true->RF G rd F->E.Wf st->(∀d∈m,E.rob<=d)->aRun GT C E lf rd ac s m st=some (x,s',m',st')->Inv P GT w0 G st w->HGT GT G->RVs G s a.tmps.toList->RMk G db m a.defers->c.wpIn F 0 P (RunPost P GT w0 G db a ac.wr x s' m' st') a w
 |.skip,c,s,m,st,st',x,s',m',a,w,G,hck,hF,hw,hmr,h,hI,hG,hs,hm=>by
  simp only[aRun,Option.some.injEq,Prod.mk.injEq]at h;obtain⟨rfl,rfl,rfl,rfl⟩:=h;cases c<;>simp only[Xbk,Bool.false_eq_true]at hck
  ·exact wpIn_skip ⟨G,.refl G,hI,hm,fun _ _=>rfl,hs⟩
  ·exact wpIn_label ⟨G,.refl G,hI,hm,fun _ _=>rfl,hs⟩
 |.ret,c,s,m,st,st',x,s',m',a,w,G,hck,hF,hw,hmr,h,hI,hG,hs,hm=>by simp only[aRun,Option.some.injEq,Prod.mk.injEq]at h;obtain⟨rfl,rfl,rfl,rfl⟩:=h;cases c<;>simp only[Xbk,Bool.false_eq_true]at hck;exact wpIn_ret ⟨G,.refl G,hI,hm,fun _ _=>rfl,hs⟩
 |.exit i,c,s,m,st,st',x,s',m',a,w,G,hck,hF,hw,hmr,h,hI,hG,hs,hm=>by simp only[aRun,Option.some.injEq,Prod.mk.injEq]at h;obtain⟨rfl,rfl,rfl,rfl⟩:=h;cases c<;>simp only[Xbk,Bool.false_eq_true,decide_eq_true_eq]at hck;exact wpIn_exit ⟨G,.refl G,hI,hm,fun _ _=>rfl,hck.symm,hs⟩
 |.bad,c,s,m,st,st',x,s',m',a,w,G,hck,hF,hw,hmr,h,hI,hG,hs,hm=>by simp[aRun]at h
 |.reg zq,c,s,m,st,st',x,s',m',a,w,G,hck,hF,hw,hmr,h,hI,hG,hs,hm=>by
  simp only[aRun,Xab]at h;obtain⟨⟨r1,st1⟩,h1,h⟩:=h
  have:∃id ops,c=.region id ops false/\Xb7 P GT ops ops.toList zq=true:=by
   cases c with
   |region id ops dr=>
    cases dr with
    |false=>exact⟨_,_,rfl,by simpa only[Xbk]using hck⟩
    |true=>simp[Xbk]at hck
   |_=>simp[Xbk]at hck
  obtain⟨id,ops,rfl,hck⟩:=this;refine wpIn_region_list (Xed hC hS hck hF hw h1 hI hG hs (fun s1 a1 w1 G1 e1 e2 e3 e4 e5=>?_) (fun v y a1 w1 G1 e1 e2 e3 e4 e5=>?_))
  ·subst e1;simp only[Option.some.injEq,Prod.mk.injEq]at h;obtain⟨rfl,rfl,rfl,rfl⟩:=h;exact⟨G1,e2,e3,by rw[e5.1];exact hm.mono e2,e5.2,e4⟩
  ·subst e1;simp only[Option.some.injEq,Prod.mk.injEq]at h;obtain⟨rfl,rfl,rfl,rfl⟩:=h;exact⟨G1,e2,e3,by rw[e5.1];exact hm.mono e2,e5.2,y,e4,rfl⟩
 |.dreg zq,c,s,m,st,st',x,s',m',a,w,G,hck,hF,hw,hmr,h,hI,hG,hs,hm=>by
  simp only[aRun,Xab]at h;obtain⟨⟨r1,st1⟩,h1,h⟩:=h
  have:∃id ops,c=.region id ops true:=by
   cases c with
   |region id ops dr=>
    cases dr with
    |true=>exact⟨_,_,rfl⟩
    |false=>simp[Xbk]at hck
   |_=>simp[Xbk]at hck
  obtain⟨id,ops,rfl⟩:=this;refine Xnr hC hS hmix hck hF hw h1 hI hG hs (fun s1 a1 w1 G1 e1 e2 e3 e4 e5=>?_) (fun v y a1 w1 G1 e1 e2 e3 e4 e5=>?_)
  ·subst e1;simp only[Option.some.injEq,Prod.mk.injEq]at h;obtain⟨rfl,rfl,rfl,rfl⟩:=h;exact⟨G1,e2,e3,by rw[e5.1];exact hm.mono e2,e5.2,e4⟩
  ·subst e1;simp only[Option.some.injEq,Prod.mk.injEq]at h;obtain⟨rfl,rfl,rfl,rfl⟩:=h;exact⟨G1,e2,e3,by rw[e5.1];exact hm.mono e2,e5.2,y,e4,rfl⟩
 |.seq p q,c,s,m,st,st',x,s',m',a,w,G,hck,hF,hw,hmr,h,hI,hG,hs,hm=>by
  simp only[aRun,Xab]at h;obtain⟨⟨x1,s1,m1,st1⟩,h1,h⟩:=h;cases c<;>simp only[Xbk,Bool.false_eq_true,Bool.and_eq_true]at hck;have k:=Xbl hS p hw hmr h1;refine wpIn_seq (Go.wpIn_mono (Xcb hmix p hck.1 hF hw hmr h1 hI hG hs hm) fun e a1 w1 post=>?_);obtain⟨G1,e2,e3,e4,e6,e5⟩:=post;cases x1 with
  |nrm=>
   cases e<;>simp only at e5;exact Go.wpIn_mono (Xcb hmix q hck.2 (hF.mono e2) (k.1.wf hw) k.2 h e3 (hG.mono e2) e5 e4) fun e a w p=>p.weak e2 (fun t ht=>List.mem_append_right _ ht) fun t ht=>e6 t fun h'=>ht (List.mem_append_left _ h')
  |_=>
   simp only[Option.some.injEq,Prod.mk.injEq]at h;obtain⟨rfl,rfl,rfl,rfl⟩:=h;cases e<;>simp only at e5<;>exact⟨G1,e2,e3,e4,fun t ht=>e6 t fun h'=>ht (List.mem_append_left _ h'),e5⟩
 |.cond v p q,c,s,m,st,st',x,s',m',a,w,G,hck,hF,hw,hmr,h,hI,hG,hs,hm=>by
  cases c<;>simp only[Xbk,Bool.false_eq_true,Bool.and_eq_true]at hck;simp only[aRun]at h;have hv:=Xeg hG hs _ _ hck.1.1;split at h
  ·rename_i b hb;rw[hb]at hv;simp only[RV]at hv;cases b with
   |true=>exact wpIn_cond_true hv (Go.wpIn_mono (Xcb hmix p hck.1.2 hF hw hmr (by simpa using h) hI hG hs hm) fun e a w p=>p.weak (.refl G) (fun t ht=>List.mem_append_left _ ht) fun _ _=>rfl)
   |false=>exact wpIn_cond_false hv (Go.wpIn_mono (Xcb hmix q hck.2 hF hw hmr (by simpa using h) hI hG hs hm) fun e a w p=>p.weak (.refl G) (fun t ht=>List.mem_append_right _ ht) fun _ _=>rfl)
  ·cases h
 |.block i p,c,s,m,st,st',x,s',m',a,w,G,hck,hF,hw,hmr,h,hI,hG,hs,hm=>by
  simp only[aRun,Xab]at h;obtain⟨⟨x1,s1,m1,st1⟩,h1,h⟩:=h;cases c<;>simp only[Xbk,Bool.false_eq_true,Bool.and_eq_true,decide_eq_true_eq]at hck;obtain⟨rfl,hck⟩:=hck;refine wpIn_block (Go.wpIn_mono (Xcb hmix p hck hF hw hmr h1 hI hG hs hm) fun e a1 w1 post=>?_);obtain⟨G1,e2,e3,e4,e6,e5⟩:=post;cases x1 with
  |exit j=>
   cases e<;>simp only at e5;obtain⟨rfl,e5⟩:=e5;simp only at h;simp only[Exit.inBlock];split at h
   ·rename_i hj;simp only[Option.some.injEq,Prod.mk.injEq]at h;obtain⟨rfl,rfl,rfl,rfl⟩:=h;rw[if_pos hj];exact⟨G1,e2,e3,e4,e6,e5⟩
   ·rename_i hj;simp only[Option.some.injEq,Prod.mk.injEq]at h;obtain⟨rfl,rfl,rfl,rfl⟩:=h;rw[if_neg hj];exact⟨G1,e2,e3,e4,e6,rfl,e5⟩
  |_=>
   simp only[Option.some.injEq,Prod.mk.injEq]at h;obtain⟨rfl,rfl,rfl,rfl⟩:=h;cases e<;>simp only at e5<;>exact⟨G1,e2,e3,e4,e6,e5⟩
 |.scope p,c,s,m,st,st',x,s',m',a,w,G,hck,hF,hw,hmr,h,hI,hG,hs,hm=>by cases c<;>simp only[Xbk,Bool.false_eq_true]at hck;simp only[aRun]at h;refine Xkl (fun l a w post=>?_) (Xcb hmix p hck hF hw hmr h hI hG hs hm);obtain⟨G1,_,_,_,_,e5⟩:=post;cases x<;>exact e5
 |.loop p,c,s,m,st,st',x,s',m',aa,w,G,hck,hF,hw,hmr,h,hI,hG,hs,hm=>by
  cases c<;>simp only[Xbk,Bool.false_eq_true]at hck;rename_i b;simp only[aRun]at h;let J:Nat->Act->World->Prop:=fun k a w=> ∃s m st G1,iter (aRun GT C E lf rd p) k s m st=some (x,s',m',st')/\E.Wf st/\(∀d∈m,E.rob<=d)/\G.Le G1/\Inv P GT w0 G1 st w/\RVs G1 s a.tmps.toList/\RMk G1 db m a.defers/\∀t,t∉p.wr->a.tmps[t]?=aa.tmps[t]?;have h0:J lf aa w:=⟨s,m,st,G,h,hw,hmr,.refl G,hI,hs,hm,fun _ _=>rfl⟩;let μ:Act->World->Nat:=fun a w=>Xre fun k=>J k a w;have hμ:∀{k a w},J k a w->J (μ a w) a w/\μ a w<=k:=fun{k a w} hk=>Xnc (p:=fun k=>J k a w) hk;refine wpIn_loop (fun a w=> ∃k,J k a w) μ ⟨lf,h0⟩ fun a w ⟨k0,hk0⟩=>?_;have hJ:=(hμ hk0).1;generalize hk:μ a w=k at hJ;obtain⟨s,m,st,G1,hit,hw1,hmr1,hle1,hI1,hs1,hm1,hk1⟩:=hJ;cases k with
  |zero=>simp[iter]at hit
  |succ k=>
   simp only[iter,Xab]at hit;obtain⟨⟨x1,s1,m1,st1⟩,h1,hit⟩:=hit;have kk:=Xbl hS p hw1 hmr1 h1;refine Go.wpIn_mono (Xcb hmix p hck (hF.mono hle1) hw1 hmr1 h1 hI1 (hG.mono hle1) hs1 hm1) fun e a1 w1 post=>?_;obtain⟨G2,e2,e3,e4,e6,e5⟩:=post;cases x1 with
   |nrm=>
    cases e<;>simp only at e5;have hJ1:J k a1 w1:=⟨s1,m1,st1,G2,hit,kk.1.wf hw1,kk.2,hle1.trans e2,e3,e5,e4,fun t ht=>(e6 t ht).trans (hk1 t ht)⟩;have:=(hμ hJ1).2;exact⟨⟨k,hJ1⟩,by omega⟩
   |_=>
    simp only[Option.some.injEq,Prod.mk.injEq]at hit;obtain⟨rfl,rfl,rfl,rfl⟩:=hit;cases e<;>simp only at e5<;>exact⟨G2,hle1.trans e2,e3,e4,fun t ht=>(e6 t ht).trans (hk1 t ht),e5⟩
 |.rf f ps asg body,c,s,m,st,st',x,s',m',a,w,G,hck,hF,hw,hmr,h,hI,hG,hs,hm=>by
  have:∃g q b d,c=.rangeFunc g q b d:=by cases c<;>simp only[Xbk,Bool.false_eq_true]at hck;exact⟨_,_,_,_,rfl⟩
  obtain⟨g,q,b,d,rfl⟩:=this;exact Xq1 hC hS hck hF hw h hI hG hs hm
end
section
variable{P:Program}{GT:Nat->Option (List AV)}{C:CSem}
theorem Xic{w0 w:World}{G:Gh}{st st':St}{r:Rt AV}{l g:Nat}(hI:Inv P GT w0 G st w)(hg:G.ι l=some g){j:Option AJump}{jc:Option Code}(hj:Xnv j jc)(hn:jc.isNone=j.isNone)(h:Xch l j st=some (r,st')):
  ∃v w',(Instr.endRound g jc).run P w=.ok v w'/\Xca P GT w0 G r st' (.returned v) w':=by
 unfold Xch at h;split at h
 ·rename_i a b c d e f k i hb;simp only[Option.some.injEq,Prod.mk.injEq]at h;obtain⟨rfl,rfl⟩:=h;obtain⟨ob,hob,hr⟩:=hI.blk' hb hg;simp only[RB]at hr;obtain⟨rec,rfl,r1,r2,r3,r4,r5,r6,r7⟩:=hr;have hend:=run_endRound (P:=P) jc hob;refine⟨_,_,hend,.bool j.isNone,G,rfl,.refl G,hI.setBlk hg (by rw[hb];simp) (x:=.loop {rec with state:=if jc.isNone then .ready else .done,pending:=jc}) ?_,by simp only[RV,hn]⟩;simp only[RB];refine⟨_,rfl,?_,hj,r3,r4,r5,r6,r7⟩;rw[hn];cases j.isNone<;>simp[Xjk]
 ·cases h
theorem Xkt(hmix:P.follows .mixedOrders=true)(hC:Xd7 P GT C)(hS:Xey C){E:Env}{lf l:Nat}{args:List AV}{st st':St}{r:Rt AV}{w0 w:World}{G:Gh}{xs:Array Value}
  (h:Xd6 GT C E lf l args st=some (r,st')) (hw:E.Wf st) (hI:Inv P GT w0 G st w) (hG:HGT GT G) (hx:RVs G args xs.toList):CallIs P G w (.yld l) xs (Xca P GT w0 G r st'):=by
 intro g hg;unfold Xd6 at h;split at h
 ·rename_i a b c t ps asg body d hb;simp only[Xad,Bool.and_eq_true,decide_eq_true_eq,Xab]at h;obtain⟨⟨hlen,hrob⟩,⟨x1,s1,m1,st1⟩,h1,h⟩:=h;obtain⟨ob,hob,hr⟩:=hI.blk' hb hg;simp only[RB]at hr;obtain⟨rec,rfl,r1,r2,r3,r4,r5,r6,r7⟩:=hr;have hps:rec.params.size=ps.length:=by rw[<-r4];simp
  have hxs:xs.size=args.length:=by have:=hx.length;simpa using this
  refine⟨rec,hob,by omega,?_⟩;have hF:RF G (some l) (Fence.wide.inRound g):=⟨g,hg,rfl⟩;have htm:RVs G (Xec t ps args) ((rec.params.zip xs).foldl (fun tmps (t,a)=>tmps.setIfInBounds t a) rec.tmps).toList:=by rw[<-Array.foldl_toList,Xk1,Array.toList_zip,r4];exact Xgl hx r3
  have k1:=Xbl hS asg hw (by simp) h1;refine roundIn_of_wpIn trivial (Go.wpIn_mono (Xcb hC hS hmix asg r5 hF hw (by simp) h1 hI hG htm rfl) fun e a1 w1 post=>?_);obtain⟨G1,hle1,hI1,hm1,_,hs1⟩:=post;split at h
  ·rename_i s2 st2 heq;simp only[Prod.mk.injEq]at heq;obtain⟨rfl,rfl,rfl,rfl⟩:=heq;cases e<;>simp only at hs1;split at h
   ·rename_i p f t2 ps2 as2 bd2 d2 hb2;simp only[Xab]at h;obtain⟨⟨x3,s3,m3,st3⟩,h3,h⟩:=h;have hg1:=hle1.ι _ _ hg;obtain⟨ob2,hob2,hr2⟩:=hI1.blk' hb2 hg1;simp only[RB]at hr2;obtain⟨rec2,rfl,q1,q2,q3,q4,q5,q6,q7⟩:=hr2;simp only[Xjk]at q1;have hI2:=hI1.setBlk hg1 (by rw[hb2];simp) (o:=.loop .busy p f t2 ps2 as2 bd2 d2) (x:=.loop {rec2 with state:=.busy}) (by simp only[RB];exact⟨_,rfl,rfl,q2,q3,q4,q5,q6,q7⟩);refine⟨_,run_beginRound hob2 q1,?_⟩;have k2:StepOK E st1 {st1 with H:=st1.H.set l (.loop .busy p f t2 ps2 as2 bd2 d2)}:=.setH hrob hb2 fun _ r hr=>by simpa only[Xb5]using hr
    refine Go.wpIn_mono (Xcb hC hS hmix body r6 (hF.mono hle1) (k2.wf (k1.1.wf hw)) (by simp) h3 hI2 (hG.mono hle1) hs1 hm1) fun e2 a2 w2 post2=>?_;obtain⟨G2,hle2,hI3,hm3,_,hs3⟩:=post2;have hg2:=hle2.ι _ _ hg1;have fin:∀{j:Option AJump} {jc:Option Code},Xnv j jc->jc.isNone=j.isNone->Xch l j st3=some (r,st')->∃v w',(Instr.endRound g jc).run P w2=.ok v w'/\Xca P GT w0 G r st' (.returned v) w':=fun hj hn he=>by obtain⟨v,w',h1,v',G',h2,h3,h4,h5⟩:=Xic (P:=P) hI3 hg2 hj hn he;exact⟨v,w',h1,v',G',h2,hle1.trans (hle2.trans h3),h4,h5⟩
    cases x3 with
    |nrm=>cases e2<;>simp only at hs3;exact fin (j:=none) rfl rfl h
    |ret=>cases e2<;>simp only at hs3;exact fin (j:=some .ret) rfl rfl h
    |exit i=>
     cases e2<;>simp only at hs3;obtain⟨rfl,_⟩:=hs3;exact fin (j:=some (.exit _)) rfl rfl h
    |pan v=>cases h
   ·cases h
  ·cases h
 ·cases h
theorem Xee{fn:Func}{tmps:Array Value}{R:Ending->World->Prop}{w0:World}{db:List Deferred}:∀{m:List Nat} {ds:List Deferred} {st st':St} {w:World} {G:Gh} {u:FrameMode},Xbf st m=some st'->RMk G db m ds->Inv P GT w0 G st w->u≠ .run->
  (∀w',Inv P GT w0 G st' w'->LeavesInM Fence.wide 0 P fn tmps R db u w')->LeavesInM Fence.wide 0 P fn tmps R ds u w
 |[],ds,st,st',w,G,u,h,hm,hI,hu,hfin=>by simp only[Xbf,Option.some.injEq]at h;subst h;simp only[RMk]at hm;subst hm;exact hfin w hI
 |d::m,ds,st,st',w,G,u,h,hm,hI,hu,hfin=>by
  obtain⟨r,ds',rfl,hd,hm⟩:=hm;simp only[Xbf]at h;split at h
  ·rename_i hb;obtain⟨ob,hob,hr⟩:=hI.blk' hb hd;simp only[RB]at hr;subst hr;refine⟨hu,.inl ⟨r,_,rfl,run_takeDeferred hob,Xee h hm (hI.setBlk hd (by rw[hb];simp) (o:=.opq) (x:=.deferred none) ?_) hu hfin⟩⟩;simp[RB]
  ·cases h
def resF(tmps:Array Value):ResultVar->Sem Value
 |.tmp t=>pure (tmps.getD t undef)
 |.cell a t=>do loadVar t (<-asAddr (tmps.getD a undef))
def ARes.slot:ARes->Nat
 |.tmp t=>t
 |.cell a _=>a
theorem Xi7{G:Gh}{s:List AV}{tmps:Array Value}(hs:RVs G s tmps.toList)(t:Nat):RV G (lk s t) (tmps.getD t undef):=by
 simp only[lk];cases e:s[t]? with
 |some v=>
  obtain⟨y,hy,hr⟩:=hs.get e;have hy':tmps[t]?=some y:=by simpa using hy
  simp only[Option.getD_some,Array.getD_eq_getD_getElem?,hy'];exact hr
 |none=>
  have hl:=hs.length;have:tmps[t]?=none:=by rw[List.getElem?_eq_none_iff]at e;rw[Array.getElem?_eq_none];simp at hl;omega
  simp only[Option.getD_none,Array.getD_eq_getD_getElem?,this];simp[AV.undef,RV,RVs,undef]
theorem Xlv{w0 w:World}{G:Gh}{st:St}{s:List AV}{tmps:Array Value}(hI:Inv P GT w0 G st w)(f:ResultVar->Sem Value)
  (hf:f=resF tmps):∀{l:List ResultVar} {rs:List ARes} {vs:List AV},(∀r∈rs,RV G (lk s r.slot) (tmps.getD r.slot undef))->Xfx P l rs=true->resAll s st rs=some vs->
  ∃ys,(l.mapM f).run P w=.ok ys w/\RVs G vs ys
 |[],[],vs,_,_,h=>by simp only[resAll,Option.some.injEq]at h;subst h;exact⟨[],rfl,by simp[RVs]⟩
 |[],_::_,vs,_,hc,_=>by simp[Xfx]at hc
 |x::l,[],vs,_,hc,_=>by cases x<;>simp[Xfx]at hc
 |x::l,r::rs,vs,hs,hc,h=>by
  simp only[resAll,Xab,Option.some.injEq]at h;obtain⟨v,h1,vs',h2,rfl⟩:=h
  have key:Xfx P l rs=true/\∃y,(f x).run P w=.ok y w/\RV G v y:=by
   have lkS:=hs r (by simp);cases x with
   |tmp t=>
    cases r with
    |tmp u=>
     simp only[Xfx,Bool.and_eq_true,decide_eq_true_eq]at hc;obtain⟨rfl,hc⟩:=hc;simp only[resA,Option.some.injEq]at h1;subst h1;exact⟨hc,_,by rw[hf];rfl,lkS⟩
    |cell _ _=>simp[Xfx]at hc
   |cell a t=>
    cases r with
    |tmp u=>simp[Xfx]at hc
    |cell b k=>
     simp only[Xfx,Bool.and_eq_true,decide_eq_true_eq]at hc;obtain⟨⟨rfl,hk⟩,hc⟩:=hc;simp only[resA]at h1;obtain⟨ad,y,e1,e2,e3⟩:=Xjx hI hk lkS h1;simp only[ARes.slot]at e1;refine⟨hc,y,?_,e3⟩;rw[hf];simp only[resF,Sem.run_bind,e1,asAddr,Sem.run_pure,Result.andThen_ok,e2]
  obtain⟨hc',y,hy,hr⟩:=key;obtain⟨ys,hys,hrs⟩:=Xlv hI f hf (fun r hr=>hs r (by simp[hr])) hc' h2;refine⟨y::ys,?_,by simp only[RVs];exact⟨y,ys,rfl,hr,hrs⟩⟩;rw[List.mapM_cons];simp[hy,hys]
theorem Xe1{w0 w:World}{G:Gh}{st:St}{s:List AV}{tmps:Array Value}{fn:Func}{rs:List ARes}{vs:List AV}(hI:Inv P GT w0 G st w)(hs:∀r∈rs,RV G (lk s r.slot) (tmps.getD r.slot undef))(hc:Xfx P fn.results.toList rs=true)(h:resAll s st rs=some vs):
    ∃y,(results fn tmps).run P w=.ok y w/\RV G (oneOr vs) y:=by
  obtain⟨ys,h1,h2⟩:=Xlv hI _ rfl hs hc h;have h3:(fn.results.mapM (resF tmps)).run P w=.ok ys.toArray w:=by rw[Array.mapM_eq_mapM_toList];simp only[Sem.run_map];rw[h1];rfl
  have hl:=h2.length;unfold results;refine⟨if h:ys.toArray.size=1 then ys.toArray[0]else .tuple ys.toArray,?_,?_⟩
  ·have e:(fn.results.mapM fun x=>match x with
        |ResultVar.tmp t=>(pure (tmps.getD t undef):Sem Value)
        |ResultVar.cell a t=>do loadVar t (<-asAddr (tmps.getD a undef))).run P w=.ok ys.toArray w:=h3
   rw[Sem.run_bind];refine Eq.trans (congrArg (fun r=>Result.andThen r _) e) ?_;rfl
  ·match vs,h2 with
   |[],h2=>
     simp only[RVs]at h2;subst h2;simp[oneOr,RV,RVs]
   |[v],h2=>
     simp only[RVs]at h2;obtain⟨x,xs,rfl,hr,rfl⟩:=h2;simpa [oneOr]using hr
   |v::u::vs,h2=>
     have h2':=h2;simp only[RVs]at h2';obtain⟨x,xs,rfl,hr,y,ys',rfl,_⟩:=h2';simp only[List.size_toArray,List.length_cons];rw[dif_neg (by omega)];simp only[oneOr,RV];exact⟨_,rfl,h2⟩
theorem Xi1{w0 w:World}{G:Gh}{st:St}{s:List AV}{tmps:Array Value}{fn:Func}{rs:List ARes}{vs:List AV}(hI:Inv P GT w0 G st w)(hs:RVs G s tmps.toList)(hc:Xfx P fn.results.toList rs=true)(h:resAll s st rs=some vs):
  ∃y,(results fn tmps).run P w=.ok y w/\RV G (oneOr vs) y:=Xe1 hI (fun r _=>Xi7 hs r.slot) hc h
end
structure AOK(P:Program)(A:AProg):Prop where
 mixed:P.follows .mixedOrders=true
 fn:∀f fn,A.ovr f=none->A.fn f=some fn->∃F,P.funcs[f]?=some F/\ckFn P A.GT F fn=true/\F.name≠ "runtime.NumGoroutine"
 step:Xlf A
 ovr:∀f g,A.ovr f=some g->∀C,Xd7 P A.GT C->Xey C->∀E args st r st',g C E args st=some (r,st')->E.Wf st->
  ∀w0 w G (xs:Array Value),Inv P A.GT w0 G st w->HGT A.GT G->RVs G args xs.toList->CallIs P G w (.fn f) xs (Xca P A.GT w0 G r st')
theorem Xh1{P:Program}{A:AProg}(hA:AOK P A):∀k,Xd7 P A.GT (aCall A k)
 |0=>fun E cal args st r st' h=>by simp[aCall]at h
 |k+1=>fun E cal args st r st' h hw w0 w G xs hI hG hx=>by
  have hC:=Xh1 hA k;have hS:=Xiw hA.step k;cases cal with
  |yld l=>exact Xkt hA.mixed hC hS h hw hI hG hx
  |fn f=>
   simp only[aCall]at h;split at h
   ·rename_i g hg;exact hA.ovr f g hg _ hC hS _ _ _ _ _ h hw _ _ _ _ hI hG hx
   ·rename_i hov;split at h
    ·cases h
    ·rename_i fn hfn;obtain⟨F,hF,hck,hname⟩:=hA.fn f fn hov hfn;simp only[ckFn,Bool.and_eq_true,decide_eq_true_eq]at hck;obtain⟨⟨hnt,hres⟩,hck⟩:=hck;cases hb:F.body with
     |none=>simp[hb]at hck
     |some c=>
      simp only[hb]at hck;simp only[Xab]at h;obtain⟨⟨x1,s1,m1,st1⟩,h1,h⟩:=h;refine⟨⟨F,hF,by simp[hb],hname⟩,callsIn_of_wp_marks hF hb trivial ?_⟩;have hxl:xs.size=args.length:=by have:=hx.length;simpa using this
      have htm:RVs G (args++List.replicate (fn.ntmps - args.length) AV.undef) (xs++Array.replicate (F.ntmps - xs.size) undef).toList:=by rw[Array.toList_append,Array.toList_replicate,hnt,hxl];exact hx.append (RVs.replicate _ (by simp[AV.undef,RV,RVs,undef]))
      refine Go.wpIn_mono (Xcb hC hS hA.mixed fn.body hck (rd:=none) rfl hw (by simp) h1 hI hG (a:={tmps:=xs++Array.replicate (F.ntmps - xs.size) undef,defers:=[]}) htm rfl) fun e a1 w1 post=>?_;obtain⟨G1,hle,hI1,hm1,_,hs1⟩:=post;have back:∀{st2:St} {s:List AV},RVs G1 s a1.tmps.toList->Xbf st1 m1=some st2->Xe3 fn st2 s=some (r,st')->LeavesInM Fence.wide 0 P F a1.tmps (Xca P A.GT w0 G r st') a1.defers .returning w1:=fun{st2 s} hs ht hl=>by unfold Xe3 at hl;simp only[Xab,Option.some.injEq,Prod.mk.injEq]at hl;obtain⟨vs,hv,rfl,rfl⟩:=hl;refine Xee ht hm1 hI1 (by simp) fun w' hI'=>?_;obtain⟨y,hy,hr⟩:=Xi1 hI' hs hres hv;exact⟨y,hy,_,G1,rfl,hle,hI',hr⟩
      cases x1 with
      |nrm=>
       simp only[Xab]at h;obtain⟨st2,ht,hl⟩:=h;cases e<;>simp only at hs1;exact back hs1 ht hl
      |ret=>
       simp only[Xab]at h;obtain⟨st2,ht,hl⟩:=h;cases e<;>simp only at hs1;exact back hs1 ht hl
      |exit i=>cases h
      |pan v=>
       simp only[Xab,Option.some.injEq,Prod.mk.injEq]at h;obtain⟨st2,ht,rfl,rfl⟩:=h;cases e<;>simp only at hs1;obtain⟨y,hr,rfl⟩:=hs1;exact Xee ht hm1 hI1 (by simp) fun w' hI'=>⟨v,y,G1,rfl,hle,hI',hr,rfl⟩
end Go.Proofs.YP
