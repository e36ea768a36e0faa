/- Texts that the laws of the seat rest on: an abstract machine, what the functions answer in it, plain laws. -/
import Derived.Test.YtjehnhppfneidaaGreatDoorRqf
import Derived.Test.YtjehnhppfneidaaGreatDoorRqk
import Derived.Deep.DeepHandedRow
import Derived.Deep.DeepWitnessRowRef
import Derived.Lib.LaidTab
import Derived.LaidMore
import Derived.ReadAgain
import Derived.ChangeStays
import Derived.PinnedBridge
import Derived.Lib.LaidIn
import Derived.Test.YtjehnhppfneidaaGreatDoorRows
import Derived.ProofKit
import Derived.OpenShut
import Derived.Stop.LaidErr
import Derived.LaidSub
set_option linter.unusedVariables false
set_option linter.unusedSimpArgs false
set_option linter.unusedSectionVars false
namespace Go.Proofs.YP
open Go Go.RowKit Go.ChangeShapes Go.Proofs.YtjehnhppfneidaaGreatDoor
theorem own:ownKnob Tryz.prog.godebug=none:=by kernel_rfl
theorem Xt4:laidOutB Tryz.prog=true:=by kernel_rfl
theorem kids:Kids Tryz.prog (· <Tryz.prog.types.size):=kids_rows Xt4 (by kernel_rfl)
theorem full:∀t e,t<Tryz.prog.types.size->Tryz.prog.underlying t=some (.slice e)->0<Tryz.prog.cellsOf e:=slices_full_of _ (by kernel_rfl)
theorem Xkq{w w':World}(h:Kept w w')(p:MemPlace)(hp:p.block<w.heap.size):w.sameAt w' p:=by
 cases p with
 |cell b off=>simp only[World.sameAt,World.cell?,h.old b hp]
 |map b=>exact h.old b hp
section
variable{H:Type}{enc:TypeId×Value->H}
theorem Xwn{w w':World}{sp:Nat->Bool}(hk:Kept w w'):∀{ts:List TypeId} {vs:List Value} {ds:List (DataW H)} {ps:List MemPlace},(∀t∈ts,t<Tryz.prog.types.size)->
  DataW.TrodAll enc Tryz.prog w 0 (fun _=>true) true ts vs ds ps->(∀p∈ps,p.block<w.heap.size)->(∀p∈ps,sp p.block=true)->DataW.TrodAll enc Tryz.prog w' 0 sp true ts vs ds ps
 |[],[],[],_,_,h,_,_=>h
 |t::_,_::_,_::_,_,hT,⟨p,q,⟨n,h1⟩,h2,e⟩,hl,hs=>
  ⟨p,q,⟨n,DataW.trod_stays kids (fun ht hu=>full _ _ ht hu) (fun h=>by cases h) (hT t (by simp)) h1 (fun x hx=>Xkq hk x (hl x (by rw[e];exact List.mem_append_left _ hx))) (fun x hx=>hs x (by rw[e];exact List.mem_append_left _ hx))⟩,
   Xwn hk (fun t ht=>hT t (by simp[ht])) h2 (fun x hx=>hl x (by rw[e];exact List.mem_append_right _ hx)) (fun x hx=>hs x (by rw[e];exact List.mem_append_right _ hx)),e⟩
theorem Xrf{s:ChangeSpec}{fn:Func}(hv:s.vars=[])(hr:fn.resultTypes= #[4])(hp:∀t∈fn.params.toList,t<Tryz.prog.types.size){W W':World}{args:Array Value}{ds gs:List (DataW H)}{before:List MemPlace}
  (hW:DataW.Whole enc Tryz.prog fn.params.toList s.vars false W args.toList ds gs before) (hs:s.fn H (ds++gs)={results:=[.lit (.bool true)],args:=ds}) (hk:Kept W W'):
  s.post enc Tryz.prog fn false true false false W args (.bool true) W':=by
 have hlt:=hW.lt;have hW':=hW;obtain⟨p,q,hA,hV,rfl, -, -⟩:=hW;rw[hv]at hV;obtain⟨rfl,rfl⟩:=trodVars_none hV;simp only[List.append_nil]at hlt hW' hs;refine⟨ds,[],p,[],p,[],hW',?_,?_,?_,hk.keptBut _,fun h=>by cases h⟩
 ·rw[List.append_nil,hs,hr];exact trodAll_mk1 (shut_bool Tryz.underlying4 _)
 ·rw[List.append_nil,hs];exact Xwn hk hp hA hlt fun x hx=>by simpa using hlt x hx
 ·rw[List.append_nil,hs,hv];exact rfl
end
noncomputable def laidWorld (os:Os):World:=
 let w0:=World.holding Tryz.prog os ⟨#[.cells #[.int .u16 9,.int .u16 13,.int .u16 1,.int .u16 32,.int .u16 133,.int .u16 101,.int .u16 160,.int .u16 5760,.int .u16 5600,.int .u16 8192,.int .u16 8202,.int .u16 1,.int .u16 8232,.int .u16 8233,.int .u16 1,.int .u16 8239,.int .u16 8287,.int .u16 48,.int .u16 12288,.int .u16 12288,.int .u16 1] 226,
  .cells #[.slice (some ⟨11,0,none⟩) 7 7,.slice none 0 0,.int .i64 2] 223], #[],[]⟩
 let put (h:Array Obj) (g:Nat) (cs:Array Value):Array Obj:=h.modify g fun
  |.cells _ t frozen=>.cells cs t frozen
  |o=>o
 let h0:=put w0.heap 0 #[.iface 161 (.agg #[.pointer (some ⟨6,61,none⟩)])];let h1:=put h0 1 ((List.range 256).map fun i=>Value.int .u8 (if 9<=i/\i<=13\/i=32 then 1 else 0)).toArray;let h2:=put h1 2 #[.pointer (some ⟨12,0,none⟩)];let h3:=put h2 3 (Lib.firstTab.map fun z=>Value.int .u8 z).toArray;let h4:=put h3 4 #[.int .u8 128,.int .u8 191,.int .u8 160,.int .u8 191,.int .u8 128,.int .u8 159,.int .u8 144,.int .u8 191,.int .u8 128,.int .u8 143,.int .u8 0,.int .u8 0,.int .u8 0,.int .u8 0,.int .u8 0,.int .u8 0,.int .u8 0,.int .u8 0,.int .u8 0,.int .u8 0,.int .u8 0,.int .u8 0,.int .u8 0,.int .u8 0,.int .u8 0,.int .u8 0,.int .u8 0,.int .u8 0,.int .u8 0,.int .u8 0,.int .u8 0,.int .u8 0]
 {w0 with heap:=h4}
abbrev Xt3:List (String×DataW Unit):=Rows.scopeResolvesUptoRow.laid
set_option maxRecDepth 100000
theorem Xw8(os:Os)(args:Array Value):LaidIn Tryz.prog ((laidWorld os).forCall (fun _ _=>0) ⟨#[],args,[]⟩).memory [("unicode/utf8.acceptRanges",Rows.laid_unicode_utf8_acceptRanges)] [4]:=
 LaidIn.of_run [4] 8 (by kernel_rfl) (by kernel_rfl) (by kernel_rfl) (by kernel_rfl)
theorem Xxa(os:Os)(args:Array Value):LaidIn Tryz.prog ((laidWorld os).forCall (fun _ _=>0) ⟨#[],args,[]⟩).memory [("unicode.White_Space",Rows.laid_unicode_White_Space)] [2,11,12]:=
 LaidIn.of_run [2,11,12] 8 (by kernel_rfl) (by kernel_rfl) (by kernel_rfl) (by kernel_rfl)
theorem Xxb(os:Os)(args:Array Value):LaidIn Tryz.prog ((laidWorld os).forCall (fun _ _=>0) ⟨#[],args,[]⟩).memory [("strings.asciiSpace",Rows.laid_strings_asciiSpace)] [1]:=
 LaidIn.of_run [1] 8 (by kernel_rfl) (by kernel_rfl) (by kernel_rfl) (by kernel_rfl)
theorem Xw9(os:Os)(args:Array Value):LaidIn Tryz.prog ((laidWorld os).forCall (fun _ _=>0) ⟨#[],args,[]⟩).memory [("unicode/utf8.first",Rows.laid_unicode_utf8_first)] [3]:=
 LaidIn.of_run [3] 8 (by kernel_rfl) (by kernel_rfl) (by kernel_rfl) (by kernel_rfl)
theorem Xua(os:Os)(args:Array Value):handleAtB Tryz.prog ((laidWorld os).forCall (fun _ _=>0) ⟨#[],args,[]⟩).memory ("errors.errorType",Rows.laid_errors_errorType)=true:=by kernel_rfl
end Go.Proofs.YP
set_option maxRecDepth 100000
namespace Go.Proofs.YP
open Go Go.RowKit Go.ChangeShapes Go.Proofs.YtjehnhppfneidaaGreatDoor
theorem laid_met(os:Os)(args:Array Value):laidMetH Tryz.prog Xt3 ((laidWorld os).forCall (fun _ _=>0) ⟨#[],args,[]⟩).memory:=
 laidMetH_of_parts3 (fuel:=8) ((((Xw8 os args).append (Xxa os args) (by kernel_rfl)).append (Xxb os args) (by kernel_rfl)).append (Xw9 os args) (by kernel_rfl)).met
  (by
   have h:=Xua os args;show(handleAtB Tryz.prog _ ("errors.errorType",Rows.laid_errors_errorType) && true)=true;rw[h];rfl) (by kernel_rfl)
theorem Xsn:Tryz.prog.globalNamed "strings.asciiSpace"=some 1:=by kernel_rfl
theorem Xwl:(Tryz.prog.globals[1]?).map (·.type)=some 200:=by kernel_rfl
theorem Xqz:Tryz.prog.underlying 200=some (.array 256 5):=Tryz.underlying200
theorem Xwi:Tryz.prog.underlying 5=some (.int .u8):=Tryz.underlying5
theorem Xz4:Tryz.prog.cellsOf 5=1:=by kernel_rfl
theorem Xrz:Tryz.prog.cellsOf 200=256:=by kernel_rfl
def blankZ:List Int:=(List.range 256).map fun i=>if 9<=i/\i<=13\/i=32 then 1 else 0
theorem Xr2:(Rows.laid_strings_asciiSpace:DataW Unit)=Lib.tabData .u8 blankZ:=by kernel_rfl
theorem Xoi{w:World}{g:Nat}(hg:g<w.heap.size)(k:IntKind):∀(zs:List Int) (q:Nat),(∀i z,zs[i]?=some z->w.cell? ⟨g,q+i,none⟩=some (.int k z))->RC (G0 w) g q (zs.map (AV.int k))
 |[],q,_=>by simp[RC]
 |z::r,q,h=>by
  simp only[List.map_cons,RC];refine⟨⟨.int k z,?_,by simp only[RV]⟩,Xoi hg k r (q+1) fun i y e=>?_⟩
  ·simp only[G0,if_pos hg];exact h 0 z rfl
  ·have:=h (i+1) y (by simpa using e);rw[show q+1+i=q+(i+1) by omega];exact this
theorem Xp6{w:World}{g o:Nat}{x:Value}(h0:w.cell? ⟨g,o,none⟩=some x):g<w.heap.size:=by
 rcases Nat.lt_or_ge g w.heap.size with h|h
 ·exact h
 ·simp[World.cell?,Array.getElem?_eq_none h]at h0
theorem Xyz{W:World}(h:laidMetH Tryz.prog Xt3 W):HGT tabs (G0 W):=by
 obtain⟨h1,h2⟩:=laidMetH_iff.1 h;have h1:laidMet Tryz.prog [("unicode/utf8.acceptRanges",Rows.laid_unicode_utf8_acceptRanges),("unicode.White_Space",Rows.laid_unicode_White_Space),("strings.asciiSpace",Rows.laid_strings_asciiSpace),("unicode/utf8.first",Rows.laid_unicode_utf8_first)] W:=h1;have h2:handlesMet Tryz.prog [("errors.errorType",Rows.laid_errors_errorType)] W:=h2;refine⟨fun n c e=>?_,?_⟩
 ·match n,e with
  |1,e=>
   cases e;have h3:=laidMet.tail (laidMet.tail h1);rw[Xr2]at h3;have ht:=Lib.tabIs_of_head Xsn Xwl Xqz Xwi Xz4 Xrz h3;have hc:∀i z,blankZ[i]?=some z->W.cell? ⟨1,0+i,none⟩=some (.int .u8 z):=fun i z e=>by have:=ht.cell Xsn i (uB e);rw[Nat.zero_add,this,List.getD_eq_getElem?_getD,e];rfl
   have hlt:1<W.heap.size:=Xp6 (hc 0 0 (by kernel_rfl));have:=Xoi hlt .u8 blankZ 0 hc;have e2:blankZ.map (AV.int .u8)=blanks:=by unfold blankZ blanks;rw[List.map_map];apply List.map_congr_left;intro i _;simp only[Function.comp]
   rw[e2]at this;exact this
 ·have:=h2 _ (List.mem_cons_self ..);obtain⟨name,u,ty,e1,e2,e3,e4,e5⟩:=this;have hn:name=[101,114,114,111,114]:=Option.some.inj (e1.symm.trans (show Rows.laid_errors_errorType.handleName?=some [101,114,114,111,114]from by kernel_rfl));have hu:u=161:=Option.some.inj (e2.symm.trans (show(Tryz.prog.cutTypes.find? (·.1== "internal/reflectlite.rtype")).map (·.2)=some 161 by kernel_rfl));subst hn hu;have hall:((List.range Tryz.prog.types.size).all fun t=>!Tryz.prog.rowNamed t [101,114,114,111,114]||t==61)=true:=by kernel_rfl
  have hty:=List.all_eq_true.1 hall ty (List.mem_range.2 e3);rw[e4]at hty;have hty:ty=61:=by simpa using hty
  subst hty;have hh:typeHandle Tryz.prog 61=.pointer (some ⟨6,61,none⟩):=by kernel_rfl
  rw[hh]at e5;have hg0:Tryz.prog.globalNamed "errors.errorType"=some 0:=by kernel_rfl
  have hc:=World.var?_cell hg0 e5 0;have hc:W.cell? ⟨0,0,none⟩=some (.iface 161 (.agg #[.pointer (some ⟨6,61,none⟩)])):=by simpa using hc
  simp only[G0,if_pos (Xp6 hc)];exact hc
end Go.Proofs.YP
set_option maxRecDepth 100000
namespace Go.Proofs.YP
open Go Go.RowKit Go.ChangeShapes Go.Proofs.YtjehnhppfneidaaGreatDoor
section
variable{H:Type}{enc:TypeId×Value->H}
theorem contract4{f:Nat}{fn:Func}{s:ChangeSpec}(hp:fn.params= #[9])(hr:fn.resultTypes= #[4])(hv:s.vars=[])(hs:∀d:DataW H,s.fn H [d]={results:=[.lit (.bool true)],args:=[d]})
    (key:∀t:ByteArray,t.size<=1048576->Says f [.str t]) (W:World) (base:Nat) (args:Array Value) (ds gs:List (DataW H)) (before:List MemPlace)
    (hval:∀(j:Nat) t v,fn.params[j]?=some t->args[j]?=some v->Value.okWide Tryz.prog W .any base t v)
    (hW:DataW.Whole enc Tryz.prog fn.params.toList s.vars false W args.toList ds gs before) (hB:Rows.uptoSmall H (ds++gs)=true) (hL:laidMetH Tryz.prog Xt3 W):
    Calls Tryz.prog f args W fun e W'=> ∃v,e=.returned v/\s.post enc Tryz.prog fn false true false false W args v W':=by
  have hW':=hW;obtain⟨p,q,hA,hV,rfl, -, -⟩:=hW;rw[hv]at hV;obtain⟨rfl,rfl⟩:=trodVars_none hV;rw[hp]at hA hval;obtain⟨v0,d0,rfl,rfl,h0⟩:=trodAll_one hA;obtain⟨t,rfl,rfl,rfl,hsz⟩:=ChangeMaps.open_string Tryz.underlying9 (hval 0 9 v0 rfl rfl) h0
  have hb:t.size<=1048576:=by
    have:=of_decide_eq_true hB;have hl:t.data.toList.length=t.size:=by rw[Array.length_toList];rfl
    simp only[List.append_nil,Rows.uptoBulkAll,Rows.uptoBulk,hl]at this;omega
  obtain⟨k,st',e⟩:=key t hb
  have hc:Calls Tryz.prog f #[.string t] W fun e w'=>e=.returned (.bool true)/\Kept W w':=
    Xr0 e (Xyz hL) (by simp only[RVs,RV];exact⟨_,_,rfl,rfl,rfl⟩)
  refine hc.mono fun e W' ⟨he,hk⟩=>⟨_,he,?_⟩
  exact Xrf hv hr (by rw[hp];intro t ht;have h:t=9:=by simpa using ht
                      subst h;exact of_decide_eq_true (by kernel_rfl)) hW' (by simpa using hs _) hk
end
end Go.Proofs.YP
