/- Texts Wi, Wj. -/
import Derived.Test.YtkcdbcbpbolgkaaGreatDoorMwn
import Derived.Lib.Strings
import Derived.Lib.Slices
import Derived.Lib.Walk
import Derived.Lib.Bytealg
import Derived.Shelf.SlSortCmp.WholeK
set_option linter.unusedSimpArgs false
set_option linter.unusedVariables false
set_option linter.defProp false
set_option maxRecDepth 100000
noncomputable section
namespace Go.Proofs.YtkcdbcbpbolgkaaGreatDoor
open Tryz
open Go.Abs Go.Shelf Go.RowKit Go.Lib Go.Sort
def xhk:Go.Shelf.Ren:=⟨fun|6=>172|15=>238|14=>237|28=>280|29=>281|20=>272|21=>273|22=>274|23=>275|24=>276|25=>277|26=>278|27=>279|46=>320|47=>321|48=>322|49=>323|50=>324|57=>335|n=>n,fun|22=>192|24=>195|25=>289|3=>3|39=>338|0=>0|53=>372|55=>270|4=>4|46=>366|45=>365|50=>171|5=>5|9=>9|66=>404|70=>353|76=>420|77=>92|n=>n,fun|n=>n⟩
theorem xw4:Go.Proofs.SlLaysF0.n6 prog xhk:={
 mixed:=by kernel_rfl
 f6:=⟨f172.name,by decide,func172.trans (congrArg some (by kernel_rfl))⟩
 f14:=⟨f237.name,by decide,func237.trans (congrArg some (by kernel_rfl))⟩
 f15:=func238.trans (congrArg some (by kernel_rfl))
 f20:=⟨f272.name,by decide,func272.trans (congrArg some (by kernel_rfl))⟩
 f21:=⟨f273.name,by decide,func273.trans (congrArg some (by kernel_rfl))⟩
 f22:=⟨f274.name,by decide,func274.trans (congrArg some (by kernel_rfl))⟩
 f23:=⟨f275.name,by decide,func275.trans (congrArg some (by kernel_rfl))⟩
 f24:=⟨f276.name,by decide,func276.trans (congrArg some (by kernel_rfl))⟩
 f25:=⟨f277.name,by decide,func277.trans (congrArg some (by kernel_rfl))⟩
 f26:=⟨f278.name,by decide,func278.trans (congrArg some (by kernel_rfl))⟩
 f27:=⟨f279.name,by decide,func279.trans (congrArg some (by kernel_rfl))⟩
 f28:=func280.trans (congrArg some (by kernel_rfl))
 f29:=func281.trans (congrArg some (by kernel_rfl))
 f46:=⟨f320.name,by decide,func320.trans (congrArg some (by kernel_rfl))⟩
 f47:=func321.trans (congrArg some (by kernel_rfl))
 f48:=func322.trans (congrArg some (by kernel_rfl))
 f49:=⟨f323.name,by decide,func323.trans (congrArg some (by kernel_rfl))⟩
 f50:=⟨f324.name,by decide,func324.trans (congrArg some (by kernel_rfl))⟩
 f57:=⟨f335.name,by decide,func335.trans (congrArg some (by kernel_rfl))⟩
 t0:=underlying0
 a0:=isAgg0
 z0:=sizeOf0
 v0:=zeroValue0
 t3:=underlying3
 a3:=isAgg3
 z3:=sizeOf3
 v3:=zeroValue3
 t4:=underlying4
 a4:=isAgg4
 z4:=sizeOf4
 v4:=zeroValue4
 t5:=underlying5
 a5:=isAgg5
 z5:=sizeOf5
 v5:=zeroValue5
 t9:=underlying9
 a9:=isAgg9
 z9:=sizeOf9
 v9:=zeroValue9
 t22:=underlying192
 a22:=isAgg192
 z22:=sizeOf192
 v22:=zeroValue192
 t25:=underlying289
 a25:=isAgg289
 z25:=sizeOf289
 v25:=zeroValue289
 t39:=underlying338
 a39:=isAgg338
 z39:=sizeOf338
 v39:=zeroValue338
 t45:=underlying365
 a45:=isAgg365
 z45:=sizeOf365
 v45:=zeroValue365
 t46:=underlying366
 a46:=isAgg366
 z46:=sizeOf366
 v46:=zeroValue366
 t50:=underlying171
 a50:=isAgg171
 z50:=sizeOf171
 v50:=zeroValue171
 t53:=underlying372
 a53:=isAgg372
 z53:=sizeOf372
 v53:=zeroValue372
 t55:=underlying270
 a55:=isAgg270
 z55:=sizeOf270
 v55:=zeroValue270
 t66:=underlying404
 a66:=isAgg404
 z66:=sizeOf404
 v66:=zeroValue404
 t70:=underlying353
 a70:=isAgg353
 z70:=sizeOf353
 v70:=zeroValue353
 t76:=underlying420
 a76:=isAgg420
 z76:=sizeOf420
 v76:=zeroValue420
 t77:=underlying92
 a77:=isAgg92
 z77:=sizeOf92
 v77:=zeroValue92}
set_option maxHeartbeats 1000000 in
theorem qpm (a b:ByteArray) (w:World):
  Calls prog 239 #[.string a,.string b] w λe w'=>e= .returned (.int .i64 (Lib.compareBytes a.data.toList b.data.toList))∧w'=w:=by
 go_enter func239,ntmps239
 go_wp2
 rw[run_callFunc_extern func282 (by kernel_rfl) (by kernel_rfl) (by kernel_rfl) (e:=Extern.BytealgCompare.compare) (by kernel_rfl),Lib.run_compareString];simp only[Result.andThen];rw[Oper.upon_value];go_wp2
 go_ret
 exact⟨rfl,rfl⟩
set_option maxHeartbeats 1000000 in
theorem xc2 (a b:ByteArray) (w:World):
  Calls prog 174 #[.string a,.string b] w λe w'=>e= .returned (.int .i64 (Lib.compareBytes a.data.toList b.data.toList))∧w'=w:=by
 go_enter func174,ntmps174
 go_wp2_with (go_at_call 239;refine(qpm _ _ _).mono ?_;rintro e w' ⟨rfl,rfl⟩)
 go_ret
 exact⟨rfl,rfl⟩
abbrev RowE:=List UInt8×{v:Value//v.oneCell'=true}
instance:Inhabited RowE:=⟨([],⟨.int .i64 0,rfl⟩)⟩
def encR (x:RowE):List Value:= [.string ⟨x.1.toArray⟩,x.2.1]
def cmpR (x y:RowE):Int:=Lib.compareBytes x.1 y.1
set_option maxHeartbeats 1000000 in
theorem xn3 (x y:RowE) (W:World):Calls prog 173 #[.agg (encR x).toArray,.agg (encR y).toArray] W λe w'=>e= .returned (.int .i64 (cmpR x y))∧ ∃q h,w'=grow (W.drewN q) h:=by
 have d:=λW'=>xc2 ⟨x.1.toArray⟩ ⟨y.1.toArray⟩ W';have e:Lib.compareBytes (ByteArray.mk x.1.toArray).data.toList (ByteArray.mk y.1.toArray).data.toList=cmpR x y:=rfl;simp only[e]at d;generalize cmpR x y=r at d⊢;obtain⟨k1,v1,h1⟩:=x;obtain⟨k2,v2,h2⟩:=y;simp only[encR];go_enter func173,ntmps173
 go_wp2_with (go_at_call 174;refine(d _).mono ?_;rintro e w' ⟨rfl,rfl⟩)
 go_ret
 exact⟨rfl,0,_,by rw[alloc_eq_grow,alloc_eq_grow,grow_grow];rfl⟩
abbrev cmpB:=Lib.compareBytes
theorem ql9: ∀a:List UInt8,cmpB a a=0
 | []=>rfl
 |a::l=>by simp[cmpB,Lib.compareBytes];exact ql9 l
theorem qis: ∀a b:List UInt8,cmpB a b= -cmpB b a
 | [],[]=>rfl
 | [],_::_=>rfl
 | _::_,[]=>rfl
 |a::l,b::m=>by
  have h:=qis l m;simp only[cmpB,Lib.compareBytes]at h⊢;by_cases e:a<b
  ·have d: ¬b<a:=by rw[UInt8.lt_iff_toNat_lt]at*;omega
   simp[e,d]
  ·by_cases d:b<a
   ·simp[e,d]
   ·simp[e,d,h]
theorem qma: ∀{a b:List UInt8},cmpB a b=0->a=b
 | [],[],_=>rfl
 | [],_::_,h=>by simp[cmpB,Lib.compareBytes]at h
 | _::_,[],h=>by simp[cmpB,Lib.compareBytes]at h
 |a::l,b::m,h=>by
  simp only[cmpB,Lib.compareBytes]at h;split at h
  ·simp at h
  ·split at h
   ·simp at h
   ·rename_i h1 h2;have:a=b:=by
     apply UInt8.toNat_inj.1;rw[UInt8.lt_iff_toNat_lt]at h1 h2;omega
    rw[this,qma h]
theorem qgr: ∀{a b c:List UInt8},cmpB a b<=0->cmpB b c<=0->cmpB a c<=0∧(cmpB a b<0∨cmpB b c<0->cmpB a c<0)
 | [],[],[],_,_=>by simp[cmpB,Lib.compareBytes]
 | [],[],_::_,_,_=>by simp[cmpB,Lib.compareBytes]
 | [],_::_,[],_,h=>by simp[cmpB,Lib.compareBytes]at h
 | [],_::_,_::_,_,_=>by simp[cmpB,Lib.compareBytes]
 | _::_,[],_,h,_=>by simp[cmpB,Lib.compareBytes]at h
 | _::_,_::_,[],_,h=>by simp[cmpB,Lib.compareBytes]at h
 |a::l,b::m,c::n,h1,h2=>by
  simp only[cmpB,Lib.compareBytes]at h1 h2⊢;by_cases p:a<b
  ·by_cases i:b<c
   ·have d:a<c:=by rw[UInt8.lt_iff_toNat_lt]at*;omega
    simp[d]
   ·by_cases e:c<b
    ·simp[i,e]at h2
    ·have d:a<c:=by rw[UInt8.lt_iff_toNat_lt]at*;omega
     simp[d]
  ·by_cases o:b<a
   ·simp[p,o]at h1
   ·by_cases i:b<c
    ·have d:a<c:=by rw[UInt8.lt_iff_toNat_lt]at*;omega
     simp[d]
    ·by_cases e:c<b
     ·simp[i,e]at h2
     ·have d: ¬a<c:=by rw[UInt8.lt_iff_toNat_lt]at*;omega
      have ca: ¬c<a:=by rw[UInt8.lt_iff_toNat_lt]at*;omega
      simp only[p,o,i,e,d,ca,if_false]at h1 h2⊢;exact qgr h1 h2
theorem qew {a b:List UInt8}: ¬cmpB a b<0↔cmpB b a<=0:=by
 have:=qis a b;omega
theorem x0t:SWO (ltOf cmpR) where
 irrefl x:=by
  have h: ¬cmpB x.1 x.1<0:=by rw[ql9];omega
  exact decide_eq_false h
 trans x y z h1 h2:=by
  have d:cmpB x.1 y.1<0:=of_decide_eq_true h1;have e:cmpB y.1 z.1<0:=of_decide_eq_true h2;exact decide_eq_true ((qgr (jFb d) (jFb e)).2 (.inl d))
 ntrans x y z h1 h2:=by
  have d:cmpB y.1 x.1<=0:=qew.1 (of_decide_eq_false h1);have e:cmpB z.1 y.1<=0:=qew.1 (of_decide_eq_false h2);exact decide_eq_false (qew.2 (qgr e d).1)
abbrev En:=List UInt8×List UInt8
def x9 (e:En):List D:= [.str e.1,.sl 1 (qd e.2)]
theorem qr6 (e:En):D.noPtrL (x9 e)=true:=by simp only[x9,D.noPtrL,D.noPtr,jz,jBu]
theorem qfd (l:List En):D.noPtrR (l.map x9)=true:=zg qr6 l
attribute [go_sem] qr6 qfd
def qf2 (l:List En):List D:=(l.map x9).flatten
theorem qjn (l:List En):(qf2 l).length=l.length*2:=by induction l<;>simp_all[qf2,x9];omega
theorem q2m (l:List En):D.noPtrL (qf2 l)=true:=by
 rw[D.noPtrL_iff];exact λd hd=>(D.noPtrR_iff _).1 (qfd l) d hd
theorem qvj (l:List En): ∀(i:Nat) (e:En),l[i]? =some e->(qf2 l)[2*i]? =some (.str e.1)∧(qf2 l)[2*i+1]? =some (.sl 1 (qd e.2)):=by
 induction l with
 |nil=>intro i e h;simp at h
 |cons x l ih=>
  intro i e h;have hf:qf2 (x::l)= .str x.1:: .sl 1 (qd x.2)::qf2 l:=rfl;rw[hf];cases i with
  |zero=>simp at h;subst h;exact⟨rfl,rfl⟩
  |succ i=>
   obtain⟨h1,h2⟩:=ih i e (by simpa using h);exact⟨by rw[show 2*(i+1)=2*i+1+1 by omega];simpa using h1,by rw[show 2*(i+1)+1=2*i+1+1+1 by omega];simpa using h2⟩
def leEn (a b:En):Bool:=decide (cmpB a.1 b.1<=0)
def qfe (l:List En):List En:=l.mergeSort leEn
theorem vd (l:List En):(qfe l).Perm l:=List.mergeSort_perm l leEn
theorem qem (l:List En):(qfe l).Pairwise λa b=>cmpB a.1 b.1<=0:=by
 have:=List.pairwise_mergeSort (le:=leEn) (λa b c h1 h2=>by simp only[leEn,decide_eq_true_eq]at*;exact(qgr h1 h2).1) (λa b=>by
  simp only[leEn,jA0,decide_eq_true_eq];have:=qis a.1 b.1;omega) l
 exact this.imp (by intro a b h;simpa[leEn]using h)
theorem qjo: ∀{l m:List En},l.Perm m->(l.map (·.1)).Nodup->l.Pairwise (λa b=>cmpB a.1 b.1<=0) ->m.Pairwise (λa b=>cmpB a.1 b.1<=0) ->l=m
 | [],m,hp,_,_,_=>by rw[List.nil_perm]at hp;exact hp.symm
 |a::l,[],hp,_,_,_=>by simp at hp
 |a::l,b::m,hp,hn,hl,hm=>by
  have h:a=b:=by
   have d:b∈a::l:=hp.mem_iff.2 jA7;have e:a∈b::m:=hp.mem_iff.1 jA7;rcases jAv.1 d with d|d
   ·exact d.symm
   ·rcases jAv.1 e with e|e
    ·exact e
    ·have k1:=(jB1.1 hl).1 b d;have k2:=(jB1.1 hm).1 a e;have k3:cmpB a.1 b.1=0:=by have:=qis a.1 b.1;omega
     have:=qma k3;simp only[List.map_cons,jCe]at hn;exact(hn.1 (jAo.2 ⟨b,d,this.symm⟩)).elim
  subst h;simp only[List.map_cons,jCe]at hn;rw[qjo ((List.perm_cons a).1 hp) hn.2 (jB1.1 hl).2 (jB1.1 hm).2]
theorem xhl {α γ:Type} (f:γ->α): ∀{l l':List α},l.Perm l'-> ∀{P:List γ},l'=P.map f-> ∃Q:List γ,Q.Perm P∧Q.map f=l:=by
 intro l l' h;induction h with
 |nil=>intro P d;cases P<;>simp at d;exact⟨[],.nil,rfl⟩
 |cons x _ ih=>
  intro P d;cases P with
  |nil=>simp at d
  |cons p P=>
   simp only[List.map_cons,jE9]at d;obtain⟨Q,i,e⟩:=ih d.2;exact⟨p::Q,i.cons p,by simp[e,d.1]⟩
 |swap x y l=>
  intro P d;match P,d with
  |p::q::P,d=>
   simp only[List.map_cons,jE9]at d;exact⟨q::p::P,.swap ..,by simp[d]⟩
  | [],d=>simp at d
  | [_],d=>simp at d
 |trans _ _ ih1 ih2=>
  intro P d;obtain⟨Q,i,e⟩:=ih2 d;obtain⟨Q',r1,r2⟩:=ih1 e.symm;exact⟨Q',r1.trans i,r2⟩
end Go.Proofs.YtkcdbcbpbolgkaaGreatDoor
