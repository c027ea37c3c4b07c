/- Texts Az. -/
import Derived.Test.YtkcdbcbpbolgkaaGreatDoorMrh
import Derived.RangeFuncLeaves
set_option linter.unusedSimpArgs false
set_option linter.unusedVariables false
set_option linter.defProp false
set_option maxRecDepth 100000
noncomputable section
namespace Go.Abs
def y9:List ASlot->Nat->Fr
 | [],_=> []
 |s::l,k=>(k,true,s)::y9 l (k+1)
def qhl (args:List ASlot) (objs:List AObj):St:={fr:=y9 args 0,os:=objs,live:=ve args++xf objs,nt:=1}
def xrh (rs:List ASlot) (objs:List AObj):St:={fr:=y9 rs 0,os:=objs,live:=ve rs++xf objs,nt:=1}
def qp9:List ASlot->ASlot
 | [r]=>r
 |rs=> .tup rs
inductive RVar where
 |tmp (t:Nat)
 |cell (a:Nat) (n:Option Nat)
def qge (P:Program):ResultVar->Option RVar
 | .tmp t=>some (.tmp t)
 | .cell a t=>(aggN P t).map (.cell a)
def RVar.slot (st:St):RVar->ASlot
 | .tmp t=>(Opd.t t).get st.fr
 | .cell a n=>(wi n st.os ((Opd.t a).get st.fr)).v
def RVar.good (st:St):RVar->Prop
 | .tmp t=>(Opd.t t).ok st.fr=true
 | .cell a n=>(Opd.t a).ok st.fr=true∧(wi n st.os ((Opd.t a).get st.fr)).ob
def xcj (k0:Nat) (rvs:List RVar) (rs:List ASlot) (objs:List AObj) (st:St):Prop:=
 (∀r∈rvs,r.good st)∧Weak k0 {st with fr:=y9 (rvs.map (RVar.slot st)) 0} (xrh rs objs)
def q3n (k0:Nat) (rvs:List RVar) (rs:List ASlot) (objs:List AObj):SExit->St->Prop
 | .normal,st=>xcj k0 rvs rs objs st
 | .ret,st=>xcj k0 rvs rs objs st
 | .exit _,_=>False
theorem qgf: ∀(l:List ASlot) (j k:Nat) (v:Bool) (s:ASlot),(y9 l j).get k=some (v,s) ->v=true∧ ∃i,k=j+i∧l[i]? =some s
 | [],j,k,v,s,h=>by simp[y9,Fr.get]at h
 |x::l,j,k,v,s,h=>by
  simp only[y9,Fr.get]at h;split at h
  ·rename_i hj;cases h;exact⟨rfl,0,by omega,rfl⟩
  ·obtain⟨h1,i,h2,h3⟩:=qgf l (j+1) k v s h;exact⟨h1,i+1,by omega,by simpa using h3⟩
theorem qfr: ∀(l:List ASlot) (j i:Nat) (s:ASlot),l[i]? =some s->(y9 l j).get (j+i)=some (true,s)
 | [],j,i,s,h=>by simp at h
 |x::l,j,i,s,h=>by
  simp only[y9,Fr.get];cases i with
  |zero=>simp at h;subst h;simp
  |succ i=>
   rw[if_neg (by omega)];have:=qfr l (j+1) i s (by simpa using h);rw[show j+(i+1)=j+1+i by omega];exact this
theorem qnk: ∀(l:List ASlot) (j:Nat),qi5 (y9 l j)=ve l
 | [],_=>rfl
 |s::l,j=>by simp only[y9,qi5,ve,List.flatMap_cons];rw[qnk l (j+1)];rfl
section
variable {P:Program} {g:Ghost} {w:World}
theorem q6m {N:Nat} {args:List ASlot} {objs:List AObj} {vs:List Value} (hd:Dom g w) (hl:vs.length=args.length) (hN:args.length<=N)
  (hv: ∀(i:Nat) (v:Value) (s:ASlot),vs[i]? =some v->args[i]? =some s->RC g w (ve args++xf objs) v s) (p:ObjsOk g w (ve args++xf objs) objs) (m: ∀t∈ve args++xf objs,t<16):
  SR N (below 1) g w (qhl args objs) {tmps:=vs.toArray++Array.replicate (N-vs.toArray.size) undef,defers:= []}:=by
 refine⟨hd,trivial,by simp;omega,λk v s q=> ?_,p.objs,p.inj,p.ids,⟨λt d=> ?_,λk s q t d=> ?_,λid o u s hs t d=> ?_⟩⟩
 ·obtain⟨rfl,i,e,hs⟩:=qgf args 0 k v s q;rw[Nat.zero_add]at e;subst e;refine⟨λ_=> ?_,λh=>by cases h⟩;have hi:k<vs.length:=by rw[hl];exact(jAd.1 hs).1
  have l:(vs.toArray++Array.replicate (N-vs.toArray.size) undef).getD k undef=vs[k]:=by
   rw[jBg,Array.getElem?_append_left (by simpa using hi)];simp[hi]
  show RS g w _ ((vs.toArray++Array.replicate (N-vs.toArray.size) undef).getD k undef) s;rw[l];exact jk (hv k _ s (jAa hi) hs)
 ·exact m t (d)
 ·have h1:=ql3 q t d;have h2:t∈ve args:=by rw[<- qnk args 0];exact h1
  exact m t (jBb _ h2)
 ·exact m t (jBe _ (qfn u s hs t d))
def qi6 (tmps:Array Value):ResultVar->Sem Value
 | .tmp t=>pure (tmps.getD t undef)
 | .cell a t=>do loadVar t (<- asAddr (tmps.getD a undef))
def resV:List Value->Value
 | [v]=>v
 |vs=> .tuple vs.toArray
theorem q6n {P:Program} {w:World} {tmps:Array Value}: ∀(l:List ResultVar) (vs:List Value),vs.length=l.length->
  (∀(i:Nat) (r:ResultVar) (v:Value),l[i]? =some r->vs[i]? =some v->(qi6 tmps r).run P w= .ok v w) ->(l.mapM (qi6 tmps)).run P w= .ok vs w
 | [],[],_,_=>rfl
 |r::l,v::vs,hl,h=>by
  rw[List.mapM_cons];have h0:=h 0 r v rfl rfl;have ih:=q6n l vs (by simpa using hl) (λi r v hr hv=>h (i+1) r v (by simpa using hr) (by simpa using hv));simp only[Sem.run_bind,h0,Result.andThen_ok,ih,Sem.run_pure]
 | [],_::_,h,_=>by simp at h
 | _::_,[],h,_=>by simp at h
theorem qqa {P:Program} {w:World} {fn:Func} {tmps:Array Value} {l:List ResultVar} (h:fn.results=l.toArray) {vs:List Value} (hl:vs.length=l.length)
  (hv: ∀(i:Nat) (r:ResultVar) (v:Value),l[i]? =some r->vs[i]? =some v->(qi6 tmps r).run P w= .ok v w):(results fn tmps).run P w= .ok (resV vs) w:=by
 have hm:=q6n l vs hl hv;have he:results fn tmps=(do
   let vs<- l.toArray.mapM (qi6 tmps)
   pure (if h:vs.size=1 then vs[0]else .tuple vs)):=by
  unfold results;rw[h];rfl
 rw[he,List.mapM_toArray];simp[hm];match vs with
 | []=>rfl
 | [v]=>rfl
 |v::v'::vs=>simp[resV]
theorem qtp {rs:List ASlot} (hnt: ∀r∈rs,∀l,r≠ .tup l): ∀t∈(qp9 rs).toks,t∈ve rs:=by
 have d: ∀t∈(ASlot.tup rs).toks,t∈ve rs:=by
  intro t e;simp only[ASlot.toks,jBi]at e;obtain⟨s,hs,h⟩:=e;simp only[ve,jBi];exact⟨s,hs,(qkj h).1⟩
 match rs with
 | []=>exact d
 | [r]=>intro t e;simpa[ve,qp9]using e
 |r::r'::rs=>exact d
theorem xck {live:List Nat} {vs:List Value} {rs:List ASlot} (m:vs.length=rs.length) (h: ∀(i:Nat) (v:Value) (r:ASlot),vs[i]? =some v->rs[i]? =some r->RS g w live v r)
  (e: ∀r∈rs,∀l,r≠ .tup l):RS g w live (resV vs) (qp9 rs):=by
 have d:RS g w live (.tuple vs.toArray) (.tup rs):=⟨vs,rfl,m,λi u s hu hs=>qac (h i u s hu hs) (e s (jAe hs))⟩;match vs,rs,m with
 | [],[],_=>exact d
 | [v],[r],_=>exact h 0 v r rfl rfl
 |v::v'::vs,r::r'::rs,_=>exact d
theorem qtq {N:Nat} {T:Nat->Prop} {st:St} {a:Act} (hs:SR N T g w st a) {x:ResultVar} {y:RVar} (hc:qge P x=some y) (l:y.good st):
  ∃v,(qi6 a.tmps x).run P w= .ok v w∧RS g w st.live v (y.slot st)∧ ∀t∈(y.slot st).toks,T t:=by
 cases x with
 |tmp t=>
  simp only[qge,jA8]at hc;subst hc;have q:=xe hs (y:= .tmp t) (x:= .t t) rfl l;exact⟨a.eval (.tmp t),rfl,q,qey hs (y:= .tmp t) (x:= .t t) rfl l⟩
 |cell b t=>
  simp only[qge,jAb]at hc;obtain⟨n,hn,rfl⟩:=hc;have F:({(default:Oper)with op:=Op.load t (.tmp b)}:Oper).op= .load t (.tmp b):=rfl;obtain⟨v,i,hr⟩:=qtb (P:=P) (tb:=0) F hn (y:= .t b) rfl hs l;refine⟨v,?_,hr,qza hs n _⟩;have z:=xe hs (y:= .tmp b) (x:= .t b) rfl l.1;have E: ∃C,a.eval (.tmp b)= .pointer (some C):=by
   have e:=l.2;cases hy:(Opd.t b).get st.fr with
   |d p=>
    rw[hy]at z e;cases p with
    |ptr id off=>
     have:=wg z;generalize a.eval (.tmp b)=u at this;cases this with
     |ptr bb _ _ _=>exact⟨_,rfl⟩
    | _=>simp[wi,Out.bad]at e
   |rd cs=>
    rw[hy]at z;obtain⟨b',off,n',o,f,q,_⟩:=z;exact⟨_,q⟩
   | _=>rw[hy]at e;simp[wi,Out.bad]at e
  obtain⟨C,m⟩:=E;have q:a.tmps.getD b undef= .pointer (some C):=m;simp only[qi6,q,asAddr,pure_bind];simp only[execOp,Instr.loadAt,m,Instr.sureAddr,pure_bind]at i;rw[Sem.run_bind]at i;cases hl:(loadVar t C).run P w with
  |ok u w'=>
   rw[hl]at i;simp only[Result.andThen_ok,Sem.run_pure,Result.ok.injEq,Next.value.injEq]at i;rw[i.1,i.2]
  |halt h w'=>rw[hl]at i;cases i
theorem qc0 {N:Nat} {T:Nat->Prop} {st:St} {a:Act} {g0:Ghost} {w0:World} {fn:Func} {R:Ending->World->Prop}: ∀(C:List Deferred) (w:World),SR N T g w st a->G g0 w0 g w->Marks g0 w0 g w C->
  (∀w',SR N T g w' st a->G g0 w0 g w'-> ∃v,(results fn a.tmps).run P w'= .ok v w'∧R (.returned v) w') ->LeavesInM Fence.wide 0 P fn a.tmps R C .returning w
 | [],w,hs,hG,_,h=>h w hs hG
 |d::C,w,hs,hG,hM,h=>by
  obtain⟨b,O,h2,h3,h4⟩:=hM.one d jA7;have p: ∀k,k≠b->(w.putObj b (.deferred none)).heap[k]? =w.heap[k]? :=λk l=>by simp[World.putObj,Ne.symm l]
  have q:(w.putObj b (.deferred none)).heap.size=w.heap.size:=by simp[World.putObj]
  have m: ∀k,k<w0.heap.size->k≠b:=λk l I=>by omega
  have M:G g0 w0 g (w.putObj b (.deferred none)):=by
   refine⟨hG.os,hG.tape,hG.output,by rw[q];exact hG.size,λk l o=> ?_,λk n l o=> ?_,λk n t l o=> ?_,λk id l o=> ?_⟩
   ·rw[p k (m k l)];exact hG.out k l o
   ·rw[p k (m k l)];exact hG.rowN k n l o
   ·obtain⟨n',o',z,F,E⟩:=hG.rowS k n t l o;exact⟨n',o',z,F,λi u hi hu=>by rw[jw (p k (m k l))];exact E i u hi hu⟩
   ·rw[jf (p k (m k l))];exact hG.obj k id l o
  refine⟨by simp,.inl ⟨b,_,O,run_takeDeferred h4,qc0 C _ (hs.dead h3 p q) M ⟨λe I=> ?_,(jB1.1 hM.two).2⟩ h⟩⟩;obtain⟨c,z,F,E,q4⟩:=hM.one e (jA9 _ I);have J:c≠b:=by
   rintro rfl;exact(jB1.1 hM.two).1 e I (O.trans z.symm)
  exact⟨c,z,F,E,by rw[p c J];exact q4⟩
theorem qv8 {mu:List Nat} {news:List (FuncId×Nat)} {f:FuncId} {fn:Func} {c:Code} {sc:SCode} {args rs:List ASlot} {objs objs':List AObj} {rv:List ResultVar} {rvs:List RVar}
  (hm:P.follows .mixedOrders=true) (hf:P.funcs[f]? =some fn) (hb:fn.body=some c) (hr:fn.results=rv.toArray) (hrv:rv.mapM (qge P)=some rvs) (hc:zn P mu fn.ntmps news c=some sc.erase)
  (hN:args.length<=fn.ntmps) (hl:rvs.length=rs.length) (hw: ∀t∈ve args++xf objs,t<16)
  (h:AWp P objs.length sc (q3n objs.length rvs rs objs') (qhl args objs)):qh P f args objs (qp9 rs) objs':=by
 intro g w vs hd hvl hv ho;have hs:=q6m (N:=fn.ntmps) hd hvl hN hv ho hw;have h0: ∀b id,g b= .obj id->id<objs.length:=λb id hb=>by
  obtain⟨o,ho',_⟩:=ho.ids b id hb;exact(jAd.1 ho').1
 obtain⟨q,hvg⟩:=jz hrv;refine(callsIn_wide (n:=0)).1 (callsIn_of_wp_marks (F:=Fence.wide) hf hb trivial (qzo (ro:=none) hm h0 rfl c sc _ _ _ g w _ hc h hs (G.refl g w) ⟨by simp,List.Pairwise.nil⟩ (λe st' g' w' a' hq d E hM'=> ?_)));have fin:xcj objs.length rvs rs objs' st'-> ∀w',SR fn.ntmps (below st'.nt) g' w' st' a'->G g w g' w'-> ∃v,(results fn a'.tmps).run P w'= .ok v w'∧
   ∃v' g'' live',Ending.returned v= .returned v'∧G g w g'' w'∧Dom g'' w'∧(∀t∈(qp9 rs).toks++xf objs',t∈live')∧RS g'' w' live' v' (qp9 rs)∧ObjsOk g'' w' live' objs':=by
  rintro⟨U,X⟩ w' d E;have C: ∀(i:Nat),i<rv.length-> ∃v,∀(x:ResultVar) (y:RVar),rv[i]? =some x->rvs[i]? =some y->(qi6 a'.tmps x).run P w'= .ok v w'∧RS g' w' st'.live v (y.slot st')∧ ∀t∈(y.slot st').toks,below st'.nt t:=by
   intro i hi;have h1:rv[i]? =some rv[i]:=jAa hi;have h2:rvs[i]? =some (rvs[i]'(by omega)):=jAa (by omega);obtain⟨v,q1,q2,q3⟩:=qtq d (hvg i _ _ h1 h2) (U _ (jAe h2));refine⟨v,λx y m p=> ?_⟩;rw[h1]at m;cases m;rw[h2]at p;cases p;exact⟨q1,q2,q3⟩
  let us:List Value:=(List.range rv.length).map λi=>if hi:i<rv.length then Classical.choose (C i hi)else undef
  have z:us.length=rv.length:=by simp[us]
  have M: ∀(i:Nat) (x:ResultVar) (y:RVar) (u:Value),rv[i]? =some x->rvs[i]? =some y->us[i]? =some u->(qi6 a'.tmps x).run P w'= .ok u w'∧RS g' w' st'.live u (y.slot st')∧ ∀t∈(y.slot st').toks,below st'.nt t:=by
   intro i x y u m p O;have hi:i<rv.length:=(jAd.1 m).1;have:u=Classical.choose (C i hi):=by
    simp only[us,jAn,jC5 hi,Option.map_some,jA8,dif_pos hi]at O;exact O.symm
   rw[this];exact Classical.choose_spec (C i hi) x y m p
  have Y:(results fn a'.tmps).run P w'= .ok (resV us) w':=qqa hr z (λi x v m hv'=>by
   have hi:i<rvs.length:=by rw[<- q];exact(jAd.1 m).1
   exact(M i x rvs[i] v m (jAa hi) hv').1)
  have J:SR us.length (below st'.nt) g' w' {st' with fr:=y9 (rvs.map (RVar.slot st')) 0} {tmps:=us.toArray,defers:= []}:=by
   have I: ∀(k:Nat) (v:Bool) (s:ASlot),(y9 (rvs.map (RVar.slot st')) 0).get k=some (v,s) ->v=true∧ ∃x y u,rv[k]? =some x∧rvs[k]? =some y∧us[k]? =some u∧s=y.slot st':=by
    intro k v s hk;obtain⟨rfl,i,hki,hs⟩:=qgf _ 0 k v s hk;rw[Nat.zero_add]at hki;subst hki;simp only[jAn,jAb]at hs;obtain⟨y,p,rfl⟩:=hs;have hi:k<rv.length:=by rw[q];exact(jAd.1 p).1
    exact⟨rfl,rv[k],y,us[k]'(by rw[z];exact hi),jAa hi,p,jAa _,rfl⟩
   refine⟨d.dom,trivial,by simp,λk v s hk=> ?_,d.objs,d.inj,d.ids,⟨d.wf.live,λk s hk t ht=> ?_,d.wf.os⟩⟩
   ·obtain⟨rfl,x,y,u,m,p,O,rfl⟩:=I k v s hk;refine⟨λ_=> ?_,λh=>by cases h⟩;have R:us.toArray.getD k undef=u:=by
     simp[jBg,O]
    show RS g' w' st'.live (us.toArray.getD k undef) _;rw[R];exact(M k x y u m p O).2.1
   ·obtain⟨_,x,y,u,m,p,O,rfl⟩:=I k true s hk;exact(M k x y u m p O).2.2 t ht
  obtain⟨g'',hs'',hG'',_⟩:=X.sr J E h0;have Z: ∀r∈rs,∀l,r≠ .tup l:=by
   intro r hrm l hrl;subst hrl;obtain⟨i,hi⟩:=jBh hrm;obtain⟨s,_,q2,_⟩:=qv3 X.fr _ _ _ (qfr rs 0 i _ hi);exact qzj (q2 rfl)
  refine⟨_,Y,_,g'',ve rs++xf objs',rfl,hG'',hs''.dom,λt ht=>(jAt.1 ht).elim (λh=>jBb _ (qtp Z t h)) (λh=>jBe _ h),xck (by rw[z,q,hl]) (λi v r h1 h2=> ?_) Z,⟨hs''.objs,hs''.inj,hs''.ids⟩⟩;have h3:=(hs''.slots (0+i) true r (qfr rs 0 i r h2)).1 rfl;rw[Nat.zero_add]at h3;have R:us.toArray.getD i undef=v:=by simp[jBg,h1]
  have h4:RS g'' w' (ve rs++xf objs') (us.toArray.getD i undef) r:=h3;rw[R]at h4;exact h4
 cases e with
 |normal=>exact qc0 a'.defers w' d E hM' (fin hq)
 |ret=>exact qc0 a'.defers w' d E hM' (fin hq)
 |exit id=>exact hq.elim
end
end Go.Abs
