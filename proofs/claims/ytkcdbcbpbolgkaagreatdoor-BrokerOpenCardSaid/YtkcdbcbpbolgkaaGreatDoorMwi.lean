/- Texts Az. -/
import Derived.Test.YtkcdbcbpbolgkaaGreatDoorMwh
import Derived.RangeFuncLeaves
set_option linter.unusedSimpArgs false
set_option linter.unusedVariables false
set_option linter.defProp false
set_option maxRecDepth 100000
noncomputable section
namespace Go.Abs
def qat:List ASlot->Nat->Fr
 | [],_=> []
 |s::l,k=>(k,true,s)::qat l (k+1)
def qim (args:List ASlot) (objs:List AObj):St:={fr:=qat args 0,os:=objs,live:=vy args++xi objs,nt:=1}
def xwh (rs:List ASlot) (objs:List AObj):St:={fr:=qat rs 0,os:=objs,live:=vy rs++xi objs,nt:=1}
def qrk:List ASlot->ASlot
 | [r]=>r
 |rs=> .tup rs
inductive RVar where
 |tmp (t:Nat)
 |cell (a:Nat) (n:Option Nat)
def qha (P:Program):ResultVar->Option RVar
 | .tmp t=>some (.tmp t)
 | .cell a t=>(aggN P t).map (.cell a)
def RVar.slot (st:St):RVar->ASlot
 | .tmp t=>(Opd.t t).get st.fr
 | .cell a n=>(wy n st.os ((Opd.t a).get st.fr)).v
def RVar.good (st:St):RVar->Prop
 | .tmp t=>(Opd.t t).ok st.fr=true
 | .cell a n=>(Opd.t a).ok st.fr=true∧(wy n st.os ((Opd.t a).get st.fr)).ob
def xfv (k0:Nat) (rvs:List RVar) (rs:List ASlot) (objs:List AObj) (st:St):Prop:=
 (∀r∈rvs,r.good st)∧Weak k0 {st with fr:=qat (rvs.map (RVar.slot st)) 0} (xwh rs objs)
def q56 (k0:Nat) (rvs:List RVar) (rs:List ASlot) (objs:List AObj):SExit->St->Prop
 | .normal,st=>xfv k0 rvs rs objs st
 | .ret,st=>xfv k0 rvs rs objs st
 | .exit _,_=>False
theorem qhb: ∀(l:List ASlot) (j k:Nat) (v:Bool) (s:ASlot),(qat l j).get k=some (v,s) ->v=true∧ ∃i,k=j+i∧l[i]? =some s
 | [],j,k,v,s,h=>by simp[qat,Fr.get]at h
 |x::l,j,k,v,s,h=>by
  simp only[qat,Fr.get]at h;split at h
  ·rename_i hj;cases h;exact⟨rfl,0,by omega,rfl⟩
  ·obtain⟨h1,i,h2,h3⟩:=qhb l (j+1) k v s h;exact⟨h1,i+1,by omega,by simpa using h3⟩
theorem qgm: ∀(l:List ASlot) (j i:Nat) (s:ASlot),l[i]? =some s->(qat l j).get (j+i)=some (true,s)
 | [],j,i,s,h=>by simp at h
 |x::l,j,i,s,h=>by
  simp only[qat,Fr.get];cases i with
  |zero=>simp at h;subst h;simp
  |succ i=>
   rw[if_neg (by omega)];have:=qgm l (j+1) i s (by simpa using h);rw[show j+(i+1)=j+1+i by omega];exact this
theorem qos: ∀(l:List ASlot) (j:Nat),qkg (qat l j)=vy l
 | [],_=>rfl
 |s::l,j=>by simp only[qat,qkg,vy,List.flatMap_cons];rw[qos l (j+1)];rfl
section
variable {P:Program} {g:Ghost} {w:World}
theorem q9g {N:Nat} {args:List ASlot} {objs:List AObj} {vs:List Value} (hd:Dom g w) (hl:vs.length=args.length) (hN:args.length<=N)
  (hv: ∀(i:Nat) (v:Value) (s:ASlot),vs[i]? =some v->args[i]? =some s->RC g w (vy args++xi objs) v s) (p:ObjsOk g w (vy args++xi objs) objs) (m: ∀t∈vy args++xi objs,t<16):
  SR N (below 1) g w (qim args objs) {tmps:=vs.toArray++Array.replicate (N-vs.toArray.size) undef,defers:= []}:=by
 refine⟨hd,trivial,by simp;omega,λk v s q=> ?_,p.objs,p.inj,p.ids,⟨λt d=> ?_,λk s q t d=> ?_,λid o u s hs t d=> ?_⟩⟩
 ·obtain⟨rfl,i,e,hs⟩:=qhb args 0 k v s q;rw[Nat.zero_add]at e;subst e;refine⟨λ_=> ?_,λh=>by cases h⟩;have hi:k<vs.length:=by rw[hl];exact(jAd.1 hs).1
  have l:(vs.toArray++Array.replicate (N-vs.toArray.size) undef).getD k undef=vs[k]:=by
   rw[jBg,Array.getElem?_append_left (by simpa using hi)];simp[hi]
  show RS g w _ ((vs.toArray++Array.replicate (N-vs.toArray.size) undef).getD k undef) s;rw[l];exact jq (hv k _ s (jAa hi) hs)
 ·exact m t (d)
 ·have h1:=qnc q t d;have h2:t∈vy args:=by rw[<- qos args 0];exact h1
  exact m t (jBa _ h2)
 ·exact m t (jBc _ (qgi u s hs t d))
def qkh (tmps:Array Value):ResultVar->Sem Value
 | .tmp t=>pure (tmps.getD t undef)
 | .cell a t=>do loadVar t (<- asAddr (tmps.getD a undef))
def resV:List Value->Value
 | [v]=>v
 |vs=> .tuple vs.toArray
theorem q9h {P:Program} {w:World} {tmps:Array Value}: ∀(l:List ResultVar) (vs:List Value),vs.length=l.length->
  (∀(i:Nat) (r:ResultVar) (v:Value),l[i]? =some r->vs[i]? =some v->(qkh tmps r).run P w= .ok v w) ->(l.mapM (qkh tmps)).run P w= .ok vs w
 | [],[],_,_=>rfl
 |r::l,v::vs,hl,h=>by
  rw[List.mapM_cons];have h0:=h 0 r v rfl rfl;have ih:=q9h l vs (by simpa using hl) (λi r v hr hv=>h (i+1) r v (by simpa using hr) (by simpa using hv));simp only[Sem.run_bind,h0,Result.andThen_ok,ih,Sem.run_pure]
 | [],_::_,h,_=>by simp at h
 | _::_,[],h,_=>by simp at h
theorem qrl {P:Program} {w:World} {fn:Func} {tmps:Array Value} {l:List ResultVar} (h:fn.results=l.toArray) {vs:List Value} (hl:vs.length=l.length)
  (hv: ∀(i:Nat) (r:ResultVar) (v:Value),l[i]? =some r->vs[i]? =some v->(qkh tmps r).run P w= .ok v w):(results fn tmps).run P w= .ok (resV vs) w:=by
 have hm:=q9h l vs hl hv;have he:results fn tmps=(do
   let vs<- l.toArray.mapM (qkh tmps)
   pure (if h:vs.size=1 then vs[0]else .tuple vs)):=by
  unfold results;rw[h];rfl
 rw[he,List.mapM_toArray];simp[hm];match vs with
 | []=>rfl
 | [v]=>rfl
 |v::v'::vs=>simp[resV]
theorem qu3 {rs:List ASlot} (hnt: ∀r∈rs,∀l,r≠ .tup l): ∀t∈(qrk rs).toks,t∈vy rs:=by
 have d: ∀t∈(ASlot.tup rs).toks,t∈vy rs:=by
  intro t e;simp only[ASlot.toks,jBi]at e;obtain⟨s,hs,h⟩:=e;simp only[vy,jBi];exact⟨s,hs,(qlv h).1⟩
 match rs with
 | []=>exact d
 | [r]=>intro t e;simpa[vy,qrk]using e
 |r::r'::rs=>exact d
theorem xfw {live:List Nat} {vs:List Value} {rs:List ASlot} (m:vs.length=rs.length) (h: ∀(i:Nat) (v:Value) (r:ASlot),vs[i]? =some v->rs[i]? =some r->RS g w live v r)
  (e: ∀r∈rs,∀l,r≠ .tup l):RS g w live (resV vs) (qrk rs):=by
 have d:RS g w live (.tuple vs.toArray) (.tup rs):=⟨vs,rfl,m,λi u s hu hs=>qax (h i u s hu hs) (e s (jAe hs))⟩;match vs,rs,m with
 | [],[],_=>exact d
 | [v],[r],_=>exact h 0 v r rfl rfl
 |v::v'::vs,r::r'::rs,_=>exact d
theorem qu4 {N:Nat} {T:Nat->Prop} {st:St} {a:Act} (hs:SR N T g w st a) {x:ResultVar} {y:RVar} (hc:qha P x=some y) (l:y.good st):
  ∃v,(qkh a.tmps x).run P w= .ok v w∧RS g w st.live v (y.slot st)∧ ∀t∈(y.slot st).toks,T t:=by
 cases x with
 |tmp t=>
  simp only[qha,jA8]at hc;subst hc;have q:=xh hs (y:= .tmp t) (x:= .t t) rfl l;exact⟨a.eval (.tmp t),rfl,q,qfv hs (y:= .tmp t) (x:= .t t) rfl l⟩
 |cell b t=>
  simp only[qha,jAb]at hc;obtain⟨n,hn,rfl⟩:=hc;have C:({(default:Oper)with op:=Op.load t (.tmp b)}:Oper).op= .load t (.tmp b):=rfl;obtain⟨v,i,hr⟩:=qun (P:=P) (tb:=0) C hn (y:= .t b) rfl hs l;refine⟨v,?_,hr,q1a hs n _⟩;have z:=xh hs (y:= .tmp b) (x:= .t b) rfl l.1;have B: ∃A,a.eval (.tmp b)= .pointer (some A):=by
   have e:=l.2;cases hy:(Opd.t b).get st.fr with
   |d p=>
    rw[hy]at z e;cases p with
    |ptr id off=>
     have:=ws z;generalize a.eval (.tmp b)=u at this;cases this with
     |ptr bb _ _ _=>exact⟨_,rfl⟩
    | _=>simp[wy,Out.bad]at e
   |rd cs=>
    rw[hy]at z;obtain⟨b',off,n',o,f,q,_⟩:=z;exact⟨_,q⟩
   | _=>rw[hy]at e;simp[wy,Out.bad]at e
  obtain⟨A,m⟩:=B;have q:a.tmps.getD b undef= .pointer (some A):=m;simp only[qkh,q,asAddr,pure_bind];simp only[execOp,Instr.loadAt,m,Instr.sureAddr,pure_bind]at i;rw[Sem.run_bind]at i;cases hl:(loadVar t A).run P w with
  |ok u w'=>
   rw[hl]at i;simp only[Result.andThen_ok,Sem.run_pure,Result.ok.injEq,Next.value.injEq]at i;rw[i.1,i.2]
  |halt h w'=>rw[hl]at i;cases i
theorem qdq {N:Nat} {T:Nat->Prop} {st:St} {a:Act} {g0:Ghost} {w0:World} {fn:Func} {R:Ending->World->Prop}: ∀(A:List Deferred) (w:World),SR N T g w st a->G g0 w0 g w->Marks g0 w0 g w A->
  (∀w',SR N T g w' st a->G g0 w0 g w'-> ∃v,(results fn a.tmps).run P w'= .ok v w'∧R (.returned v) w') ->LeavesInM Fence.wide 0 P fn a.tmps R A .returning w
 | [],w,hs,hG,_,h=>h w hs hG
 |d::A,w,hs,hG,hM,h=>by
  obtain⟨b,J,h2,h3,h4⟩:=hM.one d jA7;have p: ∀k,k≠b->(w.putObj b (.deferred none)).heap[k]? =w.heap[k]? :=λk l=>by simp[World.putObj,Ne.symm l]
  have q:(w.putObj b (.deferred none)).heap.size=w.heap.size:=by simp[World.putObj]
  have m: ∀k,k<w0.heap.size->k≠b:=λk l E=>by omega
  have I:G g0 w0 g (w.putObj b (.deferred none)):=by
   refine⟨hG.os,hG.tape,hG.output,by rw[q];exact hG.size,λk l o=> ?_,λk n l o=> ?_,λk n t l o=> ?_,λk id l o=> ?_⟩
   ·rw[p k (m k l)];exact hG.out k l o
   ·rw[p k (m k l)];exact hG.rowN k n l o
   ·obtain⟨n',o',z,C,B⟩:=hG.rowS k n t l o;exact⟨n',o',z,C,λi u hi hu=>by rw[kj (p k (m k l))];exact B i u hi hu⟩
   ·rw[jl (p k (m k l))];exact hG.obj k id l o
  refine⟨by simp,.inl ⟨b,_,J,run_takeDeferred h4,qdq A _ (hs.dead h3 p q) I ⟨λe E=> ?_,(jB1.1 hM.two).2⟩ h⟩⟩;obtain⟨c,z,C,B,q4⟩:=hM.one e (jA9 _ E);have F:c≠b:=by
   rintro rfl;exact(jB1.1 hM.two).1 e E (J.trans z.symm)
  exact⟨c,z,C,B,by rw[p c F];exact q4⟩
theorem qxn {mu:List Nat} {news:List (FuncId×Nat)} {f:FuncId} {fn:Func} {c:Code} {sc:SCode} {args rs:List ASlot} {objs objs':List AObj} {rv:List ResultVar} {rvs:List RVar}
  (hm:P.follows .mixedOrders=true) (hf:P.funcs[f]? =some fn) (hb:fn.body=some c) (hr:fn.results=rv.toArray) (af:rv.mapM (qha P)=some rvs) (hc:zy P mu fn.ntmps news c=some sc.erase)
  (hN:args.length<=fn.ntmps) (hl:rvs.length=rs.length) (hw: ∀t∈vy args++xi objs,t<16)
  (h:AWp P objs.length sc (q56 objs.length rvs rs objs') (qim args objs)):qf P f args objs (qrk rs) objs':=by
 intro g w vs hd ac hv ho;have hs:=q9g (N:=fn.ntmps) hd ac hN hv ho hw;have h0: ∀b id,g b= .obj id->id<objs.length:=λb id hb=>by
  obtain⟨o,ai,_⟩:=ho.ids b id hb;exact(jAd.1 ai).1
 obtain⟨q,ad⟩:=kr af;refine(callsIn_wide (n:=0)).1 (callsIn_of_wp_marks (F:=Fence.wide) hf hb trivial (q1n (ro:=none) hm h0 rfl c sc _ _ _ g w _ hc h hs (G.refl g w) ⟨by simp,List.Pairwise.nil⟩ (λe st' g' w' a' hq d B aa=> ?_)));have ab:xfv objs.length rvs rs objs' st'-> ∀w',SR fn.ntmps (below st'.nt) g' w' st' a'->G g w g' w'-> ∃v,(results fn a'.tmps).run P w'= .ok v w'∧
   ∃v' g'' live',Ending.returned v= .returned v'∧G g w g'' w'∧Dom g'' w'∧(∀t∈(qrk rs).toks++xi objs',t∈live')∧RS g'' w' live' v' (qrk rs)∧ObjsOk g'' w' live' objs':=by
  rintro⟨O,R⟩ w' d B;have A: ∀(i:Nat),i<rv.length-> ∃v,∀(x:ResultVar) (y:RVar),rv[i]? =some x->rvs[i]? =some y->(qkh a'.tmps x).run P w'= .ok v w'∧RS g' w' st'.live v (y.slot st')∧ ∀t∈(y.slot st').toks,below st'.nt t:=by
   intro i hi;have h1:rv[i]? =some rv[i]:=jAa hi;have h2:rvs[i]? =some (rvs[i]'(by omega)):=jAa (by omega);obtain⟨v,q1,q2,q3⟩:=qu4 d (ad i _ _ h1 h2) (O _ (jAe h2));refine⟨v,λx y m p=> ?_⟩;rw[h1]at m;cases m;rw[h2]at p;cases p;exact⟨q1,q2,q3⟩
  let us:List Value:=(List.range rv.length).map λi=>if hi:i<rv.length then Classical.choose (A i hi)else undef
  have z:us.length=rv.length:=by simp[us]
  have I: ∀(i:Nat) (x:ResultVar) (y:RVar) (u:Value),rv[i]? =some x->rvs[i]? =some y->us[i]? =some u->(qkh a'.tmps x).run P w'= .ok u w'∧RS g' w' st'.live u (y.slot st')∧ ∀t∈(y.slot st').toks,below st'.nt t:=by
   intro i x y u m p J;have hi:i<rv.length:=(jAd.1 m).1;have:u=Classical.choose (A i hi):=by
    simp only[us,jAn,jC4 hi,Option.map_some,jA8,dif_pos hi]at J;exact J.symm
   rw[this];exact Classical.choose_spec (A i hi) x y m p
  have U:(results fn a'.tmps).run P w'= .ok (resV us) w':=qrl hr z (λi x v m ae=>by
   have hi:i<rvs.length:=by rw[<- q];exact(jAd.1 m).1
   exact(I i x rvs[i] v m (jAa hi) ae).1)
  have E:SR us.length (below st'.nt) g' w' {st' with fr:=qat (rvs.map (RVar.slot st')) 0} {tmps:=us.toArray,defers:= []}:=by
   have C: ∀(k:Nat) (v:Bool) (s:ASlot),(qat (rvs.map (RVar.slot st')) 0).get k=some (v,s) ->v=true∧ ∃x y u,rv[k]? =some x∧rvs[k]? =some y∧us[k]? =some u∧s=y.slot st':=by
    intro k v s Z;obtain⟨rfl,i,Y,hs⟩:=qhb _ 0 k v s Z;rw[Nat.zero_add]at Y;subst Y;simp only[jAn,jAb]at hs;obtain⟨y,p,rfl⟩:=hs;have hi:k<rv.length:=by rw[q];exact(jAd.1 p).1
    exact⟨rfl,rv[k],y,us[k]'(by rw[z];exact hi),jAa hi,p,jAa _,rfl⟩
   refine⟨d.dom,trivial,by simp,λk v s Z=> ?_,d.objs,d.inj,d.ids,⟨d.wf.live,λk s Z t ht=> ?_,d.wf.os⟩⟩
   ·obtain⟨rfl,x,y,u,m,p,J,rfl⟩:=C k v s Z;refine⟨λ_=> ?_,λh=>by cases h⟩;have M:us.toArray.getD k undef=u:=by
     simp[jBg,J]
    show RS g' w' st'.live (us.toArray.getD k undef) _;rw[M];exact(I k x y u m p J).2.1
   ·obtain⟨_,x,y,u,m,p,J,rfl⟩:=C k true s Z;exact(I k x y u m p J).2.2 t ht
  obtain⟨g'',hs'',hG'',_⟩:=R.sr E B h0;have X: ∀r∈rs,∀l,r≠ .tup l:=by
   intro r ag l ah;subst ah;obtain⟨i,hi⟩:=jBh ag;obtain⟨s,_,q2,_⟩:=qxi R.fr _ _ _ (qgm rs 0 i _ hi);exact q1j (q2 rfl)
  refine⟨_,U,_,g'',vy rs++xi objs',rfl,hG'',hs''.dom,λt ht=>(jAs.1 ht).elim (λh=>jBa _ (qu3 X t h)) (λh=>jBc _ h),xfw (by rw[z,q,hl]) (λi v r h1 h2=> ?_) X,⟨hs''.objs,hs''.inj,hs''.ids⟩⟩;have h3:=(hs''.slots (0+i) true r (qgm rs 0 i r h2)).1 rfl;rw[Nat.zero_add]at h3;have M:us.toArray.getD i undef=v:=by simp[jBg,h1]
  have h4:RS g'' w' (vy rs++xi objs') (us.toArray.getD i undef) r:=h3;rw[M]at h4;exact h4
 cases e with
 |normal=>exact qdq a'.defers w' d B aa (ab hq)
 |ret=>exact qdq a'.defers w' d B aa (ab hq)
 |exit id=>exact hq.elim
end
end Go.Abs
