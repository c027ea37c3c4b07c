/- Texts Bc, Bd, Qb, Be, Bf, Bg, Bh, Kr, Lq. -/
import Derived.Test.YtkcdbcbpbolgkaaGreatDoorMwk
import Derived.Carry
set_option linter.unusedSimpArgs false
set_option linter.unusedVariables false
set_option linter.defProp false
set_option maxRecDepth 100000
noncomputable section
namespace Go.Abs
open Go.ChangeShapes Go.RowKit
def argS (P:Program) (t:TypeId) (e:List D):ASlot:=
 match P.underlying t with
 |some (.struct _)=> .d (.agg e)
 |some (.array _ _)=> .d (.agg e)
 | _=> .d (e.headD default)
def xnf (P:Program) (n:Nat) (K:List ASlot->Prop):List TypeId->List ASlot->Prop
 | [],acc=>K acc
 |t::ts,acc=> ∀d,Shp P n t d->xnf P n K ts (acc++ [argS P t d])
section
variable {H:Type} {enc:TypeId×Value→H} {P:Program} {W W':World}
theorem xto {n:Nat} {t:TypeId} {o:List D} (h:Shp P n t o) (h1: ∀l,P.underlying t≠some (.struct l)) (h2: ∀m e,P.underlying t≠some (.array m e)): ∃d,o= [d]:=by
 cases n with
 |zero=>exact h.elim
 |succ n=>
  unfold Shp at h;split at h
  ·obtain⟨b,rfl⟩:=h;exact⟨_,rfl⟩
  ·obtain⟨b,rfl,_⟩:=h;exact⟨_,rfl⟩
  ·obtain⟨b,rfl,_⟩:=h;exact⟨_,rfl⟩
  ·obtain⟨b,rfl,_⟩:=h;exact⟨_,rfl⟩
  ·rename_i l i;exact(h1 l i).elim
  ·rename_i m e i;exact(h2 m e i).elim
  ·exact h.elim
theorem xwo {n base:Nat} {t:TypeId} {v:Value} {d:DataW H} {ps:List MemPlace} (hp:ql6 P n t=true) (h:DataW.Trod enc P W 0 (λ_=>true) true t v d ps) (l:Value.okWide P W .any base t v):
  ∃z,Shp P n t z∧RC (outG W) W [] v (argS P t z):=by
 obtain⟨u,h⟩:=h;obtain⟨z,p,hs⟩:=qxv n u t _ _ hp h;refine⟨z,hs,?_⟩;unfold argS;have agg:(∃cs,v= .agg cs) ->RC (outG W) W [] v (.d (.agg z)):=by
  rintro⟨cs,rfl⟩;have:=p.agg;simpa[Value.cells,RC]using this
 unfold Value.okWide at l;split
 ·rename_i E o;rw[o]at l;obtain⟨cs,q,_⟩:=l;exact agg ⟨cs,q⟩
 ·rename_i m e o;rw[o]at l;obtain⟨cs,q,_⟩:=l;exact agg ⟨cs,q⟩
 ·rename_i C B;obtain⟨d,rfl⟩:=xto hs C B;have hl:=p.1;cases v with
  |agg cs=>
   exfalso;have i:Cell.okWide P W .any base t (.agg cs):=by
    split at l
    ·rename_i E o;exact(C E o).elim
    ·rename_i m e o;exact(B m e o).elim
    ·exact l
   unfold Cell.okWide at i;split at i<;>first|(rename_i A;cases A;done)|skip
   all_goals first|(rename_i A _;cases A;done)|(simp[Cell.ok]at i;done)|skip
  | _=>exact p.2.2 0 _ d rfl rfl
theorem qxw {ts:List TypeId} (hl:laidOutB P=true) (i:(ts.all λt=>P.readableRec t&&decide (t<P.types.size))=true) (hb:Below W.heap.size W W'): ∀{vs:List Value} {l:List (DataW H)} {ps:List MemPlace},
  DataW.TrodAll enc P W 0 (λ_=>true) true ts vs l ps->(∀x∈ps,x.block<W.heap.size) ->DataW.TrodAll enc P W' 0 (λb=>decide (b<W.heap.size)) true ts vs l ps:=by
 induction ts with
 |nil=>
  intro vs l ps h _;obtain⟨rfl,rfl,rfl⟩:=trodAll_nil h;exact trodAll_mk0
 |cons t ts ih=>
  intro vs l ps h e;simp only[jCx,jAf,decide_eq_true_eq]at i;obtain⟨v,vs',d,ds',p,q,rfl,rfl,rfl,h1,h2⟩:=trodAll_cons h;exact⟨p,q,Below.trod hl i.1.1 i.1.2 h1 hb (λx m=>e x (jBa _ m)),ih (by simpa using i.2) h2 (λx m=>e x (jBc _ m)),rfl⟩
theorem q9o {n base:Nat} {K:List ASlot->Prop}: ∀{ts:List TypeId} {vs:List Value} {C:List (DataW H)} {ps:List MemPlace} {m:List ASlot} {us:List Value},(ts.all (ql6 P n))=true->xnf P n K ts m->
  DataW.TrodAll enc P W 0 (λ_=>true) true ts vs C ps->(∀(j:Nat) (t:TypeId) (v:Value),ts[j]? =some t->vs[j]? =some v->Value.okWide P W .any base t v) ->
  us.length=m.length->(∀(i:Nat) (v:Value) (s:ASlot),us[i]? =some v->m[i]? =some s->RC (outG W) W [] v s) ->(∀s∈m,s.toks= []) ->
  ∃e,K e∧(us++vs).length=e.length∧(∀(i:Nat) (v:Value) (s:ASlot),(us++vs)[i]? =some v->e[i]? =some s->RC (outG W) W [] v s)∧ ∀s∈e,s.toks= []
 | [],vs,C,ps,m,us,_,hk,h,_,hl,hr,z=>by
  obtain⟨rfl,rfl,rfl⟩:=trodAll_nil h;rw[jAu];exact⟨m,hk,hl,hr,z⟩
 |t::ts,vs,C,ps,m,us,hp,hk,h,hv,hl,hr,z=>by
  simp only[jCx,jAf]at hp;obtain⟨v,vs',d,ds',p,q,rfl,rfl,rfl,h1,h2⟩:=trodAll_cons h;obtain⟨dl,hs,B⟩:=xwo hp.1 h1 (hv 0 t v rfl rfl);have:=q9o (us:=us++ [v]) hp.2 (hk dl hs) h2 (λj t' v' z A=>hv (j+1) t' v' (by simpa using z) (by simpa using A)) (by simp[hl]) (λi u s o l=>by
   by_cases hi:i<us.length
   ·rw[jA3 hi]at o;rw[jA3 (by omega)]at l;exact hr i u s o l
   ·rw[jBb (by omega)]at o;rw[jBb (by omega)]at l;rw[hl]at o;cases hj:i-m.length with
    |zero=>rw[hj]at o l;simp at o l;subst o l;exact B
    |succ j=>rw[hj]at o;simp at o) (λs l=>by
   rcases jAs.1 l with h|h
   ·exact z s h
   ·simp at h;subst h;unfold argS;split<;>rfl)
  rw[jAh]at this;exact this
theorem xgk {X:FuncId} {f:Func} {s:ChangeSpec} {apart G B:Bool} {n base:Nat} {tb:TypeId} {args:Array Value} {l gs:List (DataW H)} {C:List MemPlace}
  (hl:laidOutB P=true) (Z:(f.params.toList.all λt=>P.readableRec t&&decide (t<P.types.size))=true) (hp:(f.params.toList.all (ql6 P n))=true)
  (O:f.resultTypes= #[tb]) (aa:P.underlying tb=some .bool) (u:s.vars= [])
  (E: ∀l:List (DataW H),l.length=f.params.toList.length->s.fn H l={results:= [.lit (.bool true)],args:=l})
  (hc:xnf P n (λi=>qf P X i [] (.d (.bool true)) []) f.params.toList [])
  (hW:DataW.Whole enc P f.params.toList s.vars apart W args.toList l gs C)
  (M: ∀(j:Nat) (t:TypeId) (v:Value),f.params[j]? =some t->args[j]? =some v->Value.okWide P W .any base t v) (ad:q9m W:=by exact xcj):
  Calls P X args W λe W'=> ∃v,e= .returned v∧s.post enc P f apart G B false W args v W':=by
 have U:=hW;obtain⟨p,q,hA,hV,rfl,_,_⟩:=hW;rw[u]at hV;obtain⟨rfl,rfl⟩:=trodVars_none hV;obtain⟨i,hk,q1,q2,q3⟩:=q9o (us:= []) hp hc hA (λj t v ht Y=>M j t v (by simpa using ht) (by simpa using Y)) rfl (by simp) (by simp);have htk:vy i= []:=by
  unfold vy;rw[jCn];exact q3
 have z: ∀b id,outG W b≠ .obj id:=by
  intro b id h;unfold outG at h;split at h<;>cases h
 have F:=hk (outG W) W args.toList (xnc W ad) (by simpa using q1) (by rw[htk];simpa[xi]using q2) ⟨λid o h=>by simp at h,λb b' id h=>(z b id h).elim,λb id h=>(z b id h).elim⟩;refine F.mono ?_;rintro e W' ⟨v,g',live',rfl,J,hdom,_,ab,_⟩;have Y:v= .bool true:=qas (ws ab);subst Y;have R:Below W.heap.size W W':=by
  refine⟨J.os,J.tape,J.output,J.size,λb R=> ?_⟩;cases hg:outG W b with
  |out=>exact(J.out b R hg).1
  |row m o=>
   cases o with
   |none=>exact(J.rowN b m R hg).1
   |some t=>
    unfold outG at hg;split at hg<;>cases hg
  |uni t=>
   unfold outG at hg;split at hg<;>cases hg
  |obj id=>exact(z b id hg).elim
 have A:l.length=f.params.toList.length:=by
  have: ∀{ts:List TypeId} {vs:List Value} {l:List (DataW H)} {ps:List MemPlace},DataW.TrodAll enc P W 0 (λ_=>true) true ts vs l ps->l.length=ts.length:=by
   intro ts;induction ts with
   |nil=>intro vs l ps h;obtain⟨_,rfl,_⟩:=trodAll_nil h;rfl
   |cons t ts ih=>intro vs l ps h;obtain⟨v,vs',d,ds',p,q,rfl,rfl,rfl,_,h2⟩:=trodAll_cons h;simp[ih h2]
  exact this hA
 have ac: ∀x∈p++ [],x.block<W.heap.size:=λx I=>U.lt x I;refine⟨_,rfl,l,[],p++ [],[],p,[],U,?_,?_,?_,?_,λh=>by cases h⟩
 ·rw[jAu,E l A,O];exact trodAll_mk1 (shut_bool aa true)
 ·rw[jAu,E l A];exact qxw hl Z R hA (λx I=>ac x (by simpa using I))
 ·rw[jAu,E l A,u];exact rfl
 ·refine World.keptBut_mono (λx I=>⟨I,.inr (.inl ?_)⟩) (R.frame (· ∈p++ []));simpa using I
end
end Go.Abs
namespace Go.Abs
structure FnIs (P:Program) (f:FuncId) (fn:Func) (mu:List Nat) (news:List (FuncId×Nat)) (sc:SCode) (rvs:List RVar) (N:Nat):Prop where
 fol:P.follows .mixedOrders=true
 isf:P.funcs[f]? =some fn
 code:fn.body.bind (zy P mu fn.ntmps news)=some sc.erase
 res:fn.results.toList.mapM (qha P)=some rvs
 num:fn.ntmps=N
 body:(P.funcs[f]?).any (λfn=>fn.body.isSome&& !(fn.name== "runtime.NumGoroutine"))=true
section
variable {P:Program} {f:FuncId} {fn:Func} {mu:List Nat} {news:List (FuncId×Nat)} {sc:SCode} {rvs:List RVar} {N:Nat} {args rs:List ASlot} {r:ASlot} {objs objs':List AObj}
theorem FnIs.go (F:FnIs P f fn mu news sc rvs N) (h:AWp P objs.length sc (q56 objs.length rvs [r] objs') (qim args objs)) (hN:args.length<=N:=by simp) (hl:rvs.length=1:=by rfl) (hw:ltB 16 (vy args++xi objs)=true:=by first|rfl|simp only[go_sem]):
  qf P f args objs r objs':=
 q9l (rs:= [r]) F.fol F.isf F.code F.res h (by rw[F.num];exact hN) (by rw[hl];rfl) hw
theorem FnIs.goT (F:FnIs P f fn mu news sc rvs N) (h:AWp P objs.length sc (q56 objs.length rvs rs objs') (qim args objs)) (hN:args.length<=N:=by simp) (hl:rvs.length=rs.length:=by rfl) (hn:rs.length≠1:=by simp) (hw:ltB 16 (vy args++xi objs)=true:=by first|rfl|simp only[go_sem]):
  qf P f args objs (.tup rs) objs':=by
 rw[<- xgd hn];exact q9l F.fol F.isf F.code F.res h (by rw[F.num];exact hN) hl hw
end
theorem ev {p q:Prop} (h:q) (e:p=q:=by conv=>lhs;simp only[go_sem,simprocAttr]):p:=e▸h
theorem evT {p:Prop} (e:p=True:=by simp only[go_sem,simprocAttr]):p:=of_eq_true e
theorem ev1 {A1 p q:Prop} (a1:A1) (h:q) (e:A1->p=q:=by intro z1;conv=>lhs;simp only[z1,go_sem,simprocAttr]):p:=(e a1).mpr h
theorem ev2 {A1 A2 p q:Prop} (a1:A1) (a2:A2) (h:q) (e:A1->A2->p=q:=by intro z1 z2;conv=>lhs;simp only[z1,z2,go_sem,simprocAttr]):p:=(e a1 a2).mpr h
theorem ev3 {A1 A2 A3 p q:Prop} (a1:A1) (a2:A2) (a3:A3) (h:q) (e:A1->A2->A3->p=q:=by intro z1 z2 z3;conv=>lhs;simp only[z1,z2,z3,go_sem,simprocAttr]):p:=(e a1 a2 a3).mpr h
theorem ev4 {A1 A2 A3 A4 p q:Prop} (a1:A1) (a2:A2) (a3:A3) (a4:A4) (h:q) (e:A1->A2->A3->A4->p=q:=by intro z1 z2 z3 z4;conv=>lhs;simp only[z1,z2,z3,z4,go_sem,simprocAttr]):p:=(e a1 a2 a3 a4).mpr h
theorem ev5 {A1 A2 A3 A4 A5 p q:Prop} (a1:A1) (a2:A2) (a3:A3) (a4:A4) (a5:A5) (h:q) (e:A1->A2->A3->A4->A5->p=q:=by intro z1 z2 z3 z4 z5;conv=>lhs;simp only[z1,z2,z3,z4,z5,go_sem,simprocAttr]):p:=(e a1 a2 a3 a4 a5).mpr h
theorem ev6 {A1 A2 A3 A4 A5 A6 p q:Prop} (a1:A1) (a2:A2) (a3:A3) (a4:A4) (a5:A5) (a6:A6) (h:q) (e:A1->A2->A3->A4->A5->A6->p=q:=by intro z1 z2 z3 z4 z5 z6;conv=>lhs;simp only[z1,z2,z3,z4,z5,z6,go_sem,simprocAttr]):p:=(e a1 a2 a3 a4 a5 a6).mpr h
theorem ev7 {A1 A2 A3 A4 A5 A6 A7 p q:Prop} (a1:A1) (a2:A2) (a3:A3) (a4:A4) (a5:A5) (a6:A6) (a7:A7) (h:q) (e:A1->A2->A3->A4->A5->A6->A7->p=q:=by intro z1 z2 z3 z4 z5 z6 z7;conv=>lhs;simp only[z1,z2,z3,z4,z5,z6,z7,go_sem,simprocAttr]):p:=(e a1 a2 a3 a4 a5 a6 a7).mpr h
theorem ev8 {A1 A2 A3 A4 A5 A6 A7 A8 p q:Prop} (a1:A1) (a2:A2) (a3:A3) (a4:A4) (a5:A5) (a6:A6) (a7:A7) (a8:A8) (h:q) (e:A1->A2->A3->A4->A5->A6->A7->A8->p=q:=by intro z1 z2 z3 z4 z5 z6 z7 z8;conv=>lhs;simp only[z1,z2,z3,z4,z5,z6,z7,z8,go_sem,simprocAttr]):p:=(e a1 a2 a3 a4 a5 a6 a7 a8).mpr h
theorem ob {p q:Prop} (k:q) (h:p:=by first|omega|(simp_all;done)|grind):p∧q:=⟨h,k⟩
section
variable {P:Program} {f:FuncId} {fn:Func} {mu:List Nat} {news:List (FuncId×Nat)} {sc:SCode} {rvs:List RVar} {N:Nat}
variable {ops:List SOper} {k:Nat} {tids:List (List Nat)} {K:List (List Nat)→St→Prop} {fr:Fr} {os:List AObj} {live:List Nat} {nt:Nat} {dst:Option Nat} {g ok:Bool} {fa as:List ASlot} {r:ASlot} {fo fo':List AObj}
theorem cl (F:FnIs P f fn mu news sc rvs N) (hc:qf P f fa [] r []) (hK:ARun P ops (k+1) (tids++ [[]]) K ⟨ym fr dst g r,os,live,nt⟩)
  (ho:g=true->ok=true:=by first|exact λh=>h|exact λ_=>rfl|(intro h;simp only[h,jBu,jEd]))
  (hfit:g=true->qaf as fa:=by intro _;first|exact trivial|exact⟨qo,trivial⟩|exact⟨qo,qo,trivial⟩|exact⟨qo,qo,qo,trivial⟩|exact⟨qo,qo,qo,qo,trivial⟩|exact evT)
  (d:fa.all ASlot.noPtr=true:=by first|rfl|exact evT) (hh:zk as fa= []:=by rfl) (hr:r.toks= []:=by rfl):
  qne P ops k tids K dst ⟨fr,os,live,nt⟩ g (some (f,as)) ok:=zf hc F.body ho hfit d hh hr hK
theorem clF (F:FnIs P f fn mu news sc rvs N) (hc:qf P f fa [] r []) (hfit:g=true->qaf as fa) (hK:ARun P ops (k+1) (tids++ [[]]) K ⟨ym fr dst g r,os,live,nt⟩)
  (ho:g=true->ok=true:=by first|exact λh=>h|exact λ_=>rfl|(intro h;simp only[h,jBu,jEd]))
  (d:fa.all ASlot.noPtr=true:=by first|rfl|exact evT) (hh:zk as fa= []:=by rfl) (hr:r.toks= []:=by rfl):
  qne P ops k tids K dst ⟨fr,os,live,nt⟩ g (some (f,as)) ok:=zf hc F.body ho hfit d hh hr hK
theorem xgl (hK:ARun P ops (k+1) (tids++ [[]]) K ⟨ym fr dst g (.d (.bool false)),os,live,nt⟩) {c:Option (FuncId×List ASlot)} (hg:g=false:=by rfl):qne P ops k tids K dst ⟨fr,os,live,nt⟩ g c ok:=
 qa9 (.bool false) hg hK
theorem clO (ι:List Nat) (F:FnIs P f fn mu news sc rvs N) (hc:qf P f fa fo r fo') (hK:ARun P ops (k+1) (tids++ [ι++ι.map λi=>1000000+i]) K ⟨ym fr dst true (r.ren ι),jn os (ι.zip (fo'.map (AObj.ren ι))),live,nt⟩)
  (ho:ok=true:=by first|rfl|exact evT)
  (hfit:qaf as (fa.map (ASlot.ren ι)):=by first|exact⟨qo,trivial⟩|exact⟨qo,qo,trivial⟩|exact evT)
  (p:fa.all (ASlot.inK fo.length)=true:=by first|rfl|exact evT) (hh:zk as fa= []:=by rfl) (hr:r.toks= []:=by rfl)
  (l:ι.Nodup:=by decide) (e:ι.length=fo'.length:=by rfl) (m:fo.length<=fo'.length:=by simp) (hold:qef ι os ι fo:=by exact evT)
  (d:(ι.drop fo.length).all (isNone os)=true:=by first|rfl|exact evT) (hik:fo.all (AObj.inK fo.length)=true:=by first|rfl|exact evT) (htk:(fo'.all λo=>qay o.cells)=true:=by first|rfl|exact evT) (h:(fo.all λo=>qay o.cells)=true:=by first|rfl|exact evT):
  qne P ops k tids K dst ⟨fr,os,live,nt⟩ true (some (f,as)) ok:=xf6 ι hc F.body ho hfit p hh hr l e m hold d hik htk h hK
theorem clT (ι:List Nat) (F:FnIs P f fn mu news sc rvs N) (hc:qf P f fa fo r fo')
  (hK:ARun P ops (k+1) (tids++ [[]]) K ⟨ym fr dst true ((yd (r.toks++xi fo') (16*(nt+k)) r).ren ι),jn os (ι.zip ((fo'.map (AObj.rt (r.toks++xi fo') (16*(nt+k)))).map (AObj.ren ι))),
   (live.filter λt=> !((zk as fa++wz os ι fo).map (·.1)).contains t)++((yd (r.toks++xi fo') (16*(nt+k)) r).toks++xi (fo'.map (AObj.rt (r.toks++xi fo') (16*(nt+k))))),nt⟩)
  (ho:ok=true:=by first|rfl|exact evT)
  (hfit:qaf as (fa.map (ASlot.ren ι)):=by first|exact⟨qo,trivial⟩|exact⟨qo,qo,trivial⟩|exact evT)
  (m:fa.all (ASlot.inK fo.length)=true:=by first|rfl|exact evT)
  (hl:((zk as fa++wz os ι fo).all λp=>live.contains p.1)=true:=by first|rfl|exact evT) (hn:((zk as fa++wz os ι fo).map (·.1)).Nodup:=by first|exact evT|decide) (h:(r.toks++xi fo').length<=16:=by first|exact evT|decide)
  (i:ι.Nodup:=by decide) (e:ι.length=fo'.length:=by rfl) (l:fo.length<=fo'.length:=by simp) (hold:qef ι os ι fo:=by exact evT)
  (d:(ι.drop fo.length).all (isNone os)=true:=by first|rfl|exact evT) (hik:fo.all (AObj.inK fo.length)=true:=by first|rfl|exact evT):
  q9k P ops k tids K dst ⟨fr,os,live,nt⟩ true (some (f,as)) ok:=xf7 ι hc F.body hK ho hfit m hl hn h i e l hold d hik
theorem clA (F:FnIs P f fn mu news sc rvs N) (hc:qf P f fa [] r []) (hK:ARun P ops (k+1) (tids++ [[]]) K ⟨ym fr dst true (qe3 (16*(nt+k)) r),os,(live.filter λt=> !((zk as fa).map (·.1)).contains t)++(qe3 (16*(nt+k)) r).toks,nt⟩)
  (ho:ok=true:=by first|rfl|exact evT)
  (h1:qaf as fa:=by first|exact trivial|exact⟨qo,trivial⟩|exact⟨qo,qo,trivial⟩|exact evT) (h2:fa.all ASlot.noPtr=true:=by first|rfl|exact evT) (h3: ∀p∈zk as fa,p.1∈live:=by first|(intro p hp;cases hp;done)|simp[zk]) (h4:((zk as fa).map (·.1)).Nodup:=by first|exact jD5|simp[zk])
  (e:r.toks.Nodup:=by first|exact jD5|simp[ASlot.toks]) (d:r.toks.length<=16:=by simp[ASlot.toks]):
  qne P ops k tids K dst ⟨fr,os,live,nt⟩ true (some (f,as)) ok:=qin hc F.body ho ⟨h1,h2,h3,h4⟩ e d hK
end
section
variable {P:Program} {k0:Nat} {a x y:SCode} {Q:SExit→St→Prop} {st:St} {c:Opd}
theorem xf (t:Bool) (hx:t=true->AWp P k0 x Q st) (hy:t=false->AWp P k0 y Q st) (h1:c.ok st.fr=true:=by rfl) (h2:c.get st.fr= .d (.bool t):=by rfl):AWp P k0 (.cond c x y) Q st:=qt t h1 h2 hx hy
theorem no_ (hy:AWp P k0 y Q st) (h1:c.ok st.fr=true:=by rfl) (h2:c.get st.fr= .d (.bool false):=by rfl):AWp P k0 (.cond c x y) Q st:=qt false h1 h2 (λh=>Bool.noConfusion h) (λ_=>hy)
theorem ya (hx:AWp P k0 x Q st) (h1:c.ok st.fr=true:=by rfl) (h2:c.get st.fr= .d (.bool true):=by rfl):AWp P k0 (.cond c x y) Q st:=qt true h1 h2 (λ_=>hx) (λh=>Bool.noConfusion h)
theorem xwq {f:Opd} {ps:List Nat} (F:FuncId) (h:List D) (ι:List Nat) (fo:List AObj) (e:List (List D)) (S:Nat->St) (i:Fr) (m:ASeq P F h fo e) (q:Weak k0 st (S 0))
  (l: ∀k vs,e[k]? =some vs->AWp P (S k).os.length x (qil (λst2=>AWp P st2.os.length y (qil (λp=>Turn k0 {p with fr:=i} (S (k+1))) (λ_ _=>False)) st2) (λ_ _=>False)) {S k with fr:=jo ps vs i})
  (hK:Q .normal (S e.length)) (t: ∀vs∈e,vs.length=ps.length∧D.noPtrL vs=true)
  (u:qef ι st.os ι fo) (C: ∀k id,id∈ι->yq (S k).os id=false)
  (h1:f.ok st.fr=true:=by rfl) (h2:f.get st.fr= .d (.func (.func F) [] (h.map (D.ren ι))):=by rfl) (z: ∀d∈h,d.inK fo.length=true:=by simp[D.inK]) (v:ι.Nodup:=by decide) (o:ι.length=fo.length:=by rfl)
  (hik:fo.all (AObj.inK fo.length)=true:=by first|rfl|simp only[go_sem]) (A: ∀id∈ι,k0<=id:=by simp) (B:i.plain=true:=by rfl) (E: ∀k,(S k).fr=i:=by intro _;rfl):
  AWp P k0 (.rangeFunc f ps x y) Q st:=
 .inl ⟨F,h,ι,fo,e,S,i,⟨h1,h2,m,z,v,o,u,hik,A,t,B,E,C,q⟩,l,hK⟩
theorem xgm {f:Opd} {ps:List Nat} (C:FuncId) (ibx ib K:Nat) (i:List Int) (e:List (List D)) (S:Nat->St) (h:Fr) (m:xl8 P C i e) (o:Weak K st (S 0))
  (z: ∀k,(S k).os[ibx]? =some (.row [.d (.ptr ib 0)])) (B: ∀k,∃rest,(S k).os[ib]? =some (.row (i.map (λx=> .d (.int .i64 x))++rest)))
  (l: ∀k vs,e[k]? =some vs->AWp P (S k).os.length x (qil (λst2=>AWp P st2.os.length y (rndQ K h (S (k+1)) Q) st2) (λ_ _=>False)) {S k with fr:=jo ps vs h})
  (hK:Q .normal (S e.length)) (p: ∀vs∈e,vs.length=ps.length∧D.noPtrL vs=true) (hk:k0<=K:=by omega) (t:ibx<K:=by omega) (u:ib<K:=by omega) (q:i≠ []:=by simp)
  (h1:f.ok st.fr=true:=by rfl) (h2:f.get st.fr= .d (.func (.func C) [] [.ptr ibx 0]):=by rfl) (v:h.plain=true:=by rfl) (A: ∀k,(S k).fr=h:=by intro _;rfl):
  AWp P k0 (.rangeFunc f ps x y) Q st:=
 .inr ⟨C,ibx,ib,K,i,e,S,h,⟨h1,h2,m,hk,t,u,z,B,q,p,v,A,o⟩,l,hK⟩
theorem pu (h:AWp P k0 a Q st):AWp P k0 (.pause a) Q st:=⟨st,.refl st,h⟩
theorem qou (p:Pos) (t es:Nat) (rows:List (List D)) (h:AWp P k0 (.pause a) Q (st.u2o p t es rows)) (hp:st.slotAt p= .uni t es rows:=by rfl) (ht:t∈st.live:=by simp):AWp P k0 (.pause a) Q st:=by
 obtain⟨st',h1,h2⟩:=h;exact⟨st',.u2o p t es rows hp ht h1,h2⟩
theorem qrv (p:Pos) (id es:Nat) (rows:List (List D)) (h:AWp P k0 (.pause a) Q (st.o2u p id es rows)) (hc:ql st.os id=rows.flatten.map .d) (hes: ∀r∈rows,r.length=es)
  (hcl: ∀d∈rows.flatten,d.isCell=true) (hok:D.okWR (neId id) rows=true) (hp:st.slotAt p= .d (.ref id 0 es rows.length):=by rfl) (e:qg4 st.os id=true:=by rfl) (hk:k0<=id:=by omega) (hn:p.notIn id:=by first|trivial|decide):AWp P k0 (.pause a) Q st:=by
 obtain⟨st',h1,h2⟩:=h;exact⟨st',.o2u p id es rows hp e hc hes hcl hok hk hn h1,h2⟩
theorem qio (id es:Nat) (rows:List (List D)) (h:AWp P k0 (.pause a) Q (st.frz id es rows)) (hc:(ql st.os id).map ASlot.cellD=rows.flatten) (hcc:(ql st.os id).all ASlot.isCellD=true) (hes: ∀r∈rows,r.length=es)
  (hok:D.okWR (neId id) rows=true) (hk:k0<=id:=by omega):AWp P k0 (.pause a) Q st:=by
 obtain⟨st',h1,h2⟩:=h;exact⟨st',.frz id es rows hc hcc hes hok hk h1,h2⟩
theorem qc6 (ι:List Nat) (d:List AObj) (h:AWp P k0 (.pause a) Q (st.renN ι d)) (ho:xbz ι d ι st.os) (hp:xl2 k0 d.length ι=true:=by decide) (hn:ι.Nodup:=by decide) (hl:ι≠ []:=by simp):AWp P k0 (.pause a) Q st:=by
 obtain⟨st',h1,h2⟩:=h;exact⟨st',.ren ι d hn hl hp ho h1,h2⟩
theorem xgn {st1:St} (h0:Weak k0 st st1) (h:AWp P k0 a Q st1):AWp P k0 (.pause a) Q st:=⟨st1,.weak h0 (.refl _),h⟩
end
section
variable {fr:Fr} {os:List AObj} {live:List Nat} {nt:Nat}
theorem xwr {k t es:Nat} {rows:List (List D)}:St.u2o ⟨fr,os,live,nt⟩ (.fr k) t es rows=⟨(k,true,.d (.ref os.length 0 es rows.length))::fr,os++ [.row (rows.flatten.map .d)],live.filter λu=> !(u==t),nt⟩:=rfl
theorem xng {id i t es:Nat} {rows:List (List D)}:St.u2o ⟨fr,os,live,nt⟩ (.cell id i) t es rows=⟨fr,os.set id (.row ((ql os id).set i (.d (.ref os.length 0 es rows.length))))++ [.row (rows.flatten.map .d)],live.filter λu=> !(u==t),nt⟩:=rfl
theorem xnh {k t es:Nat} {rows:List (List D)}:St.u2own ⟨fr,os,live,nt⟩ (.fr k) t es rows=⟨(k,true,.own (16*nt) es rows)::fr,os,(live.filter λu=> !(u==t))++ [16*nt],nt+1⟩:=rfl
theorem xck {id i t es:Nat} {rows:List (List D)}:St.u2own ⟨fr,os,live,nt⟩ (.cell id i) t es rows=⟨fr,os.set id (.row ((ql os id).set i (.own (16*nt) es rows))),(live.filter λu=> !(u==t))++ [16*nt],nt+1⟩:=rfl
theorem xws {k id es:Nat} {rows:List (List D)}:St.o2u ⟨fr,os,live,nt⟩ (.fr k) id es rows=⟨(k,true,.uni (16*nt) es rows)::Fr.mapS (ASlot.only (neId id)) fr,(os.map (AObj.mapS (ASlot.only (neId id)))).set id .none,live++ [16*nt],nt+1⟩:=rfl
theorem xni {j i id es:Nat} {rows:List (List D)}:St.o2u ⟨fr,os,live,nt⟩ (.cell j i) id es rows=
  ⟨Fr.mapS (ASlot.only (neId id)) fr,((os.map (AObj.mapS (ASlot.only (neId id)))).set id .none).set j (.row ((ql ((os.map (AObj.mapS (ASlot.only (neId id)))).set id .none) j).set i (.uni (16*nt) es rows))),live++ [16*nt],nt+1⟩:=rfl
theorem qov {id es:Nat} {rows:List (List D)}:St.frz ⟨fr,os,live,nt⟩ id es rows=⟨Fr.mapS (λs=>(s.frz id es rows).only (neId id)) fr,(os.map (AObj.mapS λs=>(s.frz id es rows).only (neId id))).set id .none,live,nt⟩:=rfl
end
theorem xgo {keep:Nat->Bool} {t t' es d:Nat} {r r':List (List D)}:qd5 keep (.uni t es r) (.uni t' d r')=((es=d∧r=r')∧D.noPtrR r'=true):=rfl
theorem quf {keep:Nat->Bool} {t' es d:Nat} {r r':List (List D)}:qd5 keep (.full es r) (.uni t' d r')=(r= []∧r'= []):=rfl
theorem qxx {keep:Nat->Bool} {t' e:Nat} {r':List (List D)}:qd5 keep (.d .nilsl) (.uni t' e r')=(r'= []):=rfl
theorem q6s {t t' es d:Nat} {r r':List (List D)}:wl (.uni t es r) (.uni t' d r')= [(t,t')]:=rfl
theorem qpk {t' es d:Nat} {r r':List (List D)}:wl (.full es r) (.uni t' d r')= []:=rfl
theorem qxy {x:D} {t' e:Nat} {r':List (List D)}:wl (.d x) (.uni t' e r')= []:=rfl
theorem xcl {t t' es d:Nat} {r r':List (List D)}:qcq (.uni t es r) (.uni t' d r')=(es=d∧r=r'):=rfl
theorem qug {t' e:Nat} {r':List (List D)}:qcq (.d .nilsl) (.uni t' e r')=(r'= []):=rfl
theorem xtp {i:Nat} {ι:List Nat} {t es:Nat} {rows:List (List D)}:ASlot.ren (i::ι) (.uni t es rows)= .uni t es (D.renR (i::ι) rows):=rfl
attribute [go_sem] xgo quf qxx q6s qpk qxy xcl qug xtp
attribute [go_sem] xwr xng xnh xck xws xni qov Fr.mapS AObj.mapS ASlot.only ASlot.okS neId ASlot.frz D.frz
attribute [go_sem] q1p q6e qub q6f xf3 q6g xce q6j xf2 q1q q1r vh zn vw qbu ko qa5 qab ki qqh qfp qph entV KD.fit
theorem xcm (b t es:Nat) (rows:List (List D)):qe3 b (.own t es rows)= .own b es rows:=by simp[qe3,yd,renT,ASlot.toks]
theorem xcn (b t es:Nat) (rows:List (List D)):qe3 b (.uni t es rows)= .uni b es rows:=by simp[qe3,yd,renT,ASlot.toks]
attribute [go_sem] xcm xcn
theorem xtq {fr:Fr} {os:List AObj} {live:List Nat} {nt:Nat} {ι:List Nat} {d:List AObj}:St.renN ⟨fr,os,live,nt⟩ ι d=⟨Fr.mapS (ASlot.ren ι) fr,d,live,nt⟩:=rfl
theorem q14 (e:List D): ∀l:List ASlot,qb5 (e.map .d) l= []:=by
 induction e with
 |nil=>intro l;rfl
 |cons d e ih=>
  intro l;cases l with
  |nil=>rfl
  |cons s l=>cases s<;>simp[qb5,wl,ih]
theorem xgp (d:List D):(d.map ASlot.d).flatMap ASlot.toks= []:=by induction d<;>simp_all[ASlot.toks]
theorem xnj (keep:Nat->Bool) (e:List D):csW keep (e.map .d) (e.map .d)=(D.okWL keep e=true):=by
 induction e with
 |nil=>simp[csW,D.okWL]
 |cons d e ih=>simp only[List.map_cons,csW,ih,D.okWL,jAf];simp[qd5,ASlot.eqvD,D.eqv_refl]
theorem q6t (e:List D):qay (e.map .d)=true:=by
 induction e with
 |nil=>rfl
 |cons d e ih=>simpa[qay,ASlot.toks]using ih
theorem xgq (ι:List Nat) (e:List D):(e.map ASlot.d).map (ASlot.ren1 ι)=(D.renL ι e).map .d:=by rw[D.renL_map];simp[ASlot.ren1]
theorem q15 (d:List D):(d.map ASlot.d).all ASlot.isCellD=d.all D.isCell:=by induction d<;>simp_all[ASlot.isCellD]
theorem xco (d:List D):(d.map ASlot.d).all ASlot.isOne=d.all D.isCell:=by induction d<;>simp_all[ASlot.isOne]
theorem qu9 (d:List D):(d.map ASlot.d).map ASlot.cellD=d:=by induction d<;>simp_all[ASlot.cellD]
theorem q16 (e:List D):qga (e.map .d) (e.map .d)=True:=by
 induction e with
 |nil=>simp[qga]
 |cons d e ih=>simp[qga,q09,ASlot.eqvD,D.eqv_refl,ih]
theorem xnk (k:Nat) (e:List D):(e.map ASlot.d).all (ASlot.inKC k)=D.inKL k e:=by
 induction e with
 |nil=>rfl
 |cons d e ih=>
  simp only[List.map_cons,jCx,D.inKL]at ih⊢;rw[ih];rfl
theorem xgr (e:List D) (n:Nat):(e.map ASlot.d).drop n=(e.drop n).map .d:=by rw[jEm]
theorem xgs (e:List D) (n:Nat):(e.map ASlot.d).take n=(e.take n).map .d:=by rw[jDr]
attribute [go_sem] q14 xgp xnj q6t xgq q15 xco qu9 xgr xgs q16 xnk
theorem xnl {keep:Nat->Bool} {es d:List (Nat×D×D)} {c c':Nat} {l l':List AObj}:osW keep (.map es c::l) (.map d c'::l')=((es=d∧c=c')∧osW keep l l'):=rfl
theorem xgt {keep:Nat->Bool} {m m':ASlot} {a a' c c':Nat} {b b':List Nat} {l l':List AObj}:osW keep (.iter m a b c::l) (.iter m' a' b' c'::l')=((qd5 keep m m'∧wl m m'= []∧a=a'∧b=b'∧c=c')∧osW keep l l'):=rfl
theorem q17 {es:List (Nat×D×D)} {c:Nat} {o:AObj} {l l':List AObj}:yy (.map es c::l) (o::l')=yy l l':=by cases o<;>rfl
theorem qxz {m:ASlot} {a c:Nat} {b:List Nat} {o:AObj} {l l':List AObj}:yy (.iter m a b c::l) (o::l')=yy l l':=by cases o<;>rfl
theorem q6u {keep:Nat->Bool} {l':List AObj}:osW keep [] (.none::l')=osW keep [] l':=rfl
theorem q18 {l':List AObj}:yy [] l'= []:=by cases l'<;>rfl
attribute [go_sem] q6u q18
attribute [go_sem] xnl xgt q17 qxz
attribute [go_sem] jo xtq xbz
attribute [go_sem] qg4 qrn q1s jt ASlot.void xf1 q6h q58 ASlot.len? qcc qa3 fits yw yb qtv
theorem obE {p q r:Prop} (e:p=q) (k:r→q):r→p:=fun x=>e▸k x
theorem obI {p q r:Prop} (h:p) (k:r→q):r→p∧q:=fun x=>⟨h,k x⟩
theorem ez {p q:Prop} (h:q) (e:p=q:=by first|(conv=>lhs;simp only[go_sem,simprocAttr])|rfl):p:=(e).mpr h
theorem et {p:Prop} (e:p=True:=by simp only[go_sem,simprocAttr]):p:=of_eq_true (e)
theorem eo {p q:Prop} (h:q) (e:q→p:=by apply obE;(first|(conv=>lhs;simp only[go_sem,simprocAttr])|rfl);(repeat(with_reducible apply obI (by first|omega|(simp_all;done)|grind)));exact fun x=>x):p:=e h
theorem ez1 {A1 p q:Prop} (a1:A1) (h:q) (e:A1→p=q:=by intro z1;first|(conv=>lhs;simp only[z1,go_sem,simprocAttr])|rfl):p:=(e a1).mpr h
theorem et1 {A1 p:Prop} (a1:A1) (e:A1→p=True:=by intro z1;simp only[z1,go_sem,simprocAttr]):p:=of_eq_true (e a1)
theorem eo1 {A1 p q:Prop} (a1:A1) (h:q) (e:A1→q→p:=by intro z1;apply obE;(first|(conv=>lhs;simp only[z1,go_sem,simprocAttr])|rfl);(repeat(with_reducible apply obI (by first|omega|(simp_all;done)|grind)));exact fun x=>x):p:=e a1 h
theorem ez2 {A1 A2 p q:Prop} (a1:A1) (a2:A2) (h:q) (e:A1→A2→p=q:=by intro z1 z2;first|(conv=>lhs;simp only[z1,z2,go_sem,simprocAttr])|rfl):p:=(e a1 a2).mpr h
theorem et2 {A1 A2 p:Prop} (a1:A1) (a2:A2) (e:A1→A2→p=True:=by intro z1 z2;simp only[z1,z2,go_sem,simprocAttr]):p:=of_eq_true (e a1 a2)
theorem eo2 {A1 A2 p q:Prop} (a1:A1) (a2:A2) (h:q) (e:A1→A2→q→p:=by intro z1 z2;apply obE;(first|(conv=>lhs;simp only[z1,z2,go_sem,simprocAttr])|rfl);(repeat(with_reducible apply obI (by first|omega|(simp_all;done)|grind)));exact fun x=>x):p:=e a1 a2 h
theorem ez3 {A1 A2 A3 p q:Prop} (a1:A1) (a2:A2) (a3:A3) (h:q) (e:A1→A2→A3→p=q:=by intro z1 z2 z3;first|(conv=>lhs;simp only[z1,z2,z3,go_sem,simprocAttr])|rfl):p:=(e a1 a2 a3).mpr h
theorem et3 {A1 A2 A3 p:Prop} (a1:A1) (a2:A2) (a3:A3) (e:A1→A2→A3→p=True:=by intro z1 z2 z3;simp only[z1,z2,z3,go_sem,simprocAttr]):p:=of_eq_true (e a1 a2 a3)
theorem eo3 {A1 A2 A3 p q:Prop} (a1:A1) (a2:A2) (a3:A3) (h:q) (e:A1→A2→A3→q→p:=by intro z1 z2 z3;apply obE;(first|(conv=>lhs;simp only[z1,z2,z3,go_sem,simprocAttr])|rfl);(repeat(with_reducible apply obI (by first|omega|(simp_all;done)|grind)));exact fun x=>x):p:=e a1 a2 a3 h
theorem ez4 {A1 A2 A3 A4 p q:Prop} (a1:A1) (a2:A2) (a3:A3) (a4:A4) (h:q) (e:A1→A2→A3→A4→p=q:=by intro z1 z2 z3 z4;first|(conv=>lhs;simp only[z1,z2,z3,z4,go_sem,simprocAttr])|rfl):p:=(e a1 a2 a3 a4).mpr h
theorem et4 {A1 A2 A3 A4 p:Prop} (a1:A1) (a2:A2) (a3:A3) (a4:A4) (e:A1→A2→A3→A4→p=True:=by intro z1 z2 z3 z4;simp only[z1,z2,z3,z4,go_sem,simprocAttr]):p:=of_eq_true (e a1 a2 a3 a4)
theorem eo4 {A1 A2 A3 A4 p q:Prop} (a1:A1) (a2:A2) (a3:A3) (a4:A4) (h:q) (e:A1→A2→A3→A4→q→p:=by intro z1 z2 z3 z4;apply obE;(first|(conv=>lhs;simp only[z1,z2,z3,z4,go_sem,simprocAttr])|rfl);(repeat(with_reducible apply obI (by first|omega|(simp_all;done)|grind)));exact fun x=>x):p:=e a1 a2 a3 a4 h
theorem ez5 {A1 A2 A3 A4 A5 p q:Prop} (a1:A1) (a2:A2) (a3:A3) (a4:A4) (a5:A5) (h:q) (e:A1→A2→A3→A4→A5→p=q:=by intro z1 z2 z3 z4 z5;first|(conv=>lhs;simp only[z1,z2,z3,z4,z5,go_sem,simprocAttr])|rfl):p:=(e a1 a2 a3 a4 a5).mpr h
theorem et5 {A1 A2 A3 A4 A5 p:Prop} (a1:A1) (a2:A2) (a3:A3) (a4:A4) (a5:A5) (e:A1→A2→A3→A4→A5→p=True:=by intro z1 z2 z3 z4 z5;simp only[z1,z2,z3,z4,z5,go_sem,simprocAttr]):p:=of_eq_true (e a1 a2 a3 a4 a5)
theorem eo5 {A1 A2 A3 A4 A5 p q:Prop} (a1:A1) (a2:A2) (a3:A3) (a4:A4) (a5:A5) (h:q) (e:A1→A2→A3→A4→A5→q→p:=by intro z1 z2 z3 z4 z5;apply obE;(first|(conv=>lhs;simp only[z1,z2,z3,z4,z5,go_sem,simprocAttr])|rfl);(repeat(with_reducible apply obI (by first|omega|(simp_all;done)|grind)));exact fun x=>x):p:=e a1 a2 a3 a4 a5 h
theorem ez6 {A1 A2 A3 A4 A5 A6 p q:Prop} (a1:A1) (a2:A2) (a3:A3) (a4:A4) (a5:A5) (a6:A6) (h:q) (e:A1→A2→A3→A4→A5→A6→p=q:=by intro z1 z2 z3 z4 z5 z6;first|(conv=>lhs;simp only[z1,z2,z3,z4,z5,z6,go_sem,simprocAttr])|rfl):p:=(e a1 a2 a3 a4 a5 a6).mpr h
theorem et6 {A1 A2 A3 A4 A5 A6 p:Prop} (a1:A1) (a2:A2) (a3:A3) (a4:A4) (a5:A5) (a6:A6) (e:A1→A2→A3→A4→A5→A6→p=True:=by intro z1 z2 z3 z4 z5 z6;simp only[z1,z2,z3,z4,z5,z6,go_sem,simprocAttr]):p:=of_eq_true (e a1 a2 a3 a4 a5 a6)
theorem eo6 {A1 A2 A3 A4 A5 A6 p q:Prop} (a1:A1) (a2:A2) (a3:A3) (a4:A4) (a5:A5) (a6:A6) (h:q) (e:A1→A2→A3→A4→A5→A6→q→p:=by intro z1 z2 z3 z4 z5 z6;apply obE;(first|(conv=>lhs;simp only[z1,z2,z3,z4,z5,z6,go_sem,simprocAttr])|rfl);(repeat(with_reducible apply obI (by first|omega|(simp_all;done)|grind)));exact fun x=>x):p:=e a1 a2 a3 a4 a5 a6 h
theorem ez7 {A1 A2 A3 A4 A5 A6 A7 p q:Prop} (a1:A1) (a2:A2) (a3:A3) (a4:A4) (a5:A5) (a6:A6) (a7:A7) (h:q) (e:A1→A2→A3→A4→A5→A6→A7→p=q:=by intro z1 z2 z3 z4 z5 z6 z7;first|(conv=>lhs;simp only[z1,z2,z3,z4,z5,z6,z7,go_sem,simprocAttr])|rfl):p:=(e a1 a2 a3 a4 a5 a6 a7).mpr h
theorem et7 {A1 A2 A3 A4 A5 A6 A7 p:Prop} (a1:A1) (a2:A2) (a3:A3) (a4:A4) (a5:A5) (a6:A6) (a7:A7) (e:A1→A2→A3→A4→A5→A6→A7→p=True:=by intro z1 z2 z3 z4 z5 z6 z7;simp only[z1,z2,z3,z4,z5,z6,z7,go_sem,simprocAttr]):p:=of_eq_true (e a1 a2 a3 a4 a5 a6 a7)
theorem eo7 {A1 A2 A3 A4 A5 A6 A7 p q:Prop} (a1:A1) (a2:A2) (a3:A3) (a4:A4) (a5:A5) (a6:A6) (a7:A7) (h:q) (e:A1→A2→A3→A4→A5→A6→A7→q→p:=by intro z1 z2 z3 z4 z5 z6 z7;apply obE;(first|(conv=>lhs;simp only[z1,z2,z3,z4,z5,z6,z7,go_sem,simprocAttr])|rfl);(repeat(with_reducible apply obI (by first|omega|(simp_all;done)|grind)));exact fun x=>x):p:=e a1 a2 a3 a4 a5 a6 a7 h
theorem ez8 {A1 A2 A3 A4 A5 A6 A7 A8 p q:Prop} (a1:A1) (a2:A2) (a3:A3) (a4:A4) (a5:A5) (a6:A6) (a7:A7) (a8:A8) (h:q) (e:A1→A2→A3→A4→A5→A6→A7→A8→p=q:=by intro z1 z2 z3 z4 z5 z6 z7 z8;first|(conv=>lhs;simp only[z1,z2,z3,z4,z5,z6,z7,z8,go_sem,simprocAttr])|rfl):p:=(e a1 a2 a3 a4 a5 a6 a7 a8).mpr h
theorem et8 {A1 A2 A3 A4 A5 A6 A7 A8 p:Prop} (a1:A1) (a2:A2) (a3:A3) (a4:A4) (a5:A5) (a6:A6) (a7:A7) (a8:A8) (e:A1→A2→A3→A4→A5→A6→A7→A8→p=True:=by intro z1 z2 z3 z4 z5 z6 z7 z8;simp only[z1,z2,z3,z4,z5,z6,z7,z8,go_sem,simprocAttr]):p:=of_eq_true (e a1 a2 a3 a4 a5 a6 a7 a8)
section
variable {P:Program} {T:Nat→Prop} {g:Ghost} {w:World} {live live':List Nat}
end
section
variable {P:Program} {ops:List SOper} {k:Nat} {tids:List (List Nat)} {K:List (List Nat)→St→Prop} {fr:Fr} {os:List AObj} {live:List Nat} {nt:Nat} {dst:Option Nat} {back es bytes:Nat} {s x:Opd} {r:Src}
theorem qvb (hr:qar es os (x.get fr)=some r) (hK:ARun P ops (k+1) (tids++ [[]]) K ⟨ym fr dst true (.d (.ref (os.length-back) 0 es r.rows.length)),os.set (os.length-back) (.row (r.rows.flatten.map .d)),live,nt⟩)
  (hf:fits bytes r.rows.length) (hn:os[os.length-back]? =some .none:=by rfl) (h:0<back∧back<=os.length:=by simp) (hok:r.ok:=by trivial) (hv:(s.get fr).void=true:=by rfl) (h1:s.ok fr=true:=by rfl) (h2:x.ok fr=true:=by rfl):
  xmo P ops k tids K dst ⟨fr,os,live,nt⟩ true back es bytes s x:=by
 have e:sem (16*(nt+k)) (.appendO back es bytes s x) ⟨fr,os,live,nt⟩={v:= .d (.ref (os.length-back) 0 es r.rows.length),ob:=s.ok fr=true∧x.ok fr=true∧r.ok∧(s.get fr).void=true∧fits bytes r.rows.length∧0<back∧back<=os.length∧os[os.length-back]? =some .none,rd:=r.rd,wr:=some (os.length-back,.row (r.rows.flatten.map .d))}:=by
  simp only[sem,jt,hr]
 refine⟨rfl,.inl ?_⟩;rw[e];refine⟨⟨h1,h2,hok,hv,hf,h.1,h.2,hn⟩,?_⟩;have hl: ∀(v:ASlot) (ob:Prop) (rd:Option Nat) (wr:Option (Nat×AObj)),qp live {v:=v,ob:=ob,rd:=rd,wr:=wr}=live:=λ_ _ _ _=>xk rfl rfl;simp only[St.next,hl];exact hK
theorem qrw (id n:Nat) (hr:qar es os (x.get fr)=some r)
  (hA:ARun P ops (k+1) (tids++ [[]]) K ⟨ym fr dst true (.d (.ref id 0 es (n+r.rows.length))),os.set id (.row (qae os id es n r)),live,nt⟩)
  (hB:ARun P ops (k+1) (tids++ [[]]) K ⟨ym fr dst true (.d (.ref (os.length-back) 0 es (n+r.rows.length))),os.set (os.length-back) (.row (qae os id es n r)),live,nt⟩)
  (hl:n*es<=(ql os id).length) (hf:(n+r.rows.length)*bytes<=140737488355328) (hi:n+r.rows.length<=9223372036854775807) (hp:0<r.rows.length:=by simp)
  (hs:s.get fr= .d (.ref id 0 es n):=by rfl) (e:qg4 os id=true:=by rfl) (hn:os[os.length-back]? =some .none:=by rfl) (hok:r.ok:=by trivial) (h1:s.ok fr=true:=by rfl) (h2:x.ok fr=true:=by rfl):
  xmo P ops k tids K dst ⟨fr,os,live,nt⟩ true back es bytes s x:=by
 have h: ∀i:Nat,qp live (qrc id i es n os r)=live:=λ_=>xk rfl rfl;refine⟨rfl,.inr ⟨h1,h2,id,n,r,hs,hr,⟨hok,e,hl,hp,hf,hi,hn⟩,?_,?_⟩⟩
 ·simp only[St.next,h];exact hA
 ·simp only[St.next,h];exact hB
end
attribute [go_sem] q1t
def SCode.opens:SCode->Bool
 | .pause _=>true
 | .seq a _=>a.opens
 | .block _ a=>a.opens
 | _=>false
theorem qx0 {P:Program} {k0:Nat}: ∀(c:SCode) {Q:SExit->St->Prop} {st st':St},c.opens=true->Turn k0 st st'->AWp P k0 c Q st'->AWp P k0 c Q st
 | .pause _,_,_,_,_,t,⟨s,h1,h2⟩=>⟨s,t.trans h1,h2⟩
 | .seq a _,_,_,_,h,t,hr=>qx0 a h t hr
 | .block _ a,_,_,_,h,t,hr=>qx0 a h t hr
def xzc (k0:Nat) {α:Type} (S:α->St) (st:St):Prop:= ∃x,Weak k0 st (S x)
theorem xnm {P:Program} {k0:Nat} {c rest:SCode} {Q:SExit->St->Prop} {st:St} {α:Type} (S:α->St) (h1:AWp P k0 c (qil (xzc k0 S) Q) st) (h2: ∀x,AWp P k0 rest Q (S x)) (hp:rest.opens=true:=by rfl):
  AWp P k0 c (qil (AWp P k0 rest Q) Q) st:=
 AWp.mono c (qgl (λ_ ⟨x,hx⟩=>qx0 rest hp (.weak hx (.refl _)) (h2 x)) λ_ _ h=>h) h1
def SCode.regs:SCode->List (List SOper)
 | .region ops _ _=> [ops]
 | .seq a b=>a.regs++b.regs
 | .cond _ a b=>a.regs++b.regs
 | .block _ a=>a.regs
 | .loop a=>a.regs++ [[]]
 | .rangeFunc _ _ a b=>a.regs++b.regs++ [[],[]]
 | .pause a=>a.regs
 | _=> []
def pz (ps:List Nat) (k:Nat) (a:SCode):SCode:=if ps.contains k then .pause a else a
def SCode.skel (R:Nat->List SOper) (ps:List Nat) (rp:Bool):SCode->Nat->SCode
 | .region _ o p,k=>pz ps k (.region (R k) o p)
 | .seq a b,k=> .seq (a.skel R ps rp k) (b.skel R ps rp (k+a.regs.length))
 | .cond c a b,k=> .cond c (a.skel R ps rp k) (b.skel R ps rp (k+a.regs.length))
 | .block i a,k=> .block i (a.skel R ps rp k)
 | .loop a,k=>pz ps (k+a.regs.length) (.loop (a.skel R ps rp k))
 | .rangeFunc f q a b,k=>pz ps (k+(a.regs++b.regs).length) (.rangeFunc f q (a.skel R ps rp k) (b.skel R ps rp (k+a.regs.length)))
 | .ret,_=>if rp then .pause .ret else .ret
 | .pause a,k=>a.skel R ps rp k
 | .skip,_=> .skip
 | .exit i,_=> .exit i
def xtr (d:List Nat) (n:Nat):List Edge->Nat
 | []=>0
 |e::l=>if Region.binds .any e then(1<<<e.on|||d.getD (n-1-e.on) 0)|||xtr d n l else xtr d n l
def qMem (sops:List SOper):List Oper->List Nat->Nat->List (Nat×Bool×Bool×Nat)
 |o::l,acc,n=>match sops with
  |s::t=>let m:=xtr acc n o.after.toList
   if s.op.memR||s.op.memW then(n,s.op.memR,s.op.memW,m)::qMem t l (m::acc) (n+1)else qMem t l (m::acc) (n+1)
  | []=> []
 | [],_,_=> []
def qRow (j:Nat×Bool×Bool×Nat):List (Nat×Bool×Bool×Nat) ->List (Nat×Nat)
 | []=> []
 |i::l=>if(((i.2.2.1&&(j.2.1||j.2.2.1))||(i.2.1&&j.2.2.1))&&(j.2.2.2>>>i.1)%2==0)=true then(i.1,j.1)::qRow j l else qRow j l
def xru (pre:List (Nat×Bool×Bool×Nat)):List (Nat×Bool×Bool×Nat) ->List (Nat×Nat)
 | []=> []
 |j::l=>qRow j pre++xru (pre++ [j]) l
section
variable (P:Program) (mu:List Nat) (N:Nat) (news:List (FuncId×Nat))
def qOps (ops:Array Oper):List Oper->Option (List SOper×Nat)
 | []=>some ([],0)
 |o::l=>match qOps ops l with
  |some (r,n)=>match qei P mu ops N (if Op.allocs o.op then n+1 else n) o with
   |some x=>some (x::r,if Op.allocs o.op then n+1 else n)
   |none=>none
  |none=>none
def xts (ops:Array Oper) (d:Bool):SCode:=match qOps P mu N ops ops.toList with
 |some (sops,n)=> .region sops (q0o news sops+n) (if d&&sops.any (·.op.memW)then xru [] (qMem sops ops.toList [] 0)else [])
 |none=> .skip
def qx1:Code->SCode
 | .region _ ops draw=>xts P mu N news ops draw
 | .seq a b=> .seq (qx1 a) (qx1 b)
 | .cond c a b=> .cond ((qr c).getD (.t 0)) (qx1 a) (qx1 b)
 | .block id a=> .block id (qx1 a)
 | .loop a=> .loop (qx1 a)
 | .exit id=> .exit id
 | .ret=> .ret
 | .rangeFunc f ps a b=> .rangeFunc ((qr f).getD (.t 0)) ps.toList (qx1 a) (qx1 b)
 | _=> .skip
end
def qCut (R:Nat->List SOper) (ps:List Nat) (rp:Bool) (c:SCode):List (List SOper)×SCode:=(c.regs,c.skel R ps rp 0)
structure CutIs (P:Program) (fn:Func) (mu:List Nat) (news:List (FuncId×Nat)) (ps:List Nat) (rp:Bool) where
 L:List (List SOper)
 S:(Nat->List SOper) ->SCode
 h:fn.body.bind (zy P mu fn.ntmps news)=some (S λk=>L.getD k []).erase
section
variable {P:Program} {fn:Func} {mu:List Nat} {news:List (FuncId×Nat)} {ps:List Nat} {rp:Bool}
def CutIs.reg (d:CutIs P fn mu news ps rp) (k:Nat):List SOper:=d.L.getD k []
def CutIs.top (d:CutIs P fn mu news ps rp):SCode:=d.S d.reg
theorem CutIs.code (d:CutIs P fn mu news ps rp):fn.body.bind (zy P mu fn.ntmps news)=some d.top.erase:=d.h
def qx2 (d:CutIs P fn mu news ps rp):Nat->List (List SOper) ->Prop
 | _,[]=>True
 |k,r::l=>(∀{o:Nat} {p:List (Nat×Nat)} {Q:SExit->St->Prop} {st:St},xm6 P (d.reg k) o p Q st=xm7 P r o p Q st)∧qx2 d (k+1) l
def xgv (d:CutIs P fn mu news ps rp) (L:List (List SOper)) (t:SCode):Prop:=(∀{k0:Nat} {Q:SExit->St->Prop} {st:St},AWp P k0 d.top Q st=AWp P k0 t Q st)∧qx2 d 0 L
theorem xgw (d:CutIs P fn mu news ps rp): ∀(l:List (List SOper)) (k:Nat),(∀i r,l[i]? =some r->d.L[k+i]? =some r) ->qx2 d k l
 | [],_,_=>trivial
 |r::l,k,h=>by
  refine⟨λ{o p Q st}=> ?_,xgw d l (k+1) λi x hx=> ?_⟩
  ·have:=h 0 r rfl;rw[Nat.add_zero]at this;rw[CutIs.reg,jA1,this];rfl
  ·have:=h (i+1) x hx;rwa [show k+(i+1)=k+1+i by omega]at this
def cut (P:Program) (fn:Func) (news:List (FuncId×Nat)) (mu:List Nat:= []) (ps:List Nat:= []) (rp:Bool:=false) {L:List (List SOper)} {S:(Nat->List SOper) ->SCode}
  (_: ∀R,(fn.body.map λc=>qCut R ps rp (qx1 P mu fn.ntmps news c))=some (L,S R):=by intro R;conv=>lhs;cbv) (h:fn.body.bind (zy P mu fn.ntmps news)=some (S λk=>L.getD k []).erase:=by kernel_rfl):CutIs P fn mu news ps rp:=⟨L,S,h⟩
theorem qj (d:CutIs P fn mu news ps rp) {L:List (List SOper)} {S:(Nat->List SOper) ->SCode} {q:Prop} (hL:d.L=L:=by conv=>lhs;cbv) (hS: ∀R,d.S R=S R:=by intro R;conv=>lhs;cbv)
  (e:xgv d L (S d.reg)=q:=by conv=>lhs;simp only[xgv,qx2,Nat.reduceAdd,Nat.zero_add]):q:=by
 rw[<- e];refine⟨λ{k0 Q st}=>by rw[CutIs.top,hS],xgw d L 0 λi r hi=> ?_⟩;rw[Nat.zero_add,hL];exact hi
theorem fnC (d:CutIs P fn mu news ps rp) {f:FuncId} {rvs:List RVar} {N:Nat} (h0:P.follows .mixedOrders=true) (h1:P.funcs[f]? =some fn)
  (h3:fn.results.toList.mapM (qha P)=some rvs:=by conv=>lhs;cbv) (h4:fn.ntmps=N:=by conv=>lhs;cbv)
  (h5:(P.funcs[f]?).any (λfn=>fn.body.isSome&& !(fn.name== "runtime.NumGoroutine"))=true:=by kernel_rfl):FnIs P f fn mu news d.top rvs N:=⟨h0,h1,d.code,h3,h4,h5⟩
end
section
variable {P:Program} {g:Ghost} {w:World}
theorem qx3 {f:FuncId} {fn:Func} {c:Code} {args rs:List ASlot} {objs objs':List AObj} {rv:List ResultVar} {rvs:List RVar}
  (hf:P.funcs[f]? =some fn) (hb:fn.body=some c) (hr:fn.results=rv.toArray) (ae:rv.mapM (qha P)=some rvs)
  (hN:args.length<=fn.ntmps) (hl:rvs.length=rs.length) (hw: ∀t∈vy args++xi objs,t<16)
  (h: ∀(g:Ghost) (w:World) (vs:List Value),vs.length=args.length->Dom g w->SR fn.ntmps (below 1) g w (qim args objs) {tmps:=vs.toArray++Array.replicate (fn.ntmps-vs.toArray.size) undef,defers:= []} ->(∀b id,g b= .obj id->id<objs.length) ->
   c.wpIn (Fw none) 0 P (λe a' w'=> ∃e' st' g',e=SExit.real e'∧q56 objs.length rvs rs objs' e' st'∧SR fn.ntmps (below st'.nt) g' w' st' a'∧G g w g' w'∧Marks g w g' w' a'.defers) {tmps:=vs.toArray++Array.replicate (fn.ntmps-vs.toArray.size) undef,defers:= []} w):qf P f args objs (qrk rs) objs':=by
 intro g w vs hd U hv ho;have hs:=q9g (N:=fn.ntmps) hd U hN hv ho hw;have h0: ∀b id,g b= .obj id->id<objs.length:=λb id hb=>by
  obtain⟨o,ah,_⟩:=ho.ids b id hb;exact(jAd.1 ah).1
 obtain⟨q,ac⟩:=kr ae;refine(callsIn_wide (n:=0)).1 (callsIn_of_wp_marks (F:=Fence.wide) hf hb trivial (wpIn_mono (h g w vs U hd hs h0) ?_));rintro _ a' w' ⟨e,st',g',rfl,hq,d,B,aa⟩;have ab:xfv objs.length rvs rs objs' st'-> ∀w',SR fn.ntmps (below st'.nt) g' w' st' a'->G g w g' w'-> ∃v,(results fn a'.tmps).run P w'= .ok v w'∧
   ∃v' g'' live',Ending.returned v= .returned v'∧G g w g'' w'∧Dom g'' w'∧(∀t∈(qrk rs).toks++xi objs',t∈live')∧RS g'' w' live' v' (qrk rs)∧ObjsOk g'' w' live' objs':=by
  rintro⟨O,R⟩ w' d B;have A: ∀(i:Nat),i<rv.length-> ∃v,∀(x:ResultVar) (y:RVar),rv[i]? =some x->rvs[i]? =some y->(qkh a'.tmps x).run P w'= .ok v w'∧RS g' w' st'.live v (y.slot st')∧ ∀t∈(y.slot st').toks,below st'.nt t:=by
   intro i hi;have h1:rv[i]? =some rv[i]:=jAa hi;have h2:rvs[i]? =some (rvs[i]'(by omega)):=jAa (by omega);obtain⟨v,q1,q2,q3⟩:=qu4 d (ac i _ _ h1 h2) (O _ (jAe h2));refine⟨v,λx y m p=> ?_⟩;rw[h1]at m;cases m;rw[h2]at p;cases p;exact⟨q1,q2,q3⟩
  let us:List Value:=(List.range rv.length).map λi=>if hi:i<rv.length then Classical.choose (A i hi)else undef
  have z:us.length=rv.length:=by simp[us]
  have I: ∀(i:Nat) (x:ResultVar) (y:RVar) (u:Value),rv[i]? =some x->rvs[i]? =some y->us[i]? =some u->(qkh a'.tmps x).run P w'= .ok u w'∧RS g' w' st'.live u (y.slot st')∧ ∀t∈(y.slot st').toks,below st'.nt t:=by
   intro i x y u m p J;have hi:i<rv.length:=(jAd.1 m).1;have:u=Classical.choose (A i hi):=by
    simp only[us,jAn,jC4 hi,Option.map_some,jA8,dif_pos hi]at J;exact J.symm
   rw[this];exact Classical.choose_spec (A i hi) x y m p
  have X:(results fn a'.tmps).run P w'= .ok (resV us) w':=qrl hr z (λi x v m ad=>by
   have hi:i<rvs.length:=by rw[<- q];exact(jAd.1 m).1
   exact(I i x rvs[i] v m (jAa hi) ad).1)
  have E:SR us.length (below st'.nt) g' w' {st' with fr:=qat (rvs.map (RVar.slot st')) 0} {tmps:=us.toArray,defers:= []}:=by
   have C: ∀(k:Nat) (v:Bool) (s:ASlot),(qat (rvs.map (RVar.slot st')) 0).get k=some (v,s) ->v=true∧ ∃x y u,rv[k]? =some x∧rvs[k]? =some y∧us[k]? =some u∧s=y.slot st':=by
    intro k v s hk;obtain⟨rfl,i,Z,hs⟩:=qhb _ 0 k v s hk;rw[Nat.zero_add]at Z;subst Z;simp only[jAn,jAb]at hs;obtain⟨y,p,rfl⟩:=hs;have hi:k<rv.length:=by rw[q];exact(jAd.1 p).1
    exact⟨rfl,rv[k],y,us[k]'(by rw[z];exact hi),jAa hi,p,jAa _,rfl⟩
   refine⟨d.dom,trivial,by simp,λk v s hk=> ?_,d.objs,d.inj,d.ids,⟨d.wf.live,λk s hk t ht=> ?_,d.wf.os⟩⟩
   ·obtain⟨rfl,x,y,u,m,p,J,rfl⟩:=C k v s hk;refine⟨λ_=> ?_,λh=>by cases h⟩;have M:us.toArray.getD k undef=u:=by
     simp[jBg,J]
    show RS g' w' st'.live (us.toArray.getD k undef) _;rw[M];exact(I k x y u m p J).2.1
   ·obtain⟨_,x,y,u,m,p,J,rfl⟩:=C k true s hk;exact(I k x y u m p J).2.2 t ht
  obtain⟨g'',hs'',hG'',_⟩:=R.sr E B h0;have Y: ∀r∈rs,∀l,r≠ .tup l:=by
   intro r af l ag;subst ag;obtain⟨i,hi⟩:=jBh af;obtain⟨s,_,q2,_⟩:=qxi R.fr _ _ _ (qgm rs 0 i _ hi);exact q1j (q2 rfl)
  refine⟨_,X,_,g'',vy rs++xi objs',rfl,hG'',hs''.dom,λt ht=>(jAs.1 ht).elim (λh=>jBa _ (qu3 Y t h)) (λh=>jBc _ h),xfw (by rw[z,q,hl]) (λi v r h1 h2=> ?_) Y,⟨hs''.objs,hs''.inj,hs''.ids⟩⟩;have h3:=(hs''.slots (0+i) true r (qgm rs 0 i r h2)).1 rfl;rw[Nat.zero_add]at h3;have M:us.toArray.getD i undef=v:=by simp[jBg,h1]
  have h4:RS g'' w' (vy rs++xi objs') (us.toArray.getD i undef) r:=h3;rw[M]at h4;exact h4
 cases e with
 |normal=>exact qdq a'.defers w' d B aa (ab hq)
 |ret=>exact qdq a'.defers w' d B aa (ab hq)
 |exit id=>exact hq.elim
end
variable {P:Program}
theorem q6v {g:Ghost} {w:World} {live:List Nat} {t:Nat} {v:Value} {s:ASlot} (h:RC g w live v s) (i:t∉s.toks):RC g w (t::live) v s:=by
 cases s with
 |own t' es rows=>exact⟨h.1,λd=>h.2 (by rcases jAv.1 d with e|d;(subst e;simp[ASlot.toks]at i);exact d)⟩
 |uni t' es rows=>exact⟨h.1,λd=>h.2 (by rcases jAv.1 d with e|d;(subst e;simp[ASlot.toks]at i);exact d)⟩
 | _=>exact h
theorem xcp {g:Ghost} {w:World} {live:List Nat} {t es:Nat} {v:Value} (h:RC g w live v (.d .nilsl)):RC g w live v (.own t es []):=by
 have h:RV g w v .nilsl:=h;cases h;exact⟨.nilsl none 0 es (λ_=>rfl),λ_=> .inl ⟨none,rfl⟩⟩
theorem qx4 {f:FuncId} {args:List ASlot} {objs:List AObj} {r:ASlot} {cs:List ASlot} {os:List AObj} (j t es:Nat) (h:qf P f args objs r (.row cs::os)) (Z:cs[j]? =some (.d .nilsl))
  (hr:t∉r.toks) (ho:t∉xi (.row cs::os)) (X: ∀o∈os,∀a b c d,o≠ .iter a b c d) (C: ∀l,r≠ .tup l):qf P f args objs r (.row (cs.set j (.own t es []))::os):=by
 intro g w vs hd hl hv U;refine Calls.mono (h g w vs hd hl hv U) ?_;rintro e w' ⟨v,g',live',h1,h2,h3,h4,h5,J⟩;have R:=qax h5 C;have m: ∀(id:Nat) (o:AObj),(AObj.row cs::os)[id]? =some o-> ∀s∈o.cells,t∉s.toks:=λid o hi s hs hm=>ho (qgi hi s hs t hm);refine⟨v,g',t::live',h1,h2,h3,λu p=> ?_,?_,⟨λid o hi hn=> ?_,J.inj,λb id G=> ?_⟩⟩
 ·simp only[jAs,xi,AObj.cells,jBi]at p;by_cases e:u=t
  ·subst e;exact jA7
  ·refine jA9 _ (h4 u ?_);simp only[jAs,xi,AObj.cells,jBi];rcases p with p|⟨s,hs,p⟩|p
   ·exact .inl p
   ·rcases jD6 hs with hs|rfl
    ·exact .inr (.inl ⟨s,hs,p⟩)
    ·simp[ASlot.toks]at p;exact absurd p e
   ·exact .inr (.inr p)
 ·have:=q6v (t:=t) R hr;cases r with
  |tup l=>exact absurd rfl (C l)
  | _=>exact this
 ·cases id with
  |zero=>
   simp at hi;subst hi;have h0:=J.objs 0 (.row cs) rfl (by simp);rcases h0 with⟨b,G,q⟩|⟨h0,_⟩
   ·refine .inl ⟨b,G,?_⟩;obtain⟨c,e,O,M,I⟩:=q;refine⟨c,e,O,by rw[jCh];exact M,λi s hs=> ?_⟩;by_cases E:j=i
    ·subst E;have Y:j<cs.length:=(jAd.1 Z).1;rw[jBv Y]at hs;cases hs;obtain⟨u,B,A,z⟩:=I j _ Z;exact⟨u,B,A,xcp z⟩
    ·rw[jBj E]at hs;obtain⟨u,B,A,z⟩:=I i s hs;exact⟨u,B,A,q6v z (m 0 (.row cs) rfl s (jAe hs))⟩
   ·cases h0;simp at Z
  |succ id=>
   have F:(AObj.row cs::os)[id+1]? =some o:=by simpa using hi
   rcases J.objs (id+1) o F hn with⟨b,G,q⟩|hx
   ·refine .inl ⟨b,G,?_⟩;cases o with
    |none=>exact absurd rfl hn
    |row cs'=>
     obtain⟨c,e,O,M,I⟩:=q;refine⟨c,e,O,M,λi s hs=> ?_⟩;obtain⟨u,B,A,z⟩:=I i s hs;exact⟨u,B,A,q6v z (m (id+1) (.row cs') F s (jAe hs))⟩
    |map es clock=>exact q
    |iter a b c d=>exact absurd rfl (X _ (jAe (by simpa using hi)) a b c d)
   ·exact .inr hx
 ·obtain⟨o,h1,h2⟩:=J.ids b id G;cases id with
  |zero=>exact⟨_,rfl,by simp⟩
  |succ id=>exact⟨o,by simpa using h1,h2⟩
end Go.Abs
