/- Texts Bc, Bd, Qb, Be, Bf, Bg, Bh, Kr, Lq. -/
import Derived.Test.YtkcdbcbpbolgkaaGreatDoorMrk
import Derived.Carry
set_option linter.unusedSimpArgs false
set_option linter.unusedVariables false
set_option linter.defProp false
set_option maxRecDepth 100000
noncomputable section
namespace Go.Abs
open Go.ChangeShapes Go.RowKit
def argS (P:Program) (t:TypeId) (e:List D):ASlot:=
 match P.underlying t with
 |some (.struct _)=> .d (.agg e)
 |some (.array _ _)=> .d (.agg e)
 | _=> .d (e.headD default)
def xjc (P:Program) (n:Nat) (K:List ASlot->Prop):List TypeId->List ASlot->Prop
 | [],acc=>K acc
 |t::ts,acc=> ∀d,Shp P n t d->xjc P n K ts (acc++ [argS P t d])
section
variable {H:Type} {enc:TypeId×Value→H} {P:Program} {W W':World}
theorem xos {n:Nat} {t:TypeId} {o:List D} (h:Shp P n t o) (h1: ∀l,P.underlying t≠some (.struct l)) (h2: ∀m e,P.underlying t≠some (.array m e)): ∃d,o= [d]:=by
 cases n with
 |zero=>exact h.elim
 |succ n=>
  unfold Shp at h;split at h
  ·obtain⟨b,rfl⟩:=h;exact⟨_,rfl⟩
  ·obtain⟨b,rfl,_⟩:=h;exact⟨_,rfl⟩
  ·obtain⟨b,rfl,_⟩:=h;exact⟨_,rfl⟩
  ·obtain⟨b,rfl,_⟩:=h;exact⟨_,rfl⟩
  ·rename_i l i;exact(h1 l i).elim
  ·rename_i m e i;exact(h2 m e i).elim
  ·exact h.elim
theorem xro {n base:Nat} {t:TypeId} {v:Value} {d:DataW H} {ps:List MemPlace} (hp:qku P n t=true) (h:DataW.Trod enc P W 0 (λ_=>true) true t v d ps) (l:Value.okWide P W .any base t v):
  ∃z,Shp P n t z∧RC (outG W) W [] v (argS P t z):=by
 obtain⟨u,h⟩:=h;obtain⟨z,p,hs⟩:=qwg n u t _ _ hp h;refine⟨z,hs,?_⟩;unfold argS;have agg:(∃cs,v= .agg cs) ->RC (outG W) W [] v (.d (.agg z)):=by
  rintro⟨cs,rfl⟩;have:=p.agg;simpa[Value.cells,RC]using this
 unfold Value.okWide at l;split
 ·rename_i G o;rw[o]at l;obtain⟨cs,q,_⟩:=l;exact agg ⟨cs,q⟩
 ·rename_i m e o;rw[o]at l;obtain⟨cs,q,_⟩:=l;exact agg ⟨cs,q⟩
 ·rename_i F E;obtain⟨d,rfl⟩:=xos hs F E;have hl:=p.1;cases v with
  |agg cs=>
   exfalso;have i:Cell.okWide P W .any base t (.agg cs):=by
    split at l
    ·rename_i G o;exact(F G o).elim
    ·rename_i m e o;exact(E m e o).elim
    ·exact l
   unfold Cell.okWide at i;split at i<;>first|(rename_i C;cases C;done)|skip
   all_goals first|(rename_i C _;cases C;done)|(simp[Cell.ok]at i;done)|skip
  | _=>exact p.2.2 0 _ d rfl rfl
theorem qwh {ts:List TypeId} (hl:laidOutB P=true) (i:(ts.all λt=>P.readableRec t&&decide (t<P.types.size))=true) (hb:Below W.heap.size W W'): ∀{vs:List Value} {l:List (DataW H)} {ps:List MemPlace},
  DataW.TrodAll enc P W 0 (λ_=>true) true ts vs l ps->(∀x∈ps,x.block<W.heap.size) ->DataW.TrodAll enc P W' 0 (λb=>decide (b<W.heap.size)) true ts vs l ps:=by
 induction ts with
 |nil=>
  intro vs l ps h _;obtain⟨rfl,rfl,rfl⟩:=trodAll_nil h;exact trodAll_mk0
 |cons t ts ih=>
  intro vs l ps h e;simp only[jCy,jAf,decide_eq_true_eq]at i;obtain⟨v,vs',d,ds',p,q,rfl,rfl,rfl,h1,h2⟩:=trodAll_cons h;exact⟨p,q,Below.trod hl i.1.1 i.1.2 h1 hb (λx m=>e x (jBb _ m)),ih (by simpa using i.2) h2 (λx m=>e x (jBe _ m)),rfl⟩
theorem q6t {n base:Nat} {K:List ASlot->Prop}: ∀{ts:List TypeId} {vs:List Value} {F:List (DataW H)} {ps:List MemPlace} {m:List ASlot} {us:List Value},(ts.all (qku P n))=true->xjc P n K ts m->
  DataW.TrodAll enc P W 0 (λ_=>true) true ts vs F ps->(∀(j:Nat) (t:TypeId) (v:Value),ts[j]? =some t->vs[j]? =some v->Value.okWide P W .any base t v) ->
  us.length=m.length->(∀(i:Nat) (v:Value) (s:ASlot),us[i]? =some v->m[i]? =some s->RC (outG W) W [] v s) ->(∀s∈m,s.toks= []) ->
  ∃e,K e∧(us++vs).length=e.length∧(∀(i:Nat) (v:Value) (s:ASlot),(us++vs)[i]? =some v->e[i]? =some s->RC (outG W) W [] v s)∧ ∀s∈e,s.toks= []
 | [],vs,F,ps,m,us,_,hk,h,_,hl,hr,z=>by
  obtain⟨rfl,rfl,rfl⟩:=trodAll_nil h;rw[jAu];exact⟨m,hk,hl,hr,z⟩
 |t::ts,vs,F,ps,m,us,hp,hk,h,hv,hl,hr,z=>by
  simp only[jCy,jAf]at hp;obtain⟨v,vs',d,ds',p,q,rfl,rfl,rfl,h1,h2⟩:=trodAll_cons h;obtain⟨dl,hs,E⟩:=xro hp.1 h1 (hv 0 t v rfl rfl);have:=q6t (us:=us++ [v]) hp.2 (hk dl hs) h2 (λj t' v' z C=>hv (j+1) t' v' (by simpa using z) (by simpa using C)) (by simp[hl]) (λi u s o l=>by
   by_cases hi:i<us.length
   ·rw[jA3 hi]at o;rw[jA3 (by omega)]at l;exact hr i u s o l
   ·rw[jBc (by omega)]at o;rw[jBc (by omega)]at l;rw[hl]at o;cases hj:i-m.length with
    |zero=>rw[hj]at o l;simp at o l;subst o l;exact E
    |succ j=>rw[hj]at o;simp at o) (λs l=>by
   rcases jAt.1 l with h|h
   ·exact z s h
   ·simp at h;subst h;unfold argS;split<;>rfl)
  rw[jAj]at this;exact this
theorem xc9 {Z:FuncId} {f:Func} {s:ChangeSpec} {apart J E:Bool} {n base:Nat} {tb:TypeId} {args:Array Value} {l gs:List (DataW H)} {F:List MemPlace}
  (hl:laidOutB P=true) (hts:(f.params.toList.all λt=>P.readableRec t&&decide (t<P.types.size))=true) (hp:(f.params.toList.all (qku P n))=true)
  (U:f.resultTypes= #[tb]) (htb:P.underlying tb=some .bool) (u:s.vars= [])
  (G: ∀l:List (DataW H),l.length=f.params.toList.length->s.fn H l={results:= [.lit (.bool true)],args:=l})
  (hc:xjc P n (λi=>qh P Z i [] (.d (.bool true)) []) f.params.toList [])
  (hW:DataW.Whole enc P f.params.toList s.vars apart W args.toList l gs F)
  (R: ∀(j:Nat) (t:TypeId) (v:Value),f.params[j]? =some t->args[j]? =some v->Value.okWide P W .any base t v) (hgl:q6r W:=by exact q9q):
  Calls P Z args W λe W'=> ∃v,e= .returned v∧s.post enc P f apart J E false W args v W':=by
 have Y:=hW;obtain⟨p,q,hA,hV,rfl,_,_⟩:=hW;rw[u]at hV;obtain⟨rfl,rfl⟩:=trodVars_none hV;obtain⟨i,hk,q1,q2,q3⟩:=q6t (us:= []) hp hc hA (λj t v ht hv=>R j t v (by simpa using ht) (by simpa using hv)) rfl (by simp) (by simp);have htk:ve i= []:=by
  unfold ve;rw[jCn];exact q3
 have z: ∀b id,outG W b≠ .obj id:=by
  intro b id h;unfold outG at h;split at h<;>cases h
 have I:=hk (outG W) W args.toList (xi9 W hgl) (by simpa using q1) (by rw[htk];simpa[xf]using q2) ⟨λid o h=>by simp at h,λb b' id h=>(z b id h).elim,λb id h=>(z b id h).elim⟩;refine I.mono ?_;rintro e W' ⟨v,g',live',rfl,O,hdom,_,hrs,_⟩;have hv:v= .bool true:=y8 (wg hrs);subst hv;have X:Below W.heap.size W W':=by
  refine⟨O.os,O.tape,O.output,O.size,λb X=> ?_⟩;cases hg:outG W b with
  |out=>exact(O.out b X hg).1
  |row m o=>
   cases o with
   |none=>exact(O.rowN b m X hg).1
   |some t=>
    unfold outG at hg;split at hg<;>cases hg
  |uni t=>
   unfold outG at hg;split at hg<;>cases hg
  |obj id=>exact(z b id hg).elim
 have C:l.length=f.params.toList.length:=by
  have: ∀{ts:List TypeId} {vs:List Value} {l:List (DataW H)} {ps:List MemPlace},DataW.TrodAll enc P W 0 (λ_=>true) true ts vs l ps->l.length=ts.length:=by
   intro ts;induction ts with
   |nil=>intro vs l ps h;obtain⟨_,rfl,_⟩:=trodAll_nil h;rfl
   |cons t ts ih=>intro vs l ps h;obtain⟨v,vs',d,ds',p,q,rfl,rfl,rfl,_,h2⟩:=trodAll_cons h;simp[ih h2]
  exact this hA
 have hlt: ∀x∈p++ [],x.block<W.heap.size:=λx M=>Y.lt x M;refine⟨_,rfl,l,[],p++ [],[],p,[],Y,?_,?_,?_,?_,λh=>by cases h⟩
 ·rw[jAu,G l C,U];exact trodAll_mk1 (shut_bool htb true)
 ·rw[jAu,G l C];exact qwh hl hts X hA (λx M=>hlt x (by simpa using M))
 ·rw[jAu,G l C,u];exact rfl
 ·refine World.keptBut_mono (λx M=>⟨M,.inr (.inl ?_)⟩) (X.frame (· ∈p++ []));simpa using M
end
end Go.Abs
namespace Go.Abs
structure FnIs (P:Program) (f:FuncId) (fn:Func) (mu:List Nat) (news:List (FuncId×Nat)) (sc:SCode) (rvs:List RVar) (N:Nat):Prop where
 fol:P.follows .mixedOrders=true
 isf:P.funcs[f]? =some fn
 code:fn.body.bind (zn P mu fn.ntmps news)=some sc.erase
 res:fn.results.toList.mapM (qge P)=some rvs
 num:fn.ntmps=N
 body:(P.funcs[f]?).any (λfn=>fn.body.isSome&& !(fn.name== "runtime.NumGoroutine"))=true
section
variable {P:Program} {f:FuncId} {fn:Func} {mu:List Nat} {news:List (FuncId×Nat)} {sc:SCode} {rvs:List RVar} {N:Nat} {args rs:List ASlot} {r:ASlot} {objs objs':List AObj}
theorem FnIs.go (F:FnIs P f fn mu news sc rvs N) (h:AWp P objs.length sc (q3n objs.length rvs [r] objs') (qhl args objs)) (hN:args.length<=N:=by simp) (hl:rvs.length=1:=by rfl) (hw:ltB 16 (ve args++xf objs)=true:=by first|rfl|simp only[go_sem]):
  qh P f args objs r objs':=
 q6q (rs:= [r]) F.fol F.isf F.code F.res h (by rw[F.num];exact hN) (by rw[hl];rfl) hw
theorem FnIs.goT (F:FnIs P f fn mu news sc rvs N) (h:AWp P objs.length sc (q3n objs.length rvs rs objs') (qhl args objs)) (hN:args.length<=N:=by simp) (hl:rvs.length=rs.length:=by rfl) (hn:rs.length≠1:=by simp) (hw:ltB 16 (ve args++xf objs)=true:=by first|rfl|simp only[go_sem]):
  qh P f args objs (.tup rs) objs':=by
 rw[<- xc2 hn];exact q6q F.fol F.isf F.code F.res h (by rw[F.num];exact hN) hl hw
end
theorem ev {p q:Prop} (h:q) (e:p=q:=by conv=>lhs;simp only[go_sem,simprocAttr]):p:=e▸h
theorem evT {p:Prop} (e:p=True:=by simp only[go_sem,simprocAttr]):p:=of_eq_true e
theorem ev1 {A1 p q:Prop} (a1:A1) (h:q) (e:A1->p=q:=by intro z1;conv=>lhs;simp only[z1,go_sem,simprocAttr]):p:=(e a1).mpr h
theorem ev2 {A1 A2 p q:Prop} (a1:A1) (a2:A2) (h:q) (e:A1->A2->p=q:=by intro z1 z2;conv=>lhs;simp only[z1,z2,go_sem,simprocAttr]):p:=(e a1 a2).mpr h
theorem ev3 {A1 A2 A3 p q:Prop} (a1:A1) (a2:A2) (a3:A3) (h:q) (e:A1->A2->A3->p=q:=by intro z1 z2 z3;conv=>lhs;simp only[z1,z2,z3,go_sem,simprocAttr]):p:=(e a1 a2 a3).mpr h
theorem ev4 {A1 A2 A3 A4 p q:Prop} (a1:A1) (a2:A2) (a3:A3) (a4:A4) (h:q) (e:A1->A2->A3->A4->p=q:=by intro z1 z2 z3 z4;conv=>lhs;simp only[z1,z2,z3,z4,go_sem,simprocAttr]):p:=(e a1 a2 a3 a4).mpr h
theorem ev5 {A1 A2 A3 A4 A5 p q:Prop} (a1:A1) (a2:A2) (a3:A3) (a4:A4) (a5:A5) (h:q) (e:A1->A2->A3->A4->A5->p=q:=by intro z1 z2 z3 z4 z5;conv=>lhs;simp only[z1,z2,z3,z4,z5,go_sem,simprocAttr]):p:=(e a1 a2 a3 a4 a5).mpr h
theorem ev6 {A1 A2 A3 A4 A5 A6 p q:Prop} (a1:A1) (a2:A2) (a3:A3) (a4:A4) (a5:A5) (a6:A6) (h:q) (e:A1->A2->A3->A4->A5->A6->p=q:=by intro z1 z2 z3 z4 z5 z6;conv=>lhs;simp only[z1,z2,z3,z4,z5,z6,go_sem,simprocAttr]):p:=(e a1 a2 a3 a4 a5 a6).mpr h
theorem ev8 {A1 A2 A3 A4 A5 A6 A7 A8 p q:Prop} (a1:A1) (a2:A2) (a3:A3) (a4:A4) (a5:A5) (a6:A6) (a7:A7) (a8:A8) (h:q) (e:A1->A2->A3->A4->A5->A6->A7->A8->p=q:=by intro z1 z2 z3 z4 z5 z6 z7 z8;conv=>lhs;simp only[z1,z2,z3,z4,z5,z6,z7,z8,go_sem,simprocAttr]):p:=(e a1 a2 a3 a4 a5 a6 a7 a8).mpr h
theorem ob {p q:Prop} (k:q) (h:p:=by first|omega|(simp_all;done)|grind):p∧q:=⟨h,k⟩
section
variable {P:Program} {f:FuncId} {fn:Func} {mu:List Nat} {news:List (FuncId×Nat)} {sc:SCode} {rvs:List RVar} {N:Nat}
variable {ops:List SOper} {k:Nat} {tids:List (List Nat)} {K:List (List Nat)→St→Prop} {fr:Fr} {os:List AObj} {live:List Nat} {nt:Nat} {dst:Option Nat} {g ok:Bool} {fa as:List ASlot} {r:ASlot} {fo fo':List AObj}
theorem cl (F:FnIs P f fn mu news sc rvs N) (hc:qh P f fa [] r []) (hK:ARun P ops (k+1) (tids++ [[]]) K ⟨ww fr dst g r,os,live,nt⟩)
  (ho:g=true->ok=true:=by first|exact λh=>h|exact λ_=>rfl|(intro h;simp only[h,jBu,jEe]))
  (hfit:g=true->yr as fa:=by intro _;first|exact trivial|exact⟨qd,trivial⟩|exact⟨qd,qd,trivial⟩|exact⟨qd,qd,qd,trivial⟩|exact⟨qd,qd,qd,qd,trivial⟩|exact evT)
  (d:fa.all ASlot.noPtr=true:=by first|rfl|exact evT) (hh:x8 as fa= []:=by rfl) (hr:r.toks= []:=by rfl):
  ql5 P ops k tids K dst ⟨fr,os,live,nt⟩ g (some (f,as)) ok:=xz hc F.body ho hfit d hh hr hK
theorem clF (F:FnIs P f fn mu news sc rvs N) (hc:qh P f fa [] r []) (hfit:g=true->yr as fa) (hK:ARun P ops (k+1) (tids++ [[]]) K ⟨ww fr dst g r,os,live,nt⟩)
  (ho:g=true->ok=true:=by first|exact λh=>h|exact λ_=>rfl|(intro h;simp only[h,jBu,jEe]))
  (d:fa.all ASlot.noPtr=true:=by first|rfl|exact evT) (hh:x8 as fa= []:=by rfl) (hr:r.toks= []:=by rfl):
  ql5 P ops k tids K dst ⟨fr,os,live,nt⟩ g (some (f,as)) ok:=xz hc F.body ho hfit d hh hr hK
theorem xda (hK:ARun P ops (k+1) (tids++ [[]]) K ⟨ww fr dst g (.d (.bool false)),os,live,nt⟩) {c:Option (FuncId×List ASlot)} (hg:g=false:=by rfl):ql5 P ops k tids K dst ⟨fr,os,live,nt⟩ g c ok:=
 qei (.bool false) hg hK
theorem clO (ι:List Nat) (F:FnIs P f fn mu news sc rvs N) (hc:qh P f fa fo r fo') (hK:ARun P ops (k+1) (tids++ [ι++ι.map λi=>1000000+i]) K ⟨ww fr dst true (r.ren ι),jh os (ι.zip (fo'.map (AObj.ren ι))),live,nt⟩)
  (ho:ok=true:=by first|rfl|exact evT)
  (hfit:yr as (fa.map (ASlot.ren ι)):=by first|exact⟨qd,trivial⟩|exact⟨qd,qd,trivial⟩|exact evT)
  (p:fa.all (ASlot.inK fo.length)=true:=by first|rfl|exact evT) (hh:x8 as fa= []:=by rfl) (hr:r.toks= []:=by rfl)
  (l:ι.Nodup:=by decide) (e:ι.length=fo'.length:=by rfl) (m:fo.length<=fo'.length:=by simp) (hold:qdi ι os ι fo:=by exact evT)
  (d:(ι.drop fo.length).all (isNone os)=true:=by first|rfl|exact evT) (hik:fo.all (AObj.inK fo.length)=true:=by first|rfl|exact evT) (htk:(fo'.all λo=>qad o.cells)=true:=by first|rfl|exact evT) (h:(fo.all λo=>qad o.cells)=true:=by first|rfl|exact evT):
  ql5 P ops k tids K dst ⟨fr,os,live,nt⟩ true (some (f,as)) ok:=xcu ι hc F.body ho hfit p hh hr l e m hold d hik htk h hK
theorem clT (ι:List Nat) (F:FnIs P f fn mu news sc rvs N) (hc:qh P f fa fo r fo')
  (hK:ARun P ops (k+1) (tids++ [[]]) K ⟨ww fr dst true ((wm (r.toks++xf fo') (16*(nt+k)) r).ren ι),jh os (ι.zip ((fo'.map (AObj.rt (r.toks++xf fo') (16*(nt+k)))).map (AObj.ren ι))),
   (live.filter λt=> !((x8 as fa++wj os ι fo).map (·.1)).contains t)++((wm (r.toks++xf fo') (16*(nt+k)) r).toks++xf (fo'.map (AObj.rt (r.toks++xf fo') (16*(nt+k))))),nt⟩)
  (ho:ok=true:=by first|rfl|exact evT)
  (hfit:yr as (fa.map (ASlot.ren ι)):=by first|exact⟨qd,trivial⟩|exact⟨qd,qd,trivial⟩|exact evT)
  (m:fa.all (ASlot.inK fo.length)=true:=by first|rfl|exact evT)
  (hl:((x8 as fa++wj os ι fo).all λp=>live.contains p.1)=true:=by first|rfl|exact evT) (hn:((x8 as fa++wj os ι fo).map (·.1)).Nodup:=by first|exact evT|decide) (h:(r.toks++xf fo').length<=16:=by first|exact evT|decide)
  (i:ι.Nodup:=by decide) (e:ι.length=fo'.length:=by rfl) (l:fo.length<=fo'.length:=by simp) (hold:qdi ι os ι fo:=by exact evT)
  (d:(ι.drop fo.length).all (isNone os)=true:=by first|rfl|exact evT) (hik:fo.all (AObj.inK fo.length)=true:=by first|rfl|exact evT):
  q6p P ops k tids K dst ⟨fr,os,live,nt⟩ true (some (f,as)) ok:=xcw ι hc F.body hK ho hfit m hl hn h i e l hold d hik
theorem clA (F:FnIs P f fn mu news sc rvs N) (hc:qh P f fa [] r []) (hK:ARun P ops (k+1) (tids++ [[]]) K ⟨ww fr dst true (qeb (16*(nt+k)) r),os,(live.filter λt=> !((x8 as fa).map (·.1)).contains t)++(qeb (16*(nt+k)) r).toks,nt⟩)
  (ho:ok=true:=by first|rfl|exact evT)
  (h1:yr as fa:=by first|exact trivial|exact⟨qd,trivial⟩|exact⟨qd,qd,trivial⟩|exact evT) (h2:fa.all ASlot.noPtr=true:=by first|rfl|exact evT) (h3: ∀p∈x8 as fa,p.1∈live:=by first|(intro p hp;cases hp;done)|simp[x8]) (h4:((x8 as fa).map (·.1)).Nodup:=by first|exact jD6|simp[x8])
  (e:r.toks.Nodup:=by first|exact jD6|simp[ASlot.toks]) (d:r.toks.length<=16:=by simp[ASlot.toks]):
  ql5 P ops k tids K dst ⟨fr,os,live,nt⟩ true (some (f,as)) ok:=qhm hc F.body ho ⟨h1,h2,h3,h4⟩ e d hK
end
section
variable {P:Program} {k0:Nat} {a x y:SCode} {Q:SExit→St→Prop} {st:St} {c:Opd}
theorem xp (t:Bool) (hx:t=true->AWp P k0 x Q st) (hy:t=false->AWp P k0 y Q st) (h1:c.ok st.fr=true:=by rfl) (h2:c.get st.fr= .d (.bool t):=by rfl):AWp P k0 (.cond c x y) Q st:=qy t h1 h2 hx hy
theorem no_ (hy:AWp P k0 y Q st) (h1:c.ok st.fr=true:=by rfl) (h2:c.get st.fr= .d (.bool false):=by rfl):AWp P k0 (.cond c x y) Q st:=qy false h1 h2 (λh=>Bool.noConfusion h) (λ_=>hy)
theorem qa2 (hx:AWp P k0 x Q st) (h1:c.ok st.fr=true:=by rfl) (h2:c.get st.fr= .d (.bool true):=by rfl):AWp P k0 (.cond c x y) Q st:=qy true h1 h2 (λ_=>hx) (λh=>Bool.noConfusion h)
theorem xrq {f:Opd} {ps:List Nat} (I:FuncId) (h:List D) (ι:List Nat) (fo:List AObj) (e:List (List D)) (S:Nat->St) (i:Fr) (m:ASeq P I h fo e) (q:Weak k0 st (S 0))
  (l: ∀k vs,e[k]? =some vs->AWp P (S k).os.length x (qiw (λst2=>AWp P st2.os.length y (qiw (λp=>Turn k0 {p with fr:=i} (S (k+1))) (λ_ _=>False)) st2) (λ_ _=>False)) {S k with fr:=ji ps vs i})
  (hK:Q .normal (S e.length)) (t: ∀vs∈e,vs.length=ps.length∧D.noPtrL vs=true)
  (u:qdi ι st.os ι fo) (F: ∀k id,id∈ι->wx (S k).os id=false)
  (h1:f.ok st.fr=true:=by rfl) (h2:f.get st.fr= .d (.func (.func I) [] (h.map (D.ren ι))):=by rfl) (z: ∀d∈h,d.inK fo.length=true:=by simp[D.inK]) (v:ι.Nodup:=by decide) (o:ι.length=fo.length:=by rfl)
  (hik:fo.all (AObj.inK fo.length)=true:=by first|rfl|simp only[go_sem]) (C: ∀id∈ι,k0<=id:=by simp) (E:i.plain=true:=by rfl) (G: ∀k,(S k).fr=i:=by intro _;rfl):
  AWp P k0 (.rangeFunc f ps x y) Q st:=
 .inl ⟨I,h,ι,fo,e,S,i,⟨h1,h2,m,z,v,o,u,hik,C,t,E,G,F,q⟩,l,hK⟩
theorem xdb {f:Opd} {ps:List Nat} (F:FuncId) (ibx ib K:Nat) (i:List Int) (e:List (List D)) (S:Nat->St) (h:Fr) (m:xh4 P F i e) (o:Weak K st (S 0))
  (z: ∀k,(S k).os[ibx]? =some (.row [.d (.ptr ib 0)])) (E: ∀k,∃rest,(S k).os[ib]? =some (.row (i.map (λx=> .d (.int .i64 x))++rest)))
  (l: ∀k vs,e[k]? =some vs->AWp P (S k).os.length x (qiw (λst2=>AWp P st2.os.length y (rndQ K h (S (k+1)) Q) st2) (λ_ _=>False)) {S k with fr:=ji ps vs h})
  (hK:Q .normal (S e.length)) (p: ∀vs∈e,vs.length=ps.length∧D.noPtrL vs=true) (hk:k0<=K:=by omega) (t:ibx<K:=by omega) (u:ib<K:=by omega) (q:i≠ []:=by simp)
  (h1:f.ok st.fr=true:=by rfl) (h2:f.get st.fr= .d (.func (.func F) [] [.ptr ibx 0]):=by rfl) (v:h.plain=true:=by rfl) (C: ∀k,(S k).fr=h:=by intro _;rfl):
  AWp P k0 (.rangeFunc f ps x y) Q st:=
 .inr ⟨F,ibx,ib,K,i,e,S,h,⟨h1,h2,m,hk,t,u,z,E,q,p,v,C,o⟩,l,hK⟩
theorem pu (h:AWp P k0 a Q st):AWp P k0 (.pause a) Q st:=⟨st,.refl st,h⟩
theorem qqk (p:Pos) (t es:Nat) (rows:List (List D)) (h:AWp P k0 (.pause a) Q (st.u2o p t es rows)) (hp:st.slotAt p= .uni t es rows:=by rfl) (ht:t∈st.live:=by simp):AWp P k0 (.pause a) Q st:=by
 obtain⟨st',h1,h2⟩:=h;exact⟨st',.u2o p t es rows hp ht h1,h2⟩
theorem xjd (p:Pos) (t es:Nat) (rows:List (List D)) (h:AWp P k0 (.pause a) Q (st.u2own p t es rows)) (hp:st.slotAt p= .uni t es rows:=by rfl) (ht:t∈st.live:=by simp):AWp P k0 (.pause a) Q st:=by
 obtain⟨st',h1,h2⟩:=h;exact⟨st',.u2own p t es rows hp ht h1,h2⟩
theorem qql (p:Pos) (id es:Nat) (rows:List (List D)) (h:AWp P k0 (.pause a) Q (st.o2u p id es rows)) (hc:qi st.os id=rows.flatten.map .d) (hes: ∀r∈rows,r.length=es)
  (hcl: ∀d∈rows.flatten,d.isCell=true) (hok:D.okWR (neId id) rows=true) (hp:st.slotAt p= .d (.ref id 0 es rows.length):=by rfl) (e:qf8 st.os id=true:=by rfl) (hk:k0<=id:=by omega) (hn:p.notIn id:=by first|trivial|decide):AWp P k0 (.pause a) Q st:=by
 obtain⟨st',h1,h2⟩:=h;exact⟨st',.o2u p id es rows hp e hc hes hcl hok hk hn h1,h2⟩
theorem qkv (id es:Nat) (rows:List (List D)) (h:AWp P k0 (.pause a) Q (st.frz id es rows)) (hc:(qi st.os id).map ASlot.cellD=rows.flatten) (hcc:(qi st.os id).all ASlot.isCellD=true) (hes: ∀r∈rows,r.length=es)
  (hok:D.okWR (neId id) rows=true) (hk:k0<=id:=by omega):AWp P k0 (.pause a) Q st:=by
 obtain⟨st',h1,h2⟩:=h;exact⟨st',.frz id es rows hc hcc hes hok hk h1,h2⟩
theorem qbc (ι:List Nat) (d:List AObj) (h:AWp P k0 (.pause a) Q (st.renN ι d)) (ho:q86 ι d ι st.os) (hp:xhy k0 d.length ι=true:=by decide) (hn:ι.Nodup:=by decide) (hl:ι≠ []:=by simp):AWp P k0 (.pause a) Q st:=by
 obtain⟨st',h1,h2⟩:=h;exact⟨st',.ren ι d hn hl hp ho h1,h2⟩
theorem qwi {st1:St} (h0:Weak k0 st st1) (h:AWp P k0 a Q st1):AWp P k0 (.pause a) Q st:=⟨st1,.weak h0 (.refl _),h⟩
end
section
variable {fr:Fr} {os:List AObj} {live:List Nat} {nt:Nat}
theorem xrr {k t es:Nat} {rows:List (List D)}:St.u2o ⟨fr,os,live,nt⟩ (.fr k) t es rows=⟨(k,true,.d (.ref os.length 0 es rows.length))::fr,os++ [.row (rows.flatten.map .d)],live.filter λu=> !(u==t),nt⟩:=rfl
theorem xje {id i t es:Nat} {rows:List (List D)}:St.u2o ⟨fr,os,live,nt⟩ (.cell id i) t es rows=⟨fr,os.set id (.row ((qi os id).set i (.d (.ref os.length 0 es rows.length))))++ [.row (rows.flatten.map .d)],live.filter λu=> !(u==t),nt⟩:=rfl
theorem xjf {k t es:Nat} {rows:List (List D)}:St.u2own ⟨fr,os,live,nt⟩ (.fr k) t es rows=⟨(k,true,.own (16*nt) es rows)::fr,os,(live.filter λu=> !(u==t))++ [16*nt],nt+1⟩:=rfl
theorem q9r {id i t es:Nat} {rows:List (List D)}:St.u2own ⟨fr,os,live,nt⟩ (.cell id i) t es rows=⟨fr,os.set id (.row ((qi os id).set i (.own (16*nt) es rows))),(live.filter λu=> !(u==t))++ [16*nt],nt+1⟩:=rfl
theorem xrs {k id es:Nat} {rows:List (List D)}:St.o2u ⟨fr,os,live,nt⟩ (.fr k) id es rows=⟨(k,true,.uni (16*nt) es rows)::Fr.mapS (ASlot.only (neId id)) fr,(os.map (AObj.mapS (ASlot.only (neId id)))).set id .none,live++ [16*nt],nt+1⟩:=rfl
theorem xjg {j i id es:Nat} {rows:List (List D)}:St.o2u ⟨fr,os,live,nt⟩ (.cell j i) id es rows=
  ⟨Fr.mapS (ASlot.only (neId id)) fr,((os.map (AObj.mapS (ASlot.only (neId id)))).set id .none).set j (.row ((qi ((os.map (AObj.mapS (ASlot.only (neId id)))).set id .none) j).set i (.uni (16*nt) es rows))),live++ [16*nt],nt+1⟩:=rfl
theorem qqm {id es:Nat} {rows:List (List D)}:St.frz ⟨fr,os,live,nt⟩ id es rows=⟨Fr.mapS (λs=>(s.frz id es rows).only (neId id)) fr,(os.map (AObj.mapS λs=>(s.frz id es rows).only (neId id))).set id .none,live,nt⟩:=rfl
end
theorem xdc {keep:Nat->Bool} {t t' es d:Nat} {r r':List (List D)}:qc9 keep (.uni t es r) (.uni t' d r')=((es=d∧r=r')∧D.noPtrR r'=true):=rfl
theorem qs4 {keep:Nat->Bool} {t' es d:Nat} {r r':List (List D)}:qc9 keep (.full es r) (.uni t' d r')=(r= []∧r'= []):=rfl
theorem qwj {keep:Nat->Bool} {t' e:Nat} {r':List (List D)}:qc9 keep (.d .nilsl) (.uni t' e r')=(r'= []):=rfl
theorem q39 {t t' es d:Nat} {r r':List (List D)}:vy (.uni t es r) (.uni t' d r')= [(t,t')]:=rfl
theorem qn9 {t' es d:Nat} {r r':List (List D)}:vy (.full es r) (.uni t' d r')= []:=rfl
theorem qwk {x:D} {t' e:Nat} {r':List (List D)}:vy (.d x) (.uni t' e r')= []:=rfl
theorem q9s {t t' es d:Nat} {r r':List (List D)}:qb3 (.uni t es r) (.uni t' d r')=(es=d∧r=r'):=rfl
theorem qs5 {t' e:Nat} {r':List (List D)}:qb3 (.d .nilsl) (.uni t' e r')=(r'= []):=rfl
theorem xot {i:Nat} {ι:List Nat} {t es:Nat} {rows:List (List D)}:ASlot.ren (i::ι) (.uni t es rows)= .uni t es (D.renR (i::ι) rows):=rfl
attribute [go_sem] xdc qs4 qwj q39 qn9 qwk q9s qs5 xot
attribute [go_sem] xrr xje xjf q9r xrs xjg qqm Fr.mapS AObj.mapS ASlot.only ASlot.okS neId ASlot.frz D.frz
attribute [go_sem] qzq q3v qs0 q3w xcr q3x q9l q30 xcq qzr qzs km zb vd qa6 jy qaj yl ju qo5 qfc qpq entV KD.fit
theorem q9t (b t es:Nat) (rows:List (List D)):qeb b (.own t es rows)= .own b es rows:=by simp[qeb,wm,renT,ASlot.toks]
theorem q9u (b t es:Nat) (rows:List (List D)):qeb b (.uni t es rows)= .uni b es rows:=by simp[qeb,wm,renT,ASlot.toks]
attribute [go_sem] q9t q9u
theorem xou {fr:Fr} {os:List AObj} {live:List Nat} {nt:Nat} {ι:List Nat} {d:List AObj}:St.renN ⟨fr,os,live,nt⟩ ι d=⟨Fr.mapS (ASlot.ren ι) fr,d,live,nt⟩:=rfl
theorem qz3 (e:List D): ∀l:List ASlot,qbi (e.map .d) l= []:=by
 induction e with
 |nil=>intro l;rfl
 |cons d e ih=>
  intro l;cases l with
  |nil=>rfl
  |cons s l=>cases s<;>simp[qbi,vy,ih]
theorem xdd (d:List D):(d.map ASlot.d).flatMap ASlot.toks= []:=by induction d<;>simp_all[ASlot.toks]
theorem xjh (keep:Nat->Bool) (e:List D):csW keep (e.map .d) (e.map .d)=(D.okWL keep e=true):=by
 induction e with
 |nil=>simp[csW,D.okWL]
 |cons d e ih=>simp only[List.map_cons,csW,ih,D.okWL,jAf];simp[qc9,ASlot.eqvD,D.eqv_refl]
theorem q4a (e:List D):qad (e.map .d)=true:=by
 induction e with
 |nil=>rfl
 |cons d e ih=>simpa[qad,ASlot.toks]using ih
theorem xde (ι:List Nat) (e:List D):(e.map ASlot.d).map (ASlot.ren1 ι)=(D.renL ι e).map .d:=by rw[D.renL_map];simp[ASlot.ren1]
theorem qz4 (d:List D):(d.map ASlot.d).all ASlot.isCellD=d.all D.isCell:=by induction d<;>simp_all[ASlot.isCellD]
theorem q9v (d:List D):(d.map ASlot.d).all ASlot.isOne=d.all D.isCell:=by induction d<;>simp_all[ASlot.isOne]
theorem qtv (d:List D):(d.map ASlot.d).map ASlot.cellD=d:=by induction d<;>simp_all[ASlot.cellD]
theorem qz5 (e:List D):qfe (e.map .d) (e.map .d)=True:=by
 induction e with
 |nil=>simp[qfe]
 |cons d e ih=>simp[qfe,qy9,ASlot.eqvD,D.eqv_refl,ih]
theorem xji (k:Nat) (e:List D):(e.map ASlot.d).all (ASlot.inKC k)=D.inKL k e:=by
 induction e with
 |nil=>rfl
 |cons d e ih=>
  simp only[List.map_cons,jCy,D.inKL]at ih⊢;rw[ih];rfl
theorem xdf (e:List D) (n:Nat):(e.map ASlot.d).drop n=(e.drop n).map .d:=by rw[jEp]
theorem xdg (e:List D) (n:Nat):(e.map ASlot.d).take n=(e.take n).map .d:=by rw[jDh]
attribute [go_sem] qz3 xdd xjh q4a xde qz4 q9v qtv xdf xdg qz5 xji
theorem xjj {keep:Nat->Bool} {es d:List (Nat×D×D)} {c c':Nat} {l l':List AObj}:osW keep (.map es c::l) (.map d c'::l')=((es=d∧c=c')∧osW keep l l'):=rfl
theorem xdh {keep:Nat->Bool} {m m':ASlot} {a a' c c':Nat} {b b':List Nat} {l l':List AObj}:osW keep (.iter m a b c::l) (.iter m' a' b' c'::l')=((qc9 keep m m'∧vy m m'= []∧a=a'∧b=b'∧c=c')∧osW keep l l'):=rfl
theorem qz6 {es:List (Nat×D×D)} {c:Nat} {o:AObj} {l l':List AObj}:yb (.map es c::l) (o::l')=yb l l':=by cases o<;>rfl
theorem qwl {m:ASlot} {a c:Nat} {b:List Nat} {o:AObj} {l l':List AObj}:yb (.iter m a b c::l) (o::l')=yb l l':=by cases o<;>rfl
theorem q4b {keep:Nat->Bool} {l':List AObj}:osW keep [] (.none::l')=osW keep [] l':=rfl
theorem qz7 {l':List AObj}:yb [] l'= []:=by cases l'<;>rfl
attribute [go_sem] q4b qz7
attribute [go_sem] xjj xdh qz6 qwl
attribute [go_sem] ji xou q86
attribute [go_sem] qf8 qqc qzt jn ASlot.void xcp q3y q3p ASlot.len? qbm qah fits w8 wk qsj
theorem obE {p q r:Prop} (e:p=q) (k:r→q):r→p:=fun x=>e▸k x
theorem obI {p q r:Prop} (h:p) (k:r→q):r→p∧q:=fun x=>⟨h,k x⟩
theorem ez {p q:Prop} (h:q) (e:p=q:=by first|(conv=>lhs;simp only[go_sem,simprocAttr])|rfl):p:=(e).mpr h
theorem et {p:Prop} (e:p=True:=by simp only[go_sem,simprocAttr]):p:=of_eq_true (e)
theorem eo {p q:Prop} (h:q) (e:q→p:=by apply obE;(first|(conv=>lhs;simp only[go_sem,simprocAttr])|rfl);(repeat(with_reducible apply obI (by first|omega|(simp_all;done)|grind)));exact fun x=>x):p:=e h
theorem ez1 {A1 p q:Prop} (a1:A1) (h:q) (e:A1→p=q:=by intro z1;first|(conv=>lhs;simp only[z1,go_sem,simprocAttr])|rfl):p:=(e a1).mpr h
theorem et1 {A1 p:Prop} (a1:A1) (e:A1→p=True:=by intro z1;simp only[z1,go_sem,simprocAttr]):p:=of_eq_true (e a1)
theorem eo1 {A1 p q:Prop} (a1:A1) (h:q) (e:A1→q→p:=by intro z1;apply obE;(first|(conv=>lhs;simp only[z1,go_sem,simprocAttr])|rfl);(repeat(with_reducible apply obI (by first|omega|(simp_all;done)|grind)));exact fun x=>x):p:=e a1 h
theorem ez2 {A1 A2 p q:Prop} (a1:A1) (a2:A2) (h:q) (e:A1→A2→p=q:=by intro z1 z2;first|(conv=>lhs;simp only[z1,z2,go_sem,simprocAttr])|rfl):p:=(e a1 a2).mpr h
theorem et2 {A1 A2 p:Prop} (a1:A1) (a2:A2) (e:A1→A2→p=True:=by intro z1 z2;simp only[z1,z2,go_sem,simprocAttr]):p:=of_eq_true (e a1 a2)
theorem eo2 {A1 A2 p q:Prop} (a1:A1) (a2:A2) (h:q) (e:A1→A2→q→p:=by intro z1 z2;apply obE;(first|(conv=>lhs;simp only[z1,z2,go_sem,simprocAttr])|rfl);(repeat(with_reducible apply obI (by first|omega|(simp_all;done)|grind)));exact fun x=>x):p:=e a1 a2 h
theorem ez3 {A1 A2 A3 p q:Prop} (a1:A1) (a2:A2) (a3:A3) (h:q) (e:A1→A2→A3→p=q:=by intro z1 z2 z3;first|(conv=>lhs;simp only[z1,z2,z3,go_sem,simprocAttr])|rfl):p:=(e a1 a2 a3).mpr h
theorem et3 {A1 A2 A3 p:Prop} (a1:A1) (a2:A2) (a3:A3) (e:A1→A2→A3→p=True:=by intro z1 z2 z3;simp only[z1,z2,z3,go_sem,simprocAttr]):p:=of_eq_true (e a1 a2 a3)
theorem eo3 {A1 A2 A3 p q:Prop} (a1:A1) (a2:A2) (a3:A3) (h:q) (e:A1→A2→A3→q→p:=by intro z1 z2 z3;apply obE;(first|(conv=>lhs;simp only[z1,z2,z3,go_sem,simprocAttr])|rfl);(repeat(with_reducible apply obI (by first|omega|(simp_all;done)|grind)));exact fun x=>x):p:=e a1 a2 a3 h
theorem ez4 {A1 A2 A3 A4 p q:Prop} (a1:A1) (a2:A2) (a3:A3) (a4:A4) (h:q) (e:A1→A2→A3→A4→p=q:=by intro z1 z2 z3 z4;first|(conv=>lhs;simp only[z1,z2,z3,z4,go_sem,simprocAttr])|rfl):p:=(e a1 a2 a3 a4).mpr h
theorem et4 {A1 A2 A3 A4 p:Prop} (a1:A1) (a2:A2) (a3:A3) (a4:A4) (e:A1→A2→A3→A4→p=True:=by intro z1 z2 z3 z4;simp only[z1,z2,z3,z4,go_sem,simprocAttr]):p:=of_eq_true (e a1 a2 a3 a4)
theorem eo4 {A1 A2 A3 A4 p q:Prop} (a1:A1) (a2:A2) (a3:A3) (a4:A4) (h:q) (e:A1→A2→A3→A4→q→p:=by intro z1 z2 z3 z4;apply obE;(first|(conv=>lhs;simp only[z1,z2,z3,z4,go_sem,simprocAttr])|rfl);(repeat(with_reducible apply obI (by first|omega|(simp_all;done)|grind)));exact fun x=>x):p:=e a1 a2 a3 a4 h
theorem ez5 {A1 A2 A3 A4 A5 p q:Prop} (a1:A1) (a2:A2) (a3:A3) (a4:A4) (a5:A5) (h:q) (e:A1→A2→A3→A4→A5→p=q:=by intro z1 z2 z3 z4 z5;first|(conv=>lhs;simp only[z1,z2,z3,z4,z5,go_sem,simprocAttr])|rfl):p:=(e a1 a2 a3 a4 a5).mpr h
theorem et5 {A1 A2 A3 A4 A5 p:Prop} (a1:A1) (a2:A2) (a3:A3) (a4:A4) (a5:A5) (e:A1→A2→A3→A4→A5→p=True:=by intro z1 z2 z3 z4 z5;simp only[z1,z2,z3,z4,z5,go_sem,simprocAttr]):p:=of_eq_true (e a1 a2 a3 a4 a5)
theorem eo5 {A1 A2 A3 A4 A5 p q:Prop} (a1:A1) (a2:A2) (a3:A3) (a4:A4) (a5:A5) (h:q) (e:A1→A2→A3→A4→A5→q→p:=by intro z1 z2 z3 z4 z5;apply obE;(first|(conv=>lhs;simp only[z1,z2,z3,z4,z5,go_sem,simprocAttr])|rfl);(repeat(with_reducible apply obI (by first|omega|(simp_all;done)|grind)));exact fun x=>x):p:=e a1 a2 a3 a4 a5 h
theorem ez6 {A1 A2 A3 A4 A5 A6 p q:Prop} (a1:A1) (a2:A2) (a3:A3) (a4:A4) (a5:A5) (a6:A6) (h:q) (e:A1→A2→A3→A4→A5→A6→p=q:=by intro z1 z2 z3 z4 z5 z6;first|(conv=>lhs;simp only[z1,z2,z3,z4,z5,z6,go_sem,simprocAttr])|rfl):p:=(e a1 a2 a3 a4 a5 a6).mpr h
theorem et6 {A1 A2 A3 A4 A5 A6 p:Prop} (a1:A1) (a2:A2) (a3:A3) (a4:A4) (a5:A5) (a6:A6) (e:A1→A2→A3→A4→A5→A6→p=True:=by intro z1 z2 z3 z4 z5 z6;simp only[z1,z2,z3,z4,z5,z6,go_sem,simprocAttr]):p:=of_eq_true (e a1 a2 a3 a4 a5 a6)
theorem eo6 {A1 A2 A3 A4 A5 A6 p q:Prop} (a1:A1) (a2:A2) (a3:A3) (a4:A4) (a5:A5) (a6:A6) (h:q) (e:A1→A2→A3→A4→A5→A6→q→p:=by intro z1 z2 z3 z4 z5 z6;apply obE;(first|(conv=>lhs;simp only[z1,z2,z3,z4,z5,z6,go_sem,simprocAttr])|rfl);(repeat(with_reducible apply obI (by first|omega|(simp_all;done)|grind)));exact fun x=>x):p:=e a1 a2 a3 a4 a5 a6 h
theorem ez7 {A1 A2 A3 A4 A5 A6 A7 p q:Prop} (a1:A1) (a2:A2) (a3:A3) (a4:A4) (a5:A5) (a6:A6) (a7:A7) (h:q) (e:A1→A2→A3→A4→A5→A6→A7→p=q:=by intro z1 z2 z3 z4 z5 z6 z7;first|(conv=>lhs;simp only[z1,z2,z3,z4,z5,z6,z7,go_sem,simprocAttr])|rfl):p:=(e a1 a2 a3 a4 a5 a6 a7).mpr h
theorem et7 {A1 A2 A3 A4 A5 A6 A7 p:Prop} (a1:A1) (a2:A2) (a3:A3) (a4:A4) (a5:A5) (a6:A6) (a7:A7) (e:A1→A2→A3→A4→A5→A6→A7→p=True:=by intro z1 z2 z3 z4 z5 z6 z7;simp only[z1,z2,z3,z4,z5,z6,z7,go_sem,simprocAttr]):p:=of_eq_true (e a1 a2 a3 a4 a5 a6 a7)
theorem eo7 {A1 A2 A3 A4 A5 A6 A7 p q:Prop} (a1:A1) (a2:A2) (a3:A3) (a4:A4) (a5:A5) (a6:A6) (a7:A7) (h:q) (e:A1→A2→A3→A4→A5→A6→A7→q→p:=by intro z1 z2 z3 z4 z5 z6 z7;apply obE;(first|(conv=>lhs;simp only[z1,z2,z3,z4,z5,z6,z7,go_sem,simprocAttr])|rfl);(repeat(with_reducible apply obI (by first|omega|(simp_all;done)|grind)));exact fun x=>x):p:=e a1 a2 a3 a4 a5 a6 a7 h
theorem ez8 {A1 A2 A3 A4 A5 A6 A7 A8 p q:Prop} (a1:A1) (a2:A2) (a3:A3) (a4:A4) (a5:A5) (a6:A6) (a7:A7) (a8:A8) (h:q) (e:A1→A2→A3→A4→A5→A6→A7→A8→p=q:=by intro z1 z2 z3 z4 z5 z6 z7 z8;first|(conv=>lhs;simp only[z1,z2,z3,z4,z5,z6,z7,z8,go_sem,simprocAttr])|rfl):p:=(e a1 a2 a3 a4 a5 a6 a7 a8).mpr h
theorem et8 {A1 A2 A3 A4 A5 A6 A7 A8 p:Prop} (a1:A1) (a2:A2) (a3:A3) (a4:A4) (a5:A5) (a6:A6) (a7:A7) (a8:A8) (e:A1→A2→A3→A4→A5→A6→A7→A8→p=True:=by intro z1 z2 z3 z4 z5 z6 z7 z8;simp only[z1,z2,z3,z4,z5,z6,z7,z8,go_sem,simprocAttr]):p:=of_eq_true (e a1 a2 a3 a4 a5 a6 a7 a8)
section
variable {P:Program} {T:Nat→Prop} {g:Ghost} {w:World} {live live':List Nat}
def qfg (d:Array Value) (off:Nat) (news:List Value):Array Value:=(d.toList.take off++news++d.toList.drop (off+news.length)).toArray
theorem qtw (d:Array Value) (off:Nat) (news:List Value):(qfg d off news).toList=d.toList.take off++news++d.toList.drop (off+news.length):=rfl
theorem qd3 (d:Array Value) (off:Nat) (news:List Value) (h:off+news.length<=d.size):(qfg d off news).size=d.size:=by
 have hq:d.toList.length=d.size:=jBr;simp only[qfg,List.size_toArray,jAc,jAl,jAq];omega
theorem qkw {t u ty e:TypeId} {i:TypeInfo} (ht:P.underlying t=some (.slice e)) (hi:P.info? e=some i) (W:World) (d o z M:Nat) (q:Array Value) (J:TypeId) (hd:W.heap[d]? =some (.cells q J (0,0)))
  (s l p sc:Nat) (m:Array Value) (e1:TypeId) (hs:W.heap[s]? =some (.cells m e1 (0,0))) (k:Nat) (hk:k=Nat.min p z) (h1:o+k*i.size<=q.size) (h2:l+k*i.size<=m.size)
  (E: ∀v∈(m.toList.drop l).take (k*i.size),v.oneCell'=true):
  (Builtin.copy_ #[t,u] ty #[.slice (some ⟨d,o,none⟩) z M,.slice (some ⟨s,l,none⟩) p sc]).run P W= .ok (.int .i64 k) (W.setRow d (qfg q o ((m.toList.drop l).take (k*i.size)))):=by
 subst hk;have hq:m.toList.length=m.size:=jBr;have C:((m.toList.drop l).take (Nat.min p z*i.size)).length=Nat.min p z*i.size:=by rw[jAl,jAq];omega
 have hf:(Builtin.firstCells i.size (Nat.min p z) (.slice (some ⟨s,l,none⟩) p sc)).run P W= .ok ((m.toList.drop l).take (Nat.min p z*i.size)).toArray W:=by
  refine run_firstCells_some (P:=P) W i.size _ _ _ _ _ C (λj v F=> ?_);rw[jBx]at F;split at F
  ·rw[Addr.add_lit];simpa[World.cell?,hs]using F
  ·cases F
 have G:=run_storeCells_at P d o J ((m.toList.drop l).take (Nat.min p z*i.size)) 0 q W hd (by rw[C];omega) E;have:=q6b (P:=P) (w:=W) (u:=u) (ty:=ty) ht hi (base:=some ⟨d,o,none⟩) (n:=z) (cap:=M) (k:=p) (x:= .slice (some ⟨s,l,none⟩) p sc) (w1:=W.setRow d (qfg q o ((m.toList.drop l).take (Nat.min p z*i.size))))
  (by simp[Builtin.lenOf]) hf (λad I=>by cases I;simpa[qfg]using G) (λh=>by cases h)
 exact this
theorem Qt.setUni (E:Dom g w) {W:World} (z:W.os=w.os) (l:W.tape=w.tape) (p:W.output=w.output) {b t:Nat} (hg:g b= .uni t) (q:W.heap.size=w.heap.size)
  (o: ∀k,k≠b->W.heap[k]? =w.heap[k]?):Qt (λ_=>False) g w g W live live':=by
 have e: ∀{k:Nat} {r:Role},g k=r->(∀u,r≠ .uni u) ->k≠b:=λh hr=>by rintro rfl;rw[hg]at h;exact hr t h.symm
 refine⟨⟨z,l,p,by omega,λk _ d=>⟨o k (e d (by simp)),d⟩,λk m _ d=>⟨o k (e d (by simp)),d⟩,
  λk m u _ d=>⟨m,some u,d,jAh _,λi v _ hv=>by rw[jw (o k (e d (by simp)))];exact hv⟩,λk id _ d=>⟨d,jBt (jf (o k (e d (by simp)))).symm⟩⟩,
  ⟨?_,E.2.same λk m _ d=>⟨o k (e d (by simp)),d⟩⟩,λk id d=>o k (e d (by simp)),λk id h=>h,λ_ _ _ h=>h.elim,λ_ h=>h.elim,λ_ _ h=>h.elim⟩
 intro k C;rw[q]at C;exact E.1 k C
theorem Qt.addUni (E:Dom g w) {W:World} (C:W.os=w.os) (l:W.tape=w.tape) (p:W.output=w.output) (t:Nat) (z:W.heap.size=w.heap.size+1)
  (o: ∀k,k<w.heap.size->W.heap[k]? =w.heap[k]?):Qt (λ_=>False) g w (g.at w.heap.size (.uni t)) W live live':=by
 have q: ∀b,b<w.heap.size->g.at w.heap.size (.uni t) b=g b:=λb hb=>Ghost.at_ne g _ (by omega);refine⟨⟨C,l,p,by omega,λk e d=>⟨o k e,by rw[q k e];exact d⟩,λk m e d=>⟨o k e,by rw[q k e];exact d⟩,
  λk m u e d=>⟨m,some u,by rw[q k e];exact d,jAh _,λi v _ hv=>by rw[jw (o k e)];exact hv⟩,λk id e d=>⟨by rw[q k e];exact d,jBt (jf (o k e)).symm⟩⟩,
  ⟨?_,E.2.same λk m e d=>⟨o k e,by rw[q k e];exact d⟩⟩,λk id d=>o k (E.lt_obj d),λk id h=> ?_,λ_ _ _ h=>h.elim,λ_ h=>h.elim,λ_ _ h=>h.elim⟩
 ·intro k e;rw[z]at e;rw[Ghost.at_ne g _ (by omega)];exact E.1 k (by omega)
 ·by_cases e:k=w.heap.size
  ·subst e;rw[Ghost.at_same]at h;cases h
  ·rwa [Ghost.at_ne g _ e]at h
theorem qz8 {g':Ghost} {W:World} {b cap o es:Nat} {c:Array Value} {e:TypeId} {rows:List (List D)} {L:List Value} (hg:g' b= .uni o) (hh:W.heap[b]? =some (.cells c e (0,0))) (hn:rows.length<=cap) (hm:cap<=maxLen)
  (m:cap*es<=c.size) (hes: ∀r∈rows,r.length=es) (h:RL g' W L rows.flatten) (hL: ∀(j:Nat) (u:Value),L[j]? =some u->c[j]? =some u):
  RC g' W live (.slice (some ⟨b,0,none⟩) rows.length cap) (.uni o es rows):=by
 refine⟨⟨_,_,rfl⟩,λ_=> .inr ⟨b,cap,c,e,rfl,hg,hh,hn,hm,m,hes,λj d l=> ?_⟩⟩;have i:j<L.length:=by rw[h.1];exact(jAd.1 l).1
 exact⟨h.2.1 d (jAe l),L[j],hL j _ (jAa i),h.2.2 j _ d (jAa i) l⟩
theorem xdi {t es:Nat} {l:List (List D)} {v:Value} (h:UniOk g w t es l v) (p:l≠ []):
  ∃(b cap:Nat) (i:Array Value) (e:TypeId),v= .slice (some ⟨b,0,none⟩) l.length cap∧g b= .uni t∧w.heap[b]? =some (.cells i e (0,0))∧l.length<=cap∧cap<=maxLen∧cap*es<=i.size∧(∀r∈l,r.length=es)∧
   RL g w (i.toList.take (l.length*es)) l.flatten:=by
 rcases h with⟨ad,rfl,rfl⟩|⟨b,cap,i,e,rfl,h2,h3,F,h5,h6,E,C⟩
 ·exact(p rfl).elim
 ·have q:l.flatten.length=l.length*es:=xi E;have hrow:l.length*es<=cap*es:=jAy _ F;have o:(i.toList.take (l.length*es)).length=l.length*es:=by have hq:i.toList.length=i.size:=jBr;rw[jAl];omega
  refine⟨b,cap,i,e,rfl,h2,h3,F,h5,h6,E,⟨by rw[o,q],λd z=> ?_,λj v d m z=> ?_⟩⟩
  ·obtain⟨j,hj⟩:=jBh z;exact(C j d hj).1
  ·obtain⟨_,u,c2,c3⟩:=C j d z;rw[jBx]at m;split at m
   ·simp only[jD2]at m;rw[c2]at m;cases m;exact c3
   ·cases m
theorem RL.ones {vs:List Value} {i:List D} (h:RL g w vs i): ∀v∈vs,v.oneCell'=true:=by
 intro v hv;obtain⟨j,e⟩:=jBh hv;have d:j<i.length:=by rw[<- h.1];exact(jAd.1 e).1
 exact(h.2.2 j v _ e (jAa d)).oneCell (h.2.1 _ (jAg d))
end
section
variable {P:Program} {ops:List SOper} {k:Nat} {tids:List (List Nat)} {K:List (List Nat)→St→Prop} {fr:Fr} {os:List AObj} {live:List Nat} {nt:Nat} {dst:Option Nat} {back es bytes:Nat} {s x:Opd} {r:Src}
theorem qtx (hr:y7 es os (x.get fr)=some r) (hK:ARun P ops (k+1) (tids++ [[]]) K ⟨ww fr dst true (.d (.ref (os.length-back) 0 es r.rows.length)),os.set (os.length-back) (.row (r.rows.flatten.map .d)),live,nt⟩)
  (hf:fits bytes r.rows.length) (hn:os[os.length-back]? =some .none:=by rfl) (h:0<back∧back<=os.length:=by simp) (hok:r.ok:=by trivial) (hv:(s.get fr).void=true:=by rfl) (h1:s.ok fr=true:=by rfl) (h2:x.ok fr=true:=by rfl):
  xil P ops k tids K dst ⟨fr,os,live,nt⟩ true back es bytes s x:=by
 have e:sem (16*(nt+k)) (.appendO back es bytes s x) ⟨fr,os,live,nt⟩={v:= .d (.ref (os.length-back) 0 es r.rows.length),ob:=s.ok fr=true∧x.ok fr=true∧r.ok∧(s.get fr).void=true∧fits bytes r.rows.length∧0<back∧back<=os.length∧os[os.length-back]? =some .none,rd:=r.rd,wr:=some (os.length-back,.row (r.rows.flatten.map .d))}:=by
  simp only[sem,jn,hr]
 refine⟨rfl,.inl ?_⟩;rw[e];refine⟨⟨h1,h2,hok,hv,hf,h.1,h.2,hn⟩,?_⟩;have hl: ∀(v:ASlot) (ob:Prop) (rd:Option Nat) (wr:Option (Nat×AObj)),qs live {v:=v,ob:=ob,rd:=rd,wr:=wr}=live:=λ_ _ _ _=>xg rfl rfl;simp only[St.next,hl];exact hK
theorem qqn (id n:Nat) (hr:y7 es os (x.get fr)=some r)
  (hA:ARun P ops (k+1) (tids++ [[]]) K ⟨ww fr dst true (.d (.ref id 0 es (n+r.rows.length))),os.set id (.row (yq os id es n r)),live,nt⟩)
  (hB:ARun P ops (k+1) (tids++ [[]]) K ⟨ww fr dst true (.d (.ref (os.length-back) 0 es (n+r.rows.length))),os.set (os.length-back) (.row (yq os id es n r)),live,nt⟩)
  (hl:n*es<=(qi os id).length) (hf:(n+r.rows.length)*bytes<=140737488355328) (hi:n+r.rows.length<=9223372036854775807) (hp:0<r.rows.length:=by simp)
  (hs:s.get fr= .d (.ref id 0 es n):=by rfl) (e:qf8 os id=true:=by rfl) (hn:os[os.length-back]? =some .none:=by rfl) (hok:r.ok:=by trivial) (h1:s.ok fr=true:=by rfl) (h2:x.ok fr=true:=by rfl):
  xil P ops k tids K dst ⟨fr,os,live,nt⟩ true back es bytes s x:=by
 have h: ∀i:Nat,qs live (qp1 id i es n os r)=live:=λ_=>xg rfl rfl;refine⟨rfl,.inr ⟨h1,h2,id,n,r,hs,hr,⟨hok,e,hl,hp,hf,hi,hn⟩,?_,?_⟩⟩
 ·simp only[St.next,h];exact hA
 ·simp only[St.next,h];exact hB
end
attribute [go_sem] qzu
def SCode.opens:SCode->Bool
 | .pause _=>true
 | .seq a _=>a.opens
 | .block _ a=>a.opens
 | _=>false
theorem qwm {P:Program} {k0:Nat}: ∀(c:SCode) {Q:SExit->St->Prop} {st st':St},c.opens=true->Turn k0 st st'->AWp P k0 c Q st'->AWp P k0 c Q st
 | .pause _,_,_,_,_,t,⟨s,h1,h2⟩=>⟨s,t.trans h1,h2⟩
 | .seq a _,_,_,_,h,t,hr=>qwm a h t hr
 | .block _ a,_,_,_,h,t,hr=>qwm a h t hr
def xub (k0:Nat) {α:Type} (S:α->St) (st:St):Prop:= ∃x,Weak k0 st (S x)
theorem xov {P:Program} {k0:Nat} {c rest:SCode} {Q:SExit->St->Prop} {st:St} {α:Type} (S:α->St) (h1:AWp P k0 c (qiw (xub k0 S) Q) st) (h2: ∀x,AWp P k0 rest Q (S x)) (hp:rest.opens=true:=by rfl):
  AWp P k0 c (qiw (AWp P k0 rest Q) Q) st:=
 AWp.mono c (qfq (λ_ ⟨x,hx⟩=>qwm rest hp (.weak hx (.refl _)) (h2 x)) λ_ _ h=>h) h1
def SCode.regs:SCode->List (List SOper)
 | .region ops _ _=> [ops]
 | .seq a b=>a.regs++b.regs
 | .cond _ a b=>a.regs++b.regs
 | .block _ a=>a.regs
 | .loop a=>a.regs++ [[]]
 | .rangeFunc _ _ a b=>a.regs++b.regs++ [[],[]]
 | .pause a=>a.regs
 | _=> []
def pz (ps:List Nat) (k:Nat) (a:SCode):SCode:=if ps.contains k then .pause a else a
def SCode.skel (R:Nat->List SOper) (ps:List Nat) (rp:Bool):SCode->Nat->SCode
 | .region _ o p,k=>pz ps k (.region (R k) o p)
 | .seq a b,k=> .seq (a.skel R ps rp k) (b.skel R ps rp (k+a.regs.length))
 | .cond c a b,k=> .cond c (a.skel R ps rp k) (b.skel R ps rp (k+a.regs.length))
 | .block i a,k=> .block i (a.skel R ps rp k)
 | .loop a,k=>pz ps (k+a.regs.length) (.loop (a.skel R ps rp k))
 | .rangeFunc f q a b,k=>pz ps (k+(a.regs++b.regs).length) (.rangeFunc f q (a.skel R ps rp k) (b.skel R ps rp (k+a.regs.length)))
 | .ret,_=>if rp then .pause .ret else .ret
 | .pause a,k=>a.skel R ps rp k
 | .skip,_=> .skip
 | .exit i,_=> .exit i
def xow (d:List Nat) (n:Nat):List Edge->Nat
 | []=>0
 |e::l=>if Region.binds .any e then(1<<<e.on|||d.getD (n-1-e.on) 0)|||xow d n l else xow d n l
def qMem (sops:List SOper):List Oper->List Nat->Nat->List (Nat×Bool×Bool×Nat)
 |o::l,acc,n=>match sops with
  |s::t=>let m:=xow acc n o.after.toList
   if s.op.memR||s.op.memW then(n,s.op.memR,s.op.memW,m)::qMem t l (m::acc) (n+1)else qMem t l (m::acc) (n+1)
  | []=> []
 | [],_,_=> []
def qRow (j:Nat×Bool×Bool×Nat):List (Nat×Bool×Bool×Nat) ->List (Nat×Nat)
 | []=> []
 |i::l=>if(((i.2.2.1&&(j.2.1||j.2.2.1))||(i.2.1&&j.2.2.1))&&(j.2.2.2>>>i.1)%2==0)=true then(i.1,j.1)::qRow j l else qRow j l
def xm1 (pre:List (Nat×Bool×Bool×Nat)):List (Nat×Bool×Bool×Nat) ->List (Nat×Nat)
 | []=> []
 |j::l=>qRow j pre++xm1 (pre++ [j]) l
section
variable (P:Program) (mu:List Nat) (N:Nat) (news:List (FuncId×Nat))
def qOps (ops:Array Oper):List Oper->Option (List SOper×Nat)
 | []=>some ([],0)
 |o::l=>match qOps ops l with
  |some (r,n)=>match qdm P mu ops N (if Op.allocs o.op then n+1 else n) o with
   |some x=>some (x::r,if Op.allocs o.op then n+1 else n)
   |none=>none
  |none=>none
def xox (ops:Array Oper) (d:Bool):SCode:=match qOps P mu N ops ops.toList with
 |some (sops,n)=> .region sops (qyo news sops+n) (if d&&sops.any (·.op.memW)then xm1 [] (qMem sops ops.toList [] 0)else [])
 |none=> .skip
def qhn:Code->SCode
 | .region _ ops draw=>xox P mu N news ops draw
 | .seq a b=> .seq (qhn a) (qhn b)
 | .cond c a b=> .cond ((qt c).getD (.t 0)) (qhn a) (qhn b)
 | .block id a=> .block id (qhn a)
 | .loop a=> .loop (qhn a)
 | .exit id=> .exit id
 | .ret=> .ret
 | .rangeFunc f ps a b=> .rangeFunc ((qt f).getD (.t 0)) ps.toList (qhn a) (qhn b)
 | _=> .skip
end
def qCut (R:Nat->List SOper) (ps:List Nat) (rp:Bool) (c:SCode):List (List SOper)×SCode:=(c.regs,c.skel R ps rp 0)
structure CutIs (P:Program) (fn:Func) (mu:List Nat) (news:List (FuncId×Nat)) (ps:List Nat) (rp:Bool) where
 L:List (List SOper)
 S:(Nat->List SOper) ->SCode
 h:fn.body.bind (zn P mu fn.ntmps news)=some (S λk=>L.getD k []).erase
section
variable {P:Program} {fn:Func} {mu:List Nat} {news:List (FuncId×Nat)} {ps:List Nat} {rp:Bool}
def CutIs.reg (d:CutIs P fn mu news ps rp) (k:Nat):List SOper:=d.L.getD k []
def CutIs.top (d:CutIs P fn mu news ps rp):SCode:=d.S d.reg
theorem CutIs.code (d:CutIs P fn mu news ps rp):fn.body.bind (zn P mu fn.ntmps news)=some d.top.erase:=d.h
def qwn (d:CutIs P fn mu news ps rp):Nat->List (List SOper) ->Prop
 | _,[]=>True
 |k,r::l=>(∀{o:Nat} {p:List (Nat×Nat)} {Q:SExit->St->Prop} {st:St},xi3 P (d.reg k) o p Q st=xi4 P r o p Q st)∧qwn d (k+1) l
def xdj (d:CutIs P fn mu news ps rp) (L:List (List SOper)) (t:SCode):Prop:=(∀{k0:Nat} {Q:SExit->St->Prop} {st:St},AWp P k0 d.top Q st=AWp P k0 t Q st)∧qwn d 0 L
theorem xdk (d:CutIs P fn mu news ps rp): ∀(l:List (List SOper)) (k:Nat),(∀i r,l[i]? =some r->d.L[k+i]? =some r) ->qwn d k l
 | [],_,_=>trivial
 |r::l,k,h=>by
  refine⟨λ{o p Q st}=> ?_,xdk d l (k+1) λi x hx=> ?_⟩
  ·have:=h 0 r rfl;rw[Nat.add_zero]at this;rw[CutIs.reg,jA0,this];rfl
  ·have:=h (i+1) x hx;rwa [show k+(i+1)=k+1+i by omega]at this
def cut (P:Program) (fn:Func) (news:List (FuncId×Nat)) (mu:List Nat:= []) (ps:List Nat:= []) (rp:Bool:=false) {L:List (List SOper)} {S:(Nat->List SOper) ->SCode}
  (_: ∀R,(fn.body.map λc=>qCut R ps rp (qhn P mu fn.ntmps news c))=some (L,S R):=by intro R;conv=>lhs;cbv) (h:fn.body.bind (zn P mu fn.ntmps news)=some (S λk=>L.getD k []).erase:=by kernel_rfl):CutIs P fn mu news ps rp:=⟨L,S,h⟩
theorem qm (d:CutIs P fn mu news ps rp) {L:List (List SOper)} {S:(Nat->List SOper) ->SCode} {q:Prop} (hL:d.L=L:=by conv=>lhs;cbv) (hS: ∀R,d.S R=S R:=by intro R;conv=>lhs;cbv)
  (e:xdj d L (S d.reg)=q:=by conv=>lhs;simp only[xdj,qwn,Nat.reduceAdd,Nat.zero_add]):q:=by
 rw[<- e];refine⟨λ{k0 Q st}=>by rw[CutIs.top,hS],xdk d L 0 λi r hi=> ?_⟩;rw[Nat.zero_add,hL];exact hi
theorem fnC (d:CutIs P fn mu news ps rp) {f:FuncId} {rvs:List RVar} {N:Nat} (h0:P.follows .mixedOrders=true) (h1:P.funcs[f]? =some fn)
  (h3:fn.results.toList.mapM (qge P)=some rvs:=by conv=>lhs;cbv) (h4:fn.ntmps=N:=by conv=>lhs;cbv)
  (h5:(P.funcs[f]?).any (λfn=>fn.body.isSome&& !(fn.name== "runtime.NumGoroutine"))=true:=by kernel_rfl):FnIs P f fn mu news d.top rvs N:=⟨h0,h1,d.code,h3,h4,h5⟩
end
section
variable {P:Program} {g:Ghost} {w:World}
theorem qwo {f:FuncId} {fn:Func} {c:Code} {args rs:List ASlot} {objs objs':List AObj} {rv:List ResultVar} {rvs:List RVar}
  (hf:P.funcs[f]? =some fn) (hb:fn.body=some c) (hr:fn.results=rv.toArray) (hrv:rv.mapM (qge P)=some rvs)
  (hN:args.length<=fn.ntmps) (hl:rvs.length=rs.length) (hw: ∀t∈ve args++xf objs,t<16)
  (h: ∀(g:Ghost) (w:World) (vs:List Value),vs.length=args.length->Dom g w->SR fn.ntmps (below 1) g w (qhl args objs) {tmps:=vs.toArray++Array.replicate (fn.ntmps-vs.toArray.size) undef,defers:= []} ->(∀b id,g b= .obj id->id<objs.length) ->
   c.wpIn (Fw none) 0 P (λe a' w'=> ∃e' st' g',e=SExit.real e'∧q3n objs.length rvs rs objs' e' st'∧SR fn.ntmps (below st'.nt) g' w' st' a'∧G g w g' w'∧Marks g w g' w' a'.defers) {tmps:=vs.toArray++Array.replicate (fn.ntmps-vs.toArray.size) undef,defers:= []} w):qh P f args objs (qp9 rs) objs':=by
 intro g w vs hd Y hv ho;have hs:=q6m (N:=fn.ntmps) hd Y hN hv ho hw;have h0: ∀b id,g b= .obj id->id<objs.length:=λb id hb=>by
  obtain⟨o,ho',_⟩:=ho.ids b id hb;exact(jAd.1 ho').1
 obtain⟨q,hvg⟩:=jz hrv;refine(callsIn_wide (n:=0)).1 (callsIn_of_wp_marks (F:=Fence.wide) hf hb trivial (wpIn_mono (h g w vs Y hd hs h0) ?_));rintro _ a' w' ⟨e,st',g',rfl,hq,d,E,hM'⟩;have fin:xcj objs.length rvs rs objs' st'-> ∀w',SR fn.ntmps (below st'.nt) g' w' st' a'->G g w g' w'-> ∃v,(results fn a'.tmps).run P w'= .ok v w'∧
   ∃v' g'' live',Ending.returned v= .returned v'∧G g w g'' w'∧Dom g'' w'∧(∀t∈(qp9 rs).toks++xf objs',t∈live')∧RS g'' w' live' v' (qp9 rs)∧ObjsOk g'' w' live' objs':=by
  rintro⟨U,X⟩ w' d E;have C: ∀(i:Nat),i<rv.length-> ∃v,∀(x:ResultVar) (y:RVar),rv[i]? =some x->rvs[i]? =some y->(qi6 a'.tmps x).run P w'= .ok v w'∧RS g' w' st'.live v (y.slot st')∧ ∀t∈(y.slot st').toks,below st'.nt t:=by
   intro i hi;have h1:rv[i]? =some rv[i]:=jAa hi;have h2:rvs[i]? =some (rvs[i]'(by omega)):=jAa (by omega);obtain⟨v,q1,q2,q3⟩:=qtq d (hvg i _ _ h1 h2) (U _ (jAe h2));refine⟨v,λx y m p=> ?_⟩;rw[h1]at m;cases m;rw[h2]at p;cases p;exact⟨q1,q2,q3⟩
  let us:List Value:=(List.range rv.length).map λi=>if hi:i<rv.length then Classical.choose (C i hi)else undef
  have z:us.length=rv.length:=by simp[us]
  have M: ∀(i:Nat) (x:ResultVar) (y:RVar) (u:Value),rv[i]? =some x->rvs[i]? =some y->us[i]? =some u->(qi6 a'.tmps x).run P w'= .ok u w'∧RS g' w' st'.live u (y.slot st')∧ ∀t∈(y.slot st').toks,below st'.nt t:=by
   intro i x y u m p O;have hi:i<rv.length:=(jAd.1 m).1;have:u=Classical.choose (C i hi):=by
    simp only[us,jAn,jC5 hi,Option.map_some,jA8,dif_pos hi]at O;exact O.symm
   rw[this];exact Classical.choose_spec (C i hi) x y m p
  have Z:(results fn a'.tmps).run P w'= .ok (resV us) w':=qqa hr z (λi x v m hv'=>by
   have hi:i<rvs.length:=by rw[<- q];exact(jAd.1 m).1
   exact(M i x rvs[i] v m (jAa hi) hv').1)
  have J:SR us.length (below st'.nt) g' w' {st' with fr:=y9 (rvs.map (RVar.slot st')) 0} {tmps:=us.toArray,defers:= []}:=by
   have I: ∀(k:Nat) (v:Bool) (s:ASlot),(y9 (rvs.map (RVar.slot st')) 0).get k=some (v,s) ->v=true∧ ∃x y u,rv[k]? =some x∧rvs[k]? =some y∧us[k]? =some u∧s=y.slot st':=by
    intro k v s hk;obtain⟨rfl,i,hki,hs⟩:=qgf _ 0 k v s hk;rw[Nat.zero_add]at hki;subst hki;simp only[jAn,jAb]at hs;obtain⟨y,p,rfl⟩:=hs;have hi:k<rv.length:=by rw[q];exact(jAd.1 p).1
    exact⟨rfl,rv[k],y,us[k]'(by rw[z];exact hi),jAa hi,p,jAa _,rfl⟩
   refine⟨d.dom,trivial,by simp,λk v s hk=> ?_,d.objs,d.inj,d.ids,⟨d.wf.live,λk s hk t ht=> ?_,d.wf.os⟩⟩
   ·obtain⟨rfl,x,y,u,m,p,O,rfl⟩:=I k v s hk;refine⟨λ_=> ?_,λh=>by cases h⟩;have R:us.toArray.getD k undef=u:=by
     simp[jBg,O]
    show RS g' w' st'.live (us.toArray.getD k undef) _;rw[R];exact(M k x y u m p O).2.1
   ·obtain⟨_,x,y,u,m,p,O,rfl⟩:=I k true s hk;exact(M k x y u m p O).2.2 t ht
  obtain⟨g'',hs'',hG'',_⟩:=X.sr J E h0;have hnt: ∀r∈rs,∀l,r≠ .tup l:=by
   intro r hrm l hrl;subst hrl;obtain⟨i,hi⟩:=jBh hrm;obtain⟨s,_,q2,_⟩:=qv3 X.fr _ _ _ (qfr rs 0 i _ hi);exact qzj (q2 rfl)
  refine⟨_,Z,_,g'',ve rs++xf objs',rfl,hG'',hs''.dom,λt ht=>(jAt.1 ht).elim (λh=>jBb _ (qtp hnt t h)) (λh=>jBe _ h),xck (by rw[z,q,hl]) (λi v r h1 h2=> ?_) hnt,⟨hs''.objs,hs''.inj,hs''.ids⟩⟩;have h3:=(hs''.slots (0+i) true r (qfr rs 0 i r h2)).1 rfl;rw[Nat.zero_add]at h3;have R:us.toArray.getD i undef=v:=by simp[jBg,h1]
  have h4:RS g'' w' (ve rs++xf objs') (us.toArray.getD i undef) r:=h3;rw[R]at h4;exact h4
 cases e with
 |normal=>exact qc0 a'.defers w' d E hM' (fin hq)
 |ret=>exact qc0 a'.defers w' d E hM' (fin hq)
 |exit id=>exact hq.elim
end
variable {P:Program}
theorem q4c {g:Ghost} {w:World} {live:List Nat} {t:Nat} {v:Value} {s:ASlot} (h:RC g w live v s) (i:t∉s.toks):RC g w (t::live) v s:=by
 cases s with
 |own t' es rows=>exact⟨h.1,λd=>h.2 (by rcases jAv.1 d with e|d;(subst e;simp[ASlot.toks]at i);exact d)⟩
 |uni t' es rows=>exact⟨h.1,λd=>h.2 (by rcases jAv.1 d with e|d;(subst e;simp[ASlot.toks]at i);exact d)⟩
 | _=>exact h
theorem q9w {g:Ghost} {w:World} {live:List Nat} {t es:Nat} {v:Value} (h:RC g w live v (.d .nilsl)):RC g w live v (.own t es []):=by
 have h:RV g w v .nilsl:=h;cases h;exact⟨.nilsl none 0 es (λ_=>rfl),λ_=> .inl ⟨none,rfl⟩⟩
theorem qwp {f:FuncId} {args:List ASlot} {objs:List AObj} {r:ASlot} {cs:List ASlot} {os:List AObj} (j t es:Nat) (h:qh P f args objs r (.row cs::os)) (hj:cs[j]? =some (.d .nilsl))
  (hr:t∉r.toks) (ho:t∉xf (.row cs::os)) (Z: ∀o∈os,∀a b c d,o≠ .iter a b c d) (F: ∀l,r≠ .tup l):qh P f args objs r (.row (cs.set j (.own t es []))::os):=by
 intro g w vs hd hl hv Y;refine Calls.mono (h g w vs hd hl hv Y) ?_;rintro e w' ⟨v,g',live',h1,h2,h3,h4,h5,O⟩;have X:=qac h5 F;have m: ∀(id:Nat) (o:AObj),(AObj.row cs::os)[id]? =some o-> ∀s∈o.cells,t∉s.toks:=λid o hi s hs hm=>ho (qfn hi s hs t hm);refine⟨v,g',t::live',h1,h2,h3,λu p=> ?_,?_,⟨λid o hi hn=> ?_,O.inj,λb id J=> ?_⟩⟩
 ·simp only[jAt,xf,AObj.cells,jBi]at p;by_cases e:u=t
  ·subst e;exact jA7
  ·refine jA9 _ (h4 u ?_);simp only[jAt,xf,AObj.cells,jBi];rcases p with p|⟨s,hs,p⟩|p
   ·exact .inl p
   ·rcases jD7 hs with hs|rfl
    ·exact .inr (.inl ⟨s,hs,p⟩)
    ·simp[ASlot.toks]at p;exact absurd p e
   ·exact .inr (.inr p)
 ·have:=q4c (t:=t) X hr;cases r with
  |tup l=>exact absurd rfl (F l)
  | _=>exact this
 ·cases id with
  |zero=>
   simp at hi;subst hi;have h0:=O.objs 0 (.row cs) rfl (by simp);rcases h0 with⟨b,J,q⟩|⟨h0,_⟩
   ·refine .inl ⟨b,J,?_⟩;obtain⟨c,e,U,R,M⟩:=q;refine⟨c,e,U,by rw[jCh];exact R,λi s hs=> ?_⟩;by_cases G:j=i
    ·subst G;have hjl:j<cs.length:=(jAd.1 hj).1;rw[jBv hjl]at hs;cases hs;obtain⟨u,E,C,z⟩:=M j _ hj;exact⟨u,E,C,q9w z⟩
    ·rw[jBk G]at hs;obtain⟨u,E,C,z⟩:=M i s hs;exact⟨u,E,C,q4c z (m 0 (.row cs) rfl s (jAe hs))⟩
   ·cases h0;simp at hj
  |succ id=>
   have I:(AObj.row cs::os)[id+1]? =some o:=by simpa using hi
   rcases O.objs (id+1) o I hn with⟨b,J,q⟩|hx
   ·refine .inl ⟨b,J,?_⟩;cases o with
    |none=>exact absurd rfl hn
    |row cs'=>
     obtain⟨c,e,U,R,M⟩:=q;refine⟨c,e,U,R,λi s hs=> ?_⟩;obtain⟨u,E,C,z⟩:=M i s hs;exact⟨u,E,C,q4c z (m (id+1) (.row cs') I s (jAe hs))⟩
    |map es clock=>exact q
    |iter a b c d=>exact absurd rfl (Z _ (jAe (by simpa using hi)) a b c d)
   ·exact .inr hx
 ·obtain⟨o,h1,h2⟩:=O.ids b id J;cases id with
  |zero=>exact⟨_,rfl,by simp⟩
  |succ id=>exact⟨o,by simpa using h1,h2⟩
end Go.Abs
