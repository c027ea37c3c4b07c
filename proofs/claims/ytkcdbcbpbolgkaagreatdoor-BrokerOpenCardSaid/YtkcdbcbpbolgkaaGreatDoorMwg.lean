/- Texts Aq, Ar, As, At, Au, Av, Aw, Ax, Axb. -/
import Derived.Test.YtkcdbcbpbolgkaaGreatDoorMwf
import Derived.TacticsIn
import Derived.OrdersIn
set_option linter.unusedSimpArgs false
set_option linter.unusedVariables false
set_option linter.defProp false
set_option maxRecDepth 100000
noncomputable section
namespace Go.Abs
def Fw (ro:Option Nat):Fence:={Fence.wide with round:=ro}
theorem xly {ro:Option Nat} {n:Nat} {P:Program} {f:FuncId} {args:Array Value} {w:World} {R:Ending->World->Prop} (h:Calls P f args w R):CallsIn (Fw ro) n P f args w R:=
 (callsIn_wide (n:=n)).2 h
theorem qdo {P:Program} {uu oo:Bool} {back:Nat} {d:Op} {x:SOp} (h:xe P uu oo back d=some x): ∀c,d≠ .defer c:=by
 rintro c rfl;simp[xe]at h
def gv (fr:Fr):Option (Nat×Bool) ->Option Bool
 |none=>some true
 |some (k,b)=>match fr.get k with
  |some (v,.d (.bool c))=>some (v&&(c==b))
  | _=>none
def ym (fr:Fr) (dst:Option Nat) (g:Bool) (v:ASlot):Fr:=
 match dst with
 |some d=>(d,g,v)::fr
 |none=>fr
def St.next (st:St) (o:SOper) (g:Bool) (out:Out):St:=
 {fr:=ym st.fr o.dst g out.v,os:=jn st.os out.wrs,live:=qp st.live out,nt:=st.nt}
def Out.tame (out:Out):Prop:=out.wrs= []∧out.cons= []∧out.iss= []
def qkf (fr:Fr) (f:Opd) (args:List Opd):Option (FuncId×List ASlot):=
 match f.get fr with
 | .d (.func (.func k) first caps)=>some (k,first.map .d++args.map (·.get fr)++caps.map .d)
 | _=>none
def ja (tb:Nat) (as fa:List ASlot) (r:ASlot) (fo':List AObj) (ι:List Nat) (q:Bool):Out:=
 {v:=(qe3 tb r).ren ι,ob:=True,cons:=(zk as fa).map (·.1),iss:=(qe3 tb r).toks,mv:=bif q then []else ι.zip (fo'.map (AObj.ren ι)),rds:=bif q then ι else []}
def qek (tb:Nat) (H:List (Nat×Nat)) (R:List Nat) (r:ASlot) (fo':List AObj) (ι:List Nat):Out:=
 {v:=(yd R tb r).ren ι,ob:=True,cons:=H.map (·.1),iss:=(yd R tb r).toks++xi (fo'.map (AObj.rt R tb)),mv:=ι.zip ((fo'.map (AObj.rt R tb)).map (AObj.ren ι))}
structure CallOkT (P:Program) (st:St) (f:Opd) (args:List Opd) (k:FuncId) (as fa:List ASlot) (r:ASlot) (fo fo':List AObj) (ι:List Nat) (H:List (Nat×Nat)) (R:List Nat):Prop where
 callee:qkf st.fr f args=some (k,as)
 ok:f.ok st.fr=true
 oks:(args.all λx=>x.ok st.fr)=true
 contract:qf P k fa fo r fo'
 body:(P.funcs[k]?).any (λfn=>fn.body.isSome&& !(fn.name== "runtime.NumGoroutine"))=true
 hH:H=zk as fa++wz st.os ι fo
 hR:R=r.toks++xi fo'
 fits:Fits st.live as fa ι fo.length H
 objs:ObjFit st.os fo fo' ι
 few:R.length<=16
structure CallOk (P:Program) (st:St) (f:Opd) (args:List Opd) (k:FuncId) (as fa:List ASlot) (r:ASlot) (fo fo':List AObj) (ι:List Nat) (q:Bool):Prop where
 callee:qkf st.fr f args=some (k,as)
 ok:f.ok st.fr=true
 oks:(args.all λx=>x.ok st.fr)=true
 contract:qf P k fa fo r fo'
 body:(P.funcs[k]?).any (λfn=>fn.body.isSome&& !(fn.name== "runtime.NumGoroutine"))=true
 fits:Fits st.live as fa ι fo.length (zk as fa)
 objs:ObjFit st.os fo fo' ι
 noT:xi fo= []∧xi fo'= []
 few:r.toks.length<=16
 quiet:q=true-> ∀p∈ι.zip (fo'.map (AObj.ren ι)),st.os[p.1]? =some p.2
def AOne (P:Program) (tb:Nat) (o:SOper) (st:St) (g:Bool) (out:Out):Prop:=
 gv st.fr o.guard=some g∧(g=true∨out.tame)∧
 match o.op with
 | .call f args=> ∃k as fa r fo fo' ι q,out=ja tb as fa r fo' ι q∧r.toks.length<=16∧(g=true->CallOk P st f args k as fa r fo fo' ι q)
 | .eqnilS neg _=> ∃(b:Bool),out={v:= .d (.bool (if neg then !b else b)),ob:=True}∧g=true
 |op=>out=sem tb op st∧(g=true->out.ob∧ ∀t∈out.cons,t∈st.live)
section
variable {P:Program} {mu:List Nat} {N tb:Nat} {T:Nat→Prop} {g:Ghost} {w:World} {st:St} {a:Act} {oper:Oper} {ops:Array Oper}
theorem v6 {back:Nat} {o:SOper} (h:qei P mu ops N back oper=some o):
  xe P (oper.dst.any mu.contains) (oper.dst.any λd=>mu.contains (d+1000000)) back oper.op=some o.op∧o.dst=oper.dst∧(∀d,oper.dst=some d->d<N)∧
  match oper.guard with
  |none=>o.guard=none
  |some (j,b)=> ∃d,(ops[j]?).bind (·.dst)=some d∧o.guard=some (d,b):=by
 unfold qei at h;split at h
 ·cases h
 ·rename_i op e;split at h
  ·rename_i p;have i: ∀d,oper.dst=some d->d<N:=by
    intro d m;rw[m]at p;simpa using p
   split at h
   ·rename_i l;cases h;exact⟨e,rfl,i,by rw[l]⟩
   ·rename_i j b l;split at h
    ·rename_i d hj;cases h;exact⟨e,rfl,i,by rw[l];exact⟨d,hj,rfl⟩⟩
    ·cases h
  ·cases h
theorem qgk {back:Nat} {o:SOper} {q:Bool} (h:qei P mu ops N back oper=some o) (hs:SR N T g w st a) (i:gv st.fr o.guard=some q):Region.wanted oper (yielded ops a.tmps)=q:=by
 obtain⟨_,_,_,e⟩:=v6 h;cases hq:oper.guard with
 |none=>
  rw[hq]at e;simp only at e;rw[e]at i;simp[gv]at i;simp[Region.wanted,hq,i]
 |some p=>
  obtain⟨j,b⟩:=p;rw[hq]at e;obtain⟨d,hd,e⟩:=e;rw[e]at i;simp only[gv]at i;split at i
  ·rename_i v c l;cases i;obtain⟨h1,h2⟩:=hs.slots d v _ l;simp only[Region.wanted,hq,yielded,hd,Option.bind_some];cases v with
   |true=>
    have:=qas (ws (h1 rfl));have m:a.tmps[d]? =some (.bool c):=by
     cases hx:a.tmps[d]?with
     |none=>simp[jBg,hx,undef]at this
     |some u=>simp[jBg,hx]at this;rw[this]
    rw[m];cases c<;>cases b<;>rfl
   |false=>
    have:=h2 rfl;cases hx:a.tmps[d]?with
    |none=>rfl
    |some u=>
     simp[jBg,hx]at this;rw[this];rfl
  ·cases i
theorem xbt (os:List AObj):jn os []=os:=rfl
theorem xfi {out:Out} (st:St) (hm:out.mv= []):jn st.os out.wrs=(jf st out.wr).os:=by
 unfold Out.wrs;rw[hm,jAu];cases out.wr with
 |none=>rfl
 |some p=>rfl
theorem xfj (o:SOp) (st:St):(sem tb o st).mv= []:=by
 cases o<;>simp only[sem,wy,yu,binS,km,qa3,jt,vh,zn,vw,qbu,ko,qa5,yw,qeh,qa4,yb,Out.bad]<;>(repeat' split)<;>rfl
theorem qt2 (st:St) (x:Option (Nat×AObj)):(jf st x).fr=st.fr∧(jf st x).live=st.live∧(jf st x).nt=st.nt:=by
 unfold jf;split<;>exact⟨rfl,rfl,rfl⟩
theorem xfk {back:Nat} {o:SOper} {out:Out} (h:qei P mu ops N back oper=some o) (hs:SR N T g w st a) (ht:out.tame):
  SR N T g w (st.next o false out) (a.put oper.dst undef):=by
 obtain⟨_,e,hd,_⟩:=v6 h;obtain⟨t1,t2,t3⟩:=ht;have hn:st.next o false out={st with fr:=ym st.fr o.dst false out.v}:=by
  unfold St.next;rw[t1,xbt,xk t2 t3]
 rw[hn,e];cases hdd:oper.dst with
 |none=>exact hs
 |some d=>exact hs.putUndef (hd d hdd)
theorem qdp {back:Nat} {o:SOper} {out:Out} {g':Ghost} {w':World} {v:Value} (h:qei P mu ops N back oper=some o)
  (hs:SR N T g' w' {st with os:=jn st.os out.wrs,live:=qp st.live out} a) (hv:RS g' w' (qp st.live out) v out.v) (htk: ∀t∈out.v.toks,T t):
  SR N T g' w' (st.next o true out) (a.put oper.dst v):=by
 obtain⟨_,e,hd,_⟩:=v6 h;have hn:st.next o true out={({st with os:=jn st.os out.wrs,live:=qp st.live out}:St)with fr:=ym st.fr o.dst true out.v}:=rfl;rw[hn,e];cases hdd:oper.dst with
 |none=>exact hs
 |some d=>exact hs.put (hd d hdd) hv htk
theorem SR.weakT {T':Nat->Prop} (hs:SR N T g w st a) (h: ∀t,T t->T' t):SR N T' g w st a:=
 hs.quiet (Qt.refl T hs.dom _) h (λt ht=>h t (hs.wf.live t ht))
theorem xs2 (hs:SR N T g w st a) {l:List Operand} {r:List Opd} (h:l.mapM qr=some r) (hok:(r.all λx=>x.ok st.fr)=true):
  (l.map a.eval).length=(r.map λx=>x.get st.fr).length∧ ∀(i:Nat) (v:Value) (s:ASlot),(l.map a.eval)[i]? =some v->(r.map λx=>x.get st.fr)[i]? =some s->RS g w st.live v s:=by
 obtain⟨h1,h2⟩:=kr h;refine⟨by simp[h1],λj v s m d=> ?_⟩;simp only[jAn,jAb]at m d;obtain⟨y,hy,rfl⟩:=m;obtain⟨x,e,rfl⟩:=d;exact xh hs (h2 j y x hy e) (jAx.1 hok x (jAe e))
theorem q1c {live:List Nat} {us vs:List Value} {ss ts:List ASlot} (h1:us.length=ss.length) (hr: ∀(i:Nat) (v:Value) (s:ASlot),us[i]? =some v->ss[i]? =some s->RS g w live v s)
  (hq: ∀(i:Nat) (v:Value) (s:ASlot),vs[i]? =some v->ts[i]? =some s->RS g w live v s): ∀(i:Nat) (v:Value) (s:ASlot),(us++vs)[i]? =some v->(ss++ts)[i]? =some s->RS g w live v s:=by
 intro i v s d hs;by_cases hi:i<us.length
 ·rw[jA3 hi]at d;rw[jA3 (by omega)]at hs;exact hr i v s d hs
 ·rw[jBb (by omega)]at d;rw[jBb (by omega),<- h1]at hs;exact hq _ v s d hs
theorem q1d: ∀(l:List (Nat×AObj)) (os:List AObj),(∀p∈l,os[p.1]? =some p.2) ->jn os l=os
 | [],_,_=>rfl
 |(id,o)::l,os,h=>by
  have d:os[id]? =some o:=h (id,o) jA7;have h1:os.set id o=os:=by
   apply jC5;intro j;rw[List.getElem?_set];split
   ·rename_i e;subst e;rw[d,if_pos (jAd.1 d).1]
   ·rfl
  rw[jn,h1];exact q1d l os λp hp=>h p (jA9 _ hp)
theorem qra {f:Operand} {args:Array Operand} {argTypes:Array TypeId} {f':Opd} {m:List Opd} {k:FuncId} {as fa:List ASlot} {r:ASlot} {fo fo':List AObj} {ι:List Nat} {H:List (Nat×Nat)} {R:List Nat} (J:oper.op= .call {callee:= .value f,args,argTypes})
  (hf:qr f=some f') (ha:args.toList.mapM qr=some m) (hs:SR N T g w st a) (af:Fresh T tb) (h:CallOkT P st f' m k as fa r fo fo' ι H R) {K:Act->World->Prop} {Q:Exit->Act->World->Prop}
  (hK: ∀v w' g',G g w g' w'->SR N (Next T tb) g' w' {st with os:=jn st.os (qek tb H R r fo' ι).wrs,live:=qp st.live (qek tb H R r fo' ι)} a->
   RS g' w' (qp st.live (qek tb H R r fo' ι)) v (qek tb H R r fo' ι).v->K (a.put oper.dst v) w') {ro:Option Nat}:oper.wpIn (Fw ro) 0 P a w K Q:=by
 have l:=h.callee;unfold qkf at l;cases hfg:f'.get st.fr with
 |d x=>
  cases x with
  |func fn first caps=>
   cases fn with
   |func k'=>
    rw[hfg]at l;simp only[jA8,jCw]at l;obtain⟨rfl,rfl⟩:=l;have C:=xh hs hf h.ok;rw[hfg]at C;have A:=ws C;generalize ae:a.eval f=fv at A;cases A with
    |func _ vf vc _ _ l1 l2 r1 r2=>
    obtain⟨la,ra⟩:=xs2 hs ha h.oks;have E:=h.body;cases hfn:P.funcs[k']?with
    |none=>rw[hfn]at E;simp at E
    |some fn=>
     rw[hfn]at E;simp only[Option.any_some,jAf]at E;obtain⟨ah,ag⟩:=E;have q:fn.body.isNone=false:=by cases hbb:fn.body<;>simp[hbb]at ah⊢
     have aa:(fn.name== "runtime.NumGoroutine")=false:=by simpa using ag
     have B:(execOp a.eval oper).run P w= .ok (.enter k' (vf++args.toList.map a.eval++vc).toArray) w:=by
      have F:vf.toArray++args.map a.eval++vc.toArray=(vf++args.toList.map a.eval++vc).toArray:=by apply Array.ext';simp
      simp only[execOp,J,resolve,ae,Deferred.ofValue,Sem.run_bind,Sem.run_pure,Result.andThen_ok,invoke,callFunc,run_program,hfn,q,aa,F,jAw,if_false]
     refine⟨λ_ _=>trivial,?_⟩;rw[Oper.semAt_eq _ _ _ (by intro c;rw[J];simp),B];refine⟨(λh=>by cases h),xly ?_⟩;have O:(vf++args.toList.map a.eval++vc).length=(first.map ASlot.d++m.map (λx=>x.get st.fr)++caps.map ASlot.d).length:=by
      simp only[jAc,jAm]at la⊢;omega
     have M:=q1c (g:=g) (w:=w) (live:=st.live) (us:=vf++args.toList.map a.eval) (vs:=vc) (ss:=first.map ASlot.d++m.map λx=>x.get st.fr) (ts:=caps.map ASlot.d) (by simp only[jAc,jAm]at la⊢;omega)
      (q1c (by simp[l1]) (λi v s U p=>by
       simp only[jAn,jAb]at p;obtain⟨d,hd,rfl⟩:=p;exact r1 i v d U hd) ra) (λi v s U p=>by
       simp only[jAn,jAb]at p;obtain⟨d,hd,rfl⟩:=p;exact r2 i v d U hd)
     have ab: ∀id∈ι,id<st.os.length:=by
      intro id ad;obtain⟨j,hj⟩:=jB0.1 ad;by_cases ac:j<fo.length
      ·obtain⟨id',c,u,h2,_⟩:=qeu h.objs.olds j _ (jAa ac);rw[hj]at u;cases u;exact(jAd.1 h2).1
      ·have hm:id∈ι.drop fo.length:=by
        refine jB0.2 ⟨j-fo.length,?_⟩;rw[jFq,show fo.length+(j-fo.length)=j by omega];exact hj
       exact(jAd.1 (h.objs.news id hm)).1
     refine(xfg h.hH h.hR h.contract hs.dom h.fits h.objs tb af h.few hs.objs hs.inj hs.ids O M).mono ?_;rintro e w' ⟨v,g',rfl,hq,hr,o1,o2,o3⟩;have hI: ∀t,t∈(yd R tb r).toks++xi (fo'.map (AObj.rt R tb)) ->tb<=t∧t<tb+16:=λt I=>by
      have:=qm6 h.hR I;have:=h.few;omega
     refine hK v w' g' hq.toG ?_ hr;refine hs.quietX hq (λ_ h=> .inl h) (λt X=> ?_) h.objs.nd (by rw[jAm,jAm];exact h.objs.len) ab o1 o2 o3 (λo J s z t I=> ?_)
     ·rcases jAs.1 X with u|u
      ·exact .inl (hs.wf.live t (jBs.1 u).1)
      ·exact .inr (hI t u)
     ·obtain⟨o0,Z,rfl⟩:=jAo.1 J;refine .inr (hI t (jBc _ ?_));cases o0 with
      |row cs=>
       obtain⟨s0,Y,rfl⟩:=jAo.1 z;rw[q08]at I;exact qq4 Z Y I
      | _=>cases z
   | _=>rw[hfg]at l;simp at l
  | _=>rw[hfg]at l;simp at l
 | _=>rw[hfg]at l;simp at l
theorem xbu {f:Operand} {args:Array Operand} {argTypes:Array TypeId} {f':Opd} {d:List Opd} {k:FuncId} {as fa:List ASlot} {r:ASlot} {fo fo':List AObj} {ι:List Nat} {q:Bool} (ho:oper.op= .call {callee:= .value f,args,argTypes})
  (hf:qr f=some f') (ha:args.toList.mapM qr=some d) (hs:SR N T g w st a) (m:Fresh T tb) (h:CallOk P st f' d k as fa r fo fo' ι q) {K:Act->World->Prop} {Q:Exit->Act->World->Prop}
  (hK: ∀v w' g',G g w g' w'->SR N (Next T tb) g' w' {st with os:=jn st.os (ja tb as fa r fo' ι q).wrs,live:=qp st.live (ja tb as fa r fo' ι q)} a->
   RS g' w' (qp st.live (ja tb as fa r fo' ι q)) v (ja tb as fa r fo' ι q).v->K (a.put oper.dst v) w') {ro:Option Nat}:oper.wpIn (Fw ro) 0 P a w K Q:=by
 have hO:=h.noT.1;have e:=h.noT.2;have i:qek tb (zk as fa) r.toks r fo' ι=ja tb as fa r fo' ι false:=by
  simp only[qek,ja,qe3,xlv e,e,jAu,cond_false]
 have hq:jn st.os (ja tb as fa r fo' ι q).wrs=jn st.os (ja tb as fa r fo' ι false).wrs:=by
  have l:=h.quiet;cases q with
  |false=>rfl
  |true=>
   have:jn st.os (ι.zip (fo'.map (AObj.ren ι)))=st.os:=q1d _ _ (l rfl);simp only[ja,Out.wrs,cond_true,cond_false];exact this.symm
 refine qra ho hf ha hs m (H:=zk as fa) (R:=r.toks) ⟨h.callee,h.ok,h.oks,h.contract,h.body,by rw[qon hO,jAu],by rw[e,jAu],h.fits,h.objs,h.few⟩ (λv w' g' q1 p o=> ?_);rw[i]at p o;refine hK v w' g' q1 ?_ o;rw[hq];exact p
theorem q50 {m oo:Bool} {back:Nat} {i:Op} {f:Opd} {args:List Opd} (h:xe P m oo back i=some (.call f args)):
  ∃e o l,i= .call {callee:= .value e,args:=o,argTypes:=l}∧qr e=some f∧o.toList.mapM qr=some args:=by
 cases i with
 |call c=>
  obtain⟨callee,d,argTypes⟩:=c;cases callee with
  |value e=>
   simp only[xe]at h;split at h
   ·rename_i a0 l0 h2 h3;cases m<;>cases h
    exact⟨e,d,argTypes,rfl,h2,h3⟩
   ·cases h
  |invoke _ _=>simp[xe]at h
  |builtin b=>
   exfalso;cases b<;>simp only[xe,qb2]at h<;>(repeat' split at h)<;>first|(cases h;done)|(simp only[jAb]at h;obtain⟨_,_,h⟩:=h;cases h)
 |makeMap t r=>exfalso;cases r<;>simp[xe]at h
 |next x s=>exfalso;cases s<;>simp[xe]at h
 | _=>
  exfalso;simp only[xe,mkSl,jAb]at h;first
   |(obtain⟨_,_,h⟩:=h;cases h;done)
   |((repeat' split at h)<;>first|(cases h;done)|(simp only[jAb]at h;obtain⟨_,_,h⟩:=h;cases h))
theorem q1e {m oo:Bool} {back:Nat} {i:Op} {f:Opd} {args:List Opd} (h:xe P m oo back i=some (.callT f args)):
  ∃e o l,i= .call {callee:= .value e,args:=o,argTypes:=l}∧qr e=some f∧o.toList.mapM qr=some args:=by
 cases i with
 |call c=>
  obtain⟨callee,d,argTypes⟩:=c;cases callee with
  |value e=>
   simp only[xe]at h;split at h
   ·rename_i a0 l0 h2 h3;cases m<;>cases h
    exact⟨e,d,argTypes,rfl,h2,h3⟩
   ·cases h
  |invoke _ _=>simp[xe]at h
  |builtin b=>
   exfalso;cases b<;>simp only[xe,qb2]at h<;>(repeat' split at h)<;>first|(cases h;done)|(simp only[jAb]at h;obtain⟨_,_,h⟩:=h;cases h)
 |makeMap t r=>exfalso;cases r<;>simp[xe]at h
 |next x s=>exfalso;cases s<;>simp[xe]at h
 | _=>
  exfalso;simp only[xe,mkSl,jAb]at h;first
   |(obtain⟨_,_,h⟩:=h;cases h;done)
   |((repeat' split at h)<;>first|(cases h;done)|(simp only[jAb]at h;obtain⟨_,_,h⟩:=h;cases h))
theorem qbj (a:Act) (d:Option Tmp) (v:Value):(a.put d v).defers=a.defers:=by cases d<;>rfl
theorem xrq {back:Nat} {o:SOper} {C:Bool} {out:Out} {K:Act->World->Prop} {Q:Exit->Act->World->Prop} (hc:qei P mu ops N back oper=some o) (hs:SR N T g w st a) (q:Fresh T tb)
  (h1:AOne P tb o st C out) (p:o.op.isNilS=false) (B: ∀a' w' g',a'.defers=a.defers->G g w g' w'->SR N (Next T tb) g' w' (st.next o C out) a'->K a' w') {ro:Option Nat}:
  if Region.wanted oper (yielded ops a.tmps)then oper.wpIn (Fw ro) 0 P a w K Q else((∀f,oper.about P w a.eval=some f->(Fw ro).fn f)∧K (a.put oper.dst undef) w):=by
 obtain⟨A,l,d⟩:=h1;rw[qgk hc hs A];cases C with
 |false=>
  rw[if_neg (by simp)];exact⟨λ_ _=>trivial,B _ _ g (qbj ..) (G.refl g w) ((xfk hc hs (by simpa using l)).weakT λ_ h=> .inl h)⟩
 |true=>
  rw[if_pos rfl];obtain⟨e,_,_,_⟩:=v6 hc;have plain:out=sem tb o.op st->(out.ob∧ ∀t∈out.cons,t∈st.live) ->oper.wpIn (Fw ro) 0 P a w K Q:=by
   intro he m;subst he;obtain⟨n,v,w',g',r1,r2,r3,r4,r5,r6⟩:=xfh e hs q m.1 m.2;refine⟨λ_ _=>trivial,?_⟩;rw[Oper.semAt_eq _ _ _ (qdo e),r1];have i:=B _ _ g' (qbj ..) r3 (qdp hc (by rw[xfi st (xfj _ _)];have:=qt2 st (sem tb o.op st).wr;exact(by rw[<- this.1,<- this.2.2];exact r4)) r5 r6);rcases r2 with rfl|⟨rfl,rfl⟩
   ·exact i
   ·exact i
  cases hoo:o.op with
  |call f args=>
   rw[hoo]at d e;obtain⟨k,as,fa,r,fo,fo',ι,qb,rfl,hfew,hok⟩:=d;have hok:=hok rfl;obtain⟨f0,ma,aty,z,h2,h3⟩:=q50 e;refine xbu z h2 h3 hs q hok (λv w' g' q1 q2 q3=>B _ _ g' (qbj ..) q1 (qdp hc q2 q3 (λt u=> ?_)));have u:t∈((qe3 tb r).ren ι).toks:=u;rw[qxb]at u;have:=qur u;exact .inr ⟨by omega,by omega⟩
  |eqnilS neg x=>rw[hoo]at p;simp[SOp.isNilS]at p
  | _=>rw[hoo]at d;exact plain (by rw[hoo];exact d.1) (d.2 rfl)
end
def Out.touch (out:Out):List Nat:=out.wrs.map (·.1)++(out.rd.toList++out.rds)
def Out.tags (out:Out):List Nat:=out.wrs.map (·.1)++(out.wrs.map (λp=>1000000+p.1)++(out.rd.toList++out.rds.map λi=>1000000+i))
theorem qut {x y:Out} {id:Nat} (e:id∈x.touch) (d:id∈y.wrs.map (·.1)): ∃i,i∈x.tags∧i∈y.tags:=by
 have hy:1000000+id∈y.wrs.map (λp=>1000000+p.1):=by
  grind
 unfold Out.touch at e;unfold Out.tags;rcases jAs.1 e with h|h
 ·exact⟨id,jBa _ h,jBa _ d⟩
 ·rcases jAs.1 h with h|h
  ·exact⟨id,jBc _ (jBc _ (jBa _ h)),jBa _ d⟩
  ·exact⟨1000000+id,jBc _ (jBc _ (jBc _ (jAo.2 ⟨id,h,rfl⟩))),jBc _ (jBa _ hy)⟩
def quu (neg b:Bool):Out:={v:= .d (.bool (if neg then !b else b)),ob:=True}
def qg7:Out:={v:=qph,ob:=True}
def qrb (h mid since:Nat) (seen:List Nat) (clock:Nat) (e:Nat×D×D):Out:={v:=entV e,ob:=True,wr:=some (h,.iter (.d (.map mid)) since (seen++ [e.1]) clock)}
def qrc (id e es n:Nat) (os:List AObj) (r:Src):Out:={v:= .d (.ref e 0 es (n+r.rows.length)),ob:=True,wr:=some (e,.row (qae os id es n r))}
def qg8 (e:Nat×D×D):Out:={v:= .tup [.d e.2.1,.d e.2.2],ob:=True}
def Obl (g:Bool) (out:Out) (live:List Nat):Prop:=(g=true->out.ob∧ ∀t∈out.cons,t∈live)∧(g=true∨out.tame)
def ARun (P:Program):List SOper->Nat->List (List Nat) ->(List (List Nat) ->St->Prop) ->St->Prop
 | [],_,tids,K,st=>K tids st
 |o::ops,k,tids,K,st=>
  match gv st.fr o.guard with
  |none=>False
  |some g=>
   match o.op with
   | .call f args=> ∃n as fa r fo fo' ι q,r.toks.length<=16∧(g=true->CallOk P st f args n as fa r fo fo' ι q)∧(g=true∨(ja (16*(st.nt+k)) as fa r fo' ι q).tame)∧
     ARun P ops (k+1) (tids++ [(ja (16*(st.nt+k)) as fa r fo' ι q).tags]) K (st.next o g (ja (16*(st.nt+k)) as fa r fo' ι q))
   | .eqnilS neg x=>g=true∧x.ok st.fr=true∧ ∃es rows,(x.get st.fr).rows=some (es,rows)∧
     ∀b:Bool,(b=true->rows= []) ->ARun P ops (k+1) (tids++ [[]]) K (st.next o g (quu neg b))
   | .nextM x=>g=true∧x.ok st.fr=true∧ ∃h,x.get st.fr= .d (.ptr h 0)∧
     ((∃since seen last,st.os[h]? =some (.iter (.d .nilmap) since seen last)∧ARun P ops (k+1) (tids++ [[]]) K (st.next o g qg7))∨
      ∃mid since seen last es clock,IterOn st.os h mid since seen last es clock∧(qf8 es seen= [] ->ARun P ops (k+1) (tids++ [[]]) K (st.next o g qg7))∧
       ∀e∈qf8 es seen,ARun P ops (k+1) (tids++ [[]]) K (st.next o g (qrb h mid since seen clock e)))
   | .appendR back es bytes s x=>g=true∧(((sem (16*(st.nt+k)) (.appendO back es bytes s x) st).ob∧ARun P ops (k+1) (tids++ [[]]) K (st.next o g (sem (16*(st.nt+k)) (.appendO back es bytes s x) st)))∨
     (s.ok st.fr=true∧x.ok st.fr=true∧ ∃id n r,s.get st.fr= .d (.ref id 0 es n)∧qar es st.os (x.get st.fr)=some r∧AppR st.os es bytes back id n r∧
      ARun P ops (k+1) (tids++ [[]]) K (st.next o g (qrc id id es n st.os r))∧ARun P ops (k+1) (tids++ [[]]) K (st.next o g (qrc id (st.os.length-back) es n st.os r))))
   | .callT f args=>g=true∧ ∃n as fa r fo fo' ι H R,CallOkT P st f args n as fa r fo fo' ι H R∧ARun P ops (k+1) (tids++ [[]]) K (st.next o g (qek (16*(st.nt+k)) H R r fo' ι))
   | .entryM x=>g=true∧x.ok st.fr=true∧ ∃h mid since seen clock es e,x.get st.fr= .d (.ptr h 0)∧EntryOn st.os h mid since seen clock es e∧
     ARun P ops (k+1) (tids++ [[]]) K (st.next o g (qg8 e))
   |op=>Obl g (sem (16*(st.nt+k)) op st) st.live∧ARun P ops (k+1) (tids++ [(sem (16*(st.nt+k)) op st).tags]) K (st.next o g (sem (16*(st.nt+k)) op st))
def qgb (d:List (Nat×Nat)) (tids:List (List Nat)):Prop:=
 ∀p∈d,∀i∈tids.getD p.1 [],i∉tids.getD p.2 []
def St.grow (st:St) (n:Nat):St:={st with os:=st.os++List.replicate n .none}
def St.bump (st:St) (n:Nat):St:={st with nt:=st.nt+n}
def xfl (P:Program) (ops:List SOper) (objs:Nat) (d:List (Nat×Nat)) (Q:St->Prop) (st:St):Prop:=
 ARun P ops 0 [] (λtids st'=>qgb d tids∧Q (st'.bump ops.length)) (st.grow objs)
section
variable {P:Program} {mu:List Nat} {N tb:Nat} {T:Nat→Prop} {g:Ghost} {w:World} {st:St} {a:Act} {ops:Array Oper}
theorem qd4 (os:List AObj) (n id:Nat) (o:AObj) (ho:o≠ .none):(os++List.replicate n AObj.none)[id]? =some o↔os[id]? =some o:=by
 grind
theorem SR.grow (hs:SR N T g w st a) (n:Nat):SR N T g w (st.grow n) a:=by
 refine⟨hs.dom,hs.defers,hs.size,hs.slots,λid o d hn=>hs.objs id o ((qd4 _ _ _ _ hn).1 d) hn,hs.inj,λb id hb=> ?_,⟨hs.wf.live,hs.wf.fr,λid o d s e t ht=> ?_⟩⟩
 ·obtain⟨o,d,hn⟩:=hs.ids b id hb;exact⟨o,(qd4 _ _ _ _ hn).2 d,hn⟩
 ·by_cases hn:o= .none
  ·grind[AObj.cells]
  ·exact hs.wf.os id o ((qd4 _ _ _ _ hn).1 d) s e t ht
theorem SR.bump (hs:SR N T g w st a) (n:Nat):SR N T g w (st.bump n) a:=⟨hs.dom,hs.defers,hs.size,hs.slots,hs.objs,hs.inj,hs.ids,⟨hs.wf.live,hs.wf.fr,hs.wf.os⟩⟩
def below (n:Nat):Nat->Prop:=λt=>t<16*n
theorem qrd (n:Nat):Fresh (below n) (16*n):=λt h h2=>by grind[below]
theorem quv (n:Nat): ∀t,Next (below n) (16*n) t->below (n+1) t:=by
 intro t h;unfold below at*;rcases h with h|h
 ·omega
 ·omega
theorem qb4 (st:St) (o:SOper) (g:Bool) (out:Out):(st.next o g out).nt=st.nt:=rfl
theorem q51 {m oo:Bool} {back:Nat} {l:Op} {neg:Bool} {x:Opd} (h:xe P m oo back l=some (.eqnilS neg x)):
  ∃t i d u e,l= .binOp (if neg then .neq else .eql) t i d u∧qr i=some x∧P.underlying t=some (.slice e)∧qjj d=true:=by
 cases l with
 |binOp op t i d u=>
  simp only[xe]at h;split at h
  ·cases h
  ·cases h
  ·grind
  ·rename_i a b e h1 h2 h3;split at h
   ·rename_i hy;split at h
    ·cases h;grind
    ·cases h;grind
    grind
   grind
  all_goals grind
 |call c=>
  exfalso;obtain⟨callee,margs,argTypes⟩:=c;cases callee with
  |value f0=>cases m<;>simp only[xe,q0n]at h<;>grind
  |invoke _ _=>simp[xe]at h
  |builtin b=>cases b<;>simp only[xe,qb2]at h<;>(repeat' split at h)<;>first|grind|simp_all
 |makeMap t r=>exfalso;cases r<;>simp[xe]at h
 |next x s=>exfalso;cases s<;>simp[xe]at h
 | _=>
  exfalso;simp only[xe,mkSl,jAb]at h;first
   |(obtain⟨_,_,h⟩:=h;cases h;done)
   |((repeat' split at h)<;>first|(cases h;done)|(simp only[jAb]at h;obtain⟨_,_,h⟩:=h;cases h))
theorem q1f {i oo:Bool} {back:Nat} {e:Op} {x:Opd} (h:xe P i oo back e=some (.nextM x)): ∃d,e= .next d false∧qr d=some x:=by
 cases e with
 |next d s=>
  cases s with
  |false=>
   simp only[xe,mkSl,jAb]at h;grind
  |true=>simp[xe]at h
 |call c=>
  exfalso;obtain⟨callee,margs,argTypes⟩:=c;cases callee with
  |value f0=>cases i<;>simp only[xe,q0n]at h<;>grind
  |invoke _ _=>simp[xe]at h
  |builtin b=>cases b<;>simp only[xe,qb2]at h<;>(repeat' split at h)<;>first|grind|simp_all
 |makeMap t r=>exfalso;cases r<;>simp[xe]at h
 | _=>
  exfalso;simp only[xe,mkSl,jAb]at h;first
   |(obtain⟨_,_,h⟩:=h;cases h;done)
   |((repeat' split at h)<;>first|(cases h;done)|(simp only[jAb]at h;obtain⟨_,_,h⟩:=h;cases h))
theorem qt3 {m A:Bool} {back B es bytes:Nat} {o:Op} {s' x':Opd} (h:xe P m A back o=some (.appendR B es bytes s' x')):
  ∃q p t u e i z,o= .call {callee:= .builtin .append,args:= #[q,p],argTypes:= #[t,u]}∧P.underlying t=some (.slice e)∧P.info? e=some i∧jm P e=some z∧i.size=z.length∧0<i.bytes∧
   ((∃f,P.underlying u=some (.slice f))∨P.underlying u=some .string)∧qr q=some s'∧qr p=some x'∧es=i.size∧bytes=i.bytes:=by
 have mk: ∀{a b:Nat} {y v:Opd},some (qb2 m A back a b y v)=some (SOp.appendR B es bytes s' x') ->es=a∧bytes=b∧s'=y∧x'=v:=by
  intro a b y v h;unfold qb2 at h;grind
 cases o with
 |call c=>
  obtain⟨callee,d,argTypes⟩:=c;cases callee with
  |value f0=>exfalso;cases m<;>simp only[xe,q0n]at h<;>grind
  |invoke _ _=>simp_all[xe]
  |builtin b=>
   by_cases l:b= .append
   ·subst l;simp only[xe]at h;split at h
    ·rename_i s x t u ha hty;have ea:d= #[s,x]:=by grind
     have et:argTypes= #[t,u]:=by grind
     grind
    grind
   ·exfalso;cases b<;>simp only[xe,qb2]at h<;>(repeat' split at h)<;>first|grind|grind|simp_all
 |makeMap t r=>exfalso;cases r<;>simp[xe]at h
 |next x s=>exfalso;cases s<;>simp[xe]at h
 | _=>
  exfalso;simp only[xe,mkSl,jAb]at h;first
   |(obtain⟨_,_,h⟩:=h;cases h;done)
   |((repeat' split at h)<;>first|(cases h;done)|(simp only[jAb]at h;obtain⟨_,_,h⟩:=h;cases h))
theorem qxd {i oo:Bool} {back:Nat} {e:Op} {x:Opd} (h:xe P i oo back e=some (.entryM x)): ∃d,e= .entry d∧qr d=some x:=by
 cases e with
 |entry d=>
  simp only[xe,mkSl,jAb]at h;grind
 |next x s=>exfalso;cases s<;>simp[xe]at h
 |call c=>
  exfalso;obtain⟨callee,margs,argTypes⟩:=c;cases callee with
  |value f0=>cases i<;>simp only[xe,q0n]at h<;>grind
  |invoke _ _=>simp[xe]at h
  |builtin b=>cases b<;>simp only[xe,qb2]at h<;>(repeat' split at h)<;>first|grind|simp_all
 |makeMap t r=>exfalso;cases r<;>simp[xe]at h
 | _=>
  exfalso;simp only[xe,mkSl,jAb]at h;first
   |(obtain⟨_,_,h⟩:=h;cases h;done)
   |((repeat' split at h)<;>first|(cases h;done)|(simp only[jAb]at h;obtain⟨_,_,h⟩:=h;cases h))
theorem qif {ro:Option Nat} {Q:Exit->Act->World->Prop}: ∀(l:List Oper) (sops:List SOper) (k:Nat) (tids:List (List Nat)) (K:List (List Nat) ->St->Prop) (st:St) (g:Ghost) (w:World) (a:Act),
  qf9 P mu N ops l=some sops->ARun P sops k tids K st->SR N (below (st.nt+k)) g w st a->
  (∀d st' a' w' g',a'.defers=a.defers->K d st'->st'.nt=st.nt->G g w g' w'->SR N (below (st.nt+k+sops.length)) g' w' st' a'->Q .normal a' w') ->wpListIn (Fw ro) 0 P ops Q l a w
 | [],sops,k,tids,K,st,g,w,a,hc,hr,hs,hQ=>by
  simp[qf9]at hc;subst hc;exact hQ tids st a w g rfl hr rfl (G.refl g w) (by omega)
 |oper::l,sops,k,tids,K,st,g,w,a,hc,hr,hs,hQ=>by
  simp only[qf9]at hc;split at hc
  ·rename_i o rest F h2;cases hc;simp only[ARun]at hr;cases hg:gv st.fr o.guard with
   |none=>grind
   |some gb=>
    rw[hg]at hr;have af: ∀out:Out,AOne P (16*(st.nt+k)) o st gb out->o.op.isNilS=false->(∃td,ARun P rest (k+1) (tids++ [td]) K (st.next o gb out)) ->wpListIn (Fw ro) 0 P ops Q (oper::l) a w:=by
     rintro out h3 aj ⟨td,h4⟩;refine wpListIn_step (λK' p=>xrq F hs (qrd _) h3 aj (λa' w' g' ak hG ai=>p a' w' ?_));refine qif l rest (k+1) (tids++ [td]) K (st.next o gb out) g' w' a' h2 h4 (by rw[qb4,<- Nat.add_assoc];exact ai.weakT (quv _)) (λd st' a'' w'' g'' X M J I q4=>hQ d st' a'' w'' g'' (X.trans ak) M J (hG.trans I) ?_);grind[qb4,List.length_cons]
    cases hop:o.op with
    |call f args=>
     rw[hop]at hr;obtain⟨n,as,fa,r,fo,fo',ι,q,r1,U,Z,r4⟩:=hr;exact af _ ⟨hg,Z,by grind⟩ (by rw[hop];rfl) ⟨_,r4⟩
    |eqnilS neg x=>
     rw[hop]at hr;obtain⟨r1,U,es,rows,Z,r4⟩:=hr;subst r1;obtain⟨m,O,hd,_⟩:=v6 F;rw[hop]at m;obtain⟨t,x0,y0,u,e,C,hx,ht,hy⟩:=q51 m;obtain⟨b,hb,v,B,A⟩:=q02 C ht hx hy hs U Z;refine wpListIn_step (λK' p=> ?_);rw[qgk F hs hg,if_pos rfl];refine⟨λ_ _=>trivial,?_⟩;rw[Oper.semAt_eq _ _ _ (qdo m),B];refine p _ _ (qif l rest (k+1) _ K (st.next o true (quu neg b)) g w (a.put oper.dst v) h2 (r4 b hb) ?_ (λd st' a'' w'' g'' X M J I q4=>hQ d st' a'' w'' g'' (X.trans (qbj ..)) M J I ?_))
     ·refine qdp F ?_ ?_ (by simp[quu,ASlot.toks])
      ·have:qp st.live (quu neg b)=st.live:=xk rfl rfl;rw[this];exact(hs.weakT λt h=>by grind[qb4,below])
      ·exact A
     grind[qb4,List.length_cons]
    |nextM x=>
     rw[hop]at hr;obtain⟨r1,U,ab,Z,r4⟩:=hr;subst r1;obtain⟨m,O,hd,_⟩:=v6 F;rw[hop]at m;obtain⟨x0,C,hx⟩:=q1f m;refine wpListIn_step (λK' p=> ?_);rw[qgk F hs hg,if_pos rfl];refine⟨λ_ _=>trivial,?_⟩;rw[Oper.semAt_eq _ _ _ (qdo m)];have xy5:(∃v,(execOp a.eval oper).run P w= .ok (.value v) w∧RS g w st.live v qph) ->ARun P rest (k+1) (tids++ [[]]) K (st.next o true qg7) ->
       (match (execOp a.eval oper).run P w with| .ok n w'=>(match n with| .value v=>K' (a.put oper.dst v) w'| _=>True)| _=>True)∧ ∃v,(execOp a.eval oper).run P w= .ok (.value v) w∧wpListIn (Fw ro) 0 P ops Q l (a.put oper.dst v) w:=by
      rintro⟨v,B,A⟩ ad;have hfin:wpListIn (Fw ro) 0 P ops Q l (a.put oper.dst v) w:=by
       refine qif l rest (k+1) _ K (st.next o true qg7) g w (a.put oper.dst v) h2 ad ?_ (λd st' a'' w'' g'' X M J I q4=>hQ d st' a'' w'' g'' (X.trans (qbj ..)) M J I ?_)
       ·refine qdp F ?_ ?_ (by simp[qg7,qph,ASlot.toks,qch])
        ·have:qp st.live qg7=st.live:=xk rfl rfl;rw[this];exact(hs.weakT λt h=>by grind[qb4,below])
        ·have:qp st.live qg7=st.live:=xk rfl rfl;rw[this];exact A
       grind[qb4,List.length_cons]
      grind
     rcases r4 with⟨since,seen,last,r5,r6⟩|⟨mid,since,seen,last,es,clock,r5,r6,r7⟩
     ·obtain⟨v,hv,ac⟩:=(xy5 (q06 C hx hs U Z r5) r6).2;rw[hv];exact p _ _ ac
     ·rcases xbp C hx hs U Z r5 with⟨hl,hov⟩|⟨e,he,v,w',B,A,E,Y⟩
      ·obtain⟨v,hv,ac⟩:=(xy5 hov (r6 hl)).2;rw[hv];exact p _ _ ac
      ·rw[B];refine p _ _ (qif l rest (k+1) _ K (st.next o true (qrb ab mid since seen clock e)) g w' (a.put oper.dst v) h2 (r7 e he) ?_ (λd st' a'' w'' g'' X M J I q4=>hQ d st' a'' w'' g'' (X.trans (qbj ..)) M J (A.trans I) ?_))
       ·refine qdp F ?_ ?_ (by simp[qrb,entV,ASlot.toks,qch])
        ·have:qp st.live (qrb ab mid since seen clock e)=st.live:=xk rfl rfl;rw[this];exact(E.weakT λt h=>by grind[qb4,below])
        ·have:qp st.live (qrb ab mid since seen clock e)=st.live:=xk rfl rfl;rw[this];exact Y
       grind[qb4,List.length_cons]
    |appendR back es bytes s' x'=>
     rw[hop]at hr;obtain⟨r1,U⟩:=hr;subst r1;obtain⟨m,O,hd,_⟩:=v6 F;rw[hop]at m;obtain⟨s0,x0,t,u,e,i,z,C,M,J,I,q4,q5,q6,q7,q8,rfl,rfl⟩:=qt3 m;have go: ∀{out:Out} {v:Value} {w':World} {g':Ghost},out.cons= [] ->out.iss= [] ->out.v.toks= [] ->(execOp a.eval oper).run P w= .ok (.value v) w'->G g w g' w'->SR N (below (st.nt+k)) g' w' (jf st out.wr) a->RS g' w' st.live v out.v->out.mv= [] ->
       ARun P rest (k+1) (tids++ [[]]) K (st.next o true out) ->wpListIn (Fw ro) 0 P ops Q (oper::l) a w:=by
      intro out v w' g' aa ae htoks B A E Y ah ad;refine wpListIn_step (λK' p=> ?_);rw[qgk F hs hg,if_pos rfl];refine⟨λ_ _=>trivial,?_⟩;rw[Oper.semAt_eq _ _ _ (qdo m),B];have hl:qp st.live out=st.live:=xk aa ae;have ag:jf st out.wr={st with os:=jn st.os out.wrs}:=by
       unfold Out.wrs;rw[ah];cases out.wr<;>simp[jf,jn]
      rw[ag]at E;refine p _ _ (qif l rest (k+1) _ K (st.next o true out) g' w' (a.put oper.dst v) h2 ad ?_ (λd st' a'' w'' g'' X M J I q4=>hQ d st' a'' w'' g'' (X.trans (qbj ..)) M J (A.trans I) ?_))
      ·refine qdp F ?_ ?_ (by grind)
       ·rw[hl];exact(E.weakT λt h=>by grind[qb4,below])
       grind
      grind[qb4,List.length_cons]
     rcases U with⟨Z,r4⟩|⟨o1,o2,id,n,r,k1,k2,k3,k4,k5⟩
     ·grind[qoj,sem,jt,Out.bad,ASlot.toks]
     ·obtain⟨v,w',g',B,A,hv⟩:=q07 C M J I q4 q5 q6 q7 q8 hs o1 o2 k1 k2 k3;rcases hv with⟨E,Y⟩|⟨E,Y⟩
      ·exact go (out:=qrc id id i.size n st.os r) rfl rfl rfl B A E Y rfl k4
      ·exact go (out:=qrc id (st.os.length-back) i.size n st.os r) rfl rfl rfl B A E Y rfl k5
    |callT f args=>
     rw[hop]at hr;obtain⟨r1,n,as,fa,r,fo,fo',ι,H,R,U,Z⟩:=hr;subst r1;obtain⟨m,O,hd,_⟩:=v6 F;rw[hop]at m;obtain⟨f0,ma,aty,C,m2,m3⟩:=q1e m;refine wpListIn_step (λK' p=> ?_);rw[qgk F hs hg,if_pos rfl];refine qra C m2 m3 hs (qrd _) U (λv w' g' e1 e2 e3=>p _ _ (qif l rest (k+1) _ K (st.next o true (qek (16*(st.nt+k)) H R r fo' ι)) g' w' (a.put oper.dst v) h2 Z ?_ (λd st' a'' w'' g'' X M J I q4=>hQ d st' a'' w'' g'' (X.trans (qbj ..)) M J (e1.trans I) ?_)))
     ·rw[qb4,<- Nat.add_assoc];refine(qdp F e2 e3 (λt ht=> ?_)).weakT (quv _);have ht:t∈((yd R (16*(st.nt+k)) r).ren ι).toks:=ht;rw[qxb]at ht;have:=qm6 U.hR (List.mem_append_left _ ht);have:=U.few;exact .inr ⟨by omega,by omega⟩
     grind[qb4,List.length_cons]
    |entryM x=>
     rw[hop]at hr;obtain⟨r1,U,ab,mid,since,seen,clock,es,e,Z,r4,r5⟩:=hr;subst r1;obtain⟨m,O,hd,_⟩:=v6 F;rw[hop]at m;obtain⟨x0,C,hx⟩:=qxd m;obtain⟨v,B,A⟩:=q5x C hx hs U Z r4;refine wpListIn_step (λK' p=> ?_);rw[qgk F hs hg,if_pos rfl];refine⟨λ_ _=>trivial,?_⟩;rw[Oper.semAt_eq _ _ _ (qdo m),B];refine p _ _ (qif l rest (k+1) _ K (st.next o true (qg8 e)) g w (a.put oper.dst v) h2 r5 ?_ (λd st' a'' w'' g'' X M J I q4=>hQ d st' a'' w'' g'' (X.trans (qbj ..)) M J I ?_))
     ·refine qdp F ?_ ?_ (by simp[qg8,ASlot.toks,qch])
      ·have:qp st.live (qg8 e)=st.live:=xk rfl rfl;rw[this];exact(hs.weakT λt h=>by grind[qb4,below])
      ·have:qp st.live (qg8 e)=st.live:=xk rfl rfl;rw[this];exact A
     grind[qb4,List.length_cons]
    | _=>
     rw[hop]at hr;exact af _ ⟨hg,hr.1.2,by rw[hop];exact⟨rfl,hr.1.1⟩⟩ (by rw[hop];rfl) ⟨_,hr.2⟩
  grind
end
abbrev Done:=SOper×Bool×Out
def Chain (P:Program):List Done->Nat->St->Prop
 | [],_,_=>True
 |(o,g,out)::l,k,st=>AOne P (16*(st.nt+k)) o st g out∧Chain P l (k+1) (st.next o g out)
def ap (S:Nat->Bool):List Done->Nat->St->St
 | [],_,st=>st
 |(o,g,out)::l,k,st=>ap S l (k+1) (if S k then st.next o g out else st)
theorem qly {P:Program}: ∀(sops:List SOper) (k:Nat) (tids:List (List Nat)) (K:List (List Nat) ->St->Prop) (st:St),ARun P sops k tids K st->(sops.any λo=>o.op.isNilS)=false->
  ∃l:List Done,l.map (·.1)=sops∧Chain P l k st∧K (tids++l.map λd=>d.2.2.tags) (ap (λ_=>true) l k st)
 | [],k,tids,K,st,h,_=>⟨[],rfl,trivial,by grind[ap,ARun]⟩
 |o::sops,k,tids,K,st,h,hn=>by
  simp only[List.any_cons,Bool.or_eq_false_iff]at hn;simp only[ARun]at h;cases hg:gv st.fr o.guard with
  |none=>grind
  |some gb=>
   rw[hg]at h;have e: ∀(out:Out) (i:List Nat),AOne P (16*(st.nt+k)) o st gb out->ARun P sops (k+1) (tids++ [i]) K (st.next o gb out) ->out.tags=i->
     ∃l:List Done,l.map (·.1)=o::sops∧Chain P l k st∧K (tids++l.map λd=>d.2.2.tags) (ap (λ_=>true) l k st):=by
    intro out i h1 h2 h3;obtain⟨l,q1,q2,q3⟩:=qly sops (k+1) _ K _ h2 hn.2;refine⟨(o,gb,out)::l,by simp[q1],⟨h1,q2⟩,?_⟩;simp_all[List.map_cons,ap,if_true,List.append_assoc]
   cases hop:o.op with
   |call f args=>
    rw[hop]at h;obtain⟨n,as,fa,r,fo,fo',ι,q,r1,r2,r3,r4⟩:=h;exact e _ _ ⟨hg,r3,by grind⟩ r4 rfl
   |eqnilS neg x=>grind[SOp.isNilS]
   |nextM x=>grind[SOp.isNilS]
   |appendR _ _ _ _ _=>grind[SOp.isNilS]
   |callT _ _=>grind[SOp.isNilS]
   |entryM x=>grind[SOp.isNilS]
   | _=>
    rw[hop]at h;exact e _ _ ⟨hg,h.1.2,by rw[hop];exact⟨rfl,h.1.1⟩⟩ h.2 rfl
theorem xwd (S:Nat->Bool): ∀(l:List Done) (k:Nat) (st:St),(ap S l k st).nt=st.nt
 | [],_,_=>rfl
 |(o,g,out)::l,k,st=>by
  simp only[ap];rw[xwd S l];split<;>rfl
theorem qig (S:Nat->Bool): ∀(l:List Done) (k:Nat) (st:St),(ap S l k st).os.length=st.os.length
 | [],_,_=>rfl
 |(o,g,out)::l,k,st=>by
  simp only[ap];rw[qig S l];split
  ·exact qg6 out.wrs st.os
  ·rfl
theorem qlz (fr:Fr) (dst:Option Nat) (g:Bool) (v:ASlot) (k:Nat):(ym fr dst g v).get k=if dst=some k then some (g,v)else fr.get k:=by
 cases dst with
 |none=>rfl
 |some d=>
  simp[ym,Fr.get_cons,jA8]
theorem q87 (S S':Nat->Bool) (s:Nat): ∀(l:List Done) (k:Nat) (st st':St),st.fr.get s=st'.fr.get s->
  (∀(j:Nat) (d:Done),l[j]? =some d->d.1.dst=some s->S (k+j)=S' (k+j)) ->(ap S l k st).fr.get s=(ap S' l k st').fr.get s
 | [],k,st,st',h,_=>h
 |(o,g,out)::l,k,st,st',h,hw=>by
  simp only[ap];refine q87 S S' s l (k+1) _ _ ?_ (λj d hj e=>by have:=hw (j+1) d (by grind) e;grind);by_cases e:o.dst=some s
  ·have:=hw 0 (o,g,out) rfl e;rw[Nat.add_zero]at this;rw[this];split;all_goals simp_all[St.next,qlz,if_true]
  ·have: ∀x:St,(x.next o g out).fr.get s=x.fr.get s:=λx=>by simp only[St.next,qlz,if_neg e]
   grind
theorem q88 (S S':Nat->Bool) (id:Nat): ∀(l:List Done) (k:Nat) (st st':St),st.os[id]? =st'.os[id]? ->st.os.length=st'.os.length->
  (∀(j:Nat) (d:Done),l[j]? =some d->id∈d.2.2.wrs.map (·.1) ->S (k+j)=S' (k+j)) ->(ap S l k st).os[id]? =(ap S' l k st').os[id]?
 | [],k,st,st',h,_,_=>h
 |(o,g,out)::l,k,st,st',h,hl,hw=>by
  simp only[ap];have e: ∀x:St,(x.next o g out).os.length=x.os.length:=λx=>qg6 out.wrs x.os;refine q88 S S' id l (k+1) _ _ ?_ (by split<;>split<;>simp only[e,hl]) (λj d hj i=>by have:=hw (j+1) d (by simpa using hj) i;rw[show k+1+j=k+(j+1) by omega];exact this);have p: ∀x:St,(x.next o g out).os[id]? =(jn x.os out.wrs)[id]? :=λx=>rfl;by_cases i:id∈out.wrs.map (·.1)
  ·have:=hw 0 (o,g,out) rfl i;rw[Nat.add_zero]at this;rw[this];split
   ·rw[p,p];exact qko _ _ _ _ hl (.inl i)
   ·exact h
  ·have m: ∀x:St,(x.next o g out).os[id]? =x.os[id]? :=λx=>by rw[p,qa7 _ _ _ i]
   split<;>split<;>first|exact h|(simp only[m];exact h)
theorem qre (S:Nat->Bool) (t:Nat): ∀(l:List Done) (k:Nat) (st:St),(∀(i j:Nat) (d e:Done),l[i]? =some d->l[j]? =some e->t∈d.2.2.iss->t∈e.2.2.cons->i<j) ->
  (t∈(ap S l k st).live↔(t∈st.live∨ ∃(j:Nat) (d:Done),l[j]? =some d∧S (k+j)=true∧t∈d.2.2.iss)∧ ¬ ∃(j:Nat) (d:Done),l[j]? =some d∧S (k+j)=true∧t∈d.2.2.cons)
 | [],k,st,_=>by simp[ap]
 |(o,g,out)::l,k,st,h=>by
  have ih:=qre S t l (k+1) (if S k then st.next o g out else st) (λi j d e hi u h1 h2=>by have:=h (i+1) (j+1) d e (by grind) (by grind) h1 h2;omega);simp only[ap];rw[ih];have m: ∀p:Done->Prop,(∃(j:Nat) (d:Done),((o,g,out)::l)[j]? =some d∧S (k+j)=true∧p d)↔(S k=true∧p (o,g,out))∨ ∃(j:Nat) (d:Done),l[j]? =some d∧S (k+1+j)=true∧p d:=by
   intro p;constructor
   ·rintro⟨j,d,u,hs,hp⟩;cases j with
    |zero=>grind
    |succ j=>grind
   ·rintro(⟨hs,hp⟩|⟨j,d,u,hs,hp⟩)
    ·exact⟨0,_,rfl,by omega,hp⟩
    ·exact⟨j+1,d,by grind,by grind,hp⟩
  rw[m (λd=>t∈d.2.2.iss),m (λd=>t∈d.2.2.cons)];by_cases hk:S k=true
  ·simp only[hk,if_true,true_and];have hm:t∈(st.next o g out).live↔(t∈st.live∧t∉out.cons)∨t∈out.iss:=jr;rw[hm];by_cases hi:t∈out.iss
   ·have hnc:t∉out.cons:=λhc=>by have:=h 0 0 _ _ rfl rfl hi hc;omega
    grind
   ·by_cases hc:t∈out.cons
    ·simp only[hi,hc,not_true_eq_false,and_false,or_false,false_or,true_or,not_true_eq_false,and_false,iff_false];rintro⟨⟨j,d,u,_,q⟩,hno⟩;have:=h (j+1) 0 d _ (by grind) rfl q hc;omega
    grind
  grind
theorem qih {o:SOp} {x:Opd} {n:Nat} (hx:x∈o.opds) (hn:x= .t n):n∈o.opds.flatMap Opd.slot:=
 List.mem_flatMap.2 ⟨x,hx,by grind[Opd.slot]⟩
theorem q89 {fr d:Fr} {x:Opd} (h: ∀n,x= .t n->d.get n=fr.get n):x.get d=x.get fr∧x.ok d=x.ok fr:=by
 cases x with
 |t n=>simp[Opd.get,Opd.ok,h n rfl]
 |k s=>exact⟨rfl,rfl⟩
theorem v7 {os d:List AObj} {id:Nat} (h:d[id]? =os[id]?):ql d id=ql os id:=by simp[ql,h]
theorem quw {os d:List AObj} {id:Nat} (h:d[id]? =os[id]?):qg4 d id=qg4 os id:=by simp[qg4,h]
theorem q1g {n:Option Nat} {os e:List AObj} {s:ASlot} (h: ∀id,(wy n os s).rd=some id->e[id]? =os[id]?):wy n e s=wy n os s:=by
 cases s with
 |d p=>
  cases p with
  |ptr id off=>
   have i:e[id]? =os[id]? :=h id (by cases n<;>rfl)
   cases n<;>simp only[wy,v7 i]
  | _=>rfl
 | _=>rfl
theorem qxe {n:Option Nat} {os e:List AObj} {p v:ASlot} (h: ∀id x,(yu n os p v).wr=some (id,x) ->e[id]? =os[id]?):yu n e p v=yu n os p v:=by
 cases p with
 |d q=>
  cases q with
  |ptr id off=>
   cases n with
   |none=>
    have i:e[id]? =os[id]? :=h id _ rfl;grind[yu,storeAt,v7]
   |some k=>
    cases v with
    |d r=>
     cases r with
     |agg cs=>
      have i:e[id]? =os[id]? :=h id _ rfl;grind[yu,storeAt,v7]
     | _=>rfl
    | _=>rfl
  | _=>rfl
 | _=>rfl
theorem qii {es:Nat} {os i:List AObj} {x:ASlot} (h: ∀id off e n,x≠ .d (.ref id off e n)):qar es i x=qar es os x:=by
 cases x with
 |d y=>cases y<;>first|rfl|grind
 | _=>rfl
theorem qrf {es:Nat} {os i:List AObj} {x:ASlot} (h: ∀r id,qcc es os x=some r->r.rd=some id->i[id]? =os[id]?):qcc es i x=qcc es os x:=by
 cases x with
 |d y=>
  cases y with
  |ref id off e n=>
   by_cases m:e=es
   ·have l:i[id]? =os[id]? :=h ⟨qbt os id off es n,some id,qtv os id off es n⟩ id (by simp only[qcc,if_pos m]) rfl;simp only[qcc,if_pos m,qbt,qtv,v7 l]
   simp_all[qcc,if_neg]
  | _=>rfl
 | _=>rfl
theorem qt4 {u:Bool} {es bytes m:Nat} {os i:List AObj} {s x:ASlot} (h: ∀id,(km u es bytes m os s x).rd=some id->i[id]? =os[id]?):km u es bytes m i s x=km u es bytes m os s x:=by
 by_cases hx: ∃id off e n,x= .d (.ref id off e n)
 ·obtain⟨id,off,e,n,rfl⟩:=hx;by_cases q:e=es
  ·have l: ∀os:List AObj,qar es os (.d (.ref id off e n))=some ⟨qbt os id off es n,some id,qtv os id off es n⟩:=λos=>by
    simp only[qar,ASlot.rows,qcc,if_pos q]
   unfold km at h⊢;rw[l]at h;rw[l,l];cases u with
   |false=>
    cases hr:s.rows with
    |none=>rfl
    |some p=>
     simp only[hr]at h⊢;have o:i[id]? =os[id]? :=h id rfl;grind[qbt,qtv,v7]
   |true=>
    simp only at h⊢;unfold qa3 at h⊢;split at h<;>first|rfl|(have o:i[id]? =os[id]? :=h id rfl;grind[qbt,qtv,v7])
  ·have l: ∀os:List AObj,qar es os (.d (.ref id off e n))=none:=λos=>by
    simp only[qar,ASlot.rows,qcc,if_neg q]
   grind[km]
 grind[qar,qii,id,km]
theorem q1h {es:Nat} {os i:List AObj} {s x:ASlot} (h: ∀id,(yw es os s x).rd=some id∨(∃o,(yw es os s x).wr=some (id,o)) ->i[id]? =os[id]?):yw es i s x=yw es os s x:=by
 have hs: ∀(r:Src) (t:List AObj) (id off e n:Nat),qar es os x=some r->s= .d (.ref id off e n) ->i[id]? =os[id]? :=λr t id off e n m A=>h id (.inr (by subst A;simp only[yw,m];exact⟨_,rfl⟩));by_cases v: ∃id off e n,x= .d (.ref id off e n)
 ·obtain⟨id,off,e,n,rfl⟩:=v;by_cases z:e=es
  ·have q: ∀os:List AObj,qar es os (.d (.ref id off e n))=some ⟨qbt os id off es n,some id,qtv os id off es n⟩:=λos=>by
    simp only[qar,ASlot.rows,qcc,if_pos z]
   unfold yw at h⊢;rw[q]at h;rw[q,q];split at h
   ·rename_i r l off2 e2 n2 p;cases p;have m:i[id]? =os[id]? :=h id (.inl rfl);have A:i[l]? =os[l]? :=h l (.inr ⟨_,rfl⟩);grind[qbt,qtv,storeAt,v7,quw]
   grind
  ·have q: ∀os:List AObj,qar es os (.d (.ref id off e n))=none:=λos=>by
    simp only[qar,ASlot.rows,qcc,if_neg z]
   simp_all[yw]
 ·have u:qar es i x=qar es os x:=qii λid off e n u=>v ⟨id,off,e,n,u⟩;cases p:qar es os x with
  |none=>simp_all[yw]
  |some r=>
   cases s with
   |d y=>
    cases y with
    |ref id off e n=>
     have m:=hs r os id off e n p rfl;simp only[yw,u,p,storeAt,v7 m,quw m]
    | _=>simp_all[yw]
   | _=>simp_all[yw]
theorem xbw {es:Nat} {os i:List AObj} {x:ASlot} (h: ∀r id,qar es os x=some r->r.rd=some id->i[id]? =os[id]?):qar es i x=qar es os x:=by
 by_cases hx: ∃id off e n,x= .d (.ref id off e n)
 ·obtain⟨id,off,e,n,rfl⟩:=hx;grind[qar,ASlot.rows,qrf]
 grind[qii,id]
theorem qrg {back es bytes:Nat} {os d:List AObj} {s x:ASlot} (hl:d.length=os.length) (h: ∀id,(jt back es bytes os s x).rd=some id∨(∃o,(jt back es bytes os s x).wr=some (id,o)) ->d[id]? =os[id]?):
  jt back es bytes d s x=jt back es bytes os s x:=by
 have e:qar es d x=qar es os x:=xbw λr id h1 h2=>h id (.inl (by grind[jt]));unfold jt at h⊢;rw[e];cases hr:qar es os x with
 |none=>rfl
 |some r=>
  simp_all
theorem qt5 {len es:Nat} {os e:List AObj} {x:ASlot} {lo hi mx:Option ASlot} (h: ∀id,(yb len es os x lo hi mx).rd=some id->e[id]? =os[id]?):yb len es e x lo hi mx=yb len es os x lo hi mx:=by
 cases x with
 |d y=>
  cases y with
  |ptr id off=>
   have i:e[id]? =os[id]? :=h id rfl;simp only[yb,v7 i]
  | _=>rfl
 | _=>rfl
theorem qe7 {os d:List AObj} {id:Nat} (h:d[id]? =os[id]?):qab d id=qab os id∧ki d id=ki os id∧qqh d id=qqh os id:=by simp[qab,ki,qqh,h]
theorem qt6 {kd:KD} {z:ASlot} {c:Bool} {os e:List AObj} {x k:ASlot} (h: ∀id,(vh kd z c os x k).rd=some id->e[id]? =os[id]?):vh kd z c e x k=vh kd z c os x k:=by
 cases x with
 |d y=>
  cases y with
  |map id=>
   cases k with
   |d q=>
    obtain⟨e1,e2,e3⟩:=qe7 (h id rfl);grind[vh]
   | _=>rfl
  |nilmap=>cases k<;>rfl
  | _=>rfl
 | _=>rfl
theorem qna {kd:KD} {os e:List AObj} {x k v:ASlot} (h: ∀id o,(zn kd os x k v).wr=some (id,o) ->e[id]? =os[id]?):zn kd e x k v=zn kd os x k v:=by
 cases x with
 |d y=>
  cases y with
  |map id=>
   cases k with
   |d q=>
    cases v with
    |d u=>
     obtain⟨e1,e2,e3⟩:=qe7 (h id _ rfl);grind[zn]
    | _=>rfl
   | _=>rfl
  | _=>rfl
 | _=>rfl
theorem qt7 {kd:KD} {os e:List AObj} {x k:ASlot} (h: ∀id o,(vw kd os x k).wr=some (id,o) ->e[id]? =os[id]?):vw kd e x k=vw kd os x k:=by
 cases x with
 |d y=>
  cases y with
  |map id=>
   cases k with
   |d q=>
    obtain⟨e1,e2,e3⟩:=qe7 (h id _ rfl);grind[vw]
   | _=>rfl
  | _=>rfl
 | _=>rfl
theorem q1i {os e:List AObj} {x:ASlot} (h: ∀id,(qbu os x).rd=some id->e[id]? =os[id]?):qbu e x=qbu os x:=by
 cases x with
 |d y=>
  cases y with
  |map id=>
   obtain⟨e1,e2,e3⟩:=qe7 (h id rfl);grind[qbu]
  | _=>rfl
 | _=>rfl
theorem qt8 {back:Nat} {os e:List AObj} {x:ASlot} (hl:e.length=os.length) (h: ∀id,(ko back os x).rd=some id∨(∃o,(ko back os x).wr=some (id,o)) ->e[id]? =os[id]?):ko back e x=ko back os x:=by
 cases x with
 |d y=>
  cases y with
  |map id=>
   obtain⟨e1,e2,e3⟩:=qe7 (h id (.inl rfl));have h2:e[os.length-back]? =os[os.length-back]? :=h _ (.inr ⟨_,rfl⟩);grind[ko]
  |nilmap=>
   have h2:e[os.length-back]? =os[os.length-back]? :=h _ (.inr ⟨_,rfl⟩);grind[ko]
  | _=>rfl
 | _=>rfl
theorem xlz {tb:Nat} {o:SOp} {st st':St} (hf: ∀n,n∈o.opds.flatMap Opd.slot->st'.fr.get n=st.fr.get n) (F:st'.os.length=st.os.length)
  (m: ∀id,id∈(sem tb o st).touch->st'.os[id]? =st.os[id]?):sem tb o st'=sem tb o st:=by
 have d: ∀x∈o.opds,x.get st'.fr=x.get st.fr∧x.ok st'.fr=x.ok st.fr:=λx d=>q89 λn hn=>hf n (qih d hn);cases o with
 |box back x=>
  grind[SOp.opds,sem,Out.touch,Out.wrs]
 |makeMap back=>
  grind[sem,Out.touch,Out.wrs]
 |lookup kd z c x k=>
  obtain⟨i,e⟩:=d x (by simp[SOp.opds]);obtain⟨B,A⟩:=d k (by simp[SOp.opds]);grind[vh,qt6,id,sem,Out.touch]
 |mapUpdate kd x k v=>
  obtain⟨i,e⟩:=d x (by simp[SOp.opds]);obtain⟨B,A⟩:=d k (by simp[SOp.opds]);obtain⟨m1,m2⟩:=d v (by simp[SOp.opds]);have t:zn kd st'.os (x.get st.fr) (k.get st.fr) (v.get st.fr)=zn kd st.os (x.get st.fr) (k.get st.fr) (v.get st.fr):=qna λid o l=>m id (by
   grind[sem,Out.touch,Out.wrs])
  grind[sem]
 |delete kd x k=>
  obtain⟨i,e⟩:=d x (by simp[SOp.opds]);obtain⟨B,A⟩:=d k (by simp[SOp.opds]);have t:vw kd st'.os (x.get st.fr) (k.get st.fr)=vw kd st.os (x.get st.fr) (k.get st.fr):=qt7 λid o l=>m id (by
   grind[sem,Out.touch,Out.wrs])
  grind[sem]
 |lenM x=>
  obtain⟨i,e⟩:=d x (by simp[SOp.opds]);grind[qbu,q1i,id,sem,Out.touch]
 |rangeM back x=>
  obtain⟨i,e⟩:=d x (by simp[SOp.opds]);have t:ko back st'.os (x.get st.fr)=ko back st.os (x.get st.fr):=qt8 F λid l=>m id (by
   grind[sem,Out.touch,Out.wrs])
  grind[sem]
 |alloc back z=>
  grind[sem,Out.touch,Out.wrs]
 |makeSliceO back es bytes z x y=>
  grind[SOp.opds,sem,Out.touch,Out.wrs]
 |load n x=>
  obtain⟨i,e⟩:=d x (by simp[SOp.opds]);grind[wy,q1g,id,sem,Out.touch]
 |store n x v=>
  obtain⟨i,e⟩:=d x (by simp[SOp.opds]);obtain⟨B,A⟩:=d v (by simp[SOp.opds]);have t:yu n st'.os (x.get st.fr) (v.get st.fr)=yu n st.os (x.get st.fr) (v.get st.fr):=qxe λid y l=>m id (by
   grind[sem,Out.touch,Out.wrs])
  grind[sem]
 |build z ps=>
  have i: ∀p∈ps,p.2.2.get st'.fr=p.2.2.get st.fr∧p.2.2.ok st'.fr=p.2.2.ok st.fr:=λp hp=>d _ (by simp only[SOp.opds,List.mem_map];grind);have e:(ps.map λp=>(p.1,(p.2.2.get st'.fr).dCells))=ps.map λp=>(p.1,(p.2.2.get st.fr).dCells):=List.map_congr_left λp hp=>by grind
  simp only[sem,e];congr 1;grind
 |buildSlice u es len z ps=>
  have i: ∀p∈ps,p.2.2.get st'.fr=p.2.2.get st.fr∧p.2.2.ok st'.fr=p.2.2.ok st.fr:=λp hp=>d _ (by simp only[SOp.opds,List.mem_map];grind);have e:(ps.map λp=>(p.1,(p.2.2.get st'.fr).dCells))=ps.map λp=>(p.1,(p.2.2.get st.fr).dCells):=List.map_congr_left λp hp=>by grind
  simp only[sem,e];congr 1;grind
 |mkFunc fn a b=>
  have ha: ∀x∈a,x.get st'.fr=x.get st.fr∧x.ok st'.fr=x.ok st.fr:=λx h=>d x (by grind[SOp.opds]);have hb: ∀x∈b,x.get st'.fr=x.get st.fr∧x.ok st'.fr=x.ok st.fr:=λx h=>d x (by grind[SOp.opds]);have i:(a.map λx=>(x.get st'.fr).cellD)=a.map λx=>(x.get st.fr).cellD:=List.map_congr_left λx h=>by grind
  have e:(b.map λx=>(x.get st'.fr).cellD)=b.map λx=>(x.get st.fr).cellD:=List.map_congr_left λx h=>by grind
  simp only[sem,i,e];simp_all
 |slice es x lo hi mx=>
  obtain⟨i,e⟩:=d x (by simp[SOp.opds]);have C: ∀y∈lo,y.get st'.fr=y.get st.fr∧y.ok st'.fr=y.ok st.fr:=λy q=>d y (by simp_all[SOp.opds,List.mem_cons,List.mem_append,Option.mem_toList]);have E: ∀y∈hi,y.get st'.fr=y.get st.fr∧y.ok st'.fr=y.ok st.fr:=λy q=>d y (by simp_all[SOp.opds,List.mem_cons,List.mem_append,Option.mem_toList]);have om: ∀y∈mx,y.get st'.fr=y.get st.fr∧y.ok st'.fr=y.ok st.fr:=λy q=>d y (by simp_all[SOp.opds,List.mem_cons,List.mem_append,Option.mem_toList]);have I:lo.map (·.get st'.fr)=lo.map (·.get st.fr):=by cases lo with|none=>rfl|some y=>grind
  have G:hi.map (·.get st'.fr)=hi.map (·.get st.fr):=by cases hi with|none=>rfl|some y=>grind
  have e3:mx.map (·.get st'.fr)=mx.map (·.get st.fr):=by cases mx with|none=>rfl|some y=>grind
  have f1:(∀y∈lo,y.ok st'.fr=true)=(∀y∈lo,y.ok st.fr=true):=by grind
  have f2:(∀y∈hi,y.ok st'.fr=true)=(∀y∈hi,y.ok st.fr=true):=by grind
  have f3:(∀y∈mx,y.ok st'.fr=true)=(∀y∈mx,y.ok st.fr=true):=by grind
  grind[sem]
 |sliceA len es x lo hi mx=>
  obtain⟨i,e⟩:=d x (by simp[SOp.opds]);have C: ∀y∈lo,y.get st'.fr=y.get st.fr∧y.ok st'.fr=y.ok st.fr:=λy q=>d y (by simp_all[SOp.opds,List.mem_cons,List.mem_append,Option.mem_toList]);have E: ∀y∈hi,y.get st'.fr=y.get st.fr∧y.ok st'.fr=y.ok st.fr:=λy q=>d y (by simp_all[SOp.opds,List.mem_cons,List.mem_append,Option.mem_toList]);have om: ∀y∈mx,y.get st'.fr=y.get st.fr∧y.ok st'.fr=y.ok st.fr:=λy q=>d y (by simp_all[SOp.opds,List.mem_cons,List.mem_append,Option.mem_toList]);have I:lo.map (·.get st'.fr)=lo.map (·.get st.fr):=by cases lo with|none=>rfl|some y=>grind
  have G:hi.map (·.get st'.fr)=hi.map (·.get st.fr):=by cases hi with|none=>rfl|some y=>grind
  have e3:mx.map (·.get st'.fr)=mx.map (·.get st.fr):=by cases mx with|none=>rfl|some y=>grind
  have f1:(∀y∈lo,y.ok st'.fr=true)=(∀y∈lo,y.ok st.fr=true):=by grind
  have f2:(∀y∈hi,y.ok st'.fr=true)=(∀y∈hi,y.ok st.fr=true):=by grind
  have f3:(∀y∈mx,y.ok st'.fr=true)=(∀y∈mx,y.ok st.fr=true):=by grind
  have t:yb len es st'.os (x.get st.fr) (lo.map (·.get st.fr)) (hi.map (·.get st.fr)) (mx.map (·.get st.fr))=yb len es st.os (x.get st.fr) (lo.map (·.get st.fr)) (hi.map (·.get st.fr)) (mx.map (·.get st.fr)):=
   qt5 λid l=>m id (by grind[sem,Out.touch])
  grind[sem]
 |append u es bytes x y=>
  obtain⟨i,e⟩:=d x (by simp[SOp.opds]);obtain⟨B,A⟩:=d y (by simp[SOp.opds]);have t:km u es bytes tb st'.os (x.get st.fr) (y.get st.fr)=km u es bytes tb st.os (x.get st.fr) (y.get st.fr):=qt4 λid l=>m id (by
   grind[sem,Out.touch])
  grind[sem]
 |appendO back es bytes x y=>
  obtain⟨i,e⟩:=d x (by simp[SOp.opds]);obtain⟨B,A⟩:=d y (by simp[SOp.opds]);have t:jt back es bytes st'.os (x.get st.fr) (y.get st.fr)=jt back es bytes st.os (x.get st.fr) (y.get st.fr):=qrg F λid l=>m id (by
   grind[sem,Out.touch,Out.wrs])
  grind[sem]
 |copy es x y=>
  obtain⟨i,e⟩:=d x (by simp[SOp.opds]);obtain⟨B,A⟩:=d y (by simp[SOp.opds]);have t:yw es st'.os (x.get st.fr) (y.get st.fr)=yw es st.os (x.get st.fr) (y.get st.fr):=q1h λid l=>m id (by
   grind[sem,Out.touch,Out.wrs])
  grind[sem]
 |b2s x=>
  obtain⟨i,e⟩:=d x (by simp[SOp.opds]);grind[sem,qcc,qrf,id,Out.touch]
 |sliceS x lo hi=>
  obtain⟨i,e⟩:=d x (by simp[SOp.opds]);have C: ∀y∈lo,y.get st'.fr=y.get st.fr∧y.ok st'.fr=y.ok st.fr:=λy q=>d y (by simp_all[SOp.opds,List.mem_cons,List.mem_append,Option.mem_toList]);have E: ∀y∈hi,y.get st'.fr=y.get st.fr∧y.ok st'.fr=y.ok st.fr:=λy q=>d y (by simp_all[SOp.opds,List.mem_cons,List.mem_append,Option.mem_toList]);have I:lo.map (·.get st'.fr)=lo.map (·.get st.fr):=by cases lo with|none=>rfl|some y=>grind
  have G:hi.map (·.get st'.fr)=hi.map (·.get st.fr):=by cases hi with|none=>rfl|some y=>grind
  have f1:(∀y∈lo,y.ok st'.fr=true)=(∀y∈lo,y.ok st.fr=true):=by grind
  have f2:(∀y∈hi,y.ok st'.fr=true)=(∀y∈hi,y.ok st.fr=true):=by grind
  grind[sem]
 |pick c x y=>
  grind[SOp.opds,sem]
 |bin _ x y|eqb _ x y|eqAgg _ _ x y|makeSlice _ _ _ _ x y|iaddr _ x y|iaddrA _ _ x y|indexS x y|indexA _ _ _ x y|minmax _ x y=>
  grind[SOp.opds,sem]
 |mov x|nilCheck x|eqnil _ _ x|not x|neg x|conv _ x|i2s x|s2b x|faddr _ x|field _ _ x|extract _ x|len x|lenS x|asStr x|mkIface _ x|assertT _ _ x|s2ap _ x=>
  grind[SOp.opds,sem]
 |eqnilS _ _|nextM _|entryM _|appendR _ _ _ _ _|call _ _|callT _ _=>rfl
section
variable {P:Program} {mu:List Nat} {N tb:Nat} {T:Nat→Prop} {g:Ghost} {w:World} {st:St} {a:Act} {ops:Array Oper}
theorem qxf {live live':List Nat} (h: ∀t,t∈live'↔t∈live) {v:Value} {s:ASlot} (d:RC g w live v s):RC g w live' v s:=by
 cases s with
 |own t es rows=>exact⟨d.1,λe=>d.2 ((h t).1 e)⟩
 |uni t es rows=>exact⟨d.1,λe=>d.2 ((h t).1 e)⟩
 | _=>exact d
theorem xs3 {live live':List Nat} (h: ∀t,t∈live'↔t∈live) {v:Value} {s:ASlot} (d:RS g w live v s):RS g w live' v s:=by
 cases s with
 |tup l=>obtain⟨vs,h1,h2,h3⟩:=d;exact⟨vs,h1,h2,λi u s hu hs=>qxf h (h3 i u s hu hs)⟩
 | _=>exact jq (qxf h (qax d (by simp)))
structure St.Like (st st':St):Prop where
 fr: ∀k:Nat,st'.fr.get k=st.fr.get k
 os: ∀id:Nat,st'.os[id]? =st.os[id]?
 live: ∀t:Nat,t∈st'.live↔t∈st.live
theorem SR.like {st':St} (hs:SR N T g w st a) (h:st.Like st'):SR N T g w st' a:=by
 refine⟨hs.dom,hs.defers,hs.size,λk v s q=> ?_,λid o d hn=> ?_,hs.inj,λb id u=> ?_,⟨λt ht=>hs.wf.live t ((h.live t).1 ht),λk s q=>hs.wf.fr k s (by rw[<- h.fr];exact q),λid o d=>hs.wf.os id o (by rw[<- h.os];exact d)⟩⟩
 ·rw[h.fr]at q;obtain⟨h1,h2⟩:=hs.slots k v s q;exact⟨λl=>xs3 h.live (h1 l),h2⟩
 ·rw[h.os]at d;rcases hs.objs id o d hn with⟨b,u,p⟩|l;case inr=>exact .inr l
  refine .inl ⟨b,u,?_⟩;cases o with
  |none=>exact p.elim
  |row cells=>
   obtain⟨c,e,q1,q2,q3⟩:=p;exact⟨c,e,q1,q2,λi s hi=>by obtain⟨v,v1,v2,v3⟩:=q3 i s hi;exact⟨v,v1,v2,qxf h.live v3⟩⟩
  |map es clock=>exact p
  |iter m since seen last=>exact IterIs.mono (R:=λv=>RC g w st.live v m) (R':=λv=>RC g w st'.live v m) p rfl (λo l=>qxf h.live l)
 ·obtain⟨o,d,hn⟩:=hs.ids b id u;exact⟨o,by rw[h.os];exact d,hn⟩
theorem qrh {κ:List Nat} {os d:List AObj}: ∀{ι:List Nat} {fo:List AObj},qef κ os ι fo->(∀id∈ι,d[id]? =os[id]?) ->qef κ d ι fo
 |ι,[],_,_=>by cases ι<;>trivial
 | [],_::_,h,_=>h.elim
 |id::ι,o::fo,h,hs=>by
  obtain⟨⟨c,h1,h2⟩,h3⟩:=h;exact⟨⟨c,by rw[hs id jA7];exact h1,h2⟩,qrh h3 λi hi=>hs i (jA9 _ hi)⟩
theorem xl0 {o:SOper} {I:Bool} {out:Out} {st':St} (h:AOne P tb o st I out) (R: ∀n∈o.looks,st'.fr.get n=st.fr.get n) (hl:st'.os.length=st.os.length)
  (M: ∀id,id∈out.touch->st'.os[id]? =st.os[id]?) (hc:I=true-> ∀t∈out.cons,t∈st'.live):AOne P tb o st' I out:=by
 obtain⟨B,h2,u⟩:=h;have d: ∀n,n∈o.op.opds.flatMap Opd.slot->st'.fr.get n=st.fr.get n:=λn hn=>R n (by unfold SOper.looks;exact jBa _ hn);refine⟨?_,h2,?_⟩
 ·cases i:o.guard with
  |none=>rw[i]at B;exact B
  |some p=>
   obtain⟨k,b⟩:=p;rw[i]at B;have:=R k (by unfold SOper.looks;rw[i];simp);simp only[gv,this]at B⊢;exact B
 ·cases hop:o.op with
  |call f args=>
   rw[hop]at u d;obtain⟨k,as,fa,r,fo,fo',ι,J,rfl,z,hok⟩:=u;have C: ∀x∈(SOp.call f args).opds,x.get st'.fr=x.get st.fr∧x.ok st'.fr=x.ok st.fr:=λx C=>q89 λn hn=>d n (qih C hn);obtain⟨f1,f2⟩:=C f (by simp[SOp.opds]);have U: ∀x∈args,x.get st'.fr=x.get st.fr∧x.ok st'.fr=x.ok st.fr:=λx F=>C x (by simp only[SOp.opds,jAv];exact .inr F);have F:(args.map λx=>x.get st'.fr)=args.map λx=>x.get st.fr:=jC3 λx h=>(U x h).1;refine⟨k,as,fa,r,fo,fo',ι,J,rfl,z,λi=> ?_⟩;have q:=hok i;have A:qkf st'.fr f args=qkf st.fr f args:=by unfold qkf;rw[f1,F]
   have l: ∀id∈ι,st'.os[id]? =st.os[id]? :=λid e=>M id (by
    cases J with
    |true=>exact jBc _ (jBc _ e)
    |false=>
    simp only[Out.touch,Out.wrs,ja,jAs,jAo,cond_false];left;obtain⟨j,O⟩:=jB0.1 e;have G:j<fo'.length:=by rw[<- q.objs.len];exact(jAd.1 O).1
    refine⟨(id,(fo'.map (AObj.ren ι))[j]'(by simpa using G)),?_,rfl⟩;simp only[Option.toList];right;refine jB0.2 ⟨j,?_⟩;rw[List.getElem?_zip_eq_some];exact⟨O,jAa _⟩)
   refine⟨by rw[A];exact q.callee,by rw[f2];exact q.ok,?_,q.contract,q.body,⟨q.fits.all,q.fits.inK,λp hp=> ?_,q.fits.nd1⟩,⟨q.objs.nd,q.objs.len,q.objs.le,qrh q.objs.olds l,λid e=>by rw[l id (jCd e)];exact q.objs.news id e,q.objs.inK⟩,q.noT,q.few,λhq p hp=>by rw[l p.1 (List.of_mem_zip hp).1];exact q.quiet hq p hp⟩
   ·rw[jAx];intro x v;rw[(U x v).2];exact jAx.1 q.oks x v
   ·exact hc i p.1 (by simp only[ja,jAo];exact⟨p,hp,rfl⟩)
  |eqnilS neg x=>rw[hop]at u;exact u
  | _=>
   rw[hop]at u d;obtain⟨rfl,E⟩:=u;have m:=xlz (tb:=tb) (st':=st') d hl M;simp only;refine⟨m.symm,λi=>⟨(E i).1,hc i⟩⟩
def qby (l:List Oper) (j:Nat):List Nat:=match l[j]?with|some o=>(o.after.toList.filter (Region.binds .any)).map (·.on)|none=> []
theorem qux: ∀(l:List Oper) (d:List (List Nat)) (pre:List Oper),d.length=pre.length->
  (∀j,j<pre.length->d.getD j []=((qby pre j).flatMap λe=>e::(d.take j).getD e []).eraseDups) ->
  let r:=l.foldl (init:=d) λd o=>d++ [((o.after.toList.filter (Region.binds .any)).flatMap λe=>e.on::d.getD e.on []).eraseDups]
  r.length=(pre++l).length∧ ∀j,j<(pre++l).length->r.getD j []=((qby (pre++l) j).flatMap λe=>e::(r.take j).getD e []).eraseDups
 | [],d,pre,hl,h=>by simpa[hl]using h
 |o::l,d,pre,hl,h=>by
  have ih:=qux l (d++ [((o.after.toList.filter (Region.binds .any)).flatMap λe=>e.on::d.getD e.on []).eraseDups]) (pre++ [o]) (by simp[hl]) (λj hj=>by
   by_cases i:j<pre.length
   ·have h1:=h j i;have t:(d++ [((o.after.toList.filter (Region.binds .any)).flatMap λe=>e.on::d.getD e.on []).eraseDups]).getD j []=d.getD j []:=by
     simp only[jA1];rw[jA3 (by omega)]
    have q:qby (pre++ [o]) j=qby pre j:=by
     unfold qby;rw[jA3 i]
    have p:(d++ [((o.after.toList.filter (Region.binds .any)).flatMap λe=>e.on::d.getD e.on []).eraseDups]).take j=d.take j:=by
     rw[jBq (by omega)]
    rw[t,q,p];exact h1
   ·have m:j=pre.length:=by simp at hj;omega
    subst m;have t:(d++ [((o.after.toList.filter (Region.binds .any)).flatMap λe=>e.on::d.getD e.on []).eraseDups]).getD pre.length []=((o.after.toList.filter (Region.binds .any)).flatMap λe=>e.on::d.getD e.on []).eraseDups:=by
     simp[jA1,<- hl]
    have q:qby (pre++ [o]) pre.length=(o.after.toList.filter (Region.binds .any)).map (·.on):=by
     unfold qby;simp
    have p:(d++ [((o.after.toList.filter (Region.binds .any)).flatMap λe=>e.on::d.getD e.on []).eraseDups]).take pre.length=d:=by
     rw[<- hl,List.take_left'];rfl
    rw[t,q,p,List.flatMap_map])
  simpa[jAh]using ih
theorem xl1 (l:List Oper):(qpg l).length=l.length∧ ∀j,j<l.length->(qpg l).getD j []=((qby l j).flatMap λe=>e::((qpg l).take j).getD e []).eraseDups:=by
 have:=qux l [] [] rfl (by simp);simpa[qpg]using this
def xfm (l:List Oper) (S:Nat->Bool):Prop:= ∀j,j<l.length->S j=true-> ∀e∈qby l j,S e=true
theorem q9a {l:List Oper} {S:Nat->Bool} (p: ∀j,j<l.length-> ∀e∈qby l j,e<j) (hc:xfm l S):
  ∀(n j:Nat),j<n->j<l.length->(∀e∈qby l j,S e=true) -> ∀i∈(qpg l).getD j [],S i=true
 |0,j,h,_,_=>by omega
 |n+1,j,hjn,hj,hd=>by
  intro i hi;rw[(xl1 l).2 j hj,List.mem_eraseDups,jBi]at hi;obtain⟨e,o,d⟩:=hi;have m:=p j hj e o;rcases jAv.1 d with rfl|d
  ·exact hd i o
  ·have ht:((qpg l).take j).getD e []=(qpg l).getD e []:=by
    simp only[jA1];rw[List.getElem?_take_of_lt m]
   rw[ht]at d;exact q9a p hc n e (by omega) (by omega) (hc e (by omega) (hd e o)) i d
theorem qt9 {l:List Oper} (h:qqj l=true): ∀j,j<l.length-> ∀e∈qby l j,e<j:=by
 intro j i e d;unfold qqj at h;rw[jAx]at h;have hm:(l[j],j)∈l.zipIdx:=by
  rw[List.mem_zipIdx_iff_getElem?];simp[i]
 have:=h _ hm;unfold qby at d;rw[jAa i]at d;simp only[jAo]at d;obtain⟨x,hx,rfl⟩:=d;exact of_decide_eq_true (jAx.1 this x hx)
end
theorem qkp {P:Program} {mu:List Nat} {N:Nat} {ops:Array Oper}: ∀{l:List Oper} {sops:List SOper},qf9 P mu N ops l=some sops->l.length=sops.length∧
  ∀(i:Nat) (x:Oper) (y:SOper),l[i]? =some x->sops[i]? =some y-> ∃back,qei P mu ops N back x=some y
 | [],sops,h=>by simp[qf9]at h;subst h;simp
 |o::l,sops,h=>by
  simp only[qf9]at h;split at h
  ·rename_i y r h1 h2;cases h;obtain⟨k1,k2⟩:=qkp h2;refine⟨by simp[k1],λi x z e d=> ?_⟩;cases i with
   |zero=>simp at e d;subst e d;exact⟨_,h1⟩
   |succ i=>exact k2 i x z (by simpa using e) (by simpa using d)
  ·cases h
theorem qa8 {P:Program}: ∀{l:List Done} {k:Nat} {st:St},Chain P l k st-> ∀(i:Nat) (d:Done),l[i]? =some d->
  AOne P (16*(st.nt+(k+i))) d.1 (ap (λj=>decide (j<k+i)) l k st) d.2.1 d.2.2
 | [],k,st,_,i,d,h=>by simp at h
 |(o,gb,out)::l,k,st,h,i,d,hd=>by
  obtain⟨h1,h2⟩:=h;have e: ∀(l:List Done) (k' m:Nat) (x:St),m<=k'->ap (λj=>decide (j<m)) l k' x=x:=by
   intro l;induction l with
   |nil=>intro k' m x _;rfl
   |cons q l p=>
    intro k' m x hm;obtain⟨o',g',out'⟩:=q;simp only[ap];rw[if_neg (by simp;omega)];exact p (k'+1) m x (by omega)
  cases i with
  |zero=>
   simp at hd;subst hd;rw[Nat.add_zero,e _ k k st (jAi _)];exact h1
  |succ i=>
   have p:=qa8 h2 i d (by simpa using hd);rw[qb4]at p;simp only[ap];rw[if_pos (by simp)];rw[show k+(i+1)=k+1+i by omega];exact p
theorem ql0 {P:Program} {tb:Nat} {o:SOper} {gb:Bool} {out:Out} {st:St} (h:AOne P tb o st gb out): ∀t∈out.iss,tb<=t∧t<tb+16:=by
 obtain⟨_,_,e⟩:=h;intro t d;cases hop:o.op with
 |call f args=>
  rw[hop]at e;obtain⟨k,as,fa,r,fo,fo',ι,qb,rfl,hfew,_⟩:=e;have:=qur d;omega
 |eqnilS neg x=>
  rw[hop]at e;obtain⟨b,rfl,_⟩:=e;simp at d
 |append u es bytes s x=>
  rw[hop]at e;obtain⟨rfl,_⟩:=e;simp only[sem,km]at d;split at d
  ·split at d
   ·unfold qa3 at d;split at d<;>first|(simp[Out.bad]at d;done)|(simp at d;omega)
   ·split at d
    ·simp at d;omega
    ·simp[Out.bad]at d
  ·simp[Out.bad]at d
 |copy es s x=>
  rw[hop]at e;obtain⟨rfl,_⟩:=e;simp only[sem,yw]at d;split at d<;>simp[Out.bad]at d
 |makeSliceO back es bytes z l c=>
  rw[hop]at e;obtain⟨rfl,_⟩:=e;simp only[sem]at d;split at d<;>simp[Out.bad]at d
 |appendO back es bytes s x=>
  rw[hop]at e;obtain⟨rfl,_⟩:=e;simp only[sem,jt]at d;split at d<;>simp[Out.bad]at d
 |sliceA len es x lo hi mx=>
  rw[hop]at e;obtain⟨rfl,_⟩:=e;simp only[sem,yb]at d;split at d<;>simp[Out.bad]at d
 |b2s x=>
  rw[hop]at e;obtain⟨rfl,_⟩:=e;simp only[sem]at d;split at d
  ·simp at d
  ·split at d<;>simp[Out.bad]at d
 |iaddr es x i=>
  rw[hop]at e;obtain⟨rfl,_⟩:=e;simp only[sem]at d;split at d
  ·simp at d
  ·split at d<;>simp[Out.bad]at d
  ·simp[Out.bad]at d
 |buildSlice u es len z ps=>
  rw[hop]at e;obtain⟨rfl,_⟩:=e;simp only[sem]at d;cases u<;>simp at d
  omega
 |makeSlice u es bytes z l c=>
  rw[hop]at e;obtain⟨rfl,_⟩:=e;simp only[sem]at d;split at d
  ·simp at d;omega
  ·simp[Out.bad]at d
 |load n x=>
  rw[hop]at e;obtain⟨rfl,_⟩:=e;simp only[sem,wy]at d;split at d
  ·split at d<;>simp at d
  ·split at d<;>simp at d
  ·simp[Out.bad]at d
 |store n x v=>
  rw[hop]at e;obtain⟨rfl,_⟩:=e;simp only[sem,yu]at d;split at d
  ·split at d
   ·simp at d
   ·split at d<;>simp[Out.bad]at d
  ·simp[Out.bad]at d
 |bin op x y=>
  rw[hop]at e;obtain⟨rfl,_⟩:=e;simp only[sem,binS]at d;split at d
  ·split at d<;>simp at d
  ·simp at d
  ·simp[Out.bad]at d
 |slice es x lo hi mx=>
  rw[hop]at e;obtain⟨rfl,_⟩:=e;simp only[sem,qeh]at d;split at d
  ·split at d<;>simp at d
  ·split at d<;>simp[Out.bad]at d
 |sliceS x lo hi=>
  rw[hop]at e;obtain⟨rfl,_⟩:=e;simp only[sem,qa4]at d;split at d<;>simp[Out.bad]at d
 |field n off x=>
  rw[hop]at e;obtain⟨rfl,_⟩:=e;simp only[sem]at d;split at d
  ·split at d<;>simp at d
  ·simp[Out.bad]at d
 |indexA len es n x i=>
  rw[hop]at e;obtain⟨rfl,_⟩:=e;simp only[sem]at d;split at d
  ·split at d<;>simp at d
  ·simp[Out.bad]at d
 | _=>
  rw[hop]at e;obtain⟨rfl,_⟩:=e;simp only[sem,vh,zn,vw,qbu,ko,qa5]at d;first
   |(simp at d;done)
   |(simp[Out.bad]at d;done)
   |(split at d<;>simp[Out.bad]at d)
section
variable {P:Program} {mu:List Nat} {N:Nat} {g:Ghost} {w:World} {st:St} {a:Act} {ops:Array Oper}
theorem ql1 {tb:Nat} {o:SOper} {m:Bool} {out:Out} (h:AOne P tb o st m out): ∀t∈out.cons,t∈st.live∧m=true:=by
 obtain⟨_,i,e⟩:=h;intro t d;have l:m=true:=by
  rcases i with i|⟨_,i,_⟩
  ·exact i
  ·rw[i]at d;cases d
 refine⟨?_,l⟩;cases hop:o.op with
 |call f args=>
  rw[hop]at e;obtain⟨k,as,fa,r,fo,fo',ι,qb,rfl,_,hok⟩:=e;simp only[ja,jAo]at d;obtain⟨p,hp,rfl⟩:=d;exact(hok l).fits.lv p hp
 |eqnilS neg x=>
  rw[hop]at e;obtain⟨b,rfl,_⟩:=e;simp at d
 | _=>rw[hop]at e;exact(e.2 l).2 t d
end
theorem q9b (S S':Nat->Bool): ∀(l:List Done) (k:Nat) (st:St),(∀j,j<l.length->S (k+j)=S' (k+j)) ->ap S l k st=ap S' l k st
 | [],_,_,_=>rfl
 |(o,g,out)::l,k,st,h=>by
  have d:=h 0 (by simp);rw[Nat.add_zero]at d;simp only[ap,d];exact q9b S S' l (k+1) _ (λj hj=>by rw[show k+1+j=k+(j+1) by omega];exact h (j+1) (by simp;omega))
theorem qxg (S:Nat->Bool): ∀(l:List Done) (k:Nat) (st:St),(∀j,j<l.length->S (k+j)=false) ->ap S l k st=st
 | [],_,_,_=>rfl
 |(o,g,out)::l,k,st,h=>by
  have d:=h 0 (by simp);rw[Nat.add_zero]at d;simp only[ap,d,jAw,if_false];exact qxg S l (k+1) st (λj hj=>by rw[show k+1+j=k+(j+1) by omega];exact h (j+1) (by simp;omega))
theorem q52: ∀(l:List Done) (k i:Nat) (st:St) (d:Done),l[i]? =some d->
  ap (λj=>decide (j<k+i+1)) l k st=(ap (λj=>decide (j<k+i)) l k st).next d.1 d.2.1 d.2.2
 | [],k,i,st,d,h=>by simp at h
 |(o,g,out)::l,k,i,st,d,h=>by
  cases i with
  |zero=>
   simp at h;subst h;simp only[ap,Nat.add_zero];rw[if_pos (by simp),if_neg (by simp),qxg _ l (k+1) _ (λj _=>by simp only[decide_eq_false_iff_not];omega),qxg _ l (k+1) _ (λj _=>by simp only[decide_eq_false_iff_not];omega)]
  |succ i=>
   have ih:=q52 l (k+1) i (st.next o g out) d (by simpa using h);simp only[ap];rw[if_pos (by simp only[decide_eq_true_eq];omega),if_pos (by simp only[decide_eq_true_eq];omega)];rw[show k+(i+1)+1=k+1+i+1 by omega,show k+(i+1)=k+1+i by omega];exact ih
theorem qri (S:Nat->Bool) (t:Nat): ∀(l:List Done) (k:Nat) (st:St),t∈(ap S l k st).live->t∈st.live∨ ∃(j:Nat) (d:Done),l[j]? =some d∧S (k+j)=true∧t∈d.2.2.iss
 | [],_,_,h=> .inl h
 |(o,g,out)::l,k,st,h=>by
  simp only[ap]at h;rcases qri S t l (k+1) _ h with i|⟨j,d,hj,hs,hi⟩
  ·split at i
   ·rename_i hk;rcases jr.1 (show t∈qp st.live out from i)with⟨e,_⟩|e
    ·exact .inl e
    ·exact .inr ⟨0,_,rfl,by simpa using hk,e⟩
   ·exact .inl i
  ·exact .inr ⟨j+1,d,by simpa using hj,by rw[show k+(j+1)=k+1+j by omega];exact hs,hi⟩
section
variable {P:Program} {mu:List Nat} {N:Nat} {g:Ghost} {w:World} {st:St} {a:Act} {ops:Array Oper}
theorem xbx {es bytes tk:Nat} {r:Src} {s:ASlot}:(qa3 es bytes tk r s).wr=none:=by unfold qa3;split<;>rfl
theorem qxh {tb:Nat} {o:SOper} {gb:Bool} {out:Out} (h:AOne P tb o st gb out) {id:Nat} (d:id∈out.wrs.map (·.1)):o.op.memW=true:=by
 obtain⟨_,_,e⟩:=h;cases hop:o.op with
 |call f args=>rfl
 |eqnilS neg x=>rw[hop]at e;obtain⟨_,rfl,_⟩:=e;simp[Out.wrs]at d
 |store _ _ _=>rfl
 |box _ _=>rfl
 |makeMap _=>rfl
 |mapUpdate _ _ _ _=>rfl
 |delete _ _ _=>rfl
 |rangeM _ _=>rfl
 |alloc _ _=>rfl
 |copy _ _ _=>rfl
 |appendO _ _ _ _ _=>rfl
 |makeSliceO _ _ _ _ _ _=>rfl
 |append u es bytes s x=>
  rw[hop]at e;obtain⟨rfl,_⟩:=e;unfold Out.wrs at d;rw[xfj]at d;simp only[sem,km]at d;split at d
  ·split at d
   ·rw[xbx]at d;simp at d
   ·split at d<;>simp[Out.bad]at d
  ·simp[Out.bad]at d
 | _=>
  rw[hop]at e;obtain⟨rfl,_⟩:=e;unfold Out.wrs at d;rw[xfj]at d;simp only[sem,wy,binS,qeh,qa4,yb,vh,qbu,qa5]at d;first
   |(simp at d;done)
   |(simp[Out.bad]at d;done)
   |(split at d<;>first|(simp[Out.bad]at d;done)|(split at d<;>simp[Out.bad]at d))
theorem xfn {tb:Nat} {o:SOper} {gb:Bool} {out:Out} (h:AOne P tb o st gb out) {id:Nat} (d:id∈out.touch):o.op.memW=true∨o.op.memR=true:=by
 unfold Out.touch at d;rcases jAs.1 d with hw|d
 ·exact .inl (qxh h hw)
 ·obtain⟨_,_,e⟩:=h;cases hop:o.op with
  |call f args=>exact .inl rfl
  |eqnilS neg x=>rw[hop]at e;obtain⟨_,rfl,_⟩:=e;simp at d
  |load _ _=>exact .inr rfl
  |store _ _ _=>exact .inl rfl
  |box _ _=>exact .inl rfl
  |makeMap _=>exact .inl rfl
  |mapUpdate _ _ _ _=>exact .inl rfl
  |delete _ _ _=>exact .inl rfl
  |rangeM _ _=>exact .inl rfl
  |lookup _ _ _ _ _=>exact .inr rfl
  |lenM _=>exact .inr rfl
  |alloc _ _=>exact .inl rfl
  |copy _ _ _=>exact .inl rfl
  |appendO _ _ _ _ _=>exact .inl rfl
  |makeSliceO _ _ _ _ _ _=>exact .inl rfl
  |append _ _ _ _ _=>exact .inr rfl
  |b2s _=>exact .inr rfl
  |sliceA _ _ _ _ _ _=>exact .inr rfl
  | _=>
   rw[hop]at e;obtain⟨rfl,_⟩:=e;simp only[sem,binS,qeh,qa4,qa5]at d;first
    |(simp at d;done)
    |(simp[Out.bad]at d;done)
    |(split at d<;>first|(simp[Out.bad]at d;done)|(split at d<;>simp[Out.bad]at d))
theorem xby {tb:Nat} {o:SOper} {out:Out} (h:AOne P tb o st true out): ∀t∈out.cons,∃x∈o.op.opds,x.ok st.fr=true∧t∈(x.get st.fr).toks:=by
 obtain⟨_,_,h3⟩:=h
 intro t ht
 cases hop:o.op with
 |call f args=>
  rw[hop]at h3
  obtain⟨k,as,fa,r,fo,fo',ι,qb,rfl,_,hok⟩:=h3
  have hok:=hok rfl
  simp only[ja,jAo]at ht
  obtain⟨p,hp,rfl⟩:=ht
  have hcal:=hok.callee
  unfold qkf at hcal
  split at hcal
  ·rename_i k' first caps hf
   simp only[jA8,jCw]at hcal
   obtain⟨rfl,rfl⟩:=hcal
   have key: ∀(l r:List ASlot) (p:Nat×Nat),p∈zk l r-> ∃s∈l,p.1∈qch s:=by
    intro l
    induction l with
    |nil=>intro r p hp;simp[zk]at hp
    |cons s l ih=>
     intro r p hp
     cases r with
     |nil=>cases s<;>simp[zk]at hp
     |cons f r=>
      have tail:p∈zk l r-> ∃s'∈s::l,p.1∈qch s':=fun h=>by obtain⟨s',h1,h2⟩:=ih r p h;exact⟨s',jA9 _ h1,h2⟩
      cases s<;>cases f<;>simp only[zk]at hp<;>first
       |exact tail hp
       |(
        rcases jAv.1 hp with rfl|hp
        ·exact⟨_,jA7,by simp[qch]⟩
        ·exact tail hp)
   obtain⟨s,hs,hts⟩:=key _ _ p hp
   simp only[jAs,jAo]at hs
   rcases hs with(⟨d,_,rfl⟩|⟨x,hx,rfl⟩)|⟨d,_,rfl⟩
   ·simp[qch]at hts
   ·exact⟨x,by simp only[SOp.opds,jAv];exact .inr hx,jAx.1 hok.oks x hx,(qlv hts).1⟩
   ·simp[qch]at hts
  ·cases hcal
 |eqnilS neg x=>rw[hop]at h3;obtain⟨_,rfl,_⟩:=h3;simp at ht
 |append u es bytes s x=>
  rw[hop]at h3
  obtain⟨rfl,h4⟩:=h3
  have hob:=(h4 rfl).1
  simp only[sem,km]at ht hob
  split at ht
  ·split at ht
   ·generalize hs:s.get st.fr=sl at ht
    unfold qa3 at ht
    split at ht
    ·simp only[jB2]at ht
     subst ht
     exact⟨s,by simp[SOp.opds],hob.1,by rw[hs];simp[ASlot.toks]⟩
    ·simp at ht
    ·simp at ht
    ·simp[Out.bad]at ht
   ·split at ht
    ·simp only at ht
     exact⟨s,by simp[SOp.opds],hob.1,(qlv ht).1⟩
    ·simp[Out.bad]at ht
  ·simp[Out.bad]at ht
 | _=>
  rw[hop]at h3
  obtain⟨rfl,_⟩:=h3
  simp only[sem,wy,yu,binS,qeh,qa4,yb,yw,jt,vh,zn,vw,qbu,ko,qa5]at ht
  first
   |(simp at ht;done)
   |(simp[Out.bad]at ht;done)
   |(split at ht<;>first|(simp[Out.bad]at ht;done)|(split at ht<;>first|(simp[Out.bad]at ht;done)|(split at ht<;>simp[Out.bad]at ht)))
end
section
variable {P:Program} {mu:List Nat} {N:Nat} {g:Ghost} {w:World} {st:St} {a:Act} {ops:Array Oper}
def TS (m n:Nat) (S:Nat->Bool):Nat->Prop:=λt=>t<16*m∨ ∃j,j<n∧S j=true∧16*(m+j)<=t∧t<16*(m+j)+16
theorem quy {ps:List (List Nat)} {sops:List SOper} (h:xlp ps sops=true) {i j:Nat} (hij:i<j) (hu:i∉ps.getD j []) {x y:SOper} (hx:sops[i]? =some x) (hy:sops[j]? =some y):x.apart y=true:=by
 unfold xlp at h;grind[List.getElem?_eq_some_iff,List.all_eq_true,qli]
theorem quz {x y:SOper} (h:x.apart y=true):(∀d,x.dst=some d->d∉y.looks)∧(∀d,x.dst=some d->y.dst≠some d)∧(∀d,y.dst=some d->d∉x.looks):=by
 grind[SOper.apart]
theorem ql2 {ps:List (List Nat)} {sops:List SOper} {i j:Nat} (hij:i<j) (hu:i∉ps.getD j []) {x y:SOper} (hx:sops[i]? =some x) (hy:sops[j]? =some y)
  (hm:(x.op.memW=true∧(y.op.memW=true∨y.op.memR=true))∨((x.op.memW=true∨x.op.memR=true)∧y.op.memW=true)):(i,j)∈qpt ps sops:=by
 have hj:j<sops.length:=(List.getElem?_eq_some_iff.1 hy).1;rw[List.getD_eq_getElem?_getD]at hu;simp only[qpt,List.mem_flatMap,List.mem_range,List.mem_filterMap];grind[qli]
structure Drawn (P:Program) (mu:List Nat) (N:Nat) (ops:Array Oper) (sops:List SOper) (st:St) (L:List Done):Prop where
 comp:qf9 P mu N ops ops.toList=some sops
 back: ∀j,j<ops.toList.length-> ∀e∈qby ops.toList j,e<j
 ind:xlp (qpg ops.toList) sops=true
 nil:(sops.any λo=>o.op.isNilS)=false
 clean:(sops.all λo=>o.op.opds.all Opd.clean)=true
 map:L.map (·.1)=sops
 chain:Chain P L 0 st
 pairs:qgb (qpt (qpg ops.toList) sops) (L.map λd=>d.2.2.tags)
structure Midst (N:Nat) (ops:Array Oper) (st:St) (L:List Done) (S:Nat->Bool) (g:Ghost) (w:World) (a:Act):Prop where
 closed:xfm ops.toList S
 dom: ∀j,S j=true->j<ops.size
 sr:SR N (TS st.nt ops.size S) g w (ap S L 0 st) a
 cons: ∀(j:Nat) (d:Done),L[j]? =some d->S j=true-> ∀t∈d.2.2.cons,TS st.nt ops.size S t
variable {sops:List SOper} {L:List Done} {S:Nat→Bool}
theorem Drawn.len (D:Drawn P mu N ops sops st L):L.length=ops.size∧sops.length=ops.size:=by
 have h1:=(qkp D.comp).1;have h2:L.length=sops.length:=by rw[<- D.map];simp
 grind
theorem Drawn.op (D:Drawn P mu N ops sops st L) {i:Nat} {d:Done} (h:L[i]? =some d):sops[i]? =some d.1:=by
 rw[<- D.map];simp[h]
theorem Drawn.un (D:Drawn P mu N ops sops st L) (hc:xfm ops.toList S) {i:Nat} (hi:i<ops.size) (hd: ∀e∈qby ops.toList i,S e=true): ∀e,S e=false->e∉(qpg ops.toList).getD i []:=by
 intro e he hm;have:=q9a D.back hc (i+1) i (jEy _) (by omega) hd e hm;grind
theorem Drawn.far (D:Drawn P mu N ops sops st L) (M:Midst N ops st L S g w a) {i:Nat} (hi:i<ops.size) (hS:S i=false) (hd: ∀e∈qby ops.toList i,S e=true) {j:Nat} {x y:Done}
  (z:L[i]? =some x) (m:L[j]? =some y) (hj:S j≠decide (j<i)):
  (∀d,y.1.dst=some d->d∉x.1.looks∧x.1.dst≠some d)∧
  ((x.1.op.memW=true∧(y.1.op.memW=true∨y.1.op.memR=true))∨((x.1.op.memW=true∨x.1.op.memR=true)∧y.1.op.memW=true) -> ∀id,id∈x.2.2.touch->id∉y.2.2.wrs.map (·.1))∨j=i:=by
 have C:j<ops.size:=by
  have:=(jAd.1 m).1;have:=D.len.1;omega
 by_cases p:j<i
 ·have l:S j=false:=by grind
  have o:=D.un M.closed hi hd j l;obtain⟨G,A,_⟩:=quz (quy D.ind p o (D.op m) (D.op z));refine .inl ⟨λd h=>⟨G d h,A d h⟩,λB id F E=> ?_⟩;have hp:=ql2 p o (D.op m) (D.op z) (B.elim (λ⟨u,v⟩=> .inr ⟨v,u⟩) (λ⟨u,v⟩=> .inl ⟨v,u⟩));obtain⟨t,t1,t2⟩:=qut F E;exact D.pairs _ hp t (by grind) (by grind)
 ·by_cases q:i<j
  ·have l:S j=true:=by grind
   have o:=D.un M.closed C (M.closed j (by omega) l) i hS;obtain⟨G,A,q3⟩:=quz (quy D.ind q o (D.op z) (D.op m));refine .inl ⟨λd h=>⟨q3 d h,λhe=>A d he h⟩,λB id F E=> ?_⟩;have hp:=ql2 q o (D.op z) (D.op m) B;obtain⟨t,t1,t2⟩:=qut F E;exact D.pairs _ hp t (by grind) (by grind)
  omega
theorem Drawn.order (D:Drawn P mu N ops sops st L) (hlt: ∀t∈st.live,t<16*st.nt) (t:Nat): ∀(i j:Nat) (d e:Done),L[i]? =some d->L[j]? =some e->t∈d.2.2.iss->t∈e.2.2.cons->i<j:=by
 intro i j d e hi hj h1 h2;have c1:=ql0 (qa8 D.chain i d hi) t h1;obtain⟨h3,_⟩:=ql1 (qa8 D.chain j e hj) t h2;rcases qri _ t L 0 st h3 with h4|⟨m,f,q1,q2,q3⟩
 ·grind
 ·have c2:=ql0 (qa8 D.chain m f q1) t q3;grind
theorem Drawn.same (D:Drawn P mu N ops sops st L) (M:Midst N ops st L S g w a) {i:Nat} (hi:i<ops.size) (q:S i=false) (p: ∀e∈qby ops.toList i,S e=true) {x:Done} (m:L[i]? =some x):
  (∀n,n∈x.1.looks∨x.1.dst=some n->(ap S L 0 st).fr.get n=(ap (λj=>decide (j<i)) L 0 st).fr.get n)∧
  (∀id,id∈x.2.2.touch->(ap S L 0 st).os[id]? =(ap (λj=>decide (j<i)) L 0 st).os[id]?):=by
 refine⟨λn hn=>q87 _ _ n L 0 st st rfl (λj d l hdd=> ?_),λid o=>q88 _ _ id L 0 st st rfl rfl (λj d l hw=> ?_)⟩
 ·rw[Nat.zero_add];by_cases h:S j=decide (j<i)
  ·exact h
  ·rcases D.far M hi q p m l h with⟨h1,_⟩|rfl;all_goals grind
 ·rw[Nat.zero_add];by_cases h:S j=decide (j<i)
  ·exact h
  ·rcases D.far M hi q p m l h with⟨_,h1⟩|rfl
   ·have hmw:=qxh (qa8 D.chain j d l) hw;have htm:=xfn (qa8 D.chain i x m) o;grind
   grind
theorem Drawn.now (D:Drawn P mu N ops sops st L) (C: ∀t∈st.live,t<16*st.nt) (M:Midst N ops st L S g w a) {i:Nat} (hi:i<ops.size) (hS:S i=false) (hd: ∀e∈qby ops.toList i,S e=true) {x:Done} (A:L[i]? =some x):
  AOne P (16*(st.nt+i)) x.1 (ap S L 0 st) x.2.1 x.2.2:=by
 have u:=qa8 D.chain i x A;rw[Nat.zero_add]at u;obtain⟨J,s2⟩:=D.same M hi hS hd A;refine xl0 u (λn hn=>J n (.inl hn)) (by grind[qig]) s2 (λhg t O=> ?_);obtain⟨U,_⟩:=ql1 u t O;rw[hg]at u;have R:=D.order C t;rw[qre _ _ _ _ _ R]at U⊢;obtain⟨q,hl2⟩:=U;refine⟨?_,?_⟩
 ·rcases q with q|⟨j,d,z,F,o⟩
  ·grind
  ·refine .inr ⟨j,d,z,?_,o⟩;rw[Nat.zero_add];obtain⟨y,hy,hok,h⟩:=xby u t O;have hcl:y.clean=true:=by
    have h1:=List.all_eq_true.1 D.clean _ (List.mem_of_getElem? (D.op A));grind
   have G:=ql0 (qa8 D.chain j d z) t o;rw[Nat.zero_add]at G;cases y with
   |k s=>cases s<;>first|(simp[Opd.clean]at hcl;done)|grind[Opd.get,ASlot.toks]
   |t n=>
    have l:=J n (.inl (by unfold SOper.looks;exact List.mem_append_left _ (qih hy rfl)));simp only[Opd.ok,Opd.get]at hok h;rw[<- l]at hok h;cases hgt:(ap S L 0 st).fr.get n with
    |none=>grind
    |some p=>
     obtain⟨v,s⟩:=p;rw[hgt]at hok h;simp only at hok h;rcases M.sr.wf.fr n s (by grind) t (by omega)with h4|⟨m,hm,hSm,h5,h6⟩;all_goals grind
 ·rintro⟨j,d,z,I,B⟩;rw[Nat.zero_add]at I;by_cases F:j<i
  ·grind
  ·have hne:j≠i:=by grind
   obtain⟨E,_⟩:=ql1 (qa8 D.chain j d z) t B;rw[qre _ _ _ _ _ R]at E;grind
theorem Drawn.step (D:Drawn P mu N ops sops st L) (O: ∀t∈st.live,t<16*st.nt) (M:Midst N ops st L S g w a) {i:Nat} (hi:i<ops.size) (hS:S i=false) (hd: ∀e∈qby ops.toList i,S e=true) {x:Done} (v:L[i]? =some x)
  {g':Ghost} {w':World} {a':Act} {S':Nat->Bool} (hS': ∀j,S' j=(decide (j=i)||S j)) (Y:SR N (Next (TS st.nt ops.size S) (16*(st.nt+i))) g' w' ((ap S L 0 st).next x.1 x.2.1 x.2.2) a'):
  Midst N ops st L S' g' w' a':=by
 have l: ∀j,S j=true->S' j=true:=λj h=>by grind
 have G:S' i=true:=by grind
 have F: ∀j,j≠i->S' j=S j:=λj h=>by grind
 have hT: ∀t,Next (TS st.nt ops.size S) (16*(st.nt+i)) t->TS st.nt ops.size S' t:=by
  rintro t ((h|⟨j,p,B,h3⟩)|h)
  ·exact .inl h
  ·exact .inr ⟨j,p,l j B,h3⟩
  ·exact .inr ⟨i,hi,G,h⟩
 have ho:=D.order O;have J:=D.now O M hi hS hd v;have I:=qa8 D.chain i x v;rw[Nat.zero_add]at I;refine⟨λj q R e he=> ?_,λj R=> ?_,(Y.weakT hT).like ⟨λk=> ?_,λid=> ?_,λt=> ?_⟩,λj d q R t ht=> ?_⟩
 ·by_cases o:j=i
  ·grind
  ·exact l e (M.closed j q (by grind) e he)
 ·by_cases o:j=i
  ·omega
  ·exact M.dom j (by grind)
 ·by_cases U:x.1.dst=some k
  ·have p:(ap S' L 0 st).fr.get k=(ap (λj=>decide (j<0+i+1)) L 0 st).fr.get k:=q87 _ _ k L 0 st st rfl (λj d q aa=>by
    rw[Nat.zero_add,Nat.zero_add];by_cases o:j=i
    ·grind
    ·rw[F j o];have u:decide (j<i+1)=decide (j<i):=by grind
     rw[u];by_cases h:S j=decide (j<i)
     ·exact h
     ·rcases D.far M hi hS hd v q h with⟨B,_⟩|rfl;all_goals grind)
   rw[p,q52 L 0 i st x v];simp_all[St.next,qlz,if_true]
  ·have p:(ap S' L 0 st).fr.get k=(ap S L 0 st).fr.get k:=q87 _ _ k L 0 st st rfl (λj d q aa=>by
    grind)
   simp_all[St.next,qlz,if_neg]
 ·by_cases U:id∈x.2.2.wrs.map (·.1)
  ·have p:(ap S' L 0 st).os[id]? =(ap (λj=>decide (j<0+i+1)) L 0 st).os[id]? :=q88 _ _ id L 0 st st rfl rfl (λj d q X=>by
    rw[Nat.zero_add,Nat.zero_add];by_cases o:j=i
    ·grind
    ·rw[F j o];have u:decide (j<i+1)=decide (j<i):=by grind
     rw[u];by_cases h:S j=decide (j<i)
     ·exact h
     ·rcases D.far M hi hS hd v q h with⟨_,B⟩|rfl
      ·have Z:=qxh (qa8 D.chain j d q) X;exact(B (.inl ⟨qxh I U,.inl Z⟩) id (List.mem_append_left _ U) X).elim
      omega)
   rw[p,q52 L 0 i st x v];have hg: ∀z:St,(z.next x.1 x.2.1 x.2.2).os[id]? =(jn z.os x.2.2.wrs)[id]? :=λz=>rfl;grind[qko,qig]
  ·have p:(ap S' L 0 st).os[id]? =(ap S L 0 st).os[id]? :=q88 _ _ id L 0 st st rfl rfl (λj d q X=>by
    grind)
   rw[p];exact(qa7 _ _ _ U).symm
 ·have hl:t∈((ap S L 0 st).next x.1 x.2.1 x.2.2).live↔(t∈(ap S L 0 st).live∧t∉x.2.2.cons)∨t∈x.2.2.iss:=jr;rw[hl,qre S' t L 0 st (ho t),qre S t L 0 st (ho t)];simp only[Nat.zero_add];constructor
  ·rintro⟨p,B⟩;have hnc:t∉x.2.2.cons:=λhc=>B ⟨i,x,v,G,hc⟩;have hns: ¬ ∃(j:Nat) (d:Done),L[j]? =some d∧S j=true∧t∈d.2.2.cons:=λ⟨j,d,E,A,C⟩=>B ⟨j,d,E,l j A,C⟩;rcases p with p|⟨j,d,E,A,C⟩
   ·grind
   grind
  ·rintro(⟨⟨p,B⟩,h3⟩|p)
   ·refine⟨p.imp id λ⟨j,d,E,A,C⟩=>⟨j,d,E,l j A,C⟩,λ⟨j,d,E,A,C⟩=> ?_⟩;grind
   ·refine⟨.inr ⟨i,x,v,G,p⟩,λ⟨j,d,E,A,C⟩=> ?_⟩;by_cases o:j=i
    ·grind
    ·rw[F j o]at A;have hir:=ql0 I t p;rcases M.cons j d E A t C with h4|⟨m,_,hSm,h5,h6⟩
     ·omega
     ·have:m=i:=by omega
      grind
 ·by_cases o:j=i
  ·subst o;rw[v]at q;cases q;obtain⟨p,_⟩:=ql1 J t ht;exact hT t (.inl (M.sr.wf.live t p))
  ·exact hT t (.inl (M.cons j d q (by grind) t ht))
theorem Drawn.any {ro:Option Nat} {ds:List Deferred} {Q:Exit->Act->World->Prop} (D:Drawn P mu N ops sops st L) (E: ∀t∈st.live,t<16*st.nt)
  (hQ: ∀g' w' a',a'.defers=ds->G g w g' w'->SR N (below (st.nt+ops.size)) g' w' (ap (λ_=>true) L 0 st) a'->Q .normal a' w'):
  ∀(l:Nat) (d:Array Bool) (U:List Nat) (g':Ghost) (w':World) (a':Act),d.size=ops.size->U.length<=l->(∀j,j<ops.size->d.getD j false=false->j∈U) ->
   a'.defers=ds->G g w g' w'->Midst N ops st L (λj=>d.getD j false) g' w' a'->wpAnyIn (Fw ro) 0 P .any ops Q l d a' w':=by
 have p: ∀(d:Array Bool) (g':Ghost) (w':World) (a':Act),(∀j,j<ops.size->d.getD j false=true) ->a'.defers=ds->G g w g' w'->Midst N ops st L (λj=>d.getD j false) g' w' a'->Q .normal a' w':=by
  intro d g' w' a' q o z M;refine hQ g' w' a' o z ?_;have h1:ap (λj=>d.getD j false) L 0 st=ap (λ_=>true) L 0 st:=q9b _ _ L 0 st (λj F=>by rw[Nat.zero_add];exact q j (by rw[D.len.1]at F;exact F));rw[<- h1];refine M.sr.weakT ?_;rintro t (h|⟨j,h1,h2,h3,h4⟩);all_goals grind[below]
 have m: ∀(d:Array Bool) (i:Nat),d.size=ops.size->i<ops.size->(i∈Region.ready .any ops d↔d.getD i false=false∧ ∀e∈qby ops.toList i,d.getD e false=true):=by
  intro d i u hi;have Z:d.getD i true=d.getD i false:=by grind
  unfold Region.ready;rw[List.mem_filter,List.mem_range];have R:ops[i]? =some ops[i]:=by simp
  have B:ops.toList[i]? =some ops[i]:=by simp
  simp only[R,Option.map_some,Option.getD_some,Z,qby,B,Bool.and_eq_true,Bool.not_eq_true',hi,true_and];refine and_congr Iff.rfl ?_;rw[Array.all_eq_true'];grind
 intro l;induction l with
 |zero=>
  intro d U g' w' a' u hU hm o z M;have q: ∀j,j<ops.size->d.getD j false=true:=by
   grind
  refine⟨?_,p d g' w' a' q o z M⟩;simp_all[Region.ready,any,nil,List.mem_cons_self,List.mem_range]
 |succ l ih=>
  intro d U g' w' a' u hU hm o z M;refine⟨λhr=>p d g' w' a' ?_ o z M,λi Y=> ?_⟩
  ·have: ∀(n j:Nat),j<n->j<ops.size->d.getD j false=true:=by
    intro n;induction n with
    |zero=>simp
    |succ n ihn=>
     intro j hjn F;cases h:d.getD j false with
     |true=>rfl
     |false=>
      have hmem:=(m d j u F).2 ⟨h,λe he=>by
       have hej:=D.back j (by omega) e he;grind⟩
      grind
   grind
  ·have hi:i<ops.size:=by grind[Region.ready]
   obtain⟨hS,hd⟩:=(m d i u hi).1 Y;have ab:i<L.length:=by rw[D.len.1];exact hi
   have J:L[i]? =some L[i]:=List.getElem?_eq_getElem ab;have C:=D.now E M hi hS hd J;have hop:ops[i]? =some ops[i]:=by simp
   obtain⟨back,v⟩:=(qkp D.comp).2 i ops[i] L[i].1 (by simp) (D.op J);have X:L[i].1.op.isNilS=false:=by
    have:=D.nil;rw[List.any_eq_false]at this;have:=this _ (List.mem_of_getElem? (D.op J));grind
   have aa:Fresh (TS st.nt ops.size λj=>d.getD j false) (16*(st.nt+i)):=by
    rintro t (h|⟨j,h1,h2,h3,h4⟩) ⟨h5,h6⟩;all_goals grind
   have hone:=xrq (ro:=ro) (K:=wpAnyIn (Fw ro) 0 P .any ops Q l (d.setIfInBounds i true)) (Q:=Q) v M.sr aa C X (λa'' w'' g'' I ac O=>by
    have A: ∀j,(d.setIfInBounds i true).getD j false=(decide (j=i)||d.getD j false):=by
     intro j;simp only[Array.getD_eq_getD_getElem?,Array.getElem?_setIfInBounds];grind
    refine ih (d.setIfInBounds i true) (U.erase i) g'' w'' a'' (by grind) ?_ (λj F hjf=> ?_) (I.trans o) (z.trans ac) (D.step E M hi hS hd J A O);all_goals grind)
   simp_all[wpOpIn,if_pos,if_neg]
theorem xfo {ro:Option Nat} {Q:Exit->Act->World->Prop} {id:Nat} {draw:Bool} {objs:Nat} {pairs:List (Nat×Nat)} {K:St->Prop} (hm:P.follows .mixedOrders=true) {news:List (FuncId×Nat)} (hc:qm3 P mu N news ops draw=some (sops,objs,pairs))
  (hs:SR N (below st.nt) g w st a) (h:xfl P sops objs pairs K st)
  (hQ: ∀st' g' w' a',a'.defers=a.defers->K st'->G g w g' w'->SR N (below st'.nt) g' w' st' a'->Q .normal a' w'):(Code.region id ops draw).wpIn (Fw ro) 0 P Q a w:=by
 unfold qm3 at hc
 cases hcs:qf9 P mu N ops ops.toList with
 |none=>grind
 |some sops'=>
  rw[hcs]at hc
  cases draw with
  |false=>
   simp only[jAw,if_false,jA8,jCw]at hc
   obtain⟨rfl,rfl,rfl⟩:=hc
   refine wpIn_region_list ?_
   refine qif ops.toList sops' 0 [] _ (st.grow _) g w a hcs h (hs.grow _) (fun tids' st' a' w' g' hdf hK hnt hG hsr=> ?_)
   refine hQ _ g' w' a' hdf hK.2 hG (SR.bump ?_ _)
   show SR N (below (st'.nt+sops'.length)) g' w' st' a'
   grind
  |true=>
   simp only[if_true]at hc
   split at hc
   ·rename_i hchk
    simp only[jAf,jBd]at hchk
    obtain⟨⟨⟨c1,c2⟩,c3⟩,c4⟩:=hchk
    simp only[jA8,jCw]at hc
    obtain⟨rfl,rfl,rfl⟩:=hc
    refine wpIn_region_any hm ?_
    have hsg:SR N (below st.nt) g {w with drawn:=w.drawn+1} (st.grow (q0o news sops'+ops.toList.countP (Op.allocs ·.op))) a:=(hs.grow _).drew
    obtain⟨L,q1,q2,q3,q4⟩:=qly sops' 0 [] _ _ h c3
    have D:Drawn P mu N ops sops' (st.grow (q0o news sops'+ops.toList.countP (Op.allocs ·.op))) L:=⟨hcs,qt9 c1,c2,c3,c4,q1,q2,by grind⟩
    have hG0:G g w g {w with drawn:=w.drawn+1}:=⟨rfl,rfl,rfl,jAi _,fun _ _ h=>⟨rfl,h⟩,fun _ _ _ h=>⟨rfl,h⟩,fun _ n t _ h=>⟨n,some t,h,jAi _,fun _ _ _ h=>h⟩,fun _ _ _ h=>⟨h,jAi _⟩⟩
    refine D.any (fun t ht=>hsg.wf.live t ht) (fun g' w' a' hdf hG hsr=>hQ _ g' w' a' hdf q4 (hG0.trans hG) (SR.bump ?_ _)) ops.size _ (List.range ops.size) g _ a (by simp) (by simp) (fun j hj _=>jC8.2 hj) rfl (G.refl _ _) ?_
    ·show SR N (below ((ap (fun _=>true) L 0 _).nt+sops'.length)) g' w' _ a'
     rw[xwd,D.len.2]
     exact hsr
    ·have hno: ∀j,(Array.replicate ops.size false).getD j false=false:=by
      intro j
      simp only[jBg,Array.getElem?_replicate]
      grind
     refine⟨fun j _ h=> ?_,fun j h=> ?_,?_,fun j d _ h=> ?_⟩
     ·grind
     ·grind
     ·rw[qxg _ L 0 _ (fun j _=>hno _)]
      exact hsg.weakT fun t h=> .inl h
     grind
   grind
end
mutual
def D.okW (keep:Nat->Bool):D->Bool
 | .sl _ rows=>D.okWR keep rows
 | .agg cs=>D.okWL keep cs
 | .ptr id _=>keep id
 | .ref id _ _ _=>keep id
 | .map id=>keep id
 | .func _ a b=>D.okWL keep a&&D.okWL keep b
 | .iface _ d=>D.okW keep d
 | _=>true
def D.okWL (keep:Nat->Bool):List D->Bool
 | []=>true
 |d::l=>D.okW keep d&&D.okWL keep l
def D.okWR (keep:Nat->Bool):List (List D) ->Bool
 | []=>true
 |r::l=>D.okWL keep r&&D.okWR keep l
end
theorem D.okWL_iff (keep:Nat->Bool): ∀(l:List D),D.okWL keep l=true↔ ∀d∈l,d.okW keep=true
 | []=>by simp[D.okWL]
 |d::l=>by simp[D.okWL,D.okWL_iff keep l]
theorem D.okWR_iff (keep:Nat->Bool): ∀(l:List (List D)),D.okWR keep l=true↔ ∀d∈l.flatten,d.okW keep=true
 | []=>by simp[D.okWR]
 |r::l=>by
  simp only[D.okWR,jAf,D.okWL_iff,D.okWR_iff keep l,List.flatten_cons,jAs];constructor
  ·rintro⟨h1,h2⟩ d (h|h)
   ·exact h1 d h
   ·exact h2 d h
  ·exact λh=>⟨λd e=>h d (.inl e),λd e=>h d (.inr e)⟩
mutual
theorem D.okW_noPtr {keep:Nat->Bool}: ∀{d:D},d.noPtr=true->d.okW keep=true
 | .sl _ rows,h=>D.okWR_noPtr (by simpa only[D.noPtr]using h)
 | .agg cs,h=>D.okWL_noPtr (by simpa only[D.noPtr]using h)
 | .func _ a b,h=>by
  simp only[D.noPtr,jAf]at h;simp only[D.okW,D.okWL_noPtr h.1,D.okWL_noPtr h.2,jBu]
 | .iface _ d,h=>D.okW_noPtr (d:=d) (by simpa only[D.noPtr]using h)
 | .ptr ..,h=>by simp[D.noPtr]at h
 | .ref ..,h=>by simp[D.noPtr]at h
 | .map _,h=>by simp[D.noPtr]at h
 | .int ..,_=>rfl
 | .bool _,_=>rfl
 | .str _,_=>rfl
 | .nilptr,_=>rfl
 | .nilfunc,_=>rfl
 | .niliface,_=>rfl
 | .nilmap,_=>rfl
 | .nilsl,_=>rfl
 | .any,_=>rfl
theorem D.okWL_noPtr {keep:Nat->Bool}: ∀{l:List D},D.noPtrL l=true->D.okWL keep l=true
 | [],_=>rfl
 |d::l,h=>by
  simp only[D.noPtrL,jAf]at h;simp only[D.okWL,D.okW_noPtr h.1,D.okWL_noPtr h.2,jBu]
theorem D.okWR_noPtr {keep:Nat->Bool}: ∀{l:List (List D)},D.noPtrR l=true->D.okWR keep l=true
 | [],_=>rfl
 |r::l,h=>by
  simp only[D.noPtrR,jAf]at h;simp only[D.okWR,D.okWL_noPtr h.1,D.okWR_noPtr h.2,jBu]
end
theorem RV.okW {g g':Ghost} {w w':World} {keep:Nat->Bool} {v:Value} {d:D} (h:RV g w v d) (hr:RowsKept g w g' w') (p: ∀(b id:Nat),keep id=true->g b= .obj id->g' b= .obj id∧qdm w b<=qdm w' b) (e:d.okW keep=true):RV g' w' v d:=by
 induction h with
 |int k n=>exact .int k n
 |bool b=>exact .bool b
 |str s=>exact .str s
 |nilsl a c es hn=>exact .nilsl a c es hn
 |sl b off cap es n o rows f hg hn hcap hes hcl hcell _ ih=>
  obtain⟨n',o',q,hnn,hc⟩:=hr b n o hg;rw[D.okW,D.okWR_iff]at e;refine .sl b off cap es n' o' rows f q (by omega) hcap hes hcl (λj d m=>hc _ _ ?_ (hcell j d m)) (λj d m=>ih j d m (e d (jAe m)));have:=(jAd.1 m).1;omega
 |agg vs ds hl hcl _ ih=>
  rw[D.okW,D.okWL_iff]at e;exact .agg vs ds hl hcl (λj v d l i=>ih j v d l i (e d (jAe i)))
 |ptr b off id hg=>exact .ptr b off id (p b id (by simpa only[D.okW]using e) hg).1
 |ref b off id es len cap hg hcap hm hsz=>
  obtain⟨h1,h2⟩:=p b id (by simpa only[D.okW]using e) hg;exact .ref b off id es len cap h1 hcap hm (jBn hsz h2)
 |refnil a id off es=>exact .refnil a id off es
 |nilptr=>exact .nilptr
 |func fn vf vc df dc hf hc _ _ i1 i2=>
  rw[D.okW,jAf,D.okWL_iff,D.okWL_iff]at e;exact .func fn vf vc df dc hf hc (λj v d l i=>i1 j v d l i (e.1 d (jAe i))) (λj v d l i=>i2 j v d l i (e.2 d (jAe i)))
 |nilfunc=>exact .nilfunc
 |iface t v d _ ih=>exact .iface t v d (ih (by simpa[D.okW]using e))
 |niliface=>exact .niliface
 |map b id hg=>exact .map b id (p b id (by simpa only[D.okW]using e) hg).1
 |nilmap=>exact .nilmap
 |nils=>exact .nils
 |any v l=>exact .any v l
def qd5 (keep:Nat->Bool):ASlot->ASlot->Prop
 |s,.d x=>s.eqvD x∧x.okW keep=true
 | .own _ es rows,.own _ es' rows'=>(es=es'∧D.eqvR rows rows')∧D.noPtrR rows'=true
 | .uni _ es rows,.uni _ es' rows'=>(es=es'∧rows=rows')∧D.noPtrR rows'=true
 | .full _ rows,.uni _ _ rows'=>rows= []∧rows'= []
 | .d .nilsl,.uni _ _ rows'=>rows'= []
 | .full es rows,.own _ es' rows'=>qa2 es rows es' rows'∧D.noPtrR rows'=true
 | .full es rows,.full es' rows'=>qa2 es rows es' rows'∧D.noPtrR rows'=true
 | .d .nilsl,.own _ _ rows'=>rows'= []
 | .d .nilsl,.full _ rows'=>rows'= []
 | .rd cs,.rd cs'=>D.eqvL cs cs'∧D.noPtrL cs'=true
 | _,.bad=>True
 | _,_=>False
def wl:ASlot->ASlot->List (Nat×Nat)
 | .own t _ _,.own t' _ _=> [(t,t')]
 | .uni t _ _,.uni t' _ _=> [(t,t')]
 | _,_=> []
def qc9 (fr:Fr):Fr->List (Nat×Nat)
 | []=> []
 |(k,_,s')::l=>match fr.get k with
  |some (_,s)=>wl s s'++qc9 fr l
  |none=>qc9 fr l
def qb5:List ASlot->List ASlot->List (Nat×Nat)
 |s::l,s'::l'=>wl s s'++qb5 l l'
 | _,_=> []
def yy:List AObj->List AObj->List (Nat×Nat)
 | .row cs::l,.row cs'::l'=>qb5 cs cs'++yy l l'
 | _::l,_::l'=>yy l l'
 | _,_=> []
def yq (os:List AObj) (id:Nat):Bool:=match os[id]?with|some .none=>false|some _=>true| _=>false
def frW (keep:Nat->Bool) (fr:Fr):Fr->Prop
 | []=>True
 |(k,v,s')::l=>(match fr.get k with
  |some (v',s)=>v'=v∧(v=true->qd5 keep s s')
  |none=>False)∧frW keep fr l
def csW (keep:Nat->Bool):List ASlot->List ASlot->Prop
 |s::l,s'::l'=>qd5 keep s s'∧csW keep l l'
 | _,[]=>True
 | [],_::_=>False
def osW (keep:Nat->Bool):List AObj->List AObj->Prop
 | .row cs::l,.row cs'::l'=>csW keep cs cs'∧osW keep l l'
 | .map es c::l,.map es' c'::l'=>(es=es'∧c=c')∧osW keep l l'
 | .iter m a b c::l,.iter m' a' b' c'::l'=>(qd5 keep m m'∧wl m m'= []∧a=a'∧b=b'∧c=c')∧osW keep l l'
 | _::l,.none::l'=>osW keep l l'
 | [],.none::l'=>osW keep [] l'
 | _,[]=>True
 | _,_=>False
def qkg:Fr->List Nat
 | []=> []
 |(_,_,s)::l=>s.toks++qkg l
def qg9 (k0:Nat) (os d:List AObj):Prop:= ∀id,id<k0->yq os id=true->yq d id=true
structure Weak (k0:Nat) (st st':St):Prop where
 fr:frW (yq st'.os) st.fr st'.fr
 os:osW (yq st'.os) st.os st'.os
 live: ∀p∈qc9 st.fr st'.fr++yy st.os st'.os,p.2∈st'.live->p.1∈st.live
 nd:((qc9 st.fr st'.fr++yy st.os st'.os).map (·.1)).Nodup
 base:qg9 k0 st.os st'.os
 wf: ∀t∈st'.live++qkg st'.fr++xi st'.os,t<16*st'.nt
def wkG (hs:List (Nat×Nat)) (keep:Nat->Bool) (g:Ghost):Ghost:=λb=>
 match g b with
 | .row n (some t)=> .row n (vj hs t)
 | .uni t=>match vj hs t with|some t'=> .uni t'|none=> .out
 | .obj id=>if keep id then .obj id else .out
 |r=>r
section
variable {P:Program} {N:Nat} {T:Nat→Prop} {g g0:Ghost} {w w0:World} {st st':St} {a:Act} {hs:List (Nat×Nat)} {keep:Nat→Bool} {live live':List Nat}
theorem qe8:RowsKept g w (wkG hs keep g) w:=by
 intro b n o hg;refine⟨n,o.bind (vj hs),?_,jAi _,λ_ _ _ h=>h⟩;unfold wkG;rw[hg];cases o<;>rfl
theorem xwe {v:Value} {d:D} (h:RV g w v d) (e:d.okW keep=true):RV (wkG hs keep g) w v d:=
 h.okW qe8 (λb id e hg=>⟨by unfold wkG;rw[hg];simp[e],jAi _⟩) e
theorem q53 {v:Value} {s s':ASlot} (C:(hs.map (·.1)).Nodup) (X: ∀p∈wl s s',p∈hs) (Y: ∀p∈hs,p.2∈live'->p.1∈live) (h:RS g w live v s) (i:qd5 keep s s'):
  RC (wkG hs keep g) w live' v s':=by
 have F:=qe8 (g:=g) (w:=w) (hs:=hs) (keep:=keep);have sl: ∀{es:Nat} {rows:List (List D)},RV g w v (.sl es rows) ->D.noPtrR rows=true->RV (wkG hs keep g) w v (.sl es rows):=λh1 I=>h1.mono_noPtr F (by simpa only[D.noPtr]using I);cases s' with
 |d x=>
  have I:s.eqvD x∧x.okW keep=true:=by cases s<;>simpa only[qd5]using i
  exact xwe (qxc h I.1) I.2
 |own t' es' rows'=>
  cases s with
  |own t es rows=>
   obtain⟨⟨rfl,G⟩,E⟩:=i;refine⟨sl (qcd h.1 ⟨.inl rfl,G⟩) E,λq=> ?_⟩;have m:=X (t,t') (by simp[wl]);have hp:=qcr C m;rcases qq6 (h.2 (Y _ m q)) G with U|⟨b,cap,A,e,O,M,J⟩
   ·exact .inl U
   ·refine .inr ⟨b,cap,A,e,O,?_,J⟩;unfold wkG;rw[M];simp only[hp]
  |full es rows=>exact⟨sl (qcd h.1 i.1) i.2,λ_=> .inl (qpw h.2 i.1.2)⟩
  |d y=>
   obtain⟨rfl,rfl⟩:v= .slice none 0 0∧rows'= []:=by
    cases y<;>first|exact i.elim|skip
    have h':RV g w v .nilsl:=h;cases h';exact⟨rfl,i⟩
   exact⟨.nilsl none 0 es' (λ_=>rfl),λ_=> .inl ⟨none,rfl⟩⟩
  | _=>exact i.elim
 |uni t' es' rows'=>
  cases s with
  |uni t es rows=>
   obtain⟨⟨rfl,rfl⟩,E⟩:=i;refine⟨h.1,λq=> ?_⟩;have m:=X (t,t') (by simp[wl]);have hp:=qcr C m;rcases h.2 (Y _ m q)with U|⟨b,cap,A,e,O,M,J,q4,q5,q6,q7,q8⟩
   ·exact .inl U
   ·refine .inr ⟨b,cap,A,e,O,?_,J,q4,q5,q6,q7,λj d B=> ?_⟩
    ·unfold wkG;rw[M];simp only[hp]
    ·obtain⟨c1,u,c2,c3⟩:=q8 j d B;exact⟨c1,u,c2,c3.mono_noPtr F ((D.noPtrR_iff rows).1 E d (jAe B))⟩
  |full es rows=>
   obtain⟨rfl,rfl⟩:=i;obtain⟨a,rfl⟩:=h.2;exact⟨⟨a,0,rfl⟩,λ_=> .inl ⟨a,rfl,rfl⟩⟩
  |d y=>
   obtain⟨rfl,rfl⟩:v= .slice none 0 0∧rows'= []:=by
    cases y<;>first|exact i.elim|skip
    have h':RV g w v .nilsl:=h;cases h';exact⟨rfl,i⟩
   exact⟨⟨none,0,rfl⟩,λ_=> .inl ⟨none,rfl,rfl⟩⟩
  | _=>exact i.elim
 |full es' rows'=>
  cases s with
  |full es rows=>exact⟨sl (qcd h.1 i.1) i.2,qpw h.2 i.1.2⟩
  |d y=>
   obtain⟨rfl,rfl⟩:v= .slice none 0 0∧rows'= []:=by
    cases y<;>first|exact i.elim|skip
    have h':RV g w v .nilsl:=h;cases h';exact⟨rfl,i⟩
   exact⟨.nilsl none 0 es' (λ_=>rfl),none,rfl⟩
  | _=>exact i.elim
 |rd cs'=>
  cases s with
  |rd cs=>
   obtain⟨G,E⟩:=i;obtain⟨b,off,n,o,fn,rfl,hg,hn,hcc⟩:=xro (live:=live) h G;obtain⟨n',o',R,hnn,z⟩:=F b n o hg;refine⟨b,off,n',o',fn,rfl,R,by omega,λj d B=> ?_⟩;obtain⟨c1,c2,c3⟩:=hcc j d B;have hjl:j<cs'.length:=(jAd.1 B).1;exact⟨c1,z _ _ (by omega) c2,c3.mono_noPtr F ((D.noPtrL_iff cs').1 E d (jAe B))⟩
  | _=>exact i.elim
 |tup l=>cases s<;>exact i.elim
 |bad=>trivial
theorem q1j {s:ASlot} {l:List ASlot}: ¬qd5 keep s (.tup l):=by cases s<;>simp[qd5]
theorem qxi {fr:Fr}: ∀{d:Fr},frW keep fr d-> ∀(k:Nat) (v:Bool) (s':ASlot),d.get k=some (v,s') ->
  ∃s,fr.get k=some (v,s)∧(v=true->qd5 keep s s')∧ ∀p∈wl s s',p∈qc9 fr d
 | [],_,k,v,s',h=>by simp[Fr.get]at h
 |(j,v',s'')::l,hw,k,v,s',h=>by
  obtain⟨e,h2⟩:=hw;simp only[Fr.get]at h;split at h
  ·rename_i hj;subst hj;cases h;cases hg:fr.get j with
   |none=>rw[hg]at e;exact e.elim
   |some p=>
    obtain⟨u,s⟩:=p;rw[hg]at e;obtain⟨rfl,h4⟩:=e;refine⟨s,rfl,h4,λp hp=> ?_⟩;simp only[qc9,hg];exact jBa _ hp
  ·obtain⟨s,q1,q2,i⟩:=qxi h2 k v s' h;refine⟨s,q1,q2,λp hp=> ?_⟩;simp only[qc9];split
   ·exact jBc _ (i p hp)
   ·exact i p hp
theorem xfp: ∀{l l':List ASlot},csW keep l l'->l'.length<=l.length∧ ∀(i:Nat) (s':ASlot),l'[i]? =some s'-> ∃s,l[i]? =some s∧qd5 keep s s'∧ ∀p∈wl s s',p∈qb5 l l'
 | _,[],_=>by simp
 | [],_::_,h=>h.elim
 |s::l,s'::l',h=>by
  obtain⟨h1,h2⟩:=h;obtain⟨k1,k2⟩:=xfp h2;refine⟨by simp;omega,λi u hi=> ?_⟩;cases i with
  |zero=>simp at hi;subst hi;exact⟨s,rfl,h1,λp hp=>jBa _ hp⟩
  |succ i=>
   obtain⟨u',q1,q2,q3⟩:=k2 i u (by simpa using hi);exact⟨u',by simpa using q1,q2,λp hp=>jBc _ (q3 p hp)⟩
theorem qnb: ∀{l l':List AObj},osW keep l l'-> ∀(i:Nat) (d:List ASlot),l'[i]? =some (.row d) -> ∃cs,l[i]? =some (.row cs)∧csW keep cs d∧ ∀p∈qb5 cs d,p∈yy l l'
 |l,[],_,i,d,h=>by simp at h
 | [],.none::l',hw,i,d,h=>by
  cases i with
  |zero=>simp at h
  |succ i=>
   obtain⟨cs,e,_⟩:=qnb (l:= []) (show osW keep [] l' from hw) i d (by simpa using h);simp at e
 | [],.row _::l',hw,i,d,h=>hw.elim
 | [],.map .. ::l',hw,i,d,h=>hw.elim
 | [],.iter .. ::l',hw,i,d,h=>hw.elim
 |o::l,.none::l',hw,i,d,h=>by
  have t:osW keep l l':=by cases o<;>exact hw
  cases i with
  |zero=>simp at h
  |succ i=>
   obtain⟨cs,e,q,m⟩:=qnb t i d (by simpa using h);refine⟨cs,by simpa using e,q,λp hp=> ?_⟩;cases o<;>exact m p hp
 | .none::l,.row _::l',hw,i,d,h=>hw.elim
 | .row cs::l,.row cs''::l',hw,i,d,h=>by
  obtain⟨h1,t⟩:=hw;cases i with
  |zero=>simp at h;subst h;exact⟨cs,rfl,h1,λp hp=>jBa _ hp⟩
  |succ i=>
   obtain⟨u,e,q,m⟩:=qnb t i d (by simpa using h);exact⟨u,by simpa using e,q,λp hp=>jBc _ (m p hp)⟩
 | .map _ _::l,.map _ _::l',hw,i,d,h=>by
  cases i with
  |zero=>simp at h
  |succ i=>
   obtain⟨u,e,q,m⟩:=qnb hw.2 i d (by simpa using h);exact⟨u,by simpa using e,q,m⟩
 | .iter _ _ _ _::l,.iter _ _ _ _::l',hw,i,d,h=>by
  cases i with
  |zero=>simp at h
  |succ i=>
   obtain⟨u,e,q,m⟩:=qnb hw.2 i d (by simpa using h);exact⟨u,by simpa using e,q,m⟩
theorem q54: ∀{l l':List AObj},osW keep l l'-> ∀(i:Nat) (es:List (Nat×D×D)) (c:Nat),l'[i]? =some (.map es c) ->l[i]? =some (.map es c)
 |l,[],_,i,es,c,h=>by simp at h
 |o::l,o'::l',hw,0,es,c,h=>by
  simp at h;subst h;cases o with
  |map es1 c1=>obtain⟨⟨rfl,rfl⟩,_⟩:=hw;rfl
  | _=>exact hw.elim
 |o::l,o'::l',hw,i+1,es,c,h=>by
  have h2:osW keep l l':=by cases o<;>cases o'<;>first|exact hw|exact hw.2|exact hw.elim
  simpa using q54 h2 i es c (by simpa using h)
 | [],.none::l',hw,0,es,c,h=>by simp at h
 | [],.none::l',hw,i+1,es,c,h=>by
  have:=q54 (l:= []) (show osW keep [] l' from hw) i es c (by simpa using h);simp at this
 | [],.row _::l',hw,i,es,c,h=>hw.elim
 | [],.map .. ::l',hw,i,es,c,h=>hw.elim
 | [],.iter .. ::l',hw,i,es,c,h=>hw.elim
theorem qxj: ∀{l l':List AObj},osW keep l l'-> ∀(i:Nat) (m':ASlot) (a:Nat) (b:List Nat) (c:Nat),l'[i]? =some (.iter m' a b c) -> ∃m,l[i]? =some (.iter m a b c)∧qd5 keep m m'∧wl m m'= []
 |l,[],_,i,_,_,_,_,h=>by simp at h
 |o::l,o'::l',hw,0,_,_,_,_,h=>by
  simp at h;subst h;cases o with
  |iter m1 a1 b1 c1=>obtain⟨⟨h1,d,rfl,rfl,rfl⟩,_⟩:=hw;exact⟨m1,rfl,h1,d⟩
  | _=>exact hw.elim
 |o::l,o'::l',hw,i+1,m',a,b,c,h=>by
  have d:osW keep l l':=by cases o<;>cases o'<;>first|exact hw|exact hw.2|exact hw.elim
  simpa using qxj d i m' a b c (by simpa using h)
 | [],.none::l',hw,0,_,_,_,_,h=>by simp at h
 | [],.none::l',hw,i+1,m',a,b,c,h=>by
  obtain⟨m,q1,_⟩:=qxj (l:= []) (show osW keep [] l' from hw) i m' a b c (by simpa using h);simp at q1
 | [],.row _::l',hw,i,_,_,_,_,h=>hw.elim
 | [],.map .. ::l',hw,i,_,_,_,_,h=>hw.elim
 | [],.iter .. ::l',hw,i,_,_,_,_,h=>hw.elim
theorem qnc: ∀{fr:Fr} {k:Nat} {v:Bool} {s:ASlot},fr.get k=some (v,s) -> ∀t∈s.toks,t∈qkg fr
 | [],k,v,s,h,t,ht=>by simp[Fr.get]at h
 |(j,v',s')::l,k,v,s,h,t,ht=>by
  simp only[Fr.get]at h;simp only[qkg,jAs];split at h
  ·cases h;exact .inl ht
  ·exact .inr (qnc h t ht)
theorem Weak.srD {k0:Nat} (h:Weak k0 st st') (B:SR N T g w st a) (F:G g0 w0 g w) (h0: ∀b id,g0 b= .obj id->id<k0):
  ∃g',SR N (below st'.nt) g' w st' a∧G g0 w0 g' w∧(∀b,g b= .out->g' b= .out)∧(∀b id,g b= .obj id->g' b= .obj id∨g' b= .out)∧RowsKept g w g' w∧ ∀b id,yq st'.os id=true->g b= .obj id->g' b= .obj id:=by
 let hs:=qc9 st.fr st'.fr++yy st.os st'.os
 have back: ∀b id,wkG hs (yq st'.os) g b= .obj id->g b= .obj id:=by
  intro b id d;unfold wkG at d;split at d
  ·cases d
  ·split at d<;>cases d
  ·split at d
   ·cases d;assumption
   ·cases d
  ·exact d
 refine⟨wkG hs (yq st'.os) g,⟨⟨λb d=> ?_,B.dom.2.ghost λb n h=>by unfold wkG;rw[h]⟩,B.defers,B.size,λk v s' q=> ?_,λid o C hn=> ?_,λb b' id d af=> ?_,λb id d=> ?_,?_⟩,?_,?_,λb id d=> ?_,qe8,λb id q d=>by unfold wkG;rw[d];simp[q]⟩
 ·unfold wkG;rw[B.dom.1 b d]
 ·obtain⟨s,l,z,I⟩:=qxi h.fr k v s' q;obtain⟨O,Z⟩:=B.slots k v s l;exact⟨λA=>jq (q53 h.nd (λp hp=>jBa _ (I p hp)) h.live (O A) (z A)),Z⟩
 ·cases o with
  |none=>exact(hn rfl).elim
  |row cs'=>
   obtain⟨cs,l,z,I⟩:=qnb h.os id cs' C;obtain⟨k1,k2⟩:=xfp z;rcases B.objs id (.row cs) l (by simp)with⟨b,d,c,e,O,Z,Y⟩|⟨A,M⟩;case inr=>
    have ad:cs= []:=by simpa using A
    subst ad;have:cs'= []:=jAy (by simpa using k1);subst this;exact .inr ⟨rfl,λb d=>M b (back b id d)⟩
   refine .inl ⟨b,by unfold wkG;rw[d];simp[yq,C],c,e,O,by omega,λi s' hi=> ?_⟩;obtain⟨s,p1,p2,p3⟩:=k2 i s' hi;obtain⟨v,v1,v2,v3⟩:=Y i s p1;exact⟨v,v1,v2,q53 h.nd (λp hp=>jBc _ (I p (p3 p hp))) h.live (jq v3) p2⟩
  |map es c=>
   have l:=q54 h.os id es c C;rcases B.objs id _ l (by simp)with⟨b,d,J⟩|⟨A,_⟩
   ·exact .inl ⟨b,by unfold wkG;rw[d];simp[yq,C],MapIs.mono J qe8 rfl⟩
   ·cases A
  |iter m' since seen last=>
   obtain⟨m,l,z,I⟩:=qxj h.os id m' since seen last C;rcases B.objs id _ l (by simp)with⟨b,d,J⟩|⟨A,_⟩
   ·refine .inl ⟨b,by unfold wkG;rw[d];simp[yq,C],IterIs.mono (R:=λv=>RC g w st.live v m) (R':=λv=>RC (wkG hs (yq st'.os) g) w st'.live v m') J rfl (λo A=> ?_)⟩;exact q53 h.nd (λp hp=>by rw[I]at hp;cases hp) h.live (jq A) z
   ·cases A
 ·exact B.inj b b' id (back b id d) (back b' id af)
 ·unfold wkG at d;split at d
  ·cases d
  ·split at d<;>cases d
  ·rename_i id' E;split at d
   ·rename_i q;cases d;unfold yq at q;split at q
    ·cases q
    ·rename_i o M ac;exact⟨o,ac,λh=>by subst h;exact M rfl⟩
    ·cases q
   ·cases d
  ·rename_i r hn1 hn0 ab;exact(ab id d).elim
 ·refine⟨λt U=>h.wf t ?_,λk s q t U=>h.wf t ?_,λid o C s aa t U=>h.wf t ?_⟩
  ·simp only[jAs];exact .inl (.inl U)
  ·simp only[jAs];exact .inl (.inr (qnc q t U))
  ·simp only[jAs];exact .inr (qgi C s aa t U)
 ·refine⟨F.os,F.tape,F.output,F.size,λb d E=> ?_,λb n d E=> ?_,λb n t d E=> ?_,λb id d E=> ?_⟩
  ·obtain⟨l,z⟩:=F.out b d E;exact⟨l,by unfold wkG;rw[z]⟩
  ·obtain⟨l,z⟩:=F.rowN b n d E;exact⟨l,by unfold wkG;rw[z]⟩
  ·obtain⟨n',o',l,z,I⟩:=F.rowS b n t d E;obtain⟨n'',o'',O,Z,Y⟩:=qe8 (hs:=hs) (keep:=yq st'.os) (w:=w) b n' o' l;exact⟨n'',o'',O,by omega,λi u hi hu=>Y i u (by omega) (I i u hi hu)⟩
  ·obtain⟨X,ae⟩:=F.obj b id d E;obtain⟨o,C,hn⟩:=B.ids b id X;have q:yq st.os id=true:=by
    unfold yq;rw[C];cases o with
    |none=>exact(hn rfl).elim
    | _=>rfl
   unfold wkG;rw[X];simp[h.base id (h0 b id E) q,ae]
 ·intro b d;unfold wkG;rw[d]
 ·unfold wkG;rw[d];simp only;split
  ·exact .inl rfl
  ·exact .inr rfl
theorem Weak.sr {k0:Nat} (h:Weak k0 st st') (hr:SR N T g w st a) (hG:G g0 w0 g w) (h0: ∀b id,g0 b= .obj id->id<k0):
  ∃g',SR N (below st'.nt) g' w st' a∧G g0 w0 g' w∧ ∀b,g b= .out->g' b= .out:=by
 obtain⟨g',h1,h2,h3,_⟩:=h.srD hr hG h0;exact⟨g',h1,h2,h3⟩
end
inductive Pos where
 |fr (k:Nat)
 |cell (id i:Nat)
def St.slotAt (st:St):Pos->ASlot
 | .fr k=>match st.fr.get k with|some (true,s)=>s| _=> .bad
 | .cell id i=>(ql st.os id).getD i .bad
def St.setPos (st:St) (s:ASlot):Pos->St
 | .fr k=>{st with fr:=(k,true,s)::st.fr}
 | .cell id i=>{st with os:=st.os.set id (.row ((ql st.os id).set i s))}
def At (g:Ghost) (w:World) (a:Act):Pos->Value->Prop
 | .fr k,v=>v=a.tmps.getD k undef
 | .cell id i,v=> ∃(b:Nat) (c:Array Value) (e:TypeId),g b= .obj id∧w.heap[b]? =some (.cells c e (0,0))∧c[i]? =some v∧v.oneCell'=true
def ASlot.okS (keep:Nat->Bool):ASlot->Bool
 | .d x=>x.okW keep
 | .own _ _ rows=>D.okWR keep rows
 | .uni _ _ rows=>D.okWR keep rows
 | .full _ rows=>D.okWR keep rows
 | .rd cs=>D.okWL keep cs
 | .tup l=>l.all λs=>match s with| .d x=>x.okW keep| .own _ _ rows=>D.okWR keep rows| .uni _ _ rows=>D.okWR keep rows| .full _ rows=>D.okWR keep rows| .rd cs=>D.okWL keep cs| _=>true
 | .bad=>true
def ASlot.only (keep:Nat->Bool) (s:ASlot):ASlot:=if s.okS keep then s else .bad
def Fr.mapS (f:ASlot->ASlot):Fr->Fr
 | []=> []
 |(k,v,s)::l=>(k,v,f s)::Fr.mapS f l
def AObj.mapS (f:ASlot->ASlot):AObj->AObj
 | .none=> .none
 | .row cs=> .row (cs.map f)
 | .map es c=> .map es c
 | .iter m a b c=> .iter (f m) a b c
def neId (id:Nat) (i:Nat):Bool:= !(i==id)
def D.frz (id es:Nat) (rows:List (List D)):D->D
 | .ref i off e n=>if i=id∧off=0∧e=es∧n=rows.length then .sl es rows else .ref i off e n
 |d=>d
def ASlot.frz (id es:Nat) (rows:List (List D)):ASlot->ASlot
 | .d (.agg cs)=> .d (.agg (cs.map (D.frz id es rows)))
 | .d x=> .d (x.frz id es rows)
 |s=>s
def St.u2o (st:St) (p:Pos) (t es:Nat) (rows:List (List D)):St:=
 let e:=st.setPos (.d (.ref st.os.length 0 es rows.length)) p
 {e with os:=e.os++ [.row (rows.flatten.map .d)],live:=st.live.filter λu=> !(u==t)}
def St.o2u (st:St) (p:Pos) (id es:Nat) (rows:List (List D)):St:=
 ({fr:=Fr.mapS (ASlot.only (neId id)) st.fr,os:=(st.os.map (AObj.mapS (ASlot.only (neId id)))).set id .none,live:=st.live++ [16*st.nt],nt:=st.nt+1}:St).setPos (.uni (16*st.nt) es rows) p
def St.frz (st:St) (id es:Nat) (rows:List (List D)):St:=
 {fr:=Fr.mapS (λs=>(s.frz id es rows).only (neId id)) st.fr,os:=(st.os.map (AObj.mapS λs=>(s.frz id es rows).only (neId id))).set id .none,live:=st.live,nt:=st.nt}
def St.u2own (st:St) (p:Pos) (t es:Nat) (rows:List (List D)):St:=
 let s1:=st.setPos (.own (16*st.nt) es rows) p
 {s1 with live:=(st.live.filter λu=> !(u==t))++ [16*st.nt],nt:=st.nt+1}
def Pos.notIn (id:Nat):Pos->Prop
 | .fr _=>True
 | .cell i _=>i≠id
def xbz (κ:List Nat) (d:List AObj):List Nat->List AObj->Prop
 | [],[]=>True
 |id::ι,o::os=>d[id]? =some (o.ren κ)∧xbz κ d ι os
 | _,_=>False
def xl2 (k0 n:Nat) (ι:List Nat):Bool:=(List.range n).all ι.contains&&ι.all (λi=>Nat.blt i n)&&((List.range n).all λi=> !Nat.blt i k0||ι.getD i n==i)
def St.renN (st:St) (ι:List Nat) (d:List AObj):St:={st with fr:=Fr.mapS (ASlot.ren ι) st.fr,os:=d}
inductive Turn (k0:Nat):St->St->Prop
 |refl (st:St):Turn k0 st st
 |weak {st st1 st2:St} (h:Weak k0 st st1) (r:Turn k0 st1 st2):Turn k0 st st2
 |u2o {st st2:St} (p:Pos) (t es:Nat) (rows:List (List D)) (hp:st.slotAt p= .uni t es rows) (ht:t∈st.live) (r:Turn k0 (st.u2o p t es rows) st2):Turn k0 st st2
 |o2u {st st2:St} (p:Pos) (id es:Nat) (rows:List (List D)) (hp:st.slotAt p= .d (.ref id 0 es rows.length)) (hrow:qg4 st.os id=true) (hc:ql st.os id=rows.flatten.map .d) (hes: ∀r∈rows,r.length=es)
   (hcl: ∀d∈rows.flatten,d.isCell=true) (hok:D.okWR (neId id) rows=true) (hk:k0<=id) (hn:p.notIn id) (r:Turn k0 (st.o2u p id es rows) st2):Turn k0 st st2
 |frz {st st2:St} (id es:Nat) (rows:List (List D)) (hc:(ql st.os id).map ASlot.cellD=rows.flatten) (hcc:(ql st.os id).all ASlot.isCellD=true) (hes: ∀r∈rows,r.length=es)
   (hok:D.okWR (neId id) rows=true) (hk:k0<=id) (r:Turn k0 (st.frz id es rows) st2):Turn k0 st st2
 |u2own {st st2:St} (p:Pos) (t es:Nat) (rows:List (List D)) (hp:st.slotAt p= .uni t es rows) (ht:t∈st.live) (r:Turn k0 (st.u2own p t es rows) st2):Turn k0 st st2
 |ren {st st2:St} (ι:List Nat) (os':List AObj) (hn:ι.Nodup) (hl:ι≠ []) (hp:xl2 k0 os'.length ι=true) (ho:xbz ι os' ι st.os) (r:Turn k0 (st.renN ι os') st2):Turn k0 st st2
section
variable {N:Nat} {T T':Nat→Prop} {g g0 g':Ghost} {w w0:World} {st st':St} {a:Act} {k0:Nat}
theorem ql3 (f:ASlot->ASlot) (k:Nat): ∀fr:Fr,(Fr.mapS f fr).get k=(fr.get k).map λx=>(x.1,f x.2)
 | []=>rfl
 |(j,v,s)::l=>by
  simp only[Fr.mapS,Fr.get];split
  ·rfl
  ·exact ql3 f k l
def xwf (st:St):Pos->Prop
 | .fr _=>True
 | .cell id i=>i<(ql st.os id).length
theorem qij (hs:SR N T g w st a) {p:Pos} {s:ASlot} (h:st.slotAt p=s) (q:s≠ .bad) (d: ∀l,s≠ .tup l):
  ∃v,At g w a p v∧RC g w st.live v s∧xwf st p:=by
 subst h;cases p with
 |fr k=>
  simp only[St.slotAt]at q d⊢;cases hk:st.fr.get k with
  |none=>grind
  |some x=>
   obtain⟨v,s⟩:=x;cases v with
   |false=>grind
   |true=>
    rw[hk]at d;exact⟨_,rfl,qax ((hs.slots k true s hk).1 rfl) d,trivial⟩
 |cell id i=>
  simp only[St.slotAt]at q d⊢;by_cases hi:i<(ql st.os id).length
  ·have hg:(ql st.os id).getD i .bad=(ql st.os id)[i]:=by grind
   unfold ql at hi;cases ho:st.os[id]?with
   |none=>grind
   |some o=>
    rw[ho]at hi;simp only at hi;obtain⟨b,hb,t⟩:=(hs.objs id o ho (by rintro rfl;grind[AObj.cells])).block (λh=>by grind);have m:ql st.os id=o.cells:=by simp[ql,ho]
    cases o with
    |none=>exact t.elim
    |row cs=>
     obtain⟨c,e,q1,q2,q3⟩:=t;have hcells':ql st.os id=cs:=m;obtain⟨v,v1,v2,v3⟩:=q3 i cs[i] (List.getElem?_eq_getElem hi);refine⟨v,⟨b,c,e,hb,q1,v1,v2⟩,?_,by show i<(ql st.os id).length;grind⟩;grind
    |map _ _=>grind[AObj.cells]
    |iter _ _ _ _=>grind[AObj.cells]
  grind
theorem qik (hs:SR N T g w st a) {p:Pos} {v:Value} {s':ASlot} (E:At g w a p v) (hp:xwf st p)
  (u:RC g w st.live v s') (ht: ∀t∈s'.toks,T t):SR N T g w (st.setPos s' p) a:=by
 cases p with
 |fr k=>
  refine⟨hs.dom,hs.defers,hs.size,λk' v' s l=> ?_,hs.objs,hs.inj,hs.ids,⟨hs.wf.live,λk' s l=> ?_,hs.wf.os⟩⟩
  ·simp only[St.setPos,Fr.get]at l;split at l
   ·rename_i he;subst he;cases l;have C:v=a.tmps.getD k undef:=E;exact⟨λ_=>by rw[<- C];exact jq u,by simp⟩
   ·exact hs.slots k' v' s l
  ·simp only[St.setPos,Fr.get]at l;split at l
   ·grind
   ·exact hs.wf.fr k' s l
 |cell id i=>
  obtain⟨b,c,e,G,O,I,z⟩:=E;have hp:i<(ql st.os id).length:=hp;obtain⟨c',e',M,r2,r3⟩:=qpu hs G (q82 (by omega));rw[O]at M;cases M;have A:id<st.os.length:=by
   obtain⟨o,d,_⟩:=hs.ids b id G;grind
  refine⟨hs.dom,hs.defers,hs.size,hs.slots,λi' o d hn=> ?_,hs.inj,λb' i' J=> ?_,⟨hs.wf.live,hs.wf.fr,λi' o d s m t q=> ?_⟩⟩
  ·simp only[St.setPos]at d;by_cases hi:id=i'
   ·subst hi;rw[jBv A]at d;cases d;refine .inl ⟨b,G,c,e,O,by grind,λj s F=> ?_⟩;by_cases B:i=j
    ·subst B;rw[jBv hp]at F;cases F;exact⟨v,I,z,u⟩
    ·rw[jBj B]at F;exact r3 j s F
   ·rw[jBj hi]at d;exact hs.objs i' o d hn
  ·simp only[St.setPos];obtain⟨o,d,hne⟩:=hs.ids b' i' J;grind
  ·simp only[St.setPos]at d;by_cases hi:id=i'
   ·subst hi;rw[jBv A]at d;cases d;simp only[AObj.cells]at m;rcases jD6 m with h|h
    ·obtain⟨o,d,_⟩:=hs.ids b id G;have hcells:ql st.os id=o.cells:=by simp[ql,d]
     exact hs.wf.os id o d s (by grind) t q
    grind
   ·rw[jBj hi]at d;exact hs.wf.os i' o d s m t q
theorem ql4 {b:Nat} {r:Role} (hb:(∃t,g b= .uni t)∨ ∃id,g b= .obj id∧k0<=id): ∀k,g k= .out->g.at b r k= .out:=λk hk=>by
 rw[Ghost.at_ne g _ (by grind)];exact hk
theorem G.role (e:G g0 w0 g w) (h0: ∀b id,g0 b= .obj id->id<k0) {b:Nat} {r:Role} (hb:(∃t,g b= .uni t)∨ ∃id,g b= .obj id∧k0<=id):G g0 w0 (g.at b r) w:=by
 have key: ∀k,k≠b->g.at b r k=g k:=λk d=>Ghost.at_ne g _ d;refine⟨e.os,e.tape,e.output,e.size,λk d h=> ?_,λk n d h=> ?_,λk n t d h=> ?_,λk id d h=> ?_⟩
 ·obtain⟨l,i⟩:=e.out k d h;grind
 ·obtain⟨l,i⟩:=e.rowN k n d h;grind
 ·obtain⟨n',o',l,i⟩:=e.rowS k n t d h;grind
 ·obtain⟨l,i⟩:=e.obj k id d h;grind
theorem qop {t b:Nat} {r:Role} (hb:g b= .uni t):RowsKept g w (g.at b r) w:=λk n o hg=>⟨n,o,by rw[Ghost.at_ne g _ (by grind)];exact hg,jAi _,λ_ _ _ h=>h⟩
theorem qbk {t:Nat} {b:Nat} {r:Role} {live:List Nat} (hb:g b= .uni t) {v:Value} {s:ASlot} (h:RC g w live v s):RC (g.at b r) w (live.filter λu=> !(u==t)) v s:=by
 have key: ∀k,k≠b->g.at b r k=g k:=λk z=>Ghost.at_ne g _ z;have m:RowsKept g w (g.at b r) w:=by
  intro k n o z;grind
 have p: ∀k id,g k= .obj id->g.at b r k= .obj id∧qdm w k<=qdm w k:=by
  grind
 have i: ∀{v:Value} {d:D},RV g w v d->RV (g.at b r) w v d:=λh=>h.mono m p;cases s with
 |d x=>exact i h
 |own t' es rows=>
  refine⟨i h.1,λq=> ?_⟩;rcases h.2 (jBs.1 q).1 with hf|⟨c,cap,B,e,h1,h2,h3⟩
  ·exact .inl hf
  ·refine .inr ⟨c,cap,B,e,h1,?_,h3⟩;grind
 |uni t' es rows=>
  refine⟨h.1,λq=>(h.2 (jBs.1 q).1).mono (λk z=>⟨?_,rfl⟩) (λ_ _=>i)⟩;grind
 |full es rows=>exact⟨i h.1,h.2⟩
 |rd cells=>
  obtain⟨c,off,n,o,f,rfl,hg,hn,hc⟩:=h;obtain⟨n',o',A,hnn,hcell⟩:=m c n o hg;refine⟨c,off,n',o',f,rfl,A,by omega,λj d hj=> ?_⟩;grind
 |tup l=>exact h.elim
 |bad=>trivial
theorem q9c {live live':List Nat} {f:ASlot->ASlot} (hf: ∀{v:Value} {s:ASlot},RC g w live v s->RC g' w live' v (f s)) (d: ∀l,f (.tup l)= .tup l∨f (.tup l)= .bad) (m: ∀l,f (.tup l)= .tup l-> ∀s∈l,∀v,RC g w live v s->RC g' w live' v s)
  {v:Value} {s:ASlot} (h:RS g w live v s):RS g' w live' v (f s):=by
 by_cases ht: ∃l,s= .tup l
 ·obtain⟨l,rfl⟩:=ht;rcases d l with e|e
  ·rw[e];obtain⟨vs,q1,q2,q3⟩:=h;exact⟨vs,q1,q2,λi u s hu hs=>m l e s (List.mem_of_getElem? hs) u (q3 i u s hu hs)⟩
  ·rw[e];trivial
 grind[jq,qax]
theorem SR.uniRole (hs:SR N T g w st a) {t b:Nat} {r:Role} (q:g b= .uni t) (hr: ∀id,r≠ .obj id):SR N T (g.at b r) w {st with live:=st.live.filter λu=> !(u==t)} a:=by
 have key: ∀k,k≠b->g.at b r k=g k:=λk d=>Ghost.at_ne g _ d;have back: ∀k id,g.at b r k= .obj id->g k= .obj id:=by
  grind[id,Ghost.at_same]
 refine⟨⟨λk d=> ?_,hs.dom.2.ghost λk n d=>by rw[key k (by rintro rfl;rw[q]at d;cases d)];exact d⟩,hs.defers,hs.size,λk v s d=> ?_,λi o ho hn=> ?_,λk k' i d C=>hs.inj k k' i (back k i d) (back k' i C),λk i d=>hs.ids k i (back k i d),⟨λu hu=>hs.wf.live u (List.mem_filter.1 hu).1,hs.wf.fr,hs.wf.os⟩⟩
 ·have B:k≠b:=by rintro rfl;rw[hs.dom.1 k d]at q;cases q
  rw[key k B];exact hs.dom.1 k d
 ·obtain⟨h1,h2⟩:=hs.slots k v s d;exact⟨λz=>q9c (f:=id) (qbk q) (λl=> .inl rfl) (λl _ s _ v h=>qbk q h) (h1 z),h2⟩
 ·rcases hs.objs i o ho hn with⟨c,hc,p⟩|⟨z,A⟩;case inr=>exact .inr ⟨z,λk d=>A k (back k i d)⟩
  refine .inl ⟨c,by grind,?_⟩;cases o with
  |none=>grind
  |row cs=>
   obtain⟨cc,e,q1,q2,q3⟩:=p;exact⟨cc,e,q1,q2,λj s hj=>by grind[qbk]⟩
  |map es clock=>exact MapIs.mono p (qop q) rfl
  |iter m since seen last=>exact IterIs.mono (R:=λv=>RC g w st.live v m) (R':=λv=>RC _ w (st.live.filter λu=> !(u==t)) v m) p rfl (λo z=>qbk q z)
theorem qxk {live:List Nat} {t:Nat} {v:Value} {s:ASlot} (h:RC g w live v s):RC g w (live.filter λu=> !(u==t)) v s:=by
 cases s with
 |own t' es rows=>exact⟨h.1,λd=>h.2 (jBs.1 d).1⟩
 |uni t' es rows=>exact⟨h.1,λd=>h.2 (jBs.1 d).1⟩
 | _=>exact h
theorem SR.less (hs:SR N T g w st a) (t:Nat):SR N T g w {st with live:=st.live.filter λu=> !(u==t)} a:=by
 refine⟨hs.dom,hs.defers,hs.size,λk v s hk=> ?_,λi o ho hn=> ?_,hs.inj,hs.ids,⟨λu hu=>hs.wf.live u (jBs.1 hu).1,hs.wf.fr,hs.wf.os⟩⟩
 ·obtain⟨h1,h2⟩:=hs.slots k v s hk;exact⟨λp=>q9c (f:=id) qxk (λl=> .inl rfl) (λl _ s _ v h=>qxk h) (h1 p),h2⟩
 ·rcases hs.objs i o ho hn with⟨c,hc,d⟩|p;case inr=>exact .inr p
  refine .inl ⟨c,hc,?_⟩;cases o with
  |none=>grind
  |row cs=>
   obtain⟨cc,e,q1,q2,q3⟩:=d;exact⟨cc,e,q1,q2,λj s hj=>by obtain⟨v,v1,v2,v3⟩:=q3 j s hj;simp_all[qxk]⟩
  |map es clock=>exact d
  |iter m since seen last=>exact IterIs.mono (R:=λv=>RC g w st.live v m) (R':=λv=>RC g w (st.live.filter λu=> !(u==t)) v m) d rfl (λo p=>qxk p)
theorem SR.addObj (hs:SR N T g w st a) {t b:Nat} {cs:List ASlot} {p:Array Value} {e:TypeId} (I:g b= .uni t) (hh:w.heap[b]? =some (.cells p e (0,0))) (hl:cs.length<=p.size)
  (hc: ∀(i:Nat) (s:ASlot),cs[i]? =some s-> ∃u,p[i]? =some u∧u.oneCell'=true∧RC g w st.live u s) (ht: ∀s∈cs,s.toks= []):
  SR N T (g.at b (.obj st.os.length)) w {st with os:=st.os++ [.row cs],live:=st.live.filter λu=> !(u==t)} a:=by
 have key: ∀k,k≠b->g.at b (.obj st.os.length) k=g k:=λk d=>Ghost.at_ne g _ d;have hno: ∀k,g k≠ .obj st.os.length:=by
  intro k d;obtain⟨o,E,_⟩:=hs.ids k _ d;grind
 have A: ∀(i:Nat) (o:AObj),(st.os++ [AObj.row cs])[i]? =some o->st.os[i]? =some o∨(i=st.os.length∧o= .row cs):=by
  grind
 refine⟨⟨λk d=> ?_,hs.dom.2.ghost λk n d=>by rw[key k (by rintro rfl;rw[I]at d;cases d)];exact d⟩,hs.defers,hs.size,λk v s d=> ?_,λi o E hn=> ?_,λk k' i d G=> ?_,λk i d=> ?_,⟨λu hu=>hs.wf.live u (List.mem_filter.1 hu).1,hs.wf.fr,λi o E s C t q=> ?_⟩⟩
 ·have F:k≠b:=by grind
  rw[key k F];exact hs.dom.1 k d
 ·obtain⟨J,M⟩:=hs.slots k v s d;exact⟨λB=>q9c (f:=id) (qbk I) (λl=> .inl rfl) (λl _ s _ v h=>qbk I h) (J B),M⟩
 ·rcases A i o E with h|⟨rfl,rfl⟩
  ·rcases hs.objs i o h hn with⟨c,hc',z⟩|⟨B,hno'⟩;case inr=>
    refine .inr ⟨B,λk d=> ?_⟩;grind[Ghost.at_same,List.getElem?_eq_some_iff]
   refine .inl ⟨c,by grind,?_⟩;cases o with
   |none=>grind
   |row cs'=>
    obtain⟨cc,e',q1,q2,q3⟩:=z;exact⟨cc,e',q1,q2,λj s hj=>by grind[qbk]⟩
   |map es clock=>exact MapIs.mono z (qop I) rfl
   |iter m since seen last=>exact IterIs.mono (R:=λv=>RC g w st.live v m) (R':=λv=>RC _ w (st.live.filter λu=> !(u==t)) v m) z rfl (λo B=>qbk I B)
  ·refine .inl ⟨b,Ghost.at_same _ _ _,p,e,hh,hl,λj s hj=> ?_⟩;grind[qbk]
 ·by_cases J:k=b<;>by_cases M:k'=b
  ·omega
  ·grind[Ghost.at_same]
  ·grind[Ghost.at_same]
  ·rw[key k J]at d;rw[key k' M]at G;exact hs.inj k k' i d G
 ·by_cases J:k=b
  ·simp_all[Ghost.at_same]
  ·rw[key k J]at d;obtain⟨o,E,F⟩:=hs.ids k i d;grind
 ·rcases A i o E with h|⟨rfl,rfl⟩
  ·exact hs.wf.os i o h s C t q
  ·rw[ht s C]at q;cases q
theorem SR.addVoid (hs:SR N T g w st a):SR N T g w {st with os:=st.os++ [.row []]} a:=by
 have d: ∀(i:Nat) (o:AObj),(st.os++ [AObj.row []])[i]? =some o->st.os[i]? =some o∨(i=st.os.length∧o= .row []):=by
  grind
 refine⟨hs.dom,hs.defers,hs.size,hs.slots,λi o l hn=> ?_,hs.inj,λk i hk=> ?_,⟨hs.wf.live,hs.wf.fr,λi o l s e t m=> ?_⟩⟩
 ·rcases d i o l with h|⟨rfl,rfl⟩
  ·exact hs.objs i o h hn
  ·refine .inr ⟨rfl,λb hb=> ?_⟩;obtain⟨o,l,_⟩:=hs.ids b _ hb;grind
 ·obtain⟨o,l,hne⟩:=hs.ids k i hk;grind
 ·rcases d i o l with h|⟨rfl,rfl⟩
  ·exact hs.wf.os i o h s e t m
  ·cases e
structure DropG (g:Ghost) (w:World) (id:Nat) (g':Ghost):Prop where
 dom:Dom g' w
 row: ∀k n o,g k= .row n o->g' k= .row n o
 uni: ∀k t,g k= .uni t->g' k= .uni t
 obj: ∀k i,i≠id->g k= .obj i->g' k= .obj i
 back: ∀k i,g' k= .obj i->g k= .obj i∧i≠id
theorem DropG.kept {id:Nat} (hD:DropG g w id g'):RowsKept g w g' w:=λ_ n o hg=>⟨n,o,hD.row _ n o hg,jAi _,λ_ _ _ h=>h⟩
theorem qkq (hs:SR N T g w st a) {id b:Nat} {r:Role} (e:g b= .obj id) (hr: ∀i,r≠ .obj i):DropG g w id (g.at b r):=by
 have key: ∀k,k≠b->g.at b r k=g k:=λk d=>Ghost.at_ne g _ d;refine⟨⟨λk d=> ?_,hs.dom.2.ghost λk n d=>by rw[key k (by rintro rfl;rw[e]at d;cases d)];exact d⟩,λk n o d=> ?_,λk t d=> ?_,λk i hi d=> ?_,λk i d=> ?_⟩
 ·have h:k≠b:=by rintro rfl;rw[hs.dom.1 k d]at e;cases e
  rw[key k h];exact hs.dom.1 k d
 ·grind
 ·grind
 ·grind
 ·by_cases l:k=b
  ·grind[Ghost.at_same]
  ·rw[key k l]at d;exact⟨d,by rintro rfl;exact l (hs.inj k b i d e)⟩
theorem qu0 (hs:SR N T g w st a) {id:Nat} (hb: ∀b,g b≠ .obj id):DropG g w id g:=
 ⟨hs.dom,λ_ _ _ h=>h,λ_ _ h=>h,λ_ _ _ h=>h,λk i hk=>⟨hk,by grind⟩⟩
theorem DropG.rowsKept {id:Nat} (hD:DropG g w id g'):RowsKept g w g' w:=λb n o h=>⟨n,o,hD.row b n o h,jAi _,λ_ _ _ h=>h⟩
theorem DropG.rv {id:Nat} (e:DropG g w id g') {v:Value} {d:D} (h:RV g w v d) (hk:d.okW (neId id)=true):RV g' w v d:=
 h.okW e.rowsKept (λb i hi hb=>⟨e.obj b i (by rintro rfl;grind[neId]) hb,Nat.le_refl _⟩) hk
theorem DropG.rc {id:Nat} (m:DropG g w id g') {live:List Nat} {v:Value} {s:ASlot} (h:RC g w live v s) (q:s.okS (neId id)=true):RC g' w live v s:=by
 have i: ∀{es:Nat} {rows:List (List D)},D.okWR (neId id) rows=true->(D.sl es rows).okW (neId id)=true:=λh=>by grind[D.okW]
 cases s with
 |d x=>exact m.rv h q
 |own t es rows=>
  refine⟨m.rv h.1 (i q),λA=> ?_⟩;rcases h.2 A with B|⟨c,cap,p,e,F,E,C⟩
  ·exact .inl B
  ·exact .inr ⟨c,cap,p,e,F,m.row _ _ _ E,C⟩
 |uni t es rows=>
  refine⟨h.1,λA=> ?_⟩;rcases h.2 A with B|⟨c,cap,p,e,F,E,C,h4,h5,h6,h7,h8⟩
  ·exact .inl B
  ·refine .inr ⟨c,cap,p,e,F,m.uni _ _ E,C,h4,h5,h6,h7,λj d z=> ?_⟩;obtain⟨c1,u,c2,c3⟩:=h8 j d z;exact⟨c1,u,c2,m.rv c3 ((D.okWR_iff _ rows).1 q d (List.mem_of_getElem? z))⟩
 |full es rows=>exact⟨m.rv h.1 (i q),h.2⟩
 |rd cells=>
  obtain⟨c,off,n,o,f,rfl,hg,hn,hc⟩:=h;refine⟨c,off,n,o,f,rfl,m.row _ _ _ hg,hn,λj d z=> ?_⟩;obtain⟨c1,c2,c3⟩:=hc j d z;exact⟨c1,c2,m.rv c3 ((D.okWL_iff _ cells).1 q d (List.mem_of_getElem? z))⟩
 |tup l=>exact h.elim
 |bad=>trivial
structure MapOk (g:Ghost) (w:World) (live:List Nat) (g':Ghost) (f:ASlot->ASlot):Prop where
 rc: ∀{v:Value} {s:ASlot},RC g w live v s->RC g' w live v (f s)
 tup: ∀l,f (.tup l)= .tup l∨f (.tup l)= .bad
 id: ∀l,f (.tup l)= .tup l-> ∀s∈l,∀v,RC g w live v s->RC g' w live v s
 toks: ∀s,∀t∈(f s).toks,t∈s.toks
theorem qrj {f:AObj->AObj} {os:List AObj} {id i:Nat} {o:AObj} (h:((os.map f).set id .none)[i]? =some o):(i=id∧o= .none)∨(i≠id∧ ∃o',os[i]? =some o'∧o=f o'):=by
 grind
theorem SR.dropMap (hs:SR N T g w st a) {id:Nat} (p:DropG g w id g') {f:ASlot->ASlot} (u:MapOk g w st.live g' f):
  SR N T g' w {fr:=Fr.mapS f st.fr,os:=(st.os.map (AObj.mapS f)).set id .none,live:=st.live,nt:=st.nt} a:=by
 refine⟨p.dom,hs.defers,hs.size,λk v s h=> ?_,λi o C hn=> ?_,λk k' i h I=>hs.inj k k' i (p.back k i h).1 (p.back k' i I).1,λk i h=> ?_,⟨hs.wf.live,λk s h t F=> ?_,λi o C s d t F=> ?_⟩⟩
 ·simp only[ql3,jAb]at h;obtain⟨⟨v',s'⟩,l,A⟩:=h;simp only[jCw]at A;obtain⟨rfl,rfl⟩:=A;obtain⟨E,O⟩:=hs.slots k v' s' l;exact⟨λz=>q9c u.rc u.tup u.id (E z),O⟩
 ·rcases qrj C with⟨rfl,rfl⟩|⟨hi,o',l,rfl⟩
  ·grind
  ·cases o' with
   |none=>exact(hn rfl).elim
   |row cs=>
    rcases hs.objs i _ l (by simp)with⟨c,hc,cc,e,E,O,q3⟩|⟨z,G⟩;case inr=>
     have:cs= []:=by grind
     subst this;exact .inr ⟨rfl,λk h=>G k (p.back k i h).1⟩
    refine .inl ⟨c,p.obj c i hi hc,cc,e,E,by grind,λj s U=> ?_⟩;rw[jAn,jAb]at U;obtain⟨B,M,rfl⟩:=U;obtain⟨v,v1,v2,v3⟩:=q3 j B M;exact⟨v,v1,v2,u.rc v3⟩
   |map es c=>
    rcases hs.objs i _ l (by simp)with⟨b,J,q⟩|⟨z,_⟩
    ·exact .inl ⟨b,p.obj b i hi J,MapIs.mono q p.kept rfl⟩
    grind
   |iter m since seen last=>
    rcases hs.objs i _ l (by simp)with⟨b,J,q⟩|⟨z,_⟩
    ·exact .inl ⟨b,p.obj b i hi J,IterIs.mono (R:=λv=>RC g w st.live v m) (R':=λv=>RC g' w st.live v (f m)) q rfl (λo z=>u.rc z)⟩
    grind
 ·obtain⟨l,A⟩:=p.back k i h;obtain⟨o,C,hne⟩:=hs.ids k i l;refine⟨AObj.mapS f o,?_,?_⟩
  ·grind
  ·cases o with
   |none=>grind
   | _=>simp[AObj.mapS]
 ·simp only[ql3,jAb]at h;obtain⟨⟨v',s'⟩,l,A⟩:=h;simp only[jCw]at A;obtain⟨rfl,rfl⟩:=A;exact hs.wf.fr k s' l t (u.toks s' t F)
 ·rcases qrj C with⟨rfl,rfl⟩|⟨hi,o',l,rfl⟩
  ·cases d
  ·cases o' with
   |none=>cases d
   |row cs=>
    simp only[AObj.mapS,AObj.cells,jAo]at d;obtain⟨B,M,rfl⟩:=d;exact hs.wf.os i _ l B M t (u.toks B t F)
   | _=>cases d
theorem q1k (keep:Nat->Bool) (s:ASlot): ∀t∈(s.only keep).toks,t∈s.toks:=by
 intro t d;unfold ASlot.only at d;split at d
 ·exact d
 ·cases d
theorem q9d {id:Nat} (i:DropG g w id g') (live:List Nat):MapOk g w live g' (ASlot.only (neId id)):=by
 refine⟨λ{v s} h=> ?_,λl=> ?_,λl e s hs v h=> ?_,q1k _⟩
 ·unfold ASlot.only;split
  ·rename_i d;exact i.rc h d
  ·trivial
 ·unfold ASlot.only;simp
 ·unfold ASlot.only at e;split at e
  ·rename_i d;simp only[ASlot.okS,jAx]at d;have:=d s hs;refine i.rc h ?_;cases s with
   |tup l'=>exact h.elim
   |bad=>rfl
   | _=>exact this
  grind
theorem xrr {id es:Nat} {rows:List (List D)} (m:DropG g w id g') (hsl: ∀v,RV g w v (.ref id 0 es rows.length) ->RV g' w v (.sl es rows)) {v:Value} {d:D} (h:RV g w v d) (l:(d.frz id es rows).okW (neId id)=true):
  RV g' w v (d.frz id es rows):=by
 cases d with
 |ref i off e n=>
  simp only[D.frz]at l⊢;split
  ·grind
  ·rename_i hc;rw[if_neg hc]at l;exact m.rv h l
 | _=>exact m.rv h l
theorem xb0 {id es:Nat} {rows:List (List D)} (d:D):(d.frz id es rows).isCell=d.isCell:=by
 cases d<;>first|rfl|(simp only[D.frz];split<;>rfl)
theorem xfq {id es:Nat} {rows:List (List D)} (o:DropG g w id g') (e: ∀v,RV g w v (.ref id 0 es rows.length) ->RV g' w v (.sl es rows)) (live:List Nat):MapOk g w live g' (λs=>(s.frz id es rows).only (neId id)):=by
 have u:=q9d o live;refine⟨λ{v s} h=> ?_,λl=>u.tup l,λl hl=>u.id l hl,λs t ht=> ?_⟩
 ·unfold ASlot.only;split
  ·rename_i i;cases s with
   |d x=>
    cases x with
    |agg cs=>
     simp only[ASlot.frz,ASlot.okS,D.okW,D.okWL_iff]at i;obtain⟨vs,rfl,h1,h2,h3⟩:=qee (show RV g w v (.agg cs)from h);refine RV.agg vs (cs.map (D.frz id es rows)) (by grind) (λd m=> ?_) (λj v d hv m=> ?_)
     ·obtain⟨q,p,rfl⟩:=List.mem_map.1 m;grind[xb0]
     ·rw[List.getElem?_map,Option.map_eq_some_iff]at m;obtain⟨q,p,rfl⟩:=m;exact xrr o e (h3 j v q hv p) (i _ (List.mem_map.2 ⟨q,List.mem_of_getElem? p,rfl⟩))
    | _=>exact xrr o e h i
   | _=>exact o.rc h i
  ·trivial
 ·have:=q1k _ _ t ht;cases s with
  |d x=>cases x<;>simp[ASlot.frz,ASlot.toks]at this
  | _=>exact this
theorem SR.more (hs:SR N T g w st a) {t:Nat} (hT: ∀u,T u->u≠t) (p: ∀u,T u->T' u) (M:T' t) (n:Nat):SR N T' g w {st with live:=st.live++ [t],nt:=n} a:=by
 have rc: ∀{v:Value} {s:ASlot},RC g w st.live v s->(∀u∈s.toks,T u) ->RC g w (st.live++ [t]) v s:=by
  intro v s h hT';cases s with
  |own t' es rows=>
   refine⟨h.1,λhl=>h.2 ?_⟩;grind[ASlot.toks]
  |uni t' es rows=>
   refine⟨h.1,λhl=>h.2 ?_⟩;grind[ASlot.toks]
  | _=>exact h
 refine⟨hs.dom,hs.defers,hs.size,λk v s E=> ?_,λi o C hn=> ?_,hs.inj,hs.ids,⟨λu d=> ?_,λk s E u d=>p u (hs.wf.fr k s E u d),λi o C s J u d=>p u (hs.wf.os i o C s J u d)⟩⟩
 ·obtain⟨h1,h2⟩:=hs.slots k v s E;refine⟨λq=> ?_,h2⟩;have hw: ∀u∈s.toks,T u:=by subst q;exact hs.wf.fr k s E
  have B:=h1 q;by_cases M: ∃l,s= .tup l
  ·obtain⟨l,rfl⟩:=M;obtain⟨vs,I,G,F⟩:=B;refine⟨vs,I,G,λi u s' d z=> ?_⟩;have A:=F i u s' d z;refine rc A (λx hx=>hw x ?_);simp only[ASlot.toks,List.mem_flatMap];refine⟨s',List.mem_of_getElem? z,?_⟩;cases s' with
   |tup l'=>exact A.elim
   | _=>exact hx
  grind[jq,qax]
 ·rcases hs.objs i o C hn with⟨b,hb,B⟩|q;case inr=>exact .inr q
  refine .inl ⟨b,hb,?_⟩;cases o with
  |none=>grind
  |row cs=>
   obtain⟨c,e,I,G,F⟩:=B;exact⟨c,e,I,G,λj s O=>by
    obtain⟨v,v1,v2,v3⟩:=F j s O;exact⟨v,v1,v2,rc v3 (hs.wf.os i _ C s (List.mem_of_getElem? O))⟩⟩
  |map es clock=>exact B
  |iter m since seen last=>exact IterIs.mono (R:=λv=>RC g w st.live v m) (R':=λv=>RC g w _ v m) B rfl (λo q=>rc q (by grind[qqt]))
 ·rcases List.mem_append.1 d with h|h
  ·exact p u (hs.wf.live u h)
  grind
theorem qkr (st:St) (s:ASlot) (p:Pos):(st.setPos s p).live=st.live∧(st.setPos s p).nt=st.nt:=by cases p<;>exact⟨rfl,rfl⟩
theorem qoq {os:List AObj} {o:AObj} {id:Nat} (h:id<os.length):ql (os++ [o]) id=ql os id:=by
 grind[ql,List.getElem?_append_left]
theorem q55 {os:List AObj} {id i:Nat} (h:i<(ql os id).length):id<os.length:=by
 grind[id,ql,List.getElem?_eq_none]
theorem xl3 (hs:SR N T g w st a) (M:G g0 w0 g w) (h0: ∀b id,g0 b= .obj id->id<k0) {p:Pos} {t es:Nat} {rows:List (List D)} (hp:st.slotAt p= .uni t es rows) (ht:t∈st.live):
  ∃g',SR N T g' w (st.u2o p t es rows) a∧G g0 w0 g' w∧ ∀b,g b= .out->g' b= .out:=by
 obtain⟨v,m,E,l⟩:=qij hs hp (by simp) (by simp);rcases E.2 ht with⟨ad,rfl,rfl⟩|⟨b,cap,J,e,rfl,o,h3,R,h5,h6,h7,h8⟩
 ·have B:=qik (s':= .d (.ref st.os.length 0 es 0)) hs m l (RV.refnil ad _ 0 es) (by simp[ASlot.toks]);have o:=B.addVoid.less t;refine⟨g,?_,M,λ_ h=>h⟩;have hl:=(qkr st (.d (.ref st.os.length 0 es 0)) p).1;simp only[hl]at o;exact o
 ·have F:rows.flatten.length=rows.length*es:=xm h7;have I:(rows.flatten.map ASlot.d).length<=J.size:=by
   rw[List.length_map,F];have:=Nat.mul_le_mul_right es R;omega
  have B:=hs.addObj (cs:=rows.flatten.map .d) o h3 I (λi s hi=>by
   simp only[List.getElem?_map,Option.map_eq_some_iff]at hi;obtain⟨d,hd,rfl⟩:=hi;obtain⟨c1,u,c2,c3⟩:=h8 i d hd;exact⟨u,c2,c3.oneCell c1,c3⟩) (λs C=>by obtain⟨d,_,rfl⟩:=List.mem_map.1 C;rfl)
  have q:RV (g.at b (.obj st.os.length)) w (.slice (some ⟨b,0,none⟩) rows.length cap) (.ref st.os.length 0 es rows.length):=
   .ref b 0 _ es _ cap (Ghost.at_same _ _ _) R h5 (by grind[vq])
  refine⟨g.at b (.obj st.os.length),?_,M.role h0 (.inl ⟨t,o⟩),ql4 (k0:=k0) (.inl ⟨t,o⟩)⟩;cases p with
  |fr k=>exact qik (p:= .fr k) (s':= .d (.ref st.os.length 0 es rows.length)) B m trivial q (by simp[ASlot.toks])
  |cell id i=>
   have l:i<(ql st.os id).length:=l;have z:=q55 l;obtain⟨b',c',e',q1,q2⟩:=m;have A:At (g.at b (.obj st.os.length)) w a (.cell id i) (.slice (some ⟨b,0,none⟩) rows.length cap):=
    ⟨b',c',e',by rw[Ghost.at_ne g _ (by grind)];exact q1,q2⟩
   have O:=qik (p:= .cell id i) (s':= .d (.ref st.os.length 0 es rows.length)) B A (by show i<(ql (st.os++ [_]) id).length;grind[qoq]) q (by simp[ASlot.toks]);simp only[St.setPos,qoq z,List.set_append_left _ _ z]at O;exact O
theorem xb1 (hs:SR N (below st.nt) g w st a) (hG:G g0 w0 g w) (h0: ∀b id,g0 b= .obj id->id<k0) {p:Pos} {t es:Nat} {rows:List (List D)} (hp:st.slotAt p= .uni t es rows) (ht:t∈st.live):
  ∃g',SR N (below (st.nt+1)) g' w (st.u2own p t es rows) a∧G g0 w0 g' w∧ ∀b,g b= .out->g' b= .out:=by
 obtain⟨v,m,O,z⟩:=qij hs hp (by simp) (by simp);have ac: ∀u,below st.nt u->u≠16*st.nt:=λu hu=>by grind[below]
 have ab: ∀u,below st.nt u->below (st.nt+1) u:=λu hu=>by grind[below]
 have aa:below (st.nt+1) (16*st.nt):=by grind[below]
 have E: ∀{C:Ghost},SR N (below st.nt) C w {st with live:=st.live.filter λu=> !(u==t)} a->At C w a p v->RC C w ((st.live.filter λu=> !(u==t))++ [16*st.nt]) v (.own (16*st.nt) es rows) ->
   SR N (below (st.nt+1)) C w (st.u2own p t es rows) a:=by
  intro C Z B I;have F:=Z.more ac ab aa (st.nt+1);have Y:=qik (s':= .own (16*st.nt) es rows) F B (by cases p<;>exact z) I (by grind[ASlot.toks])
  cases p<;>exact Y
 rcases O.2 ht with⟨ad,rfl,rfl⟩|⟨b,cap,q,e,rfl,B,I,F,Y,h6,h7,h8⟩
 ·exact⟨g,E (hs.less t) m ⟨.nilsl ad 0 es (λ_=>rfl),λ_=> .inl ⟨ad,rfl⟩⟩,hG,λ_ h=>h⟩
 ·have U:rows.flatten.length=rows.length*es:=xm h7;have Z:=hs.uniRole (r:= .row (rows.length*es) (some (16*st.nt))) B (by simp);have A: ∀k i,g k= .obj i->g.at b (.row (rows.length*es) (some (16*st.nt))) k= .obj i∧qdm w k<=qdm w k:=λk i R=>⟨by rw[Ghost.at_ne g _ (by grind)];exact R,Nat.le_refl _⟩;have M:RowsKept g w (g.at b (.row (rows.length*es) (some (16*st.nt)))) w:=λk n o R=>⟨n,o,by rw[Ghost.at_ne g _ (by grind)];exact R,Nat.le_refl _,λ_ _ _ h=>h⟩;refine⟨_,E Z ?_ ⟨?_,λ_=> .inr ⟨b,cap,q,e,rfl,Ghost.at_same _ _ _,I,F,Y,h6⟩⟩,hG.role h0 (.inl ⟨t,B⟩),ql4 (k0:=k0) (.inl ⟨t,B⟩)⟩
  ·cases p with
   |fr k=>exact m
   |cell id i=>
    obtain⟨b',c',e',q1,q2⟩:=m;exact⟨b',c',e',(A b' id q1).1,q2⟩
  ·refine qgh (vs:=(List.range rows.flatten.length).map λj=>q.getD j undef) I (Ghost.at_same _ _ _) (Nat.le_of_eq U) h7 F ⟨by simp,λd X=> ?_,λj v d J X=> ?_⟩ (λj u hj=> ?_)
   ·grind[List.getElem?_of_mem]
   ·obtain⟨_,u,c2,c3⟩:=h8 j d X;have l:j<rows.flatten.length:=(List.getElem?_eq_some_iff.1 X).1;rw[List.getElem?_map,List.getElem?_range l]at J;simp only[Option.map_some,Option.some.injEq]at J;have:q.getD j undef=u:=by simp_all
    rw[<- J,this];exact c3.mono M A
   ·have l:j<rows.flatten.length:=by grind
    obtain⟨_,u',c2,_⟩:=h8 j _ (List.getElem?_eq_getElem l);rw[List.getElem?_map,List.getElem?_range l]at hj;simp_all
theorem xl4 (hs:SR N T g w st a) (A:G g0 w0 g w) (h0: ∀b id,g0 b= .obj id->id<k0) {id es:Nat} {rows:List (List D)} (hc:(ql st.os id).map ASlot.cellD=rows.flatten) (hcc:(ql st.os id).all ASlot.isCellD=true)
  (hes: ∀r∈rows,r.length=es) (hok:D.okWR (neId id) rows=true) (z:k0<=id): ∃g',SR N T g' w (st.frz id es rows) a∧G g0 w0 g' w∧ ∀b,g b= .out->g' b= .out:=by
 have hlen:(ql st.os id).length=rows.flatten.length:=by grind
 by_cases l: ∃b,g b= .obj id
 ·obtain⟨b,l⟩:=l;have q:=qkq (r:= .row rows.flatten.length none) hs l (by simp);refine⟨_,hs.dropMap q (xfq q (λv h=> ?_) st.live),A.role h0 (.inr ⟨id,l,z⟩),ql4 (k0:=k0) (.inr ⟨id,l,z⟩)⟩;generalize i:D.ref id 0 es rows.length=y at h;cases h with
  |ref b' off' id' es' len cap hg hcap hm hsz=>
   cases i;have:b'=b:=hs.inj b' b id hg l;subst this;by_cases h00:rows.flatten= []
   ·exact .sl b' 0 cap es _ none rows (λ_=>undef) (Ghost.at_same _ _ _) (by omega) hcap hes (by grind) (by grind) (by grind)
   ·have hpos:0<rows.flatten.length:=by
     grind
    obtain⟨c,e,q1,q2,q3⟩:=qum hs l (by omega);have m: ∀(j:Nat) (d:D),rows.flatten[j]? =some d-> ∃u,c[j]? =some u∧RV g w u d∧d.isCell=true:=by
     intro j d p;rw[<- hc,List.getElem?_map,Option.map_eq_some_iff]at p;obtain⟨s,h1,rfl⟩:=p;grind[qw3,List.all_eq_true,List.mem_of_getElem?]
    refine .sl b' 0 cap es _ none rows (λj=>c.getD j undef) (Ghost.at_same _ _ _) (by omega) hcap hes (λd hd=> ?_) (λj d p=> ?_) (λj d p=> ?_)
    ·grind[List.getElem?_of_mem]
    ·obtain⟨u,u1,_⟩:=m j d p;simp_all[Nat.zero_add,World.cell?]
    ·obtain⟨u,u1,u2,_⟩:=m j d p;have:c.getD j undef=u:=by simp_all
     rw[this];exact q.rv u2 ((D.okWR_iff _ rows).1 hok d (List.mem_of_getElem? p))
  |refnil ad id' off' es'=>
   simp only[D.ref.injEq]at i;have o:rows= []:=List.eq_nil_of_length_eq_zero i.2.2.2;rw[o];exact .nilsl ad 0 _ (λ_=>rfl)
  | _=>cases i
 ·have t: ∀b,g b≠ .obj id:=λb h=>l ⟨b,h⟩;have q:=qu0 hs t;refine⟨g,hs.dropMap q (xfq q (λv h=> ?_) st.live),A,λ_ h=>h⟩;generalize i:D.ref id 0 es rows.length=y at h;cases h with
  |ref b' off' id' es' len cap hg hcap hm hsz=>grind
  |refnil ad id' off' es'=>
   simp only[D.ref.injEq]at i;have o:rows= []:=List.eq_nil_of_length_eq_zero i.2.2.2;rw[o];exact .nilsl ad 0 _ (λ_=>rfl)
  | _=>cases i
theorem qpi {f:ASlot->ASlot} {os:List AObj} {id i:Nat} (h:i≠id):ql ((os.map (AObj.mapS f)).set id .none) i=(ql os i).map f:=by
 unfold ql;rw[jBj (λh'=>h h'.symm),jAn];cases os[i]?with
 |none=>rfl
 |some o=>cases o<;>rfl
theorem xl5 (hs:SR N (below st.nt) g w st a) (U:G g0 w0 g w) (h0: ∀b id,g0 b= .obj id->id<k0) {p:Pos} {id es:Nat} {rows:List (List D)} (hp:st.slotAt p= .d (.ref id 0 es rows.length))
  (C:qg4 st.os id=true) (hc:ql st.os id=rows.flatten.map .d) (hes: ∀r∈rows,r.length=es) (hcl: ∀d∈rows.flatten,d.isCell=true) (hok:D.okWR (neId id) rows=true) (O:k0<=id) (hn:p.notIn id):
  ∃g',SR N (below (st.nt+1)) g' w (st.o2u p id es rows) a∧G g0 w0 g' w∧ ∀b,g b= .out->g' b= .out:=by
 obtain⟨v,I,E,o⟩:=qij hs hp (by simp) (by simp);have Z: ∀u,below st.nt u->u≠16*st.nt:=λu hu=>by grind[below]
 have Y: ∀u,below st.nt u->below (st.nt+1) u:=λu hu=>by grind[below]
 have X:below (st.nt+1) (16*st.nt):=by grind[below]
 have t: ∀{J:Ghost},DropG g w id J->UniOk J w (16*st.nt) es rows v->SR N (below (st.nt+1)) J w (st.o2u p id es rows) a:=by
  intro J l h3;have h1:=hs.dropMap l (q9d l st.live);have h4:=h1.more Z Y X (st.nt+1);have q: ∃a c,v= .slice a rows.length c:=by
   have m:RV g w v (.ref id 0 es rows.length):=E;generalize z:D.ref id 0 es rows.length=y at m;cases m<;>first|(grind)|cases z
  have F:At J w a p v:=by
   cases p with
   |fr k=>exact I
   |cell i j=>
    obtain⟨b',c',e',M,q2⟩:=I;exact⟨b',c',e',l.obj b' i hn M,q2⟩
  refine qik (s':= .uni (16*st.nt) es rows) h4 F ?_ ⟨q,λ_=>h3⟩ (by grind[ASlot.toks]);cases p with
  |fr k=>trivial
  |cell i j=>
   have o:j<(ql st.os i).length:=o;show j<(ql ((st.os.map _).set id .none) i).length;rw[qpi hn,List.length_map];omega
 have B:RV g w v (.ref id 0 es rows.length):=E;generalize z:D.ref id 0 es rows.length=y at B;cases B with
 |ref b off' id' es' len cap hg hcap hm hsz=>
  cases z;have l:=qkq (r:= .uni (16*st.nt)) hs hg (by simp);refine⟨_,t l ?_,U.role h0 (.inr ⟨id,hg,O⟩),ql4 (k0:=k0) (.inr ⟨id,hg,O⟩)⟩
  ·obtain⟨c,e,M,q2,q3⟩:=qpu hs hg C;rw[vq M]at hsz;refine .inr ⟨b,cap,c,e,rfl,Ghost.at_same _ _ _,M,hcap,hm,by omega,hes,λj d hj=> ?_⟩;obtain⟨u,u1,_,u3⟩:=q3 j (.d d) (by grind);exact⟨hcl d (List.mem_of_getElem? hj),u,u1,l.rv u3 ((D.okWR_iff _ rows).1 hok d (List.mem_of_getElem? hj))⟩
 |refnil ad id' off' es'=>
  simp only[D.ref.injEq]at z;have R:rows= []:=List.eq_nil_of_length_eq_zero z.2.2.2;subst R;by_cases A: ∃b,g b= .obj id
  ·obtain⟨b,A⟩:=A;have l:=qkq (r:= .uni (16*st.nt)) hs A (by simp);exact⟨_,t l (.inl ⟨ad,rfl,rfl⟩),U.role h0 (.inr ⟨id,A,O⟩),ql4 (k0:=k0) (.inr ⟨id,A,O⟩)⟩
  ·have l:=qu0 hs (λb h=>A ⟨b,h⟩);exact⟨g,t l (.inl ⟨ad,rfl,rfl⟩),U,λ_ h=>h⟩
 | _=>cases z
theorem q1l {κ:List Nat} {d:List AObj}: ∀{ι:List Nat} {os:List AObj},xbz κ d ι os->ι.length=os.length∧ ∀(i:Nat) (o:AObj) (id:Nat),os[i]? =some o->ι[i]? =some id->d[id]? =some (o.ren κ)
 | [],[],_=>by simp
 |id::ι,o::os,h=>by
  obtain⟨h1,h2⟩:=h;obtain⟨k1,k2⟩:=q1l h2;refine⟨by simp[k1],λi x j e l=> ?_⟩;cases i with
  |zero=>simp at e l;subst e;subst l;exact h1
  |succ i=>exact k2 i x j (by simpa using e) (by simpa using l)
 | [],_::_,h=>h.elim
 | _::_,[],h=>h.elim
theorem xwg {g':Ghost} {ι:List Nat} {live:List Nat} (m: ∀{v:Value} {d:D},RV g w v d->RV g' w v (d.ren ι)) (i: ∀b n o,g b= .row n o->g' b= .row n o) (z: ∀b t,g b= .uni t->g' b= .uni t)
  {v:Value} {s:ASlot} (h:RC g w live v s):RC g' w live v (s.ren1 ι):=by
 cases s with
 |d x=>exact m h
 |own t es rows=>
  have q:(D.renR ι rows).length=rows.length:=by rw[D.renR_map,List.length_map]
  refine⟨m h.1,λp=> ?_⟩;unfold q0l;rw[q];rcases h.2 p with hf|⟨b,cap,u,e,q1,q2,q3⟩
  ·grind
  ·exact .inr ⟨b,cap,u,e,q1,i _ _ _ q2,q3⟩
 |uni t es rows=>
  have q:(D.renR ι rows).length=rows.length:=by rw[D.renR_map,List.length_map]
  refine⟨by rw[q];exact h.1,λp=> ?_⟩;unfold UniOk;rw[q];rcases h.2 p with⟨ad,E,C⟩|⟨b,cap,u,e,E,C,h3,h4,h5,h6,h7,h8⟩
  ·grind
  ·refine .inr ⟨b,cap,u,e,E,z _ _ C,h3,h4,h5,h6,λr hr=> ?_,λj d A=> ?_⟩
   ·rw[D.renR_map]at hr;grind
   ·rw[qlx,List.getElem?_map,Option.map_eq_some_iff]at A;obtain⟨d',B,rfl⟩:=A;grind[qap]
 |full es rows=>
  have q:(D.renR ι rows).length=rows.length:=by rw[D.renR_map,List.length_map]
  refine⟨m h.1,?_⟩;rw[q];exact h.2
 |rd cs=>
  obtain⟨b,off,n,o,f,rfl,hg,hn,hcc⟩:=h;have q:(D.renL ι cs).length=cs.length:=by rw[D.renL_map,List.length_map]
  refine⟨b,off,n,o,f,rfl,i _ _ _ hg,by omega,λj d A=> ?_⟩;rw[D.renL_map,List.getElem?_map,Option.map_eq_some_iff]at A;obtain⟨d',B,rfl⟩:=A;grind[qap]
 |tup l=>exact h.elim
 |bad=>trivial
theorem xl6 {ι:List Nat} (h:ι≠ []) (s:ASlot):s.ren ι=match s with| .tup l=> .tup (l.map (ASlot.ren1 ι))|s=>s.ren1 ι:=by
 cases ι with
 |nil=>grind
 |cons i ι=>rfl
theorem xfr {α:Type} {l:List α} (hn:l.Nodup) {i j:Nat} (hi:i<l.length) (hj:j<l.length) (h:l[i]=l[j]):i=j:=by
 induction l generalizing i j with
 |nil=>grind
 |cons x l ih=>
  grind
theorem xl7 (hs:SR N T g w st a) (M:G g0 w0 g w) (h0: ∀b id,g0 b= .obj id->id<k0) {ι:List Nat} {q:List AObj} (hn:ι.Nodup) (hl:ι≠ []) (hp:xl2 k0 q.length ι=true) (ho:xbz ι q ι st.os):
  ∃g',SR N T g' w (st.renN ι q) a∧G g0 w0 g' w∧ ∀b,g b= .out->g' b= .out:=by
 obtain⟨r1,r2⟩:=q1l ho;simp only[xl2,Bool.and_eq_true,List.all_eq_true,List.mem_range,List.contains_iff_mem,Bool.or_eq_true,Bool.not_eq_true',beq_iff_eq]at hp;obtain⟨⟨p1,p2⟩,p3⟩:=hp;let g':Ghost:=λb=>match g b with| .obj id=> .obj (ι.getD id 0)|r=>r
 have go: ∀b id,g b= .obj id->g' b= .obj (ι.getD id 0):=λb id h=>by grind
 have U: ∀b,g b= .out->g' b= .out:=λb h=>by grind
 have grow: ∀b n o,g b= .row n o->g' b= .row n o:=λb n o h=>by grind
 have ac: ∀b t,g b= .uni t->g' b= .uni t:=λb t h=>by grind
 have z: ∀b j,g' b= .obj j-> ∃id,g b= .obj id∧j=ι.getD id 0:=λb j h=>by
  grind
 have E: ∀b id,g b= .obj id-> ∃o,st.os[id]? =some o∧o≠ .none∧ι[id]? =some (ι.getD id 0):=λb id h=>by
  obtain⟨o,p,O⟩:=hs.ids b id h;grind
 have ag:RowsKept g w g' w:=λb n o h=>⟨n,o,grow b n o h,Nat.le_refl _,λ_ _ _ h=>h⟩;have aj: ∀{v:Value} {d:D},RV g w v d->RV g' w v (d.ren ι):=λh=>h.up ag (λb j B=>go b j B);have rc: ∀{v:Value} {s:ASlot},RC g w st.live v s->RC g' w st.live v (s.ren1 ι):=λh=>xwg aj grow ac h;have am: ∀o:AObj,o≠ .none->o.ren ι≠ .none:=λo h=>by cases o<;>simp[AObj.ren]at h⊢
 have ah: ∀i j:Nat,i<ι.length->j<ι.length->ι.getD i 0=ι.getD j 0->i=j:=λi j hi hj h=>by
  grind[List.getElem?_eq_getElem,xfr]
 refine⟨g',⟨⟨λb B=>U b (hs.dom.1 b B),hs.dom.2.ghost λb n h=>grow b n none h⟩,trivial,hs.size,λk v s hk=> ?_,λj o' hj ak=> ?_,λb b' j h h'=> ?_,λb j h=> ?_,⟨hs.wf.live,λk s hk t ht=> ?_,λj o' hj s ad t ht=> ?_⟩⟩,?_,U⟩
 ·simp only[St.renN,ql3,Option.map_eq_some_iff]at hk;obtain⟨⟨v',F⟩,p,O⟩:=hk;cases O;obtain⟨I,q2⟩:=hs.slots k _ F p;refine⟨λhv=> ?_,q2⟩;rw[xl6 hl];have af:=I hv;cases F with
  |tup l=>
   obtain⟨vs,e1,e2,e3⟩:=af;refine⟨vs,e1,by simp[e2],λi u s hu ae=> ?_⟩;rw[List.getElem?_map,Option.map_eq_some_iff]at ae;obtain⟨s1,ai,rfl⟩:=ae;exact rc (e3 i u s1 hu ai)
  | _=>exact jq (rc (qax af (by simp)))
 ·have Z:j<q.length:=(List.getElem?_eq_some_iff.1 hj).1;obtain⟨i,hi⟩:=List.mem_iff_getElem?.1 (p1 j Z);have ab:i<st.os.length:=by grind
  have A:=List.getElem?_eq_getElem ab;have p:=r2 i _ j A hi;have aa:q[j]? =some o':=hj;rw[aa]at p;have p:o'=(st.os[i]).ren ι:=by grind
  have al:st.os[i]≠ .none:=λhe=>ak (by rw[p,he];rfl);have hgi:ι.getD i 0=j:=by grind
  rcases hs.objs i _ A al with⟨b,B,C⟩|⟨hv,hno'⟩
  ·refine .inl ⟨b,by grind,?_⟩;rw[p];generalize st.os[i]=o at C;cases o with
   |none=>exact C.elim
   |row cells=>
    obtain⟨cc,e,I,q2,q3⟩:=C;refine⟨cc,e,I,by grind,λm s hm=> ?_⟩;rw[List.getElem?_map,Option.map_eq_some_iff]at hm;obtain⟨F,Y,rfl⟩:=hm;obtain⟨v,v1,v2,v3⟩:=q3 m F Y;exact⟨v,v1,v2,rc v3⟩
   |map es clock=>exact MapIs.mono C ag rfl
   |iter m since seen last=>exact IterIs.mono (R:=λv=>RC g w st.live v m) (R':=λv=>RC g' w st.live v (m.ren1 ι)) C rfl (λo hv=>rc hv)
  ·refine .inr ⟨by rw[p,hv];rfl,λb B=> ?_⟩;grind
 ·obtain⟨id,p,O⟩:=z b j h;obtain⟨X,h3,h4⟩:=z b' j h';obtain⟨_,_,_,h5⟩:=E b id p;obtain⟨_,_,_,h6⟩:=E b' X h3;have:id=X:=ah id X (List.getElem?_eq_some_iff.1 h5).1 (List.getElem?_eq_some_iff.1 h6).1 (by omega);subst this;exact hs.inj b b' id p h3
 ·obtain⟨id,p,rfl⟩:=z b j h;obtain⟨o,O,h3,h4⟩:=E b id p;exact⟨_,r2 id o _ O h4,am o h3⟩
 ·simp only[St.renN,ql3,Option.map_eq_some_iff]at hk;obtain⟨⟨v',F⟩,p,O⟩:=hk;cases O;rw[qxb]at ht;exact hs.wf.fr k F p t ht
 ·have Z:j<q.length:=(List.getElem?_eq_some_iff.1 hj).1;obtain⟨i,hi⟩:=List.mem_iff_getElem?.1 (p1 j Z);have ab:i<st.os.length:=by grind
  have A:=List.getElem?_eq_getElem ab;have p:=r2 i _ j A hi;have aa:q[j]? =some o':=hj;rw[aa]at p;have p:o'=(st.os[i]).ren ι:=by grind
  subst p;generalize hoe:st.os[i]=o at ad A;cases o with
  |row cells=>
   obtain⟨F,Y,rfl⟩:=List.mem_map.1 ad;rw[q08]at ht;exact hs.wf.os i _ A F Y t ht
  | _=>grind[AObj.ren,AObj.cells]
 ·refine⟨M.os,M.tape,M.output,M.size,λb B J=> ?_,λb n B J=> ?_,λb n t B J=> ?_,λb id B J=> ?_⟩
  ·obtain⟨I,q2⟩:=M.out b B J;grind
  ·obtain⟨I,q2⟩:=M.rowN b n B J;grind
  ·obtain⟨n',o',I,q2,q3⟩:=M.rowS b n t B J;grind
  ·obtain⟨I,q2⟩:=M.obj b id B J;obtain⟨o,p,O,h3⟩:=E b id I;have hlt:id<q.length:=by
    grind[id,List.Nodup.length_le_of_subset,List.range,Nat.blt_eq]
   have hk:=h0 b id J;have hfix:ι.getD id q.length=id:=by
    grind[id,Nat.blt_eq]
   grind
theorem Turn.sr (h:Turn k0 st st') (hs:SR N (Go.Abs.below st.nt) g w st a) (i:G g0 w0 g w) (l: ∀b id,g0 b= .obj id->id<k0): ∃g',SR N (Go.Abs.below st'.nt) g' w st' a∧G g0 w0 g' w∧ ∀b,g b= .out->g' b= .out:=by
 induction h generalizing g with
 |refl st=>grind
 |weak h _ ih=>
  obtain⟨o,e,d,m⟩:=h.sr hs i l;grind
 |u2o p t es rows hp ht _ ih=>
  obtain⟨o,e,d,m⟩:=xl3 hs i l hp ht;rename_i st1 _ _;have:(st1.u2o p t es rows).nt=st1.nt:=(qkr st1 _ p).2;grind
 |o2u p id es rows hp hrow hc hes hcl hok hk hn _ ih=>
  obtain⟨o,e,d,m⟩:=xl5 hs i l hp hrow hc hes hcl hok hk hn;rename_i st1 _ _;have:(st1.o2u p id es rows).nt=st1.nt+1:=(qkr _ _ p).2;grind
 |frz id es rows hc hcc hes hok hk _ ih=>
  obtain⟨o,e,d,m⟩:=xl4 hs i l hc hcc hes hok hk;obtain⟨z,v,u,q⟩:=ih e d;grind
 |u2own p t es rows hp ht _ ih=>
  obtain⟨o,e,d,m⟩:=xb1 hs i l hp ht;obtain⟨z,v,u,q⟩:=ih e d;grind
 |ren ι os' hn hl hp ho _ ih=>
  obtain⟨o,e,d,m⟩:=xl7 hs i l hn hl hp ho;obtain⟨z,v,u,q⟩:=ih e d;grind
theorem Turn.trans {st1:St} (h:Turn k0 st st1) (h':Turn k0 st1 st'):Turn k0 st st':=by
 induction h with
 |refl=>exact h'
 |weak h _ ih=>grind[weak]
 |u2o p t es rows hp ht _ ih=>grind[u2o]
 |o2u p id es rows hp hrow hc hes hcl hok hk hn _ ih=>grind[o2u,id]
 |frz id es rows hc hcc hes hok hk _ ih=>grind[frz,id]
 |u2own p t es rows hp ht _ ih=>grind[u2own]
 |ren ι os' hn hl hp ho _ ih=>grind[ren]
end
end Go.Abs
