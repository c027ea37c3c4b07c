/- Texts Aq, Ar, As, At, Au, Av, Aw, Ax, Axb. -/
import Derived.Test.YtkcdbcbpbolgkaaGreatDoorMrf
import Derived.TacticsIn
import Derived.OrdersIn
set_option linter.unusedSimpArgs false
set_option linter.unusedVariables false
set_option linter.defProp false
set_option maxRecDepth 100000
noncomputable section
namespace Go.Abs
def Fw (ro:Option Nat):Fence:={Fence.wide with round:=ro}
theorem xhu {ro:Option Nat} {n:Nat} {P:Program} {f:FuncId} {args:Array Value} {w:World} {R:Ending->World->Prop} (h:Calls P f args w R):CallsIn (Fw ro) n P f args w R:=
 (callsIn_wide (n:=n)).2 h
theorem qcy {P:Program} {uu oo:Bool} {back:Nat} {d:Op} {x:SOp} (h:xd P uu oo back d=some x): ∀c,d≠ .defer c:=by
 rintro c rfl;simp[xd]at h
def gv (fr:Fr):Option (Nat×Bool) ->Option Bool
 |none=>some true
 |some (k,b)=>match fr.get k with
  |some (v,.d (.bool c))=>some (v&&(c==b))
  | _=>none
def ww (fr:Fr) (dst:Option Nat) (g:Bool) (v:ASlot):Fr:=
 match dst with
 |some d=>(d,g,v)::fr
 |none=>fr
def St.next (st:St) (o:SOper) (g:Bool) (out:Out):St:=
 {fr:=ww st.fr o.dst g out.v,os:=jh st.os out.wrs,live:=qs st.live out,nt:=st.nt}
def Out.tame (out:Out):Prop:=out.wrs= []∧out.cons= []∧out.iss= []
def qi4 (fr:Fr) (f:Opd) (args:List Opd):Option (FuncId×List ASlot):=
 match f.get fr with
 | .d (.func (.func k) first caps)=>some (k,first.map .d++args.map (·.get fr)++caps.map .d)
 | _=>none
def zr (tb:Nat) (as fa:List ASlot) (r:ASlot) (fo':List AObj) (ι:List Nat) (q:Bool):Out:=
 {v:=(qeb tb r).ren ι,ob:=True,cons:=(x8 as fa).map (·.1),iss:=(qeb tb r).toks,mv:=bif q then []else ι.zip (fo'.map (AObj.ren ι)),rds:=bif q then ι else []}
def qdo (tb:Nat) (H:List (Nat×Nat)) (R:List Nat) (r:ASlot) (fo':List AObj) (ι:List Nat):Out:=
 {v:=(wm R tb r).ren ι,ob:=True,cons:=H.map (·.1),iss:=(wm R tb r).toks++xf (fo'.map (AObj.rt R tb)),mv:=ι.zip ((fo'.map (AObj.rt R tb)).map (AObj.ren ι))}
structure CallOkT (P:Program) (st:St) (f:Opd) (args:List Opd) (k:FuncId) (as fa:List ASlot) (r:ASlot) (fo fo':List AObj) (ι:List Nat) (H:List (Nat×Nat)) (R:List Nat):Prop where
 callee:qi4 st.fr f args=some (k,as)
 ok:f.ok st.fr=true
 oks:(args.all λx=>x.ok st.fr)=true
 contract:qh P k fa fo r fo'
 body:(P.funcs[k]?).any (λfn=>fn.body.isSome&& !(fn.name== "runtime.NumGoroutine"))=true
 hH:H=x8 as fa++wj st.os ι fo
 hR:R=r.toks++xf fo'
 fits:Fits st.live as fa ι fo.length H
 objs:ObjFit st.os fo fo' ι
 few:R.length<=16
structure CallOk (P:Program) (st:St) (f:Opd) (args:List Opd) (k:FuncId) (as fa:List ASlot) (r:ASlot) (fo fo':List AObj) (ι:List Nat) (q:Bool):Prop where
 callee:qi4 st.fr f args=some (k,as)
 ok:f.ok st.fr=true
 oks:(args.all λx=>x.ok st.fr)=true
 contract:qh P k fa fo r fo'
 body:(P.funcs[k]?).any (λfn=>fn.body.isSome&& !(fn.name== "runtime.NumGoroutine"))=true
 fits:Fits st.live as fa ι fo.length (x8 as fa)
 objs:ObjFit st.os fo fo' ι
 noT:xf fo= []∧xf fo'= []
 few:r.toks.length<=16
 quiet:q=true-> ∀p∈ι.zip (fo'.map (AObj.ren ι)),st.os[p.1]? =some p.2
def AOne (P:Program) (tb:Nat) (o:SOper) (st:St) (g:Bool) (out:Out):Prop:=
 gv st.fr o.guard=some g∧(g=true∨out.tame)∧
 match o.op with
 | .call f args=> ∃k as fa r fo fo' ι q,out=zr tb as fa r fo' ι q∧r.toks.length<=16∧(g=true->CallOk P st f args k as fa r fo fo' ι q)
 | .eqnilS neg _=> ∃(b:Bool),out={v:= .d (.bool (if neg then !b else b)),ob:=True}∧g=true
 |op=>out=sem tb op st∧(g=true->out.ob∧ ∀t∈out.cons,t∈st.live)
section
variable {P:Program} {mu:List Nat} {N tb:Nat} {T:Nat→Prop} {g:Ghost} {w:World} {st:St} {a:Act} {oper:Oper} {ops:Array Oper}
theorem vj {back:Nat} {o:SOper} (h:qdm P mu ops N back oper=some o):
  xd P (oper.dst.any mu.contains) (oper.dst.any λd=>mu.contains (d+1000000)) back oper.op=some o.op∧o.dst=oper.dst∧(∀d,oper.dst=some d->d<N)∧
  match oper.guard with
  |none=>o.guard=none
  |some (j,b)=> ∃d,(ops[j]?).bind (·.dst)=some d∧o.guard=some (d,b):=by
 unfold qdm at h;split at h
 ·cases h
 ·rename_i op e;split at h
  ·rename_i p;have i: ∀d,oper.dst=some d->d<N:=by
    intro d m;rw[m]at p;simpa using p
   split at h
   ·rename_i l;cases h;exact⟨e,rfl,i,by rw[l]⟩
   ·rename_i j b l;split at h
    ·rename_i d hj;cases h;exact⟨e,rfl,i,by rw[l];exact⟨d,hj,rfl⟩⟩
    ·cases h
  ·cases h
theorem qfp {back:Nat} {o:SOper} {q:Bool} (h:qdm P mu ops N back oper=some o) (hs:SR N T g w st a) (i:gv st.fr o.guard=some q):Region.wanted oper (yielded ops a.tmps)=q:=by
 obtain⟨_,_,_,e⟩:=vj h;cases hq:oper.guard with
 |none=>
  rw[hq]at e;simp only at e;rw[e]at i;simp[gv]at i;simp[Region.wanted,hq,i]
 |some p=>
  obtain⟨j,b⟩:=p;rw[hq]at e;obtain⟨d,hd,e⟩:=e;rw[e]at i;simp only[gv]at i;split at i
  ·rename_i v c l;cases i;obtain⟨h1,h2⟩:=hs.slots d v _ l;simp only[Region.wanted,hq,yielded,hd,Option.bind_some];cases v with
   |true=>
    have:=y8 (wg (h1 rfl));have m:a.tmps[d]? =some (.bool c):=by
     cases hx:a.tmps[d]?with
     |none=>simp[jBg,hx,undef]at this
     |some u=>simp[jBg,hx]at this;rw[this]
    rw[m];cases c<;>cases b<;>rfl
   |false=>
    have:=h2 rfl;cases hx:a.tmps[d]?with
    |none=>rfl
    |some u=>
     simp[jBg,hx]at this;rw[this];rfl
  ·cases i
theorem q80 (os:List AObj):jh os []=os:=rfl
theorem xb5 {out:Out} (st:St) (hm:out.mv= []):jh st.os out.wrs=(zx st out.wr).os:=by
 unfold Out.wrs;rw[hm,jAu];cases out.wr with
 |none=>rfl
 |some p=>rfl
theorem xb6 (o:SOp) (st:St):(sem tb o st).mv= []:=by
 cases o<;>simp only[sem,wi,w6,binS,jx,qah,jn,km,zb,vd,qa6,jy,qaj,w8,qdl,qai,wk,Out.bad]<;>(repeat' split)<;>rfl
theorem qsr (st:St) (x:Option (Nat×AObj)):(zx st x).fr=st.fr∧(zx st x).live=st.live∧(zx st x).nt=st.nt:=by
 unfold zx;split<;>exact⟨rfl,rfl,rfl⟩
theorem xb7 {back:Nat} {o:SOper} {out:Out} (h:qdm P mu ops N back oper=some o) (hs:SR N T g w st a) (ht:out.tame):
  SR N T g w (st.next o false out) (a.put oper.dst undef):=by
 obtain⟨_,e,hd,_⟩:=vj h;obtain⟨t1,t2,t3⟩:=ht;have hn:st.next o false out={st with fr:=ww st.fr o.dst false out.v}:=by
  unfold St.next;rw[t1,q80,xg t2 t3]
 rw[hn,e];cases hdd:oper.dst with
 |none=>exact hs
 |some d=>exact hs.putUndef (hd d hdd)
theorem qcz {back:Nat} {o:SOper} {out:Out} {g':Ghost} {w':World} {v:Value} (h:qdm P mu ops N back oper=some o)
  (hs:SR N T g' w' {st with os:=jh st.os out.wrs,live:=qs st.live out} a) (hv:RS g' w' (qs st.live out) v out.v) (htk: ∀t∈out.v.toks,T t):
  SR N T g' w' (st.next o true out) (a.put oper.dst v):=by
 obtain⟨_,e,hd,_⟩:=vj h;have hn:st.next o true out={({st with os:=jh st.os out.wrs,live:=qs st.live out}:St)with fr:=ww st.fr o.dst true out.v}:=rfl;rw[hn,e];cases hdd:oper.dst with
 |none=>exact hs
 |some d=>exact hs.put (hd d hdd) hv htk
theorem SR.weakT {T':Nat->Prop} (hs:SR N T g w st a) (h: ∀t,T t->T' t):SR N T' g w st a:=
 hs.quiet (Qt.refl T hs.dom _) h (λt ht=>h t (hs.wf.live t ht))
theorem xn5 (hs:SR N T g w st a) {l:List Operand} {r:List Opd} (h:l.mapM qt=some r) (hok:(r.all λx=>x.ok st.fr)=true):
  (l.map a.eval).length=(r.map λx=>x.get st.fr).length∧ ∀(i:Nat) (v:Value) (s:ASlot),(l.map a.eval)[i]? =some v->(r.map λx=>x.get st.fr)[i]? =some s->RS g w st.live v s:=by
 obtain⟨h1,h2⟩:=jz h;refine⟨by simp[h1],λj v s m d=> ?_⟩;simp only[jAn,jAb]at m d;obtain⟨y,hy,rfl⟩:=m;obtain⟨x,e,rfl⟩:=d;exact xe hs (h2 j y x hy e) (jAx.1 hok x (jAe e))
theorem qzc {live:List Nat} {us vs:List Value} {ss ts:List ASlot} (h1:us.length=ss.length) (hr: ∀(i:Nat) (v:Value) (s:ASlot),us[i]? =some v->ss[i]? =some s->RS g w live v s)
  (hq: ∀(i:Nat) (v:Value) (s:ASlot),vs[i]? =some v->ts[i]? =some s->RS g w live v s): ∀(i:Nat) (v:Value) (s:ASlot),(us++vs)[i]? =some v->(ss++ts)[i]? =some s->RS g w live v s:=by
 intro i v s d hs;by_cases hi:i<us.length
 ·rw[jA3 hi]at d;rw[jA3 (by omega)]at hs;exact hr i v s d hs
 ·rw[jBc (by omega)]at d;rw[jBc (by omega),<- h1]at hs;exact hq _ v s d hs
theorem qzd: ∀(l:List (Nat×AObj)) (os:List AObj),(∀p∈l,os[p.1]? =some p.2) ->jh os l=os
 | [],_,_=>rfl
 |(id,o)::l,os,h=>by
  have d:os[id]? =some o:=h (id,o) jA7;have h1:os.set id o=os:=by
   apply jC6;intro j;rw[List.getElem?_set];split
   ·rename_i e;subst e;rw[d,if_pos (jAd.1 d).1]
   ·rfl
  rw[jh,h1];exact qzd l os λp hp=>h p (jA9 _ hp)
theorem qpz {f:Operand} {args:Array Operand} {argTypes:Array TypeId} {f':Opd} {m:List Opd} {k:FuncId} {as fa:List ASlot} {r:ASlot} {fo fo':List AObj} {ι:List Nat} {H:List (Nat×Nat)} {R:List Nat} (O:oper.op= .call {callee:= .value f,args,argTypes})
  (hf:qt f=some f') (ha:args.toList.mapM qt=some m) (hs:SR N T g w st a) (hfr:Fresh T tb) (h:CallOkT P st f' m k as fa r fo fo' ι H R) {K:Act->World->Prop} {Q:Exit->Act->World->Prop}
  (hK: ∀v w' g',G g w g' w'->SR N (Next T tb) g' w' {st with os:=jh st.os (qdo tb H R r fo' ι).wrs,live:=qs st.live (qdo tb H R r fo' ι)} a->
   RS g' w' (qs st.live (qdo tb H R r fo' ι)) v (qdo tb H R r fo' ι).v->K (a.put oper.dst v) w') {ro:Option Nat}:oper.wpIn (Fw ro) 0 P a w K Q:=by
 have l:=h.callee;unfold qi4 at l;cases hfg:f'.get st.fr with
 |d x=>
  cases x with
  |func fn first caps=>
   cases fn with
   |func k'=>
    rw[hfg]at l;simp only[jA8,jCx]at l;obtain⟨rfl,rfl⟩:=l;have F:=xe hs hf h.ok;rw[hfg]at F;have C:=wg F;generalize hfv:a.eval f=fv at C;cases C with
    |func _ vf vc _ _ l1 l2 r1 r2=>
    obtain⟨la,ra⟩:=xn5 hs ha h.oks;have I:=h.body;cases hfn:P.funcs[k']?with
    |none=>rw[hfn]at I;simp at I
    |some fn=>
     rw[hfn]at I;simp only[Option.any_some,jAf]at I;obtain⟨hb1,hb2⟩:=I;have q:fn.body.isNone=false:=by cases hbb:fn.body<;>simp[hbb]at hb1⊢
     have hng:(fn.name== "runtime.NumGoroutine")=false:=by simpa using hb2
     have E:(execOp a.eval oper).run P w= .ok (.enter k' (vf++args.toList.map a.eval++vc).toArray) w:=by
      have J:vf.toArray++args.map a.eval++vc.toArray=(vf++args.toList.map a.eval++vc).toArray:=by apply Array.ext';simp
      simp only[execOp,O,resolve,hfv,Deferred.ofValue,Sem.run_bind,Sem.run_pure,Result.andThen_ok,invoke,callFunc,run_program,hfn,q,hng,J,jAw,if_false]
     refine⟨λ_ _=>trivial,?_⟩;rw[Oper.semAt_eq _ _ _ (by intro c;rw[O];simp),E];refine⟨(λh=>by cases h),xhu ?_⟩;have X:(vf++args.toList.map a.eval++vc).length=(first.map ASlot.d++m.map (λx=>x.get st.fr)++caps.map ASlot.d).length:=by
      simp only[jAc,jAm]at la⊢;omega
     have U:=qzc (g:=g) (w:=w) (live:=st.live) (us:=vf++args.toList.map a.eval) (vs:=vc) (ss:=first.map ASlot.d++m.map λx=>x.get st.fr) (ts:=caps.map ASlot.d) (by simp only[jAc,jAm]at la⊢;omega)
      (qzc (by simp[l1]) (λi v s Y p=>by
       simp only[jAn,jAb]at p;obtain⟨d,hd,rfl⟩:=p;exact r1 i v d Y hd) ra) (λi v s Y p=>by
       simp only[jAn,jAb]at p;obtain⟨d,hd,rfl⟩:=p;exact r2 i v d Y hd)
     have hlt: ∀id∈ι,id<st.os.length:=by
      intro id hid;obtain⟨j,hj⟩:=jB0.1 hid;by_cases hjl:j<fo.length
      ·obtain⟨id',c,u,h2,_⟩:=qd2 h.objs.olds j _ (jAa hjl);rw[hj]at u;cases u;exact(jAd.1 h2).1
      ·have hm:id∈ι.drop fo.length:=by
        refine jB0.2 ⟨j-fo.length,?_⟩;rw[jFs,show fo.length+(j-fo.length)=j by omega];exact hj
       exact(jAd.1 (h.objs.news id hm)).1
     refine(xb3 h.hH h.hR h.contract hs.dom h.fits h.objs tb hfr h.few hs.objs hs.inj hs.ids X U).mono ?_;rintro e w' ⟨v,g',rfl,hq,hr,o1,o2,o3⟩;have hI: ∀t,t∈(wm R tb r).toks++xf (fo'.map (AObj.rt R tb)) ->tb<=t∧t<tb+16:=λt M=>by
      have:=qlx h.hR M;have:=h.few;omega
     refine hK v w' g' hq.toG ?_ hr;refine hs.quietX hq (λ_ h=> .inl h) (λt Z=> ?_) h.objs.nd (by rw[jAm,jAm];exact h.objs.len) hlt o1 o2 o3 (λo O s z t M=> ?_)
     ·rcases jAt.1 Z with u|u
      ·exact .inl (hs.wf.live t (jBs.1 u).1)
      ·exact .inr (hI t u)
     ·obtain⟨o0,ho0,rfl⟩:=jAo.1 O;refine .inr (hI t (jBe _ ?_));cases o0 with
      |row cs=>
       obtain⟨s0,hs0,rfl⟩:=jAo.1 z;rw[qy8]at M;exact qpt ho0 hs0 M
      | _=>cases z
   | _=>rw[hfg]at l;simp at l
  | _=>rw[hfg]at l;simp at l
 | _=>rw[hfg]at l;simp at l
theorem q81 {f:Operand} {args:Array Operand} {argTypes:Array TypeId} {f':Opd} {d:List Opd} {k:FuncId} {as fa:List ASlot} {r:ASlot} {fo fo':List AObj} {ι:List Nat} {q:Bool} (ho:oper.op= .call {callee:= .value f,args,argTypes})
  (hf:qt f=some f') (ha:args.toList.mapM qt=some d) (hs:SR N T g w st a) (m:Fresh T tb) (h:CallOk P st f' d k as fa r fo fo' ι q) {K:Act->World->Prop} {Q:Exit->Act->World->Prop}
  (hK: ∀v w' g',G g w g' w'->SR N (Next T tb) g' w' {st with os:=jh st.os (zr tb as fa r fo' ι q).wrs,live:=qs st.live (zr tb as fa r fo' ι q)} a->
   RS g' w' (qs st.live (zr tb as fa r fo' ι q)) v (zr tb as fa r fo' ι q).v->K (a.put oper.dst v) w') {ro:Option Nat}:oper.wpIn (Fw ro) 0 P a w K Q:=by
 have hO:=h.noT.1;have e:=h.noT.2;have i:qdo tb (x8 as fa) r.toks r fo' ι=zr tb as fa r fo' ι false:=by
  simp only[qdo,zr,qeb,xhr e,e,jAu,cond_false]
 have hq:jh st.os (zr tb as fa r fo' ι q).wrs=jh st.os (zr tb as fa r fo' ι false).wrs:=by
  have l:=h.quiet;cases q with
  |false=>rfl
  |true=>
   have:jh st.os (ι.zip (fo'.map (AObj.ren ι)))=st.os:=qzd _ _ (l rfl);simp only[zr,Out.wrs,cond_true,cond_false];exact this.symm
 refine qpz ho hf ha hs m (H:=x8 as fa) (R:=r.toks) ⟨h.callee,h.ok,h.oks,h.contract,h.body,by rw[qnf hO,jAu],by rw[e,jAu],h.fits,h.objs,h.few⟩ (λv w' g' q1 p o=> ?_);rw[i]at p o;refine hK v w' g' q1 ?_ o;rw[hq];exact p
theorem q3h {m oo:Bool} {back:Nat} {i:Op} {f:Opd} {args:List Opd} (h:xd P m oo back i=some (.call f args)):
  ∃e o l,i= .call {callee:= .value e,args:=o,argTypes:=l}∧qt e=some f∧o.toList.mapM qt=some args:=by
 cases i with
 |call c=>
  obtain⟨callee,d,argTypes⟩:=c;cases callee with
  |value e=>
   simp only[xd]at h;split at h
   ·rename_i a0 l0 h2 h3;cases m<;>cases h
    exact⟨e,d,argTypes,rfl,h2,h3⟩
   ·cases h
  |invoke _ _=>simp[xd]at h
  |builtin b=>
   exfalso;cases b<;>simp only[xd,qbg]at h<;>(repeat' split at h)<;>first|(cases h;done)|(simp only[jAb]at h;obtain⟨_,_,h⟩:=h;cases h)
 |makeMap t r=>exfalso;cases r<;>simp[xd]at h
 |next x s=>exfalso;cases s<;>simp[xd]at h
 | _=>
  exfalso;simp only[xd,mkSl,jAb]at h;first
   |(obtain⟨_,_,h⟩:=h;cases h;done)
   |((repeat' split at h)<;>first|(cases h;done)|(simp only[jAb]at h;obtain⟨_,_,h⟩:=h;cases h))
theorem qze {m oo:Bool} {back:Nat} {i:Op} {f:Opd} {args:List Opd} (h:xd P m oo back i=some (.callT f args)):
  ∃e o l,i= .call {callee:= .value e,args:=o,argTypes:=l}∧qt e=some f∧o.toList.mapM qt=some args:=by
 cases i with
 |call c=>
  obtain⟨callee,d,argTypes⟩:=c;cases callee with
  |value e=>
   simp only[xd]at h;split at h
   ·rename_i a0 l0 h2 h3;cases m<;>cases h
    exact⟨e,d,argTypes,rfl,h2,h3⟩
   ·cases h
  |invoke _ _=>simp[xd]at h
  |builtin b=>
   exfalso;cases b<;>simp only[xd,qbg]at h<;>(repeat' split at h)<;>first|(cases h;done)|(simp only[jAb]at h;obtain⟨_,_,h⟩:=h;cases h)
 |makeMap t r=>exfalso;cases r<;>simp[xd]at h
 |next x s=>exfalso;cases s<;>simp[xd]at h
 | _=>
  exfalso;simp only[xd,mkSl,jAb]at h;first
   |(obtain⟨_,_,h⟩:=h;cases h;done)
   |((repeat' split at h)<;>first|(cases h;done)|(simp only[jAb]at h;obtain⟨_,_,h⟩:=h;cases h))
theorem qas (a:Act) (d:Option Tmp) (v:Value):(a.put d v).defers=a.defers:=by cases d<;>rfl
theorem xmx {back:Nat} {o:SOper} {F:Bool} {out:Out} {K:Act->World->Prop} {Q:Exit->Act->World->Prop} (hc:qdm P mu ops N back oper=some o) (hs:SR N T g w st a) (q:Fresh T tb)
  (h1:AOne P tb o st F out) (p:o.op.isNilS=false) (E: ∀a' w' g',a'.defers=a.defers->G g w g' w'->SR N (Next T tb) g' w' (st.next o F out) a'->K a' w') {ro:Option Nat}:
  if Region.wanted oper (yielded ops a.tmps)then oper.wpIn (Fw ro) 0 P a w K Q else((∀f,oper.about P w a.eval=some f->(Fw ro).fn f)∧K (a.put oper.dst undef) w):=by
 obtain⟨C,l,d⟩:=h1;rw[qfp hc hs C];cases F with
 |false=>
  rw[if_neg (by simp)];exact⟨λ_ _=>trivial,E _ _ g (qas ..) (G.refl g w) ((xb7 hc hs (by simpa using l)).weakT λ_ h=> .inl h)⟩
 |true=>
  rw[if_pos rfl];obtain⟨e,_,_,_⟩:=vj hc;have plain:out=sem tb o.op st->(out.ob∧ ∀t∈out.cons,t∈st.live) ->oper.wpIn (Fw ro) 0 P a w K Q:=by
   intro he m;subst he;obtain⟨n,v,w',g',r1,r2,r3,r4,r5,r6⟩:=xb4 e hs q m.1 m.2;refine⟨λ_ _=>trivial,?_⟩;rw[Oper.semAt_eq _ _ _ (qcy e),r1];have i:=E _ _ g' (qas ..) r3 (qcz hc (by rw[xb5 st (xb6 _ _)];have:=qsr st (sem tb o.op st).wr;exact(by rw[<- this.1,<- this.2.2];exact r4)) r5 r6);rcases r2 with rfl|⟨rfl,rfl⟩
   ·exact i
   ·exact i
  cases hoo:o.op with
  |call f args=>
   rw[hoo]at d e;obtain⟨k,as,fa,r,fo,fo',ι,qb,rfl,hfew,hok⟩:=d;have hok:=hok rfl;obtain⟨f0,ma,aty,z,h2,h3⟩:=q3h e;refine q81 z h2 h3 hs q hok (λv w' g' q1 q2 q3=>E _ _ g' (qas ..) q1 (qcz hc q2 q3 (λt u=> ?_)));have u:t∈((qeb tb r).ren ι).toks:=u;rw[qvw]at u;have:=qte u;exact .inr ⟨by omega,by omega⟩
  |eqnilS neg x=>rw[hoo]at p;simp[SOp.isNilS]at p
  | _=>rw[hoo]at d;exact plain (by rw[hoo];exact d.1) (d.2 rfl)
end
def Out.touch (out:Out):List Nat:=out.wrs.map (·.1)++(out.rd.toList++out.rds)
def Out.tags (out:Out):List Nat:=out.wrs.map (·.1)++(out.wrs.map (λp=>1000000+p.1)++(out.rd.toList++out.rds.map λi=>1000000+i))
theorem qtg {x y:Out} {id:Nat} (e:id∈x.touch) (d:id∈y.wrs.map (·.1)): ∃i,i∈x.tags∧i∈y.tags:=by
 have hy:1000000+id∈y.wrs.map (λp=>1000000+p.1):=by
  grind
 unfold Out.touch at e;unfold Out.tags;rcases jAt.1 e with h|h
 ·exact⟨id,jBb _ h,jBb _ d⟩
 ·rcases jAt.1 h with h|h
  ·exact⟨id,jBe _ (jBe _ (jBb _ h)),jBb _ d⟩
  ·exact⟨1000000+id,jBe _ (jBe _ (jBe _ (jAo.2 ⟨id,h,rfl⟩))),jBe _ (jBb _ hy)⟩
def qth (e b:Bool):Out:={v:= .d (.bool (if e then !b else b)),ob:=True}
def qgb:Out:={v:=qpq,ob:=True}
def qp0 (h mid since:Nat) (seen:List Nat) (clock:Nat) (e:Nat×D×D):Out:={v:=entV e,ob:=True,wr:=some (h,.iter (.d (.map mid)) since (seen++ [e.1]) clock)}
def qp1 (id e es n:Nat) (os:List AObj) (r:Src):Out:={v:= .d (.ref e 0 es (n+r.rows.length)),ob:=True,wr:=some (e,.row (yq os id es n r))}
def qgc (e:Nat×D×D):Out:={v:= .tup [.d e.2.1,.d e.2.2],ob:=True}
def Obl (g:Bool) (out:Out) (live:List Nat):Prop:=(g=true->out.ob∧ ∀t∈out.cons,t∈live)∧(g=true∨out.tame)
def ARun (P:Program):List SOper->Nat->List (List Nat) ->(List (List Nat) ->St->Prop) ->St->Prop
 | [],_,tids,K,st=>K tids st
 |o::ops,k,tids,K,st=>
  match gv st.fr o.guard with
  |none=>False
  |some g=>
   match o.op with
   | .call f args=> ∃n as fa r fo fo' ι q,r.toks.length<=16∧(g=true->CallOk P st f args n as fa r fo fo' ι q)∧(g=true∨(zr (16*(st.nt+k)) as fa r fo' ι q).tame)∧
     ARun P ops (k+1) (tids++ [(zr (16*(st.nt+k)) as fa r fo' ι q).tags]) K (st.next o g (zr (16*(st.nt+k)) as fa r fo' ι q))
   | .eqnilS neg x=>g=true∧x.ok st.fr=true∧ ∃es rows,(x.get st.fr).rows=some (es,rows)∧
     ∀b:Bool,(b=true->rows= []) ->ARun P ops (k+1) (tids++ [[]]) K (st.next o g (qth neg b))
   | .nextM x=>g=true∧x.ok st.fr=true∧ ∃h,x.get st.fr= .d (.ptr h 0)∧
     ((∃since seen last,st.os[h]? =some (.iter (.d .nilmap) since seen last)∧ARun P ops (k+1) (tids++ [[]]) K (st.next o g qgb))∨
      ∃mid since seen last es clock,IterOn st.os h mid since seen last es clock∧(qf7 es seen= [] ->ARun P ops (k+1) (tids++ [[]]) K (st.next o g qgb))∧
       ∀e∈qf7 es seen,ARun P ops (k+1) (tids++ [[]]) K (st.next o g (qp0 h mid since seen clock e)))
   | .appendR back es bytes s x=>g=true∧(((sem (16*(st.nt+k)) (.appendO back es bytes s x) st).ob∧ARun P ops (k+1) (tids++ [[]]) K (st.next o g (sem (16*(st.nt+k)) (.appendO back es bytes s x) st)))∨
     (s.ok st.fr=true∧x.ok st.fr=true∧ ∃id n r,s.get st.fr= .d (.ref id 0 es n)∧y7 es st.os (x.get st.fr)=some r∧AppR st.os es bytes back id n r∧
      ARun P ops (k+1) (tids++ [[]]) K (st.next o g (qp1 id id es n st.os r))∧ARun P ops (k+1) (tids++ [[]]) K (st.next o g (qp1 id (st.os.length-back) es n st.os r))))
   | .callT f args=>g=true∧ ∃n as fa r fo fo' ι H R,CallOkT P st f args n as fa r fo fo' ι H R∧ARun P ops (k+1) (tids++ [[]]) K (st.next o g (qdo (16*(st.nt+k)) H R r fo' ι))
   | .entryM x=>g=true∧x.ok st.fr=true∧ ∃h mid since seen clock es e,x.get st.fr= .d (.ptr h 0)∧EntryOn st.os h mid since seen clock es e∧
     ARun P ops (k+1) (tids++ [[]]) K (st.next o g (qgc e))
   |op=>Obl g (sem (16*(st.nt+k)) op st) st.live∧ARun P ops (k+1) (tids++ [(sem (16*(st.nt+k)) op st).tags]) K (st.next o g (sem (16*(st.nt+k)) op st))
def qff (d:List (Nat×Nat)) (tids:List (List Nat)):Prop:=
 ∀p∈d,∀i∈tids.getD p.1 [],i∉tids.getD p.2 []
def St.grow (st:St) (n:Nat):St:={st with os:=st.os++List.replicate n .none}
def St.bump (st:St) (n:Nat):St:={st with nt:=st.nt+n}
def xb8 (P:Program) (ops:List SOper) (objs:Nat) (d:List (Nat×Nat)) (Q:St->Prop) (st:St):Prop:=
 ARun P ops 0 [] (λtids st'=>qff d tids∧Q (st'.bump ops.length)) (st.grow objs)
section
variable {P:Program} {mu:List Nat} {N tb:Nat} {T:Nat→Prop} {g:Ghost} {w:World} {st:St} {a:Act} {ops:Array Oper}
theorem qc8 (os:List AObj) (n id:Nat) (o:AObj) (ho:o≠ .none):(os++List.replicate n AObj.none)[id]? =some o↔os[id]? =some o:=by
 grind
theorem SR.grow (hs:SR N T g w st a) (n:Nat):SR N T g w (st.grow n) a:=by
 refine⟨hs.dom,hs.defers,hs.size,hs.slots,λid o d hn=>hs.objs id o ((qc8 _ _ _ _ hn).1 d) hn,hs.inj,λb id hb=> ?_,⟨hs.wf.live,hs.wf.fr,λid o d s e t ht=> ?_⟩⟩
 ·obtain⟨o,d,hn⟩:=hs.ids b id hb;exact⟨o,(qc8 _ _ _ _ hn).2 d,hn⟩
 ·by_cases hn:o= .none
  ·grind[AObj.cells]
  ·exact hs.wf.os id o ((qc8 _ _ _ _ hn).1 d) s e t ht
theorem SR.bump (hs:SR N T g w st a) (n:Nat):SR N T g w (st.bump n) a:=⟨hs.dom,hs.defers,hs.size,hs.slots,hs.objs,hs.inj,hs.ids,⟨hs.wf.live,hs.wf.fr,hs.wf.os⟩⟩
def below (n:Nat):Nat->Prop:=λt=>t<16*n
theorem qp2 (n:Nat):Fresh (below n) (16*n):=λt h h2=>by grind[below]
theorem qti (n:Nat): ∀t,Next (below n) (16*n) t->below (n+1) t:=by
 intro t h;unfold below at*;rcases h with h|h
 ·omega
 ·omega
theorem qbh (st:St) (o:SOper) (g:Bool) (out:Out):(st.next o g out).nt=st.nt:=rfl
theorem q3i {o oo:Bool} {back:Nat} {m:Op} {d:Bool} {x:Opd} (h:xd P o oo back m=some (.eqnilS d x)):
  ∃t l i u e,m= .binOp (if d then .neq else .eql) t l i u∧qt l=some x∧P.underlying t=some (.slice e)∧qh7 i=true:=by
 cases m with
 |binOp op t l i u=>
  simp only[xd]at h;split at h
  ·cases h
  ·cases h
  ·grind
  ·rename_i a b e h1 h2 h3;split at h
   ·rename_i hy;split at h
    ·cases h;grind
    ·cases h;grind
    grind
   grind
  all_goals grind
 |call c=>
  exfalso;obtain⟨callee,margs,argTypes⟩:=c;cases callee with
  |value f0=>cases o<;>simp only[xd,qyn]at h<;>grind
  |invoke _ _=>simp[xd]at h
  |builtin b=>cases b<;>simp only[xd,qbg]at h<;>(repeat' split at h)<;>first|grind|simp_all
 |makeMap t r=>exfalso;cases r<;>simp[xd]at h
 |next x s=>exfalso;cases s<;>simp[xd]at h
 | _=>
  exfalso;simp only[xd,mkSl,jAb]at h;first
   |(obtain⟨_,_,h⟩:=h;cases h;done)
   |((repeat' split at h)<;>first|(cases h;done)|(simp only[jAb]at h;obtain⟨_,_,h⟩:=h;cases h))
theorem qzf {i oo:Bool} {back:Nat} {e:Op} {x:Opd} (h:xd P i oo back e=some (.nextM x)): ∃d,e= .next d false∧qt d=some x:=by
 cases e with
 |next d s=>
  cases s with
  |false=>
   simp only[xd,mkSl,jAb]at h;grind
  |true=>simp[xd]at h
 |call c=>
  exfalso;obtain⟨callee,margs,argTypes⟩:=c;cases callee with
  |value f0=>cases i<;>simp only[xd,qyn]at h<;>grind
  |invoke _ _=>simp[xd]at h
  |builtin b=>cases b<;>simp only[xd,qbg]at h<;>(repeat' split at h)<;>first|grind|simp_all
 |makeMap t r=>exfalso;cases r<;>simp[xd]at h
 | _=>
  exfalso;simp only[xd,mkSl,jAb]at h;first
   |(obtain⟨_,_,h⟩:=h;cases h;done)
   |((repeat' split at h)<;>first|(cases h;done)|(simp only[jAb]at h;obtain⟨_,_,h⟩:=h;cases h))
theorem qss {m C:Bool} {back E es bytes:Nat} {o:Op} {s' x':Opd} (h:xd P m C back o=some (.appendR E es bytes s' x')):
  ∃q p t u e i z,o= .call {callee:= .builtin .append,args:= #[q,p],argTypes:= #[t,u]}∧P.underlying t=some (.slice e)∧P.info? e=some i∧jg P e=some z∧i.size=z.length∧0<i.bytes∧
   ((∃f,P.underlying u=some (.slice f))∨P.underlying u=some .string)∧qt q=some s'∧qt p=some x'∧es=i.size∧bytes=i.bytes:=by
 have mk: ∀{a b:Nat} {y v:Opd},some (qbg m C back a b y v)=some (SOp.appendR E es bytes s' x') ->es=a∧bytes=b∧s'=y∧x'=v:=by
  intro a b y v h;unfold qbg at h;grind
 cases o with
 |call c=>
  obtain⟨callee,d,argTypes⟩:=c;cases callee with
  |value f0=>exfalso;cases m<;>simp only[xd,qyn]at h<;>grind
  |invoke _ _=>simp_all[xd]
  |builtin b=>
   by_cases l:b= .append
   ·subst l;simp only[xd]at h;split at h
    ·rename_i s x t u ha hty;have ea:d= #[s,x]:=by grind
     have et:argTypes= #[t,u]:=by grind
     grind
    grind
   ·exfalso;cases b<;>simp only[xd,qbg]at h<;>(repeat' split at h)<;>first|grind|grind|simp_all
 |makeMap t r=>exfalso;cases r<;>simp[xd]at h
 |next x s=>exfalso;cases s<;>simp[xd]at h
 | _=>
  exfalso;simp only[xd,mkSl,jAb]at h;first
   |(obtain⟨_,_,h⟩:=h;cases h;done)
   |((repeat' split at h)<;>first|(cases h;done)|(simp only[jAb]at h;obtain⟨_,_,h⟩:=h;cases h))
theorem qvy {i oo:Bool} {back:Nat} {e:Op} {x:Opd} (h:xd P i oo back e=some (.entryM x)): ∃d,e= .entry d∧qt d=some x:=by
 cases e with
 |entry d=>
  simp only[xd,mkSl,jAb]at h;grind
 |next x s=>exfalso;cases s<;>simp[xd]at h
 |call c=>
  exfalso;obtain⟨callee,margs,argTypes⟩:=c;cases callee with
  |value f0=>cases i<;>simp only[xd,qyn]at h<;>grind
  |invoke _ _=>simp[xd]at h
  |builtin b=>cases b<;>simp only[xd,qbg]at h<;>(repeat' split at h)<;>first|grind|simp_all
 |makeMap t r=>exfalso;cases r<;>simp[xd]at h
 | _=>
  exfalso;simp only[xd,mkSl,jAb]at h;first
   |(obtain⟨_,_,h⟩:=h;cases h;done)
   |((repeat' split at h)<;>first|(cases h;done)|(simp only[jAb]at h;obtain⟨_,_,h⟩:=h;cases h))
theorem qhf {ro:Option Nat} {Q:Exit->Act->World->Prop}: ∀(l:List Oper) (sops:List SOper) (k:Nat) (tids:List (List Nat)) (K:List (List Nat) ->St->Prop) (st:St) (g:Ghost) (w:World) (a:Act),
  qfd P mu N ops l=some sops->ARun P sops k tids K st->SR N (below (st.nt+k)) g w st a->
  (∀d st' a' w' g',a'.defers=a.defers->K d st'->st'.nt=st.nt->G g w g' w'->SR N (below (st.nt+k+sops.length)) g' w' st' a'->Q .normal a' w') ->wpListIn (Fw ro) 0 P ops Q l a w
 | [],sops,k,tids,K,st,g,w,a,hc,hr,hs,hQ=>by
  simp[qfd]at hc;subst hc;exact hQ tids st a w g rfl hr rfl (G.refl g w) (by omega)
 |oper::l,sops,k,tids,K,st,g,w,a,hc,hr,hs,hQ=>by
  simp only[qfd]at hc;split at hc
  ·rename_i o rest J h2;cases hc;simp only[ARun]at hr;cases hg:gv st.fr o.guard with
   |none=>grind
   |some gb=>
    rw[hg]at hr;have fin: ∀out:Out,AOne P (16*(st.nt+k)) o st gb out->o.op.isNilS=false->(∃td,ARun P rest (k+1) (tids++ [td]) K (st.next o gb out)) ->wpListIn (Fw ro) 0 P ops Q (oper::l) a w:=by
     rintro out h3 hne ⟨td,h4⟩;refine wpListIn_step (λK' p=>xmx J hs (qp2 _) h3 hne (λa' w' g' hdf hG hs'=>p a' w' ?_));refine qhf l rest (k+1) (tids++ [td]) K (st.next o gb out) g' w' a' h2 h4 (by rw[qbh,<- Nat.add_assoc];exact hs'.weakT (qti _)) (λd st' a'' w'' g'' Z U O M q4=>hQ d st' a'' w'' g'' (Z.trans hdf) U O (hG.trans M) ?_);grind[qbh,List.length_cons]
    cases hop:o.op with
    |call f args=>
     rw[hop]at hr;obtain⟨n,as,fa,r,fo,fo',ι,q,r1,Y,r3,r4⟩:=hr;exact fin _ ⟨hg,r3,by grind⟩ (by rw[hop];rfl) ⟨_,r4⟩
    |eqnilS neg x=>
     rw[hop]at hr;obtain⟨r1,Y,es,rows,r3,r4⟩:=hr;subst r1;obtain⟨m,X,hd,_⟩:=vj J;rw[hop]at m;obtain⟨t,x0,y0,u,e,F,hx,ht,hy⟩:=q3i m;obtain⟨b,hb,v,E,C⟩:=qy2 F ht hx hy hs Y r3;refine wpListIn_step (λK' p=> ?_);rw[qfp J hs hg,if_pos rfl];refine⟨λ_ _=>trivial,?_⟩;rw[Oper.semAt_eq _ _ _ (qcy m),E];refine p _ _ (qhf l rest (k+1) _ K (st.next o true (qth neg b)) g w (a.put oper.dst v) h2 (r4 b hb) ?_ (λd st' a'' w'' g'' Z U O M q4=>hQ d st' a'' w'' g'' (Z.trans (qas ..)) U O M ?_))
     ·refine qcz J ?_ ?_ (by simp[qth,ASlot.toks])
      ·have:qs st.live (qth neg b)=st.live:=xg rfl rfl;rw[this];exact(hs.weakT λt h=>by grind[qbh,below])
      ·exact C
     grind[qbh,List.length_cons]
    |nextM x=>
     rw[hop]at hr;obtain⟨r1,Y,iid,r3,r4⟩:=hr;subst r1;obtain⟨m,X,hd,_⟩:=vj J;rw[hop]at m;obtain⟨x0,F,hx⟩:=qzf m;refine wpListIn_step (λK' p=> ?_);rw[qfp J hs hg,if_pos rfl];refine⟨λ_ _=>trivial,?_⟩;rw[Oper.semAt_eq _ _ _ (qcy m)];have xt4:(∃v,(execOp a.eval oper).run P w= .ok (.value v) w∧RS g w st.live v qpq) ->ARun P rest (k+1) (tids++ [[]]) K (st.next o true qgb) ->
       (match (execOp a.eval oper).run P w with| .ok n w'=>(match n with| .value v=>K' (a.put oper.dst v) w'| _=>True)| _=>True)∧ ∃v,(execOp a.eval oper).run P w= .ok (.value v) w∧wpListIn (Fw ro) 0 P ops Q l (a.put oper.dst v) w:=by
      rintro⟨v,E,C⟩ hr4;have hfin:wpListIn (Fw ro) 0 P ops Q l (a.put oper.dst v) w:=by
       refine qhf l rest (k+1) _ K (st.next o true qgb) g w (a.put oper.dst v) h2 hr4 ?_ (λd st' a'' w'' g'' Z U O M q4=>hQ d st' a'' w'' g'' (Z.trans (qas ..)) U O M ?_)
       ·refine qcz J ?_ ?_ (by simp[qgb,qpq,ASlot.toks,qbt])
        ·have:qs st.live qgb=st.live:=xg rfl rfl;rw[this];exact(hs.weakT λt h=>by grind[qbh,below])
        ·have:qs st.live qgb=st.live:=xg rfl rfl;rw[this];exact C
       grind[qbh,List.length_cons]
      grind
     rcases r4 with⟨since,seen,last,r5,r6⟩|⟨mid,since,seen,last,es,clock,r5,r6,r7⟩
     ·obtain⟨v,hv,hw'⟩:=(xt4 (qy6 F hx hs Y r3 r5) r6).2;rw[hv];exact p _ _ hw'
     ·rcases q8w F hx hs Y r3 r5 with⟨hl,hov⟩|⟨e,he,v,w',E,C,I,hv4⟩
      ·obtain⟨v,hv,hw'⟩:=(xt4 hov (r6 hl)).2;rw[hv];exact p _ _ hw'
      ·rw[E];refine p _ _ (qhf l rest (k+1) _ K (st.next o true (qp0 iid mid since seen clock e)) g w' (a.put oper.dst v) h2 (r7 e he) ?_ (λd st' a'' w'' g'' Z U O M q4=>hQ d st' a'' w'' g'' (Z.trans (qas ..)) U O (C.trans M) ?_))
       ·refine qcz J ?_ ?_ (by simp[qp0,entV,ASlot.toks,qbt])
        ·have:qs st.live (qp0 iid mid since seen clock e)=st.live:=xg rfl rfl;rw[this];exact(I.weakT λt h=>by grind[qbh,below])
        ·have:qs st.live (qp0 iid mid since seen clock e)=st.live:=xg rfl rfl;rw[this];exact hv4
       grind[qbh,List.length_cons]
    |appendR back es bytes s' x'=>
     rw[hop]at hr;obtain⟨r1,Y⟩:=hr;subst r1;obtain⟨m,X,hd,_⟩:=vj J;rw[hop]at m;obtain⟨s0,x0,t,u,e,i,z,F,U,O,M,q4,q5,q6,q7,q8,rfl,rfl⟩:=qss m;have go: ∀{out:Out} {v:Value} {w':World} {g':Ghost},out.cons= [] ->out.iss= [] ->out.v.toks= [] ->(execOp a.eval oper).run P w= .ok (.value v) w'->G g w g' w'->SR N (below (st.nt+k)) g' w' (zx st out.wr) a->RS g' w' st.live v out.v->out.mv= [] ->
       ARun P rest (k+1) (tids++ [[]]) K (st.next o true out) ->wpListIn (Fw ro) 0 P ops Q (oper::l) a w:=by
      intro out v w' g' hcons hiss htoks E C I hv4 hw2 hr4;refine wpListIn_step (λK' p=> ?_);rw[qfp J hs hg,if_pos rfl];refine⟨λ_ _=>trivial,?_⟩;rw[Oper.semAt_eq _ _ _ (qcy m),E];have hl:qs st.live out=st.live:=xg hcons hiss;have hwo:zx st out.wr={st with os:=jh st.os out.wrs}:=by
       unfold Out.wrs;rw[hw2];cases out.wr<;>simp[zx,jh]
      rw[hwo]at I;refine p _ _ (qhf l rest (k+1) _ K (st.next o true out) g' w' (a.put oper.dst v) h2 hr4 ?_ (λd st' a'' w'' g'' Z U O M q4=>hQ d st' a'' w'' g'' (Z.trans (qas ..)) U O (C.trans M) ?_))
      ·refine qcz J ?_ ?_ (by grind)
       ·rw[hl];exact(I.weakT λt h=>by grind[qbh,below])
       grind
      grind[qbh,List.length_cons]
     rcases Y with⟨r3,r4⟩|⟨o1,o2,id,n,r,k1,k2,k3,k4,k5⟩
     ·grind[qnb,sem,jn,Out.bad,ASlot.toks]
     ·obtain⟨v,w',g',E,C,hv⟩:=qy7 F U O M q4 q5 q6 q7 q8 hs o1 o2 k1 k2 k3;rcases hv with⟨I,hv4⟩|⟨I,hv4⟩
      ·exact go (out:=qp1 id id i.size n st.os r) rfl rfl rfl E C I hv4 rfl k4
      ·exact go (out:=qp1 id (st.os.length-back) i.size n st.os r) rfl rfl rfl E C I hv4 rfl k5
    |callT f args=>
     rw[hop]at hr;obtain⟨r1,n,as,fa,r,fo,fo',ι,H,R,Y,r3⟩:=hr;subst r1;obtain⟨m,X,hd,_⟩:=vj J;rw[hop]at m;obtain⟨f0,ma,aty,F,m2,m3⟩:=qze m;refine wpListIn_step (λK' p=> ?_);rw[qfp J hs hg,if_pos rfl];refine qpz F m2 m3 hs (qp2 _) Y (λv w' g' e1 e2 e3=>p _ _ (qhf l rest (k+1) _ K (st.next o true (qdo (16*(st.nt+k)) H R r fo' ι)) g' w' (a.put oper.dst v) h2 r3 ?_ (λd st' a'' w'' g'' Z U O M q4=>hQ d st' a'' w'' g'' (Z.trans (qas ..)) U O (e1.trans M) ?_)))
     ·rw[qbh,<- Nat.add_assoc];refine(qcz J e2 e3 (λt ht=> ?_)).weakT (qti _);have ht:t∈((wm R (16*(st.nt+k)) r).ren ι).toks:=ht;rw[qvw]at ht;have:=qlx Y.hR (List.mem_append_left _ ht);have:=Y.few;exact .inr ⟨by omega,by omega⟩
     grind[qbh,List.length_cons]
    |entryM x=>
     rw[hop]at hr;obtain⟨r1,Y,iid,mid,since,seen,clock,es,e,r3,r4,r5⟩:=hr;subst r1;obtain⟨m,X,hd,_⟩:=vj J;rw[hop]at m;obtain⟨x0,F,hx⟩:=qvy m;obtain⟨v,E,C⟩:=q3e F hx hs Y r3 r4;refine wpListIn_step (λK' p=> ?_);rw[qfp J hs hg,if_pos rfl];refine⟨λ_ _=>trivial,?_⟩;rw[Oper.semAt_eq _ _ _ (qcy m),E];refine p _ _ (qhf l rest (k+1) _ K (st.next o true (qgc e)) g w (a.put oper.dst v) h2 r5 ?_ (λd st' a'' w'' g'' Z U O M q4=>hQ d st' a'' w'' g'' (Z.trans (qas ..)) U O M ?_))
     ·refine qcz J ?_ ?_ (by simp[qgc,ASlot.toks,qbt])
      ·have:qs st.live (qgc e)=st.live:=xg rfl rfl;rw[this];exact(hs.weakT λt h=>by grind[qbh,below])
      ·have:qs st.live (qgc e)=st.live:=xg rfl rfl;rw[this];exact C
     grind[qbh,List.length_cons]
    | _=>
     rw[hop]at hr;exact fin _ ⟨hg,hr.1.2,by rw[hop];exact⟨rfl,hr.1.1⟩⟩ (by rw[hop];rfl) ⟨_,hr.2⟩
  grind
end
abbrev Done:=SOper×Bool×Out
def xb9 (P:Program):List Done->Nat->St->Prop
 | [],_,_=>True
 |(o,g,out)::l,k,st=>AOne P (16*(st.nt+k)) o st g out∧xb9 P l (k+1) (st.next o g out)
def ap (S:Nat->Bool):List Done->Nat->St->St
 | [],_,st=>st
 |(o,g,out)::l,k,st=>ap S l (k+1) (if S k then st.next o g out else st)
theorem qkm {P:Program}: ∀(sops:List SOper) (k:Nat) (tids:List (List Nat)) (K:List (List Nat) ->St->Prop) (st:St),ARun P sops k tids K st->(sops.any λo=>o.op.isNilS)=false->
  ∃l:List Done,l.map (·.1)=sops∧xb9 P l k st∧K (tids++l.map λd=>d.2.2.tags) (ap (λ_=>true) l k st)
 | [],k,tids,K,st,h,_=>⟨[],rfl,trivial,by grind[ap,ARun]⟩
 |o::sops,k,tids,K,st,h,hn=>by
  simp only[List.any_cons,Bool.or_eq_false_iff]at hn;simp only[ARun]at h;cases hg:gv st.fr o.guard with
  |none=>grind
  |some gb=>
   rw[hg]at h;have e: ∀(out:Out) (i:List Nat),AOne P (16*(st.nt+k)) o st gb out->ARun P sops (k+1) (tids++ [i]) K (st.next o gb out) ->out.tags=i->
     ∃l:List Done,l.map (·.1)=o::sops∧xb9 P l k st∧K (tids++l.map λd=>d.2.2.tags) (ap (λ_=>true) l k st):=by
    intro out i h1 h2 h3;obtain⟨l,q1,q2,q3⟩:=qkm sops (k+1) _ K _ h2 hn.2;refine⟨(o,gb,out)::l,by simp[q1],⟨h1,q2⟩,?_⟩;simp_all[List.map_cons,ap,if_true,List.append_assoc]
   cases hop:o.op with
   |call f args=>
    rw[hop]at h;obtain⟨n,as,fa,r,fo,fo',ι,q,r1,r2,r3,r4⟩:=h;exact e _ _ ⟨hg,r3,by grind⟩ r4 rfl
   |eqnilS neg x=>grind[SOp.isNilS]
   |nextM x=>grind[SOp.isNilS]
   |appendR _ _ _ _ _=>grind[SOp.isNilS]
   |callT _ _=>grind[SOp.isNilS]
   |entryM x=>grind[SOp.isNilS]
   | _=>
    rw[hop]at h;exact e _ _ ⟨hg,h.1.2,by rw[hop];exact⟨rfl,h.1.1⟩⟩ h.2 rfl
theorem xrd (S:Nat->Bool): ∀(l:List Done) (k:Nat) (st:St),(ap S l k st).nt=st.nt
 | [],_,_=>rfl
 |(o,g,out)::l,k,st=>by
  simp only[ap];rw[xrd S l];split<;>rfl
theorem qhg (S:Nat->Bool): ∀(l:List Done) (k:Nat) (st:St),(ap S l k st).os.length=st.os.length
 | [],_,_=>rfl
 |(o,g,out)::l,k,st=>by
  simp only[ap];rw[qhg S l];split
  ·exact qga out.wrs st.os
  ·rfl
theorem qkn (fr:Fr) (dst:Option Nat) (g:Bool) (v:ASlot) (k:Nat):(ww fr dst g v).get k=if dst=some k then some (g,v)else fr.get k:=by
 cases dst with
 |none=>rfl
 |some d=>
  simp[ww,Fr.get_cons,jA8]
theorem q6d (S S':Nat->Bool) (s:Nat): ∀(l:List Done) (k:Nat) (st st':St),st.fr.get s=st'.fr.get s->
  (∀(j:Nat) (d:Done),l[j]? =some d->d.1.dst=some s->S (k+j)=S' (k+j)) ->(ap S l k st).fr.get s=(ap S' l k st').fr.get s
 | [],k,st,st',h,_=>h
 |(o,g,out)::l,k,st,st',h,hw=>by
  simp only[ap];refine q6d S S' s l (k+1) _ _ ?_ (λj d hj e=>by have:=hw (j+1) d (by grind) e;grind);by_cases e:o.dst=some s
  ·have:=hw 0 (o,g,out) rfl e;rw[Nat.add_zero]at this;rw[this];split;all_goals simp_all[St.next,qkn,if_true]
  ·have: ∀x:St,(x.next o g out).fr.get s=x.fr.get s:=λx=>by simp only[St.next,qkn,if_neg e]
   grind
theorem q6e (S S':Nat->Bool) (id:Nat): ∀(l:List Done) (k:Nat) (st st':St),st.os[id]? =st'.os[id]? ->st.os.length=st'.os.length->
  (∀(j:Nat) (d:Done),l[j]? =some d->id∈d.2.2.wrs.map (·.1) ->S (k+j)=S' (k+j)) ->(ap S l k st).os[id]? =(ap S' l k st').os[id]?
 | [],k,st,st',h,_,_=>h
 |(o,g,out)::l,k,st,st',h,hl,hw=>by
  simp only[ap];have e: ∀x:St,(x.next o g out).os.length=x.os.length:=λx=>qga out.wrs x.os;refine q6e S S' id l (k+1) _ _ ?_ (by split<;>split<;>simp only[e,hl]) (λj d hj i=>by have:=hw (j+1) d (by simpa using hj) i;rw[show k+1+j=k+(j+1) by omega];exact this);have p: ∀x:St,(x.next o g out).os[id]? =(jh x.os out.wrs)[id]? :=λx=>rfl;by_cases i:id∈out.wrs.map (·.1)
  ·have:=hw 0 (o,g,out) rfl i;rw[Nat.add_zero]at this;rw[this];split
   ·rw[p,p];exact qjf _ _ _ _ hl (.inl i)
   ·exact h
  ·have m: ∀x:St,(x.next o g out).os[id]? =x.os[id]? :=λx=>by rw[p,qal _ _ _ i]
   split<;>split<;>first|exact h|(simp only[m];exact h)
theorem qp3 (S:Nat->Bool) (t:Nat): ∀(l:List Done) (k:Nat) (st:St),(∀(i j:Nat) (d e:Done),l[i]? =some d->l[j]? =some e->t∈d.2.2.iss->t∈e.2.2.cons->i<j) ->
  (t∈(ap S l k st).live↔(t∈st.live∨ ∃(j:Nat) (d:Done),l[j]? =some d∧S (k+j)=true∧t∈d.2.2.iss)∧ ¬ ∃(j:Nat) (d:Done),l[j]? =some d∧S (k+j)=true∧t∈d.2.2.cons)
 | [],k,st,_=>by simp[ap]
 |(o,g,out)::l,k,st,h=>by
  have ih:=qp3 S t l (k+1) (if S k then st.next o g out else st) (λi j d e hi u h1 h2=>by have:=h (i+1) (j+1) d e (by grind) (by grind) h1 h2;omega);simp only[ap];rw[ih];have m: ∀p:Done->Prop,(∃(j:Nat) (d:Done),((o,g,out)::l)[j]? =some d∧S (k+j)=true∧p d)↔(S k=true∧p (o,g,out))∨ ∃(j:Nat) (d:Done),l[j]? =some d∧S (k+1+j)=true∧p d:=by
   intro p;constructor
   ·rintro⟨j,d,u,hs,hp⟩;cases j with
    |zero=>grind
    |succ j=>grind
   ·rintro(⟨hs,hp⟩|⟨j,d,u,hs,hp⟩)
    ·exact⟨0,_,rfl,by omega,hp⟩
    ·exact⟨j+1,d,by grind,by grind,hp⟩
  rw[m (λd=>t∈d.2.2.iss),m (λd=>t∈d.2.2.cons)];by_cases hk:S k=true
  ·simp only[hk,if_true,true_and];have hm:t∈(st.next o g out).live↔(t∈st.live∧t∉out.cons)∨t∈out.iss:=jl;rw[hm];by_cases hi:t∈out.iss
   ·have hnc:t∉out.cons:=λhc=>by have:=h 0 0 _ _ rfl rfl hi hc;omega
    grind
   ·by_cases hc:t∈out.cons
    ·simp only[hi,hc,not_true_eq_false,and_false,or_false,false_or,true_or,not_true_eq_false,and_false,iff_false];rintro⟨⟨j,d,u,_,q⟩,hno⟩;have:=h (j+1) 0 d _ (by grind) rfl q hc;omega
    grind
  grind
theorem qhh {o:SOp} {x:Opd} {n:Nat} (hx:x∈o.opds) (hn:x= .t n):n∈o.opds.flatMap Opd.slot:=
 List.mem_flatMap.2 ⟨x,hx,by grind[Opd.slot]⟩
theorem q6f {fr d:Fr} {x:Opd} (h: ∀n,x= .t n->d.get n=fr.get n):x.get d=x.get fr∧x.ok d=x.ok fr:=by
 cases x with
 |t n=>simp[Opd.get,Opd.ok,h n rfl]
 |k s=>exact⟨rfl,rfl⟩
theorem vk {os d:List AObj} {id:Nat} (h:d[id]? =os[id]?):qi d id=qi os id:=by simp[qi,h]
theorem qtj {os d:List AObj} {id:Nat} (h:d[id]? =os[id]?):qf8 d id=qf8 os id:=by simp[qf8,h]
theorem qzg {n:Option Nat} {os e:List AObj} {s:ASlot} (h: ∀id,(wi n os s).rd=some id->e[id]? =os[id]?):wi n e s=wi n os s:=by
 cases s with
 |d p=>
  cases p with
  |ptr id off=>
   have i:e[id]? =os[id]? :=h id (by cases n<;>rfl)
   cases n<;>simp only[wi,vk i]
  | _=>rfl
 | _=>rfl
theorem qvz {n:Option Nat} {os e:List AObj} {p v:ASlot} (h: ∀id x,(w6 n os p v).wr=some (id,x) ->e[id]? =os[id]?):w6 n e p v=w6 n os p v:=by
 cases p with
 |d q=>
  cases q with
  |ptr id off=>
   cases n with
   |none=>
    have i:e[id]? =os[id]? :=h id _ rfl;grind[w6,storeAt,vk]
   |some k=>
    cases v with
    |d r=>
     cases r with
     |agg cs=>
      have i:e[id]? =os[id]? :=h id _ rfl;grind[w6,storeAt,vk]
     | _=>rfl
    | _=>rfl
  | _=>rfl
 | _=>rfl
theorem qhi {es:Nat} {os i:List AObj} {x:ASlot} (h: ∀id off e n,x≠ .d (.ref id off e n)):y7 es i x=y7 es os x:=by
 cases x with
 |d y=>cases y<;>first|rfl|grind
 | _=>rfl
theorem qp4 {es:Nat} {os i:List AObj} {x:ASlot} (h: ∀r id,qbm es os x=some r->r.rd=some id->i[id]? =os[id]?):qbm es i x=qbm es os x:=by
 cases x with
 |d y=>
  cases y with
  |ref id off e n=>
   by_cases m:e=es
   ·have l:i[id]? =os[id]? :=h ⟨qa5 os id off es n,some id,qsj os id off es n⟩ id (by simp only[qbm,if_pos m]) rfl;simp only[qbm,if_pos m,qa5,qsj,vk l]
   simp_all[qbm,if_neg]
  | _=>rfl
 | _=>rfl
theorem qst {u:Bool} {es bytes m:Nat} {os i:List AObj} {s x:ASlot} (h: ∀id,(jx u es bytes m os s x).rd=some id->i[id]? =os[id]?):jx u es bytes m i s x=jx u es bytes m os s x:=by
 by_cases hx: ∃id off e n,x= .d (.ref id off e n)
 ·obtain⟨id,off,e,n,rfl⟩:=hx;by_cases q:e=es
  ·have l: ∀os:List AObj,y7 es os (.d (.ref id off e n))=some ⟨qa5 os id off es n,some id,qsj os id off es n⟩:=λos=>by
    simp only[y7,ASlot.rows,qbm,if_pos q]
   unfold jx at h⊢;rw[l]at h;rw[l,l];cases u with
   |false=>
    cases hr:s.rows with
    |none=>rfl
    |some p=>
     simp only[hr]at h⊢;have o:i[id]? =os[id]? :=h id rfl;grind[qa5,qsj,vk]
   |true=>
    simp only at h⊢;unfold qah at h⊢;split at h<;>first|rfl|(have o:i[id]? =os[id]? :=h id rfl;grind[qa5,qsj,vk])
  ·have l: ∀os:List AObj,y7 es os (.d (.ref id off e n))=none:=λos=>by
    simp only[y7,ASlot.rows,qbm,if_neg q]
   grind[jx]
 grind[y7,qhi,id,jx]
theorem qzh {es:Nat} {os i:List AObj} {s x:ASlot} (h: ∀id,(w8 es os s x).rd=some id∨(∃o,(w8 es os s x).wr=some (id,o)) ->i[id]? =os[id]?):w8 es i s x=w8 es os s x:=by
 have hs: ∀(r:Src) (t:List AObj) (id off e n:Nat),y7 es os x=some r->s= .d (.ref id off e n) ->i[id]? =os[id]? :=λr t id off e n m C=>h id (.inr (by subst C;simp only[w8,m];exact⟨_,rfl⟩));by_cases v: ∃id off e n,x= .d (.ref id off e n)
 ·obtain⟨id,off,e,n,rfl⟩:=v;by_cases z:e=es
  ·have q: ∀os:List AObj,y7 es os (.d (.ref id off e n))=some ⟨qa5 os id off es n,some id,qsj os id off es n⟩:=λos=>by
    simp only[y7,ASlot.rows,qbm,if_pos z]
   unfold w8 at h⊢;rw[q]at h;rw[q,q];split at h
   ·rename_i r l off2 e2 n2 p;cases p;have m:i[id]? =os[id]? :=h id (.inl rfl);have C:i[l]? =os[l]? :=h l (.inr ⟨_,rfl⟩);grind[qa5,qsj,storeAt,vk,qtj]
   grind
  ·have q: ∀os:List AObj,y7 es os (.d (.ref id off e n))=none:=λos=>by
    simp only[y7,ASlot.rows,qbm,if_neg z]
   simp_all[w8]
 ·have u:y7 es i x=y7 es os x:=qhi λid off e n u=>v ⟨id,off,e,n,u⟩;cases p:y7 es os x with
  |none=>simp_all[w8]
  |some r=>
   cases s with
   |d y=>
    cases y with
    |ref id off e n=>
     have m:=hs r os id off e n p rfl;simp only[w8,u,p,storeAt,vk m,qtj m]
    | _=>simp_all[w8]
   | _=>simp_all[w8]
theorem q83 {es:Nat} {os i:List AObj} {x:ASlot} (h: ∀r id,y7 es os x=some r->r.rd=some id->i[id]? =os[id]?):y7 es i x=y7 es os x:=by
 by_cases hx: ∃id off e n,x= .d (.ref id off e n)
 ·obtain⟨id,off,e,n,rfl⟩:=hx;grind[y7,ASlot.rows,qp4]
 grind[qhi,id]
theorem qp5 {back es bytes:Nat} {os d:List AObj} {s x:ASlot} (hl:d.length=os.length) (h: ∀id,(jn back es bytes os s x).rd=some id∨(∃o,(jn back es bytes os s x).wr=some (id,o)) ->d[id]? =os[id]?):
  jn back es bytes d s x=jn back es bytes os s x:=by
 have e:y7 es d x=y7 es os x:=q83 λr id h1 h2=>h id (.inl (by grind[jn]));unfold jn at h⊢;rw[e];cases hr:y7 es os x with
 |none=>rfl
 |some r=>
  simp_all
theorem qsu {len es:Nat} {os e:List AObj} {x:ASlot} {lo hi mx:Option ASlot} (h: ∀id,(wk len es os x lo hi mx).rd=some id->e[id]? =os[id]?):wk len es e x lo hi mx=wk len es os x lo hi mx:=by
 cases x with
 |d y=>
  cases y with
  |ptr id off=>
   have i:e[id]? =os[id]? :=h id rfl;simp only[wk,vk i]
  | _=>rfl
 | _=>rfl
theorem qef {os d:List AObj} {id:Nat} (h:d[id]? =os[id]?):yl d id=yl os id∧ju d id=ju os id∧qo5 d id=qo5 os id:=by simp[yl,ju,qo5,h]
theorem qsv {kd:KD} {z:ASlot} {c:Bool} {os e:List AObj} {x k:ASlot} (h: ∀id,(km kd z c os x k).rd=some id->e[id]? =os[id]?):km kd z c e x k=km kd z c os x k:=by
 cases x with
 |d y=>
  cases y with
  |map id=>
   cases k with
   |d q=>
    obtain⟨e1,e2,e3⟩:=qef (h id rfl);grind[km]
   | _=>rfl
  |nilmap=>cases k<;>rfl
  | _=>rfl
 | _=>rfl
theorem ql1 {kd:KD} {os e:List AObj} {x k v:ASlot} (h: ∀id o,(zb kd os x k v).wr=some (id,o) ->e[id]? =os[id]?):zb kd e x k v=zb kd os x k v:=by
 cases x with
 |d y=>
  cases y with
  |map id=>
   cases k with
   |d q=>
    cases v with
    |d u=>
     obtain⟨e1,e2,e3⟩:=qef (h id _ rfl);grind[zb]
    | _=>rfl
   | _=>rfl
  | _=>rfl
 | _=>rfl
theorem qsw {kd:KD} {os e:List AObj} {x k:ASlot} (h: ∀id o,(vd kd os x k).wr=some (id,o) ->e[id]? =os[id]?):vd kd e x k=vd kd os x k:=by
 cases x with
 |d y=>
  cases y with
  |map id=>
   cases k with
   |d q=>
    obtain⟨e1,e2,e3⟩:=qef (h id _ rfl);grind[vd]
   | _=>rfl
  | _=>rfl
 | _=>rfl
theorem qzi {os e:List AObj} {x:ASlot} (h: ∀id,(qa6 os x).rd=some id->e[id]? =os[id]?):qa6 e x=qa6 os x:=by
 cases x with
 |d y=>
  cases y with
  |map id=>
   obtain⟨e1,e2,e3⟩:=qef (h id rfl);grind[qa6]
  | _=>rfl
 | _=>rfl
theorem qsx {back:Nat} {os e:List AObj} {x:ASlot} (hl:e.length=os.length) (h: ∀id,(jy back os x).rd=some id∨(∃o,(jy back os x).wr=some (id,o)) ->e[id]? =os[id]?):jy back e x=jy back os x:=by
 cases x with
 |d y=>
  cases y with
  |map id=>
   obtain⟨e1,e2,e3⟩:=qef (h id (.inl rfl));have h2:e[os.length-back]? =os[os.length-back]? :=h _ (.inr ⟨_,rfl⟩);grind[jy]
  |nilmap=>
   have h2:e[os.length-back]? =os[os.length-back]? :=h _ (.inr ⟨_,rfl⟩);grind[jy]
  | _=>rfl
 | _=>rfl
theorem xhv {tb:Nat} {o:SOp} {st st':St} (hf: ∀n,n∈o.opds.flatMap Opd.slot->st'.fr.get n=st.fr.get n) (I:st'.os.length=st.os.length)
  (m: ∀id,id∈(sem tb o st).touch->st'.os[id]? =st.os[id]?):sem tb o st'=sem tb o st:=by
 have d: ∀x∈o.opds,x.get st'.fr=x.get st.fr∧x.ok st'.fr=x.ok st.fr:=λx d=>q6f λn hn=>hf n (qhh d hn);cases o with
 |box back x=>
  grind[SOp.opds,sem,Out.touch,Out.wrs]
 |makeMap back=>
  grind[sem,Out.touch,Out.wrs]
 |lookup kd z c x k=>
  obtain⟨i,e⟩:=d x (by simp[SOp.opds]);obtain⟨E,C⟩:=d k (by simp[SOp.opds]);grind[km,qsv,id,sem,Out.touch]
 |mapUpdate kd x k v=>
  obtain⟨i,e⟩:=d x (by simp[SOp.opds]);obtain⟨E,C⟩:=d k (by simp[SOp.opds]);obtain⟨m1,m2⟩:=d v (by simp[SOp.opds]);have t:zb kd st'.os (x.get st.fr) (k.get st.fr) (v.get st.fr)=zb kd st.os (x.get st.fr) (k.get st.fr) (v.get st.fr):=ql1 λid o l=>m id (by
   grind[sem,Out.touch,Out.wrs])
  grind[sem]
 |delete kd x k=>
  obtain⟨i,e⟩:=d x (by simp[SOp.opds]);obtain⟨E,C⟩:=d k (by simp[SOp.opds]);have t:vd kd st'.os (x.get st.fr) (k.get st.fr)=vd kd st.os (x.get st.fr) (k.get st.fr):=qsw λid o l=>m id (by
   grind[sem,Out.touch,Out.wrs])
  grind[sem]
 |lenM x=>
  obtain⟨i,e⟩:=d x (by simp[SOp.opds]);grind[qa6,qzi,id,sem,Out.touch]
 |rangeM back x=>
  obtain⟨i,e⟩:=d x (by simp[SOp.opds]);have t:jy back st'.os (x.get st.fr)=jy back st.os (x.get st.fr):=qsx I λid l=>m id (by
   grind[sem,Out.touch,Out.wrs])
  grind[sem]
 |alloc back z=>
  grind[sem,Out.touch,Out.wrs]
 |makeSliceO back es bytes z x y=>
  grind[SOp.opds,sem,Out.touch,Out.wrs]
 |load n x=>
  obtain⟨i,e⟩:=d x (by simp[SOp.opds]);grind[wi,qzg,id,sem,Out.touch]
 |store n x v=>
  obtain⟨i,e⟩:=d x (by simp[SOp.opds]);obtain⟨E,C⟩:=d v (by simp[SOp.opds]);have t:w6 n st'.os (x.get st.fr) (v.get st.fr)=w6 n st.os (x.get st.fr) (v.get st.fr):=qvz λid y l=>m id (by
   grind[sem,Out.touch,Out.wrs])
  grind[sem]
 |build z ps=>
  have i: ∀p∈ps,p.2.2.get st'.fr=p.2.2.get st.fr∧p.2.2.ok st'.fr=p.2.2.ok st.fr:=λp hp=>d _ (by simp only[SOp.opds,List.mem_map];grind);have e:(ps.map λp=>(p.1,(p.2.2.get st'.fr).dCells))=ps.map λp=>(p.1,(p.2.2.get st.fr).dCells):=List.map_congr_left λp hp=>by grind
  simp only[sem,e];congr 1;grind
 |buildSlice u es len z ps=>
  have i: ∀p∈ps,p.2.2.get st'.fr=p.2.2.get st.fr∧p.2.2.ok st'.fr=p.2.2.ok st.fr:=λp hp=>d _ (by simp only[SOp.opds,List.mem_map];grind);have e:(ps.map λp=>(p.1,(p.2.2.get st'.fr).dCells))=ps.map λp=>(p.1,(p.2.2.get st.fr).dCells):=List.map_congr_left λp hp=>by grind
  simp only[sem,e];congr 1;grind
 |mkFunc fn a b=>
  have ha: ∀x∈a,x.get st'.fr=x.get st.fr∧x.ok st'.fr=x.ok st.fr:=λx h=>d x (by grind[SOp.opds]);have hb: ∀x∈b,x.get st'.fr=x.get st.fr∧x.ok st'.fr=x.ok st.fr:=λx h=>d x (by grind[SOp.opds]);have i:(a.map λx=>(x.get st'.fr).cellD)=a.map λx=>(x.get st.fr).cellD:=List.map_congr_left λx h=>by grind
  have e:(b.map λx=>(x.get st'.fr).cellD)=b.map λx=>(x.get st.fr).cellD:=List.map_congr_left λx h=>by grind
  simp only[sem,i,e];simp_all
 |slice es x lo hi mx=>
  obtain⟨i,e⟩:=d x (by simp[SOp.opds]);have F: ∀y∈lo,y.get st'.fr=y.get st.fr∧y.ok st'.fr=y.ok st.fr:=λy q=>d y (by simp_all[SOp.opds,List.mem_cons,List.mem_append,Option.mem_toList]);have G: ∀y∈hi,y.get st'.fr=y.get st.fr∧y.ok st'.fr=y.ok st.fr:=λy q=>d y (by simp_all[SOp.opds,List.mem_cons,List.mem_append,Option.mem_toList]);have om: ∀y∈mx,y.get st'.fr=y.get st.fr∧y.ok st'.fr=y.ok st.fr:=λy q=>d y (by simp_all[SOp.opds,List.mem_cons,List.mem_append,Option.mem_toList]);have M:lo.map (·.get st'.fr)=lo.map (·.get st.fr):=by cases lo with|none=>rfl|some y=>grind
  have J:hi.map (·.get st'.fr)=hi.map (·.get st.fr):=by cases hi with|none=>rfl|some y=>grind
  have e3:mx.map (·.get st'.fr)=mx.map (·.get st.fr):=by cases mx with|none=>rfl|some y=>grind
  have f1:(∀y∈lo,y.ok st'.fr=true)=(∀y∈lo,y.ok st.fr=true):=by grind
  have f2:(∀y∈hi,y.ok st'.fr=true)=(∀y∈hi,y.ok st.fr=true):=by grind
  have f3:(∀y∈mx,y.ok st'.fr=true)=(∀y∈mx,y.ok st.fr=true):=by grind
  grind[sem]
 |sliceA len es x lo hi mx=>
  obtain⟨i,e⟩:=d x (by simp[SOp.opds]);have F: ∀y∈lo,y.get st'.fr=y.get st.fr∧y.ok st'.fr=y.ok st.fr:=λy q=>d y (by simp_all[SOp.opds,List.mem_cons,List.mem_append,Option.mem_toList]);have G: ∀y∈hi,y.get st'.fr=y.get st.fr∧y.ok st'.fr=y.ok st.fr:=λy q=>d y (by simp_all[SOp.opds,List.mem_cons,List.mem_append,Option.mem_toList]);have om: ∀y∈mx,y.get st'.fr=y.get st.fr∧y.ok st'.fr=y.ok st.fr:=λy q=>d y (by simp_all[SOp.opds,List.mem_cons,List.mem_append,Option.mem_toList]);have M:lo.map (·.get st'.fr)=lo.map (·.get st.fr):=by cases lo with|none=>rfl|some y=>grind
  have J:hi.map (·.get st'.fr)=hi.map (·.get st.fr):=by cases hi with|none=>rfl|some y=>grind
  have e3:mx.map (·.get st'.fr)=mx.map (·.get st.fr):=by cases mx with|none=>rfl|some y=>grind
  have f1:(∀y∈lo,y.ok st'.fr=true)=(∀y∈lo,y.ok st.fr=true):=by grind
  have f2:(∀y∈hi,y.ok st'.fr=true)=(∀y∈hi,y.ok st.fr=true):=by grind
  have f3:(∀y∈mx,y.ok st'.fr=true)=(∀y∈mx,y.ok st.fr=true):=by grind
  have t:wk len es st'.os (x.get st.fr) (lo.map (·.get st.fr)) (hi.map (·.get st.fr)) (mx.map (·.get st.fr))=wk len es st.os (x.get st.fr) (lo.map (·.get st.fr)) (hi.map (·.get st.fr)) (mx.map (·.get st.fr)):=
   qsu λid l=>m id (by grind[sem,Out.touch])
  grind[sem]
 |append u es bytes x y=>
  obtain⟨i,e⟩:=d x (by simp[SOp.opds]);obtain⟨E,C⟩:=d y (by simp[SOp.opds]);have t:jx u es bytes tb st'.os (x.get st.fr) (y.get st.fr)=jx u es bytes tb st.os (x.get st.fr) (y.get st.fr):=qst λid l=>m id (by
   grind[sem,Out.touch])
  grind[sem]
 |appendO back es bytes x y=>
  obtain⟨i,e⟩:=d x (by simp[SOp.opds]);obtain⟨E,C⟩:=d y (by simp[SOp.opds]);have t:jn back es bytes st'.os (x.get st.fr) (y.get st.fr)=jn back es bytes st.os (x.get st.fr) (y.get st.fr):=qp5 I λid l=>m id (by
   grind[sem,Out.touch,Out.wrs])
  grind[sem]
 |copy es x y=>
  obtain⟨i,e⟩:=d x (by simp[SOp.opds]);obtain⟨E,C⟩:=d y (by simp[SOp.opds]);have t:w8 es st'.os (x.get st.fr) (y.get st.fr)=w8 es st.os (x.get st.fr) (y.get st.fr):=qzh λid l=>m id (by
   grind[sem,Out.touch,Out.wrs])
  grind[sem]
 |b2s x=>
  obtain⟨i,e⟩:=d x (by simp[SOp.opds]);grind[sem,qbm,qp4,id,Out.touch]
 |sliceS x lo hi=>
  obtain⟨i,e⟩:=d x (by simp[SOp.opds]);have F: ∀y∈lo,y.get st'.fr=y.get st.fr∧y.ok st'.fr=y.ok st.fr:=λy q=>d y (by simp_all[SOp.opds,List.mem_cons,List.mem_append,Option.mem_toList]);have G: ∀y∈hi,y.get st'.fr=y.get st.fr∧y.ok st'.fr=y.ok st.fr:=λy q=>d y (by simp_all[SOp.opds,List.mem_cons,List.mem_append,Option.mem_toList]);have M:lo.map (·.get st'.fr)=lo.map (·.get st.fr):=by cases lo with|none=>rfl|some y=>grind
  have J:hi.map (·.get st'.fr)=hi.map (·.get st.fr):=by cases hi with|none=>rfl|some y=>grind
  have f1:(∀y∈lo,y.ok st'.fr=true)=(∀y∈lo,y.ok st.fr=true):=by grind
  have f2:(∀y∈hi,y.ok st'.fr=true)=(∀y∈hi,y.ok st.fr=true):=by grind
  grind[sem]
 |pick c x y=>
  grind[SOp.opds,sem]
 |bin _ x y|eqb _ x y|eqAgg _ _ x y|makeSlice _ _ _ _ x y|iaddr _ x y|iaddrA _ _ x y|indexS x y|indexA _ _ _ x y|minmax _ x y=>
  grind[SOp.opds,sem]
 |mov x|nilCheck x|eqnil _ _ x|not x|neg x|conv _ x|i2s x|s2b x|faddr _ x|field _ _ x|extract _ x|len x|lenS x|asStr x|mkIface _ x|assertT _ _ x|s2ap _ x=>
  grind[SOp.opds,sem]
 |eqnilS _ _|nextM _|entryM _|appendR _ _ _ _ _|call _ _|callT _ _=>rfl
section
variable {P:Program} {mu:List Nat} {N tb:Nat} {T:Nat→Prop} {g:Ghost} {w:World} {st:St} {a:Act} {ops:Array Oper}
theorem qv0 {live live':List Nat} (h: ∀t,t∈live'↔t∈live) {v:Value} {s:ASlot} (d:RC g w live v s):RC g w live' v s:=by
 cases s with
 |own t es rows=>exact⟨d.1,λe=>d.2 ((h t).1 e)⟩
 |uni t es rows=>exact⟨d.1,λe=>d.2 ((h t).1 e)⟩
 | _=>exact d
theorem xn6 {live live':List Nat} (h: ∀t,t∈live'↔t∈live) {v:Value} {s:ASlot} (d:RS g w live v s):RS g w live' v s:=by
 cases s with
 |tup l=>obtain⟨vs,h1,h2,h3⟩:=d;exact⟨vs,h1,h2,λi u s hu hs=>qv0 h (h3 i u s hu hs)⟩
 | _=>exact jk (qv0 h (qac d (by simp)))
structure St.Like (st st':St):Prop where
 fr: ∀k:Nat,st'.fr.get k=st.fr.get k
 os: ∀id:Nat,st'.os[id]? =st.os[id]?
 live: ∀t:Nat,t∈st'.live↔t∈st.live
theorem SR.like {st':St} (hs:SR N T g w st a) (h:st.Like st'):SR N T g w st' a:=by
 refine⟨hs.dom,hs.defers,hs.size,λk v s q=> ?_,λid o d hn=> ?_,hs.inj,λb id u=> ?_,⟨λt ht=>hs.wf.live t ((h.live t).1 ht),λk s q=>hs.wf.fr k s (by rw[<- h.fr];exact q),λid o d=>hs.wf.os id o (by rw[<- h.os];exact d)⟩⟩
 ·rw[h.fr]at q;obtain⟨h1,h2⟩:=hs.slots k v s q;exact⟨λl=>xn6 h.live (h1 l),h2⟩
 ·rw[h.os]at d;rcases hs.objs id o d hn with⟨b,u,p⟩|l;case inr=>exact .inr l
  refine .inl ⟨b,u,?_⟩;cases o with
  |none=>exact p.elim
  |row cells=>
   obtain⟨c,e,q1,q2,q3⟩:=p;exact⟨c,e,q1,q2,λi s hi=>by obtain⟨v,v1,v2,v3⟩:=q3 i s hi;exact⟨v,v1,v2,qv0 h.live v3⟩⟩
  |map es clock=>exact p
  |iter m since seen last=>exact IterIs.mono (R:=λv=>RC g w st.live v m) (R':=λv=>RC g w st'.live v m) p rfl (λo l=>qv0 h.live l)
 ·obtain⟨o,d,hn⟩:=hs.ids b id u;exact⟨o,by rw[h.os];exact d,hn⟩
theorem qp6 {κ:List Nat} {os d:List AObj}: ∀{ι:List Nat} {fo:List AObj},qdi κ os ι fo->(∀id∈ι,d[id]? =os[id]?) ->qdi κ d ι fo
 |ι,[],_,_=>by cases ι<;>trivial
 | [],_::_,h,_=>h.elim
 |id::ι,o::fo,h,hs=>by
  obtain⟨⟨c,h1,h2⟩,h3⟩:=h;exact⟨⟨c,by rw[hs id jA7];exact h1,h2⟩,qp6 h3 λi hi=>hs i (jA9 _ hi)⟩
theorem xhw {o:SOper} {M:Bool} {out:Out} {st':St} (h:AOne P tb o st M out) (X: ∀n∈o.looks,st'.fr.get n=st.fr.get n) (hl:st'.os.length=st.os.length)
  (R: ∀id,id∈out.touch->st'.os[id]? =st.os[id]?) (hc:M=true-> ∀t∈out.cons,t∈st'.live):AOne P tb o st' M out:=by
 obtain⟨E,h2,u⟩:=h;have d: ∀n,n∈o.op.opds.flatMap Opd.slot->st'.fr.get n=st.fr.get n:=λn hn=>X n (by unfold SOper.looks;exact jBb _ hn);refine⟨?_,h2,?_⟩
 ·cases i:o.guard with
  |none=>rw[i]at E;exact E
  |some p=>
   obtain⟨k,b⟩:=p;rw[i]at E;have:=X k (by unfold SOper.looks;rw[i];simp);simp only[gv,this]at E⊢;exact E
 ·cases hop:o.op with
  |call f args=>
   rw[hop]at u d;obtain⟨k,as,fa,r,fo,fo',ι,O,rfl,z,hok⟩:=u;have F: ∀x∈(SOp.call f args).opds,x.get st'.fr=x.get st.fr∧x.ok st'.fr=x.ok st.fr:=λx F=>q6f λn hn=>d n (qhh F hn);obtain⟨f1,f2⟩:=F f (by simp[SOp.opds]);have Y: ∀x∈args,x.get st'.fr=x.get st.fr∧x.ok st'.fr=x.ok st.fr:=λx I=>F x (by simp only[SOp.opds,jAv];exact .inr I);have I:(args.map λx=>x.get st'.fr)=args.map λx=>x.get st.fr:=jC4 λx h=>(Y x h).1;refine⟨k,as,fa,r,fo,fo',ι,O,rfl,z,λi=> ?_⟩;have q:=hok i;have C:qi4 st'.fr f args=qi4 st.fr f args:=by unfold qi4;rw[f1,I]
   have l: ∀id∈ι,st'.os[id]? =st.os[id]? :=λid e=>R id (by
    cases O with
    |true=>exact jBe _ (jBe _ e)
    |false=>
    simp only[Out.touch,Out.wrs,zr,jAt,jAo,cond_false];left;obtain⟨j,U⟩:=jB0.1 e;have J:j<fo'.length:=by rw[<- q.objs.len];exact(jAd.1 U).1
    refine⟨(id,(fo'.map (AObj.ren ι))[j]'(by simpa using J)),?_,rfl⟩;simp only[Option.toList];right;refine jB0.2 ⟨j,?_⟩;rw[List.getElem?_zip_eq_some];exact⟨U,jAa _⟩)
   refine⟨by rw[C];exact q.callee,by rw[f2];exact q.ok,?_,q.contract,q.body,⟨q.fits.all,q.fits.inK,λp hp=> ?_,q.fits.nd1⟩,⟨q.objs.nd,q.objs.len,q.objs.le,qp6 q.objs.olds l,λid e=>by rw[l id (jCe e)];exact q.objs.news id e,q.objs.inK⟩,q.noT,q.few,λhq p hp=>by rw[l p.1 (List.of_mem_zip hp).1];exact q.quiet hq p hp⟩
   ·rw[jAx];intro x v;rw[(Y x v).2];exact jAx.1 q.oks x v
   ·exact hc i p.1 (by simp only[zr,jAo];exact⟨p,hp,rfl⟩)
  |eqnilS neg x=>rw[hop]at u;exact u
  | _=>
   rw[hop]at u d;obtain⟨rfl,G⟩:=u;have m:=xhv (tb:=tb) (st':=st') d hl R;simp only;refine⟨m.symm,λi=>⟨(G i).1,hc i⟩⟩
def qbb (l:List Oper) (j:Nat):List Nat:=match l[j]?with|some o=>(o.after.toList.filter (Region.binds .any)).map (·.on)|none=> []
theorem qtk: ∀(l:List Oper) (d:List (List Nat)) (pre:List Oper),d.length=pre.length->
  (∀j,j<pre.length->d.getD j []=((qbb pre j).flatMap λe=>e::(d.take j).getD e []).eraseDups) ->
  let r:=l.foldl (init:=d) λd o=>d++ [((o.after.toList.filter (Region.binds .any)).flatMap λe=>e.on::d.getD e.on []).eraseDups]
  r.length=(pre++l).length∧ ∀j,j<(pre++l).length->r.getD j []=((qbb (pre++l) j).flatMap λe=>e::(r.take j).getD e []).eraseDups
 | [],d,pre,hl,h=>by simpa[hl]using h
 |o::l,d,pre,hl,h=>by
  have ih:=qtk l (d++ [((o.after.toList.filter (Region.binds .any)).flatMap λe=>e.on::d.getD e.on []).eraseDups]) (pre++ [o]) (by simp[hl]) (λj hj=>by
   by_cases i:j<pre.length
   ·have h1:=h j i;have t:(d++ [((o.after.toList.filter (Region.binds .any)).flatMap λe=>e.on::d.getD e.on []).eraseDups]).getD j []=d.getD j []:=by
     simp only[jA0];rw[jA3 (by omega)]
    have q:qbb (pre++ [o]) j=qbb pre j:=by
     unfold qbb;rw[jA3 i]
    have p:(d++ [((o.after.toList.filter (Region.binds .any)).flatMap λe=>e.on::d.getD e.on []).eraseDups]).take j=d.take j:=by
     rw[jBq (by omega)]
    rw[t,q,p];exact h1
   ·have m:j=pre.length:=by simp at hj;omega
    subst m;have t:(d++ [((o.after.toList.filter (Region.binds .any)).flatMap λe=>e.on::d.getD e.on []).eraseDups]).getD pre.length []=((o.after.toList.filter (Region.binds .any)).flatMap λe=>e.on::d.getD e.on []).eraseDups:=by
     simp[jA0,<- hl]
    have q:qbb (pre++ [o]) pre.length=(o.after.toList.filter (Region.binds .any)).map (·.on):=by
     unfold qbb;simp
    have p:(d++ [((o.after.toList.filter (Region.binds .any)).flatMap λe=>e.on::d.getD e.on []).eraseDups]).take pre.length=d:=by
     rw[<- hl,List.take_left'];rfl
    rw[t,q,p,List.flatMap_map])
  simpa[jAj]using ih
theorem xhx (l:List Oper):(qn6 l).length=l.length∧ ∀j,j<l.length->(qn6 l).getD j []=((qbb l j).flatMap λe=>e::((qn6 l).take j).getD e []).eraseDups:=by
 have:=qtk l [] [] rfl (by simp);simpa[qn6]using this
def xca (l:List Oper) (S:Nat->Bool):Prop:= ∀j,j<l.length->S j=true-> ∀e∈qbb l j,S e=true
theorem q6g {l:List Oper} {S:Nat->Bool} (p: ∀j,j<l.length-> ∀e∈qbb l j,e<j) (hc:xca l S):
  ∀(n j:Nat),j<n->j<l.length->(∀e∈qbb l j,S e=true) -> ∀i∈(qn6 l).getD j [],S i=true
 |0,j,h,_,_=>by omega
 |n+1,j,hjn,hj,hd=>by
  intro i hi;rw[(xhx l).2 j hj,List.mem_eraseDups,jBi]at hi;obtain⟨e,o,d⟩:=hi;have m:=p j hj e o;rcases jAv.1 d with rfl|d
  ·exact hd i o
  ·have ht:((qn6 l).take j).getD e []=(qn6 l).getD e []:=by
    simp only[jA0];rw[List.getElem?_take_of_lt m]
   rw[ht]at d;exact q6g p hc n e (by omega) (by omega) (hc e (by omega) (hd e o)) i d
theorem qsy {l:List Oper} (h:qo7 l=true): ∀j,j<l.length-> ∀e∈qbb l j,e<j:=by
 intro j i e d;unfold qo7 at h;rw[jAx]at h;have hm:(l[j],j)∈l.zipIdx:=by
  rw[List.mem_zipIdx_iff_getElem?];simp[i]
 have:=h _ hm;unfold qbb at d;rw[jAa i]at d;simp only[jAo]at d;obtain⟨x,hx,rfl⟩:=d;exact of_decide_eq_true (jAx.1 this x hx)
end
theorem qjg {P:Program} {mu:List Nat} {N:Nat} {ops:Array Oper}: ∀{l:List Oper} {sops:List SOper},qfd P mu N ops l=some sops->l.length=sops.length∧
  ∀(i:Nat) (x:Oper) (y:SOper),l[i]? =some x->sops[i]? =some y-> ∃back,qdm P mu ops N back x=some y
 | [],sops,h=>by simp[qfd]at h;subst h;simp
 |o::l,sops,h=>by
  simp only[qfd]at h;split at h
  ·rename_i y r h1 h2;cases h;obtain⟨k1,k2⟩:=qjg h2;refine⟨by simp[k1],λi x z e d=> ?_⟩;cases i with
   |zero=>simp at e d;subst e d;exact⟨_,h1⟩
   |succ i=>exact k2 i x z (by simpa using e) (by simpa using d)
  ·cases h
theorem qam {P:Program}: ∀{l:List Done} {k:Nat} {st:St},xb9 P l k st-> ∀(i:Nat) (d:Done),l[i]? =some d->
  AOne P (16*(st.nt+(k+i))) d.1 (ap (λj=>decide (j<k+i)) l k st) d.2.1 d.2.2
 | [],k,st,_,i,d,h=>by simp at h
 |(o,gb,out)::l,k,st,h,i,d,hd=>by
  obtain⟨h1,h2⟩:=h;have e: ∀(l:List Done) (k' m:Nat) (x:St),m<=k'->ap (λj=>decide (j<m)) l k' x=x:=by
   intro l;induction l with
   |nil=>intro k' m x _;rfl
   |cons q l ih=>
    intro k' m x hm;obtain⟨o',g',out'⟩:=q;simp only[ap];rw[if_neg (by simp;omega)];exact ih (k'+1) m x (by omega)
  cases i with
  |zero=>
   simp at hd;subst hd;rw[Nat.add_zero,e _ k k st (jAh _)];exact h1
  |succ i=>
   have ih:=qam h2 i d (by simpa using hd);rw[qbh]at ih;simp only[ap];rw[if_pos (by simp)];rw[show k+(i+1)=k+1+i by omega];exact ih
theorem qko {P:Program} {tb:Nat} {o:SOper} {gb:Bool} {out:Out} {st:St} (h:AOne P tb o st gb out): ∀t∈out.iss,tb<=t∧t<tb+16:=by
 obtain⟨_,_,e⟩:=h;intro t d;cases hop:o.op with
 |call f args=>
  rw[hop]at e;obtain⟨k,as,fa,r,fo,fo',ι,qb,rfl,hfew,_⟩:=e;have:=qte d;omega
 |eqnilS neg x=>
  rw[hop]at e;obtain⟨b,rfl,_⟩:=e;simp at d
 |append u es bytes s x=>
  rw[hop]at e;obtain⟨rfl,_⟩:=e;simp only[sem,jx]at d;split at d
  ·split at d
   ·unfold qah at d;split at d<;>first|(simp[Out.bad]at d;done)|(simp at d;omega)
   ·split at d
    ·simp at d;omega
    ·simp[Out.bad]at d
  ·simp[Out.bad]at d
 |copy es s x=>
  rw[hop]at e;obtain⟨rfl,_⟩:=e;simp only[sem,w8]at d;split at d<;>simp[Out.bad]at d
 |makeSliceO back es bytes z l c=>
  rw[hop]at e;obtain⟨rfl,_⟩:=e;simp only[sem]at d;split at d<;>simp[Out.bad]at d
 |appendO back es bytes s x=>
  rw[hop]at e;obtain⟨rfl,_⟩:=e;simp only[sem,jn]at d;split at d<;>simp[Out.bad]at d
 |sliceA len es x lo hi mx=>
  rw[hop]at e;obtain⟨rfl,_⟩:=e;simp only[sem,wk]at d;split at d<;>simp[Out.bad]at d
 |b2s x=>
  rw[hop]at e;obtain⟨rfl,_⟩:=e;simp only[sem]at d;split at d
  ·simp at d
  ·split at d<;>simp[Out.bad]at d
 |iaddr es x i=>
  rw[hop]at e;obtain⟨rfl,_⟩:=e;simp only[sem]at d;split at d
  ·simp at d
  ·split at d<;>simp[Out.bad]at d
  ·simp[Out.bad]at d
 |buildSlice u es len z ps=>
  rw[hop]at e;obtain⟨rfl,_⟩:=e;simp only[sem]at d;cases u<;>simp at d
  omega
 |makeSlice u es bytes z l c=>
  rw[hop]at e;obtain⟨rfl,_⟩:=e;simp only[sem]at d;split at d
  ·simp at d;omega
  ·simp[Out.bad]at d
 |load n x=>
  rw[hop]at e;obtain⟨rfl,_⟩:=e;simp only[sem,wi]at d;split at d
  ·split at d<;>simp at d
  ·split at d<;>simp at d
  ·simp[Out.bad]at d
 |store n x v=>
  rw[hop]at e;obtain⟨rfl,_⟩:=e;simp only[sem,w6]at d;split at d
  ·split at d
   ·simp at d
   ·split at d<;>simp[Out.bad]at d
  ·simp[Out.bad]at d
 |bin op x y=>
  rw[hop]at e;obtain⟨rfl,_⟩:=e;simp only[sem,binS]at d;split at d
  ·split at d<;>simp at d
  ·simp at d
  ·simp[Out.bad]at d
 |slice es x lo hi mx=>
  rw[hop]at e;obtain⟨rfl,_⟩:=e;simp only[sem,qdl]at d;split at d
  ·split at d<;>simp at d
  ·split at d<;>simp[Out.bad]at d
 |sliceS x lo hi=>
  rw[hop]at e;obtain⟨rfl,_⟩:=e;simp only[sem,qai]at d;split at d<;>simp[Out.bad]at d
 |field n off x=>
  rw[hop]at e;obtain⟨rfl,_⟩:=e;simp only[sem]at d;split at d
  ·split at d<;>simp at d
  ·simp[Out.bad]at d
 |indexA len es n x i=>
  rw[hop]at e;obtain⟨rfl,_⟩:=e;simp only[sem]at d;split at d
  ·split at d<;>simp at d
  ·simp[Out.bad]at d
 | _=>
  rw[hop]at e;obtain⟨rfl,_⟩:=e;simp only[sem,km,zb,vd,qa6,jy,qaj]at d;first
   |(simp at d;done)
   |(simp[Out.bad]at d;done)
   |(split at d<;>simp[Out.bad]at d)
section
variable {P:Program} {mu:List Nat} {N:Nat} {g:Ghost} {w:World} {st:St} {a:Act} {ops:Array Oper}
theorem qkp {tb:Nat} {o:SOper} {m:Bool} {out:Out} (h:AOne P tb o st m out): ∀t∈out.cons,t∈st.live∧m=true:=by
 obtain⟨_,i,e⟩:=h;intro t d;have l:m=true:=by
  rcases i with i|⟨_,i,_⟩
  ·exact i
  ·rw[i]at d;cases d
 refine⟨?_,l⟩;cases hop:o.op with
 |call f args=>
  rw[hop]at e;obtain⟨k,as,fa,r,fo,fo',ι,qb,rfl,_,hok⟩:=e;simp only[zr,jAo]at d;obtain⟨p,hp,rfl⟩:=d;exact(hok l).fits.lv p hp
 |eqnilS neg x=>
  rw[hop]at e;obtain⟨b,rfl,_⟩:=e;simp at d
 | _=>rw[hop]at e;exact(e.2 l).2 t d
end
theorem q6h (S S':Nat->Bool): ∀(l:List Done) (k:Nat) (st:St),(∀j,j<l.length->S (k+j)=S' (k+j)) ->ap S l k st=ap S' l k st
 | [],_,_,_=>rfl
 |(o,g,out)::l,k,st,h=>by
  have d:=h 0 (by simp);rw[Nat.add_zero]at d;simp only[ap,d];exact q6h S S' l (k+1) _ (λj hj=>by rw[show k+1+j=k+(j+1) by omega];exact h (j+1) (by simp;omega))
theorem qv1 (S:Nat->Bool): ∀(l:List Done) (k:Nat) (st:St),(∀j,j<l.length->S (k+j)=false) ->ap S l k st=st
 | [],_,_,_=>rfl
 |(o,g,out)::l,k,st,h=>by
  have d:=h 0 (by simp);rw[Nat.add_zero]at d;simp only[ap,d,jAw,if_false];exact qv1 S l (k+1) st (λj hj=>by rw[show k+1+j=k+(j+1) by omega];exact h (j+1) (by simp;omega))
theorem q3j: ∀(l:List Done) (k i:Nat) (st:St) (d:Done),l[i]? =some d->
  ap (λj=>decide (j<k+i+1)) l k st=(ap (λj=>decide (j<k+i)) l k st).next d.1 d.2.1 d.2.2
 | [],k,i,st,d,h=>by simp at h
 |(o,g,out)::l,k,i,st,d,h=>by
  cases i with
  |zero=>
   simp at h;subst h;simp only[ap,Nat.add_zero];rw[if_pos (by simp),if_neg (by simp),qv1 _ l (k+1) _ (λj _=>by simp only[decide_eq_false_iff_not];omega),qv1 _ l (k+1) _ (λj _=>by simp only[decide_eq_false_iff_not];omega)]
  |succ i=>
   have ih:=q3j l (k+1) i (st.next o g out) d (by simpa using h);simp only[ap];rw[if_pos (by simp only[decide_eq_true_eq];omega),if_pos (by simp only[decide_eq_true_eq];omega)];rw[show k+(i+1)+1=k+1+i+1 by omega,show k+(i+1)=k+1+i by omega];exact ih
theorem qp7 (S:Nat->Bool) (t:Nat): ∀(l:List Done) (k:Nat) (st:St),t∈(ap S l k st).live->t∈st.live∨ ∃(j:Nat) (d:Done),l[j]? =some d∧S (k+j)=true∧t∈d.2.2.iss
 | [],_,_,h=> .inl h
 |(o,g,out)::l,k,st,h=>by
  simp only[ap]at h;rcases qp7 S t l (k+1) _ h with i|⟨j,d,hj,hs,hi⟩
  ·split at i
   ·rename_i hk;rcases jl.1 (show t∈qs st.live out from i)with⟨e,_⟩|e
    ·exact .inl e
    ·exact .inr ⟨0,_,rfl,by simpa using hk,e⟩
   ·exact .inl i
  ·exact .inr ⟨j+1,d,by simpa using hj,by rw[show k+(j+1)=k+1+j by omega];exact hs,hi⟩
section
variable {P:Program} {mu:List Nat} {N:Nat} {g:Ghost} {w:World} {st:St} {a:Act} {ops:Array Oper}
theorem q84 {es bytes tk:Nat} {r:Src} {s:ASlot}:(qah es bytes tk r s).wr=none:=by unfold qah;split<;>rfl
theorem qv2 {tb:Nat} {o:SOper} {gb:Bool} {out:Out} (h:AOne P tb o st gb out) {id:Nat} (d:id∈out.wrs.map (·.1)):o.op.memW=true:=by
 obtain⟨_,_,e⟩:=h;cases hop:o.op with
 |call f args=>rfl
 |eqnilS neg x=>rw[hop]at e;obtain⟨_,rfl,_⟩:=e;simp[Out.wrs]at d
 |store _ _ _=>rfl
 |box _ _=>rfl
 |makeMap _=>rfl
 |mapUpdate _ _ _ _=>rfl
 |delete _ _ _=>rfl
 |rangeM _ _=>rfl
 |alloc _ _=>rfl
 |copy _ _ _=>rfl
 |appendO _ _ _ _ _=>rfl
 |makeSliceO _ _ _ _ _ _=>rfl
 |append u es bytes s x=>
  rw[hop]at e;obtain⟨rfl,_⟩:=e;unfold Out.wrs at d;rw[xb6]at d;simp only[sem,jx]at d;split at d
  ·split at d
   ·rw[q84]at d;simp at d
   ·split at d<;>simp[Out.bad]at d
  ·simp[Out.bad]at d
 | _=>
  rw[hop]at e;obtain⟨rfl,_⟩:=e;unfold Out.wrs at d;rw[xb6]at d;simp only[sem,wi,binS,qdl,qai,wk,km,qa6,qaj]at d;first
   |(simp at d;done)
   |(simp[Out.bad]at d;done)
   |(split at d<;>first|(simp[Out.bad]at d;done)|(split at d<;>simp[Out.bad]at d))
theorem xcb {tb:Nat} {o:SOper} {gb:Bool} {out:Out} (h:AOne P tb o st gb out) {id:Nat} (d:id∈out.touch):o.op.memW=true∨o.op.memR=true:=by
 unfold Out.touch at d;rcases jAt.1 d with hw|d
 ·exact .inl (qv2 h hw)
 ·obtain⟨_,_,e⟩:=h;cases hop:o.op with
  |call f args=>exact .inl rfl
  |eqnilS neg x=>rw[hop]at e;obtain⟨_,rfl,_⟩:=e;simp at d
  |load _ _=>exact .inr rfl
  |store _ _ _=>exact .inl rfl
  |box _ _=>exact .inl rfl
  |makeMap _=>exact .inl rfl
  |mapUpdate _ _ _ _=>exact .inl rfl
  |delete _ _ _=>exact .inl rfl
  |rangeM _ _=>exact .inl rfl
  |lookup _ _ _ _ _=>exact .inr rfl
  |lenM _=>exact .inr rfl
  |alloc _ _=>exact .inl rfl
  |copy _ _ _=>exact .inl rfl
  |appendO _ _ _ _ _=>exact .inl rfl
  |makeSliceO _ _ _ _ _ _=>exact .inl rfl
  |append _ _ _ _ _=>exact .inr rfl
  |b2s _=>exact .inr rfl
  |sliceA _ _ _ _ _ _=>exact .inr rfl
  | _=>
   rw[hop]at e;obtain⟨rfl,_⟩:=e;simp only[sem,binS,qdl,qai,qaj]at d;first
    |(simp at d;done)
    |(simp[Out.bad]at d;done)
    |(split at d<;>first|(simp[Out.bad]at d;done)|(split at d<;>simp[Out.bad]at d))
theorem q85 {tb:Nat} {o:SOper} {out:Out} (h:AOne P tb o st true out): ∀t∈out.cons,∃x∈o.op.opds,x.ok st.fr=true∧t∈(x.get st.fr).toks:=by
 obtain⟨_,_,h3⟩:=h
 intro t ht
 cases hop:o.op with
 |call f args=>
  rw[hop]at h3
  obtain⟨k,as,fa,r,fo,fo',ι,qb,rfl,_,hok⟩:=h3
  have hok:=hok rfl
  simp only[zr,jAo]at ht
  obtain⟨p,hp,rfl⟩:=ht
  have hcal:=hok.callee
  unfold qi4 at hcal
  split at hcal
  ·rename_i k' first caps hf
   simp only[jA8,jCx]at hcal
   obtain⟨rfl,rfl⟩:=hcal
   have key: ∀(l r:List ASlot) (p:Nat×Nat),p∈x8 l r-> ∃s∈l,p.1∈qbt s:=by
    intro l
    induction l with
    |nil=>intro r p hp;simp[x8]at hp
    |cons s l ih=>
     intro r p hp
     cases r with
     |nil=>cases s<;>simp[x8]at hp
     |cons f r=>
      have tail:p∈x8 l r-> ∃s'∈s::l,p.1∈qbt s':=fun h=>by obtain⟨s',h1,h2⟩:=ih r p h;exact⟨s',jA9 _ h1,h2⟩
      cases s<;>cases f<;>simp only[x8]at hp<;>first
       |exact tail hp
       |(
        rcases jAv.1 hp with rfl|hp
        ·exact⟨_,jA7,by simp[qbt]⟩
        ·exact tail hp)
   obtain⟨s,hs,hts⟩:=key _ _ p hp
   simp only[jAt,jAo]at hs
   rcases hs with(⟨d,_,rfl⟩|⟨x,hx,rfl⟩)|⟨d,_,rfl⟩
   ·simp[qbt]at hts
   ·exact⟨x,by simp only[SOp.opds,jAv];exact .inr hx,jAx.1 hok.oks x hx,(qkj hts).1⟩
   ·simp[qbt]at hts
  ·cases hcal
 |eqnilS neg x=>rw[hop]at h3;obtain⟨_,rfl,_⟩:=h3;simp at ht
 |append u es bytes s x=>
  rw[hop]at h3
  obtain⟨rfl,h4⟩:=h3
  have hob:=(h4 rfl).1
  simp only[sem,jx]at ht hob
  split at ht
  ·split at ht
   ·generalize hs:s.get st.fr=sl at ht
    unfold qah at ht
    split at ht
    ·simp only[jB2]at ht
     subst ht
     exact⟨s,by simp[SOp.opds],hob.1,by rw[hs];simp[ASlot.toks]⟩
    ·simp at ht
    ·simp at ht
    ·simp[Out.bad]at ht
   ·split at ht
    ·simp only at ht
     exact⟨s,by simp[SOp.opds],hob.1,(qkj ht).1⟩
    ·simp[Out.bad]at ht
  ·simp[Out.bad]at ht
 | _=>
  rw[hop]at h3
  obtain⟨rfl,_⟩:=h3
  simp only[sem,wi,w6,binS,qdl,qai,wk,w8,jn,km,zb,vd,qa6,jy,qaj]at ht
  first
   |(simp at ht;done)
   |(simp[Out.bad]at ht;done)
   |(split at ht<;>first|(simp[Out.bad]at ht;done)|(split at ht<;>first|(simp[Out.bad]at ht;done)|(split at ht<;>simp[Out.bad]at ht)))
end
section
variable {P:Program} {mu:List Nat} {N:Nat} {g:Ghost} {w:World} {st:St} {a:Act} {ops:Array Oper}
def TS (m n:Nat) (S:Nat->Bool):Nat->Prop:=λt=>t<16*m∨ ∃j,j<n∧S j=true∧16*(m+j)<=t∧t<16*(m+j)+16
theorem qtl {ps:List (List Nat)} {sops:List SOper} (h:xhl ps sops=true) {i j:Nat} (hij:i<j) (hu:i∉ps.getD j []) {x y:SOper} (hx:sops[i]? =some x) (hy:sops[j]? =some y):x.apart y=true:=by
 unfold xhl at h;grind[List.getElem?_eq_some_iff,List.all_eq_true,qj6]
theorem qtm {x y:SOper} (h:x.apart y=true):(∀d,x.dst=some d->d∉y.looks)∧(∀d,x.dst=some d->y.dst≠some d)∧(∀d,y.dst=some d->d∉x.looks):=by
 grind[SOper.apart]
theorem qkq {ps:List (List Nat)} {sops:List SOper} {i j:Nat} (hij:i<j) (hu:i∉ps.getD j []) {x y:SOper} (hx:sops[i]? =some x) (hy:sops[j]? =some y)
  (hm:(x.op.memW=true∧(y.op.memW=true∨y.op.memR=true))∨((x.op.memW=true∨x.op.memR=true)∧y.op.memW=true)):(i,j)∈qoi ps sops:=by
 have hj:j<sops.length:=(List.getElem?_eq_some_iff.1 hy).1;rw[List.getD_eq_getElem?_getD]at hu;simp only[qoi,List.mem_flatMap,List.mem_range,List.mem_filterMap];grind[qj6]
structure Drawn (P:Program) (mu:List Nat) (N:Nat) (ops:Array Oper) (sops:List SOper) (st:St) (L:List Done):Prop where
 comp:qfd P mu N ops ops.toList=some sops
 back: ∀j,j<ops.toList.length-> ∀e∈qbb ops.toList j,e<j
 ind:xhl (qn6 ops.toList) sops=true
 nil:(sops.any λo=>o.op.isNilS)=false
 clean:(sops.all λo=>o.op.opds.all Opd.clean)=true
 map:L.map (·.1)=sops
 chain:xb9 P L 0 st
 pairs:qff (qoi (qn6 ops.toList) sops) (L.map λd=>d.2.2.tags)
structure Midst (N:Nat) (ops:Array Oper) (st:St) (L:List Done) (S:Nat->Bool) (g:Ghost) (w:World) (a:Act):Prop where
 closed:xca ops.toList S
 dom: ∀j,S j=true->j<ops.size
 sr:SR N (TS st.nt ops.size S) g w (ap S L 0 st) a
 cons: ∀(j:Nat) (d:Done),L[j]? =some d->S j=true-> ∀t∈d.2.2.cons,TS st.nt ops.size S t
variable {sops:List SOper} {L:List Done} {S:Nat→Bool}
theorem Drawn.len (D:Drawn P mu N ops sops st L):L.length=ops.size∧sops.length=ops.size:=by
 have h1:=(qjg D.comp).1;have h2:L.length=sops.length:=by rw[<- D.map];simp
 grind
theorem Drawn.op (D:Drawn P mu N ops sops st L) {i:Nat} {d:Done} (h:L[i]? =some d):sops[i]? =some d.1:=by
 rw[<- D.map];simp[h]
theorem Drawn.un (D:Drawn P mu N ops sops st L) (hc:xca ops.toList S) {i:Nat} (hi:i<ops.size) (hd: ∀e∈qbb ops.toList i,S e=true): ∀e,S e=false->e∉(qn6 ops.toList).getD i []:=by
 intro e he hm;have:=q6g D.back hc (i+1) i (jE1 _) (by omega) hd e hm;grind
theorem Drawn.far (D:Drawn P mu N ops sops st L) (M:Midst N ops st L S g w a) {i:Nat} (hi:i<ops.size) (hS:S i=false) (hd: ∀e∈qbb ops.toList i,S e=true) {j:Nat} {x y:Done}
  (z:L[i]? =some x) (m:L[j]? =some y) (hj:S j≠decide (j<i)):
  (∀d,y.1.dst=some d->d∉x.1.looks∧x.1.dst≠some d)∧
  ((x.1.op.memW=true∧(y.1.op.memW=true∨y.1.op.memR=true))∨((x.1.op.memW=true∨x.1.op.memR=true)∧y.1.op.memW=true) -> ∀id,id∈x.2.2.touch->id∉y.2.2.wrs.map (·.1))∨j=i:=by
 have F:j<ops.size:=by
  have:=(jAd.1 m).1;have:=D.len.1;omega
 by_cases p:j<i
 ·have l:S j=false:=by grind
  have o:=D.un M.closed hi hd j l;obtain⟨J,C,_⟩:=qtm (qtl D.ind p o (D.op m) (D.op z));refine .inl ⟨λd h=>⟨J d h,C d h⟩,λE id I G=> ?_⟩;have hp:=qkq p o (D.op m) (D.op z) (E.elim (λ⟨u,v⟩=> .inr ⟨v,u⟩) (λ⟨u,v⟩=> .inl ⟨v,u⟩));obtain⟨t,t1,t2⟩:=qtg I G;exact D.pairs _ hp t (by grind) (by grind)
 ·by_cases q:i<j
  ·have l:S j=true:=by grind
   have o:=D.un M.closed F (M.closed j (by omega) l) i hS;obtain⟨J,C,q3⟩:=qtm (qtl D.ind q o (D.op z) (D.op m));refine .inl ⟨λd h=>⟨q3 d h,λhe=>C d he h⟩,λE id I G=> ?_⟩;have hp:=qkq q o (D.op z) (D.op m) E;obtain⟨t,t1,t2⟩:=qtg I G;exact D.pairs _ hp t (by grind) (by grind)
  omega
theorem Drawn.order (D:Drawn P mu N ops sops st L) (hlt: ∀t∈st.live,t<16*st.nt) (t:Nat): ∀(i j:Nat) (d e:Done),L[i]? =some d->L[j]? =some e->t∈d.2.2.iss->t∈e.2.2.cons->i<j:=by
 intro i j d e hi hj h1 h2;have c1:=qko (qam D.chain i d hi) t h1;obtain⟨h3,_⟩:=qkp (qam D.chain j e hj) t h2;rcases qp7 _ t L 0 st h3 with h4|⟨m,f,q1,q2,q3⟩
 ·grind
 ·have c2:=qko (qam D.chain m f q1) t q3;grind
theorem Drawn.same (D:Drawn P mu N ops sops st L) (M:Midst N ops st L S g w a) {i:Nat} (hi:i<ops.size) (q:S i=false) (p: ∀e∈qbb ops.toList i,S e=true) {x:Done} (m:L[i]? =some x):
  (∀n,n∈x.1.looks∨x.1.dst=some n->(ap S L 0 st).fr.get n=(ap (λj=>decide (j<i)) L 0 st).fr.get n)∧
  (∀id,id∈x.2.2.touch->(ap S L 0 st).os[id]? =(ap (λj=>decide (j<i)) L 0 st).os[id]?):=by
 refine⟨λn hn=>q6d _ _ n L 0 st st rfl (λj d l hdd=> ?_),λid o=>q6e _ _ id L 0 st st rfl rfl (λj d l hw=> ?_)⟩
 ·rw[Nat.zero_add];by_cases h:S j=decide (j<i)
  ·exact h
  ·rcases D.far M hi q p m l h with⟨h1,_⟩|rfl;all_goals grind
 ·rw[Nat.zero_add];by_cases h:S j=decide (j<i)
  ·exact h
  ·rcases D.far M hi q p m l h with⟨_,h1⟩|rfl
   ·have hmw:=qv2 (qam D.chain j d l) hw;have htm:=xcb (qam D.chain i x m) o;grind
   grind
theorem Drawn.now (D:Drawn P mu N ops sops st L) (F: ∀t∈st.live,t<16*st.nt) (M:Midst N ops st L S g w a) {i:Nat} (hi:i<ops.size) (hS:S i=false) (hd: ∀e∈qbb ops.toList i,S e=true) {x:Done} (C:L[i]? =some x):
  AOne P (16*(st.nt+i)) x.1 (ap S L 0 st) x.2.1 x.2.2:=by
 have u:=qam D.chain i x C;rw[Nat.zero_add]at u;obtain⟨R,s2⟩:=D.same M hi hS hd C;refine xhw u (λn hn=>R n (.inl hn)) (by grind[qhg]) s2 (λhg t U=> ?_);obtain⟨Y,_⟩:=qkp u t U;rw[hg]at u;have X:=D.order F t;rw[qp3 _ _ _ _ _ X]at Y⊢;obtain⟨q,hl2⟩:=Y;refine⟨?_,?_⟩
 ·rcases q with q|⟨j,d,z,I,o⟩
  ·grind
  ·refine .inr ⟨j,d,z,?_,o⟩;rw[Nat.zero_add];obtain⟨y,hy,hok,h⟩:=q85 u t U;have hcl:y.clean=true:=by
    have h1:=List.all_eq_true.1 D.clean _ (List.mem_of_getElem? (D.op C));grind
   have J:=qko (qam D.chain j d z) t o;rw[Nat.zero_add]at J;cases y with
   |k s=>cases s<;>first|(simp[Opd.clean]at hcl;done)|grind[Opd.get,ASlot.toks]
   |t n=>
    have l:=R n (.inl (by unfold SOper.looks;exact List.mem_append_left _ (qhh hy rfl)));simp only[Opd.ok,Opd.get]at hok h;rw[<- l]at hok h;cases hgt:(ap S L 0 st).fr.get n with
    |none=>grind
    |some p=>
     obtain⟨v,s⟩:=p;rw[hgt]at hok h;simp only at hok h;rcases M.sr.wf.fr n s (by grind) t (by omega)with h4|⟨m,hm,hSm,h5,h6⟩;all_goals grind
 ·rintro⟨j,d,z,O,E⟩;rw[Nat.zero_add]at O;by_cases I:j<i
  ·grind
  ·have hne:j≠i:=by grind
   obtain⟨G,_⟩:=qkp (qam D.chain j d z) t E;rw[qp3 _ _ _ _ _ X]at G;grind
theorem Drawn.step (D:Drawn P mu N ops sops st L) (U: ∀t∈st.live,t<16*st.nt) (M:Midst N ops st L S g w a) {i:Nat} (hi:i<ops.size) (hS:S i=false) (hd: ∀e∈qbb ops.toList i,S e=true) {x:Done} (v:L[i]? =some x)
  {g':Ghost} {w':World} {a':Act} {S':Nat->Bool} (hS': ∀j,S' j=(decide (j=i)||S j)) (hsr:SR N (Next (TS st.nt ops.size S) (16*(st.nt+i))) g' w' ((ap S L 0 st).next x.1 x.2.1 x.2.2) a'):
  Midst N ops st L S' g' w' a':=by
 have l: ∀j,S j=true->S' j=true:=λj h=>by grind
 have J:S' i=true:=by grind
 have I: ∀j,j≠i->S' j=S j:=λj h=>by grind
 have hT: ∀t,Next (TS st.nt ops.size S) (16*(st.nt+i)) t->TS st.nt ops.size S' t:=by
  rintro t ((h|⟨j,p,E,h3⟩)|h)
  ·exact .inl h
  ·exact .inr ⟨j,p,l j E,h3⟩
  ·exact .inr ⟨i,hi,J,h⟩
 have ho:=D.order U;have R:=D.now U M hi hS hd v;have O:=qam D.chain i x v;rw[Nat.zero_add]at O;refine⟨λj q X e he=> ?_,λj X=> ?_,(hsr.weakT hT).like ⟨λk=> ?_,λid=> ?_,λt=> ?_⟩,λj d q X t ht=> ?_⟩
 ·by_cases o:j=i
  ·grind
  ·exact l e (M.closed j q (by grind) e he)
 ·by_cases o:j=i
  ·omega
  ·exact M.dom j (by grind)
 ·by_cases Y:x.1.dst=some k
  ·have p:(ap S' L 0 st).fr.get k=(ap (λj=>decide (j<0+i+1)) L 0 st).fr.get k:=q6d _ _ k L 0 st st rfl (λj d q hdd=>by
    rw[Nat.zero_add,Nat.zero_add];by_cases o:j=i
    ·grind
    ·rw[I j o];have u:decide (j<i+1)=decide (j<i):=by grind
     rw[u];by_cases h:S j=decide (j<i)
     ·exact h
     ·rcases D.far M hi hS hd v q h with⟨E,_⟩|rfl;all_goals grind)
   rw[p,q3j L 0 i st x v];simp_all[St.next,qkn,if_true]
  ·have p:(ap S' L 0 st).fr.get k=(ap S L 0 st).fr.get k:=q6d _ _ k L 0 st st rfl (λj d q hdd=>by
    grind)
   simp_all[St.next,qkn,if_neg]
 ·by_cases Y:id∈x.2.2.wrs.map (·.1)
  ·have p:(ap S' L 0 st).os[id]? =(ap (λj=>decide (j<0+i+1)) L 0 st).os[id]? :=q6e _ _ id L 0 st st rfl rfl (λj d q Z=>by
    rw[Nat.zero_add,Nat.zero_add];by_cases o:j=i
    ·grind
    ·rw[I j o];have u:decide (j<i+1)=decide (j<i):=by grind
     rw[u];by_cases h:S j=decide (j<i)
     ·exact h
     ·rcases D.far M hi hS hd v q h with⟨_,E⟩|rfl
      ·have hmw:=qv2 (qam D.chain j d q) Z;exact(E (.inl ⟨qv2 O Y,.inl hmw⟩) id (List.mem_append_left _ Y) Z).elim
      omega)
   rw[p,q3j L 0 i st x v];have hg: ∀z:St,(z.next x.1 x.2.1 x.2.2).os[id]? =(jh z.os x.2.2.wrs)[id]? :=λz=>rfl;grind[qjf,qhg]
  ·have p:(ap S' L 0 st).os[id]? =(ap S L 0 st).os[id]? :=q6e _ _ id L 0 st st rfl rfl (λj d q Z=>by
    grind)
   rw[p];exact(qal _ _ _ Y).symm
 ·have hl:t∈((ap S L 0 st).next x.1 x.2.1 x.2.2).live↔(t∈(ap S L 0 st).live∧t∉x.2.2.cons)∨t∈x.2.2.iss:=jl;rw[hl,qp3 S' t L 0 st (ho t),qp3 S t L 0 st (ho t)];simp only[Nat.zero_add];constructor
  ·rintro⟨p,E⟩;have hnc:t∉x.2.2.cons:=λhc=>E ⟨i,x,v,J,hc⟩;have hns: ¬ ∃(j:Nat) (d:Done),L[j]? =some d∧S j=true∧t∈d.2.2.cons:=λ⟨j,d,G,C,F⟩=>E ⟨j,d,G,l j C,F⟩;rcases p with p|⟨j,d,G,C,F⟩
   ·grind
   grind
  ·rintro(⟨⟨p,E⟩,h3⟩|p)
   ·refine⟨p.imp id λ⟨j,d,G,C,F⟩=>⟨j,d,G,l j C,F⟩,λ⟨j,d,G,C,F⟩=> ?_⟩;grind
   ·refine⟨.inr ⟨i,x,v,J,p⟩,λ⟨j,d,G,C,F⟩=> ?_⟩;by_cases o:j=i
    ·grind
    ·rw[I j o]at C;have hir:=qko O t p;rcases M.cons j d G C t F with h4|⟨m,_,hSm,h5,h6⟩
     ·omega
     ·have:m=i:=by omega
      grind
 ·by_cases o:j=i
  ·subst o;rw[v]at q;cases q;obtain⟨p,_⟩:=qkp R t ht;exact hT t (.inl (M.sr.wf.live t p))
  ·exact hT t (.inl (M.cons j d q (by grind) t ht))
theorem Drawn.any {ro:Option Nat} {ds:List Deferred} {Q:Exit->Act->World->Prop} (D:Drawn P mu N ops sops st L) (I: ∀t∈st.live,t<16*st.nt)
  (hQ: ∀g' w' a',a'.defers=ds->G g w g' w'->SR N (below (st.nt+ops.size)) g' w' (ap (λ_=>true) L 0 st) a'->Q .normal a' w'):
  ∀(l:Nat) (d:Array Bool) (U:List Nat) (g':Ghost) (w':World) (a':Act),d.size=ops.size->U.length<=l->(∀j,j<ops.size->d.getD j false=false->j∈U) ->
   a'.defers=ds->G g w g' w'->Midst N ops st L (λj=>d.getD j false) g' w' a'->wpAnyIn (Fw ro) 0 P .any ops Q l d a' w':=by
 have p: ∀(d:Array Bool) (g':Ghost) (w':World) (a':Act),(∀j,j<ops.size->d.getD j false=true) ->a'.defers=ds->G g w g' w'->Midst N ops st L (λj=>d.getD j false) g' w' a'->Q .normal a' w':=by
  intro d g' w' a' q o z M;refine hQ g' w' a' o z ?_;have h1:ap (λj=>d.getD j false) L 0 st=ap (λ_=>true) L 0 st:=q6h _ _ L 0 st (λj J=>by rw[Nat.zero_add];exact q j (by rw[D.len.1]at J;exact J));rw[<- h1];refine M.sr.weakT ?_;rintro t (h|⟨j,h1,h2,h3,h4⟩);all_goals grind[below]
 have m: ∀(d:Array Bool) (i:Nat),d.size=ops.size->i<ops.size->(i∈Region.ready .any ops d↔d.getD i false=false∧ ∀e∈qbb ops.toList i,d.getD e false=true):=by
  intro d i u hi;have hgt:d.getD i true=d.getD i false:=by grind
  unfold Region.ready;rw[List.mem_filter,List.mem_range];have Y:ops[i]? =some ops[i]:=by simp
  have E:ops.toList[i]? =some ops[i]:=by simp
  simp only[Y,Option.map_some,Option.getD_some,hgt,qbb,E,Bool.and_eq_true,Bool.not_eq_true',hi,true_and];refine and_congr Iff.rfl ?_;rw[Array.all_eq_true'];grind
 intro l;induction l with
 |zero=>
  intro d U g' w' a' u hU hm o z M;have q: ∀j,j<ops.size->d.getD j false=true:=by
   grind
  refine⟨?_,p d g' w' a' q o z M⟩;simp_all[Region.ready,any,nil,List.mem_cons_self,List.mem_range]
 |succ l ih=>
  intro d U g' w' a' u hU hm o z M;refine⟨λhr=>p d g' w' a' ?_ o z M,λi hir=> ?_⟩
  ·have: ∀(n j:Nat),j<n->j<ops.size->d.getD j false=true:=by
    intro n;induction n with
    |zero=>simp
    |succ n ihn=>
     intro j hjn J;cases h:d.getD j false with
     |true=>rfl
     |false=>
      have hmem:=(m d j u J).2 ⟨h,λe he=>by
       have hej:=D.back j (by omega) e he;grind⟩
      grind
   grind
  ·have hi:i<ops.size:=by grind[Region.ready]
   obtain⟨hS,hd⟩:=(m d i u hi).1 hir;have hLi:i<L.length:=by rw[D.len.1];exact hi
   have R:L[i]? =some L[i]:=List.getElem?_eq_getElem hLi;have F:=D.now I M hi hS hd R;have hop:ops[i]? =some ops[i]:=by simp
   obtain⟨back,v⟩:=(qjg D.comp).2 i ops[i] L[i].1 (by simp) (D.op R);have Z:L[i].1.op.isNilS=false:=by
    have:=D.nil;rw[List.any_eq_false]at this;have:=this _ (List.mem_of_getElem? (D.op R));grind
   have hfr:Fresh (TS st.nt ops.size λj=>d.getD j false) (16*(st.nt+i)):=by
    rintro t (h|⟨j,h1,h2,h3,h4⟩) ⟨h5,h6⟩;all_goals grind
   have hone:=xmx (ro:=ro) (K:=wpAnyIn (Fw ro) 0 P .any ops Q l (d.setIfInBounds i true)) (Q:=Q) v M.sr hfr F Z (λa'' w'' g'' O hG' X=>by
    have C: ∀j,(d.setIfInBounds i true).getD j false=(decide (j=i)||d.getD j false):=by
     intro j;simp only[Array.getD_eq_getD_getElem?,Array.getElem?_setIfInBounds];grind
    refine ih (d.setIfInBounds i true) (U.erase i) g'' w'' a'' (by grind) ?_ (λj J hjf=> ?_) (O.trans o) (z.trans hG') (D.step I M hi hS hd R C X);all_goals grind)
   simp_all[wpOpIn,if_pos,if_neg]
theorem xcc {ro:Option Nat} {Q:Exit->Act->World->Prop} {id:Nat} {draw:Bool} {objs:Nat} {pairs:List (Nat×Nat)} {K:St->Prop} (hm:P.follows .mixedOrders=true) {news:List (FuncId×Nat)} (hc:qlu P mu N news ops draw=some (sops,objs,pairs))
  (hs:SR N (below st.nt) g w st a) (h:xb8 P sops objs pairs K st)
  (hQ: ∀st' g' w' a',a'.defers=a.defers->K st'->G g w g' w'->SR N (below st'.nt) g' w' st' a'->Q .normal a' w'):(Code.region id ops draw).wpIn (Fw ro) 0 P Q a w:=by
 unfold qlu at hc
 cases hcs:qfd P mu N ops ops.toList with
 |none=>grind
 |some sops'=>
  rw[hcs]at hc
  cases draw with
  |false=>
   simp only[jAw,if_false,jA8,jCx]at hc
   obtain⟨rfl,rfl,rfl⟩:=hc
   refine wpIn_region_list ?_
   refine qhf ops.toList sops' 0 [] _ (st.grow _) g w a hcs h (hs.grow _) (fun tids' st' a' w' g' hdf hK hnt hG hsr=> ?_)
   refine hQ _ g' w' a' hdf hK.2 hG (SR.bump ?_ _)
   show SR N (below (st'.nt+sops'.length)) g' w' st' a'
   grind
  |true=>
   simp only[if_true]at hc
   split at hc
   ·rename_i hchk
    simp only[jAf,jBa]at hchk
    obtain⟨⟨⟨c1,c2⟩,c3⟩,c4⟩:=hchk
    simp only[jA8,jCx]at hc
    obtain⟨rfl,rfl,rfl⟩:=hc
    refine wpIn_region_any hm ?_
    have hsg:SR N (below st.nt) g {w with drawn:=w.drawn+1} (st.grow (qyo news sops'+ops.toList.countP (Op.allocs ·.op))) a:=(hs.grow _).drew
    obtain⟨L,q1,q2,q3,q4⟩:=qkm sops' 0 [] _ _ h c3
    have D:Drawn P mu N ops sops' (st.grow (qyo news sops'+ops.toList.countP (Op.allocs ·.op))) L:=⟨hcs,qsy c1,c2,c3,c4,q1,q2,by grind⟩
    have hG0:G g w g {w with drawn:=w.drawn+1}:=⟨rfl,rfl,rfl,jAh _,fun _ _ h=>⟨rfl,h⟩,fun _ _ _ h=>⟨rfl,h⟩,fun _ n t _ h=>⟨n,some t,h,jAh _,fun _ _ _ h=>h⟩,fun _ _ _ h=>⟨h,jAh _⟩⟩
    refine D.any (fun t ht=>hsg.wf.live t ht) (fun g' w' a' hdf hG hsr=>hQ _ g' w' a' hdf q4 (hG0.trans hG) (SR.bump ?_ _)) ops.size _ (List.range ops.size) g _ a (by simp) (by simp) (fun j hj _=>jC9.2 hj) rfl (G.refl _ _) ?_
    ·show SR N (below ((ap (fun _=>true) L 0 _).nt+sops'.length)) g' w' _ a'
     rw[xrd,D.len.2]
     exact hsr
    ·have hno: ∀j,(Array.replicate ops.size false).getD j false=false:=by
      intro j
      simp only[jBg,Array.getElem?_replicate]
      grind
     refine⟨fun j _ h=> ?_,fun j h=> ?_,?_,fun j d _ h=> ?_⟩
     ·grind
     ·grind
     ·rw[qv1 _ L 0 _ (fun j _=>hno _)]
      exact hsg.weakT fun t h=> .inl h
     grind
   grind
end
mutual
def D.okW (keep:Nat->Bool):D->Bool
 | .sl _ rows=>D.okWR keep rows
 | .agg cs=>D.okWL keep cs
 | .ptr id _=>keep id
 | .ref id _ _ _=>keep id
 | .map id=>keep id
 | .func _ a b=>D.okWL keep a&&D.okWL keep b
 | .iface _ d=>D.okW keep d
 | _=>true
def D.okWL (keep:Nat->Bool):List D->Bool
 | []=>true
 |d::l=>D.okW keep d&&D.okWL keep l
def D.okWR (keep:Nat->Bool):List (List D) ->Bool
 | []=>true
 |r::l=>D.okWL keep r&&D.okWR keep l
end
theorem D.okWL_iff (keep:Nat->Bool): ∀(l:List D),D.okWL keep l=true↔ ∀d∈l,d.okW keep=true
 | []=>by simp[D.okWL]
 |d::l=>by simp[D.okWL,D.okWL_iff keep l]
theorem D.okWR_iff (keep:Nat->Bool): ∀(l:List (List D)),D.okWR keep l=true↔ ∀d∈l.flatten,d.okW keep=true
 | []=>by simp[D.okWR]
 |r::l=>by
  simp only[D.okWR,jAf,D.okWL_iff,D.okWR_iff keep l,List.flatten_cons,jAt];constructor
  ·rintro⟨h1,h2⟩ d (h|h)
   ·exact h1 d h
   ·exact h2 d h
  ·exact λh=>⟨λd e=>h d (.inl e),λd e=>h d (.inr e)⟩
mutual
theorem D.okW_noPtr {keep:Nat->Bool}: ∀{d:D},d.noPtr=true->d.okW keep=true
 | .sl _ rows,h=>D.okWR_noPtr (by simpa only[D.noPtr]using h)
 | .agg cs,h=>D.okWL_noPtr (by simpa only[D.noPtr]using h)
 | .func _ a b,h=>by
  simp only[D.noPtr,jAf]at h;simp only[D.okW,D.okWL_noPtr h.1,D.okWL_noPtr h.2,jBu]
 | .iface _ d,h=>D.okW_noPtr (d:=d) (by simpa only[D.noPtr]using h)
 | .ptr ..,h=>by simp[D.noPtr]at h
 | .ref ..,h=>by simp[D.noPtr]at h
 | .map _,h=>by simp[D.noPtr]at h
 | .int ..,_=>rfl
 | .bool _,_=>rfl
 | .str _,_=>rfl
 | .nilptr,_=>rfl
 | .nilfunc,_=>rfl
 | .niliface,_=>rfl
 | .nilmap,_=>rfl
 | .nilsl,_=>rfl
 | .any,_=>rfl
theorem D.okWL_noPtr {keep:Nat->Bool}: ∀{l:List D},D.noPtrL l=true->D.okWL keep l=true
 | [],_=>rfl
 |d::l,h=>by
  simp only[D.noPtrL,jAf]at h;simp only[D.okWL,D.okW_noPtr h.1,D.okWL_noPtr h.2,jBu]
theorem D.okWR_noPtr {keep:Nat->Bool}: ∀{l:List (List D)},D.noPtrR l=true->D.okWR keep l=true
 | [],_=>rfl
 |r::l,h=>by
  simp only[D.noPtrR,jAf]at h;simp only[D.okWR,D.okWL_noPtr h.1,D.okWR_noPtr h.2,jBu]
end
theorem RV.okW {g g':Ghost} {w w':World} {keep:Nat->Bool} {v:Value} {d:D} (h:RV g w v d) (hr:RowsKept g w g' w') (p: ∀(b id:Nat),keep id=true->g b= .obj id->g' b= .obj id∧qcw w b<=qcw w' b) (e:d.okW keep=true):RV g' w' v d:=by
 induction h with
 |int k n=>exact .int k n
 |bool b=>exact .bool b
 |str s=>exact .str s
 |nilsl a c es hn=>exact .nilsl a c es hn
 |sl b off cap es n o rows f hg hn hcap hes hcl hcell _ ih=>
  obtain⟨n',o',q,hnn,hc⟩:=hr b n o hg;rw[D.okW,D.okWR_iff]at e;refine .sl b off cap es n' o' rows f q (by omega) hcap hes hcl (λj d m=>hc _ _ ?_ (hcell j d m)) (λj d m=>ih j d m (e d (jAe m)));have:=(jAd.1 m).1;omega
 |agg vs ds hl hcl _ ih=>
  rw[D.okW,D.okWL_iff]at e;exact .agg vs ds hl hcl (λj v d l i=>ih j v d l i (e d (jAe i)))
 |ptr b off id hg=>exact .ptr b off id (p b id (by simpa only[D.okW]using e) hg).1
 |ref b off id es len cap hg hcap hm hsz=>
  obtain⟨h1,h2⟩:=p b id (by simpa only[D.okW]using e) hg;exact .ref b off id es len cap h1 hcap hm (jBj hsz h2)
 |refnil a id off es=>exact .refnil a id off es
 |nilptr=>exact .nilptr
 |func fn vf vc df dc hf hc _ _ i1 i2=>
  rw[D.okW,jAf,D.okWL_iff,D.okWL_iff]at e;exact .func fn vf vc df dc hf hc (λj v d l i=>i1 j v d l i (e.1 d (jAe i))) (λj v d l i=>i2 j v d l i (e.2 d (jAe i)))
 |nilfunc=>exact .nilfunc
 |iface t v d _ ih=>exact .iface t v d (ih (by simpa[D.okW]using e))
 |niliface=>exact .niliface
 |map b id hg=>exact .map b id (p b id (by simpa only[D.okW]using e) hg).1
 |nilmap=>exact .nilmap
 |nils=>exact .nils
 |any v l=>exact .any v l
def qc9 (keep:Nat->Bool):ASlot->ASlot->Prop
 |s,.d x=>s.eqvD x∧x.okW keep=true
 | .own _ es rows,.own _ es' rows'=>(es=es'∧D.eqvR rows rows')∧D.noPtrR rows'=true
 | .uni _ es rows,.uni _ es' rows'=>(es=es'∧rows=rows')∧D.noPtrR rows'=true
 | .full _ rows,.uni _ _ rows'=>rows= []∧rows'= []
 | .d .nilsl,.uni _ _ rows'=>rows'= []
 | .full es rows,.own _ es' rows'=>qag es rows es' rows'∧D.noPtrR rows'=true
 | .full es rows,.full es' rows'=>qag es rows es' rows'∧D.noPtrR rows'=true
 | .d .nilsl,.own _ _ rows'=>rows'= []
 | .d .nilsl,.full _ rows'=>rows'= []
 | .rd cs,.rd cs'=>D.eqvL cs cs'∧D.noPtrL cs'=true
 | _,.bad=>True
 | _,_=>False
def vy:ASlot->ASlot->List (Nat×Nat)
 | .own t _ _,.own t' _ _=> [(t,t')]
 | .uni t _ _,.uni t' _ _=> [(t,t')]
 | _,_=> []
def qck (fr:Fr):Fr->List (Nat×Nat)
 | []=> []
 |(k,_,s')::l=>match fr.get k with
  |some (_,s)=>vy s s'++qck fr l
  |none=>qck fr l
def qbi:List ASlot->List ASlot->List (Nat×Nat)
 |s::l,s'::l'=>vy s s'++qbi l l'
 | _,_=> []
def yb:List AObj->List AObj->List (Nat×Nat)
 | .row cs::l,.row cs'::l'=>qbi cs cs'++yb l l'
 | _::l,_::l'=>yb l l'
 | _,_=> []
def wx (os:List AObj) (id:Nat):Bool:=match os[id]?with|some .none=>false|some _=>true| _=>false
def frW (keep:Nat->Bool) (fr:Fr):Fr->Prop
 | []=>True
 |(k,v,s')::l=>(match fr.get k with
  |some (v',s)=>v'=v∧(v=true->qc9 keep s s')
  |none=>False)∧frW keep fr l
def csW (keep:Nat->Bool):List ASlot->List ASlot->Prop
 |s::l,s'::l'=>qc9 keep s s'∧csW keep l l'
 | _,[]=>True
 | [],_::_=>False
def osW (keep:Nat->Bool):List AObj->List AObj->Prop
 | .row cs::l,.row cs'::l'=>csW keep cs cs'∧osW keep l l'
 | .map es c::l,.map es' c'::l'=>(es=es'∧c=c')∧osW keep l l'
 | .iter m a b c::l,.iter m' a' b' c'::l'=>(qc9 keep m m'∧vy m m'= []∧a=a'∧b=b'∧c=c')∧osW keep l l'
 | _::l,.none::l'=>osW keep l l'
 | [],.none::l'=>osW keep [] l'
 | _,[]=>True
 | _,_=>False
def qi5:Fr->List Nat
 | []=> []
 |(_,_,s)::l=>s.toks++qi5 l
def qgd (k0:Nat) (os d:List AObj):Prop:= ∀id,id<k0->wx os id=true->wx d id=true
structure Weak (k0:Nat) (st st':St):Prop where
 fr:frW (wx st'.os) st.fr st'.fr
 os:osW (wx st'.os) st.os st'.os
 live: ∀p∈qck st.fr st'.fr++yb st.os st'.os,p.2∈st'.live->p.1∈st.live
 nd:((qck st.fr st'.fr++yb st.os st'.os).map (·.1)).Nodup
 base:qgd k0 st.os st'.os
 wf: ∀t∈st'.live++qi5 st'.fr++xf st'.os,t<16*st'.nt
def wkG (hs:List (Nat×Nat)) (keep:Nat->Bool) (g:Ghost):Ghost:=λb=>
 match g b with
 | .row n (some t)=> .row n (kv hs t)
 | .uni t=>match kv hs t with|some t'=> .uni t'|none=> .out
 | .obj id=>if keep id then .obj id else .out
 |r=>r
section
variable {P:Program} {N:Nat} {T:Nat→Prop} {g g0:Ghost} {w w0:World} {st st':St} {a:Act} {hs:List (Nat×Nat)} {keep:Nat→Bool} {live live':List Nat}
theorem qeg:RowsKept g w (wkG hs keep g) w:=by
 intro b n o hg;refine⟨n,o.bind (kv hs),?_,jAh _,λ_ _ _ h=>h⟩;unfold wkG;rw[hg];cases o<;>rfl
theorem xre {v:Value} {d:D} (h:RV g w v d) (e:d.okW keep=true):RV (wkG hs keep g) w v d:=
 h.okW qeg (λb id e hg=>⟨by unfold wkG;rw[hg];simp[e],jAh _⟩) e
theorem q3k {v:Value} {s s':ASlot} (F:(hs.map (·.1)).Nodup) (Z: ∀p∈vy s s',p∈hs) (hl: ∀p∈hs,p.2∈live'->p.1∈live) (h:RS g w live v s) (i:qc9 keep s s'):
  RC (wkG hs keep g) w live' v s':=by
 have I:=qeg (g:=g) (w:=w) (hs:=hs) (keep:=keep);have sl: ∀{es:Nat} {rows:List (List D)},RV g w v (.sl es rows) ->D.noPtrR rows=true->RV (wkG hs keep g) w v (.sl es rows):=λh1 M=>h1.mono_noPtr I (by simpa only[D.noPtr]using M);cases s' with
 |d x=>
  have M:s.eqvD x∧x.okW keep=true:=by cases s<;>simpa only[qc9]using i
  exact xre (qvx h M.1) M.2
 |own t' es' rows'=>
  cases s with
  |own t es rows=>
   obtain⟨⟨rfl,J⟩,G⟩:=i;refine⟨sl (qbn h.1 ⟨.inl rfl,J⟩) G,λq=> ?_⟩;have m:=Z (t,t') (by simp[vy]);have hp:=qb4 F m;rcases qpv (h.2 (hl _ m q)) J with Y|⟨b,cap,C,e,U,R,O⟩
   ·exact .inl Y
   ·refine .inr ⟨b,cap,C,e,U,?_,O⟩;unfold wkG;rw[R];simp only[hp]
  |full es rows=>exact⟨sl (qbn h.1 i.1) i.2,λ_=> .inl (qol h.2 i.1.2)⟩
  |d y=>
   obtain⟨rfl,rfl⟩:v= .slice none 0 0∧rows'= []:=by
    cases y<;>first|exact i.elim|skip
    have h':RV g w v .nilsl:=h;cases h';exact⟨rfl,i⟩
   exact⟨.nilsl none 0 es' (λ_=>rfl),λ_=> .inl ⟨none,rfl⟩⟩
  | _=>exact i.elim
 |uni t' es' rows'=>
  cases s with
  |uni t es rows=>
   obtain⟨⟨rfl,rfl⟩,G⟩:=i;refine⟨h.1,λq=> ?_⟩;have m:=Z (t,t') (by simp[vy]);have hp:=qb4 F m;rcases h.2 (hl _ m q)with Y|⟨b,cap,C,e,U,R,O,q4,q5,q6,q7,q8⟩
   ·exact .inl Y
   ·refine .inr ⟨b,cap,C,e,U,?_,O,q4,q5,q6,q7,λj d E=> ?_⟩
    ·unfold wkG;rw[R];simp only[hp]
    ·obtain⟨c1,u,c2,c3⟩:=q8 j d E;exact⟨c1,u,c2,c3.mono_noPtr I ((D.noPtrR_iff rows).1 G d (jAe E))⟩
  |full es rows=>
   obtain⟨rfl,rfl⟩:=i;obtain⟨a,rfl⟩:=h.2;exact⟨⟨a,0,rfl⟩,λ_=> .inl ⟨a,rfl,rfl⟩⟩
  |d y=>
   obtain⟨rfl,rfl⟩:v= .slice none 0 0∧rows'= []:=by
    cases y<;>first|exact i.elim|skip
    have h':RV g w v .nilsl:=h;cases h';exact⟨rfl,i⟩
   exact⟨⟨none,0,rfl⟩,λ_=> .inl ⟨none,rfl,rfl⟩⟩
  | _=>exact i.elim
 |full es' rows'=>
  cases s with
  |full es rows=>exact⟨sl (qbn h.1 i.1) i.2,qol h.2 i.1.2⟩
  |d y=>
   obtain⟨rfl,rfl⟩:v= .slice none 0 0∧rows'= []:=by
    cases y<;>first|exact i.elim|skip
    have h':RV g w v .nilsl:=h;cases h';exact⟨rfl,i⟩
   exact⟨.nilsl none 0 es' (λ_=>rfl),none,rfl⟩
  | _=>exact i.elim
 |rd cs'=>
  cases s with
  |rd cs=>
   obtain⟨J,G⟩:=i;obtain⟨b,off,n,o,fn,rfl,hg,hn,hcc⟩:=xmv (live:=live) h J;obtain⟨n',o',X,hnn,z⟩:=I b n o hg;refine⟨b,off,n',o',fn,rfl,X,by omega,λj d E=> ?_⟩;obtain⟨c1,c2,c3⟩:=hcc j d E;have hjl:j<cs'.length:=(jAd.1 E).1;exact⟨c1,z _ _ (by omega) c2,c3.mono_noPtr I ((D.noPtrL_iff cs').1 G d (jAe E))⟩
  | _=>exact i.elim
 |tup l=>cases s<;>exact i.elim
 |bad=>trivial
theorem qzj {s:ASlot} {l:List ASlot}: ¬qc9 keep s (.tup l):=by cases s<;>simp[qc9]
theorem qv3 {fr:Fr}: ∀{d:Fr},frW keep fr d-> ∀(k:Nat) (v:Bool) (s':ASlot),d.get k=some (v,s') ->
  ∃s,fr.get k=some (v,s)∧(v=true->qc9 keep s s')∧ ∀p∈vy s s',p∈qck fr d
 | [],_,k,v,s',h=>by simp[Fr.get]at h
 |(j,v',s'')::l,hw,k,v,s',h=>by
  obtain⟨e,h2⟩:=hw;simp only[Fr.get]at h;split at h
  ·rename_i hj;subst hj;cases h;cases hg:fr.get j with
   |none=>rw[hg]at e;exact e.elim
   |some p=>
    obtain⟨u,s⟩:=p;rw[hg]at e;obtain⟨rfl,h4⟩:=e;refine⟨s,rfl,h4,λp hp=> ?_⟩;simp only[qck,hg];exact jBb _ hp
  ·obtain⟨s,q1,q2,i⟩:=qv3 h2 k v s' h;refine⟨s,q1,q2,λp hp=> ?_⟩;simp only[qck];split
   ·exact jBe _ (i p hp)
   ·exact i p hp
theorem xcd: ∀{l l':List ASlot},csW keep l l'->l'.length<=l.length∧ ∀(i:Nat) (s':ASlot),l'[i]? =some s'-> ∃s,l[i]? =some s∧qc9 keep s s'∧ ∀p∈vy s s',p∈qbi l l'
 | _,[],_=>by simp
 | [],_::_,h=>h.elim
 |s::l,s'::l',h=>by
  obtain⟨h1,h2⟩:=h;obtain⟨k1,k2⟩:=xcd h2;refine⟨by simp;omega,λi u hi=> ?_⟩;cases i with
  |zero=>simp at hi;subst hi;exact⟨s,rfl,h1,λp hp=>jBb _ hp⟩
  |succ i=>
   obtain⟨u',q1,q2,q3⟩:=k2 i u (by simpa using hi);exact⟨u',by simpa using q1,q2,λp hp=>jBe _ (q3 p hp)⟩
theorem ql2: ∀{l l':List AObj},osW keep l l'-> ∀(i:Nat) (d:List ASlot),l'[i]? =some (.row d) -> ∃cs,l[i]? =some (.row cs)∧csW keep cs d∧ ∀p∈qbi cs d,p∈yb l l'
 |l,[],_,i,d,h=>by simp at h
 | [],.none::l',hw,i,d,h=>by
  cases i with
  |zero=>simp at h
  |succ i=>
   obtain⟨cs,e,_⟩:=ql2 (l:= []) (show osW keep [] l' from hw) i d (by simpa using h);simp at e
 | [],.row _::l',hw,i,d,h=>hw.elim
 | [],.map .. ::l',hw,i,d,h=>hw.elim
 | [],.iter .. ::l',hw,i,d,h=>hw.elim
 |o::l,.none::l',hw,i,d,h=>by
  have t:osW keep l l':=by cases o<;>exact hw
  cases i with
  |zero=>simp at h
  |succ i=>
   obtain⟨cs,e,q,m⟩:=ql2 t i d (by simpa using h);refine⟨cs,by simpa using e,q,λp hp=> ?_⟩;cases o<;>exact m p hp
 | .none::l,.row _::l',hw,i,d,h=>hw.elim
 | .row cs::l,.row cs''::l',hw,i,d,h=>by
  obtain⟨h1,t⟩:=hw;cases i with
  |zero=>simp at h;subst h;exact⟨cs,rfl,h1,λp hp=>jBb _ hp⟩
  |succ i=>
   obtain⟨u,e,q,m⟩:=ql2 t i d (by simpa using h);exact⟨u,by simpa using e,q,λp hp=>jBe _ (m p hp)⟩
 | .map _ _::l,.map _ _::l',hw,i,d,h=>by
  cases i with
  |zero=>simp at h
  |succ i=>
   obtain⟨u,e,q,m⟩:=ql2 hw.2 i d (by simpa using h);exact⟨u,by simpa using e,q,m⟩
 | .iter _ _ _ _::l,.iter _ _ _ _::l',hw,i,d,h=>by
  cases i with
  |zero=>simp at h
  |succ i=>
   obtain⟨u,e,q,m⟩:=ql2 hw.2 i d (by simpa using h);exact⟨u,by simpa using e,q,m⟩
theorem q3l: ∀{l l':List AObj},osW keep l l'-> ∀(i:Nat) (es:List (Nat×D×D)) (c:Nat),l'[i]? =some (.map es c) ->l[i]? =some (.map es c)
 |l,[],_,i,es,c,h=>by simp at h
 |o::l,o'::l',hw,0,es,c,h=>by
  simp at h;subst h;cases o with
  |map es1 c1=>obtain⟨⟨rfl,rfl⟩,_⟩:=hw;rfl
  | _=>exact hw.elim
 |o::l,o'::l',hw,i+1,es,c,h=>by
  have h2:osW keep l l':=by cases o<;>cases o'<;>first|exact hw|exact hw.2|exact hw.elim
  simpa using q3l h2 i es c (by simpa using h)
 | [],.none::l',hw,0,es,c,h=>by simp at h
 | [],.none::l',hw,i+1,es,c,h=>by
  have:=q3l (l:= []) (show osW keep [] l' from hw) i es c (by simpa using h);simp at this
 | [],.row _::l',hw,i,es,c,h=>hw.elim
 | [],.map .. ::l',hw,i,es,c,h=>hw.elim
 | [],.iter .. ::l',hw,i,es,c,h=>hw.elim
theorem qv4: ∀{l l':List AObj},osW keep l l'-> ∀(i:Nat) (m':ASlot) (a:Nat) (b:List Nat) (c:Nat),l'[i]? =some (.iter m' a b c) -> ∃m,l[i]? =some (.iter m a b c)∧qc9 keep m m'∧vy m m'= []
 |l,[],_,i,_,_,_,_,h=>by simp at h
 |o::l,o'::l',hw,0,_,_,_,_,h=>by
  simp at h;subst h;cases o with
  |iter m1 a1 b1 c1=>obtain⟨⟨h1,d,rfl,rfl,rfl⟩,_⟩:=hw;exact⟨m1,rfl,h1,d⟩
  | _=>exact hw.elim
 |o::l,o'::l',hw,i+1,m',a,b,c,h=>by
  have d:osW keep l l':=by cases o<;>cases o'<;>first|exact hw|exact hw.2|exact hw.elim
  simpa using qv4 d i m' a b c (by simpa using h)
 | [],.none::l',hw,0,_,_,_,_,h=>by simp at h
 | [],.none::l',hw,i+1,m',a,b,c,h=>by
  obtain⟨m,q1,_⟩:=qv4 (l:= []) (show osW keep [] l' from hw) i m' a b c (by simpa using h);simp at q1
 | [],.row _::l',hw,i,_,_,_,_,h=>hw.elim
 | [],.map .. ::l',hw,i,_,_,_,_,h=>hw.elim
 | [],.iter .. ::l',hw,i,_,_,_,_,h=>hw.elim
theorem ql3: ∀{fr:Fr} {k:Nat} {v:Bool} {s:ASlot},fr.get k=some (v,s) -> ∀t∈s.toks,t∈qi5 fr
 | [],k,v,s,h,t,ht=>by simp[Fr.get]at h
 |(j,v',s')::l,k,v,s,h,t,ht=>by
  simp only[Fr.get]at h;simp only[qi5,jAt];split at h
  ·cases h;exact .inl ht
  ·exact .inr (ql3 h t ht)
theorem Weak.srD {k0:Nat} (h:Weak k0 st st') (E:SR N T g w st a) (J:G g0 w0 g w) (h0: ∀b id,g0 b= .obj id->id<k0):
  ∃g',SR N (below st'.nt) g' w st' a∧G g0 w0 g' w∧(∀b,g b= .out->g' b= .out)∧(∀b id,g b= .obj id->g' b= .obj id∨g' b= .out)∧RowsKept g w g' w∧ ∀b id,wx st'.os id=true->g b= .obj id->g' b= .obj id:=by
 let hs:=qck st.fr st'.fr++yb st.os st'.os
 have back: ∀b id,wkG hs (wx st'.os) g b= .obj id->g b= .obj id:=by
  intro b id d;unfold wkG at d;split at d
  ·cases d
  ·split at d<;>cases d
  ·split at d
   ·cases d;assumption
   ·cases d
  ·exact d
 refine⟨wkG hs (wx st'.os) g,⟨⟨λb d=> ?_,E.dom.2.ghost λb n h=>by unfold wkG;rw[h]⟩,E.defers,E.size,λk v s' q=> ?_,λid o F hn=> ?_,λb b' id d hb'=> ?_,λb id d=> ?_,?_⟩,?_,?_,λb id d=> ?_,qeg,λb id q d=>by unfold wkG;rw[d];simp[q]⟩
 ·unfold wkG;rw[E.dom.1 b d]
 ·obtain⟨s,l,z,M⟩:=qv3 h.fr k v s' q;obtain⟨X,r2⟩:=E.slots k v s l;exact⟨λC=>jk (q3k h.nd (λp hp=>jBb _ (M p hp)) h.live (X C) (z C)),r2⟩
 ·cases o with
  |none=>exact(hn rfl).elim
  |row cs'=>
   obtain⟨cs,l,z,M⟩:=ql2 h.os id cs' F;obtain⟨k1,k2⟩:=xcd z;rcases E.objs id (.row cs) l (by simp)with⟨b,d,c,e,X,r2,r3⟩|⟨C,U⟩;case inr=>
    have hc0:cs= []:=by simpa using C
    subst hc0;have:cs'= []:=jAz (by simpa using k1);subst this;exact .inr ⟨rfl,λb d=>U b (back b id d)⟩
   refine .inl ⟨b,by unfold wkG;rw[d];simp[wx,F],c,e,X,by omega,λi s' hi=> ?_⟩;obtain⟨s,p1,p2,p3⟩:=k2 i s' hi;obtain⟨v,v1,v2,v3⟩:=r3 i s p1;exact⟨v,v1,v2,q3k h.nd (λp hp=>jBe _ (M p (p3 p hp))) h.live (jk v3) p2⟩
  |map es c=>
   have l:=q3l h.os id es c F;rcases E.objs id _ l (by simp)with⟨b,d,O⟩|⟨C,_⟩
   ·exact .inl ⟨b,by unfold wkG;rw[d];simp[wx,F],MapIs.mono O qeg rfl⟩
   ·cases C
  |iter m' since seen last=>
   obtain⟨m,l,z,M⟩:=qv4 h.os id m' since seen last F;rcases E.objs id _ l (by simp)with⟨b,d,O⟩|⟨C,_⟩
   ·refine .inl ⟨b,by unfold wkG;rw[d];simp[wx,F],IterIs.mono (R:=λv=>RC g w st.live v m) (R':=λv=>RC (wkG hs (wx st'.os) g) w st'.live v m') O rfl (λo C=> ?_)⟩;exact q3k h.nd (λp hp=>by rw[M]at hp;cases hp) h.live (jk C) z
   ·cases C
 ·exact E.inj b b' id (back b id d) (back b' id hb')
 ·unfold wkG at d;split at d
  ·cases d
  ·split at d<;>cases d
  ·rename_i id' I;split at d
   ·rename_i q;cases d;unfold wx at q;split at q
    ·cases q
    ·rename_i o U hcs;exact⟨o,hcs,λh=>by subst h;exact U rfl⟩
    ·cases q
   ·cases d
  ·rename_i r hn1 hn0 hn2;exact(hn2 id d).elim
 ·refine⟨λt Y=>h.wf t ?_,λk s q t Y=>h.wf t ?_,λid o F s hsm t Y=>h.wf t ?_⟩
  ·simp only[jAt];exact .inl (.inl Y)
  ·simp only[jAt];exact .inl (.inr (ql3 q t Y))
  ·simp only[jAt];exact .inr (qfn F s hsm t Y)
 ·refine⟨J.os,J.tape,J.output,J.size,λb d I=> ?_,λb n d I=> ?_,λb n t d I=> ?_,λb id d I=> ?_⟩
  ·obtain⟨l,z⟩:=J.out b d I;exact⟨l,by unfold wkG;rw[z]⟩
  ·obtain⟨l,z⟩:=J.rowN b n d I;exact⟨l,by unfold wkG;rw[z]⟩
  ·obtain⟨n',o',l,z,M⟩:=J.rowS b n t d I;obtain⟨n'',o'',X,r2,r3⟩:=qeg (hs:=hs) (keep:=wx st'.os) (w:=w) b n' o' l;exact⟨n'',o'',X,by omega,λi u hi hu=>r3 i u (by omega) (M i u hi hu)⟩
  ·obtain⟨Z,hbz⟩:=J.obj b id d I;obtain⟨o,F,hn⟩:=E.ids b id Z;have q:wx st.os id=true:=by
    unfold wx;rw[F];cases o with
    |none=>exact(hn rfl).elim
    | _=>rfl
   unfold wkG;rw[Z];simp[h.base id (h0 b id I) q,hbz]
 ·intro b d;unfold wkG;rw[d]
 ·unfold wkG;rw[d];simp only;split
  ·exact .inl rfl
  ·exact .inr rfl
theorem Weak.sr {k0:Nat} (h:Weak k0 st st') (hr:SR N T g w st a) (hG:G g0 w0 g w) (h0: ∀b id,g0 b= .obj id->id<k0):
  ∃g',SR N (below st'.nt) g' w st' a∧G g0 w0 g' w∧ ∀b,g b= .out->g' b= .out:=by
 obtain⟨g',h1,h2,h3,_⟩:=h.srD hr hG h0;exact⟨g',h1,h2,h3⟩
end
inductive Pos where
 |fr (k:Nat)
 |cell (id i:Nat)
def St.slotAt (st:St):Pos->ASlot
 | .fr k=>match st.fr.get k with|some (true,s)=>s| _=> .bad
 | .cell id i=>(qi st.os id).getD i .bad
def St.setPos (st:St) (s:ASlot):Pos->St
 | .fr k=>{st with fr:=(k,true,s)::st.fr}
 | .cell id i=>{st with os:=st.os.set id (.row ((qi st.os id).set i s))}
def At (g:Ghost) (w:World) (a:Act):Pos->Value->Prop
 | .fr k,v=>v=a.tmps.getD k undef
 | .cell id i,v=> ∃(b:Nat) (c:Array Value) (e:TypeId),g b= .obj id∧w.heap[b]? =some (.cells c e (0,0))∧c[i]? =some v∧v.oneCell'=true
def ASlot.okS (keep:Nat->Bool):ASlot->Bool
 | .d x=>x.okW keep
 | .own _ _ rows=>D.okWR keep rows
 | .uni _ _ rows=>D.okWR keep rows
 | .full _ rows=>D.okWR keep rows
 | .rd cs=>D.okWL keep cs
 | .tup l=>l.all λs=>match s with| .d x=>x.okW keep| .own _ _ rows=>D.okWR keep rows| .uni _ _ rows=>D.okWR keep rows| .full _ rows=>D.okWR keep rows| .rd cs=>D.okWL keep cs| _=>true
 | .bad=>true
def ASlot.only (keep:Nat->Bool) (s:ASlot):ASlot:=if s.okS keep then s else .bad
def Fr.mapS (f:ASlot->ASlot):Fr->Fr
 | []=> []
 |(k,v,s)::l=>(k,v,f s)::Fr.mapS f l
def AObj.mapS (f:ASlot->ASlot):AObj->AObj
 | .none=> .none
 | .row cs=> .row (cs.map f)
 | .map es c=> .map es c
 | .iter m a b c=> .iter (f m) a b c
def neId (id:Nat) (i:Nat):Bool:= !(i==id)
def D.frz (id es:Nat) (rows:List (List D)):D->D
 | .ref i off e n=>if i=id∧off=0∧e=es∧n=rows.length then .sl es rows else .ref i off e n
 |d=>d
def ASlot.frz (id es:Nat) (rows:List (List D)):ASlot->ASlot
 | .d (.agg cs)=> .d (.agg (cs.map (D.frz id es rows)))
 | .d x=> .d (x.frz id es rows)
 |s=>s
def St.u2o (st:St) (p:Pos) (t es:Nat) (rows:List (List D)):St:=
 let e:=st.setPos (.d (.ref st.os.length 0 es rows.length)) p
 {e with os:=e.os++ [.row (rows.flatten.map .d)],live:=st.live.filter λu=> !(u==t)}
def St.o2u (st:St) (p:Pos) (id es:Nat) (rows:List (List D)):St:=
 ({fr:=Fr.mapS (ASlot.only (neId id)) st.fr,os:=(st.os.map (AObj.mapS (ASlot.only (neId id)))).set id .none,live:=st.live++ [16*st.nt],nt:=st.nt+1}:St).setPos (.uni (16*st.nt) es rows) p
def St.frz (st:St) (id es:Nat) (rows:List (List D)):St:=
 {fr:=Fr.mapS (λs=>(s.frz id es rows).only (neId id)) st.fr,os:=(st.os.map (AObj.mapS λs=>(s.frz id es rows).only (neId id))).set id .none,live:=st.live,nt:=st.nt}
def St.u2own (st:St) (p:Pos) (t es:Nat) (rows:List (List D)):St:=
 let s1:=st.setPos (.own (16*st.nt) es rows) p
 {s1 with live:=(st.live.filter λu=> !(u==t))++ [16*st.nt],nt:=st.nt+1}
def Pos.notIn (id:Nat):Pos->Prop
 | .fr _=>True
 | .cell i _=>i≠id
def q86 (κ:List Nat) (d:List AObj):List Nat->List AObj->Prop
 | [],[]=>True
 |id::ι,o::os=>d[id]? =some (o.ren κ)∧q86 κ d ι os
 | _,_=>False
def xhy (k0 n:Nat) (ι:List Nat):Bool:=(List.range n).all ι.contains&&ι.all (λi=>Nat.blt i n)&&((List.range n).all λi=> !Nat.blt i k0||ι.getD i n==i)
def St.renN (st:St) (ι:List Nat) (d:List AObj):St:={st with fr:=Fr.mapS (ASlot.ren ι) st.fr,os:=d}
inductive Turn (k0:Nat):St->St->Prop
 |refl (st:St):Turn k0 st st
 |weak {st st1 st2:St} (h:Weak k0 st st1) (r:Turn k0 st1 st2):Turn k0 st st2
 |u2o {st st2:St} (p:Pos) (t es:Nat) (rows:List (List D)) (hp:st.slotAt p= .uni t es rows) (ht:t∈st.live) (r:Turn k0 (st.u2o p t es rows) st2):Turn k0 st st2
 |o2u {st st2:St} (p:Pos) (id es:Nat) (rows:List (List D)) (hp:st.slotAt p= .d (.ref id 0 es rows.length)) (hrow:qf8 st.os id=true) (hc:qi st.os id=rows.flatten.map .d) (hes: ∀r∈rows,r.length=es)
   (hcl: ∀d∈rows.flatten,d.isCell=true) (hok:D.okWR (neId id) rows=true) (hk:k0<=id) (hn:p.notIn id) (r:Turn k0 (st.o2u p id es rows) st2):Turn k0 st st2
 |frz {st st2:St} (id es:Nat) (rows:List (List D)) (hc:(qi st.os id).map ASlot.cellD=rows.flatten) (hcc:(qi st.os id).all ASlot.isCellD=true) (hes: ∀r∈rows,r.length=es)
   (hok:D.okWR (neId id) rows=true) (hk:k0<=id) (r:Turn k0 (st.frz id es rows) st2):Turn k0 st st2
 |u2own {st st2:St} (p:Pos) (t es:Nat) (rows:List (List D)) (hp:st.slotAt p= .uni t es rows) (ht:t∈st.live) (r:Turn k0 (st.u2own p t es rows) st2):Turn k0 st st2
 |ren {st st2:St} (ι:List Nat) (os':List AObj) (hn:ι.Nodup) (hl:ι≠ []) (hp:xhy k0 os'.length ι=true) (ho:q86 ι os' ι st.os) (r:Turn k0 (st.renN ι os') st2):Turn k0 st st2
section
variable {N:Nat} {T T':Nat→Prop} {g g0 g':Ghost} {w w0:World} {st st':St} {a:Act} {k0:Nat}
theorem qkr (f:ASlot->ASlot) (k:Nat): ∀fr:Fr,(Fr.mapS f fr).get k=(fr.get k).map λx=>(x.1,f x.2)
 | []=>rfl
 |(j,v,s)::l=>by
  simp only[Fr.mapS,Fr.get];split
  ·rfl
  ·exact qkr f k l
def xrf (st:St):Pos->Prop
 | .fr _=>True
 | .cell id i=>i<(qi st.os id).length
theorem qhj (hs:SR N T g w st a) {p:Pos} {s:ASlot} (h:st.slotAt p=s) (q:s≠ .bad) (d: ∀l,s≠ .tup l):
  ∃v,At g w a p v∧RC g w st.live v s∧xrf st p:=by
 subst h;cases p with
 |fr k=>
  simp only[St.slotAt]at q d⊢;cases hk:st.fr.get k with
  |none=>grind
  |some x=>
   obtain⟨v,s⟩:=x;cases v with
   |false=>grind
   |true=>
    rw[hk]at d;exact⟨_,rfl,qac ((hs.slots k true s hk).1 rfl) d,trivial⟩
 |cell id i=>
  simp only[St.slotAt]at q d⊢;by_cases hi:i<(qi st.os id).length
  ·have hg:(qi st.os id).getD i .bad=(qi st.os id)[i]:=by grind
   unfold qi at hi;cases ho:st.os[id]?with
   |none=>grind
   |some o=>
    rw[ho]at hi;simp only at hi;obtain⟨b,hb,t⟩:=(hs.objs id o ho (by rintro rfl;grind[AObj.cells])).block (λh=>by grind);have m:qi st.os id=o.cells:=by simp[qi,ho]
    cases o with
    |none=>exact t.elim
    |row cs=>
     obtain⟨c,e,q1,q2,q3⟩:=t;have hcells':qi st.os id=cs:=m;obtain⟨v,v1,v2,v3⟩:=q3 i cs[i] (List.getElem?_eq_getElem hi);refine⟨v,⟨b,c,e,hb,q1,v1,v2⟩,?_,by show i<(qi st.os id).length;grind⟩;grind
    |map _ _=>grind[AObj.cells]
    |iter _ _ _ _=>grind[AObj.cells]
  grind
theorem qhk (hs:SR N T g w st a) {p:Pos} {v:Value} {s':ASlot} (G:At g w a p v) (hp:xrf st p)
  (u:RC g w st.live v s') (ht: ∀t∈s'.toks,T t):SR N T g w (st.setPos s' p) a:=by
 cases p with
 |fr k=>
  refine⟨hs.dom,hs.defers,hs.size,λk' v' s l=> ?_,hs.objs,hs.inj,hs.ids,⟨hs.wf.live,λk' s l=> ?_,hs.wf.os⟩⟩
  ·simp only[St.setPos,Fr.get]at l;split at l
   ·rename_i he;subst he;cases l;have F:v=a.tmps.getD k undef:=G;exact⟨λ_=>by rw[<- F];exact jk u,by simp⟩
   ·exact hs.slots k' v' s l
  ·simp only[St.setPos,Fr.get]at l;split at l
   ·grind
   ·exact hs.wf.fr k' s l
 |cell id i=>
  obtain⟨b,c,e,J,U,M,z⟩:=G;have hp:i<(qi st.os id).length:=hp;obtain⟨c',e',R,r2,r3⟩:=qoj hs J (q58 (by omega));rw[U]at R;cases R;have C:id<st.os.length:=by
   obtain⟨o,d,_⟩:=hs.ids b id J;grind
  refine⟨hs.dom,hs.defers,hs.size,hs.slots,λi' o d hn=> ?_,hs.inj,λb' i' O=> ?_,⟨hs.wf.live,hs.wf.fr,λi' o d s m t q=> ?_⟩⟩
  ·simp only[St.setPos]at d;by_cases hi:id=i'
   ·subst hi;rw[jBv C]at d;cases d;refine .inl ⟨b,J,c,e,U,by grind,λj s I=> ?_⟩;by_cases E:i=j
    ·subst E;rw[jBv hp]at I;cases I;exact⟨v,M,z,u⟩
    ·rw[jBk E]at I;exact r3 j s I
   ·rw[jBk hi]at d;exact hs.objs i' o d hn
  ·simp only[St.setPos];obtain⟨o,d,hne⟩:=hs.ids b' i' O;grind
  ·simp only[St.setPos]at d;by_cases hi:id=i'
   ·subst hi;rw[jBv C]at d;cases d;simp only[AObj.cells]at m;rcases jD7 m with h|h
    ·obtain⟨o,d,_⟩:=hs.ids b id J;have hcells:qi st.os id=o.cells:=by simp[qi,d]
     exact hs.wf.os id o d s (by grind) t q
    grind
   ·rw[jBk hi]at d;exact hs.wf.os i' o d s m t q
theorem qks {b:Nat} {r:Role} (hb:(∃t,g b= .uni t)∨ ∃id,g b= .obj id∧k0<=id): ∀k,g k= .out->g.at b r k= .out:=λk hk=>by
 rw[Ghost.at_ne g _ (by grind)];exact hk
theorem G.role (e:G g0 w0 g w) (h0: ∀b id,g0 b= .obj id->id<k0) {b:Nat} {r:Role} (hb:(∃t,g b= .uni t)∨ ∃id,g b= .obj id∧k0<=id):G g0 w0 (g.at b r) w:=by
 have key: ∀k,k≠b->g.at b r k=g k:=λk d=>Ghost.at_ne g _ d;refine⟨e.os,e.tape,e.output,e.size,λk d h=> ?_,λk n d h=> ?_,λk n t d h=> ?_,λk id d h=> ?_⟩
 ·obtain⟨l,i⟩:=e.out k d h;grind
 ·obtain⟨l,i⟩:=e.rowN k n d h;grind
 ·obtain⟨n',o',l,i⟩:=e.rowS k n t d h;grind
 ·obtain⟨l,i⟩:=e.obj k id d h;grind
theorem qnh {t b:Nat} {r:Role} (hb:g b= .uni t):RowsKept g w (g.at b r) w:=λk n o hg=>⟨n,o,by rw[Ghost.at_ne g _ (by grind)];exact hg,jAh _,λ_ _ _ h=>h⟩
theorem qat {t:Nat} {b:Nat} {r:Role} {live:List Nat} (hb:g b= .uni t) {v:Value} {s:ASlot} (h:RC g w live v s):RC (g.at b r) w (live.filter λu=> !(u==t)) v s:=by
 have key: ∀k,k≠b->g.at b r k=g k:=λk z=>Ghost.at_ne g _ z;have m:RowsKept g w (g.at b r) w:=by
  intro k n o z;grind
 have p: ∀k id,g k= .obj id->g.at b r k= .obj id∧qcw w k<=qcw w k:=by
  grind
 have i: ∀{v:Value} {d:D},RV g w v d->RV (g.at b r) w v d:=λh=>h.mono m p;cases s with
 |d x=>exact i h
 |own t' es rows=>
  refine⟨i h.1,λq=> ?_⟩;rcases h.2 (jBs.1 q).1 with hf|⟨c,cap,E,e,h1,h2,h3⟩
  ·exact .inl hf
  ·refine .inr ⟨c,cap,E,e,h1,?_,h3⟩;grind
 |uni t' es rows=>
  refine⟨h.1,λq=>(h.2 (jBs.1 q).1).mono (λk z=>⟨?_,rfl⟩) (λ_ _=>i)⟩;grind
 |full es rows=>exact⟨i h.1,h.2⟩
 |rd cells=>
  obtain⟨c,off,n,o,f,rfl,hg,hn,hc⟩:=h;obtain⟨n',o',C,hnn,hcell⟩:=m c n o hg;refine⟨c,off,n',o',f,rfl,C,by omega,λj d hj=> ?_⟩;grind
 |tup l=>exact h.elim
 |bad=>trivial
theorem q6i {live live':List Nat} {f:ASlot->ASlot} (hf: ∀{v:Value} {s:ASlot},RC g w live v s->RC g' w live' v (f s)) (d: ∀l,f (.tup l)= .tup l∨f (.tup l)= .bad) (m: ∀l,f (.tup l)= .tup l-> ∀s∈l,∀v,RC g w live v s->RC g' w live' v s)
  {v:Value} {s:ASlot} (h:RS g w live v s):RS g' w live' v (f s):=by
 by_cases ht: ∃l,s= .tup l
 ·obtain⟨l,rfl⟩:=ht;rcases d l with e|e
  ·rw[e];obtain⟨vs,q1,q2,q3⟩:=h;exact⟨vs,q1,q2,λi u s hu hs=>m l e s (List.mem_of_getElem? hs) u (q3 i u s hu hs)⟩
  ·rw[e];trivial
 grind[jk,qac]
theorem SR.uniRole (hs:SR N T g w st a) {t b:Nat} {r:Role} (q:g b= .uni t) (hr: ∀id,r≠ .obj id):SR N T (g.at b r) w {st with live:=st.live.filter λu=> !(u==t)} a:=by
 have key: ∀k,k≠b->g.at b r k=g k:=λk d=>Ghost.at_ne g _ d;have back: ∀k id,g.at b r k= .obj id->g k= .obj id:=by
  grind[id,Ghost.at_same]
 refine⟨⟨λk d=> ?_,hs.dom.2.ghost λk n d=>by rw[key k (by rintro rfl;rw[q]at d;cases d)];exact d⟩,hs.defers,hs.size,λk v s d=> ?_,λi o ho hn=> ?_,λk k' i d F=>hs.inj k k' i (back k i d) (back k' i F),λk i d=>hs.ids k i (back k i d),⟨λu hu=>hs.wf.live u (List.mem_filter.1 hu).1,hs.wf.fr,hs.wf.os⟩⟩
 ·have E:k≠b:=by rintro rfl;rw[hs.dom.1 k d]at q;cases q
  rw[key k E];exact hs.dom.1 k d
 ·obtain⟨h1,h2⟩:=hs.slots k v s d;exact⟨λz=>q6i (f:=id) (qat q) (λl=> .inl rfl) (λl _ s _ v h=>qat q h) (h1 z),h2⟩
 ·rcases hs.objs i o ho hn with⟨c,hc,p⟩|⟨z,C⟩;case inr=>exact .inr ⟨z,λk d=>C k (back k i d)⟩
  refine .inl ⟨c,by grind,?_⟩;cases o with
  |none=>grind
  |row cs=>
   obtain⟨cc,e,q1,q2,q3⟩:=p;exact⟨cc,e,q1,q2,λj s hj=>by grind[qat]⟩
  |map es clock=>exact MapIs.mono p (qnh q) rfl
  |iter m since seen last=>exact IterIs.mono (R:=λv=>RC g w st.live v m) (R':=λv=>RC _ w (st.live.filter λu=> !(u==t)) v m) p rfl (λo z=>qat q z)
theorem qv5 {live:List Nat} {t:Nat} {v:Value} {s:ASlot} (h:RC g w live v s):RC g w (live.filter λu=> !(u==t)) v s:=by
 cases s with
 |own t' es rows=>exact⟨h.1,λd=>h.2 (jBs.1 d).1⟩
 |uni t' es rows=>exact⟨h.1,λd=>h.2 (jBs.1 d).1⟩
 | _=>exact h
theorem SR.less (hs:SR N T g w st a) (t:Nat):SR N T g w {st with live:=st.live.filter λu=> !(u==t)} a:=by
 refine⟨hs.dom,hs.defers,hs.size,λk v s hk=> ?_,λi o ho hn=> ?_,hs.inj,hs.ids,⟨λu hu=>hs.wf.live u (jBs.1 hu).1,hs.wf.fr,hs.wf.os⟩⟩
 ·obtain⟨h1,h2⟩:=hs.slots k v s hk;exact⟨λp=>q6i (f:=id) qv5 (λl=> .inl rfl) (λl _ s _ v h=>qv5 h) (h1 p),h2⟩
 ·rcases hs.objs i o ho hn with⟨c,hc,d⟩|p;case inr=>exact .inr p
  refine .inl ⟨c,hc,?_⟩;cases o with
  |none=>grind
  |row cs=>
   obtain⟨cc,e,q1,q2,q3⟩:=d;exact⟨cc,e,q1,q2,λj s hj=>by obtain⟨v,v1,v2,v3⟩:=q3 j s hj;simp_all[qv5]⟩
  |map es clock=>exact d
  |iter m since seen last=>exact IterIs.mono (R:=λv=>RC g w st.live v m) (R':=λv=>RC g w (st.live.filter λu=> !(u==t)) v m) d rfl (λo p=>qv5 p)
theorem SR.addObj (hs:SR N T g w st a) {t b:Nat} {cs:List ASlot} {p:Array Value} {e:TypeId} (M:g b= .uni t) (hh:w.heap[b]? =some (.cells p e (0,0))) (hl:cs.length<=p.size)
  (hc: ∀(i:Nat) (s:ASlot),cs[i]? =some s-> ∃u,p[i]? =some u∧u.oneCell'=true∧RC g w st.live u s) (ht: ∀s∈cs,s.toks= []):
  SR N T (g.at b (.obj st.os.length)) w {st with os:=st.os++ [.row cs],live:=st.live.filter λu=> !(u==t)} a:=by
 have key: ∀k,k≠b->g.at b (.obj st.os.length) k=g k:=λk d=>Ghost.at_ne g _ d;have hno: ∀k,g k≠ .obj st.os.length:=by
  intro k d;obtain⟨o,G,_⟩:=hs.ids k _ d;grind
 have C: ∀(i:Nat) (o:AObj),(st.os++ [AObj.row cs])[i]? =some o->st.os[i]? =some o∨(i=st.os.length∧o= .row cs):=by
  grind
 refine⟨⟨λk d=> ?_,hs.dom.2.ghost λk n d=>by rw[key k (by rintro rfl;rw[M]at d;cases d)];exact d⟩,hs.defers,hs.size,λk v s d=> ?_,λi o G hn=> ?_,λk k' i d J=> ?_,λk i d=> ?_,⟨λu hu=>hs.wf.live u (List.mem_filter.1 hu).1,hs.wf.fr,λi o G s F t q=> ?_⟩⟩
 ·have I:k≠b:=by grind
  rw[key k I];exact hs.dom.1 k d
 ·obtain⟨O,U⟩:=hs.slots k v s d;exact⟨λE=>q6i (f:=id) (qat M) (λl=> .inl rfl) (λl _ s _ v h=>qat M h) (O E),U⟩
 ·rcases C i o G with h|⟨rfl,rfl⟩
  ·rcases hs.objs i o h hn with⟨c,hc',z⟩|⟨E,hno'⟩;case inr=>
    refine .inr ⟨E,λk d=> ?_⟩;grind[Ghost.at_same,List.getElem?_eq_some_iff]
   refine .inl ⟨c,by grind,?_⟩;cases o with
   |none=>grind
   |row cs'=>
    obtain⟨cc,e',q1,q2,q3⟩:=z;exact⟨cc,e',q1,q2,λj s hj=>by grind[qat]⟩
   |map es clock=>exact MapIs.mono z (qnh M) rfl
   |iter m since seen last=>exact IterIs.mono (R:=λv=>RC g w st.live v m) (R':=λv=>RC _ w (st.live.filter λu=> !(u==t)) v m) z rfl (λo E=>qat M E)
  ·refine .inl ⟨b,Ghost.at_same _ _ _,p,e,hh,hl,λj s hj=> ?_⟩;grind[qat]
 ·by_cases O:k=b<;>by_cases U:k'=b
  ·omega
  ·grind[Ghost.at_same]
  ·grind[Ghost.at_same]
  ·rw[key k O]at d;rw[key k' U]at J;exact hs.inj k k' i d J
 ·by_cases O:k=b
  ·simp_all[Ghost.at_same]
  ·rw[key k O]at d;obtain⟨o,G,I⟩:=hs.ids k i d;grind
 ·rcases C i o G with h|⟨rfl,rfl⟩
  ·exact hs.wf.os i o h s F t q
  ·rw[ht s F]at q;cases q
theorem SR.addVoid (hs:SR N T g w st a):SR N T g w {st with os:=st.os++ [.row []]} a:=by
 have d: ∀(i:Nat) (o:AObj),(st.os++ [AObj.row []])[i]? =some o->st.os[i]? =some o∨(i=st.os.length∧o= .row []):=by
  grind
 refine⟨hs.dom,hs.defers,hs.size,hs.slots,λi o l hn=> ?_,hs.inj,λk i hk=> ?_,⟨hs.wf.live,hs.wf.fr,λi o l s e t m=> ?_⟩⟩
 ·rcases d i o l with h|⟨rfl,rfl⟩
  ·exact hs.objs i o h hn
  ·refine .inr ⟨rfl,λb hb=> ?_⟩;obtain⟨o,l,_⟩:=hs.ids b _ hb;grind
 ·obtain⟨o,l,hne⟩:=hs.ids k i hk;grind
 ·rcases d i o l with h|⟨rfl,rfl⟩
  ·exact hs.wf.os i o h s e t m
  ·cases e
structure DropG (g:Ghost) (w:World) (id:Nat) (g':Ghost):Prop where
 dom:Dom g' w
 row: ∀k n o,g k= .row n o->g' k= .row n o
 uni: ∀k t,g k= .uni t->g' k= .uni t
 obj: ∀k i,i≠id->g k= .obj i->g' k= .obj i
 back: ∀k i,g' k= .obj i->g k= .obj i∧i≠id
theorem DropG.kept {id:Nat} (hD:DropG g w id g'):RowsKept g w g' w:=λ_ n o hg=>⟨n,o,hD.row _ n o hg,jAh _,λ_ _ _ h=>h⟩
theorem qjh (hs:SR N T g w st a) {id b:Nat} {r:Role} (e:g b= .obj id) (hr: ∀i,r≠ .obj i):DropG g w id (g.at b r):=by
 have key: ∀k,k≠b->g.at b r k=g k:=λk d=>Ghost.at_ne g _ d;refine⟨⟨λk d=> ?_,hs.dom.2.ghost λk n d=>by rw[key k (by rintro rfl;rw[e]at d;cases d)];exact d⟩,λk n o d=> ?_,λk t d=> ?_,λk i hi d=> ?_,λk i d=> ?_⟩
 ·have h:k≠b:=by rintro rfl;rw[hs.dom.1 k d]at e;cases e
  rw[key k h];exact hs.dom.1 k d
 ·grind
 ·grind
 ·grind
 ·by_cases l:k=b
  ·grind[Ghost.at_same]
  ·rw[key k l]at d;exact⟨d,by rintro rfl;exact l (hs.inj k b i d e)⟩
theorem qtn (hs:SR N T g w st a) {id:Nat} (hb: ∀b,g b≠ .obj id):DropG g w id g:=
 ⟨hs.dom,λ_ _ _ h=>h,λ_ _ h=>h,λ_ _ _ h=>h,λk i hk=>⟨hk,by grind⟩⟩
theorem DropG.rowsKept {id:Nat} (hD:DropG g w id g'):RowsKept g w g' w:=λb n o h=>⟨n,o,hD.row b n o h,jAh _,λ_ _ _ h=>h⟩
theorem DropG.rv {id:Nat} (e:DropG g w id g') {v:Value} {d:D} (h:RV g w v d) (hk:d.okW (neId id)=true):RV g' w v d:=
 h.okW e.rowsKept (λb i hi hb=>⟨e.obj b i (by rintro rfl;grind[neId]) hb,Nat.le_refl _⟩) hk
theorem DropG.rc {id:Nat} (m:DropG g w id g') {live:List Nat} {v:Value} {s:ASlot} (h:RC g w live v s) (q:s.okS (neId id)=true):RC g' w live v s:=by
 have i: ∀{es:Nat} {rows:List (List D)},D.okWR (neId id) rows=true->(D.sl es rows).okW (neId id)=true:=λh=>by grind[D.okW]
 cases s with
 |d x=>exact m.rv h q
 |own t es rows=>
  refine⟨m.rv h.1 (i q),λC=> ?_⟩;rcases h.2 C with E|⟨c,cap,p,e,I,G,F⟩
  ·exact .inl E
  ·exact .inr ⟨c,cap,p,e,I,m.row _ _ _ G,F⟩
 |uni t es rows=>
  refine⟨h.1,λC=> ?_⟩;rcases h.2 C with E|⟨c,cap,p,e,I,G,F,h4,h5,h6,h7,h8⟩
  ·exact .inl E
  ·refine .inr ⟨c,cap,p,e,I,m.uni _ _ G,F,h4,h5,h6,h7,λj d z=> ?_⟩;obtain⟨c1,u,c2,c3⟩:=h8 j d z;exact⟨c1,u,c2,m.rv c3 ((D.okWR_iff _ rows).1 q d (List.mem_of_getElem? z))⟩
 |full es rows=>exact⟨m.rv h.1 (i q),h.2⟩
 |rd cells=>
  obtain⟨c,off,n,o,f,rfl,hg,hn,hc⟩:=h;refine⟨c,off,n,o,f,rfl,m.row _ _ _ hg,hn,λj d z=> ?_⟩;obtain⟨c1,c2,c3⟩:=hc j d z;exact⟨c1,c2,m.rv c3 ((D.okWL_iff _ cells).1 q d (List.mem_of_getElem? z))⟩
 |tup l=>exact h.elim
 |bad=>trivial
structure MapOk (g:Ghost) (w:World) (live:List Nat) (g':Ghost) (f:ASlot->ASlot):Prop where
 rc: ∀{v:Value} {s:ASlot},RC g w live v s->RC g' w live v (f s)
 tup: ∀l,f (.tup l)= .tup l∨f (.tup l)= .bad
 id: ∀l,f (.tup l)= .tup l-> ∀s∈l,∀v,RC g w live v s->RC g' w live v s
 toks: ∀s,∀t∈(f s).toks,t∈s.toks
theorem qp8 {f:AObj->AObj} {os:List AObj} {id i:Nat} {o:AObj} (h:((os.map f).set id .none)[i]? =some o):(i=id∧o= .none)∨(i≠id∧ ∃o',os[i]? =some o'∧o=f o'):=by
 grind
theorem SR.dropMap (hs:SR N T g w st a) {id:Nat} (p:DropG g w id g') {f:ASlot->ASlot} (u:MapOk g w st.live g' f):
  SR N T g' w {fr:=Fr.mapS f st.fr,os:=(st.os.map (AObj.mapS f)).set id .none,live:=st.live,nt:=st.nt} a:=by
 refine⟨p.dom,hs.defers,hs.size,λk v s h=> ?_,λi o F hn=> ?_,λk k' i h M=>hs.inj k k' i (p.back k i h).1 (p.back k' i M).1,λk i h=> ?_,⟨hs.wf.live,λk s h t I=> ?_,λi o F s d t I=> ?_⟩⟩
 ·simp only[qkr,jAb]at h;obtain⟨⟨v',s'⟩,l,C⟩:=h;simp only[jCx]at C;obtain⟨rfl,rfl⟩:=C;obtain⟨G,X⟩:=hs.slots k v' s' l;exact⟨λz=>q6i u.rc u.tup u.id (G z),X⟩
 ·rcases qp8 F with⟨rfl,rfl⟩|⟨hi,o',l,rfl⟩
  ·grind
  ·cases o' with
   |none=>exact(hn rfl).elim
   |row cs=>
    rcases hs.objs i _ l (by simp)with⟨c,hc,cc,e,G,X,q3⟩|⟨z,J⟩;case inr=>
     have:cs= []:=by grind
     subst this;exact .inr ⟨rfl,λk h=>J k (p.back k i h).1⟩
    refine .inl ⟨c,p.obj c i hi hc,cc,e,G,by grind,λj s Y=> ?_⟩;rw[jAn,jAb]at Y;obtain⟨E,U,rfl⟩:=Y;obtain⟨v,v1,v2,v3⟩:=q3 j E U;exact⟨v,v1,v2,u.rc v3⟩
   |map es c=>
    rcases hs.objs i _ l (by simp)with⟨b,O,q⟩|⟨z,_⟩
    ·exact .inl ⟨b,p.obj b i hi O,MapIs.mono q p.kept rfl⟩
    grind
   |iter m since seen last=>
    rcases hs.objs i _ l (by simp)with⟨b,O,q⟩|⟨z,_⟩
    ·exact .inl ⟨b,p.obj b i hi O,IterIs.mono (R:=λv=>RC g w st.live v m) (R':=λv=>RC g' w st.live v (f m)) q rfl (λo z=>u.rc z)⟩
    grind
 ·obtain⟨l,C⟩:=p.back k i h;obtain⟨o,F,hne⟩:=hs.ids k i l;refine⟨AObj.mapS f o,?_,?_⟩
  ·grind
  ·cases o with
   |none=>grind
   | _=>simp[AObj.mapS]
 ·simp only[qkr,jAb]at h;obtain⟨⟨v',s'⟩,l,C⟩:=h;simp only[jCx]at C;obtain⟨rfl,rfl⟩:=C;exact hs.wf.fr k s' l t (u.toks s' t I)
 ·rcases qp8 F with⟨rfl,rfl⟩|⟨hi,o',l,rfl⟩
  ·cases d
  ·cases o' with
   |none=>cases d
   |row cs=>
    simp only[AObj.mapS,AObj.cells,jAo]at d;obtain⟨E,U,rfl⟩:=d;exact hs.wf.os i _ l E U t (u.toks E t I)
   | _=>cases d
theorem qzk (keep:Nat->Bool) (s:ASlot): ∀t∈(s.only keep).toks,t∈s.toks:=by
 intro t d;unfold ASlot.only at d;split at d
 ·exact d
 ·cases d
theorem q6j {id:Nat} (i:DropG g w id g') (live:List Nat):MapOk g w live g' (ASlot.only (neId id)):=by
 refine⟨λ{v s} h=> ?_,λl=> ?_,λl e s hs v h=> ?_,qzk _⟩
 ·unfold ASlot.only;split
  ·rename_i d;exact i.rc h d
  ·trivial
 ·unfold ASlot.only;simp
 ·unfold ASlot.only at e;split at e
  ·rename_i d;simp only[ASlot.okS,jAx]at d;have:=d s hs;refine i.rc h ?_;cases s with
   |tup l'=>exact h.elim
   |bad=>rfl
   | _=>exact this
  grind
theorem xmy {id es:Nat} {rows:List (List D)} (m:DropG g w id g') (hsl: ∀v,RV g w v (.ref id 0 es rows.length) ->RV g' w v (.sl es rows)) {v:Value} {d:D} (h:RV g w v d) (l:(d.frz id es rows).okW (neId id)=true):
  RV g' w v (d.frz id es rows):=by
 cases d with
 |ref i off e n=>
  simp only[D.frz]at l⊢;split
  ·grind
  ·rename_i hc;rw[if_neg hc]at l;exact m.rv h l
 | _=>exact m.rv h l
theorem q87 {id es:Nat} {rows:List (List D)} (d:D):(d.frz id es rows).isCell=d.isCell:=by
 cases d<;>first|rfl|(simp only[D.frz];split<;>rfl)
theorem xce {id es:Nat} {rows:List (List D)} (o:DropG g w id g') (e: ∀v,RV g w v (.ref id 0 es rows.length) ->RV g' w v (.sl es rows)) (live:List Nat):MapOk g w live g' (λs=>(s.frz id es rows).only (neId id)):=by
 have u:=q6j o live;refine⟨λ{v s} h=> ?_,λl=>u.tup l,λl hl=>u.id l hl,λs t ht=> ?_⟩
 ·unfold ASlot.only;split
  ·rename_i i;cases s with
   |d x=>
    cases x with
    |agg cs=>
     simp only[ASlot.frz,ASlot.okS,D.okW,D.okWL_iff]at i;obtain⟨vs,rfl,h1,h2,h3⟩:=qdh (show RV g w v (.agg cs)from h);refine RV.agg vs (cs.map (D.frz id es rows)) (by grind) (λd m=> ?_) (λj v d hv m=> ?_)
     ·obtain⟨q,p,rfl⟩:=List.mem_map.1 m;grind[q87]
     ·rw[List.getElem?_map,Option.map_eq_some_iff]at m;obtain⟨q,p,rfl⟩:=m;exact xmy o e (h3 j v q hv p) (i _ (List.mem_map.2 ⟨q,List.mem_of_getElem? p,rfl⟩))
    | _=>exact xmy o e h i
   | _=>exact o.rc h i
  ·trivial
 ·have:=qzk _ _ t ht;cases s with
  |d x=>cases x<;>simp[ASlot.frz,ASlot.toks]at this
  | _=>exact this
theorem SR.more (hs:SR N T g w st a) {t:Nat} (hT: ∀u,T u->u≠t) (p: ∀u,T u->T' u) (U:T' t) (n:Nat):SR N T' g w {st with live:=st.live++ [t],nt:=n} a:=by
 have rc: ∀{v:Value} {s:ASlot},RC g w st.live v s->(∀u∈s.toks,T u) ->RC g w (st.live++ [t]) v s:=by
  intro v s h hT';cases s with
  |own t' es rows=>
   refine⟨h.1,λhl=>h.2 ?_⟩;grind[ASlot.toks]
  |uni t' es rows=>
   refine⟨h.1,λhl=>h.2 ?_⟩;grind[ASlot.toks]
  | _=>exact h
 refine⟨hs.dom,hs.defers,hs.size,λk v s G=> ?_,λi o F hn=> ?_,hs.inj,hs.ids,⟨λu d=> ?_,λk s G u d=>p u (hs.wf.fr k s G u d),λi o F s O u d=>p u (hs.wf.os i o F s O u d)⟩⟩
 ·obtain⟨h1,h2⟩:=hs.slots k v s G;refine⟨λq=> ?_,h2⟩;have hw: ∀u∈s.toks,T u:=by subst q;exact hs.wf.fr k s G
  have E:=h1 q;by_cases U: ∃l,s= .tup l
  ·obtain⟨l,rfl⟩:=U;obtain⟨vs,M,J,I⟩:=E;refine⟨vs,M,J,λi u s' d z=> ?_⟩;have C:=I i u s' d z;refine rc C (λx hx=>hw x ?_);simp only[ASlot.toks,List.mem_flatMap];refine⟨s',List.mem_of_getElem? z,?_⟩;cases s' with
   |tup l'=>exact C.elim
   | _=>exact hx
  grind[jk,qac]
 ·rcases hs.objs i o F hn with⟨b,hb,E⟩|q;case inr=>exact .inr q
  refine .inl ⟨b,hb,?_⟩;cases o with
  |none=>grind
  |row cs=>
   obtain⟨c,e,M,J,I⟩:=E;exact⟨c,e,M,J,λj s X=>by
    obtain⟨v,v1,v2,v3⟩:=I j s X;exact⟨v,v1,v2,rc v3 (hs.wf.os i _ F s (List.mem_of_getElem? X))⟩⟩
  |map es clock=>exact E
  |iter m since seen last=>exact IterIs.mono (R:=λv=>RC g w st.live v m) (R':=λv=>RC g w _ v m) E rfl (λo q=>rc q (by grind[qph]))
 ·rcases List.mem_append.1 d with h|h
  ·exact p u (hs.wf.live u h)
  grind
theorem qji (st:St) (s:ASlot) (p:Pos):(st.setPos s p).live=st.live∧(st.setPos s p).nt=st.nt:=by cases p<;>exact⟨rfl,rfl⟩
theorem qni {os:List AObj} {o:AObj} {id:Nat} (h:id<os.length):qi (os++ [o]) id=qi os id:=by
 grind[qi,List.getElem?_append_left]
theorem q3m {os:List AObj} {id i:Nat} (h:i<(qi os id).length):id<os.length:=by
 grind[id,qi,List.getElem?_eq_none]
theorem xhz (hs:SR N T g w st a) (R:G g0 w0 g w) (h0: ∀b id,g0 b= .obj id->id<k0) {p:Pos} {t es:Nat} {rows:List (List D)} (hp:st.slotAt p= .uni t es rows) (ht:t∈st.live):
  ∃g',SR N T g' w (st.u2o p t es rows) a∧G g0 w0 g' w∧ ∀b,g b= .out->g' b= .out:=by
 obtain⟨v,m,I,l⟩:=qhj hs hp (by simp) (by simp);rcases I.2 ht with⟨ad,rfl,rfl⟩|⟨b,cap,O,e,rfl,o,h3,X,h5,h6,h7,h8⟩
 ·have E:=qhk (s':= .d (.ref st.os.length 0 es 0)) hs m l (RV.refnil ad _ 0 es) (by simp[ASlot.toks]);have o:=E.addVoid.less t;refine⟨g,?_,R,λ_ h=>h⟩;have hl:=(qji st (.d (.ref st.os.length 0 es 0)) p).1;simp only[hl]at o;exact o
 ·have J:rows.flatten.length=rows.length*es:=xi h7;have M:(rows.flatten.map ASlot.d).length<=O.size:=by
   rw[List.length_map,J];have:=Nat.mul_le_mul_right es X;omega
  have E:=hs.addObj (cs:=rows.flatten.map .d) o h3 M (λi s hi=>by
   simp only[List.getElem?_map,Option.map_eq_some_iff]at hi;obtain⟨d,hd,rfl⟩:=hi;obtain⟨c1,u,c2,c3⟩:=h8 i d hd;exact⟨u,c2,c3.oneCell c1,c3⟩) (λs F=>by obtain⟨d,_,rfl⟩:=List.mem_map.1 F;rfl)
  have q:RV (g.at b (.obj st.os.length)) w (.slice (some ⟨b,0,none⟩) rows.length cap) (.ref st.os.length 0 es rows.length):=
   .ref b 0 _ es _ cap (Ghost.at_same _ _ _) X h5 (by grind[k7])
  refine⟨g.at b (.obj st.os.length),?_,R.role h0 (.inl ⟨t,o⟩),qks (k0:=k0) (.inl ⟨t,o⟩)⟩;cases p with
  |fr k=>exact qhk (p:= .fr k) (s':= .d (.ref st.os.length 0 es rows.length)) E m trivial q (by simp[ASlot.toks])
  |cell id i=>
   have l:i<(qi st.os id).length:=l;have z:=q3m l;obtain⟨b',c',e',q1,q2⟩:=m;have C:At (g.at b (.obj st.os.length)) w a (.cell id i) (.slice (some ⟨b,0,none⟩) rows.length cap):=
    ⟨b',c',e',by rw[Ghost.at_ne g _ (by grind)];exact q1,q2⟩
   have U:=qhk (p:= .cell id i) (s':= .d (.ref st.os.length 0 es rows.length)) E C (by show i<(qi (st.os++ [_]) id).length;grind[qni]) q (by simp[ASlot.toks]);simp only[St.setPos,qni z,List.set_append_left _ _ z]at U;exact U
theorem q88 (hs:SR N (below st.nt) g w st a) (hG:G g0 w0 g w) (h0: ∀b id,g0 b= .obj id->id<k0) {p:Pos} {t es:Nat} {rows:List (List D)} (hp:st.slotAt p= .uni t es rows) (ht:t∈st.live):
  ∃g',SR N (below (st.nt+1)) g' w (st.u2own p t es rows) a∧G g0 w0 g' w∧ ∀b,g b= .out->g' b= .out:=by
 obtain⟨v,m,U,z⟩:=qhj hs hp (by simp) (by simp);have fr1: ∀u,below st.nt u->u≠16*st.nt:=λu hu=>by grind[below]
 have fr2: ∀u,below st.nt u->below (st.nt+1) u:=λu hu=>by grind[below]
 have fr3:below (st.nt+1) (16*st.nt):=by grind[below]
 have I: ∀{F:Ghost},SR N (below st.nt) F w {st with live:=st.live.filter λu=> !(u==t)} a->At F w a p v->RC F w ((st.live.filter λu=> !(u==t))++ [16*st.nt]) v (.own (16*st.nt) es rows) ->
   SR N (below (st.nt+1)) F w (st.u2own p t es rows) a:=by
  intro F h1 E M;have J:=h1.more fr1 fr2 fr3 (st.nt+1);have h5:=qhk (s':= .own (16*st.nt) es rows) J E (by cases p<;>exact z) M (by grind[ASlot.toks])
  cases p<;>exact h5
 rcases U.2 ht with⟨ad,rfl,rfl⟩|⟨b,cap,q,e,rfl,E,M,J,h5,h6,h7,h8⟩
 ·exact⟨g,I (hs.less t) m ⟨.nilsl ad 0 es (λ_=>rfl),λ_=> .inl ⟨ad,rfl⟩⟩,hG,λ_ h=>h⟩
 ·have Y:rows.flatten.length=rows.length*es:=xi h7;have h1:=hs.uniRole (r:= .row (rows.length*es) (some (16*st.nt))) E (by simp);have C: ∀k i,g k= .obj i->g.at b (.row (rows.length*es) (some (16*st.nt))) k= .obj i∧qcw w k<=qcw w k:=λk i X=>⟨by rw[Ghost.at_ne g _ (by grind)];exact X,Nat.le_refl _⟩;have R:RowsKept g w (g.at b (.row (rows.length*es) (some (16*st.nt)))) w:=λk n o X=>⟨n,o,by rw[Ghost.at_ne g _ (by grind)];exact X,Nat.le_refl _,λ_ _ _ h=>h⟩;refine⟨_,I h1 ?_ ⟨?_,λ_=> .inr ⟨b,cap,q,e,rfl,Ghost.at_same _ _ _,M,J,h5,h6⟩⟩,hG.role h0 (.inl ⟨t,E⟩),qks (k0:=k0) (.inl ⟨t,E⟩)⟩
  ·cases p with
   |fr k=>exact m
   |cell id i=>
    obtain⟨b',c',e',q1,q2⟩:=m;exact⟨b',c',e',(C b' id q1).1,q2⟩
  ·refine qfm (vs:=(List.range rows.flatten.length).map λj=>q.getD j undef) M (Ghost.at_same _ _ _) (Nat.le_of_eq Y) h7 J ⟨by simp,λd Z=> ?_,λj v d O Z=> ?_⟩ (λj u hj=> ?_)
   ·grind[List.getElem?_of_mem]
   ·obtain⟨_,u,c2,c3⟩:=h8 j d Z;have l:j<rows.flatten.length:=(List.getElem?_eq_some_iff.1 Z).1;rw[List.getElem?_map,List.getElem?_range l]at O;simp only[Option.map_some,Option.some.injEq]at O;have:q.getD j undef=u:=by simp_all
    rw[<- O,this];exact c3.mono R C
   ·have l:j<rows.flatten.length:=by grind
    obtain⟨_,u',c2,_⟩:=h8 j _ (List.getElem?_eq_getElem l);rw[List.getElem?_map,List.getElem?_range l]at hj;simp_all
theorem xh0 (hs:SR N T g w st a) (C:G g0 w0 g w) (h0: ∀b id,g0 b= .obj id->id<k0) {id es:Nat} {rows:List (List D)} (hc:(qi st.os id).map ASlot.cellD=rows.flatten) (hcc:(qi st.os id).all ASlot.isCellD=true)
  (hes: ∀r∈rows,r.length=es) (hok:D.okWR (neId id) rows=true) (z:k0<=id): ∃g',SR N T g' w (st.frz id es rows) a∧G g0 w0 g' w∧ ∀b,g b= .out->g' b= .out:=by
 have hlen:(qi st.os id).length=rows.flatten.length:=by grind
 by_cases l: ∃b,g b= .obj id
 ·obtain⟨b,l⟩:=l;have q:=qjh (r:= .row rows.flatten.length none) hs l (by simp);refine⟨_,hs.dropMap q (xce q (λv h=> ?_) st.live),C.role h0 (.inr ⟨id,l,z⟩),qks (k0:=k0) (.inr ⟨id,l,z⟩)⟩;generalize i:D.ref id 0 es rows.length=y at h;cases h with
  |ref b' off' id' es' len cap hg hcap hm hsz=>
   cases i;have:b'=b:=hs.inj b' b id hg l;subst this;by_cases h00:rows.flatten= []
   ·exact .sl b' 0 cap es _ none rows (λ_=>undef) (Ghost.at_same _ _ _) (by omega) hcap hes (by grind) (by grind) (by grind)
   ·have hpos:0<rows.flatten.length:=by
     grind
    obtain⟨c,e,q1,q2,q3⟩:=qta hs l (by omega);have m: ∀(j:Nat) (d:D),rows.flatten[j]? =some d-> ∃u,c[j]? =some u∧RV g w u d∧d.isCell=true:=by
     intro j d p;rw[<- hc,List.getElem?_map,Option.map_eq_some_iff]at p;obtain⟨s,h1,rfl⟩:=p;grind[qvo,List.all_eq_true,List.mem_of_getElem?]
    refine .sl b' 0 cap es _ none rows (λj=>c.getD j undef) (Ghost.at_same _ _ _) (by omega) hcap hes (λd hd=> ?_) (λj d p=> ?_) (λj d p=> ?_)
    ·grind[List.getElem?_of_mem]
    ·obtain⟨u,u1,_⟩:=m j d p;simp_all[Nat.zero_add,World.cell?]
    ·obtain⟨u,u1,u2,_⟩:=m j d p;have:c.getD j undef=u:=by simp_all
     rw[this];exact q.rv u2 ((D.okWR_iff _ rows).1 hok d (List.mem_of_getElem? p))
  |refnil ad id' off' es'=>
   simp only[D.ref.injEq]at i;have o:rows= []:=List.eq_nil_of_length_eq_zero i.2.2.2;rw[o];exact .nilsl ad 0 _ (λ_=>rfl)
  | _=>cases i
 ·have t: ∀b,g b≠ .obj id:=λb h=>l ⟨b,h⟩;have q:=qtn hs t;refine⟨g,hs.dropMap q (xce q (λv h=> ?_) st.live),C,λ_ h=>h⟩;generalize i:D.ref id 0 es rows.length=y at h;cases h with
  |ref b' off' id' es' len cap hg hcap hm hsz=>grind
  |refnil ad id' off' es'=>
   simp only[D.ref.injEq]at i;have o:rows= []:=List.eq_nil_of_length_eq_zero i.2.2.2;rw[o];exact .nilsl ad 0 _ (λ_=>rfl)
  | _=>cases i
theorem qn7 {f:ASlot->ASlot} {os:List AObj} {id i:Nat} (h:i≠id):qi ((os.map (AObj.mapS f)).set id .none) i=(qi os i).map f:=by
 unfold qi;rw[jBk (λh'=>h h'.symm),jAn];cases os[i]?with
 |none=>rfl
 |some o=>cases o<;>rfl
theorem xh1 (hs:SR N (below st.nt) g w st a) (Y:G g0 w0 g w) (h0: ∀b id,g0 b= .obj id->id<k0) {p:Pos} {id es:Nat} {rows:List (List D)} (hp:st.slotAt p= .d (.ref id 0 es rows.length))
  (F:qf8 st.os id=true) (hc:qi st.os id=rows.flatten.map .d) (hes: ∀r∈rows,r.length=es) (hcl: ∀d∈rows.flatten,d.isCell=true) (hok:D.okWR (neId id) rows=true) (U:k0<=id) (hn:p.notIn id):
  ∃g',SR N (below (st.nt+1)) g' w (st.o2u p id es rows) a∧G g0 w0 g' w∧ ∀b,g b= .out->g' b= .out:=by
 obtain⟨v,M,I,o⟩:=qhj hs hp (by simp) (by simp);have fr1: ∀u,below st.nt u->u≠16*st.nt:=λu hu=>by grind[below]
 have fr2: ∀u,below st.nt u->below (st.nt+1) u:=λu hu=>by grind[below]
 have Z:below (st.nt+1) (16*st.nt):=by grind[below]
 have t: ∀{O:Ghost},DropG g w id O->UniOk O w (16*st.nt) es rows v->SR N (below (st.nt+1)) O w (st.o2u p id es rows) a:=by
  intro O l h3;have h1:=hs.dropMap l (q6j l st.live);have h4:=h1.more fr1 fr2 Z (st.nt+1);have q: ∃a c,v= .slice a rows.length c:=by
   have m:RV g w v (.ref id 0 es rows.length):=I;generalize z:D.ref id 0 es rows.length=y at m;cases m<;>first|(grind)|cases z
  have J:At O w a p v:=by
   cases p with
   |fr k=>exact M
   |cell i j=>
    obtain⟨b',c',e',R,q2⟩:=M;exact⟨b',c',e',l.obj b' i hn R,q2⟩
  refine qhk (s':= .uni (16*st.nt) es rows) h4 J ?_ ⟨q,λ_=>h3⟩ (by grind[ASlot.toks]);cases p with
  |fr k=>trivial
  |cell i j=>
   have o:j<(qi st.os i).length:=o;show j<(qi ((st.os.map _).set id .none) i).length;rw[qn7 hn,List.length_map];omega
 have E:RV g w v (.ref id 0 es rows.length):=I;generalize z:D.ref id 0 es rows.length=y at E;cases E with
 |ref b off' id' es' len cap hg hcap hm hsz=>
  cases z;have l:=qjh (r:= .uni (16*st.nt)) hs hg (by simp);refine⟨_,t l ?_,Y.role h0 (.inr ⟨id,hg,U⟩),qks (k0:=k0) (.inr ⟨id,hg,U⟩)⟩
  ·obtain⟨c,e,R,q2,q3⟩:=qoj hs hg F;rw[k7 R]at hsz;refine .inr ⟨b,cap,c,e,rfl,Ghost.at_same _ _ _,R,hcap,hm,by omega,hes,λj d hj=> ?_⟩;obtain⟨u,u1,_,u3⟩:=q3 j (.d d) (by grind);exact⟨hcl d (List.mem_of_getElem? hj),u,u1,l.rv u3 ((D.okWR_iff _ rows).1 hok d (List.mem_of_getElem? hj))⟩
 |refnil ad id' off' es'=>
  simp only[D.ref.injEq]at z;have X:rows= []:=List.eq_nil_of_length_eq_zero z.2.2.2;subst X;by_cases C: ∃b,g b= .obj id
  ·obtain⟨b,C⟩:=C;have l:=qjh (r:= .uni (16*st.nt)) hs C (by simp);exact⟨_,t l (.inl ⟨ad,rfl,rfl⟩),Y.role h0 (.inr ⟨id,C,U⟩),qks (k0:=k0) (.inr ⟨id,C,U⟩)⟩
  ·have l:=qtn hs (λb h=>C ⟨b,h⟩);exact⟨g,t l (.inl ⟨ad,rfl,rfl⟩),Y,λ_ h=>h⟩
 | _=>cases z
theorem qzl {κ:List Nat} {d:List AObj}: ∀{ι:List Nat} {os:List AObj},q86 κ d ι os->ι.length=os.length∧ ∀(i:Nat) (o:AObj) (id:Nat),os[i]? =some o->ι[i]? =some id->d[id]? =some (o.ren κ)
 | [],[],_=>by simp
 |id::ι,o::os,h=>by
  obtain⟨h1,h2⟩:=h;obtain⟨k1,k2⟩:=qzl h2;refine⟨by simp[k1],λi x j e l=> ?_⟩;cases i with
  |zero=>simp at e l;subst e;subst l;exact h1
  |succ i=>exact k2 i x j (by simpa using e) (by simpa using l)
 | [],_::_,h=>h.elim
 | _::_,[],h=>h.elim
theorem xrg {g':Ghost} {ι:List Nat} {live:List Nat} (m: ∀{v:Value} {d:D},RV g w v d->RV g' w v (d.ren ι)) (i: ∀b n o,g b= .row n o->g' b= .row n o) (z: ∀b t,g b= .uni t->g' b= .uni t)
  {v:Value} {s:ASlot} (h:RC g w live v s):RC g' w live v (s.ren1 ι):=by
 cases s with
 |d x=>exact m h
 |own t es rows=>
  have q:(D.renR ι rows).length=rows.length:=by rw[D.renR_map,List.length_map]
  refine⟨m h.1,λp=> ?_⟩;unfold qyl;rw[q];rcases h.2 p with hf|⟨b,cap,u,e,q1,q2,q3⟩
  ·grind
  ·exact .inr ⟨b,cap,u,e,q1,i _ _ _ q2,q3⟩
 |uni t es rows=>
  have q:(D.renR ι rows).length=rows.length:=by rw[D.renR_map,List.length_map]
  refine⟨by rw[q];exact h.1,λp=> ?_⟩;unfold UniOk;rw[q];rcases h.2 p with⟨ad,G,F⟩|⟨b,cap,u,e,G,F,h3,h4,h5,h6,h7,h8⟩
  ·grind
  ·refine .inr ⟨b,cap,u,e,G,z _ _ F,h3,h4,h5,h6,λr hr=> ?_,λj d C=> ?_⟩
   ·rw[D.renR_map]at hr;grind
   ·rw[qkl,List.getElem?_map,Option.map_eq_some_iff]at C;obtain⟨d',E,rfl⟩:=C;grind[y4]
 |full es rows=>
  have q:(D.renR ι rows).length=rows.length:=by rw[D.renR_map,List.length_map]
  refine⟨m h.1,?_⟩;rw[q];exact h.2
 |rd cs=>
  obtain⟨b,off,n,o,f,rfl,hg,hn,hcc⟩:=h;have q:(D.renL ι cs).length=cs.length:=by rw[D.renL_map,List.length_map]
  refine⟨b,off,n,o,f,rfl,i _ _ _ hg,by omega,λj d C=> ?_⟩;rw[D.renL_map,List.getElem?_map,Option.map_eq_some_iff]at C;obtain⟨d',E,rfl⟩:=C;grind[y4]
 |tup l=>exact h.elim
 |bad=>trivial
theorem xh2 {ι:List Nat} (h:ι≠ []) (s:ASlot):s.ren ι=match s with| .tup l=> .tup (l.map (ASlot.ren1 ι))|s=>s.ren1 ι:=by
 cases ι with
 |nil=>grind
 |cons i ι=>rfl
theorem xcf {α:Type} {l:List α} (hn:l.Nodup) {i j:Nat} (hi:i<l.length) (hj:j<l.length) (h:l[i]=l[j]):i=j:=by
 induction l generalizing i j with
 |nil=>grind
 |cons x l ih=>
  grind
theorem xh3 (hs:SR N T g w st a) (U:G g0 w0 g w) (h0: ∀b id,g0 b= .obj id->id<k0) {ι:List Nat} {q:List AObj} (hn:ι.Nodup) (hl:ι≠ []) (hp:xhy k0 q.length ι=true) (ho:q86 ι q ι st.os):
  ∃g',SR N T g' w (st.renN ι q) a∧G g0 w0 g' w∧ ∀b,g b= .out->g' b= .out:=by
 obtain⟨r1,r2⟩:=qzl ho;simp only[xhy,Bool.and_eq_true,List.all_eq_true,List.mem_range,List.contains_iff_mem,Bool.or_eq_true,Bool.not_eq_true',beq_iff_eq]at hp;obtain⟨⟨p1,p2⟩,p3⟩:=hp;let g':Ghost:=λb=>match g b with| .obj id=> .obj (ι.getD id 0)|r=>r
 have go: ∀b id,g b= .obj id->g' b= .obj (ι.getD id 0):=λb id h=>by grind
 have Y: ∀b,g b= .out->g' b= .out:=λb h=>by grind
 have grow: ∀b n o,g b= .row n o->g' b= .row n o:=λb n o h=>by grind
 have guni: ∀b t,g b= .uni t->g' b= .uni t:=λb t h=>by grind
 have z: ∀b j,g' b= .obj j-> ∃id,g b= .obj id∧j=ι.getD id 0:=λb j h=>by
  grind
 have I: ∀b id,g b= .obj id-> ∃o,st.os[id]? =some o∧o≠ .none∧ι[id]? =some (ι.getD id 0):=λb id h=>by
  obtain⟨o,p,X⟩:=hs.ids b id h;grind
 have hrk:RowsKept g w g' w:=λb n o h=>⟨n,o,grow b n o h,Nat.le_refl _,λ_ _ _ h=>h⟩;have hrv: ∀{v:Value} {d:D},RV g w v d->RV g' w v (d.ren ι):=λh=>h.up hrk (λb j E=>go b j E);have rc: ∀{v:Value} {s:ASlot},RC g w st.live v s->RC g' w st.live v (s.ren1 ι):=λh=>xrg hrv grow guni h;have hne: ∀o:AObj,o≠ .none->o.ren ι≠ .none:=λo h=>by cases o<;>simp[AObj.ren]at h⊢
 have inj: ∀i j:Nat,i<ι.length->j<ι.length->ι.getD i 0=ι.getD j 0->i=j:=λi j hi hj h=>by
  grind[List.getElem?_eq_getElem,xcf]
 refine⟨g',⟨⟨λb E=>Y b (hs.dom.1 b E),hs.dom.2.ghost λb n h=>grow b n none h⟩,trivial,hs.size,λk v s hk=> ?_,λj o' hj hno=> ?_,λb b' j h h'=> ?_,λb j h=> ?_,⟨hs.wf.live,λk s hk t ht=> ?_,λj o' hj s hsm t ht=> ?_⟩⟩,?_,Y⟩
 ·simp only[St.renN,qkr,Option.map_eq_some_iff]at hk;obtain⟨⟨v',J⟩,p,X⟩:=hk;cases X;obtain⟨M,q2⟩:=hs.slots k _ J p;refine⟨λhv=> ?_,q2⟩;rw[xh2 hl];have hrs:=M hv;cases J with
  |tup l=>
   obtain⟨vs,e1,e2,e3⟩:=hrs;refine⟨vs,e1,by simp[e2],λi u s hu hsl=> ?_⟩;rw[List.getElem?_map,Option.map_eq_some_iff]at hsl;obtain⟨s1,hs1,rfl⟩:=hsl;exact rc (e3 i u s1 hu hs1)
  | _=>exact jk (rc (qac hrs (by simp)))
 ·have hjl:j<q.length:=(List.getElem?_eq_some_iff.1 hj).1;obtain⟨i,hi⟩:=List.mem_iff_getElem?.1 (p1 j hjl);have hil:i<st.os.length:=by grind
  have C:=List.getElem?_eq_getElem hil;have p:=r2 i _ j C hi;have hj':q[j]? =some o':=hj;rw[hj']at p;have p:o'=(st.os[i]).ren ι:=by grind
  have hni:st.os[i]≠ .none:=λhe=>hno (by rw[p,he];rfl);have hgi:ι.getD i 0=j:=by grind
  rcases hs.objs i _ C hni with⟨b,E,F⟩|⟨hv,hno'⟩
  ·refine .inl ⟨b,by grind,?_⟩;rw[p];generalize st.os[i]=o at F;cases o with
   |none=>exact F.elim
   |row cells=>
    obtain⟨cc,e,M,q2,q3⟩:=F;refine⟨cc,e,M,by grind,λm s hm=> ?_⟩;rw[List.getElem?_map,Option.map_eq_some_iff]at hm;obtain⟨J,hs0,rfl⟩:=hm;obtain⟨v,v1,v2,v3⟩:=q3 m J hs0;exact⟨v,v1,v2,rc v3⟩
   |map es clock=>exact MapIs.mono F hrk rfl
   |iter m since seen last=>exact IterIs.mono (R:=λv=>RC g w st.live v m) (R':=λv=>RC g' w st.live v (m.ren1 ι)) F rfl (λo hv=>rc hv)
  ·refine .inr ⟨by rw[p,hv];rfl,λb E=> ?_⟩;grind
 ·obtain⟨id,p,X⟩:=z b j h;obtain⟨Z,h3,h4⟩:=z b' j h';obtain⟨_,_,_,h5⟩:=I b id p;obtain⟨_,_,_,h6⟩:=I b' Z h3;have:id=Z:=inj id Z (List.getElem?_eq_some_iff.1 h5).1 (List.getElem?_eq_some_iff.1 h6).1 (by omega);subst this;exact hs.inj b b' id p h3
 ·obtain⟨id,p,rfl⟩:=z b j h;obtain⟨o,X,h3,h4⟩:=I b id p;exact⟨_,r2 id o _ X h4,hne o h3⟩
 ·simp only[St.renN,qkr,Option.map_eq_some_iff]at hk;obtain⟨⟨v',J⟩,p,X⟩:=hk;cases X;rw[qvw]at ht;exact hs.wf.fr k J p t ht
 ·have hjl:j<q.length:=(List.getElem?_eq_some_iff.1 hj).1;obtain⟨i,hi⟩:=List.mem_iff_getElem?.1 (p1 j hjl);have hil:i<st.os.length:=by grind
  have C:=List.getElem?_eq_getElem hil;have p:=r2 i _ j C hi;have hj':q[j]? =some o':=hj;rw[hj']at p;have p:o'=(st.os[i]).ren ι:=by grind
  subst p;generalize hoe:st.os[i]=o at hsm C;cases o with
  |row cells=>
   obtain⟨J,hs0,rfl⟩:=List.mem_map.1 hsm;rw[qy8]at ht;exact hs.wf.os i _ C J hs0 t ht
  | _=>grind[AObj.ren,AObj.cells]
 ·refine⟨U.os,U.tape,U.output,U.size,λb E O=> ?_,λb n E O=> ?_,λb n t E O=> ?_,λb id E O=> ?_⟩
  ·obtain⟨M,q2⟩:=U.out b E O;grind
  ·obtain⟨M,q2⟩:=U.rowN b n E O;grind
  ·obtain⟨n',o',M,q2,q3⟩:=U.rowS b n t E O;grind
  ·obtain⟨M,q2⟩:=U.obj b id E O;obtain⟨o,p,X,h3⟩:=I b id M;have hlt:id<q.length:=by
    grind[id,List.Nodup.length_le_of_subset,List.range,Nat.blt_eq]
   have hk:=h0 b id O;have hfix:ι.getD id q.length=id:=by
    grind[id,Nat.blt_eq]
   grind
theorem Turn.sr (h:Turn k0 st st') (hs:SR N (Go.Abs.below st.nt) g w st a) (i:G g0 w0 g w) (l: ∀b id,g0 b= .obj id->id<k0): ∃g',SR N (Go.Abs.below st'.nt) g' w st' a∧G g0 w0 g' w∧ ∀b,g b= .out->g' b= .out:=by
 induction h generalizing g with
 |refl st=>grind
 |weak h _ ih=>
  obtain⟨o,e,d,m⟩:=h.sr hs i l;grind
 |u2o p t es rows hp ht _ ih=>
  obtain⟨o,e,d,m⟩:=xhz hs i l hp ht;rename_i st1 _ _;have:(st1.u2o p t es rows).nt=st1.nt:=(qji st1 _ p).2;grind
 |o2u p id es rows hp hrow hc hes hcl hok hk hn _ ih=>
  obtain⟨o,e,d,m⟩:=xh1 hs i l hp hrow hc hes hcl hok hk hn;rename_i st1 _ _;have:(st1.o2u p id es rows).nt=st1.nt+1:=(qji _ _ p).2;grind
 |frz id es rows hc hcc hes hok hk _ ih=>
  obtain⟨o,e,d,m⟩:=xh0 hs i l hc hcc hes hok hk;obtain⟨z,v,u,q⟩:=ih e d;grind
 |u2own p t es rows hp ht _ ih=>
  obtain⟨o,e,d,m⟩:=q88 hs i l hp ht;obtain⟨z,v,u,q⟩:=ih e d;grind
 |ren ι os' hn hl hp ho _ ih=>
  obtain⟨o,e,d,m⟩:=xh3 hs i l hn hl hp ho;obtain⟨z,v,u,q⟩:=ih e d;grind
theorem Turn.trans {st1:St} (h:Turn k0 st st1) (h':Turn k0 st1 st'):Turn k0 st st':=by
 induction h with
 |refl=>exact h'
 |weak h _ ih=>grind[weak]
 |u2o p t es rows hp ht _ ih=>grind[u2o]
 |o2u p id es rows hp hrow hc hes hcl hok hk hn _ ih=>grind[o2u,id]
 |frz id es rows hc hcc hes hok hk _ ih=>grind[frz,id]
 |u2own p t es rows hp ht _ ih=>grind[u2own]
 |ren ι os' hn hl hp ho _ ih=>grind[ren]
end
end Go.Abs
