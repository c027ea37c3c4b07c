/- Texts Gh, Gi, Gj, Gk, Gl, Tb, Tc, Ta, Ka, Kc, Kg, Kh, Ki, Kp, Kd, Kf, Ke, Kj, Kq, Kn, Lg, Kl, Ko, Ks, Kt, Kw, La, Ku, Km, Lb. -/
import Derived.Test.YtkcdbcbpbolgkaaGreatDoorMrr
set_option linter.unusedSimpArgs false
set_option linter.unusedVariables false
set_option linter.defProp false
set_option maxRecDepth 100000
noncomputable section
namespace Go.Proofs.YtkcdbcbpbolgkaaGreatDoor
open Tryz
open Go.Abs
def d74b:=cut prog f74 news [42] [9,10] true
@[go_sem] def E74b:=qm d74b
def F74b:=fnC d74b follows func74
theorem q5k:(prog.funcs[142]?).any (λfn=>fn.body.isSome&& !(fn.name== "runtime.NumGoroutine"))=true:=by rw[func142];rfl
theorem qh4: ∀l:List Ue,qad (jq l)=true
 | []=>rfl
 |x::l=>by
  rw[zh];have:=qh4 l;exact et1 @this
theorem qrz (ι:List Nat): ∀l:List Ue,(jq l).map (ASlot.ren1 ι)=jq l
 | []=>rfl
 |x::l=>by
  rw[zh];have:=qrz ι l;exact et2 @List.map_cons.{0,0} @this
attribute [go_sem] qh4 qrz
theorem xfy (l:List Ue): ∀r∈l.map ql,r.length=4:=by
 intro r hr;obtain⟨x,_,rfl⟩:=jAo.1 hr;rfl
theorem xp4 (l:List Ue): ∀d∈(l.map ql).flatten,d.isCell=true:=by
 intro d e;obtain⟨r,hr,e⟩:=List.mem_flatten.1 e;obtain⟨x,_,rfl⟩:=jAo.1 hr;simp only[ql,jAv,jBl,or_false]at e;rcases e with rfl|rfl|rfl|rfl<;>rfl
def newE (d s:Int):Ue:=⟨s,1,List.replicate d.toNat false,List.replicate d.toNat false⟩
def jc (m:Mg) (s:Int):Mg×Int:=
 if !ja m then(⟨0,[]⟩,1)else if decide (s<1)||decide (s>32)then(⟨0,[]⟩,2)else if(xj m s).2 then(⟨0,[]⟩,9)
 else(⟨m.roles,m.ents.take (xj m s).1++ [newE m.roles s]++m.ents.drop (xj m s).1⟩,0)
theorem qdx {m:Mg} (h:ja m=true):1<=m.roles∧m.roles<=6:=by
 simp only[ja,jAf,decide_eq_true_eq]at h;exact h.2
theorem xfz (m:Mg) (s:Int):(xj m s).1<=m.ents.length:=by
 unfold xj;split
 ·exact Nat.le_of_lt (qq7 (by assumption)).2
 ·exact jAh _
set_option maxRecDepth 10000 in
theorem qu0 (m:Mg) (s:Int) (hm:m.Sm):qh Tryz.prog 74 [.d (.agg (qu m)),.d (.int .i64 s)] [] (.tup [.d (.agg (qu (jc m s).1)),.d (.int .i64 (jc m s).2)]) []:=by
 have hl:=hm.1
 refine F74b.goT ?_
 try(refine ev1 @qu.eq_1 ?_;try exact True.intro)
 (repeat(with_reducible refine ob ?_));first|refine cl F69 (ye m hm) ?_|refine clF F69 (ye m hm) (fun _=>by(refine ev2 @ql.eq_1 @qu.eq_1 ?_;try exact True.intro)) ?_
 try(refine ev ?_;try exact True.intro)
 (repeat(with_reducible refine ob ?_));refine xp _ (fun h=> ?_) (fun h=> ?_)
 ·have hb:jc m s=(⟨0,[]⟩,1):=by simp only[jc,h,if_true]
  try(refine ev2 @hb @List.map_nil.{0,0} ?_;try exact True.intro)
  refine pu ?_
  try(refine ev ?_;try exact True.intro)
 have hv:ja m=true:=by simpa using h
 obtain⟨hr1,hr2⟩:=qdx hv
 try(refine ev ?_;try exact True.intro)
 (repeat(with_reducible refine ob ?_));refine xp _ (fun h=> ?_) (fun h=> ?_)
 ·have hb:jc m s=(⟨0,[]⟩,2):=by simp only[jc,hv,h];rfl
  try(refine ev2 @hb @List.map_nil.{0,0} ?_;try exact True.intro)
  refine pu ?_
  try(refine ev ?_;try exact True.intro)
 have hs:=h
 try(refine ev ?_;try exact True.intro)
 (repeat(with_reducible refine ob ?_));first|refine cl F77 (qf1 m s hm) ?_|refine clF F77 (qf1 m s hm) (fun _=>by(refine ev2 @ql.eq_1 @qu.eq_1 ?_;try exact True.intro)) ?_
 try(refine ev ?_;try exact True.intro)
 (repeat(with_reducible refine ob ?_));refine xp _ (fun h=> ?_) (fun h=> ?_)
 ·have hb:jc m s=(⟨0,[]⟩,9):=by simp only[jc,hv,hs,h];rfl
  try(refine ev2 @hb @List.map_nil.{0,0} ?_;try exact True.intro)
  refine pu ?_
  try(refine ev ?_;try exact True.intro)
 have hb:jc m s=(⟨m.roles,m.ents.take (xj m s).1++ [newE m.roles s]++m.ents.drop (xj m s).1⟩,0):=by simp only[jc,hv,hs,h];rfl
 try(refine ev1 @hb ?_;try exact True.intro)
 refine clO [2,3,4] xsg (xef m hm) ?_ (hfit:=by first|exact⟨qd,trivial⟩|(refine ev1 @qu.eq_1 ?_;try exact True.intro))
 try(refine ev ?_;try exact True.intro)
 refine qql (.cell 0 1) 4 4 (m.ents.map ql) ?_ rfl (xfy _) (xp4 _) (D.okWR_noPtr (qf0 _)) (hn:=by show(0:Nat)≠4;decide) (hp:=by simp only[List.length_map];rfl)
 refine pu ?_
 try(refine ev ?_;try exact True.intro)
 (repeat(with_reducible refine ob ?_))
 have hrow:ql (newE m.roles s)= [.int .i64 s,.int .i64 1,.sl 1 (List.replicate m.roles.toNat [.bool false]),.sl 1 (List.replicate m.roles.toNat [.bool false])]:=by simp only[ql,newE,List.map_replicate,encB]
 have hnew:(m.ents.map ql).take (xj m s).1++ [ql (newE m.roles s)]++(m.ents.map ql).drop (xj m s).1=(m.ents.take (xj m s).1++ [newE m.roles s]++m.ents.drop (xj m s).1).map ql:=by simp
 have hins:=xfx (m.ents.map ql) (ql (newE m.roles s)) (xj m s).1 (by rw[List.length_map];exact xfz m s) (by rw[List.length_map];exact hl) rfl
 rw[hnew]at hins
 refine qhm hins q5k rfl ⟨by try(refine ev1 @hrow ?_;try exact True.intro),by try(refine ev2 @qf0 @qjp ?_;try exact True.intro),by simp only[x8];simp,by simp only[x8];simp⟩ (by simp[ASlot.toks]) (by simp[ASlot.toks]) ?_
 try(refine ev ?_;try exact True.intro)
 (repeat(with_reducible refine ob ?_))
 refine xjd (.cell 0 1) 640 4 ((m.ents.take (xj m s).1++ [newE m.roles s]++m.ents.drop (xj m s).1).map ql) ?_
 refine pu ?_
 try(refine ev ?_;try exact True.intro)
 refine pu ?_
 try(refine ev ?_;try exact True.intro)
 trace_state
def d75b:=cut prog f75 news [] [16] true
@[go_sem] def E75b:=qm d75b
def F75b:=fnC d75b follows func75
def k8 (p:Pk) (x:Ue):Ue:=
 if p.label==2 then{x with opened:=x.opened.set p.from_.toNat true}else{x with moved:=x.moved.set p.from_.toNat true}
def qaf (x:Ue):Ue:={x with phase:=zs x}
def qcv (p:Pk) (x:Ue):List Bool:=if p.label==2 then x.opened else x.moved
def xr (m:Mg) (p:Pk):Mg×Int:=
 if !ja m||p.kind !=4|| !qo p||decide (p.from_≥m.roles)then(⟨0,[]⟩,1)
 else if !(xj m p.sess).2 then(⟨0,[]⟩,8)
 else if(qcv p (m.ents.getD (xj m p.sess).1 default)).getD p.from_.toNat false then(⟨0,[]⟩,21)
 else if p.label==2&&(m.ents.getD (xj m p.sess).1 default).phase==1 then(⟨0,[]⟩,7)
 else(⟨m.roles,m.ents.set (xj m p.sess).1 (qaf (k8 p (m.ents.getD (xj m p.sess).1 default)))⟩,0)
theorem qmy {s:ASlot} (hs:qad [s]=true): ∀(l:List ASlot) (i:Nat),qad l=true->qad (l.set i s)=true
 | [],_,h=>h
 | _::l,0,h=>by
  rw[List.set_cons_zero];simp only[qad,jAf]at h hs⊢;exact⟨hs.1,h.2⟩
 |x::l,i+1,h=>by
  rw[List.set_cons_succ];simp only[qad,jAf]at h⊢;exact⟨h.1,qmy hs l i h.2⟩
theorem q5l {l:List Ue} {k a b:Nat} {x:Ue}:qad (refA (jq l) k a b x)=true:=qmy rfl _ _ (qmy rfl _ _ (qh4 l))
theorem qr0: ∀l:List Bool,qad (l.map λb=> .d (.bool b))=true
 | []=>rfl
 |x::l=>by
  have:=qr0 l;exact et2 @List.map_cons.{0,0} @this
theorem xlr (ι:List Nat) (l:List Bool):(l.map λb=>ASlot.d (.bool b)).map (ASlot.ren1 ι)=l.map λb=> .d (.bool b):=by
 rw[jEb];rfl
theorem xls {l:List Ue} {k:Nat} {x:Ue} (ι:List Nat) (a b:Nat):(refA (jq l) k a b x).map (ASlot.ren1 ι)=refA (jq l) k (ι.getD a 0) (ι.getD b 0) x:=by
 rw[refA,jDz,jDz,qrz];rfl
attribute [go_sem] q5l qr0 xlr xls
theorem xs6 {l:List Ue} {k a b j:Nat} {x:Ue} (hk:k<l.length) (hj:j<2):(refA (jq l) k a b x).getD (k*4+j) .bad= .d ((ql l[k]).getD j .nilsl):=by
 rw[jA0,refA,jBk (by omega),jBk (by omega),qht l k j hk (by omega)];rfl
theorem xf0 {l:List Ue} {k a b:Nat} {x:Ue} (hk:k<l.length):(refA (jq l) k a b x).getD (k*4+1) .bad= .d (.int .i64 l[k].phase):=xs6 hk (by decide)
theorem qxp {l:List Ue} {k a b:Nat} {x:Ue} (hk:k<l.length):(refA (jq l) k a b x).getD (k*4+2) .bad= .d (.ref a 0 1 x.moved.length):=by
 have hf:=qen l;rw[jA0,refA,jBk (by omega),jBv (by omega)];rfl
theorem qxq {l:List Ue} {k a b:Nat} {x:Ue} (hk:k<l.length):(refA (jq l) k a b x).getD (k*4+3) .bad= .d (.ref b 0 1 x.opened.length):=by
 have hf:=qen l;rw[jA0,refA,jBv (by rw[jCh];omega)];rfl
theorem q7y {l:List Bool} {i:Nat} (h:i<l.length):(l.map λb=>ASlot.d (.bool b)).getD i .bad= .d (.bool (l.getD i false)):=by
 rw[jA0,jAn,jA0,jAa h];rfl
theorem qoy (l:List Bool) (i:Nat) (b:Bool):(l.map λb=>ASlot.d (.bool b)).set i (.d (.bool b))=(l.set i b).map λb=> .d (.bool b):=by rw[jDz]
theorem xs7 {m:Mg} {p:Pk} (h:(!ja m||p.kind !=4|| !qo p||decide (p.from_≥m.roles))=false):ja m=true∧p.kind=4∧qo p=true∧p.from_<m.roles∧0<=p.from_:=by
 simp only[jA4,jCc,bne_eq_false_iff_eq,decide_eq_false_iff_not]at h;obtain⟨⟨⟨h1,e⟩,d⟩,h4⟩:=h;refine⟨h1,e,d,by omega,?_⟩;simp[qo,order,role,e]at d;omega
theorem qip {m:Mg} (h:ja m=true) {k:Nat} (d:k<m.ents.length):(m.ents[k].moved.length:Int)=m.roles∧(m.ents[k].opened.length:Int)=m.roles∧m.ents[k].phase=zs m.ents[k]:=by
 simp only[ja,jAf]at h;have:=zo.1 h.1 k d;simp only[qem,zm d,jBa,jA4,bne_eq_false_iff_eq]at this;exact⟨this.1.1.1.2,this.1.1.2,this.2⟩
theorem qn0 (id es e:Nat) (rows r:List (List D)) (h:D.noPtrR r=true):((ASlot.d (.sl e r)).frz id es rows).only (neId id)= .d (.sl e r):=by simp only[ASlot.frz,D.frz,ASlot.only,ASlot.okS,D.okW,D.okWR_noPtr h,if_true]
theorem q2a (id es:Nat) (rows:List (List D)): ∀l:List Ue,(jq l).map (λs=>(s.frz id es rows).only (neId id))=jq l
 | []=>rfl
 |x::l=>by
  rw[zh,List.map_cons,List.map_cons,List.map_cons,List.map_cons,q2a id es rows l,qn0 _ _ _ _ _ (qae _),qn0 _ _ _ _ _ (qae _)];rfl
theorem qxr (l:List Ue) (i j:Nat) (u v:ASlot) (id es:Nat) (rows:List (List D)):(((jq l).set i u).set j v).map (λs=>(s.frz id es rows).only (neId id))=((jq l).set i ((u.frz id es rows).only (neId id))).set j ((v.frz id es rows).only (neId id)):=by
 rw[jDz,jDz,q2a]
theorem q7z (l:List Ue) (k a b:Nat) (x:Ue) (id es:Nat) (rows:List (List D)):(refA (jq l) k a b x).map (λs=>(s.frz id es rows).only (neId id))=
  ((jq l).set (k*4+2) (((ASlot.d (.ref a 0 1 x.moved.length)).frz id es rows).only (neId id))).set (k*4+3) (((ASlot.d (.ref b 0 1 x.opened.length)).frz id es rows).only (neId id)):=qxr ..
theorem qxs (l:List Bool) (id es:Nat) (rows:List (List D)):(l.map λb=>ASlot.d (.bool b)).map (λs=>(s.frz id es rows).only (neId id))=l.map λb=> .d (.bool b):=by
 rw[jEb];rfl
theorem qd9 (l:List Bool):(l.map λb=>ASlot.d (.bool b)).map ASlot.cellD=(l.map encB).flatten:=by
 induction l with
 |nil=>rfl
 |cons b l ih=>simp only[List.map_cons,List.flatten_cons,encB,List.cons_append,List.nil_append,ih];rfl
theorem qiq (l:List Bool):(l.map λb=>ASlot.d (.bool b)).all ASlot.isCellD=true:=by
 rw[List.all_map];exact jAx.2 λb _=>rfl
theorem qir (l:List Bool): ∀r∈l.map encB,r.length=1:=by
 intro r hr;obtain⟨x,_,rfl⟩:=jAo.1 hr;rfl
theorem qr1 (l:List Ue):(jq l).map ASlot.cellD=(l.map ql).flatten:=by
 induction l with
 |nil=>rfl
 |cons x l ih=>rw[zh];simp only[List.map_cons,List.flatten_cons,ql,List.cons_append,List.nil_append,ih];rfl
theorem q2b (l:List Ue):(jq l).all ASlot.isCellD=true:=by
 induction l with
 |nil=>rfl
 |cons x l ih=>rw[zh];simp only[jCy,ih];rfl
theorem qmz: ∀(l:List Ue) (k:Nat) (y:Ue) (e:k<l.length),y.sess=l[k].sess->y.phase=l[k].phase->
  ((jq l).set (k*4+2) (.d (.sl 1 (y.moved.map encB)))).set (k*4+3) (.d (.sl 1 (y.opened.map encB)))=jq (l.set k y)
 |x::l,0,y,_,h1,h2=>by
  simp only[List.getElem_cons_zero]at h1 h2;rw[List.set_cons_zero,zh,zh,h1,h2];rfl
 |x::l,k+1,y,e,h1,h2=>by
  rw[List.set_cons_succ,zh,zh,<- qmz l k y (by simpa using e) (by simpa using h1) (by simpa using h2),show(k+1)*4+2=(k*4+2)+1+1+1+1 by omega,show(k+1)*4+3=(k*4+3)+1+1+1+1 by omega];simp only[List.set_cons_succ]
theorem qer: ∀(l:List Ue) (k:Nat) (y:Ue),k<l.length->(jq (l.set k y)).set (k*4+1) (.d (.int .i64 (zs y)))=jq (l.set k (qaf y))
 |x::l,0,y,_=>by
  rw[List.set_cons_zero,List.set_cons_zero,zh,zh];rfl
 |x::l,k+1,y,hk=>by
  rw[List.set_cons_succ,List.set_cons_succ,zh,zh,<- qer l k y (by simpa using hk),show(k+1)*4+1=(k*4+1)+1+1+1+1 by omega];simp only[List.set_cons_succ]
theorem qm0: ∀(l:List Ue) (k:Nat) (y:Ue),k<l.length->((jq (l.set k y)).drop (k*4)).take 4= [.d (.int .i64 y.sess),.d (.int .i64 y.phase),.d (.sl 1 (y.moved.map encB)),.d (.sl 1 (y.opened.map encB))]
 |x::l,0,y,_=>by
  rw[List.set_cons_zero,zh];rfl
 |x::l,k+1,y,hk=>by
  rw[List.set_cons_succ,zh,<- qm0 l k y (by simpa using hk),show(k+1)*4=k*4+1+1+1+1 by omega];simp only[jCs]
theorem q2c {m:Mg} {s:Int} (h:(xj m s).2=true):(xj m s).1<m.ents.length:=by
 unfold xj at h⊢;split at h
 ·rename_i d;rw[if_pos d];exact(qq7 d).2
 ·cases h
theorem qjy (m:Mg) (p:Pk) (hm:m.Sm) (hp:p.Sm):qh Tryz.prog 75 [.d (.agg (qu m)),.d (.agg (qf p))] [] (.tup [.d (.agg (qu (xr m p).1)),.d (.int .i64 (xr m p).2)]) []:=by
 have hl:=hm.1
 refine F75b.goT ?_
 refine eo2 @qu.eq_1 @qf.eq_1 ?_
 first|refine cl F69 (ye m hm) ?_|refine clF F69 (ye m hm) (fun _=>by exact et3 @ql.eq_1 @qu.eq_1 @qf.eq_1) ?_
 refine eo ?_
 (repeat(with_reducible refine ob ?_));first|refine cl F70 (zu p hp.v hp.c) ?_|refine clF F70 (zu p hp.v hp.c) (fun _=>by exact et3 @ql.eq_1 @qu.eq_1 @qf.eq_1) ?_
 refine eo ?_
 refine xp _ (fun h=> ?_) (fun h=> ?_)
 ·have hb:xr m p=(⟨0,[]⟩,1):=by simp only[xr,h,if_true]
  refine ez2 @hb @List.map_nil.{0,0} ?_
  refine pu ?_
  exact et
 have h0:=h
 refine eo ?_
 first|refine cl F77 (qf1 m p.sess hm) ?_|refine clF F77 (qf1 m p.sess hm) (fun _=>by exact et3 @ql.eq_1 @qu.eq_1 @qf.eq_1) ?_
 refine eo ?_
 refine xp _ (fun h=> ?_) (fun h=> ?_)
 ·have hb:xr m p=(⟨0,[]⟩,8):=by simp only[xr,h0,h];rfl
  refine ez2 @hb @List.map_nil.{0,0} ?_
  refine pu ?_
  exact et
 have h1:=h
 have hk:(xj m p.sess).1<m.ents.length:=q2c (by simpa using h)
 have hx:=hm.2 _ (jAg hk)
 obtain⟨r1,r2,r3,r4,r5⟩:=xs7 h0
 obtain⟨v1,v2,_⟩:=qip r1 hk
 have h7:=q4y m hm _ hk
 have hfl:=qen m.ents
 have hu:xr m p=(if(qcv p m.ents[(xj m p.sess).1]).getD p.from_.toNat false then(⟨0,[]⟩,21)
   else if p.label==2&&m.ents[(xj m p.sess).1].phase==1 then(⟨0,[]⟩,7)
   else(⟨m.roles,m.ents.set (xj m p.sess).1 (qaf (k8 p m.ents[(xj m p.sess).1]))⟩,0)):=by
  simp only[xr,h0,h1,zm hk];rfl
 rw[hu]
 clear hu
 refine ez ?_
 refine clO [3,4,5,6,7] xsi h7 ?_ (hfit:=by first|exact⟨qd,trivial⟩|(refine ev1 @qu.eq_1 ?_;try exact⟨⟩))
 clear h7
 generalize (xj m p.sess).1=k at hk hx v1 v2⊢
 refine eo ?_
 refine xp _ (fun hl2=> ?_) (fun hl2=> ?_)
 ·simp only[qcv,k8,hl2,if_true,jCr]
  try simp only[qxp hk,qxq hk,go_sem,simprocAttr]
  (repeat(with_reducible refine ob ?_))
  try simp only[qxp hk,qxq hk,jCo,q7y (l:=m.ents[k].opened) (i:=p.from_.toNat) (by omega),go_sem,simprocAttr]
  refine xp _ (fun h3=> ?_) (fun h3=> ?_)
  ·refine ez2 @h3 @List.map_nil.{0,0} ?_
   refine pu ?_
   exact et
  try simp only[xf0 hk,go_sem,simprocAttr]
  (repeat(with_reducible refine ob ?_))
  refine xp _ (fun h4=> ?_) (fun h4=> ?_)
  ·have h4':(m.ents[k].phase==1)=true:=by simpa[hl2]using h4
   refine ez4 @h3 @h4' @hl2 @List.map_nil.{0,0} ?_
   refine pu ?_
   exact et
  have h4':(m.ents[k].phase==1)=false:=by simpa[hl2]using h4
  simp only[h3,h4',jAw,if_false]
  refine eo4 @h3 @hl2 @jCo @qoy ?_
  have hy: ∀y:Ue,y={m.ents[k]with opened:=m.ents[k].opened.set p.from_.toNat true} ->y.Sm:=by rintro y rfl;exact⟨by simpa using hx.1,by simpa using hx.2⟩
  generalize hyd:{m.ents[k]with opened:=m.ents[k].opened.set p.from_.toNat true}=y at hy⊢
  have hys:y.sess=m.ents[k].sess:=by rw[<- hyd]
  have hyp:y.phase=m.ents[k].phase:=by rw[<- hyd]
  have hym:m.ents[k].moved=y.moved:=by rw[<- hyd]
  have hyo:m.ents[k].opened.set p.from_.toNat true=y.opened:=by rw[<- hyd]
  have hml:m.ents[k].moved.length=y.moved.length:=by simp[<- hyd]
  have hol:m.ents[k].opened.length=y.opened.length:=by simp[<- hyd]
  simp only[hml,hol,hym,hyo]
  refine qkv 6 1 (y.moved.map encB) ?_ (qd9 _) (qiq _) (qir _) (D.okWR_noPtr (qae _))
  simp only[qqm,Fr.mapS,List.map_cons,List.map_nil,AObj.mapS,q7z,hml,hol,qxs,List.set_cons_zero,List.set_cons_succ]
  refine ez ?_
  refine qkv 7 1 (y.opened.map encB) ?_ (qd9 _) (qiq _) (qir _) (D.okWR_noPtr (qae _))
  simp only[qqm,Fr.mapS,List.map_cons,List.map_nil,AObj.mapS,qxr,qn0 _ _ _ _ _ (qae _),List.set_cons_zero,List.set_cons_succ]
  try simp only[qmz m.ents k y hk hys hyp,go_sem,simprocAttr]
  refine pu ?_
  try simp only[qm0 m.ents k y hk,jCh,go_sem,simprocAttr]
  (repeat(with_reducible refine ob ?_))
  (repeat(with_reducible refine ob ?_));first|refine cl F134 (qbr y (hy y rfl)) ?_|refine clF F134 (qbr y (hy y rfl)) (fun _=>by exact et3 @ql.eq_1 @qu.eq_1 @qf.eq_1) ?_
  refine eo2 @jCh.{0} (qer m.ents k y hk) ?_
  try simp only[qer m.ents k y hk,go_sem,simprocAttr]
  refine qkv 5 4 ((m.ents.set k (qaf y)).map ql) ?_ (qr1 _) (q2b _) (xfy _) (D.okWR_noPtr (qf0 _))
  refine pu ?_
  exact et2 @jCh.{0} @jAm.{0,0}
 ·simp only[qcv,k8,hl2,jEj,jAw,if_false]
  try simp only[qxp hk,qxq hk,go_sem,simprocAttr]
  (repeat(with_reducible refine ob ?_))
  try simp only[qxp hk,qxq hk,jCo,q7y (l:=m.ents[k].moved) (i:=p.from_.toNat) (by omega),go_sem,simprocAttr]
  refine xp _ (fun h3=> ?_) (fun h3=> ?_)
  ·refine ez2 @h3 @List.map_nil.{0,0} ?_
   refine pu ?_
   exact et
  try simp only[xf0 hk,go_sem,simprocAttr]
  (repeat(with_reducible refine ob ?_))
  refine eo2 @hl2 @jEj ?_
  refine no_ ?_
  simp only[h3,jAw,if_false]
  refine eo4 @h3 @hl2 @jCo @qoy ?_
  have hy: ∀y:Ue,y={m.ents[k]with moved:=m.ents[k].moved.set p.from_.toNat true} ->y.Sm:=by rintro y rfl;exact⟨by simpa using hx.1,by simpa using hx.2⟩
  generalize hyd:{m.ents[k]with moved:=m.ents[k].moved.set p.from_.toNat true}=y at hy⊢
  have hys:y.sess=m.ents[k].sess:=by rw[<- hyd]
  have hyp:y.phase=m.ents[k].phase:=by rw[<- hyd]
  have hym:m.ents[k].moved.set p.from_.toNat true=y.moved:=by rw[<- hyd]
  have hyo:m.ents[k].opened=y.opened:=by rw[<- hyd]
  have hml:m.ents[k].moved.length=y.moved.length:=by simp[<- hyd]
  have hol:m.ents[k].opened.length=y.opened.length:=by simp[<- hyd]
  simp only[hml,hol,hym,hyo]
  refine qkv 6 1 (y.moved.map encB) ?_ (qd9 _) (qiq _) (qir _) (D.okWR_noPtr (qae _))
  simp only[qqm,Fr.mapS,List.map_cons,List.map_nil,AObj.mapS,q7z,hml,hol,qxs,List.set_cons_zero,List.set_cons_succ]
  refine ez ?_
  refine qkv 7 1 (y.opened.map encB) ?_ (qd9 _) (qiq _) (qir _) (D.okWR_noPtr (qae _))
  simp only[qqm,Fr.mapS,List.map_cons,List.map_nil,AObj.mapS,qxr,qn0 _ _ _ _ _ (qae _),List.set_cons_zero,List.set_cons_succ]
  try simp only[qmz m.ents k y hk hys hyp,go_sem,simprocAttr]
  refine pu ?_
  try simp only[qm0 m.ents k y hk,jCh,go_sem,simprocAttr]
  (repeat(with_reducible refine ob ?_))
  (repeat(with_reducible refine ob ?_));first|refine cl F134 (qbr y (hy y rfl)) ?_|refine clF F134 (qbr y (hy y rfl)) (fun _=>by exact et3 @ql.eq_1 @qu.eq_1 @qf.eq_1) ?_
  refine eo2 @jCh.{0} (qer m.ents k y hk) ?_
  try simp only[qer m.ents k y hk,go_sem,simprocAttr]
  refine qkv 5 4 ((m.ents.set k (qaf y)).map ql) ?_ (qr1 _) (q2b _) (xfy _) (D.okWR_noPtr (qf0 _))
  refine pu ?_
  exact et2 @jCh.{0} @jAm.{0,0}
def d22:=cut prog f22 news
@[go_sem] def E22:=qm d22
def d76:=cut prog f76 news
@[go_sem] def E76:=qm d76
theorem qjz {m:Mg} (h:ja m=true) {k:Nat} (d:k<m.ents.length):1<=m.ents[k].sess∧m.ents[k].sess<=32∧m.ents[k].phase≠0:=by
 simp only[ja,jAf]at h;have:=zo.1 h.1 k d;simp only[qem,zm d,jBa,jA4,bne_eq_false_iff_eq,decide_eq_false_iff_not,beq_eq_false_iff_ne]at this;obtain⟨⟨⟨⟨⟨⟨h1,h2⟩,_⟩,_⟩,_⟩,h3⟩,_⟩:=this;exact⟨by omega,by omega,h3⟩
def vq (s r label:Int):Pk:=⟨4,s,0,r,0,0,label,[],[]⟩
theorem b1:jc ⟨2,[]⟩ 5=(⟨2,[⟨5,1,[false,false],[false,false]⟩]⟩,0):=by decide
theorem b2:xl ⟨2,[⟨5,1,[false,false],[false,false]⟩]⟩= [qg5 5 0 1,qg5 5 1 1]:=by decide
theorem b3:xr ⟨2,[⟨5,1,[false,false],[false,false]⟩]⟩ (vq 5 1 1)=(⟨2,[⟨5,1,[false,true],[false,false]⟩]⟩,0):=by decide
theorem b4:xl ⟨2,[⟨5,1,[false,true],[false,false]⟩]⟩= [qg5 5 0 1]:=by decide
theorem b5:xr ⟨2,[⟨5,1,[false,true],[false,false]⟩]⟩ (vq 5 0 1)=(⟨2,[⟨5,2,[true,true],[false,false]⟩]⟩,0):=by decide
theorem b6:xl ⟨2,[⟨5,2,[true,true],[false,false]⟩]⟩= [qg5 5 0 2,qg5 5 1 2]:=by decide
structure EnOk (r:Int) (x:Ue):Prop where
 s1:1<=x.sess
 s32:x.sess<=32
 ml:(x.moved.length:Int)=r
 ol:(x.opened.length:Int)=r
 ph:x.phase=zs x
 p0:x.phase≠0
structure MW (m:Mg):Prop where
 r1:1<=m.roles
 r6:m.roles<=6
 inc:(m.ents.map Ue.sess).Pairwise (· < ·)
 en: ∀x∈m.ents,EnOk m.roles x
theorem qr2 {l:List Int} (h: ∀i (h:i+1<l.length),l[i]<l[i+1]):l.Pairwise (· < ·):=by
 rw[jDk];intro i j hi e hij;obtain⟨d,rfl⟩: ∃d,j=i+1+d:=⟨j-(i+1),by omega⟩;induction d with
 |zero=>exact h i e
 |succ d ih=>exact Int.lt_trans (ih (by omega) (by omega)) (h (i+1+d) e)
theorem y6 {m:Mg}:ja m=true↔MW m:=by
 constructor
 ·intro h;have u:=qdx h;refine⟨u.1,u.2,qr2 λi hi=> ?_,λx hx=> ?_⟩
  ·have d:i+1<m.ents.length:=by simpa using hi
   have v:=h;simp only[ja,jAf]at v;have:=zo.1 v.1 (i+1) d;rw[<- enk m i d (by omega)]at this;simp only[jBa,jA4,jB6,decide_eq_false_iff_not]at this;simp only[jEn];have:=this.1.1.1.1.2;omega
  ·obtain⟨i,hi,rfl⟩:=jCd hx;obtain⟨a1,a2,a3⟩:=qip h hi;obtain⟨b1,b2,b3⟩:=qjz h hi;exact⟨b1,b2,a1,a2,a3,b3⟩
 ·rintro⟨r1,r6,e,en⟩;simp only[ja,jAf,decide_eq_true_eq];refine⟨zo.2 λi hi=> ?_,r1,r6⟩;obtain⟨s1,s32,t,q,o,p⟩:=en _ (jAg hi);rcases jC8 i with rfl|h0
  ·rw[<- en0 m hi];simp only[jBa,jA4,decide_eq_false_iff_not,bne_eq_false_iff_eq,beq_eq_false_iff_ne];exact⟨⟨⟨⟨⟨by omega,by omega⟩,t⟩,q⟩,p⟩,o⟩
  ·obtain⟨k,rfl⟩: ∃k,i=k+1:=⟨i-1,by omega⟩;rw[<- enk m k hi (by omega)];have l:=(jDk.1 e) k (k+1) (by simp;omega) (by simpa using hi) (by omega);simp only[jEn]at l;simp only[jBa,jA4,jB6,decide_eq_false_iff_not,bne_eq_false_iff_eq,beq_eq_false_iff_ne];exact⟨⟨⟨⟨⟨⟨by omega,by omega⟩,.inr (by omega)⟩,t⟩,q⟩,p⟩,o⟩
theorem qh5 {l:List Int} (h:l.Pairwise (· < ·)) (h1: ∀x∈l,1<=x) (d: ∀x∈l,x<=32):l.length<=32:=by
 have key: ∀(i:Nat) (hi:i<l.length),(i:Int)+1<=l[i]:=by
  intro i;induction i with
  |zero=>intro hi;have:=h1 _ (jAg hi);omega
  |succ i ih=>
   intro hi;have:=ih (by omega);have:=(jDk.1 h) i (i+1) (by omega) hi (by omega);omega
 rcases jB9 32 l.length with h'|h'
 ·have:=key 32 h';have:=d _ (jAg h');omega
 ·exact h'
theorem MW.sm {m:Mg} (h:MW m):m.Sm:=by
 refine⟨?_,λx d=> ?_⟩
 ·have:=qh5 h.inc (by intro x d;obtain⟨e,i,rfl⟩:=jAo.1 d;exact(h.en e i).s1) (by intro x d;obtain⟨e,i,rfl⟩:=jAo.1 d;exact(h.en e i).s32);rw[jAm]at this;omega
 ·have h1:=(h.en x d).ml;have h2:=(h.en x d).ol;have h6:=h.r6;exact⟨by omega,by omega⟩
theorem qis {m:Mg} {s:Int} (h:(xj m s).2=true): ∃hk:(xj m s).1<m.ents.length,m.ents[(xj m s).1].sess=s:=by
 refine⟨q2c h,?_⟩;unfold xj at h⊢;split at h
 ·rename_i d;simp only[d,if_true]at h⊢;rw[zm (qq7 d).2]at h;simpa using h
 ·cases h
theorem q2d {m:Mg} {s:Int} (hm:MW m) (h:(xj m s).2=false):(∀x∈m.ents.take (xj m s).1,x.sess<s)∧ ∀x∈m.ents.drop (xj m s).1,s<x.sess:=by
 unfold xj at h⊢;split at h
 ·rename_i d;obtain⟨_,q⟩:=qq7 d;simp only[d,if_true]at h⊢;rw[zm q]at h;have o:=List.findIdx_getElem (p:=λx:Ue=>decide (x.sess≥s)) (xs:=m.ents) (w:=q);simp only[decide_eq_true_eq]at o;simp only[beq_eq_false_iff_ne]at h;refine⟨λx e=> ?_,λx e=> ?_⟩
  ·obtain⟨i,hi,rfl⟩:=jCd e;have l:i<m.ents.findIdx (λx=>decide (x.sess≥s)):=by rw[jAl]at hi;omega
   have:=List.not_of_lt_findIdx l;simp at this;simpa using this
  ·obtain⟨i,hi,rfl⟩:=jCd e;rw[List.getElem_drop];rw[jAq]at hi;rcases jC8 i with rfl|h0
   ·simp only[Nat.add_zero];omega
   ·have:=(jDk.1 hm.inc) (m.ents.findIdx (λx=>decide (x.sess≥s))) (m.ents.findIdx (λx=>decide (x.sess≥s))+i) (by rw[jAm];exact q) (by rw[jAm];omega) (by omega);simp only[jEn]at this;omega
 ·rename_i d;simp only[d]at h⊢;simp only[jAw,if_false,jAs,jC0];refine⟨λx e=> ?_,by simp⟩;simp only[jC1,jD3,decide_eq_true_eq]at d;have:=d x e;omega
theorem qm1 {m:Mg} {s:Int} (hm:MW m):(xj m s).2=true↔ ∃x∈m.ents,x.sess=s:=by
 constructor
 ·intro h;obtain⟨hk,hs⟩:=qis h;exact⟨_,jAg hk,hs⟩
 ·rintro⟨x,d,hs⟩;cases hf:(xj m s).2 with
  |true=>rfl
  |false=>
   obtain⟨h1,h2⟩:=q2d hm hf;rw[<- jB5 (xj m s).1 m.ents]at d;rcases jAt.1 d with d|d
   ·have:=h1 x d;omega
   ·have:=h2 x d;omega
theorem xp6 {r s:Int} (h1:1<=r) (h6:r<=6) (e:1<=s) (d:s<=32):EnOk r (newE r s):=by
 have hr:r=1∨r=2∨r=3∨r=4∨r=5∨r=6:=by omega
 have hp:zs (newE r s)=1:=by rcases hr with rfl|rfl|rfl|rfl|rfl|rfl<;>simp[zs,newE,hasB,List.replicate]
 exact⟨e,d,by simp[newE];omega,by simp[newE];omega,by rw[hp];rfl,by show(1:Int)≠0;decide⟩
theorem qr3 (m:Mg) (s:Int) (d:MW m) (h1:1<=s) (p:s<=32):
  ((xj m s).2=true∧jc m s=(⟨0,[]⟩,9))∨((xj m s).2=false∧ ∃a b,m.ents=a++b∧jc m s=(⟨m.roles,a++ [newE m.roles s]++b⟩,0)∧MW ⟨m.roles,a++ [newE m.roles s]++b⟩):=by
 have q:=y6.2 d;have hs:(decide (s<1)||decide (s>32))=false:=by simp;omega
 cases hf:(xj m s).2 with
 |true=>exact .inl ⟨rfl,by simp[jc,q,hs,hf]⟩
 |false=>
  obtain⟨f1,f2⟩:=q2d d hf;refine .inr ⟨rfl,_,_,(jB5 (xj m s).1 m.ents).symm,by simp[jc,q,hs,hf],d.r1,d.r6,?_,?_⟩
  ·have hp:=d.inc;rw[<- jB5 (xj m s).1 m.ents,jA2,jFg]at hp;obtain⟨p1,p2,p3⟩:=hp;simp only[jA2,List.map_cons,List.map_nil,jAj,List.cons_append,List.nil_append];rw[jFg,jB1];refine⟨p1,⟨λy i=> ?_,p2⟩,λy i z l=> ?_⟩
   ·obtain⟨e,o,rfl⟩:=jAo.1 i;exact f2 e o
   ·obtain⟨e,o,rfl⟩:=jAo.1 i;rcases jAv.1 l with rfl|l
    ·exact f1 e o
    ·exact p3 _ i _ l
  ·intro x h;simp only[jAt,jB2]at h;rcases h with(h|h)|h
   ·exact d.en x (jBf h)
   ·subst h;exact xp6 d.r1 d.r6 h1 p
   ·exact d.en x (jCe h)
theorem q5m {s r label:Int} (h1:1<=s) (h2:s<=32) (h3:0<=r) (h4:r<6) (h5:label=1∨label=2):qo (vq s r label)=true:=by
 rcases h5 with rfl|rfl<;>simp[qo,qft,order,role,bare,vq,h1,h2,h3,h4]
theorem xf4 {r:Int} {x:Ue} (d:EnOk r x) (p:Pk) (e:zs (k8 p x)≠0):EnOk r (qaf (k8 p x)):=by
 unfold k8 at e⊢;split
 ·rename_i h;rw[if_pos h]at e;exact⟨d.s1,d.s32,d.ml,by simpa[qaf]using d.ol,rfl,e⟩
 ·rename_i h;rw[if_neg h]at e;exact⟨d.s1,d.s32,by simpa[qaf]using d.ml,d.ol,rfl,e⟩
theorem qgu (p:Pk) (x:Ue):(qaf (k8 p x)).sess=x.sess:=by unfold k8 qaf;split<;>rfl
theorem xp7 {l:List Bool}:l.all idB=true↔ ∀b∈l,b=true:=by simp[jAx,idB]
theorem qa0 (x:Ue):(zs x=3∧x.moved.all idB=true∧x.opened.all idB=true)∨(zs x=2∧x.moved.all idB=true∧x.opened.all idB=false)∨
  (zs x=0∧x.moved.all idB=false∧x.opened.any idB=true)∨(zs x=1∧x.moved.all idB=false∧x.opened.any idB=false):=by
 simp only[zs,qmk,q0z];cases x.moved.all idB<;>cases x.opened.all idB<;>cases x.opened.any idB<;>simp
theorem qn1 (m:Mg) (s r label:Int) (e:MW m) (h1:1<=s) (z:s<=32) (h0:0<=r) (hr:r<m.roles) (C:label=1∨label=2):
  ((xr m (vq s r label)).2≠0)∨ ∃k,∃q:k<m.ents.length,m.ents[k].sess=s∧(xj m s).1=k∧(qcv (vq s r label) m.ents[k]).getD r.toNat false=false∧(label=2->m.ents[k].phase≠1)∧
   xr m (vq s r label)=(⟨m.roles,m.ents.set k (qaf (k8 (vq s r label) m.ents[k]))⟩,0)∧EnOk m.roles (qaf (k8 (vq s r label) m.ents[k]))∧MW ⟨m.roles,m.ents.set k (qaf (k8 (vq s r label) m.ents[k]))⟩:=by
 have hv:=y6.2 e;have hp:=q5m h1 z h0 (by have:=e.r6;omega) C;have E:(!ja m||(vq s r label).kind !=4|| !qo (vq s r label)||decide ((vq s r label).from_≥m.roles))=false:=by
  rw[hv,hp];simp[vq];omega
 cases hf:(xj m s).2 with
 |false=>
  refine .inl ?_;have:(xj m (vq s r label).sess).2=false:=hf;simp only[xr,E,this];simp
 |true=>
  obtain⟨q,hs⟩:=qis hf;have hu:xr m (vq s r label)=(if(qcv (vq s r label) m.ents[(xj m s).1]).getD r.toNat false then(⟨0,[]⟩,21)
    else if label==2&&m.ents[(xj m s).1].phase==1 then(⟨0,[]⟩,7)
    else(⟨m.roles,m.ents.set (xj m s).1 (qaf (k8 (vq s r label) m.ents[(xj m s).1]))⟩,0)):=by
   have e1:(vq s r label).sess=s:=rfl;have e2:(vq s r label).from_=r:=rfl
   have e3:(vq s r label).label=label:=rfl;simp only[xr,E];simp only[e1,e2,e3,hf,zm q];rfl
  rw[hu];by_cases c1:(qcv (vq s r label) m.ents[(xj m s).1]).getD r.toNat false=true
  ·exact .inl (by rw[if_pos c1];simp)
  ·rw[if_neg c1];by_cases c2:(label==2&&m.ents[(xj m s).1].phase==1)=true
   ·exact .inl (by rw[if_pos c2];simp)
   ·rw[if_neg c2];have t:=e.en _ (jAg q);have d:EnOk m.roles (qaf (k8 (vq s r label) m.ents[(xj m s).1])):=by
     refine xf4 t _ ?_;have o:=qa0 m.ents[(xj m s).1];have hph:=t.ph;have hp0:=t.p0;have hm6:=e.r6;have l:r.toNat<m.ents[(xj m s).1].moved.length:=by have:=t.ml;omega
     intro hz;rcases C with rfl|rfl
     ·have p: ¬m.ents[(xj m s).1].moved.all idB=true:=by
       intro ha;have:=xp7.1 ha _ (jAg l);exact c1 (by simp[qcv,vq,List.getD,l,this])
      rcases qa0 (k8 (vq s r 1) m.ents[(xj m s).1])with⟨h,_⟩|⟨h,_⟩|⟨_,_,h⟩|⟨h,_⟩
      ·omega
      ·omega
      ·have h':m.ents[(xj m s).1].opened.any idB=true:=h;rcases o with⟨_,h,_⟩|⟨_,h,_⟩|⟨h,_⟩|⟨_,_,h⟩
       ·exact p h
       ·exact p h
       ·omega
       ·rw[h]at h';cases h'
      ·omega
     ·have hne:m.ents[(xj m s).1].phase≠1:=by simpa using c2
      rcases qa0 (k8 (vq s r 2) m.ents[(xj m s).1])with⟨h,_⟩|⟨h,_⟩|⟨_,h,_⟩|⟨h,_⟩
      ·omega
      ·omega
      ·have h':m.ents[(xj m s).1].moved.all idB=false:=h;rcases o with⟨_,h,_⟩|⟨_,h,_⟩|⟨h,_⟩|⟨h,_⟩
       ·rw[h]at h';cases h'
       ·rw[h]at h';cases h'
       ·omega
       ·omega
      ·omega
    refine .inr ⟨_,q,hs,rfl,by simpa using c1,λv=> ?_,rfl,d,e.r1,e.r6,?_,?_⟩
    ·subst v;simpa using c2
    ·have:((m.ents.set (xj m s).1 (qaf (k8 (vq s r label) m.ents[(xj m s).1]))).map Ue.sess)=m.ents.map Ue.sess:=by
      rw[jDz,qgu];refine jC6 λi=> ?_;rw[List.getElem?_set];split
      ·rename_i h;subst h;simp[q]
      ·rfl
     simp only[this];exact e.inc
    ·intro x u;rcases jD7 u with h|h
     ·exact e.en x h
     ·subst h;exact d
def bitN:List Bool->Nat
 | []=>0
 |b::l=>b.toNat+2*bitN l
theorem qgv: ∀l:List Bool,bitN l<2^l.length
 | []=>by simp[bitN]
 |b::l=>by
  have:=qgv l;have hb:b.toNat<=1:=by cases b<;>decide
  rw[bitN,List.length_cons,jCi];omega
def wd:Nat->Nat->List Bool
 |0,_=> []
 |k+1,n=>(n%2==1)::wd k (n/2)
theorem vw: ∀k n,(wd k n).length=k
 |0,_=>rfl
 |k+1,n=>by rw[wd,List.length_cons,vw k]
theorem qj0: ∀l:List Bool,wd l.length (bitN l)=l
 | []=>rfl
 |b::l=>by
  rw[List.length_cons,wd,bitN];have h1:(b.toNat+2*bitN l)/2=bitN l:=by cases b<;>simp<;>omega
  have h2:((b.toNat+2*bitN l)%2==1)=b:=by cases b<;>simp<;>omega
  rw[h1,h2,qj0 l]
theorem qu2: ∀(k n i:Nat),i<k->(wd k n).getD i false=(n/2^i%2==1)
 |k+1,n,0,_=>by simp[wd]
 |k+1,n,i+1,h=>by
  rw[wd,jD9,qu2 k (n/2) i (by omega),jE4,jCi,jDx]
def qew (x:Ue):List UInt8:=wInt x.phase++wInt (bitN x.moved)++wInt (bitN x.opened)
def uPfx:List UInt8:= [117,47]
def uKey (s:Int):List UInt8:= [117,47,UInt8.ofNat (48+s.toNat/10),UInt8.ofNat (48+s.toNat%10)]
theorem q71: ∀a b:Fin 33,(uKey (a.val:Int)=uKey (b.val:Int) ->a=b)∧(a<b->Op.bytesLess (uKey (a.val:Int)) (uKey (b.val:Int))=true):=by decide+kernel
theorem qxt {a b:Int} (h1:0<=a) (h2:a<=32) (h3:0<=b) (h4:b<=32) (h:uKey a=uKey b):a=b:=by
 obtain⟨m,rfl⟩: ∃m:Nat,a=m:=⟨a.toNat,by omega⟩;obtain⟨n,rfl⟩: ∃n:Nat,b=n:=⟨b.toNat,by omega⟩;have:=(q71 ⟨m,by omega⟩ ⟨n,by omega⟩).1 h;simp at this;omega
theorem xp8 {a b:Int} (h1:0<=a) (h4:b<=32) (h:a<b):cmpB (uKey a) (uKey b)<0:=by
 obtain⟨m,rfl⟩: ∃m:Nat,a=m:=⟨a.toNat,by omega⟩;obtain⟨n,rfl⟩: ∃n:Nat,b=n:=⟨b.toNat,by omega⟩;have:=(q71 ⟨m,by omega⟩ ⟨n,by omega⟩).2 (by simp;omega);rw[qgo]at this;simpa using this
theorem xlu (s:Int):pre uPfx (uKey s)=true:=rfl
def ldN (d:Int):Int:=2^d.toNat-1
def ldRd (d:Int) (v:List UInt8):(Int×Int×Int)×Rd:=
 (((qco ⟨v,0,false⟩).1,(xy 0 (ldN d) (qco ⟨v,0,false⟩).2).1,(xy 0 (ldN d) (xy 0 (ldN d) (qco ⟨v,0,false⟩).2).2).1),
  (xy 0 (ldN d) (xy 0 (ldN d) (qco ⟨v,0,false⟩).2).2).2)
def q5o (d s:Int) (x:Int×Int×Int):Ue:=⟨s,x.1,wd d.toNat x.2.1.toNat,wd d.toNat x.2.2.toNat⟩
def xlv (d s:Int) (v:List UInt8):Option Ue:=if rEnd (ldRd d v).2=0 then some (q5o d s (ldRd d v).1)else none
def qja (k:List UInt8):Option Nat:=(List.range 33).find? λs=>uKey (s:Nat)==k
def ldEn (d:Int) (e:En):Option Ue:=match qja e.1 with
 |none=>none
 |some s=>xlv d (s:Nat) e.2
def qlp (d:Int):List En->Option (List Ue)
 | []=>some []
 |e::l=>match ldEn d e with
  |none=>none
  |some x=>(qlp d l).map (x:: ·)
def ldMg (d:Int):Option (List Ue) ->Mg×Int
 |none=>(⟨0,[]⟩,4)
 |some l=>if ja ⟨d,l⟩=true then(⟨d,l⟩,0)else(⟨0,[]⟩,4)
def wv (m:Cont) (d:Int):Mg×Int:=
 if(decide (d<1)||decide (d>6))=true then(⟨0,[]⟩,2)else ldMg d (qlp d (qa9 m uPfx))
theorem xa8 {s:Int} (h1:0<=s) (h2:s<=32):qja (uKey s)=some s.toNat:=by
 obtain⟨n,rfl⟩: ∃n:Nat,s=n:=⟨s.toNat,by omega⟩;unfold qja;cases hf:(List.range 33).find? (λs=>uKey (s:Nat)==uKey (n:Int))with
 |none=>
  rw[jCj]at hf;exact absurd (beq_self_eq_true _) (hf n (by simp;omega))
 |some k=>
  have d:=jD1 hf;have hm:=jBz hf;simp only[beq_iff_eq]at d;simp only[jC9]at hm;have:=qxt (a:=(k:Int)) (b:=(n:Int)) (by omega) (by omega) (by omega) (by omega) d;congr 1;omega
theorem q5p {k:List UInt8} {s:Nat} (h:qja k=some s):s<=32∧k=uKey (s:Nat):=by
 have d:=jD1 h;have hm:=jBz h;simp only[beq_iff_eq]at d;simp only[jC9]at hm;exact⟨by omega,d.symm⟩
theorem xuq {r:Int} (h1:1<=r) (h6:r<=6):(2:Nat)^r.toNat<=64:=by
 have:r.toNat<=6:=by omega
 exact jBj (jB4 (by decide) this) (by decide)
theorem qxu (r:Int):ldN r=((2^r.toNat-1:Nat):Int):=by
 unfold ldN;have:1<=2^r.toNat:=Nat.one_le_two_pow;rw[Int.ofNat_sub this];simp
theorem xs9 {r:Int} (h1:1<=r) (h6:r<=6) {l:List Bool} (hl:(l.length:Int)=r) (t:List UInt8):ze 0 (ldN r) (wInt (bitN l)++t)=some ((bitN l:Int),t):=by
 have hb:=qgv l;have h64:=xuq h1 h6;have e:l.length=r.toNat:=by omega
 rw[e]at hb;rw[ze,qct (by unfold I64;omega)];simp only;have: ¬((bitN l:Int)<0∨(bitN l:Int)>ldN r):=by rw[qxu];omega
 simp[this]
theorem xf5 {r:Int} (o:1<=r) (m:r<=6) {x:Ue} (d:EnOk r x):xlv r x.sess (qew x)=some x:=by
 have hp:I64 x.phase:=by
  rw[d.ph];rcases qa0 x with h|h|h|h<;>rw[h.1]<;>unfold I64<;>omega
 have e:(qew x).length<=1000000000:=by
  have a:=xu hp;have hb:=qgv x.moved;have hc:=qgv x.opened;have h64:=xuq o m;have e1:x.moved.length=r.toNat:=by have:=d.ml;omega
  have e2:x.opened.length=r.toNat:=by have:=d.ol;omega
  rw[e1]at hb;rw[e2]at hc;have b:=xu (n:=(bitN x.moved:Int)) (by unfold I64;omega);have c:=xu (n:=(bitN x.opened:Int)) (by unfold I64;omega);simp only[qew,jAc];omega
 have z:(⟨qew x,0,false⟩:Rd).Ok:=⟨e,jAi _⟩;have t:qew x=wInt x.phase++(wInt (bitN x.moved)++wInt (bitN x.opened)):=by rw[qew,jAj]
 have b2:=xs9 o m d.ml (wInt (bitN x.opened));have b3:=xs9 o m d.ol [];rw[jAu]at b3;generalize qew x=v at e z t⊢;have F:=yh qmn z rfl (v:=x.phase) (l:=wInt (bitN x.moved)++wInt (bitN x.opened)) (by simp only[List.drop_zero,t];exact qct hp _);have u:=(ws (b:=v) (p:=0) (q:=wInt x.phase) (jAi _) (by rw[List.drop_zero,t])).1;have E:=yh (qep 0 (ldN r)) (r:=⟨v,v.length-(wInt (bitN x.moved)++wInt (bitN x.opened)).length,false⟩) ⟨e,jCu _ _⟩ rfl (by simp only[u];exact b2);have t2:=(ws (b:=v) (p:=v.length-(wInt (bitN x.moved)++wInt (bitN x.opened)).length) (q:=wInt (bitN x.moved)) (jCu _ _) u).1;have C:=yh (qep 0 (ldN r)) (r:=⟨v,v.length-(wInt (bitN x.opened)).length,false⟩) ⟨e,jCu _ _⟩ rfl (by simp only[t2];exact b3);simp only at F E C;have k1:r.toNat=x.moved.length:=by have:=d.ml;omega
 have k2:r.toNat=x.opened.length:=by have:=d.ol;omega
 have i:ldRd r v=((x.phase,(bitN x.moved:Int),(bitN x.opened:Int)),⟨v,v.length,false⟩):=by
  simp only[ldRd,F,E,C,List.length_nil,jCt]
 have he:rEnd ⟨v,v.length,false⟩=0:=by simp[rEnd]
 simp only[xlv,i];rw[if_pos he];simp only[q5o,jA6];congr 1;have q1:wd r.toNat (bitN x.moved)=x.moved:=by rw[k1];exact qj0 _
 have q2:wd r.toNat (bitN x.opened)=x.opened:=by rw[k2];exact qj0 _
 rw[q1,q2]
theorem xlw {r:Int} (h1:1<=r) (h6:r<=6) {x:Ue} (d:EnOk r x):ldEn r (uKey x.sess,qew x)=some x:=by
 have a:=d.s1;have b:=d.s32;have e:((x.sess.toNat:Nat):Int)=x.sess:=by omega
 unfold ldEn;simp only[xa8 (s:=x.sess) (by omega) b,e];exact xf5 h1 h6 d
theorem q2e {r:Int} (e:1<=r) (d:r<=6): ∀{l:List Ue},(∀x∈l,EnOk r x) ->qlp r (l.map λx=>(uKey x.sess,qew x))=some l
 | [],_=>rfl
 |x::l,h=>by
  rw[List.map_cons,qlp,xlw e d (h x jA7)];simp only[q2e e d (λy hy=>h y (jA9 _ hy)),Option.map_some]
theorem q5q {l:List Ue} (h:l.Pairwise λa b=>a.sess≠b.sess) {x y:Ue} (d:x∈l) (i:y∈l) (m:x≠y):x.sess≠y.sess:=by
 induction l with
 |nil=>cases d
 |cons a l ih=>
  obtain⟨o,h2⟩:=jB1.1 h;rcases jAv.1 d with d|d<;>rcases jAv.1 i with i|i
  ·exact absurd (d.trans i.symm) m
  ·rw[d];exact o y i
  ·rw[i];exact λe=>o x d e.symm
  ·exact ih h2 d i
def URep (m:Cont) (g:Mg):Prop:= ∀k,pre uPfx k=true->mGet k m=(g.ents.find? λx=>uKey x.sess==k).map qew
theorem xf6 {m:Cont} (t:m.Ok) {g:Mg} (i:MW g) (h:URep m g):qa9 m uPfx=g.ents.map λx=>(uKey x.sess,qew x):=by
 refine qih (qhv t _) ?_ λe=> ?_
 ·unfold Sorted;rw[jCv];have hp:=i.inc;rw[jCv]at hp;refine hp.imp_of_mem λ{a b} ha hb p=> ?_;have:=(i.en a ha).s1;exact xp8 (by omega) (i.en b hb).s32 p
 ·rw[qrb t,jAo];constructor
  ·rintro⟨u,h2⟩;rw[h _ h2,jAb]at u;obtain⟨x,d,hv⟩:=u;have o:=jD1 d;exact⟨x,jBz d,by rw[beq_iff_eq.1 o,hv]⟩
  ·rintro⟨x,d,rfl⟩;refine⟨?_,rfl⟩;rw[h _ rfl,jAb];refine⟨x,?_,rfl⟩;cases hf:g.ents.find? (λy=>uKey y.sess==uKey x.sess)with
   |none=>rw[jCj]at hf;exact absurd (beq_self_eq_true _) (hf x d)
   |some y=>
    have o:=jD1 hf;have q:=jBz hf;have z:=i.en x d;have v:=i.en y q;have hs:=qxt (by have:=v.s1;omega) v.s32 (by have:=z.s1;omega) z.s32 (beq_iff_eq.1 o);have hn:g.ents.Pairwise λa b=>a.sess≠b.sess:=by
     have hp:=i.inc;rw[jCv]at hp;exact hp.imp λh=>by omega
    congr 1;by_cases l:y=x
    ·exact l
    ·exact absurd hs (q5q hn q d l)
theorem xa9 {m:Cont} (hm:m.Ok) {g:Mg} (d:MW g) (h:URep m g):wv m g.roles=(g,0):=by
 have h1:=d.r1;have h6:=d.r6;unfold wv;rw[if_neg (by simp;omega),xf6 hm d h,q2e h1 h6 d.en];have:ja ⟨g.roles,g.ents⟩=true:=y6.2 d;simp only[ldMg,this,if_true]
def chOp (a:Mg) (x:Ue):List OpS:=if x∈a.ents then []else [⟨uKey x.sess,false,qew x⟩]
def qr4 (a b:Mg):List OpS:=b.ents.flatMap (chOp a)
def jd (a b:Mg):List OpS×Int:=
 if(!ja a|| !ja b||a.roles !=b.roles)=true then([],1)else if(a.ents.any λx=> !(xj b x.sess).2)=true then([],1)else(qr4 a b,0)
theorem qm2 (k:List UInt8): ∀(l:List OpS) (a:Option (List UInt8)) (l':List OpS),vg k a (l++l')=vg k (vg k a l) l'
 | [],_,_=>rfl
 |o::l,a,l'=>by rw[List.cons_append,vg,vg,qm2 k l]
theorem xf7 {a:Mg} {k:List UInt8}: ∀{l:List Ue},(∀x∈l,uKey x.sess≠k) -> ∀g,vg k g (l.flatMap (chOp a))=g
 | [],_,_=>rfl
 |x::l,h,g=>by
  have hx:=h x jA7;have:vg k g (chOp a x)=g:=by
   unfold chOp;split
   ·rfl
   ·simp[vg,hx]
  rw[List.flatMap_cons,qm2,this,xf7 (λy hy=>h y (jA9 _ hy))]
theorem xf8 {a:Mg} {k:List UInt8}: ∀{l:List Ue},(l.map λx=>uKey x.sess).Nodup-> ∀g,vg k g (l.flatMap (chOp a))=match l.find? (λx=>uKey x.sess==k)with
  |some x=>if x∈a.ents then g else some (qew x)
  |none=>g
 | [],_,_=>rfl
 |x::l,h,g=>by
  rw[List.map_cons,jCf]at h;obtain⟨h1,h2⟩:=h;rw[List.flatMap_cons,qm2];by_cases d:uKey x.sess=k
  ·have hn: ∀y∈l,uKey y.sess≠k:=λy hy e=>h1 (jAo.2 ⟨y,hy,by rw[e,d]⟩);rw[xf7 hn];simp only[jB7,beq_iff_eq.2 d];unfold chOp;split
   ·rfl
   ·simp[vg,d]
  ·have:vg k g (chOp a x)=g:=by
    unfold chOp;split
    ·rfl
    ·simp[vg,d]
   have hb:(uKey x.sess==k)=false:=by simpa using d
   rw[this,xf8 h2];simp only[jB7,hb]
theorem qu3 {g:Mg} (d:MW g):(g.ents.map λx=>uKey x.sess).Nodup:=by
 have hp:=d.inc;rw[jCv]at hp;unfold List.Nodup;rw[jCv];refine hp.imp_of_mem λ{a b} ha hb hab h=> ?_;have i:=d.en a ha;have e:=d.en b hb;have:=qxt (by have:=i.s1;omega) i.s32 (by have:=e.s1;omega) e.s32 h;omega
theorem xlx {g:Mg} (hg:MW g) {x:Ue} (d:x∈g.ents):g.ents.find? (λy=>uKey y.sess==uKey x.sess)=some x:=by
 have hn:=qu3 hg;generalize g.ents=l at d hn⊢;induction l with
 |nil=>cases d
 |cons a l ih=>
  rw[List.map_cons,jCf]at hn;rcases jAv.1 d with rfl|d
  ·simp
  ·have:(uKey a.sess==uKey x.sess)=false:=by
    rw[beq_eq_false_iff_ne];exact λe=>hn.1 (jAo.2 ⟨x,d,e.symm⟩)
   simp only[jB7,this];exact ih d hn.2
theorem xf9 {m m':Cont} {a b:Mg} (ha:MW a) (hb:MW b) (hs: ∀x∈a.ents,∃y∈b.ents,y.sess=x.sess) (hr:URep m a) (hg: ∀k,mGet k m'=vg k (mGet k m) (qr4 a b)):URep m' b:=by
 intro k hk;rw[hg,qr4,xf8 (qu3 hb),hr k hk];cases hf:b.ents.find? (λx=>uKey x.sess==k)with
 |some x=>
  have d:=jD1 hf;simp only[beq_iff_eq]at d;simp only[Option.map_some];split
  ·rename_i i;rw[<- d,xlx ha i];rfl
  ·rfl
 |none=>
  simp only[Option.map_none,Option.map_eq_none_iff];rw[jCj]at hf⊢;intro x hx h;obtain⟨y,hy,e⟩:=hs x hx;exact hf y hy (by rw[e];exact h)
theorem xba (d:Int):URep qch ⟨d,[]⟩:=λk _=>rfl
theorem xbb {m m':Cont} {g:Mg} (hr:URep m g) (h: ∀k,pre uPfx k=true->mGet k m'=mGet k m):URep m' g:=λk d=>by rw[h k d,hr k d]
theorem qr5 {k:List UInt8}: ∀{l:List OpS},(∀o∈l,o.key≠k) -> ∀g,vg k g l=g
 | [],_,_=>rfl
 |o::l,h,g=>by rw[vg,if_neg (h o jA7),qr5 λx hx=>h x (jA9 _ hx)]
theorem xbc {n:Nat} {s:Sto} (h:s.Ok n) (hm:s.m.l.length<=390) {k v:List UInt8} (k1:1<=k.length) (k4:k.length<=40) (hv:v.length<=900):
  (xh s [⟨k,false,v⟩]).2=0∧(xh s [⟨k,false,v⟩]).1.Ok (n+1)∧(xh s [⟨k,false,v⟩]).1.m.l.length<=s.m.l.length+1∧ ∀k',mGet k' (xh s [⟨k,false,v⟩]).1.m=vg k' (mGet k' s.m) [⟨k,false,v⟩]:=by
 have hp:kh ⟨k,false,v⟩=true:=vz.2 ⟨k1,k4,hv,λh=>by cases h⟩;have a1:=xu (n:=(k.length:Int)) (zd (by omega));have a2:=xu (n:=(v.length:Int)) (zd (by omega));have a3:=xu (n:=(([⟨k,false,v⟩]:List OpS).length:Int)) (zd (by simp));have he:(qx [⟨k,false,v⟩]).2=0:=by
  unfold qx;rw[if_neg (by simp[hp]),if_neg];simp only[jA1,decide_eq_true_eq,not_or,wOps,wOp,qa7,jAc,List.flatMap_cons,List.flatMap_nil,jAu,List.length_cons,List.length_nil]at a3⊢;omega
 have d:(jt s.m [⟨k,false,v⟩]).2=true∧(jt s.m [⟨k,false,v⟩]).1.l.length<=s.m.l.length+1:=by
  have hl:=q65 k v s.m;rw[jt,if_neg (by simp),if_neg (by simp only;omega),jt];exact⟨rfl,hl⟩
 have hc:xh s [⟨k,false,v⟩]=(⟨yu s.file (qx [⟨k,false,v⟩]).1,s.synced,(jt s.m [⟨k,false,v⟩]).1⟩,0):=by
  unfold xh;rw[if_neg (by simp[he]),if_neg (by simp[d.1])]
 have hok:=qjo h [⟨k,false,v⟩];rw[hc]at hok⊢;exact⟨rfl,hok,d.2,λk'=>qfx k' _ h.good.ok d.1⟩
theorem xga {r:Int} (h6:r<=6) {x:Ue} (d:EnOk r x):(qew x).length<=30:=by
 have h1:0<=r:=by have:=d.ml;omega
 have h64:(2:Nat)^r.toNat<=64:=jBj (jB4 (by decide) (show r.toNat<=6 by omega)) (by decide);have hp:I64 x.phase:=by
  rw[d.ph];rcases qa0 x with h|h|h|h<;>rw[h.1]<;>unfold I64<;>omega
 have a:=xu hp;have hb:=qgv x.moved;have hc:=qgv x.opened;have e1:x.moved.length=r.toNat:=by have:=d.ml;omega
 have e2:x.opened.length=r.toNat:=by have:=d.ol;omega
 rw[e1]at hb;rw[e2]at hc;have b:=xu (n:=(bitN x.moved:Int)) (by unfold I64;omega);have c:=xu (n:=(bitN x.opened:Int)) (by unfold I64;omega);simp only[qew,jAc];omega
theorem q2f {m:Mg} {r:Int} {a c:List Ue} {y:Ue} (ha: ∀x∈a,x∈m.ents) (hc: ∀x∈c,x∈m.ents) (hy:y∉m.ents):qr4 m ⟨r,a++y::c⟩= [⟨uKey y.sess,false,qew y⟩]:=by
 have hn: ∀l:List Ue,(∀x∈l,x∈m.ents) ->l.flatMap (chOp m)= []:=λl hl=>by
  rw[jCn];intro x hx;rw[chOp,if_pos (hl x hx)]
 unfold qr4;simp only[jDt,List.flatMap_cons,hn a ha,hn c hc,List.nil_append,jAu];rw[chOp,if_neg hy]
structure OneStep (m b:Mg):Prop where
 mw:MW b
 roles:b.roles=m.roles
 keep: ∀x∈m.ents,∃y∈b.ents,y.sess=x.sess
 one: ∃y∈b.ents,qr4 m b= [⟨uKey y.sess,false,qew y⟩]
theorem OneStep.changes {m b:Mg} (hm:MW m) (h:OneStep m b):jd m b=(qr4 m b,0):=by
 have h1:ja m=true:=y6.2 hm;have h2:ja b=true:=y6.2 h.mw;unfold jd;rw[if_neg (by simp[h1,h2,h.roles]),if_neg];simp only[jB3,not_exists,not_and,jBa,jEx];intro x hx;obtain⟨y,hy,e⟩:=h.keep x hx;exact(qm1 h.mw).2 ⟨y,hy,e⟩
theorem q2g {m:Mg} {s:Int} (i:MW m) (h:(jc m s).2=0):OneStep m (jc m s).1:=by
 have hv:=y6.2 i;have hs:1<=s∧s<=32:=by
  unfold jc at h;rw[hv]at h;simp only[jEq,jAw,if_false]at h;split at h
  ·cases h
  ·rename_i hn;simp at hn;omega
 rcases qr3 m s i hs.1 hs.2 with⟨_,e⟩|⟨hf,a,b,l,e,hw⟩
 ·rw[e]at h;cases h
 ·rw[e];refine⟨hw,rfl,λx d=> ?_,newE m.roles s,by simp,?_⟩
  ·rw[l]at d;refine⟨x,?_,rfl⟩;simp only[jAt,jB2];rcases jAt.1 d with h|h
   ·exact .inl (.inl h)
   ·exact .inr h
  ·have hy:newE m.roles s∉m.ents:=λh=>by
    have:=(qm1 i (s:=s)).2 ⟨_,h,rfl⟩;rw[hf]at this;cases this
   have:=q2f (m:=m) (r:=m.roles) (a:=a) (c:=b) (λx d=>by rw[l];exact jBb _ d) (λx d=>by rw[l];exact jBe _ d) hy;simpa[jAj]using this
theorem qu4 {m:Mg} {s r label:Int} (C:MW m) (I:label=1∨label=2) (h:(xr m (vq s r label)).2=0):OneStep m (xr m (vq s r label)).1:=by
 have hv:=y6.2 C;have hs:1<=s∧s<=32∧0<=r∧r<m.roles:=by
  unfold xr at h;split at h
  ·cases h
  ·rename_i hn;rw[hv]at hn;simp only[vq,qo,qft,order,role,jEq,jDj,jA1,bne_iff_ne,ne_eq,not_or,jBa,decide_eq_true_eq]at hn;simp at hn;exact⟨hn.1.1,of_decide_eq_true hn.1.2.1,hn.1.2.2.1,hn.2⟩
 obtain⟨h1,G,h0,hr⟩:=hs;rcases qn1 m s r label C h1 G h0 hr I with e|⟨k,E,hks,_,q,_,e,he,hw⟩
 ·exact absurd h e
 ·rw[e];have p:m.ents.set k (qaf (k8 (vq s r label) m.ents[k]))=m.ents.take k++qaf (k8 (vq s r label) m.ents[k])::m.ents.drop (k+1):=by rw[List.set_eq_take_append_cons_drop,if_pos E]
  refine⟨hw,rfl,λx o=> ?_,qaf (k8 (vq s r label) m.ents[k]),by rw[p];simp,?_⟩
  ·obtain⟨i,hi,rfl⟩:=jCd o;by_cases hik:i=k
   ·subst hik;exact⟨_,List.mem_set E _,qgu _ _⟩
   ·refine⟨m.ents[i],?_,rfl⟩;have:=List.getElem_set_ne (l:=m.ents) (i:=k) (j:=i) (a:=qaf (k8 (vq s r label) m.ents[k])) (Ne.symm hik) (by simpa using hi);rw[<- this];exact jAg _
  ·rw[p];refine q2f (λx o=>jBf o) (λx o=>jCe o) λv=> ?_;have o:=C.en _ (jAg E);have hy:=he;have hn:m.ents.Pairwise λa b=>a.sess≠b.sess:=by
    have hp:=C.inc;rw[jCv]at hp;exact hp.imp λh=>by omega
   have d:qaf (k8 (vq s r label) m.ents[k])=m.ents[k]:=by
    by_cases t:qaf (k8 (vq s r label) m.ents[k])=m.ents[k]
    ·exact t
    ·exact absurd (qgu _ _) (q5q hn v (jAg E) t)
   have F:r.toNat<m.ents[k].moved.length:=by have:=o.ml;omega
   have u:r.toNat<m.ents[k].opened.length:=by have:=o.ol;omega
   rcases I with rfl|rfl
   ·have z:=congrArg Ue.moved d;simp only[qaf,k8,vq]at z;simp only[qcv,vq]at q;have:=congrArg (λl=>l.getD r.toNat false) z;simp[List.getD,F]at this q;rw[this]at q;cases q
   ·have z:=congrArg Ue.opened d;simp only[qaf,k8,vq]at z;simp only[qcv,vq]at q;have:=congrArg (λl=>l.getD r.toNat false) z;simp[List.getD,u]at this q;rw[this]at q;cases q
def d316:=cut prog f316 news
@[go_sem] def E316:=qm d316
def F316:=fnC d316 follows func316
def d271:=cut prog f271 news
@[go_sem] def E271:=qm d271
def F271:=fnC d271 follows func271
def d228:=cut prog f228 news
@[go_sem] def E228:=qm d228
def F228:=fnC d228 follows func228
def d146:=cut prog f146 news
@[go_sem] def E146:=qm d146
def F146:=fnC d146 follows func146
def d148:=cut prog f148 news
@[go_sem] def E148:=qm d148
def F148:=fnC d148 follows func148
def d80:=cut prog f80 news
@[go_sem] def E80:=qm d80
def F80:=fnC d80 follows func80
def d79:=cut prog f79 news
@[go_sem] def E79:=qm d79
def F79:=fnC d79 follows func79
def d25:=cut prog f25 news
@[go_sem] def E25:=qm d25
def F25:=fnC d25 follows func25
theorem xly: ∀n:Fin 10,(([48,49,50,51,52,53,54,55,56,57,97,98,99,100,101,102,103,104,105,106,107,108,109,110,111,112,113,114,115,116,117,118,119,120,121,122]:List UInt8).drop n.val).take 1= [UInt8.ofNat (48+n.val)]:=by decide
theorem q72 (n:Nat) (hn:n<10):qh prog 316 [.d (.int .i64 (n:Nat))] [] (.d (.str [UInt8.ofNat (48+n)])) []:=by
 have h1:decide (((n:Nat):Int)<10)=true:=by simp;omega
 have h2:=xly ⟨n,hn⟩;simp only at h2;have h3:IntKind.i64.wrap ((n:Int)+1)=((n+1:Nat):Int):=qg (show n<9223372036854775807 by omega);have h4:n+1-n=1:=by omega
 refine F316.go ?_;refine eo1 @h1 ?_;refine qa2 ?_;refine ez4 @h3 @jA6 @h4 @h2 ?_;omega
theorem qn2 (n:Nat) (hn:n<10):qh prog 271 [.d (.int .i64 (n:Nat)),.d (.int .i64 10)] [] (.d (.str [UInt8.ofNat (48+n)])) []:=by
 have h1:decide ((0:Int)<=((n:Nat):Int))=true:=by simp
 have h2:decide (((n:Nat):Int)<100)=true:=by simp;omega
 refine F271.go ?_;refine eo ?_;refine qa2 ?_;refine eo2 @h1 @h2 ?_;refine qa2 ?_;refine eo ?_;first|refine cl F316 (q72 n hn) ?_|refine clF F316 (q72 n hn) (λ_=>by exact et3 @ql.eq_1 @qu.eq_1 @qr.eq_1) ?_
 exact et
theorem q73 (n:Nat) (hn:n<10):qh prog 228 [.d (.int .i64 (n:Nat))] [] (.d (.str [UInt8.ofNat (48+n)])) []:=by
 refine F228.go ?_;refine eo ?_;first|refine cl F271 (qn2 n hn) ?_|refine clF F271 (qn2 n hn) (λ_=>by exact et3 @ql.eq_1 @qu.eq_1 @qr.eq_1) ?_
 exact et
theorem qxv (n:Nat) (hn:n<10):qh prog 146 [.d (.int .i64 (n:Nat))] [] (.d (.str [UInt8.ofNat (48+n)])) []:=by
 refine F146.go ?_;refine eo ?_;first|refine cl F228 (q73 n hn) ?_|refine clF F228 (q73 n hn) (λ_=>by exact et3 @ql.eq_1 @qu.eq_1 @qr.eq_1) ?_
 exact et
theorem qj1 (s:Int) (h1:0<=s) (h2:s<=99):qh prog 79 [.d (.int .i64 s)] [] (.d (.str (uKey s))) []:=by
 obtain⟨n,rfl⟩: ∃n:Nat,s=n:=⟨s.toNat,by omega⟩;have e1:IntKind.i64.wrap ((n:Int).tdiv 10)=((n/10:Nat):Int):=by
  rw[jB8 (by omega),x9 (by unfold I64;omega)];omega
 have e2:((n:Int)).tmod 10=((n%10:Nat):Int):=by rw[jBd (by omega)];omega
 refine F79.go ?_;refine eo2 @e1 @e2 ?_;first|refine cl F146 (qxv (n/10) (by omega)) ?_|refine clF F146 (qxv (n/10) (by omega)) (λ_=>by exact et3 @ql.eq_1 @qu.eq_1 @qr.eq_1) ?_
 refine eo ?_;first|refine cl F146 (qxv (n%10) (by omega)) ?_|refine clF F146 (qxv (n%10) (by omega)) (λ_=>by exact et3 @ql.eq_1 @qu.eq_1 @qr.eq_1) ?_
 exact et3 @uKey.eq_1 @jA6 @jAj.{0}
def xgb (l:List Bool) (i:{i:Nat//i<=l.length}):St:=
 ⟨[(3,true,.d (.int .i64 (bitN (l.take i.val):Nat))),(6,true,.d (.sl 1 (l.map encB))),(7,true,.d (.int .i64 l.length)),(8,true,.d (.int .i64 (i.val:Nat)))],[],[],1⟩
theorem q2h: ∀(l:List Bool) (b:Bool),bitN (l++ [b])=bitN l+b.toNat*2^l.length
 | [],b=>by simp[bitN]
 |c::l,b=>by
  rw[List.cons_append,bitN,q2h l b,bitN,List.length_cons,jCi,Nat.mul_add,<- jEz,jDx 2 b.toNat,jEz,jDx 2 (2^l.length)];omega
theorem xta {u i:Nat} (hu:u<2^i) (hi:i<=60):IntKind.i64.wrap (bvOr 64 (u:Int) (IntKind.i64.wrap (1*2^(min i 64))))=((u+2^i:Nat):Int):=by
 have hp:(2:Nat)^i<=2^60:=jB4 (by decide) hi;have e1:min i 64=i:=by omega
 have e2:(1:Int)*2^i=((2^i:Nat):Int):=by simp
 rw[e1,e2,x9 (n:=((2^i:Nat):Int)) (by unfold I64;omega)];have e3:bvOr 64 (u:Int) ((2^i:Nat):Int)=((u|||2^i:Nat):Int):=by
  unfold bvOr;rw[BitVec.toNat_or,BitVec.ofInt_natCast,BitVec.ofInt_natCast,BitVec.toNat_ofNat,BitVec.toNat_ofNat,jBy (by omega),jBy (by omega)]
 have d:=q42 u 1 i hu;rw[Nat.one_mul]at d;rw[e3,d,x9 (by unfold I64;omega)]
theorem qxw (l:List Bool) (hl:l.length<=60):qh prog 148 [.d (.sl 1 (l.map encB))] [] (.d (.int .i64 (bitN l:Nat))) []:=by
 refine F148.go ?_;refine ez ?_;refine qk (xgb l) (λi=>l.length-i.val) ⟨0,jAi _⟩ ?_ (λi=> ?_)
 ·simp only[xgb,List.take_zero,bitN,jAp,go_sem,simprocAttr]
 obtain⟨i,hi⟩:=i;refine eo1 @xgb.eq_1 ?_;refine xp _ (λh=> ?_) (λh=> ?_)
 ·have e:i<l.length:=by simpa using h
  have hw:=qg (show i<9223372036854775807 by omega);have m:(l.take i).length=i:=by rw[jAl];omega
  have hsn:bitN (l.take (i+1))=bitN (l.take i)+(l[i]).toNat*2^i:=by
   rw[<- jEa e,q2h,m]
  have o:=qgv (l.take i);rw[m]at o;refine eo2 (qj encB l e) @encB.eq_1 ?_;refine xp _ (λp=> ?_) (λp=> ?_)
  ·have ho:=xta o (show i<=60 by omega);rw[p,Bool.toNat_true,Nat.one_mul]at hsn;rw[<- hsn]at ho;refine eo2 @jA6 @ho ?_;refine⟨⟨i+1,e⟩,?_,by dsimp only;omega⟩;exact et2 @xgb.eq_1 @hw
  ·rw[p,Bool.toNat_false,jEk,Nat.add_zero]at hsn;refine ez ?_;refine⟨⟨i+1,e⟩,?_,by dsimp only;omega⟩;exact et3 @xgb.eq_1 @hw @hsn
 ·have e:l.length<=i:=by simpa using h
  exact et1 (jAr e)
theorem xlz (x:Ue) (hp:I64 x.phase) (h:x.moved.length<=60) (e:x.opened.length<=60):qh prog 80 [.d (.agg (ql x))] [] (.d (.sl 1 (qe (qew x)))) []:=by
 have p1:(2:Nat)^x.moved.length<=2^60:=jB4 (by decide) h;have p2:(2:Nat)^x.opened.length<=2^60:=jB4 (by decide) e;have q1:=qgv x.moved;have q2:=qgv x.opened;have i:I64 (bitN x.moved:Nat):=by unfold I64;omega
 have i2:I64 (bitN x.opened:Nat):=by unfold I64;omega
 have a1:=xu hp;have a2:=xu i;refine F80.go ?_;refine ez1 @ql.eq_1 ?_;refine clA F147 (kg [] x.phase (by simp) hp) ?_;refine eo ?_;first|refine cl F148 (qxw x.moved h) ?_|refine clF F148 (qxw x.moved h) (λ_=>by exact et3 @ql.eq_1 @qu.eq_1 @qr.eq_1) ?_
 refine ez ?_;refine clA F147 (kg ([]++wInt x.phase) _ (by rw[List.nil_append];omega) i) ?_;refine eo ?_;first|refine cl F148 (qxw x.opened e) ?_|refine clF F148 (qxw x.opened e) (λ_=>by exact et3 @ql.eq_1 @qu.eq_1 @qr.eq_1) ?_
 refine ez ?_;refine clA F147 (kg ([]++wInt x.phase++wInt (bitN x.moved:Nat)) _ (by rw[List.nil_append,jAc];omega) i2) ?_;simp only[qew,List.nil_append,go_sem,simprocAttr]
theorem xl0 {a:Mg} (i:MW a) (x:Ue):((xj a x.sess).2&&decide (x=a.ents.getD (xj a x.sess).1 default))=decide (x∈a.ents):=by
 cases hf:(xj a x.sess).2 with
 |false=>
  have:x∉a.ents:=λh=>by
   have:=(qm1 i (s:=x.sess)).2 ⟨x,h,rfl⟩;rw[hf]at this;cases this
  simp[this]
 |true=>
  obtain⟨e,hs⟩:=qis hf;rw[jCr,zm e,decide_eq_decide];constructor
  ·intro h;rw[h];exact jAg e
  ·intro h;have hn:a.ents.Pairwise λa b=>a.sess≠b.sess:=by
    have hp:=i.inc;rw[jCv]at hp;exact hp.imp λh=>by omega
   by_cases d:x=a.ents[(xj a x.sess).1]
   ·exact d
   ·exact absurd hs.symm (q5q hn h (jAg e) d)
def Sch1 (a b:Mg) (i:{i:Nat//qb7 (λi=>(xj b (a.ents.getD i default).sess).2) i=true}):St:=
 ⟨[(2,true,.d (.ptr 0 0)),(3,true,.d (.ptr 1 0)),(31,true,.d (.sl 4 (a.ents.map ql))),(32,true,.d (.int .i64 a.ents.length)),(33,true,.d (.int .i64 (i.val:Nat)))],[jb a,jb b],[],1⟩
def Sch2 (a b:Mg) (i:{i:Nat//i<=b.ents.length}):St:=
 ⟨[(2,true,.d (.ptr 0 0)),(3,true,.d (.ptr 1 0)),(10,true,.own 0 3 (((b.ents.take i.val).flatMap (chOp a)).map qr)),(48,true,.d (.sl 4 (b.ents.map ql))),(49,true,.d (.int .i64 b.ents.length)),(50,true,.d (.int .i64 (i.val:Nat)))],[jb a,jb b],[0],1⟩
theorem xgc {a b:Mg}:(a.ents.any λx=> !(xj b x.sess).2)= !qb7 (λi=>(xj b (a.ents.getD i default).sess).2) a.ents.length:=by
 rw[jBm];simp only[jB3,jBa,<- jC1,zo,Classical.not_forall];constructor
 ·rintro⟨x,hx,h⟩;obtain⟨i,hi,rfl⟩:=jCd hx;exact⟨i,hi,by rw[zm hi];exact h⟩
 ·rintro⟨i,hi,h⟩;exact⟨a.ents[i],jAg hi,by rw[zm hi]at h;exact h⟩
theorem xtb (a:Mg) (l:List Ue):(l.flatMap (chOp a)).length<=l.length:=by
 induction l with
 |nil=>simp
 |cons x l ih=>
  have:(chOp a x).length<=1:=by unfold chOp;split<;>simp
  rw[List.flatMap_cons,jAc,List.length_cons];omega
theorem xbd (a b:Mg) (z:a.Sm) (u:b.Sm):qh prog 25 [.d (.agg (qu a)),.d (.agg (qu b))] [] (.tup [.d (.sl 3 ((jd a b).1.map qr)),.d (.int .i64 (jd a b).2)]) []:=by
 have hal:=z.1;have hbl:=u.1;refine F25.goT ?_;refine eo1 @qu.eq_1 ?_;first|refine cl F69 (ye a z) ?_|refine clF F69 (ye a z) (λ_=>by exact et3 @ql.eq_1 @qu.eq_1 @qr.eq_1) ?_
 refine eo ?_;first|refine cl F69 (ye b u) ?_|refine clF F69 (ye b u) (λ_=>by exact et3 @ql.eq_1 @qu.eq_1 @qr.eq_1) ?_
 refine eo ?_
 (repeat(with_reducible refine ob ?_));refine xp _ (λh=> ?_) (λh=> ?_)
 ·have hx:jd a b=([],1):=by unfold jd;rw[if_pos h]
  exact et2 @hx @List.map_nil.{0,0}
 have M:=h;simp only[jA4,jCc,bne_eq_false_iff_eq]at h;obtain⟨⟨va,vb⟩,hr⟩:=h;have wa:=y6.1 va;have E:=y6.1 vb;refine ez ?_;refine qk (Sch1 a b) (λi=>a.ents.length-i.val) ⟨0,rfl⟩ ?_ (λi=> ?_)
 ·exact et3 @Sch1.eq_1 @jb.eq_1 @jAp
 obtain⟨i,hi⟩:=i;refine eo2 @Sch1.eq_1 @jb.eq_1 ?_;refine xp _ (λh=> ?_) (λh=> ?_)
 ·have o:i<a.ents.length:=by simpa using h
  have k:=qf1 b (a.ents[i]).sess u;simp only[qu]at k;refine eo2 (qj ql a.ents o) @ql.eq_1 ?_
  (repeat(with_reducible refine ob ?_));first|refine cl F77 (k) ?_|refine clF F77 (k) (λ_=>by exact et3 @ql.eq_1 @qu.eq_1 @qr.eq_1) ?_
  refine ez ?_;refine xp _ (λp=> ?_) (λp=> ?_)
  ·have hg:(λi=>(xj b (a.ents.getD i default).sess).2) i=false:=by simp only[zm o];simpa using p
   have hx:jd a b=([],1):=by
    unfold jd;rw[if_neg (by rw[M];simp),if_pos];rw[xgc,qe4 o hg];rfl
   exact et2 @hx @List.map_nil.{0,0}
  ·refine ez ?_;refine⟨⟨i+1,y5 hi (by simp only[zm o];simpa using p)⟩,?_,by dsimp only;omega⟩;exact et3 @Sch1.eq_1 @jb.eq_1 (qg (show i<9223372036854775807 by omega))
 have o:a.ents.length<=i:=by simpa using h
 have v:qb7 (λi=>(xj b (a.ents.getD i default).sess).2) a.ents.length=true:=zo.2 λj hj=>zo.1 hi j (by omega);have hx:jd a b=(qr4 a b,0):=by
  unfold jd;rw[if_neg (by rw[M];simp),if_neg];rw[xgc,v];simp
 rw[hx];refine ez ?_;refine qk (Sch2 a b) (λi=>b.ents.length-i.val) ⟨0,jAi _⟩ ?_ (λi=> ?_)
 ·exact et6 @Sch2.eq_1 @jb.eq_1 @jAp @List.take_zero.{0} @List.flatMap_nil.{0,0} @List.map_nil.{0,0}
 obtain⟨j,hj⟩:=i;refine eo2 @Sch2.eq_1 @jb.eq_1 ?_;refine xp _ (λh=> ?_) (λh=> ?_)
 ·have m:j<b.ents.length:=by simpa using h
  have I:=u.2 _ (jAg m);have l:=E.en _ (jAg m);have G:=qf1 a (b.ents[j]).sess z;have J:I64 (b.ents[j]).phase:=by
   rw[l.ph];rcases qa0 b.ents[j]with h|h|h|h<;>rw[h.1]<;>unfold I64<;>omega
  have q:=xlz b.ents[j] J (by have:=l.ml;have:=E.r6;omega) (by have:=l.ol;have:=E.r6;omega);simp only[ql]at q;have t:=xtb a (b.ents.take j);rw[jAl]at t;have hsnoc:(b.ents.take (j+1)).flatMap (chOp a)=(b.ents.take j).flatMap (chOp a)++chOp a b.ents[j]:=by
   rw[<- jEa m,jDt];simp
  have e:=xl0 wa b.ents[j];have hw:=qg (show j<9223372036854775807 by omega);simp only[qu]at G;refine eo2 (qj ql b.ents m) @ql.eq_1 ?_
  (repeat(with_reducible refine ob ?_));first|refine cl F77 (G) ?_|refine clF F77 (G) (λ_=>by exact et3 @ql.eq_1 @qu.eq_1 @qr.eq_1) ?_
  refine ez ?_;cases hf:(xj a (b.ents[j]).sess).2 with
  |false=>
   rw[hf,jEj]at e;have hc:chOp a b.ents[j]= [⟨uKey b.ents[j].sess,false,qew b.ents[j]⟩]:=by unfold chOp;rw[if_neg (of_decide_eq_false e.symm)]
   refine eo1 @hf ?_;refine xda ?_;refine eo ?_;refine no_ ?_;refine eo ?_;first|refine cl F79 (qj1 (b.ents[j]).sess (by have:=l.s1;omega) (by have:=l.s32;omega)) ?_|refine clF F79 (qj1 (b.ents[j]).sess (by have:=l.s1;omega) (by have:=l.s32;omega)) (λ_=>by exact et3 @ql.eq_1 @qu.eq_1 @qr.eq_1) ?_
   refine eo ?_;first|refine cl F80 (q) ?_|refine clF F80 (q) (λ_=>by exact et3 @ql.eq_1 @qu.eq_1 @qr.eq_1) ?_
   refine eo ?_;refine⟨⟨j+1,m⟩,?_,by dsimp only;omega⟩;simp only[Sch2,jb,hsnoc,hc,jA2,List.map_cons,List.map_nil,qr,hw,go_sem,simprocAttr]
  |true=>
   obtain⟨C,_⟩:=qis hf;rw[hf,jCr,zm C]at e;generalize (xj a (b.ents[j]).sess).1=k at C e⊢;have hys:=z.2 _ (jAg C);have F:=qmh b.ents[j] a.ents[k] I;simp only[ql]at F;refine ez2 @hf @jA6 ?_;refine eo2 (qj ql a.ents C) @ql.eq_1 ?_
   (repeat(with_reducible refine ob ?_));first|refine cl F78 (F) ?_|refine clF F78 (F) (λ_=>by exact et3 @ql.eq_1 @qu.eq_1 @qr.eq_1) ?_
   refine ez ?_;refine xp _ (λp=> ?_) (λp=> ?_)
   ·have hc:chOp a b.ents[j]= []:=by unfold chOp;rw[if_pos (of_decide_eq_true (e.symm.trans p))]
    refine ez ?_;refine⟨⟨j+1,m⟩,?_,by dsimp only;omega⟩;exact et6 @Sch2.eq_1 @jb.eq_1 @hsnoc @hc @jAu.{0} @hw
   ·have hc:chOp a b.ents[j]= [⟨uKey b.ents[j].sess,false,qew b.ents[j]⟩]:=by unfold chOp;rw[if_neg (of_decide_eq_false (e.symm.trans p))]
    refine eo ?_;first|refine cl F79 (qj1 (b.ents[j]).sess (by have:=l.s1;omega) (by have:=l.s32;omega)) ?_|refine clF F79 (qj1 (b.ents[j]).sess (by have:=l.s1;omega) (by have:=l.s32;omega)) (λ_=>by exact et3 @ql.eq_1 @qu.eq_1 @qr.eq_1) ?_
    refine eo ?_;first|refine cl F80 (q) ?_|refine clF F80 (q) (λ_=>by exact et3 @ql.eq_1 @qu.eq_1 @qr.eq_1) ?_
    refine eo ?_;refine⟨⟨j+1,m⟩,?_,by dsimp only;omega⟩;simp only[Sch2,jb,hsnoc,hc,jA2,List.map_cons,List.map_nil,qr,hw,go_sem,simprocAttr]
 ·have m:b.ents.length<=j:=by simpa using h
  exact et2 @qr4.eq_1 (jAr m)
structure MapM (K V:Type) where
 l:List (Nat×K×V)
 c:Nat
 deriving Inhabited
section
variable {K V:Type} [DecidableEq K]
def qes (k:K) (x:Nat×K×V):Bool:=decide (k=x.2.1)
def MapM.get (m:MapM K V) (k:K):Option V:=(m.l.find? (qes k)).map (·.2.2)
def MapM.put (m:MapM K V) (k:K) (v:V):MapM K V:=match m.l.findIdx? (qes k)with
 |some j=>⟨m.l.modify j λe=>(e.1,k,v),m.c⟩
 |none=>⟨m.l++ [(m.c,k,v)],m.c+1⟩
def encE (eK:K->D) (eV:V->D) (x:Nat×K×V):Nat×D×D:=(x.1,eK x.2.1,eV x.2.2)
structure KeyE (kd:KD) (eK:K->D):Prop where
 is: ∀a n b d,qba (eK a) (n,eK b,d)=decide (a=b)
 fit: ∀a b,kd.fit (eK a) (eK b)=true
variable {kd:KD} {eK:K→D} {eV:V→D}
theorem KeyE.findIdx (h:KeyE kd eK) (k:K) (l:List (Nat×K×V)):(l.map (encE eK eV)).findIdx? (qba (eK k))=l.findIdx? (qes k):=by
 rw[List.findIdx?_map];congr 1;funext x;exact h.is k x.1 x.2.1 _
theorem KeyE.put (h:KeyE kd eK) (m:MapM K V) (k:K) (v:V):qg9 (eK k) (eV v) m.c (m.l.map (encE eK eV))=(m.put k v).l.map (encE eK eV):=by
 unfold qg9 MapM.put;rw[h.findIdx];cases hf:m.l.findIdx? (qes k)with
 |none=>simp[encE]
 |some j=>
  simp only;apply jC6;intro i;rw[jDn,jAn,jAn,jDn];cases m.l[i]?with
  |none=>rfl
  |some x=>
   show some (if j=i then _ else _)=some (encE eK eV (if j=i then _ else _));split<;>rfl
theorem KeyE.clock (h:KeyE kd eK) (m:MapM K V) (k:K) (v:V):qbz (eK k) m.c (m.l.map (encE eK eV))=(m.put k v).c:=by
 unfold qbz MapM.put;rw[h.findIdx];cases m.l.findIdx? (qes k)<;>rfl
theorem KeyE.find (h:KeyE kd eK) (m:MapM K V) (k:K):qa4 (eK k) (m.l.map (encE eK eV))=(m.get k).map eV:=by
 unfold qa4 MapM.get;rw[jFk];have:qba (eK k)∘encE eK eV=qes k:=by
  funext x;exact h.is k x.1 x.2.1 _
 rw[this];cases m.l.find? (qes k)<;>rfl
theorem KeyE.keyFit (h:KeyE kd eK) (k:K) (l:List (Nat×K×V)):keyFit kd (eK k) (l.map (encE eK eV))=true:=by
 simp only[Go.Abs.keyFit,h.fit,jCr,List.all_map];exact jAx.2 λx _=>h.fit _ _
theorem MapM.get_put (m:MapM K V) (k k':K) (v:V):(m.put k v).get k'=if k'=k then some v else m.get k':=by
 unfold MapM.put MapM.get;cases hf:m.l.findIdx? (qes k)with
 |none=>
  have hn: ∀x∈m.l,qes k x=false:=by
   intro x o;have:=jD8.1 hf x o;simpa using this
  simp only[jDo,jB7,List.find?_nil];by_cases d:k'=k
  ·subst d;have:m.l.find? (qes k')=none:=jCj.2 λx o=>by simp[hn x o]
   simp[this,qes]
  ·simp only[if_neg d];have:qes k' (m.c,k,v)=false:=by simp[qes,d]
   rw[this];cases m.l.find? (qes k')<;>rfl
 |some j=>
  obtain⟨h,o,hb⟩:=List.findIdx?_eq_some_iff_getElem.1 hf;have p:(m.l[j]).2.1=k:=by simpa[qes,eq_comm]using o
  simp only;have t: ∀(l:List (Nat×K×V)) (j:Nat) (h:j<l.length),(l[j]).2.1=k->(∀i (hi:i<j),(l[i]'(by omega)).2.1≠k) ->
    ((l.modify j λe=>(e.1,k,v)).find? (qes k')).map (·.2.2)=if k'=k then some v else(l.find? (qes k')).map (·.2.2):=by
   intro l;induction l with
   |nil=>intro j h;simp at h
   |cons e l ih=>
    intro j h q u;cases j with
    |zero=>
     simp only[List.getElem_cons_zero]at q;simp only[jE8,jB7];by_cases d:k'=k
     ·subst d;simp[qes]
     ·simp[qes,d,q]
    |succ j=>
     simp only[jE9,jB7];have h0:e.2.1≠k:=by simpa using u 0 (by omega)
     have hr:=ih j (by simpa using h) (by simpa using q) (λi hi=>by simpa using u (i+1) (by omega));by_cases d:k'=e.2.1
     ·subst d;simp[qes,h0]
     ·have:qes k' e=false:=by simp[qes,d]
      simp only[this];exact hr
  exact t m.l j h p λi hi=>by
   have:=hb i hi;simpa[qes,eq_comm]using this
end
structure Pr where
 s:Int
 f:Int
 t:Int
 deriving DecidableEq,Inhabited
structure Tk where
 p:Pr
 n:Int
 deriving DecidableEq,Inhabited
structure TryM where
 count:Int
 next:Int
 deriving DecidableEq,Inhabited
structure OutM where
 to:Int
 p:Pk
 deriving DecidableEq,Inhabited
def qxx (p:Pr):D:= .agg [.int .i64 p.s,.int .i64 p.f,.int .i64 p.t]
def qxy (t:Tk):D:= .agg [.int .i64 t.p.s,.int .i64 t.p.f,.int .i64 t.p.t,.int .i64 t.n]
def qlq (y:TryM):D:= .agg [.int .i64 y.count,.int .i64 y.next]
def xk (o:OutM):List D:= .int .i64 o.to::qf o.p
theorem qn3 (o:OutM):D.noPtrL (xk o)=true:=by simp only[xk,D.noPtrL,D.noPtr,qgg,jBu]
theorem qm3: ∀l:List OutM,D.noPtrR (l.map xk)=true
 | []=>rfl
 |o::l=>by simp only[List.map_cons,D.noPtrR,qn3,qm3 l,jBu]
attribute [go_sem] qn3 qm3
theorem qxz:KeyE (.agg [.int,.int,.int]) qxx:=by
 refine⟨λa n b d=> ?_,λa b=>rfl⟩;cases a;cases b;simp only[qba,qxx,zf,qg1,Pr.mk.injEq,jEe,Bool.decide_and];try rfl
theorem qx0:KeyE (.agg [.int,.int,.int,.int]) qxy:=by
 refine⟨λa n b d=> ?_,λa b=>rfl⟩;obtain⟨⟨a1,a2,a3⟩,a4⟩:=a;obtain⟨⟨b1,b2,b3⟩,b4⟩:=b;simp only[qba,qxy,zf,qg1,Tk.mk.injEq,Pr.mk.injEq,jEe,Bool.decide_and,jFn];rfl
structure Brk where
 roles:Int
 sess:Int
 s:Sto
 q:MapM Pr Qu
 m:Mg
 p:List OutM
 t:MapM Tk TryM
def qj2 (q:Qu):D:= .agg (encQ q)
def qmO (m:MapM Pr Qu):AObj:= .map (m.l.map (encE qxx qj2)) m.c
def tmO (m:MapM Tk TryM):AObj:= .map (m.l.map (encE qxy qlq)) m.c
def qp (b:Brk):List ASlot:= [.d (.int .i64 b.roles),.d (.int .i64 b.sess),.d (.ptr 1 0),.d (.map 3),.d (.int .i64 b.m.roles),.d (.sl 4 (b.m.ents.map ql)),.own 0 10 (b.p.map xk),.d (.map 4)]
def brO (b:Brk):List AObj:= [.row (qp b),stoO b.s 2,mapO b.s.m,qmO b.q,tmO b.t]
def afB (b b':Brk):Bool->List AObj
 |true=> [.row (qp b'),stoO b'.s 5,mapO b.s.m,qmO b'.q,tmO b'.t,mapO b'.s.m]
 |false=> [.row (qp b'),stoO b'.s 2,mapO b'.s.m,qmO b'.q,tmO b'.t,.none]
def lkQ:Option Qu->D
 |some q=>qj2 q
 |none=> .agg [.int .i64 0,.int .i64 0,.nilsl]
def noQ:Qu:=⟨0,0,[]⟩
def Brk.queue (b:Brk) (k:Pr):Qu:=(b.q.get k).getD noQ
theorem xp9 (m:MapM Pr Qu) (s f t:Int):qfc false (.d (.agg [.int .i64 0,.int .i64 0,.nilsl])) (qa4 (.agg [.int .i64 s,.int .i64 f,.int .i64 t]) (m.l.map (encE qxx qj2)))= .d (lkQ (m.get ⟨s,f,t⟩)):=by
 have:=qxz.find (eV:=qj2) m ⟨s,f,t⟩;simp only[qxx]at this;rw[this];cases m.get ⟨s,f,t⟩<;>rfl
theorem xl1 (m:MapM Pr Qu) (s f t:Int):keyFit (.agg [.int,.int,.int]) (.agg [.int .i64 s,.int .i64 f,.int .i64 t]) (m.l.map (encE qxx qj2))=true:=qxz.keyFit ⟨s,f,t⟩ m.l
theorem xur (m:MapM Pr Qu) (s f t:Int) (q:Qu):qg9 (.agg [.int .i64 s,.int .i64 f,.int .i64 t]) (.agg [.int .i64 q.acc,.int .i64 q.cons,.sl 9 (q.items.map qf)]) m.c (m.l.map (encE qxx qj2))=(m.put ⟨s,f,t⟩ q).l.map (encE qxx qj2):=qxz.put (eV:=qj2) m ⟨s,f,t⟩ q
theorem q5r (m:MapM Pr Qu) (s f t:Int) (q:Qu):qbz (.agg [.int .i64 s,.int .i64 f,.int .i64 t]) m.c (m.l.map (encE qxx qj2))=(m.put ⟨s,f,t⟩ q).c:=qxz.clock (eV:=qj2) m ⟨s,f,t⟩ q
theorem xqa (m:MapM Tk TryM) (s f t n:Int):qfc true (.d (.agg [.int .i64 0,.int .i64 0])) (qa4 (.agg [.int .i64 s,.int .i64 f,.int .i64 t,.int .i64 n]) (m.l.map (encE qxy qlq)))=
  .tup [.d (.agg [.int .i64 ((m.get ⟨⟨s,f,t⟩,n⟩).getD ⟨0,0⟩).count,.int .i64 ((m.get ⟨⟨s,f,t⟩,n⟩).getD ⟨0,0⟩).next]),.d (.bool (m.get ⟨⟨s,f,t⟩,n⟩).isSome)]:=by
 have:=qx0.find (eV:=qlq) m ⟨⟨s,f,t⟩,n⟩;simp only[qxy]at this;rw[this];cases m.get ⟨⟨s,f,t⟩,n⟩<;>rfl
theorem xl2 (m:MapM Tk TryM) (s f t n:Int):keyFit (.agg [.int,.int,.int,.int]) (.agg [.int .i64 s,.int .i64 f,.int .i64 t,.int .i64 n]) (m.l.map (encE qxy qlq))=true:=qx0.keyFit ⟨⟨s,f,t⟩,n⟩ m.l
theorem xus (m:MapM Tk TryM) (s f t n:Int) (c x:Int):qg9 (.agg [.int .i64 s,.int .i64 f,.int .i64 t,.int .i64 n]) (.agg [.int .i64 c,.int .i64 x]) m.c (m.l.map (encE qxy qlq))=(m.put ⟨⟨s,f,t⟩,n⟩ ⟨c,x⟩).l.map (encE qxy qlq):=qx0.put (eV:=qlq) m ⟨⟨s,f,t⟩,n⟩ ⟨c,x⟩
theorem xgd (m:MapM Tk TryM) (s f t n:Int) (c x:Int):qbz (.agg [.int .i64 s,.int .i64 f,.int .i64 t,.int .i64 n]) m.c (m.l.map (encE qxy qlq))=(m.put ⟨⟨s,f,t⟩,n⟩ ⟨c,x⟩).c:=qx0.clock (eV:=qlq) m ⟨⟨s,f,t⟩,n⟩ ⟨c,x⟩
attribute [go_sem] xp9 xl1 xqa xl2 xur xus
theorem xge (o:Option Qu):(lkQ o).noPtr=true:=by
 cases o with
 |none=>rfl
 |some q=>simp only[lkQ,qj2,encQ,go_sem]
theorem qx1 (o:Option Qu):D.eqv (lkQ o) (.agg (encQ (o.getD noQ))):=by
 cases o with
 |none=>exact(by simp only[lkQ,encQ,noQ,Option.getD_none,List.map_nil,go_sem])
 |some q=>exact D.eqv_refl _
attribute [go_sem] xge
def d103:=cut prog f103 news
@[go_sem] def E103:=qm d103
def F103:=fnC d103 follows func103
def d192:=cut prog f192 news
@[go_sem] def E192:=qm d192
def F192:=fnC d192 follows func192
def d107:=cut prog f107 news
@[go_sem] def E107:=qm d107
def F107:=fnC d107 follows func107
def d20:=cut prog f20 news
@[go_sem] def E20:=qm d20
def F20:=fnC d20 follows func20
def d131:=cut prog f131 news
@[go_sem] def E131:=qm d131
def F131:=fnC d131 follows func131
def d64:=cut prog f64 news
@[go_sem] def E64:=qm d64
def F64:=fnC d64 follows func64
def posB (r s:Int):Bool:=decide (r≥1)&&decide (r<=6)&&decide (s≥1)&&decide (s<=32)&&decide (IntKind.wrap .i64 (s*IntKind.wrap .i64 (IntKind.wrap .i64 (IntKind.wrap .i64 (5*r)*IntKind.wrap .i64 (r-1))+1))<=400)
theorem qr6 (r s:Int):qh prog 103 [.d (.int .i64 r),.d (.int .i64 s)] [] (.d (.bool (posB r s))) []:=by
 refine F103.go ?_;exact et1 @posB.eq_1
def dig (d:Nat):List UInt8:= [UInt8.ofNat (48+d)]
theorem qoz (d:Nat) (hd:d<10):qh prog 192 [.d (.int .i64 (d:Nat))] [] (.d (.str (dig d))) []:=by
 refine F192.go ?_;have e: ∀d:Fin 10,(Utf8.encode (IntKind.i32.wrap (IntKind.i64.wrap (48+((d.val:Nat):Int))))).data.toList= [UInt8.ofNat (48+d.val)]:=by decide
 have e:=e ⟨d,hd⟩;simp only at e;exact et2 @dig.eq_1 @e
def jp (s f t:Nat):List UInt8:= [113,47]++dig (s/10)++dig (s%10)++ [47]++dig f++ [47]++dig t
theorem xgf (s f t:Nat) (hs:s<100) (hf:f<10) (ht:t<10):qh prog 107 [.d (.agg [.int .i64 (s:Nat),.int .i64 (f:Nat),.int .i64 (t:Nat)])] [] (.d (.str (jp s f t))) []:=by
 have w1:IntKind.i64.wrap ((s:Int).tdiv 10)=((s/10:Nat):Int):=by rw[show((s:Int).tdiv 10)=((s/10:Nat):Int)from by rw[jB8 (by omega)];rfl];exact wrap_i64 (by omega) (by omega)
 have w2:IntKind.i64.wrap ((s:Int).tmod 10)=((s%10:Nat):Int):=by rw[show((s:Int).tmod 10)=((s%10:Nat):Int)from by rw[jBd (by omega)];rfl];exact wrap_i64 (by omega) (by omega)
 have l:=qoz (s/10) (by omega);have i:=qoz (s%10) (by omega);have h:=qoz f hf;have e:=qoz t ht;refine F107.go ?_;simp only[dig]at l i h e;refine eo1 @w1 ?_;first|refine cl F192 (l) ?_|refine clF F192 (l) (λ_=>by exact et4 @qf.eq_1 @encQ.eq_1 @qu.eq_1 @xk.eq_1) ?_
 refine eo1 @w2 ?_;first|refine cl F192 (i) ?_|refine clF F192 (i) (λ_=>by exact et4 @qf.eq_1 @encQ.eq_1 @qu.eq_1 @xk.eq_1) ?_
 refine eo ?_;first|refine cl F192 (h) ?_|refine clF F192 (h) (λ_=>by exact et4 @qf.eq_1 @encQ.eq_1 @qu.eq_1 @xk.eq_1) ?_
 refine eo ?_;first|refine cl F192 (e) ?_|refine clF F192 (e) (λ_=>by exact et4 @qf.eq_1 @encQ.eq_1 @qu.eq_1 @xk.eq_1) ?_
 exact et2 @jp.eq_1 @dig.eq_1
def qr7 (p:Pk):Pk:=⟨2,p.sess,0,p.from_,p.to,p.seq,0,[],[]⟩
def noPk:Pk:=⟨0,0,0,0,0,0,0,[],[]⟩
def qex (p:Pk):Pk×Int:=if !(p.kind==1)|| !qo p then(noPk,1)else(qr7 p,0)
theorem xl3 (p:Pk) (hp:p.Sm):qh prog 20 [.d (.agg (qf p))] [] (.tup [.d (.agg (qf (qex p).1)),.d (.int .i64 (qex p).2)]) []:=by
 refine F20.goT ?_;refine ez1 @qf.eq_1 ?_;cases hk:(p.kind==1)with
 |false=>
  have hb:(p.kind !=1)=true:=by simpa using hk
  have hx:qex p=(noPk,1):=by unfold qex;rw[hk];rfl
  refine eo1 @hb ?_;refine xda ?_;refine eo ?_;refine qa2 ?_;exact et3 @hx @noPk.eq_1 @List.map_nil.{0,0}
 |true=>
  have hb:(p.kind !=1)=false:=by simpa using hk
  refine eo1 @hb ?_;first|refine cl F70 (zu p hp.v hp.c) ?_|refine clF F70 (zu p hp.v hp.c) (λ_=>by exact et4 @qf.eq_1 @encQ.eq_1 @qu.eq_1 @xk.eq_1) ?_
  refine eo ?_;refine xp _ (λh=> ?_) (λh=> ?_)
  ·have hx:qex p=(noPk,1):=by unfold qex;rw[if_pos (by simp[h])]
   exact et3 @hx @noPk.eq_1 @List.map_nil.{0,0}
  ·have hx:qex p=(qr7 p,0):=by unfold qex;rw[if_neg (by simp[hk,h])]
   exact et3 @hx @qr7.eq_1 @List.map_nil.{0,0}
def qdy (c:Int):Int:=if c<1 then 0 else if c=1 then 8 else if c=2 then 16 else if c=3 then 32 else 64
theorem q5s (c:Int) (hc:c<=1000000):qh prog 131 [.d (.int .i64 c)] [] (.d (.int .i64 (qdy c))) []:=by
 refine F131.go ?_;refine eo ?_;refine xp _ (λh=> ?_) (λh=> ?_)
 ·have hx:qdy c=0:=by unfold qdy;rw[if_pos (by simpa using h)]
  exact et1 @hx
 ·have h0: ¬c<1:=by simpa using h
  have hw:IntKind.i64.wrap (c-1)=c-1:=wrap_i64 (by omega) (by omega);refine ez1 @hw ?_;refine⟨by split<;>omega,?_⟩
  by_cases l:c=1
  ·subst l;decide
  by_cases i:c=2
  ·subst i;decide
  by_cases e:c=3
  ·subst e;decide
  by_cases h4:c=4
  ·subst h4;decide
  ·unfold qdy;rw[if_neg h0,if_neg l,if_neg i,if_neg e,if_pos (by omega)];decide
theorem xl4 (b:Brk):qh prog 64 [.d (.ptr 0 0)] (brO b) (.d (.func (.func 130) [] [.ptr 5 0])) (brO b++ [.row [.d (.ptr 0 0)]]):=by
 refine F64.go ?_;exact et6 @brO.eq_1 @qp.eq_1 @stoO.eq_1 @mapO.eq_1 @qmO.eq_1 @tmO.eq_1
attribute [-go_sem] qfc
def d65:=cut prog f65 news
@[go_sem] def E65:=qm d65
def F65:=fnC d65 follows func65
def qdg (b:Brk) (t:Tk):TryM:=(b.t.get t).getD ⟨0,0⟩
def qx2 (b:Brk) (t:Tk) (now:Int):Bool:= !(b.t.get t).isSome||decide ((qdg b t).next<=now)
def qr8 (y:TryM) (now:Int):TryM:=⟨y.count+1,IntKind.wrap .i64 (now+qdy (y.count+1))⟩
def qfj (b:Brk) (d:MapM Tk TryM) (t:Tk) (now:Int) (l:List OutM) (x:OutM):MapM Tk TryM×List OutM:=
 if qx2 b t now then(d.put t (qr8 (qdg b t) now),l++ [x])else(d.put t (qdg b t),l)
def k9 (b:Brk) (it:Nat):List ASlot:= [.d (.int .i64 b.roles),.d (.int .i64 b.sess),.d (.ptr 1 0),.d (.map 3),.d (.int .i64 b.m.roles),.d (.sl 4 (b.m.ents.map ql)),.d .nilsl,.d (.map it)]
def brN (b:Brk):List AObj:= [.row (k9 b 4),stoO b.s 2,mapO b.s.m,qmO b.q,tmO b.t]
theorem xgg (b:Brk):qh prog 64 [.d (.ptr 0 0)] (brN b) (.d (.func (.func 130) [] [.ptr 5 0])) (brN b++ [.row [.d (.ptr 0 0)]]):=by
 refine F64.go ?_;exact et6 @brN.eq_1 @k9.eq_1 @stoO.eq_1 @mapO.eq_1 @qmO.eq_1 @tmO.eq_1
theorem q2i (b:Brk) (i:MapM Tk TryM) (s f t n now:Int) (l:List OutM) (x:OutM) (hc:0<=(qdg b ⟨⟨s,f,t⟩,n⟩).count∧(qdg b ⟨⟨s,f,t⟩,n⟩).count<=100000) (hl:l.length<=1000000):
  qh prog 65 [.d (.ptr 0 0),.d (.map 5),.d (.agg [.int .i64 s,.int .i64 f,.int .i64 t,.int .i64 n]),.d (.int .i64 now),.own 1 10 (l.map xk),.d (.agg (xk x))] (brN b++ [tmO i])
   (.own 1 10 ((qfj b i ⟨⟨s,f,t⟩,n⟩ now l x).2.map xk)) (brN b++ [tmO (qfj b i ⟨⟨s,f,t⟩,n⟩ now l x).1]):=by
 have hw:IntKind.i64.wrap ((qdg b ⟨⟨s,f,t⟩,n⟩).count+1)=(qdg b ⟨⟨s,f,t⟩,n⟩).count+1:=wrap_i64 (by omega) (by omega);have m:=q5s ((qdg b ⟨⟨s,f,t⟩,n⟩).count+1) (by omega);have hT:(b.t.get ⟨⟨s,f,t⟩,n⟩).getD ⟨0,0⟩=qdg b ⟨⟨s,f,t⟩,n⟩:=rfl;generalize e:qfj b i ⟨⟨s,f,t⟩,n⟩ now l x=R;unfold qfj qx2 at e;refine F65.go ?_;simp only[brN,k9,stoO,mapO,qmO,tmO,xk,qf,List.cons_append,List.nil_append,go_sem,simprocAttr];simp only[hT];generalize hy:qdg b ⟨⟨s,f,t⟩,n⟩=y at e hw m hc
 (repeat(with_reducible refine ob ?_))
 (repeat(with_reducible refine ob ?_));refine xp _ (λh=> ?_) (λh=> ?_)
 ·rw[if_pos h]at e;subst e;refine eo1 @hw ?_;first|refine cl F131 (m) ?_|refine clF F131 (m) (λ_=>by exact et2 @qf.eq_1 @xk.eq_1) ?_
  refine eo ?_;simp only[xgd _ _ _ _ _ (y.count+1) (IntKind.i64.wrap (now+qdy (y.count+1))),go_sem,simprocAttr];exact et6 @qr8.eq_1 @jA2.{0,0} @List.map_cons.{0,0} @List.map_nil.{0,0} @xk.eq_1 @qf.eq_1
 ·rw[if_neg (by rw[h];exact jEd)]at e;subst e;simp only[xgd _ _ _ _ _ y.count y.next,go_sem,simprocAttr]
end Go.Proofs.YtkcdbcbpbolgkaaGreatDoor
namespace Go.Proofs.YtkcdbcbpbolgkaaGreatDoor
open Tryz
open Go.Abs
def d45n:=cut prog f45 news [] [] true
@[go_sem] def E45n:=qm d45n
def F45n:=fnC d45n follows func45
def d38:=cut prog f38 news
@[go_sem] def E38:=qm d38
def F38:=fnC d38 follows func38
def zl (r s:Int):Brk:=⟨r,s,newS,⟨[],0⟩,⟨r,[]⟩,[],⟨[],0⟩⟩
theorem qu5 {r s:Int} (h:posB r s=true):1<=r∧r<=6∧1<=s∧s<=32:=by
 simp only[posB,jAf,decide_eq_true_eq]at h;omega
theorem qx3 (r s:Int) (h:posB r s=true):qh prog 45 [.d (.int .i64 r),.d (.int .i64 s)] [] (.tup [.d (.ptr 0 0),.d (.int .i64 0)]) (brO (zl r s)):=by
 have i:=qr6 r s;rw[h]at i;obtain⟨h1,h2,h3,h4⟩:=qu5 h;have e:=qw7 r;have hu:qmi r=(⟨r,[]⟩,0):=by unfold qmi;rw[if_neg (by simp;omega)]
 rw[hu]at e;simp only[qu]at e;have l:=xm6;simp only[mapO,stoO]at l;refine F45n.goT ?_;refine eo ?_;first|refine cl F103 (i) ?_|refine clF F103 (i) (λ_=>by exact et2 @qf.eq_1 @xk.eq_1) ?_
 refine eo ?_;refine no_ ?_;refine eo ?_;first|refine cl F43 (e) ?_|refine clF F43 (e) (λ_=>by exact et2 @qf.eq_1 @xk.eq_1) ?_
 refine eo ?_;refine no_ ?_;refine eo ?_;refine clO [1,2] F28 (l) ?_ (hfit:=by first|exact⟨qd,trivial⟩|exact⟨qd,qd,trivial⟩|(refine ev2 @qf.eq_1 @xk.eq_1 ?_;try exact⟨⟩))
 refine ez4 @qch.eq_1 @newS.eq_1 @List.map_nil.{0,0} @xa ?_;refine qbc [5,2,1,3,4,0] [.row [.d (.int .i64 r),.d (.int .i64 s),.d (.ptr 1 0),.d (.map 3),.d (.int .i64 r),.d (.sl 4 []),.d .nilsl,.d (.map 4)],.row [.d (.sl 1 []),.d (.int .i64 0),.d (.map 2)],.map [] 0,.map [] 0,.map [] 0,.row [.d (.int .i64 r),.d (.sl 4 [])]] ?_ (by exact et) (hp:=rfl);refine pu ?_;simp only[brO,zl,qp,stoO,mapO,qmO,tmO,qch,newS,List.map_nil,xa,go_sem,simprocAttr]
attribute [-go_sem] qfc
def d14t:=cut prog f14 news [41,66,93] [6,9,16] true
@[go_sem] def E14t:=qm d14t
def F14t:=fnC d14t follows func14
def qg8 (s:Sto):Sto:=if(qmf s).file.length>16384 then qil (qmf s)else qmf s
def StA (b:Brk) (now:Int) (s:Sto):St:=
 ⟨[(2,true,.d (.ptr 5 0)),(3,true,.d (.ptr 6 0)),(4,true,.d .nilsl)],[.row (qp b),stoO s 2,mapO s.m,qmO b.q,tmO b.t,.row [.d (.ptr 0 0)],.row [.d (.int .i64 now)]],[0],1⟩
def StB (b:Brk) (now:Int) (s:Sto):St:=
 ⟨[(2,true,.d (.ptr 5 0)),(3,true,.d (.ptr 6 0)),(5,true,.d (.ptr 7 0)),(6,true,.d (.ptr 9 0))],[.row (k9 b 4),stoO s 2,mapO s.m,qmO b.q,tmO b.t,.row [.d (.ptr 0 0)],.row [.d (.int .i64 now)],.row [.own 0 10 (b.p.map xk)],.map [] 0,.row [.d (.map 8)]],[0],1⟩
def q2j (b:Brk) (now:Int) (a:MapM Tk TryM×List OutM) (p:Nat×Nat×Nat):MapM Tk TryM×List OutM:=
 if(yc (b.queue ⟨p.1,p.2.1,p.2.2⟩)).2 then qfj b a.1 ⟨⟨p.1,p.2.1,p.2.2⟩,(yc (b.queue ⟨p.1,p.2.1,p.2.2⟩)).1.seq⟩ now a.2 ⟨p.2.2,(yc (b.queue ⟨p.1,p.2.1,p.2.2⟩)).1⟩else a
def accT (b:Brk) (now:Int) (l:List (Nat×Nat×Nat)):MapM Tk TryM×List OutM:=l.foldl (q2j b now) (⟨[],0⟩,b.p)
def fr0T:Fr:= [(2,true,.d (.ptr 5 0)),(3,true,.d (.ptr 6 0)),(5,true,.d (.ptr 7 0)),(6,true,.d (.ptr 9 0))]
def StC (b:Brk) (now:Int) (s:Sto) (l:List (Nat×Nat×Nat)) (k:Nat):St:=
 ⟨fr0T,[.row (k9 b 4),stoO s 2,mapO s.m,qmO b.q,tmO b.t,.row [.d (.ptr 0 0)],.row [.d (.int .i64 now)],.row [.own 0 10 ((accT b now (l.take k)).2.map xk)],tmO (accT b now (l.take k)).1,.row [.d (.map 8)],.row [.d (.ptr 0 0)]],[0],1⟩
def stepO (b:Brk) (now:Int) (a:MapM Tk TryM×List OutM) (x:Pk):MapM Tk TryM×List OutM:=qfj b a.1 ⟨⟨x.sess,x.from_,-1⟩,x.label⟩ now a.2 ⟨x.from_,x⟩
def accO (b:Brk) (now:Int) (a:MapM Tk TryM×List OutM) (l:List Pk):MapM Tk TryM×List OutM:=l.foldl (stepO b now) a
def StD (b:Brk) (now:Int) (s:Sto) (l:List Pk) (a:MapM Tk TryM×List OutM) (i:Nat):St:=
 ⟨[(2,true,.d (.ptr 5 0)),(3,true,.d (.ptr 6 0)),(5,true,.d (.ptr 7 0)),(6,true,.d (.ptr 9 0)),(71,true,.d (.sl 9 (l.map qf))),(72,true,.d (.int .i64 l.length)),(73,true,.d (.int .i64 (i:Nat)))],
  [.row (k9 b 4),stoO s 2,mapO s.m,qmO b.q,tmO b.t,.row [.d (.ptr 0 0)],.row [.d (.int .i64 now)],.row [.own 0 10 (a.2.map xk)],tmO a.1,.row [.d (.map 8)]],[0],1⟩
def xnq (b:Brk) (now:Int) (n ss:Nat):List AObj:=
 [.row (k9 b 5),stoO (qg8 b.s) 2,mapO (qg8 b.s).m,qmO b.q,tmO b.t,tmO (accO b now (accT b now (za n ss)) (xl b.m)).1]
theorem xl5 (b:Brk) (now:Int) (n ss:Nat) (hn:n<=6) (hss:ss<=32) (br:b.roles=n) (bs:b.sess=ss) (hQ: ∀k,(b.queue k).Sm) (hT: ∀t,0<=(qdg b t).count∧(qdg b t).count<=100000)
  (hA: ∀k,(accT b now ((za n ss).take k)).2.length<=1000000) (hM:b.m.Sm) (M: ∀i,(accO b now (accT b now (za n ss)) ((xl b.m).take i)).2.length<=1000000) (hL:(xl b.m).length<=1000000) (hs:b.s.m.Good) (hF:b.s.file.length<=100000000):
  qh prog 14 [.d (.ptr 0 0),.d (.int .i64 now)] (brO b) (.own 1 10 ((accO b now (accT b now (za n ss)) (xl b.m)).2.map xk)) (xnq b now n ss):=by
 have Z:=xo2 b.s (by omega);have Y:=xd5 (qmf b.s) (show b.s.file.length<=_ by omega);have I:=xav (qmf b.s) hs;have hm:(qmf b.s).m=b.s.m:=rfl;rw[hm]at I;simp only[stoO,mapO,hm]at Z Y I;unfold xnq;refine F14t.go ?_;refine eo6 @brO.eq_1 @qp.eq_1 @stoO.eq_1 @mapO.eq_1 @qmO.eq_1 @tmO.eq_1 ?_;refine no_ ?_;refine eo ?_;refine clO [1,2] F61 (Z) ?_ (hfit:=by first|exact⟨qd,trivial⟩|exact⟨qd,qd,trivial⟩|(refine ev2 @qf.eq_1 @xk.eq_1 ?_;try exact⟨⟩))
 refine eo ?_;refine clO [1,2] F62 (Y) ?_ (hfit:=by first|exact⟨qd,trivial⟩|exact⟨qd,qd,trivial⟩|(refine ev2 @qf.eq_1 @xk.eq_1 ?_;try exact⟨⟩))
 refine ez1 @v7.eq_1 ?_;refine xov (λx:{x:Sto//x=qg8 b.s}=>StA b now x.val) ?_ (λx=> ?_)
 ·(repeat(with_reducible refine ob ?_));refine xp _ (λh=> ?_) (λh=> ?_)
  ·have hx:qg8 b.s=qil (qmf b.s):=by unfold qg8;rw[if_pos (by simp at h;omega)]
   have hy:(qil (qmf b.s)).m=b.s.m:=rfl;refine eo ?_;refine clO [1,2] F63r (I) ?_ (hfit:=by first|exact⟨qd,trivial⟩|exact⟨qd,qd,trivial⟩|(refine ev2 @qf.eq_1 @xk.eq_1 ?_;try exact⟨⟩))
   refine ez ?_;refine⟨⟨_,rfl⟩,?_⟩;exact et8 @StA.eq_1 @hx @hy @qp.eq_1 @stoO.eq_1 @mapO.eq_1 @qmO.eq_1 @tmO.eq_1
  ·have hx:qg8 b.s=qmf b.s:=by unfold qg8;rw[if_neg (by simp at h;omega)]
   refine ez ?_;refine⟨⟨_,rfl⟩,?_⟩;exact et8 @StA.eq_1 @hx @hm @qp.eq_1 @stoO.eq_1 @mapO.eq_1 @qmO.eq_1 @tmO.eq_1
 ·obtain⟨s,hx⟩:=x;refine ez6 @StA.eq_1 @qp.eq_1 @stoO.eq_1 @mapO.eq_1 @qmO.eq_1 @tmO.eq_1 ?_;refine pu ?_;refine ez ?_;refine qwi (st1:=StB b now s) (by exact et6 @StB.eq_1 @k9.eq_1 @stoO.eq_1 @mapO.eq_1 @qmO.eq_1 @tmO.eq_1) ?_;have U:=xgg {b with s:=s};simp only[brN,k9,stoO,mapO,qmO,tmO,List.map_nil,List.cons_append,List.nil_append]at U;refine ez7 @StB.eq_1 @k9.eq_1 @stoO.eq_1 @mapO.eq_1 @qmO.eq_1 @tmO.eq_1 @List.map_nil.{0,0} ?_;refine clT [0,1,2,3,4,10] F64 U ?_;refine ez ?_;refine xdb 130 10 0 11 [(n:Nat),(ss:Nat)] ((za n ss).map q0l) (StC b now s (za n ss)) fr0T (qt1 n ss (by omega) (by omega)) ?_ (λk=>rfl) (λk=>⟨_,by simp only[StC,k9,jCa,br,bs];rfl⟩) (λk vs G=> ?_) ?_ (λvs hv=> ?_)
  ·simp only[StC,fr0T,k9,stoO,mapO,qmO,tmO,accT,List.take_zero,List.foldl_nil,List.map_nil,go_sem,simprocAttr]
  ·rw[jAn,jAb]at G;obtain⟨p,hp,rfl⟩:=G;have R:=qx1 (b.q.get ⟨p.1,p.2.1,p.2.2⟩);have X:=xdw (b.queue ⟨p.1,p.2.1,p.2.2⟩) (hQ _);have hstep:accT b now ((za n ss).take (k+1))=q2j b now (accT b now ((za n ss).take k)) p:=by
    have G:k<(za n ss).length:=(jAd.1 hp).1;have he:(za n ss)[k]=p:=(jAd.1 hp).2;rw[jAk G,accT,jCm,he];rfl
   have C:=hA k;have o:=λx=>q2i {b with s:=s} (accT b now ((za n ss).take k)).1 p.1 p.2.1 p.2.2 (yc (b.queue ⟨p.1,p.2.1,p.2.2⟩)).1.seq now (accT b now ((za n ss).take k)).2 x (hT _) C;simp only[brN,k9,stoO,mapO,qmO,tmO,List.map_nil,List.cons_append,List.nil_append,xk,qf]at o;simp only[encQ,qf]at X;simp only[encQ]at R;unfold StC;rw[hstep];unfold q2j;generalize accT b now ((za n ss).take k)=e at C o⊢;simp only[fr0T,q0l,ji,k9,stoO,mapO,qmO,tmO,go_sem,simprocAttr]
   (repeat(with_reducible refine ob ?_));refine clF F15 (X) (λhg=>by exact⟨R,trivial⟩) ?_
   generalize yc (b.queue ⟨p.1,p.2.1,p.2.2⟩)=F at o⊢;obtain⟨x,ok⟩:=F;simp only at o⊢;refine ez ?_;cases ok
   ·refine eo ?_;refine no_ ?_;show Turn 11 _ _;refine .weak ?_ (.refl _);exact et
   ·have o:=o ⟨p.2.2,x⟩;have u: ∀v t now l x,qfj {b with s:=s} v t now l x=qfj b v t now l x:=λ_ _ _ _ _=>rfl;simp only[u]at o;refine eo ?_;refine qa2 ?_;refine ez ?_;generalize qfj b e.1 ⟨⟨p.1,p.2.1,p.2.2⟩,x.seq⟩ now e.2 ⟨p.2.2,x⟩=acc2 at o⊢;refine clT [0,1,2,3,4,8] F65 o ?_;refine ez ?_;show Turn 11 _ _;refine .weak ?_ (.refl _);exact et
  ·show AWp _ _ _ _ _;simp only[StC,jAm,jAs];have E:=qgn b.m hM;simp only[qu]at E;generalize accT b now (za n ss)=e at M⊢;generalize xl b.m=O at E M hL⊢;refine pu ?_;refine eo6 @fr0T.eq_1 @k9.eq_1 @stoO.eq_1 @mapO.eq_1 @qmO.eq_1 @tmO.eq_1 ?_;first|refine cl F18 (E) ?_|refine clF F18 (E) (λ_=>by exact et2 @qf.eq_1 @xk.eq_1) ?_
   refine ez1 @jAm.{0,0} ?_;refine qk (λi:{i:Nat//i<=O.length}=>StD b now s O (accO b now e (O.take i.val)) i.val) (λi=>O.length-i.val) ⟨0,jAi _⟩ ?_ (λi=> ?_)
   ·simp only[StD,k9,stoO,mapO,qmO,tmO,accO,List.take_zero,List.foldl_nil,List.map_nil,jAp,go_sem,simprocAttr]
   obtain⟨i,hi⟩:=i;have z:=M i;have o:=λm f n x=>q2i {b with s:=s} (accO b now e (O.take i)).1 m f (-1) n now (accO b now e (O.take i)).2 x (hT _) z;have u: ∀v t now l x,qfj {b with s:=s} v t now l x=qfj b v t now l x:=λ_ _ _ _ _=>rfl;simp only[u,brN,k9,stoO,mapO,qmO,tmO,List.map_nil,List.cons_append,List.nil_append,xk,qf]at o;generalize ha:accO b now e (O.take i)=a at z o⊢;refine eo7 @StD.eq_1 @ha @k9.eq_1 @stoO.eq_1 @mapO.eq_1 @qmO.eq_1 @tmO.eq_1 ?_;refine xp _ (λh=> ?_) (λh=> ?_)
   ·have q:i<O.length:=by simp at h;omega
    have hstep:accO b now e (O.take (i+1))=stepO b now a O[i]:=by
     rw[jAk q,accO,jCm,<- ha];rfl
    have o:=o (O[i]).sess (O[i]).from_ (O[i]).label ⟨(O[i]).from_,O[i]⟩
    refine ez2 (qj qf O q) @qf.eq_1 ?_;unfold stepO at hstep;generalize qfj b a.1 ⟨⟨(O[i]).sess,(O[i]).from_,-1⟩,(O[i]).label⟩ now a.2 ⟨(O[i]).from_,O[i]⟩=a2 at o hstep⊢
    (repeat(with_reducible refine ob ?_))
    refine clT [0,1,2,3,4,8] F65 o ?_;refine ez ?_;refine⟨⟨i+1,q⟩,?_,by dsimp only;omega⟩;exact et8 @StD.eq_1 @hstep @k9.eq_1 @stoO.eq_1 @mapO.eq_1 @qmO.eq_1 @tmO.eq_1 (qg (show i<9223372036854775807 by omega))
   ·have J:i=O.length:=by simp at h;omega
    subst J;rw[jAs]at ha;refine ez2 @ha hx.symm ?_;refine qbc [0,1,2,3,4,6,7,8,5,9] [.row (k9 b 5),stoO s 2,mapO s.m,qmO b.q,tmO b.t,tmO a.1,.row [.d (.ptr 0 0)],.row [.d (.int .i64 now)],.row [.own 0 10 (a.2.map xk)],.row [.d (.map 5)]] ?_ (by exact et5 @k9.eq_1 @mapO.eq_1 @stoO.eq_1 @qmO.eq_1 @tmO.eq_1) (hp:=rfl);refine pu ?_;exact et5 @k9.eq_1 @stoO.eq_1 @mapO.eq_1 @qmO.eq_1 @tmO.eq_1
  ·obtain⟨p,_,rfl⟩:=jAo.1 hv;exact⟨rfl,rfl⟩
end Go.Proofs.YtkcdbcbpbolgkaaGreatDoor
namespace Go.Proofs.YtkcdbcbpbolgkaaGreatDoor
open Go.Abs
theorem qc5:wy jj=true:=by decide
theorem q5t {p q r:Pk} (h1:qix p r=true) (h2:qix q r=true):qix p q=true:=by
 simp only[qix,jAf,beq_iff_eq]at*;grind
theorem qgw {p:Pk} (h:qbj p=true):p.kind=1∧qo p=true∧1<=p.seq∧p.seq<=1099511627776∧1<=p.sess∧p.sess<=32∧0<=p.from_∧p.from_<6∧0<=p.to∧p.to<6∧p.from_≠p.to:=by
 simp only[qbj,jAf,beq_iff_eq]at h;obtain⟨e,d⟩:=h;refine⟨e,d,?_⟩;simp only[qo,qft,e,if_true,data,qdp,role,jAf,decide_eq_true_eq,bne_iff_ne,ne_eq]at d;grind
theorem qgx (q:Qu) (seq:Int):wy (xx q seq).1=true:=by
 unfold xx;by_cases m:wy q=true
 ·have h:=(qaz q).1 m;simp only[m,jEq,jAw,if_false];split
  ·exact qc5
  ·rcases jC8 q.items.length with e|e
   ·simp only[e,jDw,beq_self_eq_true,jFf,if_true];exact qc5
   ·have hs:=(h.item 0 e).2.2;have h1:=h.lo;have h2:=h.le;have h3:=h.hi;have h4:=h.len;have h5:=h.few;have o:(q.items.getD 0 default).seq=q.cons+1:=by rw[zm e,hs];simp
    rw[o];split
    ·exact qc5
    ·rename_i hc;have d:seq=q.cons+1:=by simp at hc;exact hc.2
     subst d;refine(qaz _).2 ⟨by dsimp only;omega,by dsimp only;omega,h3,by simp only[jAq];omega,by simp only[jAq];omega,λi hi=> ?_⟩;simp only[jAq]at hi;obtain⟨m1,m2,m3⟩:=h.item (1+i) (by omega);obtain⟨n1,n2,n3⟩:=h.item 1 (by omega);simp only[List.getElem_drop,Nat.add_zero];exact⟨m1,q5t m2 n2,by rw[m3];omega⟩
 ·have l:wy q=false:=by simpa using m
  simp only[l,jDm,if_true];exact qc5
theorem qlr {q:Qu} {p:Pk} (h:(zk q p).2=0):wy q=true∧qbj p=true∧(q.items≠ [] ->qix p (q.items.getD 0 default)=true)∧p.seq=q.acc+1∧q.items.length≠4∧(zk q p).1=⟨p.seq,q.cons,q.items++ [p]⟩:=by
 unfold zk at h⊢;split at h
 ·cases h
 rename_i d;split at h
 ·cases h
 rename_i c1;split at h
 ·cases h
 rename_i c2;split at h
 ·cases h
 rename_i c3;rw[if_neg d,if_neg c1,if_neg c2,if_neg c3];simp only[jA1,jBa,jAf,decide_eq_true_eq,not_or,jEx,not_and]at d;obtain⟨⟨l,v2⟩,v3⟩:=d;have e:=(qaz q).1 l;have h1:=e.lo;have h2:=e.le;have h3:=e.hi;have hw:IntKind.i64.wrap (q.acc+1)=q.acc+1:=wrap_i64 (by omega) (by omega);rw[hw]at c2;simp only[decide_eq_true_eq,beq_iff_eq]at c1 c2 c3;refine⟨l,v2,λi=>v3 ?_,by omega,by omega,rfl⟩;have:=jCl.2 i;omega
theorem q74 {q:Qu} {p:Pk} (h:(zk q p).2≠0):(zk q p).1=jj:=by
 revert h;unfold zk;split
 ·intro _;rfl
 split
 ·intro _;rfl
 split
 ·intro _;rfl
 split
 ·intro _;rfl
 ·intro h;exact absurd rfl h
theorem qgy (q:Qu) (p:Pk):wy (zk q p).1=true:=by
 by_cases e:(zk q p).2=0
 ·obtain⟨v1,o,v3,hs,hn4,he⟩:=qlr e;rw[he];have h:=(qaz q).1 v1;have h1:=h.lo;have h2:=h.le;have h3:=h.hi;have u:=h.len;have h5:=h.few;have hm:=qgw o;refine(qaz _).2 ⟨h1,by dsimp only;omega,by dsimp only;omega,by simp only[jAc,List.length_cons,List.length_nil];omega,by simp only[jAc,List.length_cons,List.length_nil];omega,λi hi=> ?_⟩;simp only[jAc,List.length_cons,List.length_nil]at hi;by_cases m:i<q.items.length
  ·obtain⟨m1,m2,m3⟩:=h.item i m;simp only[jCk m,jCk (show 0<q.items.length by omega)];exact⟨m1,m2,m3⟩
  ·have t:i=q.items.length:=by omega
   subst t;rcases jC8 q.items.length with e|e
   ·have d:q.items= []:=jAz e;simp only[d,List.nil_append,List.length_nil,List.getElem_cons_zero];refine⟨o,by simp[qix],?_⟩;rw[d]at u;simp at u;omega
   ·have l:=v3 (jCl.1 e);rw[zm e]at l;simp only[List.getElem_append_right (jAh _),jCk e,jDg,List.getElem_cons_zero];exact⟨o,l,by omega⟩
 ·rw[q74 e];exact qc5
theorem qj3 {q:Qu} {s:Int} (h:(xx q s).2=0):wy q=true∧q.items≠ []∧s=q.cons+1∧(xx q s).1=⟨q.acc,s,q.items.drop 1⟩:=by
 unfold xx at h⊢;split at h
 ·cases h
 rename_i i;split at h
 ·cases h
 rename_i c1;split at h
 ·cases h
 rename_i c2;rw[if_neg i,if_neg c1,if_neg c2];have e:wy q=true:=by simpa using i
 have hq:=(qaz q).1 e;have d:0<q.items.length:=by
  simp only[jA1,beq_iff_eq,not_or]at c2;omega
 have hs:=(hq.item 0 d).2.2;simp only[jA1,bne_iff_ne,ne_eq,not_or,Decidable.not_not,zm d,hs]at c2;exact⟨e,jCl.1 d,by have:=c2.2;omega,rfl⟩
theorem qu6 {q:Qu} {s:Int} (h:(xx q s).2≠0):(xx q s).1=jj:=by
 revert h;unfold xx;split
 ·intro _;rfl
 split
 ·intro _;rfl
 split
 ·intro _;rfl
 ·intro h;exact absurd rfl h
theorem qo0 {q:Qu} (h:wy q=true):q.Sm:=by
 have d:=(qaz q).1 h;refine⟨by have:=d.few;omega,λp hp=> ?_⟩;obtain⟨i,hi,rfl⟩:=jCd hp;have:=qkz (qgw (d.item i hi).1).2.1;exact⟨by omega,by omega⟩
theorem qo1:jj.W:=⟨by simp[jj,I64],by simp[jj,I64],by simp[jj]⟩
theorem xtc {q:Qu} (h:wy q=true):I64 q.acc∧I64 q.cons:=(xpy h).I
theorem q5u {q:Qu} {p:Pk} (hq:q.W) (hp:p.W):(zk q p).1.W:=by
 by_cases e:(zk q p).2=0
 ·have he:=(qlr e).2.2.2.2.2;have hi:=xtc (qgy q p);rw[he]at hi⊢;refine⟨hi.1,hi.2,λx d=> ?_⟩;rcases jAt.1 d with d|d
  ·exact hq.p x d
  ·simp only[jAv,jBl,or_false]at d;subst d;exact hp
 ·rw[q74 e];exact qo1
theorem q2k {q:Qu} {s:Int} (hq:q.W):(xx q s).1.W:=by
 by_cases d:(xx q s).2=0
 ·have he:=(qj3 d).2.2.2;have hi:=xtc (qgx q s);rw[he]at hi⊢;exact⟨hi.1,hi.2,λx hx=>hq.p x (jCe hx)⟩
 ·rw[qu6 d];exact qo1
theorem xqc: ∀a b:Fin 10,dig a.val=dig b.val->a=b:=by decide
theorem qo2 {a b:Nat} (ha:a<10) (hb:b<10) (h:dig a=dig b):a=b:=by
 have:=xqc ⟨a,ha⟩ ⟨b,hb⟩ h;simpa using this
theorem qit (s f t:Nat):(jp s f t).length=8:=rfl
theorem xbe {s f t s' f' t':Nat} (hs:s<100) (hf:f<10) (ht:t<10) (hs':s'<100) (e:f'<10) (d:t'<10) (h:jp s f t=jp s' f' t'):s=s'∧f=f'∧t=t':=by
 simp only[jp,dig,List.cons_append,List.nil_append,jFc,and_true,true_and]at h;obtain⟨h1,h2,h3,h4⟩:=h;have e1:=qo2 (a:=s/10) (b:=s'/10) (by omega) (by omega) (by simp[dig,h1]);have e2:=qo2 (a:=s%10) (b:=s'%10) (by omega) (by omega) (by simp[dig,h2]);have e3:=qo2 hf e (by simp[dig,h3]);have e4:=qo2 ht d (by simp[dig,h4]);omega
def Pr.name (x:Pr):List UInt8:=jp x.s.toNat x.f.toNat x.t.toNat
structure PrOk (n ss:Nat) (x:Pr):Prop where
 s1:1<=x.s
 s2:x.s<=ss
 f0:0<=x.f
 f1:x.f<n
 t0:0<=x.t
 t1:x.t<n
 ne:x.f≠x.t
theorem xqd {n ss:Nat} (hn:n<=6) (hss:ss<=32) {x y:Pr} (hx:PrOk n ss x) (hy:PrOk n ss y) (h:x≠y) (a b:List UInt8) (ha:a.length=2) (hb:b.length=2):x.name++a≠y.name++b:=by
 intro he;have:=(List.append_inj he (by simp[Pr.name,qit])).1;obtain⟨x1,x2,x3⟩:=x;obtain⟨y1,y2,y3⟩:=y;obtain⟨a1,a2,a3,a4,a5,a6,a7⟩:=hx;obtain⟨b1,b2,b3,b4,b5,b6,b7⟩:=hy;simp only at a1 a2 a3 a4 a5 a6 b1 b2 b3 b4 b5 b6;obtain⟨e1,e2,e3⟩:=xbe (by simp only;omega) (by simp only;omega) (by simp only;omega) (by simp only;omega) (by simp only;omega) (by simp only;omega) this;simp only at e1 e2 e3;exact h (by rw[Pr.mk.injEq];omega)
theorem q75 (x:Pr) (a:List UInt8):pre uPfx (x.name++a)=false:=rfl
theorem qu7 (x:Pr):qnp x.name=true:=by simp[qnp,Pr.name,qit]
theorem q2l {n:Nat} {s:Sto} (h:s.Ok n) (hn:s.m.l.length<=390) {a b:Qu} {name:List UInt8} (hb:QV b) (wb:b.W) (hm:name.length<=30) (d:vn a b name 4≠ []):
  (xh s (vn a b name 4)).2=0∧(xh s (vn a b name 4)).1.Ok (n+1)∧(xh s (vn a b name 4)).1.m.l.length<=s.m.l.length+5∧ ∀k,mGet k (xh s (vn a b name 4)).1.m=vg k (mGet k s.m) (vn a b name 4):=by
 have he:=q7u hb wb hm d;have hl:=qfz a b name 4;obtain⟨e,y2⟩:=qio (vn a b name 4) s.m (by omega);have hc:xh s (vn a b name 4)=(⟨yu s.file (qx (vn a b name 4)).1,s.synced,(jt s.m (vn a b name 4)).1⟩,0):=by
  unfold xh;rw[if_neg (by simp[he]),if_neg (by simp[e])]
 have hok:=qjo h (vn a b name 4);rw[hc]at hok⊢;exact⟨rfl,hok,by simp only;omega,λk=>qfx k _ h.good.ok e⟩
theorem xl6 {m m':Cont} {name:List UInt8} {q:Qu} (e:Rep m name q) (h: ∀a:List UInt8,a.length=2->mGet (name++a) m'=mGet (name++a) m):Rep m' name q:=
 ⟨(h [47,110] rfl).trans e.1,λd hd=>(h [47,UInt8.ofNat (48+d)] rfl).trans (e.2 d hd)⟩
open Tryz
attribute [-go_sem] qfc
def xtd:=cut prog f139 news [] [] true
@[go_sem] def xv1:=qm xtd
def xgh:=fnC xtd follows func139
def xte:=cut prog f102 news [] [] true
@[go_sem] def xv2:=qm xte
def xgi:=fnC xte follows func102
def w7 (b:Brk) (k:Pr) (name:List UInt8) (next:Qu):Brk×Int×Bool:=
 if(kz (b.queue k) next name).2≠0 then(b,(kz (b.queue k) next name).2,false)
 else if(kz (b.queue k) next name).1= []then({b with q:=b.q.put k next},0,false)
 else if(xh b.s (kz (b.queue k) next name).1).2≠0 then(b,(xh b.s (kz (b.queue k) next name).1).2,false)
 else({b with s:=(xh b.s (kz (b.queue k) next name).1).1,q:=b.q.put k next},0,true)
theorem qr9 (b:Brk) (s f t:Nat) (next:Qu) (hs:s<100) (hf:f<10) (ht:t<10) (h1:(b.queue ⟨s,f,t⟩).Sm) (h2:(b.queue ⟨s,f,t⟩).W) (h3:next.Sm) (h4:next.W) (hF:b.s.file.length<=100000000)
  (o:(kz (b.queue ⟨s,f,t⟩) next (jp s f t)).1.length<=100000):
  qh prog 139 [.d (.ptr 0 0),.d (.agg [.int .i64 (s:Nat),.int .i64 (f:Nat),.int .i64 (t:Nat)]),.d (.agg (encQ next))] (brO b) (.d (.int .i64 (w7 b ⟨s,f,t⟩ (jp s f t) next).2.1)) (afB b (w7 b ⟨s,f,t⟩ (jp s f t) next).1 (w7 b ⟨s,f,t⟩ (jp s f t) next).2.2):=by
 have v:=xgf s f t hs hf ht;have z:=q4s (b.queue ⟨s,f,t⟩) next (jp s f t) h1 h2 h3 h4 (by simp[jp,dig])
 have kq:=qx1 (b.q.get ⟨s,f,t⟩);simp only[encQ]at z;generalize h:w7 b ⟨s,f,t⟩ (jp s f t) next=R
 unfold w7 at h;refine xgh.go ?_;refine eo7 @brO.eq_1 @qp.eq_1 @stoO.eq_1 @mapO.eq_1 @qmO.eq_1 @tmO.eq_1 @encQ.eq_1 ?_;first|refine cl F107 (v) ?_|refine clF F107 (v) (λ_=>by exact et3 @qf.eq_1 @xk.eq_1 @qr.eq_1) ?_
 refine eo ?_;refine clF F223 (z) (λhg=>by exact⟨kq,qd,qd,trivial⟩) ?_;generalize kz (b.queue ⟨s,f,t⟩) next (jp s f t)=C at h o⊢
 obtain⟨l,e⟩:=C;simp only at h o⊢;refine ez ?_;by_cases p:e=0
 ·subst p;rw[if_neg (by simp)]at h;by_cases u:l= []
  ·subst u;rw[if_pos rfl]at h;subst h;simp only[jAm,List.length_nil,List.map_nil,go_sem,simprocAttr]
   (repeat(with_reducible refine ob ?_));refine no_ ?_
   refine eo ?_;refine qa2 ?_;simp only[q5r _ _ _ _ next,go_sem,simprocAttr];refine pu ?_;simp only[afB,qp,mapO,stoO,qmO,tmO,go_sem,simprocAttr]
  ·rw[if_neg u]at h;have hd:decide ((l.length:Int)>0)=true:=by
    have:=jCl.2 u;simp only[decide_eq_true_eq];omega
   have i:=qk0 b.s l o hF;refine eo2 @jAm.{0,0} @hd ?_;refine qa2 ?_;refine ez ?_;by_cases hc:(xh b.s l).2=0
   ·rw[if_neg (by simp[hc])]at h;subst h;have q:qc2 b.s l= [stoO (xh b.s l).1 2,mapO b.s.m,mapO (xh b.s l).1.m]:=by unfold qc2;rw[if_pos hc]
    rw[q,hc]at i;simp only[stoO,mapO]at i;generalize (xh b.s l).1=s' at i⊢
    (repeat(with_reducible refine ob ?_));refine clO [1,2,7] F29 (i) ?_ (hfit:=by first|exact⟨qd,trivial⟩|exact⟨qd,qd,trivial⟩|(refine ev3 @qf.eq_1 @xk.eq_1 @qr.eq_1 ?_;try exact⟨⟩))
    refine eo ?_;refine qa2 ?_;simp only[q5r _ _ _ _ next,go_sem,simprocAttr];refine qbc [0,1,2,3,4,6,7,5] [.row (qp b),stoO s' 5,mapO b.s.m,qmO (b.q.put ⟨s,f,t⟩ next),tmO b.t,mapO s'.m,.row [.d (.int .i64 s),.d (.int .i64 f),.d (.int .i64 t)],.row [.d (.int .i64 next.acc),.d (.int .i64 next.cons),.d (.sl 9 (next.items.map qf))]] ?_ (by exact et5 @qp.eq_1 @mapO.eq_1 @stoO.eq_1 @qmO.eq_1 @tmO.eq_1) (hp:=rfl);refine pu ?_;simp only[afB,qp,mapO,stoO,qmO,tmO,go_sem,simprocAttr]
   ·rw[if_pos hc]at h;subst h;have q:qc2 b.s l= [stoO b.s 1,mapO b.s.m,.none]:=by unfold qc2;rw[if_neg hc]
    rw[q]at i;have hb:((xh b.s l).2==0)=false:=by simpa using hc
    simp only[stoO,mapO]at i
    (repeat(with_reducible refine ob ?_));refine clO [1,2,7] F29 (i) ?_ (hfit:=by first|exact⟨qd,trivial⟩|exact⟨qd,qd,trivial⟩|(refine ev3 @qf.eq_1 @xk.eq_1 @qr.eq_1 ?_;try exact⟨⟩))
    refine eo1 @hb ?_;refine no_ ?_;refine ez ?_;refine pu ?_;simp only[afB,qp,mapO,stoO,qmO,tmO,go_sem,simprocAttr]
 ·rw[if_pos p]at h;subst h;have hb:(e==0)=false:=by simpa using p
  refine eo1 @hb ?_;refine no_ ?_;refine eo1 @hb ?_;refine no_ ?_;refine ez ?_;refine pu ?_;simp only[afB,qp,stoO,mapO,qmO,tmO,go_sem,simprocAttr]
def qa1 (b:Brk) (next:Mg):Brk×Int×Bool:=
 if(jd b.m next).2≠0 then(b,(jd b.m next).2,false)
 else if(jd b.m next).1= []then({b with m:=next},0,false)
 else if(xh b.s (jd b.m next).1).2≠0 then(b,(xh b.s (jd b.m next).1).2,false)
 else({b with s:=(xh b.s (jd b.m next).1).1,m:=next},0,true)
theorem q2m (b:Brk) (next:Mg) (h1:b.m.Sm) (h2:next.Sm) (hF:b.s.file.length<=100000000) (p:(jd b.m next).1.length<=100000):
  qh prog 102 [.d (.ptr 0 0),.d (.agg (qu next))] (brO b) (.d (.int .i64 (qa1 b next).2.1)) (afB b (qa1 b next).1 (qa1 b next).2.2):=by
 have o:=xbd b.m next h1 h2
 simp only[qu]at o;generalize h:qa1 b next=R
 unfold qa1 at h;refine xgi.go ?_;refine eo7 @brO.eq_1 @qp.eq_1 @stoO.eq_1 @mapO.eq_1 @qmO.eq_1 @tmO.eq_1 @qu.eq_1 ?_;first|refine cl F25 (o) ?_|refine clF F25 (o) (λ_=>by exact et3 @qf.eq_1 @xk.eq_1 @qr.eq_1) ?_
 generalize jd b.m next=C at h p⊢
 obtain⟨l,e⟩:=C;simp only at h p⊢;refine ez ?_;by_cases q:e=0
 ·subst q;rw[if_neg (by simp)]at h;by_cases u:l= []
  ·subst u;rw[if_pos rfl]at h;subst h;simp only[jAm,List.length_nil,List.map_nil,go_sem,simprocAttr]
   (repeat(with_reducible refine ob ?_));refine no_ ?_
   refine eo ?_;refine qa2 ?_;refine ez ?_;refine pu ?_;simp only[afB,qp,mapO,stoO,qmO,tmO,go_sem,simprocAttr]
  ·rw[if_neg u]at h;have hd:decide ((l.length:Int)>0)=true:=by
    have:=jCl.2 u;simp only[decide_eq_true_eq];omega
   have i:=qk0 b.s l p hF;refine eo2 @jAm.{0,0} @hd ?_;refine qa2 ?_;refine ez ?_;by_cases hc:(xh b.s l).2=0
   ·rw[if_neg (by simp[hc])]at h;subst h;have t:qc2 b.s l= [stoO (xh b.s l).1 2,mapO b.s.m,mapO (xh b.s l).1.m]:=by unfold qc2;rw[if_pos hc]
    rw[t,hc]at i;simp only[stoO,mapO]at i;generalize (xh b.s l).1=s' at i⊢
    (repeat(with_reducible refine ob ?_));refine clO [1,2,6] F29 (i) ?_ (hfit:=by first|exact⟨qd,trivial⟩|exact⟨qd,qd,trivial⟩|(refine ev3 @qf.eq_1 @xk.eq_1 @qr.eq_1 ?_;try exact⟨⟩))
    refine eo ?_;refine qa2 ?_;refine ez ?_;refine qbc [0,1,2,3,4,6,5] [.row (qp {b with m:=next}),stoO s' 5,mapO b.s.m,qmO b.q,tmO b.t,mapO s'.m,.row [.d (.int .i64 next.roles),.d (.sl 4 (next.ents.map ql))]] ?_ (by exact et5 @qp.eq_1 @mapO.eq_1 @stoO.eq_1 @qmO.eq_1 @tmO.eq_1) (hp:=rfl);refine pu ?_;simp only[afB,qp,mapO,stoO,qmO,tmO,go_sem,simprocAttr]
   ·rw[if_pos hc]at h;subst h;have t:qc2 b.s l= [stoO b.s 1,mapO b.s.m,.none]:=by unfold qc2;rw[if_neg hc]
    rw[t]at i;have hb:((xh b.s l).2==0)=false:=by simpa using hc
    simp only[stoO,mapO]at i
    (repeat(with_reducible refine ob ?_));refine clO [1,2,6] F29 (i) ?_ (hfit:=by first|exact⟨qd,trivial⟩|exact⟨qd,qd,trivial⟩|(refine ev3 @qf.eq_1 @xk.eq_1 @qr.eq_1 ?_;try exact⟨⟩))
    refine eo1 @hb ?_;refine no_ ?_;refine ez ?_;refine pu ?_;simp only[afB,qp,mapO,stoO,qmO,tmO,go_sem,simprocAttr]
 ·rw[if_pos q]at h;subst h;have hb:(e==0)=false:=by simpa using q
  refine eo1 @hb ?_;refine no_ ?_;refine eo1 @hb ?_;refine no_ ?_;refine ez ?_;refine pu ?_;simp only[afB,qp,stoO,mapO,qmO,tmO,go_sem,simprocAttr]
def d72d:=cut prog f72 news [33] [] true
@[go_sem] def E72d:=qm d72d
def F72d:=fnC d72d follows func72
def d73d:=cut prog f73 news [21] [] true
@[go_sem] def E73d:=qm d73d
def F73d:=fnC d73d follows func73
def d41d:=cut prog f41 news [35] [] true
@[go_sem] def E41d:=qm d41d
def F41d:=fnC d41d follows func41
def xt (b:Brk) (t:Nat):List ASlot:= [.d (.int .i64 b.roles),.d (.int .i64 b.sess),.d (.ptr 1 0),.d (.map 3),.d (.int .i64 b.m.roles),.d (.sl 4 (b.m.ents.map ql)),.own t 10 (b.p.map xk),.d (.map 4)]
def qx4 (b:Brk) (k:Pr) (name:List UInt8) (d:Int):Brk×Int×Bool:=
 if(xx (b.queue k) d).2≠0 then(b,(xx (b.queue k) d).2,false)else w7 b k name (xx (b.queue k) d).1
theorem xl7 (b:Brk) (p:Pk) (s f t:Nat) (hs:s<100) (hf:f<10) (ht:t<10) (ps:p.sess=s) (q:p.from_=f) (o:p.to=t) (v:(b.queue ⟨s,f,t⟩).Sm) (hw:(b.queue ⟨s,f,t⟩).W)
  (ho:(xx (b.queue ⟨s,f,t⟩) p.seq).1.Sm) (hu:(xx (b.queue ⟨s,f,t⟩) p.seq).1.W) (hF:b.s.file.length<=100000000)
  (hl:(kz (b.queue ⟨s,f,t⟩) (xx (b.queue ⟨s,f,t⟩) p.seq).1 (jp s f t)).1.length<=100000):
  qh prog 72 [.d (.ptr 0 0),.d (.agg (qf p))] (brO b) (.d (.int .i64 (qx4 b ⟨s,f,t⟩ (jp s f t) p.seq).2.1)) (afB b (qx4 b ⟨s,f,t⟩ (jp s f t) p.seq).1 (qx4 b ⟨s,f,t⟩ (jp s f t) p.seq).2.2):=by
 have u:=q4j (b.queue ⟨s,f,t⟩) p.seq v;have kq:=qx1 (b.q.get ⟨s,f,t⟩);have i:=qr9 b s f t (xx (b.queue ⟨s,f,t⟩) p.seq).1 hs hf ht v hw ho hu hF hl;generalize h:qx4 b ⟨s,f,t⟩ (jp s f t) p.seq=R;unfold qx4 at h;simp only[brO,qp,stoO,mapO,qmO,tmO,encQ]at i;simp only[encQ]at u;refine F72d.go ?_;simp only[brO,qp,stoO,mapO,qmO,tmO,qf,ps,q,o,go_sem,simprocAttr]
 (repeat(with_reducible refine ob ?_));refine clF F140 (u) (λhg=>by exact⟨kq,qd,trivial⟩) ?_
 generalize xx (b.queue ⟨s,f,t⟩) p.seq=O at h i;obtain⟨l,e⟩:=O;simp only at h i⊢;refine ez ?_;by_cases m:e=0
 ·subst m;rw[if_neg (by simp)]at h;generalize w7 b ⟨s,f,t⟩ (jp s f t) l=C at h i;obtain⟨b1,e1,c⟩:=C;subst h;simp only[afB,qp,stoO,mapO,qmO,tmO]at i;refine eo ?_;refine no_ ?_;refine ez ?_;cases c
  ·refine clT [0,1,2,3,4,8] xgh i ?_;refine ez ?_;refine pu ?_;simp only[afB,qp,stoO,mapO,qmO,tmO,go_sem,simprocAttr]
  ·refine clT [0,1,2,3,4,8] xgh i ?_;refine ez ?_;refine qbc [0,1,2,3,4,6,7,8,5] [.row (xt b1 512),stoO b1.s 5,mapO b.s.m,qmO b1.q,tmO b1.t,mapO b1.s.m,.row ((qf p).map .d),.row [.d (.int .i64 s),.d (.int .i64 f),.d (.int .i64 t)],.row [.d (.int .i64 l.acc),.d (.int .i64 l.cons),.d (.sl 9 (l.items.map qf))]] ?_ (by try simp only[xt,mapO,stoO,qmO,tmO,qf,ps,q,o,go_sem,simprocAttr]) (hp:=rfl);refine pu ?_;simp only[afB,qp,xt,stoO,mapO,qmO,tmO,go_sem,simprocAttr]
 ·rw[if_pos m]at h;subst h;have hb:(e !=0)=true:=by simpa using m
  refine eo1 @hb ?_;refine qa2 ?_;refine ez ?_;refine pu ?_;simp only[afB,qp,stoO,mapO,qmO,tmO,go_sem,simprocAttr]
def qdz (b:Brk) (p:Pk):Brk×Int×Bool:=
 if(xr b.m p).2≠0 then(b,(xr b.m p).2,false)else qa1 b (xr b.m p).1
theorem qsa (b:Brk) (p:Pk) (hp:p.Sm) (q:b.m.Sm) (h2:(xr b.m p).1.Sm) (hF:b.s.file.length<=100000000) (hl:(jd b.m (xr b.m p).1).1.length<=100000):
  qh prog 73 [.d (.ptr 0 0),.d (.agg (qf p))] (brO b) (.d (.int .i64 (qdz b p).2.1)) (afB b (qdz b p).1 (qdz b p).2.2):=by
 have m:=qjy b.m p q hp;have i:=q2m b (xr b.m p).1 q h2 hF hl;generalize h:qdz b p=R;unfold qdz at h;simp only[brO,qp,stoO,mapO,qmO,tmO,qu]at i;simp only[qu]at m;refine F73d.go ?_;refine eo7 @brO.eq_1 @qp.eq_1 @stoO.eq_1 @mapO.eq_1 @qmO.eq_1 @tmO.eq_1 @qf.eq_1 ?_;first|refine cl F75b (m) ?_|refine clF F75b (m) (λ_=>by exact et3 @qf.eq_1 @xk.eq_1 @qr.eq_1) ?_
 generalize xr b.m p=O at h i;obtain⟨l,e⟩:=O;simp only at h i⊢;refine ez ?_;by_cases o:e=0
 ·subst o;rw[if_neg (by simp)]at h;generalize qa1 b l=C at h i;obtain⟨b1,e1,c⟩:=C;subst h;simp only[afB,qp,stoO,mapO,qmO,tmO]at i;refine eo ?_;refine no_ ?_;refine ez ?_;cases c
  ·refine clT [0,1,2,3,4,7] xgi i ?_;refine ez ?_;refine pu ?_;simp only[afB,qp,stoO,mapO,qmO,tmO,go_sem,simprocAttr]
  ·refine clT [0,1,2,3,4,7] xgi i ?_;refine ez ?_;refine qbc [0,1,2,3,4,6,7,5] [.row (xt b1 304),stoO b1.s 5,mapO b.s.m,qmO b1.q,tmO b1.t,mapO b1.s.m,.row ((qf p).map .d),.row [.d (.int .i64 l.roles),.d (.sl 4 (l.ents.map ql))]] ?_ (by exact et6 @xt.eq_1 @mapO.eq_1 @stoO.eq_1 @qmO.eq_1 @tmO.eq_1 @qf.eq_1) (hp:=rfl);refine pu ?_;simp only[afB,qp,xt,stoO,mapO,qmO,tmO,go_sem,simprocAttr]
 ·rw[if_pos o]at h;subst h;have hb:(e !=0)=true:=by simpa using o
  refine eo1 @hb ?_;refine qa2 ?_;refine ez ?_;refine pu ?_;simp only[afB,qp,stoO,mapO,qmO,tmO,go_sem,simprocAttr]
def yj (b:Brk) (s:Int):Brk×Int×Bool:=
 if decide (s<1)||decide (s>b.sess)then(b,2,false)
 else if(jc b.m s).2≠0 then(b,(jc b.m s).2,false)else qa1 b (jc b.m s).1
theorem qu8 (b:Brk) (s:Int) (q:b.m.Sm) (h2:(jc b.m s).1.Sm) (hF:b.s.file.length<=100000000) (hl:(jd b.m (jc b.m s).1).1.length<=100000):
  qh prog 41 [.d (.ptr 0 0),.d (.int .i64 s)] (brO b) (.d (.int .i64 (yj b s).2.1)) (afB b (yj b s).1 (yj b s).2.2):=by
 have o:=qu0 b.m s q;have l:=q2m b (jc b.m s).1 q h2 hF hl;generalize i:yj b s=R;unfold yj at i;simp only[brO,qp,stoO,mapO,qmO,tmO,qu]at l;simp only[qu]at o;refine F41d.go ?_;refine eo6 @brO.eq_1 @qp.eq_1 @stoO.eq_1 @mapO.eq_1 @qmO.eq_1 @tmO.eq_1 ?_;refine no_ ?_;refine eo ?_;refine xp _ (λh=> ?_) (λh=> ?_)
 ·rw[if_pos h]at i;subst i;refine ez ?_;refine pu ?_;simp only[afB,qp,stoO,mapO,qmO,tmO,go_sem,simprocAttr]
 rw[if_neg (by simp[h])]at i;refine eo ?_;first|refine cl F74b (o) ?_|refine clF F74b (o) (λ_=>by exact et3 @qf.eq_1 @xk.eq_1 @qr.eq_1) ?_
 generalize jc b.m s=O at i l;obtain⟨m,e⟩:=O;simp only at i l⊢;refine ez ?_;by_cases p:e=0
 ·subst p;rw[if_neg (by simp)]at i;generalize qa1 b m=C at i l;obtain⟨b1,e1,c⟩:=C;subst i;simp only[afB,qp,stoO,mapO,qmO,tmO]at l;refine eo ?_;refine no_ ?_;refine ez ?_;cases c
  ·refine clT [0,1,2,3,4,6] xgi l ?_;refine ez ?_;refine pu ?_;simp only[afB,qp,stoO,mapO,qmO,tmO,go_sem,simprocAttr]
  ·refine clT [0,1,2,3,4,6] xgi l ?_;refine ez ?_;refine qbc [0,1,2,3,4,6,5] [.row (xt b1 512),stoO b1.s 5,mapO b.s.m,qmO b1.q,tmO b1.t,mapO b1.s.m,.row [.d (.int .i64 m.roles),.d (.sl 4 (m.ents.map ql))]] ?_ (by exact et5 @xt.eq_1 @mapO.eq_1 @stoO.eq_1 @qmO.eq_1 @tmO.eq_1) (hp:=rfl);refine pu ?_;simp only[afB,qp,xt,stoO,mapO,qmO,tmO,go_sem,simprocAttr]
 ·rw[if_pos p]at i;subst i;have hb:(e !=0)=true:=by simpa using p
  refine eo1 @hb ?_;refine qa2 ?_;refine ez ?_;refine pu ?_;simp only[afB,qp,stoO,mapO,qmO,tmO,go_sem,simprocAttr]
def d71d:=cut prog f71 news [33] [5] true
@[go_sem] def E71d:=qm d71d
def F71d:=fnC d71d follows func71
def qaq (b:Brk) (k:Pr) (name:List UInt8) (p:Pk):Brk×Int×Bool:=
 if(zk (b.queue k) p).2=0 then w7 b k name (zk (b.queue k) p).1 else(b,(zk (b.queue k) p).2,false)
def qfb (b:Brk) (p:Pk):Brk:={b with p:=b.p++ [⟨p.from_,(qex p).1⟩]}
def qjb (b:Brk) (k:Pr) (name:List UInt8) (p:Pk):Brk×Int×Bool:=
 if(qaq b k name p).2.1=0∨(qaq b k name p).2.1=21 then(qfb (qaq b k name p).1 p,(qaq b k name p).2)else qaq b k name p
theorem xbf (b:Brk) (k:Pr) (name:List UInt8) (next:Qu):(w7 b k name next).1.p=b.p:=by
 unfold w7;split
 ·rfl
 ·split
  ·rfl
  ·split<;>rfl
def SbD (b:Brk) (p:Pk) (x:Brk×Int×Bool):St:=
 ⟨[(0,true,.d (.ptr 0 0)),(3,true,.d (.ptr 5 0)),(7,true,.d (.int .i64 x.2.1))],
  (match x.2.2 with
   |true=> [.row (qp x.1),stoO x.1.s 8,mapO b.s.m,qmO x.1.q,tmO x.1.t,.row ((qf p).map .d),.none,.none,mapO x.1.s.m]
   |false=> [.row (qp x.1),stoO x.1.s 2,mapO x.1.s.m,qmO x.1.q,tmO x.1.t,.row ((qf p).map .d),.none,.none,.none]),[0],1⟩
theorem xgj (b:Brk) (p:Pk) (s f t:Nat) (hs:s<100) (hf:f<10) (ht:t<10) (ps:p.sess=s) (v:p.from_=f) (u:p.to=t) (hp:p.Sm) (I:(b.queue ⟨s,f,t⟩).Sm) (hw:(b.queue ⟨s,f,t⟩).W)
  (ho:(zk (b.queue ⟨s,f,t⟩) p).1.Sm) (hu:(zk (b.queue ⟨s,f,t⟩) p).1.W) (hF:b.s.file.length<=100000000) (hP:b.p.length<=1000000)
  (hl:(kz (b.queue ⟨s,f,t⟩) (zk (b.queue ⟨s,f,t⟩) p).1 (jp s f t)).1.length<=100000):
  qh prog 71 [.d (.ptr 0 0),.d (.agg (qf p))] (brO b) (.d (.int .i64 (qjb b ⟨s,f,t⟩ (jp s f t) p).2.1)) (afB b (qjb b ⟨s,f,t⟩ (jp s f t) p).1 (qjb b ⟨s,f,t⟩ (jp s f t) p).2.2):=by
 have F:=xdv (b.queue ⟨s,f,t⟩) p I hp;have kq:=qx1 (b.q.get ⟨s,f,t⟩);have o:=qr9 b s f t (zk (b.queue ⟨s,f,t⟩) p).1 hs hf ht I hw ho hu hF hl;have E:=xl3 p hp;have i:qaq b ⟨s,f,t⟩ (jp s f t) p=if(zk (b.queue ⟨s,f,t⟩) p).2=0 then w7 b ⟨s,f,t⟩ (jp s f t) (zk (b.queue ⟨s,f,t⟩) p).1 else(b,(zk (b.queue ⟨s,f,t⟩) p).2,false):=rfl
 have l:qjb b ⟨s,f,t⟩ (jp s f t) p=if(qaq b ⟨s,f,t⟩ (jp s f t) p).2.1=0∨(qaq b ⟨s,f,t⟩ (jp s f t) p).2.1=21 then(qfb (qaq b ⟨s,f,t⟩ (jp s f t) p).1 p,(qaq b ⟨s,f,t⟩ (jp s f t) p).2)else qaq b ⟨s,f,t⟩ (jp s f t) p:=rfl
 generalize qjb b ⟨s,f,t⟩ (jp s f t) p=R at l⊢;generalize qaq b ⟨s,f,t⟩ (jp s f t) p=D0 at l i;simp only[brO,qp,stoO,mapO,qmO,tmO,encQ]at o;simp only[encQ]at F;refine F71d.go ?_;simp only[brO,qp,stoO,mapO,qmO,tmO,qf,ps,v,u,go_sem,simprocAttr];simp only[qf,ps,v,u]at F
 (repeat(with_reducible refine ob ?_));refine clF F138 (F) (λhg=>by exact⟨kq,qd,trivial⟩) ?_
 generalize zk (b.queue ⟨s,f,t⟩) p=O at i o;obtain⟨nx,e⟩:=O;simp only at i o⊢;refine ez ?_;have z:D0.1.p=b.p:=by
  rw[i];split
  ·exact xbf _ _ _ _
  ·rfl
 refine xov (λx:{x:Brk×Int×Bool//x=D0}=>SbD b p x.val) ?_ (λx=> ?_)
 ·by_cases G:e=0
  ·subst G;rw[if_pos rfl]at i;generalize w7 b ⟨s,f,t⟩ (jp s f t) nx=C at i o;obtain⟨b1,m,c⟩:=C;subst i;simp only[afB,qp,stoO,mapO,qmO,tmO]at o;refine eo ?_;refine qa2 ?_;refine ez ?_;cases c
   ·refine clT [0,1,2,3,4,8] xgh o ?_;refine ez ?_;refine⟨⟨_,rfl⟩,?_⟩;simp only[SbD,qp,stoO,mapO,qmO,tmO,qf,ps,v,u,go_sem,simprocAttr]
   ·refine clT [0,1,2,3,4,8] xgh o ?_;refine ez ?_;refine⟨⟨_,rfl⟩,?_⟩;simp only[SbD,qp,stoO,mapO,qmO,tmO,qf,ps,v,u,go_sem,simprocAttr]
  ·rw[if_neg G]at i;subst i;have hb:(e==0)=false:=by simpa using G
   refine eo1 @hb ?_;refine no_ ?_;refine ez ?_;refine⟨⟨_,rfl⟩,?_⟩;simp only[SbD,qp,stoO,mapO,qmO,tmO,qf,ps,v,u,go_sem,simprocAttr]
 ·obtain⟨⟨b1,m,c⟩,rfl⟩:=x;simp only at z;have hP1:b1.p.length<=1000000:=by rw[z];exact hP
  simp only[qfb]at l;cases c
  ·refine ez7 @SbD.eq_1 @qp.eq_1 @stoO.eq_1 @mapO.eq_1 @qmO.eq_1 @tmO.eq_1 @qf.eq_1 ?_;refine pu ?_;refine eo ?_;refine xp _ (λh=> ?_) (λh=> ?_)
   ·have q:m=0∨m=21:=by simpa using h
    rw[if_pos q]at l;subst l;refine eo ?_;first|refine cl F20 (E) ?_|refine clF F20 (E) (λ_=>by exact et3 @qf.eq_1 @xk.eq_1 @qr.eq_1) ?_
    generalize qex p=A;refine eo1 @qf.eq_1 ?_;refine pu ?_;simp only[afB,qp,stoO,mapO,qmO,tmO,qfb,jA2,List.map_cons,List.map_nil,xk,qf,go_sem,simprocAttr]
   ·have q: ¬(m=0∨m=21):=by simpa using h
    rw[if_neg q]at l;subst l;refine ez ?_;refine pu ?_;simp only[afB,qp,stoO,mapO,qmO,tmO,go_sem,simprocAttr]
  ·refine ez7 @SbD.eq_1 @qp.eq_1 @stoO.eq_1 @mapO.eq_1 @qmO.eq_1 @tmO.eq_1 @qf.eq_1 ?_;refine pu ?_;refine eo ?_;refine xp _ (λh=> ?_) (λh=> ?_)
   ·have q:m=0∨m=21:=by simpa using h
    rw[if_pos q]at l;subst l;refine eo ?_;first|refine cl F20 (E) ?_|refine clF F20 (E) (λ_=>by exact et3 @qf.eq_1 @xk.eq_1 @qr.eq_1) ?_
    generalize J:qex p=A;refine eo1 @qf.eq_1 ?_;refine qbc [0,1,2,3,4,6,7,8,5,9] [.row (xt (qfb b1 p) 400),stoO b1.s 5,mapO b.s.m,qmO b1.q,tmO b1.t,mapO b1.s.m,.row ((qf p).map .d),.none,.none,.row ((qf A.1).map .d)] ?_ (by try simp only[xt,mapO,stoO,qmO,tmO,qfb,jA2,List.map_cons,List.map_nil,xk,qf,J,go_sem,simprocAttr]) (hp:=rfl);refine pu ?_;simp only[afB,qp,xt,stoO,mapO,qmO,tmO,qfb,jA2,List.map_cons,List.map_nil,xk,qf,J,go_sem,simprocAttr]
   ·have q: ¬(m=0∨m=21):=by simpa using h
    rw[if_neg q]at l;subst l;refine ez ?_;refine qbc [0,1,2,3,4,6,7,8,5] [.row (qp b1),stoO b1.s 5,mapO b.s.m,qmO b1.q,tmO b1.t,mapO b1.s.m,.row ((qf p).map .d),.none,.none] ?_ (by exact et6 @qp.eq_1 @mapO.eq_1 @stoO.eq_1 @qmO.eq_1 @tmO.eq_1 @qf.eq_1) (hp:=rfl);refine pu ?_;simp only[afB,qp,stoO,mapO,qmO,tmO,go_sem,simprocAttr]
end Go.Proofs.YtkcdbcbpbolgkaaGreatDoor
namespace Go.Proofs.YtkcdbcbpbolgkaaGreatDoor
open Go.Abs
theorem q2n (b:Brk) (tr:MapM Tk TryM) (t:Tk) (now:Int) (l:List OutM) (x:OutM):(qfj b tr t now l x).2.length<=l.length+1:=by
 unfold qfj;split<;>simp
theorem qx5 {α β:Type} (f:β×List OutM->α->β×List OutM) (h: ∀a x,(f a x).2.length<=a.2.length+1): ∀(l:List α) (a:β×List OutM),(l.foldl f a).2.length<=a.2.length+l.length
 | [],a=>by simp
 |x::l,a=>by
  have h1:=qx5 f h l (f a x);have h2:=h a x;simp only[List.foldl_cons,List.length_cons];omega
theorem q76 (b:Brk) (now:Int) (l:List (Nat×Nat×Nat)):(accT b now l).2.length<=b.p.length+l.length:=
 qx5 (q2j b now) (λa x=>by
  unfold q2j;split
  ·exact q2n _ _ _ _ _ _
  ·omega) l _
theorem q77 (b:Brk) (now:Int) (a:MapM Tk TryM×List OutM) (l:List Pk):(accO b now a l).2.length<=a.2.length+l.length:=
 qx5 (stepO b now) (λa x=>q2n _ _ _ _ _ _) l _
structure NS (n ss:Nat):Prop where
 n1:1<=n
 n6:n<=6
 s1:1<=ss
 s32:ss<=32
structure BI (n ss k j:Nat) (b:Brk):Prop where
 ro:b.roles=n
 se:b.sess=ss
 st:b.s.Ok (k+401)
 ln:b.s.m.l.length<=5*k
 qv: ∀x,wy (b.queue x)=true
 qw: ∀x,(b.queue x).W
 kq: ∀x,¬PrOk n ss x->b.q.get x=none
 qa: ∀x,∀p∈(b.queue x).items,p.sess=x.s∧p.from_=x.f∧p.to=x.t
 mw:MW b.m
 mr:b.m.roles=n
 ms: ∀e∈b.m.ents,e.sess<=ss
 pl:b.p.length<=k
 tr: ∀t,0<=(qdg b t).count∧(qdg b t).count<=j
 rq: ∀x,PrOk n ss x->Rep b.s.m x.name (b.queue x)
 rm:URep b.s.m b.m
theorem qu9 {n ss:Nat} (h:NS n ss):BI n ss 0 0 (zl n ss):=by
 have d: ∀x,(zl n ss).queue x=noQ:=λx=>rfl;have ht: ∀t,qdg (zl n ss) t=⟨0,0⟩:=λt=>rfl;refine⟨rfl,rfl,q4p _,by simp[zl,newS,qch],λx=>by rw[d];decide,λx=>by rw[d];exact qo1,λx _=>rfl,λx p hp=>by rw[d]at hp;simp[noQ]at hp,⟨?_,?_,?_,?_⟩,rfl,λe he=>by simp[zl]at he,by simp[zl],λt=>by rw[ht];simp,λx _=>by rw[d];exact xfr _,xba _⟩
 ·have:=h.n1;simp only[zl];omega
 ·have:=h.n6;simp only[zl];omega
 ·simp[zl]
 ·intro x hx;simp[zl]at hx
theorem qet (b:Brk) (s':Sto) (x y:Pr) (q:Qu):({b with s:=s',q:=b.q.put x q}:Brk).queue y=if y=x then q else b.queue y:=by
 unfold Brk.queue;simp only[MapM.get_put];split<;>rfl
section
variable {n ss k j:Nat} {b:Brk}
theorem BI.put (H:BI n ss k j b) {x:Pr} (hx:PrOk n ss x) {q:Qu} (v:wy q=true) (w:q.W) (a: ∀p∈q.items,p.sess=x.s∧p.from_=x.f∧p.to=x.t) {s':Sto} (ok:s'.Ok (k+1+401)) (ln:s'.m.l.length<=5*(k+1))
  (rq: ∀y,PrOk n ss y->Rep s'.m y.name (if y=x then q else b.queue y)) (rm:URep s'.m b.m):BI n ss (k+1) j {b with s:=s',q:=b.q.put x q}:=by
 refine⟨H.ro,H.se,ok,ln,λy=> ?_,λy=> ?_,λy d=> ?_,λy p hp=> ?_,H.mw,H.mr,H.ms,Nat.le_succ_of_le H.pl,H.tr,λy d=> ?_,rm⟩
 ·rw[qet];split
  ·exact v
  ·exact H.qv y
 ·rw[qet];split
  ·exact w
  ·exact H.qw y
 ·simp only[MapM.get_put];rw[if_neg (by rintro rfl;exact d hx)];exact H.kq y d
 ·rw[qet]at hp;split at hp
  ·rename_i h;subst h;exact a p hp
  ·exact H.qa y p hp
 ·rw[qet];exact rq y d
theorem BI.change (hn:NS n ss) (H:BI n ss k j b) (hk:k<=70) {x:Pr} (t:PrOk n ss x) {q:Qu} (v:wy q=true) (w:q.W) (a: ∀p∈q.items,p.sess=x.s∧p.from_=x.f∧p.to=x.t):
  ∃s' c,w7 b x x.name q=({b with s:=s',q:=b.q.put x q},0,c)∧BI n ss (k+1) j {b with s:=s',q:=b.q.put x q}:=by
 have u:kz (b.queue x) q x.name=(vn (b.queue x) q x.name 4,0):=by
  unfold kz;rw[if_neg];simp[H.qv x,v,qu7]
 have hln:=H.ln;unfold w7;rw[u];rw[if_neg (by simp)];by_cases o:vn (b.queue x) q x.name 4= []
 ·rw[if_pos o];obtain⟨h1,h2⟩:=q7v o;refine⟨b.s,false,rfl,H.put t v w a (H.st.mono (by omega)) (by omega) (λy i=> ?_) H.rm⟩;split
  ·rename_i h;subst h;exact xlm h1 h2 (H.rq y i)
  ·exact H.rq y i
 ·rw[if_neg o];obtain⟨c1,c2,c3,z⟩:=q2l (a:=b.queue x) H.st (by omega) (xpy v) w (show x.name.length<=30 by simp[Pr.name,qit]) o;rw[if_neg (by simp[c1])];refine⟨_,true,rfl,H.put t v w a (c2.mono (by omega)) (by simp only;omega) (λy i=> ?_) (xbb H.rm λk' m=> ?_)⟩
  ·split
   ·rename_i h;subst h;exact xll (H.rq y i) z
   ·rename_i h;exact xfq (xqd hn.n6 hn.s32 t i (λe=>h e.symm)) (H.rq y i) z
  ·have l: ∀a:List UInt8,x.name++a≠k':=λa h=>by
    rw[<- h,q75]at m;cases m
   rw[z,qin (b.queue x) q x.name k' (l _) (λd _=>l _) _ 4 (jAh _)]
theorem BI.manage (H:BI n ss k j b) (hk:k<=70) {m':Mg} (o:OneStep b.m m') (ms: ∀e∈m'.ents,e.sess<=ss):
  ∃s',qa1 b m'=({b with s:=s',m:=m'},0,true)∧BI n ss (k+1) j {b with s:=s',m:=m'}:=by
 have l:=o.changes H.mw;obtain⟨y,hy,p⟩:=o.one;have hln:=H.ln;have i:=o.mw.en y hy;obtain⟨c1,c2,c3,q⟩:=xbc H.st (k:=uKey y.sess) (v:=qew y) (by omega) (by simp[uKey]) (by simp[uKey]) (by have:=xga o.mw.r6 i;omega);unfold qa1;rw[l,p];rw[if_neg (by simp),if_neg (by simp),if_neg (by simp[c1])];refine⟨_,rfl,H.ro,H.se,c2.mono (by omega),by simp only;omega,H.qv,H.qw,H.kq,H.qa,o.mw,o.roles.trans H.mr,ms,Nat.le_succ_of_le H.pl,H.tr,λx hx=>xl6 (H.rq x hx) λa _=> ?_,xf9 H.mw o.mw o.keep H.rm λk'=>by rw[q,p]⟩;rw[q,qr5];intro o' d;simp only[jAv,jBl,or_false]at d;subst d;intro h;have:=q75 x a;rw[<- h,xlu]at this;cases this
end
def Pk.key (p:Pk):Pr:=⟨p.sess,p.from_,p.to⟩
def qce (k:Int):Bool:=k==1||k==2||k==4
def qc6 (b:Brk) (p:Pk):Bool:=qce p.kind&&qo p&& !decide (p.sess>b.sess)&& !decide (p.from_≥b.roles)&& !decide (p.to≥b.roles)
def we (b:Brk) (p:Pk):Brk×Int×Bool:=
 if !qc6 b p then(b,1,false)
 else if p.kind=1 then qjb b p.key p.key.name p
 else if p.kind=2 then qx4 b p.key p.key.name p.seq
 else qdz b p
theorem qo3 {n ss k j:Nat} {b:Brk} (H:BI n ss k j b) {p:Pk} (h:qc6 b p=true) (d:p.kind=1∨p.kind=2):PrOk n ss p.key:=by
 have h1:=H.ro;have h2:=H.se;simp only[qc6,jAf,jBa,decide_eq_false_iff_not,qo,qft,decide_eq_true_eq]at h;rcases d with d|d
 ·simp only[d,if_true,data,qdp,role,jAf,decide_eq_true_eq,bne_iff_ne,ne_eq]at h;exact⟨by simp only[Pk.key];omega,by simp only[Pk.key];omega,by simp only[Pk.key];omega,by simp only[Pk.key];omega,by simp only[Pk.key];omega,by simp only[Pk.key];omega,by simp only[Pk.key];omega⟩
 ·have e: ¬((2:Int)=1):=by decide
  simp only[d,e,if_false,ack,qdp,role,jAf,decide_eq_true_eq,bne_iff_ne,ne_eq,if_true]at h;exact⟨by simp only[Pk.key];omega,by simp only[Pk.key];omega,by simp only[Pk.key];omega,by simp only[Pk.key];omega,by simp only[Pk.key];omega,by simp only[Pk.key];omega,by simp only[Pk.key];omega⟩
theorem xnr {p:Pk} (d:p.kind=4) (h:qo p=true):p=vq p.sess p.from_ p.label∧(p.label=1∨p.label=2):=by
 have e1: ¬((4:Int)=1):=by decide
 have e2: ¬((4:Int)=2):=by decide
 simp only[qo,qft,d,e1,e2,if_false,order,bare,jAf,jA1,decide_eq_true_eq,beq_iff_eq]at h;obtain⟨_,⟨⟨⟨_,hl⟩,⟨⟨m,h2⟩,h3⟩⟩,l⟩,i⟩:=h;refine⟨?_,hl⟩;have e:p.values= []:=jAz (by omega);have o:p.clock= []:=jAz (by omega);obtain⟨a1,a2,a3,a4,a5,a6,a7,a8,a9⟩:=p;simp only at d m l i e o;subst d;subst m;subst l;subst i;subst e;subst o;rfl
section
variable {n ss k j:Nat} {b:Brk}
theorem BI.ack (H:BI n ss k j b) (hb:b.p.length+1<=k) (p:Pk):BI n ss k j (qfb b p):=
 ⟨H.ro,H.se,H.st,H.ln,H.qv,H.qw,H.kq,H.qa,H.mw,H.mr,H.ms,by simp only[qfb,jAc,List.length_cons,List.length_nil];exact hb,H.tr,H.rq,H.rm⟩
theorem BI.mono (H:BI n ss k j b) {k' j':Nat} (h1:k<=k') (h2:j<=j'):BI n ss k' j' b:=
 ⟨H.ro,H.se,H.st.mono (by omega),by have:=H.ln;omega,H.qv,H.qw,H.kq,H.qa,H.mw,H.mr,H.ms,by have:=H.pl;omega,λt=>by have:=H.tr t;omega,H.rq,H.rm⟩
inductive Rcv (n ss k j:Nat) (b:Brk) (p:Pk):Brk×Int×Bool->Prop
 |no (e:Int) (he:e≠0) (hd:p.kind=1->e≠21):Rcv n ss k j b p (b,e,false)
 |dup (hk:p.kind=1) (hx:PrOk n ss p.key) (ho:(zk (b.queue p.key) p).2=21) (hv:qo p=true) (H:BI n ss (k+1) j (qfb b p)):Rcv n ss k j b p (qfb b p,21,false)
 |data (s':Sto) (c:Bool) (hk:p.kind=1) (hx:PrOk n ss p.key) (ho:(zk (b.queue p.key) p).2=0) (hv:qo p=true) (H:BI n ss (k+1) j {b with s:=s',q:=b.q.put p.key (zk (b.queue p.key) p).1,p:=b.p++ [⟨p.from_,(qex p).1⟩]}):
   Rcv n ss k j b p ({b with s:=s',q:=b.q.put p.key (zk (b.queue p.key) p).1,p:=b.p++ [⟨p.from_,(qex p).1⟩]},0,c)
 |ack (s':Sto) (c:Bool) (hk:p.kind=2) (hx:PrOk n ss p.key) (ho:(xx (b.queue p.key) p.seq).2=0) (H:BI n ss (k+1) j {b with s:=s',q:=b.q.put p.key (xx (b.queue p.key) p.seq).1}):
   Rcv n ss k j b p ({b with s:=s',q:=b.q.put p.key (xx (b.queue p.key) p.seq).1},0,c)
 |rep (s':Sto) (hk:p.kind=4) (ho:(xr b.m p).2=0) (H:BI n ss (k+1) j {b with s:=s',m:=(xr b.m p).1}):Rcv n ss k j b p ({b with s:=s',m:=(xr b.m p).1},0,true)
theorem q5v (H:BI n ss k j b) {p:Pk} (h:(zk (b.queue p.key) p).2=0): ∀x∈(zk (b.queue p.key) p).1.items,x.sess=p.key.s∧x.from_=p.key.f∧x.to=p.key.t:=by
 rw[(qlr h).2.2.2.2.2];intro x d;rcases jAt.1 d with d|d
 ·exact H.qa _ x d
 ·simp only[jAv,jBl,or_false]at d;subst d;exact⟨rfl,rfl,rfl⟩
theorem qx6 (H:BI n ss k j b) {x:Pr} {s:Int}: ∀p∈(xx (b.queue x) s).1.items,p.sess=x.s∧p.from_=x.f∧p.to=x.t:=by
 by_cases h:(xx (b.queue x) s).2=0
 ·rw[(qj3 h).2.2.2];exact λp hp=>H.qa x p (jCe hp)
 ·rw[qu6 h];intro p hp;simp[jj]at hp
theorem xgk {m:Mg} {s r label:Int} {ss:Nat} (hm:MW m) (hl:label=1∨label=2) (h:(xr m (vq s r label)).2=0) (i: ∀e∈m.ents,e.sess<=ss) (h1:1<=s) (d:s<=32) (h0:0<=r) (hr:r<m.roles): ∀e∈(xr m (vq s r label)).1.ents,e.sess<=ss:=by
 rcases qn1 m s r label hm h1 d h0 hr hl with e|⟨k,hk,hks,_,hb,_,e,he,hw⟩
 ·exact absurd h e
 ·rw[e];intro x hx;rcases jD7 hx with h|h
  ·exact i x h
  ·subst h;rw[qgu];exact i _ (jAg hk)
theorem qiu (hn:NS n ss) (H:BI n ss k j b) (i:k<=70) (p:Pk) (hw:p.W):Rcv n ss k j b p (we b p):=by
 have hpl:=H.pl;unfold we;by_cases hok:qc6 b p=true
 ·rw[if_neg (by simp[hok])];have t:qo p=true:=by
   simp only[qc6,jAf]at hok;exact hok.1.1.1.2
  by_cases m:p.kind=1
  ·rw[if_pos m];have o:=qo3 H hok (.inl m);unfold qjb qaq;by_cases d:(zk (b.queue p.key) p).2=0
   ·rw[if_pos d];obtain⟨s',c,e,H'⟩:=H.change hn i o (qgy _ p) (q5u (H.qw _) hw) (q5v H d);rw[e,if_pos (.inl rfl)];exact .data s' c m o d t (H'.ack (by simp only;omega) p)
   ·rw[if_neg d];by_cases l:(zk (b.queue p.key) p).2=21
    ·rw[if_pos (.inr l),l];exact .dup m o l t ((H.mono (jEg k) (jAh j)).ack (by omega) p)
    ·rw[if_neg (by simp only[not_or];exact⟨d,l⟩)];exact .no _ d (λ_=>l)
  ·rw[if_neg m];by_cases q:p.kind=2
   ·rw[if_pos q];have o:=qo3 H hok (.inr q);unfold qx4;by_cases d:(xx (b.queue p.key) p.seq).2=0
    ·rw[if_neg (by simp[d])];obtain⟨s',c,e,H'⟩:=H.change hn i o (qgx _ p.seq) (q2k (H.qw _)) (qx6 H);rw[e];exact .ack s' c q o d H'
    ·rw[if_pos d];exact .no _ d (λh=>absurd h m)
   ·rw[if_neg q];have z:p.kind=4:=by
     simp only[qc6,qce,jAf,jA1,beq_iff_eq]at hok;rcases hok.1.1.1.1 with(h|h)|h
     ·exact absurd h m
     ·exact absurd h q
     ·exact h
    unfold qdz;by_cases d:(xr b.m p).2=0
    ·rw[if_neg (by simp[d])];obtain⟨hp,C⟩:=xnr z t;have u:OneStep b.m (xr b.m p).1:=by
      have:=qu4 (s:=p.sess) (r:=p.from_) (label:=p.label) H.mw C (by rw[<- hp];exact d);rwa [<- hp]at this
     have v: ∀e∈(xr b.m p).1.ents,e.sess<=ss:=by
      have hg:(!ja b.m||p.kind !=4|| !qo p||decide (p.from_≥b.m.roles))=false:=by
       cases hgg:(!ja b.m||p.kind !=4|| !qo p||decide (p.from_≥b.m.roles))with
       |false=>rfl
       |true=>unfold xr at d;rw[if_pos hgg]at d;cases d
      obtain⟨_,_,_,g4,g5⟩:=xs7 hg;have hs:1<=p.sess∧p.sess<=32:=by
       simp only[qo,qft,jAf,decide_eq_true_eq]at t;omega
      have:=xgk (s:=p.sess) (r:=p.from_) (label:=p.label) (ss:=ss) H.mw C (by rw[<- hp];exact d) H.ms hs.1 hs.2 g5 g4;rwa [<- hp]at this
     obtain⟨s',e,H'⟩:=H.manage i u v;rw[e];exact .rep s' z d H'
    ·rw[if_pos d];exact .no _ d (λh=>absurd h m)
 ·rw[if_pos (by simpa using hok)];exact .no 1 (by decide) (λ_=>by decide)
theorem BI.recv (hn:NS n ss) (H:BI n ss k j b) (d:k<=70) (p:Pk) (hw:p.W):BI n ss (k+1) j (we b p).1:=by
 have:=qiu hn H d p hw;generalize we b p=R at this;cases this with
 |no e _ _=>exact H.mono (jEg k) (jAh j)
 |dup _ _ _ _ H'=>exact H'
 |data _ _ _ _ _ _ H'=>exact H'
 |ack _ _ _ _ _ H'=>exact H'
 |rep _ _ _ H'=>exact H'
theorem xl9 {m:Mg} {s:Int} {ss:Nat} (hm:MW m) (h:(jc m s).2=0) (i: ∀e∈m.ents,e.sess<=ss) (h1:1<=s) (l:s<=32) (hs:s<=ss): ∀e∈(jc m s).1.ents,e.sess<=ss:=by
 rcases qr3 m s hm h1 l with⟨_,e⟩|⟨hf,a,c,he,e,hw⟩
 ·rw[e]at h;cases h
 ·rw[e];intro x d;rw[he]at i;simp only[jAt,jB2]at d i;rcases d with(d|d)|d
  ·exact i x (.inl d)
  ·subst d;exact hs
  ·exact i x (.inr d)
theorem qgz (hn:NS n ss) (H:BI n ss k j b) (h:k<=70) (s:Int):(∃e,e≠0∧yj b s=(b,e,false))∨ ∃s',(jc b.m s).2=0∧1<=s∧s<=ss∧yj b s=({b with s:=s',m:=(jc b.m s).1},0,true)∧BI n ss (k+1) j {b with s:=s',m:=(jc b.m s).1}:=by
 unfold yj;by_cases i:(decide (s<1)||decide (s>b.sess))=true
 ·rw[if_pos i];exact .inl ⟨2,by decide,rfl⟩
 ·rw[if_neg i];have hse:=H.se;have h32:=hn.s32;simp only[jA1,decide_eq_true_eq,not_or]at i;by_cases d:(jc b.m s).2=0
  ·rw[if_neg (by simp[d])];obtain⟨s',e,H'⟩:=H.manage h (q2g H.mw d) (xl9 H.mw d H.ms (by omega) (by omega) (by omega));exact .inr ⟨s',d,by omega,by omega,e,H'⟩
  ·rw[if_pos d];exact .inl ⟨_,d,rfl⟩
theorem BI.begin (hn:NS n ss) (H:BI n ss k j b) (d:k<=70) (s:Int):BI n ss (k+1) j (yj b s).1:=by
 rcases qgz hn H d s with⟨e,_,h⟩|⟨s',_,_,_,h,H'⟩
 ·rw[h];exact H.mono (jEg k) (jAh j)
 ·rw[h];exact H'
end
theorem xma {m:Cont} (h:m.Good):(qxk (zt m)).length<=401*70000:=by
 have d:(zt m).length<=400:=by rw[qlb];exact h.few
 have h0:=(xfc (zt m) (xft h) (zt m).length (jAh _)).file;have h1:qxk (zt m)=qci (cAt (zt m) (zt m).length).1 (cAt (zt m) (zt m).length).2:=by rw[qxk,cAt,jAs]
 have h2:=qmw (cAt (zt m) (zt m).length).1 (cAt (zt m) (zt m).length).2;have h3:=jAy 70000 d;rw[h1];omega
theorem qx7 (s:Sto):(qg8 s).m=s.m:=by unfold qg8;split<;>rfl
theorem xmb {s:Sto} {k:Nat} (h:s.Ok (k+401)):(qg8 s).Ok (k+401):=by
 refine⟨by rw[qx7];exact h.good,?_⟩;unfold qg8;split
 ·have:=xma h.good;exact jBj this (jAy _ (by omega))
 ·exact h.file
theorem qf6 {α β:Type} (f:α->List β) (c:Nat): ∀(l:List α),(∀x∈l,(f x).length<=c) ->(l.flatMap f).length<=l.length*c
 | [],_=>by simp
 |x::l,h=>by
  have h1:=h x jA7;have h2:=qf6 f c l λy hy=>h y (jA9 _ hy);rw[List.flatMap_cons,jAc,List.length_cons,jCp];omega
theorem qva (n ss:Nat):(za n ss).length<=ss*(n*n):=by
 unfold za in3;have h1: ∀s f,(in1 n s f 0).length<=n:=λs f=>by
  unfold in1;have:=qf6 (λt=>if f=t then []else [(s,f,t)]) 1 (List.range' 0 (n-0)) (λx _=>by split<;>simp)
  simpa using this
 have h2: ∀s,(in2 n s 0).length<=n*n:=λs=>by
  unfold in2;have:=qf6 (λf=>in1 n s f 0) n (List.range' 0 (n-0)) (λx _=>h1 s x);simpa using this
 have:=qf6 (λs=>in2 n s 0) (n*n) (List.range' 1 (ss+1-1)) (λx _=>h2 x);simpa using this
theorem xgl {n s f t:Nat} {x:Nat×Nat×Nat}:x∈in1 n s f t↔x.1=s∧x.2.1=f∧t<=x.2.2∧x.2.2<n∧f≠x.2.2:=by
 obtain⟨a,b,c⟩:=x;unfold in1;simp only[jBi,List.mem_range'_1];constructor
 ·rintro⟨y,hy,h⟩;split at h
  ·cases h
  ·simp only[jAv,jCx,jBl,or_false]at h;obtain⟨rfl,rfl,rfl⟩:=h;exact⟨rfl,rfl,by omega,by omega,by assumption⟩
 ·rintro⟨h1,h2,h3,h4,h5⟩;exact⟨c,by omega,by rw[if_neg h5];simp[h1,h2]⟩
theorem qm4 {n ss:Nat} {x:Nat×Nat×Nat}:x∈za n ss↔1<=x.1∧x.1<=ss∧x.2.1<n∧x.2.2<n∧x.2.1≠x.2.2:=by
 unfold za in3;simp only[jBi,List.mem_range'_1,in2];constructor
 ·rintro⟨s,hs,f,hf,h⟩;obtain⟨h1,h2,h3,e,d⟩:=xgl.1 h;omega
 ·rintro⟨h1,h2,h3,e,d⟩;exact⟨x.1,by omega,x.2.1,by omega,xgl.2 ⟨rfl,rfl,jAi _,e,d⟩⟩
theorem qvb {m:Mg} (h:MW m):(xl m).length<=200:=by
 unfold xl;split
 ·have hl:m.ents.length<=32:=by
   have:=qh5 h.inc (by intro x d;obtain⟨e,p,rfl⟩:=jAo.1 d;exact(h.en e p).s1) (by intro x d;obtain⟨e,p,rfl⟩:=jAo.1 d;exact(h.en e p).s32);rwa [jAm]at this
  have h6:=h.r6;have d: ∀i∈List.range m.ents.length,(qq9 (m.ents.getD i default)).length<=6:=λi hi=>by
   have l:i<m.ents.length:=by simpa using hi
   rw[zm l];have o:=h.en _ (jAg l);have h1:=qhu m.ents[i].sess (yv m.ents[i]) (zg m.ents[i]) (zg m.ents[i]).length;have h2:(zg m.ents[i]).length<=6:=by
    have:=o.ml;have:=o.ol;unfold zg;split<;>omega
   unfold qq9;omega
  have:=qf6 (λi=>qq9 (m.ents.getD i default)) 6 (List.range m.ents.length) d;unfold wq;simp only[List.length_range]at this;omega
 ·simp
section
variable {n ss k j:Nat} {b:Brk}
def vh (b:Brk) (now:Int) (n ss:Nat):Brk:={b with s:=qg8 b.s,p:= [],t:=(accO b now (accT b now (za n ss)) (xl b.m)).1}
def qcr (b:Brk) (now:Int) (n ss:Nat):List OutM:=(accO b now (accT b now (za n ss)) (xl b.m)).2
def TrOk (j:Nat) (d:MapM Tk TryM):Prop:= ∀t,0<=((d.get t).getD ⟨0,0⟩).count∧((d.get t).getD ⟨0,0⟩).count<=j
theorem q78 {d:MapM Tk TryM} (hb: ∀t,0<=(qdg b t).count∧(qdg b t).count<=j) (h:TrOk (j+1) d) (t:Tk) (now:Int) (l:List OutM) (x:OutM):TrOk (j+1) (qfj b d t now l x).1:=by
 have hbt:=hb t;intro u;unfold qfj;split
 ·simp only[MapM.get_put];split
  ·simp only[Option.getD_some,qr8];omega
  ·exact h u
 ·simp only[MapM.get_put];split
  ·simp only[Option.getD_some];omega
  ·exact h u
theorem qm5 {α β:Type} (P:β->Prop) (f:β->α->β) (h: ∀a x,P a->P (f a x)): ∀(l:List α) (a:β),P a->P (l.foldl f a)
 | [],_,ha=>ha
 |x::l,a,ha=>qm5 P f h l (f a x) (h a x ha)
theorem xtf (e: ∀t,0<=(qdg b t).count∧(qdg b t).count<=j) (now:Int) (l:List (Nat×Nat×Nat)) (o:List Pk):TrOk (j+1) (accO b now (accT b now l) o).1:=by
 unfold accO;refine qm5 (λa:MapM Tk TryM×List OutM=>TrOk (j+1) a.1) _ (λa x d=>q78 e d _ _ _ _) o _ ?_;unfold accT;refine qm5 (λa:MapM Tk TryM×List OutM=>TrOk (j+1) a.1) _ (λa x d=> ?_) l _ (λt=>by simp[MapM.get];omega);unfold q2j;split
 ·exact q78 e d _ _ _ _
 ·exact d
theorem BI.tick (H:BI n ss k j b) (now:Int):BI n ss k (j+1) (vh b now n ss):=
 ⟨H.ro,H.se,xmb H.st,by simp only[vh,qx7];exact H.ln,H.qv,H.qw,H.kq,H.qa,H.mw,H.mr,H.ms,jAi _,xtf H.tr now _ _,λx hx=>by simp only[vh,qx7];exact H.rq x hx,by simp only[vh,qx7];exact H.rm⟩
theorem BI.qsm (H:BI n ss k j b) (x:Pr):(b.queue x).Sm:=qo0 (H.qv x)
end
section
variable {n ss k j:Nat} {b:Brk}
def prOf (x:Nat×Nat×Nat):Pr:=⟨x.1,x.2.1,x.2.2⟩
def itP (b:Brk) (x:Nat×Nat×Nat):List (Tk×OutM):=if(yc (b.queue (prOf x))).2=true then [(⟨prOf x,(yc (b.queue (prOf x))).1.seq⟩,⟨x.2.2,(yc (b.queue (prOf x))).1⟩)]else []
def itO (y:Pk):Tk×OutM:=(⟨⟨y.sess,y.from_,-1⟩,y.label⟩,⟨y.from_,y⟩)
def items (b:Brk) (n ss:Nat):List (Tk×OutM):=(za n ss).flatMap (itP b)++(xl b.m).map itO
def valT (b:Brk) (t:Tk) (now:Int):TryM:=if qx2 b t now=true then qr8 (qdg b t) now else qdg b t
def q2o (b:Brk) (now:Int) (a:MapM Tk TryM×List OutM) (i:Tk×OutM):MapM Tk TryM×List OutM:=(a.1.put i.1 (valT b i.1 now),if qx2 b i.1 now=true then a.2++ [i.2]else a.2)
theorem q2p (a:MapM Tk TryM×List OutM) (t:Tk) (now:Int) (x:OutM):qfj b a.1 t now a.2 x=q2o b now a (t,x):=by
 unfold qfj q2o valT;split<;>rfl
theorem qvc {α β γ:Type} (f:γ->β->γ) (g:α->List β) (h:γ->α->γ) (d: ∀a x,h a x=(g x).foldl f a): ∀(l:List α) (a:γ),l.foldl h a=(l.flatMap g).foldl f a
 | [],_=>rfl
 |x::l,a=>by rw[List.foldl_cons,List.flatMap_cons,jCm,d,qvc f g h d l]
theorem qvd (now:Int):accO b now (accT b now (za n ss)) (xl b.m)=(items b n ss).foldl (q2o b now) (⟨[],0⟩,b.p):=by
 unfold items;rw[jCm,List.foldl_map];have h1:accT b now (za n ss)=((za n ss).flatMap (itP b)).foldl (q2o b now) (⟨[],0⟩,b.p):=by
  unfold accT;refine qvc _ _ _ (λa x=> ?_) _ _;unfold q2j itP;show(if(yc (b.queue (prOf x))).2=true then _ else a)=_;split
  ·rw[List.foldl_cons,List.foldl_nil,<- q2p];rfl
  ·rfl
 rw[h1];unfold accO;congr 1;funext a y;exact q2p a _ now _
theorem q2q (now:Int): ∀(l:List (Tk×OutM)) (a:MapM Tk TryM×List OutM),(l.foldl (q2o b now) a).2=a.2++(l.filter λi=>qx2 b i.1 now).map (·.2)
 | [],a=>by simp
 |i::l,a=>by
  rw[List.foldl_cons,q2q now l,List.filter_cons];unfold q2o;split<;>simp_all
theorem q2r (now:Int) (t:Tk): ∀(l:List (Tk×OutM)) (a:MapM Tk TryM×List OutM),(l.foldl (q2o b now) a).1.get t=if t∈l.map (·.1)then some (valT b t now)else a.1.get t
 | [],a=>by simp
 |i::l,a=>by
  rw[List.foldl_cons,q2r now t l];simp only[q2o,MapM.get_put,List.map_cons,jAv];by_cases h:t∈l.map (·.1)
  ·simp[h]
  ·simp only[h,if_false,or_false];by_cases d:t=i.1
   ·subst d;simp
   ·simp[d]
theorem xtg (b:Brk) (now:Int) (n ss:Nat):qcr b now n ss=b.p++((items b n ss).filter λi=>qx2 b i.1 now).map (·.2):=by
 unfold qcr;rw[qvd,q2q]
theorem xqe (b:Brk) (now:Int) (n ss:Nat) (t:Tk):(vh b now n ss).t.get t=if t∈(items b n ss).map (·.1)then some (valT b t now)else none:=by
 unfold vh;simp only;rw[qvd,q2r];rfl
theorem xgm {i:Tk×OutM}:i∈items b n ss↔(∃x∈za n ss,(yc (b.queue (prOf x))).2=true∧i=(⟨prOf x,(yc (b.queue (prOf x))).1.seq⟩,⟨x.2.2,(yc (b.queue (prOf x))).1⟩))∨ ∃y∈xl b.m,i=itO y:=by
 unfold items;rw[jAt,jBi,jAo];constructor
 ·rintro(⟨x,e,hi⟩|⟨y,d,rfl⟩)
  ·unfold itP at hi;split at hi
   ·rename_i h;exact .inl ⟨x,e,h,by simpa using hi⟩
   ·cases hi
  ·exact .inr ⟨y,d,rfl⟩
 ·rintro(⟨x,e,h,rfl⟩|⟨y,d,rfl⟩)
  ·exact .inl ⟨x,e,by unfold itP;rw[if_pos h];simp⟩
  ·exact .inr ⟨y,d,rfl⟩
theorem xgn {q:Qu} (h:(yc q).2=true): ∃p l,q.items=p::l∧yc q=(p,true):=by
 unfold yc at h⊢;split at h
 ·cases h
 ·rename_i p l hi;exact⟨p,l,hi,rfl⟩
theorem xmc (H:BI n ss k j b) {x:Pr} (h:(yc (b.queue x)).2=true):qbj (yc (b.queue x)).1=true∧(yc (b.queue x)).1.key=x∧(yc (b.queue x)).1.seq=(b.queue x).cons+1∧PrOk n ss x:=by
 obtain⟨p,l,hi,hq⟩:=xgn h;have hv:=(qaz _).1 (H.qv x);have h0:0<(b.queue x).items.length:=by rw[hi];simp
 have d:=hv.item 0 h0;have he:(b.queue x).items[0]=p:=by simp[hi]
 rw[he]at d;have i:=H.qa x p (by rw[hi];simp);rw[hq];refine⟨d.1,by unfold Pk.key;rw[i.1,i.2.1,i.2.2],by have:=d.2.2;simp only;omega,?_⟩;refine Classical.byContradiction λe=> ?_;have:=H.kq x e;unfold Brk.queue at hi;rw[this]at hi;simp[noQ]at hi
structure BD (now:Int) (b:Brk):Prop where
 pk: ∀o∈b.p,o.p.kind≠1
 nx: ∀t y,b.t.get t=some y->y.next<=now+64
theorem q5w (c:Int):0<=qdy c∧qdy c<=64:=by
 unfold qdy;repeat' split
 all_goals omega
theorem q5x {p:Pk} (hk:p.kind=1) (hv:qo p=true):qex p=(qr7 p,0):=by
 unfold qex;rw[if_neg];simp[hk,hv]
theorem BD.recv {now:Int} (hn:NS n ss) (H:BI n ss k j b) (d:k<=70) (h:BD now b) (p:Pk) (hw:p.W):BD now (we b p).1:=by
 have q:=qiu hn H d p hw;have m:qo p=true->p.kind=1-> ∀o∈b.p++ [(⟨p.from_,(qex p).1⟩:OutM)],o.p.kind≠1:=λl d o i=>by
  rcases jAt.1 i with i|i
  ·exact h.pk o i
  ·simp only[jAv,jBl,or_false]at i;subst i;rw[q5x d l];show(2:Int)≠1;decide
 generalize we b p=R at q;cases q with
 |no e _ _=>exact h
 |dup d _ _ l _=>exact⟨m l d,h.nx⟩
 |data _ _ d _ _ l _=>exact⟨m l d,h.nx⟩
 |ack _ _ _ _ _ _=>exact⟨h.pk,h.nx⟩
 |rep _ _ _ _=>exact⟨h.pk,h.nx⟩
theorem BD.begin {now:Int} (hn:NS n ss) (H:BI n ss k j b) (hk:k<=70) (h:BD now b) (s:Int):BD now (yj b s).1:=by
 rcases qgz hn H hk s with⟨e,_,d⟩|⟨s',_,_,_,d,_⟩
 ·rw[d];exact h
 ·rw[d];exact⟨h.pk,h.nx⟩
theorem xmd {now d:Int} (h:BD now b) (h0:0<=d) (h1:d<=1000000000) (hle:now<=d) (t:Tk):(valT b t d).next<=d+64:=by
 unfold valT;have hi:=q5w ((qdg b t).count+1);split
 ·simp only[qr8];rw[wrap_i64 (by omega) (by omega)];omega
 ·rename_i e;unfold qx2 at e;cases hg:b.t.get t with
  |none=>rw[hg]at e;simp at e
  |some y=>
   have:=h.nx t y hg;unfold qdg;rw[hg];simp only[Option.getD_some];omega
theorem BD.tick {now d:Int} (h:BD now b) (h0:0<=d) (h1:d<=1000000000) (i:now<=d):BD d (vh b d n ss):=by
 refine⟨λo ho=>by simp[vh]at ho,λt y e=> ?_⟩;rw[xqe]at e;split at e
 ·cases e;exact xmd h h0 h1 i t
 ·cases e
theorem BD.mono {now d:Int} (h:BD now b) (hle:now<=d):BD d b:=⟨h.pk,λt y hy=>by have:=h.nx t y hy;omega⟩
end
end Go.Proofs.YtkcdbcbpbolgkaaGreatDoor
namespace Go.Proofs.YtkcdbcbpbolgkaaGreatDoor
open Tryz
open Go.Abs Go.RowKit
attribute [-go_sem] qfc
attribute [local go_sem] qwx xo1 qwy
def d21d:=cut prog f21 news [61] [] true
@[go_sem] def E21d:=qm d21d
def F21d:=fnC d21d follows func21
def xth:Nat->Code->Code
 |n+1,.seq _ y=>xth n y
 | _,c=>c
noncomputable def xgo:Code:=xth 4 (f21.body.getD .skip)
noncomputable def qsb:SCode:= .seq (.seq (.region (d21d.reg 5) 0 []) (.cond (.t 58) (.seq (.region (d21d.reg 6) 0 []) (.pause .ret)) .skip)) (.seq (.region (d21d.reg 7) 0 []) (.pause .ret))
theorem xbg:zn prog [61] 62 news xgo=some qsb.erase:=by kernel_rfl
def qsc (k:Int):D×Bool:=
 if k=1 then(.func (.func 71) [.ptr 0 0] [],true)else if k=2 then(.func (.func 72) [.ptr 0 0] [],true)else if k=4 then(.func (.func 73) [.ptr 0 0] [],true)else(.nilfunc,false)
def SrY (b:Brk) (p:Pk):St:=⟨[(0,true,.d (.ptr 0 0)),(3,true,.d (.ptr 5 0)),(6,true,.d (qsc p.kind).1),(7,true,.d (.bool (qsc p.kind).2))],brO b++ [.row ((qf p).map .d),.none],[0],1⟩
theorem xti {α:Type} {l:List α} (h:l.length=2): ∃a b,l= [a,b]:=by
 match l,h with
 | [a,b],_=>exact⟨a,b,rfl⟩
theorem xqg {α:Type} {l:List α} (h:l.length=9): ∃a b c d e f g i j,l= [a,b,c,d,e,f,g,i,j]:=by
 match l,h with
 | [a,b,c,d,e,f,g,i,j],_=>exact⟨a,b,c,d,e,f,g,i,j,rfl⟩
def qx8:Nat->Code->Code
 |0,.seq x _=>x
 |n+1,.seq _ y=>qx8 n y
 | _,c=>c
noncomputable def q5y:Code:=f21.body.getD .skip
theorem xbh:q5y= .seq (qx8 0 q5y) (.seq (qx8 1 q5y) (.seq (qx8 2 q5y) (.seq (qx8 3 q5y) xgo))):=by kernel_rfl
def mapW (W:World) (b:Nat) (es:List MapEntry) (c:Nat):World:={W with heap:=W.heap.setIfInBounds b (.map es.toArray c)}
theorem q5z {W:World} {b:Nat} {o:Obj} (es:List MapEntry) (c:Nat) (h:W.heap[b]? =some o):(mapW W b es c).heap[b]? =some (.map es.toArray c):=(MapKept.heap_set h).1
theorem qm6 {W:World} {b k:Nat} (es:List MapEntry) (c:Nat) (h:k≠b):(mapW W b es c).heap[k]? =W.heap[k]? :=by
 simp[mapW,Ne.symm h]
theorem xgp {W:World} {b:Nat} (es:List MapEntry) (c:Nat):(mapW W b es c).heap.size=W.heap.size:=by simp[mapW]
theorem q50 {W:World} {b c:Nat} {es:List MapEntry} (k:Int) (f:Value) (h:W.heap[b]? =some (.map es.toArray c)) (hn:Instr.findNow (.int .i64) (.int .i64 k) es 0=some none):
  (Instr.mapUpdate 165 (.map (some b)) (.int .i64 k) f).run prog W= .ok () (mapW W b (es++ [{key:= .int .i64 k,val:=f,born:=c}]) (c+1)):=by
 have e:(Instr.checkKey false 10000 3 (.int .i64 k)).run prog W= .ok () W:=MapKept.run_checkKey (k:= .int .i64 k) underlying3 (by simp[MapKept.IsKey]) false 9999;have d:=MapKept.run_findKey (P:=prog) (w:=W) underlying3 hn;simp[Instr.mapUpdate,run_underlying underlying165,MapKept.run_getObj_map h,e,d,MapKept.run_setObj_map _ h,Result.andThen,mapW]
theorem qx9 {W:World} {b c:Nat} {es:List MapEntry} (k:Int) (j:Nat) (F:Value) (hh:W.heap[b]? =some (.map es.toArray c)) (hn:Instr.findNow (.int .i64) (.int .i64 k) es 0=some (some (j,F))):
  (Instr.lookup 165 (.map (some b)) (.int .i64 k) true).run prog W= .ok (.tuple #[F,.bool true]) W:=by
 have h: ∀e,(Instr.checkKey e 10000 3 (.int .i64 k)).run prog W= .ok () W:=λe=>MapKept.run_checkKey (k:= .int .i64 k) underlying3 (by simp[MapKept.IsKey]) e 9999;have d:=MapKept.run_findKey (P:=prog) (w:=W) underlying3 hn;simp[Instr.lookup,run_underlying underlying165,MapKept.run_getObj_map hh,h,d,Result.andThen]
theorem xgq {W:World} {b c:Nat} {es:List MapEntry} (k:Int) (hh:W.heap[b]? =some (.map es.toArray c)) (hn:Instr.findNow (.int .i64) (.int .i64 k) es 0=some none):
  (Instr.lookup 165 (.map (some b)) (.int .i64 k) true).run prog W= .ok (.tuple #[.nilFunc,.bool false]) W:=by
 have m: ∀e,(Instr.checkKey e 10000 3 (.int .i64 k)).run prog W= .ok () W:=λe=>MapKept.run_checkKey (k:= .int .i64 k) underlying3 (by simp[MapKept.IsKey]) e 9999;have l:=MapKept.run_findKey (P:=prog) (w:=W) underlying3 hn;have d:(zeroValue 53).run prog W= .ok .nilFunc W:=by
  obtain⟨i,hi,d⟩: ∃i,prog.info? 53=some i∧i.zero=some .nilFunc:=by
   have h:(prog.info? 53).bind (λi=>i.zero)=some .nilFunc:=by kernel_rfl
   exact jEc.1 h
  simp[zeroValue,typeInfo,hi,d]
 simp[Instr.lookup,run_underlying underlying165,MapKept.run_getObj_map hh,m,l,d,Result.andThen]
theorem xbi (b:Brk) (p:Pk) (R:Exit->Act->World->Prop) (g:Ghost) (w:World) (vs:List Value) (hvl:vs.length=2) (hd:Dom g w)
  (hs:SR 62 (below 1) g w (qhl [.d (.ptr 0 0),.d (.agg (qf p))] (brO b)) {tmps:=vs.toArray++Array.replicate (62-vs.toArray.size) undef,defers:= []})
  (hY: ∀g1 w1 a1,SR 62 (below 1) g1 w1 (SrY b p) a1->G g w g1 w1->a1.defers= [] ->xgo.wpIn (Fw none) 0 prog R a1 w1):
  q5y.wpIn (Fw none) 0 prog R {tmps:=vs.toArray++Array.replicate (62-vs.toArray.size) undef,defers:= []} w:=by
 obtain⟨v0,v1,rfl⟩:=xti hvl;simp only[List.size_toArray,List.length_cons,List.length_nil,Nat.reduceAdd,Nat.reduceSub,jFi,jFh,List.push_toArray,jFo,List.nil_append,List.cons_append]at hs⊢;have h0:=wg ((hs.slots 0 true _ rfl).1 rfl);have C:=wg ((hs.slots 1 true _ rfl).1 rfl);simp only[jEs,jD9,jBg,jCw,jCa,jCb,Option.getD_some]at h0 C;cases h0 with
 |ptr bb _ _ hg=>
 generalize hds:qf p=ds at C;cases C with
 |agg us _ hl hcl hr=>
 subst hds;obtain⟨u0,Z,X,U,O,M,J,I,E,rfl⟩:=xqg (hl.trans rfl);have m:u0= .int .i64 p.kind:=by
  have:=hr 0 u0 _ rfl rfl;cases this;rfl
 subst m;rw[xbh];generalize xgo=Y at hY⊢;refine wpIn_seq ?_;conv in (qx8 0 _)=>whnf
 gi_wp2
 conv in (qx8 1 _)=>whnf
 gi_wp2
 conv in (qx8 2 _)=>whnf
 have alloc_at: ∀(W:World) (o:Obj),(W.alloc o).heap[W.heap.size]? =some o:=λW o=>heap_alloc_new W o;have hB:((w.alloc (.cells #[.int .i64 p.kind,Z,X,U,O,M,J,I,E] 33)).alloc (.map #[] 0)).heap[w.heap.size+1]? =some (.map ([]:List MapEntry).toArray 0):=by
  have:=alloc_at (w.alloc (.cells #[.int .i64 p.kind,Z,X,U,O,M,J,I,E] 33)) (.map #[] 0);simpa using this
 have i1:=q50 1 (.func (.func 71) #[.pointer (some ⟨bb,0,none⟩)] #[]) hB rfl;have hB1:=q5z ([]++ [{key:= .int .i64 1,val:= .func (.func 71) #[.pointer (some ⟨bb,0,none⟩)] #[],born:=0}]) 1 hB;have i2:=q50 2 (.func (.func 72) #[.pointer (some ⟨bb,0,none⟩)] #[]) hB1 rfl;have hB2:=q5z ([]++ [{key:= .int .i64 1,val:= .func (.func 71) #[.pointer (some ⟨bb,0,none⟩)] #[],born:=0}]++ [{key:= .int .i64 2,val:= .func (.func 72) #[.pointer (some ⟨bb,0,none⟩)] #[],born:=1}]) 2 hB1;have i3:=q50 4 (.func (.func 73) #[.pointer (some ⟨bb,0,none⟩)] #[]) hB2 rfl;have q:=q5z ([]++ [{key:= .int .i64 1,val:= .func (.func 71) #[.pointer (some ⟨bb,0,none⟩)] #[],born:=0}]++ [{key:= .int .i64 2,val:= .func (.func 72) #[.pointer (some ⟨bb,0,none⟩)] #[],born:=1}]++ [{key:= .int .i64 4,val:= .func (.func 73) #[.pointer (some ⟨bb,0,none⟩)] #[],born:=2}]) 3 hB2;simp only[List.nil_append,List.cons_append,Nat.reduceAdd,Nat.zero_add]at i1 i2 i3 q;gi_wp2_with (first|simp only[run_makeMap,Result.andThen_ok]|simp only[i1,Result.andThen_ok]|simp only[i2,Result.andThen_ok]|simp only[i3,Result.andThen_ok])
 clear i1 i2 i3 hB hB1 hB2;generalize hW:mapW (mapW (mapW _ _ _ _) _ _ _) _ _ _=W at q⊢;have w1:W.heap.size=w.heap.size+2:=by rw[<- hW];simp[xgp]
 have w2: ∀k,k≠w.heap.size+1->W.heap[k]? =(w.alloc (.cells #[.int .i64 p.kind,Z,X,U,O,M,J,I,E] 33)).heap[k]? :=by
  intro k m;rw[<- hW,qm6 _ _ m,qm6 _ _ m,qm6 _ _ m];by_cases z:k<(w.alloc (.cells #[.int .i64 p.kind,Z,X,U,O,M,J,I,E] 33)).heap.size
  ·exact heap_alloc_old _ _ z
  ·rw[jEf (by simp at z⊢;omega),jEf (by omega)]
 have w3:W.os=w.os∧W.tape=w.tape∧W.output=w.output:=by rw[<- hW];exact⟨rfl,rfl,rfl⟩
 have w4:W.heap[w.heap.size]? =some (.cells #[.int .i64 p.kind,Z,X,U,O,M,J,I,E] 33 (0,0)):=by
  rw[w2 _ (by omega)];exact heap_alloc_new w _
 clear hW;have hc:W.cell? ⟨w.heap.size,0,none⟩=some (.int .i64 p.kind):=by simp[World.cell?,w4]
 have hf:W.frozen? ⟨w.heap.size,0,none⟩=false:=by simp[World.frozen?,w4]
 have u: ∀(g':Ghost) (f:FuncId),g' bb= .obj 0->RV g' W (.func (.func f) #[.pointer (some ⟨bb,0,none⟩)] #[]) (.func (.func f) [.ptr 0 0] []):=λg' f l=>
  .func (.func f) [.pointer (some ⟨bb,0,none⟩)] [] [.ptr 0 0] [] rfl rfl (λj v d C h2=>by
   match j with
   |0=>simp at C h2;subst C;subst h2;exact .ptr bb 0 0 l
   |j+1=>simp at C) (λj v d C=>by simp at C)
 have lk: ∃F,(Instr.lookup 165 (.map (some (w.heap.size+1))) (.int .i64 p.kind) true).run prog W= .ok (.tuple #[F,.bool (qsc p.kind).2]) W∧ ∀g':Ghost,g' bb= .obj 0->RV g' W F (qsc p.kind).1:=by
  by_cases k1:p.kind=1
  ·refine⟨_,by rw[k1];exact qx9 1 0 _ q rfl,λg' l=> ?_⟩;rw[k1];exact u g' _ l
  by_cases k2:p.kind=2
  ·refine⟨_,by rw[k2];exact qx9 2 1 _ q rfl,λg' l=> ?_⟩;rw[k2];exact u g' _ l
  by_cases k4:p.kind=4
  ·refine⟨_,by rw[k4];exact qx9 4 2 _ q rfl,λg' l=> ?_⟩;rw[k4];exact u g' _ l
  ·have hp:qsc p.kind=(.nilfunc,false):=by unfold qsc;rw[if_neg k1,if_neg k2,if_neg k4]
   have e1:(p.kind==1)=false:=by simpa using k1
   have e2:(p.kind==2)=false:=by simpa using k2
   have e4:(p.kind==4)=false:=by simpa using k4
   refine⟨.nilFunc,by rw[hp];exact xgq p.kind q (by simp only[Instr.findNow,Instr.sameNow,e1,e2,e4,if_true]),λg' l=> ?_⟩;rw[hp];exact .nilfunc
 obtain⟨F,lk,hF⟩:=lk;clear q u;conv in (qx8 3 _)=>whnf
 gi_wp2_with (simp only[lk,Result.andThen_ok])
 obtain⟨wo,wt,wu⟩:=w3;have s1:=hs.grow 2;obtain⟨hG1,s2⟩:=s1.newObj (id:=5) (new:=(qf p).map .d) (vs:= [.int .i64 p.kind,Z,X,U,O,M,J,I,E]) (e:=33) rfl (by simp[qf]) (λi s hi=>by
  rw[jAn,jAb]at hi;obtain⟨d,hd',rfl⟩:=hi;have z:i<9:=by have:=(jAd.1 hd').1;simpa[qf]using this
  have hv: ∃v,([.int .i64 p.kind,Z,X,U,O,M,J,I,E]:List Value)[i]? =some v:=⟨_,jAa (by simpa using z)⟩;obtain⟨v,hv⟩:=hv;have hrv:=hr i v d hv hd';exact⟨v,hv,hrv.oneCell (hcl d (jAe hd')),hrv⟩) (λs hm t ht=>by
  obtain⟨d,_,rfl⟩:=jAo.1 hm;simp[ASlot.toks]at ht)
 have hBout: ∀k,(g.at w.heap.size (.obj 5)) k≠ .out->k≠w.heap.size+1:=by
  rintro k m rfl;rw[Ghost.at_ne g _ (by omega)]at m;exact m (hd.1 _ (by omega))
 have s3:=s2.still (w':=W) (λk m=>w2 k (hBout k m)) (by rw[w1];simp);have hbb:bb≠w.heap.size:=λh=>by
  rw[h,hd.1 _ (jAh _)]at hg;cases hg
 have l:(g.at w.heap.size (.obj 5)) bb= .obj 0:=by rw[Ghost.at_ne g _ hbb];exact hg
 have hbox:(g.at w.heap.size (.obj 5)) w.heap.size= .obj 5:=Ghost.at_same _ _ _;refine hY (g.at w.heap.size (.obj 5)) W _ (SR.plain (fr:=(SrY b p).fr) s3 rfl rfl λk d m=> ?_) (hG1.beyond wo wt wu (by rw[w1];simp) λk r m _ _=>w2 k (by omega)) rfl;simp only[SrY,Fr.get]at m;split at m
 ·rename_i h;subst h;cases m;exact .ptr bb 0 0 l
 split at m
 ·rename_i h;subst h;cases m;exact .ptr _ 0 5 hbox
 split at m
 ·rename_i h;subst h;cases m;exact hF _ l
 split at m
 ·rename_i h;subst h;cases m;exact .bool _
 ·cases m
end Go.Proofs.YtkcdbcbpbolgkaaGreatDoor
namespace Go.Proofs.YtkcdbcbpbolgkaaGreatDoor
open Tryz
open Go.Abs
attribute [-go_sem] qfc
def QrB (b:Brk) (p:Pk):SExit->St->Prop:=q3n 5 [.tmp 4] [.d (.int .i64 (we b p).2.1)] (afB b (we b p).1 (we b p).2.2)
theorem xqh {k:Int} (h:qce k=false):qsc k=(.nilfunc,false):=by
 simp only[qce,jA4,beq_eq_false_iff_ne]at h;unfold qsc;rw[if_neg h.1.1,if_neg h.1.2,if_neg h.2]
theorem qiv {b:Brk} {p:Pk} (h:qce p.kind=true):(!qc6 b p)=(!qo p||decide (p.sess>b.sess)||decide (p.from_≥b.roles)||decide (p.to≥b.roles)):=by
 unfold qc6
 rw[h]
 generalize qo p=A
 generalize decide (p.sess>b.sess)=B
 generalize decide (p.from_≥b.roles)=C
 generalize decide (p.to≥b.roles)=E
 cases A<;>cases B<;>cases C<;>cases E<;>rfl
theorem xgr (b:Brk) (p:Pk) (R:Brk×Int×Bool) (q:p.kind=1) (hp:p.Sm) (l:R=qjb b p.key p.key.name p)
  (kd:qc6 b p=true->qh prog 71 [.d (.ptr 0 0),.d (.agg (qf p))] (brO b) (.d (.int .i64 R.2.1)) (afB b R.1 R.2.2)):AWp prog 5 qsb (QrB b p) (SrY b p):=by
 have t:we b p=if !qc6 b p then(b,1,false)else R:=by unfold we;rw[if_pos q,l]
 have o:qsc p.kind=(.func (.func 71) [.ptr 0 0] [],true):=by rw[q];rfl
 have m:=zu p hp.v hp.c;have i:qce p.kind=true:=by rw[q];rfl
 unfold QrB qsb;rw[t,qiv i];simp only[SrY,o];simp only[qf]at m;refine eo7 @brO.eq_1 @qp.eq_1 @stoO.eq_1 @mapO.eq_1 @qmO.eq_1 @tmO.eq_1 @qf.eq_1 ?_;first|refine cl F70 (m) ?_|refine clF F70 (m) (λ_=>by exact et3 @qf.eq_1 @xk.eq_1 @qr.eq_1) ?_
 refine eo ?_;refine xp _ (λh=> ?_) (λh=> ?_)
 ·rw[if_pos h];refine ez ?_;refine pu ?_;simp only[afB,qp,stoO,mapO,qmO,tmO,go_sem,simprocAttr]
 rw[if_neg (by rw[h];exact jEd)];have kd:=kd (by have e:=qiv (b:=b) i;rw[h]at e;simpa using e);simp only[brO,qp,stoO,mapO,qmO,tmO,qf]at kd;clear t l;obtain⟨b1,e1,c⟩:=R;simp only[afB,qp,stoO,mapO,qmO,tmO]at kd⊢;refine ez ?_;cases c
 ·refine clT [0,1,2,3,4,6] F71d kd ?_;refine ez ?_;refine pu ?_;simp only[afB,qp,stoO,mapO,qmO,tmO,go_sem,simprocAttr]
 ·refine clT [0,1,2,3,4,6] F71d kd ?_;refine ez ?_;refine qbc [0,1,2,3,4,6,5] [.row (xt b1 592),stoO b1.s 5,mapO b.s.m,qmO b1.q,tmO b1.t,mapO b1.s.m,.row ((qf p).map .d)] ?_ (by exact et6 @xt.eq_1 @mapO.eq_1 @stoO.eq_1 @qmO.eq_1 @tmO.eq_1 @qf.eq_1) (hp:=rfl);refine pu ?_;simp only[afB,qp,xt,stoO,mapO,qmO,tmO,go_sem,simprocAttr]
theorem xme (b:Brk) (p:Pk) (R:Brk×Int×Bool) (t:p.kind=2) (hp:p.Sm) (l:R=qx4 b p.key p.key.name p.seq)
  (kd:qc6 b p=true->qh prog 72 [.d (.ptr 0 0),.d (.agg (qf p))] (brO b) (.d (.int .i64 R.2.1)) (afB b R.1 R.2.2)):AWp prog 5 qsb (QrB b p) (SrY b p):=by
 have q: ¬p.kind=1:=by omega
 have u:we b p=if !qc6 b p then(b,1,false)else R:=by unfold we;rw[if_neg q,if_pos t,l]
 have o:qsc p.kind=(.func (.func 72) [.ptr 0 0] [],true):=by rw[t];rfl
 have m:=zu p hp.v hp.c;have i:qce p.kind=true:=by rw[t];rfl
 unfold QrB qsb;rw[u,qiv i];simp only[SrY,o];simp only[qf]at m;refine eo7 @brO.eq_1 @qp.eq_1 @stoO.eq_1 @mapO.eq_1 @qmO.eq_1 @tmO.eq_1 @qf.eq_1 ?_;first|refine cl F70 (m) ?_|refine clF F70 (m) (λ_=>by exact et3 @qf.eq_1 @xk.eq_1 @qr.eq_1) ?_
 refine eo ?_;refine xp _ (λh=> ?_) (λh=> ?_)
 ·rw[if_pos h];refine ez ?_;refine pu ?_;simp only[afB,qp,stoO,mapO,qmO,tmO,go_sem,simprocAttr]
 rw[if_neg (by rw[h];exact jEd)];have kd:=kd (by have e:=qiv (b:=b) i;rw[h]at e;simpa using e);simp only[brO,qp,stoO,mapO,qmO,tmO,qf]at kd;clear u l;obtain⟨b1,e1,c⟩:=R;simp only[afB,qp,stoO,mapO,qmO,tmO]at kd⊢;refine ez ?_;cases c
 ·refine clT [0,1,2,3,4,6] F72d kd ?_;refine ez ?_;refine pu ?_;simp only[afB,qp,stoO,mapO,qmO,tmO,go_sem,simprocAttr]
 ·refine clT [0,1,2,3,4,6] F72d kd ?_;refine ez ?_;refine qbc [0,1,2,3,4,6,5] [.row (xt b1 592),stoO b1.s 5,mapO b.s.m,qmO b1.q,tmO b1.t,mapO b1.s.m,.row ((qf p).map .d)] ?_ (by exact et6 @xt.eq_1 @mapO.eq_1 @stoO.eq_1 @qmO.eq_1 @tmO.eq_1 @qf.eq_1) (hp:=rfl);refine pu ?_;simp only[afB,qp,xt,stoO,mapO,qmO,tmO,go_sem,simprocAttr]
theorem xmf (b:Brk) (p:Pk) (R:Brk×Int×Bool) (u:p.kind=4) (hp:p.Sm) (l:R=qdz b p)
  (kd:qc6 b p=true->qh prog 73 [.d (.ptr 0 0),.d (.agg (qf p))] (brO b) (.d (.int .i64 R.2.1)) (afB b R.1 R.2.2)):AWp prog 5 qsb (QrB b p) (SrY b p):=by
 have t: ¬p.kind=1:=by omega
 have q: ¬p.kind=2:=by omega
 have v:we b p=if !qc6 b p then(b,1,false)else R:=by unfold we;rw[if_neg t,if_neg q,l]
 have o:qsc p.kind=(.func (.func 73) [.ptr 0 0] [],true):=by rw[u];rfl
 have m:=zu p hp.v hp.c;have i:qce p.kind=true:=by rw[u];rfl
 unfold QrB qsb;rw[v,qiv i];simp only[SrY,o];simp only[qf]at m;refine eo7 @brO.eq_1 @qp.eq_1 @stoO.eq_1 @mapO.eq_1 @qmO.eq_1 @tmO.eq_1 @qf.eq_1 ?_;first|refine cl F70 (m) ?_|refine clF F70 (m) (λ_=>by exact et3 @qf.eq_1 @xk.eq_1 @qr.eq_1) ?_
 refine eo ?_;refine xp _ (λh=> ?_) (λh=> ?_)
 ·rw[if_pos h];refine ez ?_;refine pu ?_;simp only[afB,qp,stoO,mapO,qmO,tmO,go_sem,simprocAttr]
 rw[if_neg (by rw[h];exact jEd)];have kd:=kd (by have e:=qiv (b:=b) i;rw[h]at e;simpa using e);simp only[brO,qp,stoO,mapO,qmO,tmO,qf]at kd;clear v l;obtain⟨b1,e1,c⟩:=R;simp only[afB,qp,stoO,mapO,qmO,tmO]at kd⊢;refine ez ?_;cases c
 ·refine clT [0,1,2,3,4,6] F73d kd ?_;refine ez ?_;refine pu ?_;simp only[afB,qp,stoO,mapO,qmO,tmO,go_sem,simprocAttr]
 ·refine clT [0,1,2,3,4,6] F73d kd ?_;refine ez ?_;refine qbc [0,1,2,3,4,6,5] [.row (xt b1 592),stoO b1.s 5,mapO b.s.m,qmO b1.q,tmO b1.t,mapO b1.s.m,.row ((qf p).map .d)] ?_ (by exact et6 @xt.eq_1 @mapO.eq_1 @stoO.eq_1 @qmO.eq_1 @tmO.eq_1 @qf.eq_1) (hp:=rfl);refine pu ?_;simp only[afB,qp,xt,stoO,mapO,qmO,tmO,go_sem,simprocAttr]
theorem xqi (b:Brk) (p:Pk) (d:qce p.kind=false):AWp prog 5 qsb (QrB b p) (SrY b p):=by
 have hR:we b p=(b,1,false):=by
  unfold we qc6;rw[d];rfl
 unfold QrB qsb;rw[hR];simp only[SrY,xqh d];refine eo7 @brO.eq_1 @qp.eq_1 @stoO.eq_1 @mapO.eq_1 @qmO.eq_1 @tmO.eq_1 @qf.eq_1 ?_;refine xda ?_;refine eo ?_;refine qa2 ?_;refine ez ?_;refine pu ?_;simp only[afB,qp,stoO,mapO,qmO,tmO,go_sem,simprocAttr]
theorem xgs {n ss k j:Nat} {b:Brk} (hn:NS n ss) (H:BI n ss k j b) (hk70:k<=70) (p:Pk) (hp:p.Sm) (hw:p.W):AWp prog 5 qsb (QrB b p) (SrY b p):=by
 by_cases hok:qce p.kind=true
 ·have E:b.s.file.length<=100000000:=by
   have M:=H.st.file;exact jBj M (jBj (jAy 70000 (show k+401<=471 by omega)) (by decide))
  have hP:b.p.length<=1000000:=by have:=H.pl;omega
  have U: ∀(a q:Qu) (F:List UInt8),(kz a q F).1.length<=100000:=λa q F=>by
   unfold kz;split
   ·simp
   ·have:=qfz a q F 4;simp only;omega
  have d: ∀{x:Int},0<=x-> ∃m:Nat,x=(m:Int):=λh=>⟨_,(jEt h).symm⟩;have h6:=hn.n6;have h32:=hn.s32;by_cases I:p.kind=1
  ·refine xgr b p _ I hp rfl λu=> ?_;have i:=qo3 H u (.inl I);obtain⟨s,hs⟩:=d (show 0<=p.sess by have:=i.s1;simp only[Pk.key]at this;omega);obtain⟨f,C⟩:=d (show 0<=p.from_ by have:=i.f0;simp only[Pk.key]at this;omega);obtain⟨t,v⟩:=d (show 0<=p.to by have:=i.t0;simp only[Pk.key]at this;omega);have e:p.key=⟨(s:Int),(f:Int),(t:Int)⟩:=by simp only[Pk.key,hs,C,v]
   have b1:=i.s2;have b2:=i.f1;have b3:=i.t1;simp only[e]at b1 b2 b3;have:=xgj b p s f t (by omega) (by omega) (by omega) hs C v hp (H.qsm _) (H.qw _) (qo0 (qgy _ _)) (q5u (H.qw _) hw) E hP (U _ _ _);have o:p.key.name=jp s f t:=by rw[e];rfl
   rw[o,e];exact this
  by_cases G:p.kind=2
  ·refine xme b p _ G hp rfl λu=> ?_;have i:=qo3 H u (.inr G);obtain⟨s,hs⟩:=d (show 0<=p.sess by have:=i.s1;simp only[Pk.key]at this;omega);obtain⟨f,C⟩:=d (show 0<=p.from_ by have:=i.f0;simp only[Pk.key]at this;omega);obtain⟨t,v⟩:=d (show 0<=p.to by have:=i.t0;simp only[Pk.key]at this;omega);have e:p.key=⟨(s:Int),(f:Int),(t:Int)⟩:=by simp only[Pk.key,hs,C,v]
   have b1:=i.s2;have b2:=i.f1;have b3:=i.t1;simp only[e]at b1 b2 b3;have:=xl7 b p s f t (by omega) (by omega) (by omega) hs C v (H.qsm _) (H.qw _) (qo0 (qgx _ p.seq)) (q2k (H.qw _)) E (U _ _ _);have o:p.key.name=jp s f t:=by rw[e];rfl
   rw[o,e];exact this
  ·have O:p.kind=4:=by
    simp only[qce,jA1,beq_iff_eq]at hok;rcases hok with(h|h)|h
    ·exact absurd h I
    ·exact absurd h G
    ·exact h
   refine xmf b p _ O hp rfl λu=> ?_;have hv:qo p=true:=by simp only[qc6,jAf]at u;exact u.1.1.1.2
   obtain⟨z,J⟩:=xnr O hv;by_cases R:(xr b.m p).2=0
   ·have l:OneStep b.m (xr b.m p).1:=by
     have:=qu4 (s:=p.sess) (r:=p.from_) (label:=p.label) H.mw J (by rw[<- z];exact R);rwa [<- z]at this
    refine qsa b p hp H.mw.sm l.mw.sm E ?_;obtain⟨y,_,M⟩:=l.one;rw[l.changes H.mw,M];simp
   ·have X:(xr b.m p).1=⟨0,[]⟩:=by
     revert R;unfold xr;split
     ·intro _;rfl
     split
     ·intro _;rfl
     split
     ·intro _;rfl
     split
     ·intro _;rfl
     ·intro h;exact absurd rfl h
    refine qsa b p hp H.mw.sm (by rw[X];exact⟨by simp,by simp⟩) E ?_;rw[X];unfold jd;split
    ·simp
    split
    ·simp
    ·simp[qr4]
 ·exact xqi b p (by simpa using hok)
theorem qsd {n ss k j:Nat} {b:Brk} (hn:NS n ss) (H:BI n ss k j b) (h:k<=70) (p:Pk) (hp:p.Sm) (hw:p.W):
  qh prog 21 [.d (.ptr 0 0),.d (.agg (qf p))] (brO b) (.d (.int .i64 (we b p).2.1)) (afB b (we b p).1 (we b p).2.2):=by
 refine qwo (rs:= [.d (.int .i64 (we b p).2.1)]) (c:=q5y) (rv:=f21.results.toList) (rvs:= [.tmp 4]) func21 (by kernel_rfl) (by simp) (by kernel_rfl) (Nat.le_of_ble_eq_true (by kernel_rfl)) rfl ?_ ?_
 ·intro t ht;have:ltB 16 (ve [ASlot.d (.ptr 0 0),.d (.agg (qf p))]++xf (brO b))=true:=by simp only[brO,qp,stoO,mapO,qmO,tmO,go_sem];rfl
  exact of_decide_eq_true (jAx.1 this t ht)
 ·intro g w vs i hd hs h0;refine xbi b p _ g w vs i hd hs λg1 w1 a1 l u o=> ?_;exact qzo (k0:=5) (mu:= [61]) (N:=62) (news:=news) follows h0 rfl xgo qsb (QrB b p) _ (SrY b p) g1 w1 a1 xbg (xgs hn H h p hp hw) l u (by rw[o];exact⟨by simp,by simp⟩) λe st' g' w' a' hq m v q=>⟨e,st',g',rfl,hq,m,v,q⟩
end Go.Proofs.YtkcdbcbpbolgkaaGreatDoor
namespace Go.Proofs.YtkcdbcbpbolgkaaGreatDoor
open Tryz
open Go.Abs
def d12:=cut prog f12 news
@[go_sem] def E12:=qm d12
def F12:=fnC d12 follows func12
def d37:=cut prog f37 news
@[go_sem] def E37:=qm d37
def F37:=fnC d37 follows func37
def d60:=cut prog f60 news
@[go_sem] def E60:=qm d60
def F60:=fnC d60 follows func60
structure Bst where
 kind:Int
 p:Pk
 n:Int
 deriving DecidableEq,Inhabited
def vi (x:Bst):List D:= [.int .i64 x.kind,.int .i64 x.p.kind,.int .i64 x.p.sess,.int .i64 x.p.epoch,.int .i64 x.p.from_,.int .i64 x.p.to,.int .i64 x.p.seq,.int .i64 x.p.label,.sl 3 (x.p.values.map xw),.sl 1 (x.p.clock.map encI),.int .i64 x.n]
theorem qn4 (x:Bst):D.noPtrL (vi x)=true:=by exact et1 @vi.eq_1
theorem qve: ∀l:List Bst,D.noPtrR (l.map vi)=true
 | []=>rfl
 |o::l=>by simp only[List.map_cons,D.noPtrR,qn4,qve l,jBu]
attribute [go_sem] qn4 qve
def qvf (x:Bst):Bool:= !(!qoe x.p||decide (x.n<0)||decide (x.n>1000))
def fewB (l:List Bst):Bool:=l.all qvf&&decide ((l.length:Int)<=40)
def xmg (l:List Bst) (i:{i:Nat//(l.take i).all qvf=true}):St:=
 ⟨[(0,true,.d (.sl 11 (l.map vi))),(3,true,.d (.int .i64 (i.val:Nat)))],[],[],1⟩
theorem xqj (l:List Bst) (hl:l.length<=maxLen) (hx: ∀x∈l,x.p.values.length<=maxLen):qh prog 12 [.d (.sl 11 (l.map vi))] [] (.d (.bool (fewB l))) []:=by
 unfold maxLen at hl;refine F12.go ?_;refine ez ?_;refine qk (xmg l) (λi=>l.length-i.val) ⟨0,rfl⟩ ?_ (λi=> ?_)
 ·exact et2 @xmg.eq_1 @jAp
 obtain⟨i,hi⟩:=i;refine eo1 @xmg.eq_1 ?_;refine xp _ (λh=> ?_) (λh=> ?_)
 ·have e:i<l.length:=by simpa using h
  have o:=xj7 l[i].p (hx _ (jAg e));simp only[qf]at o;refine eo2 (qj vi l e) @vi.eq_1 ?_
  (repeat(with_reducible refine ob ?_));first|refine cl F36 (o) ?_|refine clF F36 (o) (λ_=>by exact et2 @qf.eq_1 @encQ.eq_1) ?_
  simp only[qj vi l e,vi,go_sem,simprocAttr]
  (repeat(with_reducible refine ob ?_))
  refine xp _ (λq=> ?_) (λq=> ?_)
  ·have hb:fewB l=false:=by
    unfold fewB;rw[qq4 e (by simp only[qvf,q,jEq])];rfl
   exact et1 @hb
  ·refine ez ?_;refine⟨⟨i+1,?_⟩,?_,by dsimp only;omega⟩
   ·rw[jAk e,List.all_append,hi];simp only[jCy,List.all_nil,qvf,q,jDm,jBu]
   ·exact et2 @xmg.eq_1 (qg (show i<9223372036854775807 by omega))
 ·have e:l.length<=i:=by simpa using h
  have m:l.all qvf=true:=by rwa [jAr e]at hi
  have hb:fewB l=decide ((l.length:Int)<=40):=by unfold fewB;rw[m];rfl
  exact et1 @hb
def kk (a:Nat):Nat:=1+a%4
theorem qvg (a c:Nat) (e:a<256) (hc:c<256):qh prog 37 [.d (.agg [.int .u8 (a:Nat),.int .u8 (c:Nat)])] [] (.tup [.d (.int .i64 (kk a:Nat)),.d (.int .i64 (kk c:Nat))]) []:=by
 have w1: ∀a:Nat,a<256->IntKind.i64.wrap (1+(IntKind.i64.wrap (a:Int)).tmod 4)=((kk a:Nat):Int):=λa e=>by
  rw[wrap_i64 (n:=(a:Int)) (by omega) (by omega),jBd (by omega),wrap_i64 (by omega) (by omega)];unfold kk;omega
 have wa:=w1 a e;have wc:=w1 c hc;refine F37.goT ?_;exact et2 @wa @wc
def wh (s:Int):Pk:=⟨1,1,0,0,1,s,s%40,[],[s,0]⟩
theorem q2s:qh prog 60 [.d (.int .i64 1)] [] (.d (.agg (qf (wh 1)))) []:=by
 refine F60.go ?_;refine ez5 @qf.eq_1 @wh.eq_1 @encI.eq_1 @List.map_cons.{0,0} @List.map_nil.{0,0} ?_;try decide
def qg0 (b:Brk) (it:Nat):List ASlot:= [.d (.int .i64 b.roles),.d (.int .i64 b.sess),.d (.ptr 1 0),.d (.map 3),.d (.int .i64 b.m.roles),.d (.sl 4 (b.m.ents.map ql)),.own 0 10 (b.p.map xk),.d (.map it)]
def tkO (b b':Brk):List AObj:= [.row (qg0 b' 5),stoO b'.s 2,mapO b'.s.m,qmO b'.q,tmO b.t,tmO b'.t]
def tkN (b b':Brk):List AObj:= [.row (k9 b' 5),stoO b'.s 2,mapO b'.s.m,qmO b'.q,tmO b.t,tmO b'.t]
theorem q79 {n ss k j:Nat} {b:Brk} (hn:NS n ss) (H:BI n ss k j b) (hk:k<=70) (hj:j<=1000) (now:Int):
  qh prog 14 [.d (.ptr 0 0),.d (.int .i64 now)] (brO b) (.own 1 10 ((qcr b now n ss).map xk)) (tkN b (vh b now n ss)):=by
 have hpl:=H.pl;have h:=hn.n6;have e:=hn.s32;have hp:=qva n ss;have hq:ss*(n*n)<=32*(6*6):=jD4 e (jD4 h h);have ho:=qvb H.mw;have m: ∀l,(accT b now l).2.length<=b.p.length+l.length:=q76 b now;refine xl5 b now n ss h e H.ro H.se H.qsm (λt=>⟨(H.tr t).1,by have:=(H.tr t).2;omega⟩) (λi=> ?_) H.mw.sm (λi=> ?_) (by omega) H.st.good ?_
 ·have:=m ((za n ss).take i);have:=List.length_take_le i (za n ss);have:((za n ss).take i).length<=(za n ss).length:=List.length_take_le' _ _;omega
 ·have o:=q77 b now (accT b now (za n ss)) ((xl b.m).take i);have h2:=m (za n ss);have h3:((xl b.m).take i).length<=(xl b.m).length:=List.length_take_le' _ _;omega
 ·have o:=H.st.file;exact jBj o (jBj (jAy 70000 (show k+401<=471 by omega)) (by decide))
theorem qse {n ss k j:Nat} {b:Brk} (hn:NS n ss) (H:BI n ss k j b) (hk:k<=70) (hj:j<=1000) (now:Int):
  qh prog 14 [.d (.ptr 0 0),.d (.int .i64 now)] (brO b) (.own 1 10 ((qcr b now n ss).map xk)) (tkO b (vh b now n ss)):=
 qwp 6 0 10 (q79 hn H hk hj now) rfl (by simp[ASlot.toks]) (by simp[xf,AObj.cells,k9,ASlot.toks,stoO,mapO,qmO,tmO]) (by simp[stoO,mapO,qmO,tmO]) (λl h=>by cases h)
theorem qya {b:Brk} {m:Pk} (h1:yc (b.queue ⟨1,0,1⟩)=(m,true)) (hs:m.seq=1) (h2:(yc (b.queue ⟨1,1,0⟩)).2=false) (h3:xl b.m= []) (now:Int):
  accO b now (accT b now (za 2 1)) (xl b.m)=qfj b ⟨[],0⟩ ⟨⟨1,0,1⟩,1⟩ now b.p ⟨1,m⟩:=by
 have hp:za 2 1= [(1,0,1),(1,1,0)]:=by decide
 have e3:((1:Nat):Int)=1:=rfl;have e0:((0:Nat):Int)=0:=rfl;rw[h3,hp];simp only[accO,List.foldl_nil,accT,List.foldl_cons,q2j,e3,e0,h1,h2,hs,if_true,jAw,if_false]
def awB (s':Sto):Brk:={zl 2 1 with s:=s',q:=(zl 2 1).q.put ⟨1,0,1⟩ ⟨1,0,[wh 1]⟩,p:= [⟨0,qr7 (wh 1)⟩]}
theorem xmh:NS 2 1:=⟨by decide,by decide,by decide,by decide⟩
theorem xqk:(wh 1).W:=by
 refine⟨λx d=> ?_,λx d=>by simp[wh]at d,λx d=> ?_⟩
 ·simp[kx,wh]at d;unfold I64;omega
 ·simp[wh]at d;unfold I64;omega
theorem xgt:(wh 1).Sm:=⟨by simp[wh],by simp[wh]⟩
theorem xbj: ∃s' c,we (zl 2 1) (wh 1)=(awB s',0,c)∧BI 2 1 1 0 (awB s'):=by
 have hr:=qiu xmh (qu9 xmh) (by decide) (wh 1) xqk;have hok:qc6 (zl 2 1) (wh 1)=true:=by decide
 have d:(zk noQ (wh 1))=(⟨1,0,[wh 1]⟩,0):=by decide
 have h:qex (wh 1)=(qr7 (wh 1),0):=by decide
 have hx:PrOk 2 1 (wh 1).key:=⟨by decide,by decide,by decide,by decide,by decide,by decide,by decide⟩;have hq:(zl 2 1).queue (wh 1).key=noQ:=rfl;have H0:BI 2 1 0 0 (zl 2 1):=qu9 xmh;obtain⟨s',c,e,H'⟩:=H0.change xmh (by decide) hx (qgy noQ (wh 1)) (q5u qo1 xqk) (λp hp=>by rw[d]at hp;simp at hp;subst hp;exact⟨rfl,rfl,rfl⟩);refine⟨s',c,?_,?_⟩
 ·have h0:qaq (zl 2 1) (wh 1).key (wh 1).key.name (wh 1)=({zl 2 1 with s:=s',q:=(zl 2 1).q.put (wh 1).key (zk noQ (wh 1)).1},0,c):=by
   unfold qaq;rw[hq,if_pos (by rw[d])];exact e
  unfold we qjb;rw[if_neg (by simp[hok]),if_pos (show(wh 1).kind=1 from rfl),h0,if_pos (.inl rfl)];simp only[qfb,h,d];rfl
 ·have:=(H'.ack (b:={zl 2 1 with s:=s',q:=(zl 2 1).q.put (wh 1).key (zk noQ (wh 1)).1}) (by simp[zl]) (wh 1));simp only[qfb,h,d]at this;exact this
theorem awq (s':Sto) (x:Pr):(awB s').queue x=if x=⟨1,0,1⟩then⟨1,0,[wh 1]⟩else noQ:=qet (zl 2 1) s' ⟨1,0,1⟩ x _
def aw1 (s':Sto):Brk:=vh (awB s') 0 2 1
def aw2 (s':Sto):Brk:=vh (aw1 s') 7 2 1
theorem qyb (s':Sto):yc ((awB s').queue ⟨1,0,1⟩)=(wh 1,true):=by rw[awq,if_pos rfl];rfl
theorem q51 (s':Sto):(yc ((awB s').queue ⟨1,1,0⟩)).2=false:=by rw[awq,if_neg (by decide)];rfl
theorem xgu:xl (zl 2 1).m= []:=by decide
theorem xtj (s':Sto):accO (awB s') 0 (accT (awB s') 0 (za 2 1)) (xl (awB s').m)=(⟨[(0,⟨⟨1,0,1⟩,1⟩,⟨1,8⟩)],1⟩,[⟨0,qr7 (wh 1)⟩,⟨1,wh 1⟩]):=by
 rw[qya (qyb s') rfl (q51 s') xgu];rfl
theorem xux (s':Sto):(aw1 s').t=⟨[(0,⟨⟨1,0,1⟩,1⟩,⟨1,8⟩)],1⟩:=congrArg Prod.fst (xtj s')
theorem xtk (s':Sto):accO (aw1 s') 7 (accT (aw1 s') 7 (za 2 1)) (xl (aw1 s').m)=(⟨[(0,⟨⟨1,0,1⟩,1⟩,⟨1,8⟩)],1⟩,[]):=by
 rw[qya (b:=aw1 s') (qyb s') rfl (q51 s') xgu];unfold qfj qx2 qdg;rw[xux];rfl
theorem xuy (s':Sto):(aw2 s').t=⟨[(0,⟨⟨1,0,1⟩,1⟩,⟨1,8⟩)],1⟩:=congrArg Prod.fst (xtk s')
theorem xuz (s':Sto):(accO (aw2 s') 8 (accT (aw2 s') 8 (za 2 1)) (xl (aw2 s').m)).2= [⟨1,wh 1⟩]:=by
 rw[qya (b:=aw2 s') (qyb s') rfl (q51 s') xgu];unfold qfj qx2 qdg;rw[xuy];rfl
structure Pk.I (p:Pk):Prop where
 h: ∀x∈kx p,I64 x
 v: ∀x∈p.values,I64 x.kind∧I64 x.n
 c: ∀x∈p.clock,I64 x
theorem xu0 {p:Pk} (hi:p.I) (h:qoe p=true):p.W:=by
 unfold qoe at h;simp only[jAf,jAx]at h;refine⟨hi.h,λx d=>⟨(hi.v x d).1,(hi.v x d).2,?_⟩,hi.c⟩;have:=h.1 x d;simp only[qhs,jBa,decide_eq_false_iff_not]at this;omega
theorem xtl {p:Pk} (h:qoe p=true):p.Sm:=by
 unfold qoe at h;simp only[jAf,decide_eq_true_eq]at h;exact⟨by omega,by omega⟩
theorem xhh {n:Nat} {d:List D} (h:Shp prog (n+1) 3 d): ∃x,d=encI x∧I64 x:=xs4 h
theorem xu1 {n:Nat} {d:List D} (h:Shp prog (n+2) 158 d): ∃v:AV,d=xw v∧I64 v.kind∧I64 v.n:=by
 simp only[Shp,underlying158,qz1,underlying3,underlying9]at h;obtain⟨_,_,rfl,⟨a,rfl,ha⟩,_,_,rfl,⟨b,rfl,hb⟩,_,_,rfl,⟨c,rfl,hc⟩,rfl⟩:=h;exact⟨⟨a,b,c⟩,rfl,xfu ha,xfu hb⟩
theorem xmi:prog.cellsOf 158=3:=by kernel_rfl
theorem xgv:prog.cellsOf 3=1:=by kernel_rfl
theorem xql {n:Nat} {m:List D} (h:Shp prog (n+4) 90 m): ∃p:Pk,m=qf p∧p.I∧p.values.length<=maxLen:=by
 rw[Shp]at h;simp only[underlying90,qz1]at h;obtain⟨_,_,rfl,h1,_,_,rfl,h2,_,_,rfl,h3,_,_,rfl,h4,_,_,rfl,h5,_,_,rfl,h6,_,_,rfl,h7,_,_,rfl,e,_,_,rfl,d,rfl⟩:=h;obtain⟨a1,rfl,i1⟩:=xhh h1;obtain⟨a2,rfl,i2⟩:=xhh h2;obtain⟨a3,rfl,i3⟩:=xhh h3;obtain⟨a4,rfl,i4⟩:=xhh h4;obtain⟨a5,rfl,i5⟩:=xhh h5;obtain⟨a6,rfl,i6⟩:=xhh h6;obtain⟨a7,rfl,i7⟩:=xhh h7;rw[Shp]at e d;simp only[underlying30,underlying31]at e d;obtain⟨r8,rfl,l8,e⟩:=e;obtain⟨r9,rfl,l9,d⟩:=d;obtain⟨vs,rfl,iv⟩:=qmx λr i=>xu1 (e r i);obtain⟨ns,rfl,ic⟩:=qmx λr i=>xhh (d r i);refine⟨⟨a1,a2,a3,a4,a5,a6,a7,vs,ns⟩,by rw[xmi,xgv];rfl,⟨λx l=> ?_,iv,ic⟩,by simpa using l8⟩;simp only[kx,jAv,jBl,or_false]at l;rcases l with rfl|rfl|rfl|rfl|rfl|rfl|rfl<;>assumption
theorem xbk:prog.cellsOf 127=11:=by kernel_rfl
theorem xqm {n:Nat} {d:List D} (h:Shp prog (n+5) 127 d): ∃x:Bst,d=vi x∧x.p.I∧x.p.values.length<=maxLen:=by
 rw[Shp]at h;simp only[underlying127,qz1]at h;obtain⟨_,_,rfl,h1,_,_,rfl,h2,_,_,rfl,h3,rfl⟩:=h;obtain⟨a1,rfl,_⟩:=xhh h1;obtain⟨p,rfl,hp⟩:=xql h2;obtain⟨a3,rfl,_⟩:=xhh h3;exact⟨⟨a1,p,a3⟩,rfl,hp⟩
theorem xmj {n:Nat} {d:List D} (h:Shp prog (n+7) 24 d): ∃l:List Bst,d= [.sl 11 (l.map vi)]∧l.length<=maxLen∧ ∀x∈l,x.p.I∧x.p.values.length<=maxLen:=by
 rw[Shp]at h;simp only[underlying24]at h;obtain⟨r,rfl,hl,h⟩:=h;obtain⟨l,rfl,hx⟩:=qmx λr hr=>xqm (h r hr);exact⟨l,by rw[xbk],by simpa using hl,hx⟩
theorem xmk (l:List Bst):argS prog 24 [.sl 11 (l.map vi)]= .d (.sl 11 (l.map vi)):=by simp only[argS,underlying24];rfl
def xtm (a c:Nat):List D:= [.int .u8 (a:Nat),.int .u8 (c:Nat)]
theorem xqn {n:Nat} {d:List D} (h:Shp prog (n+2) 23 d): ∃a c:Nat,d=xtm a c∧a<256∧c<256:=by
 rw[Shp]at h;simp only[underlying23,qz1]at h;obtain⟨_,_,rfl,h1,_,_,rfl,h2,rfl⟩:=h;obtain⟨a1,rfl,i1⟩:=xp1 h1;obtain⟨a2,rfl,i2⟩:=xp1 h2;exact⟨a1,a2,rfl,i1,i2⟩
theorem xqo (a c:Nat):argS prog 23 (xtm a c)= .d (.agg [.int .u8 (a:Nat),.int .u8 (c:Nat)]):=by simp only[argS,underlying23];rfl
attribute [-go_sem] qfc
def d13d:=cut prog f13 news [20,42,54,63] [14,15] true
@[go_sem] def E13d:=qm d13d
theorem q8a {n ss k j:Nat} {b:Brk} (hn:NS n ss) (H:BI n ss k j b) (hk70:k<=70) (s:Int):
  qh prog 41 [.d (.ptr 0 0),.d (.int .i64 s)] (brO b) (.d (.int .i64 (yj b s).2.1)) (afB b (yj b s).1 (yj b s).2.2):=by
 have m:b.s.file.length<=100000000:=by
  have i:=H.st.file;exact jBj i (jBj (jAy 70000 (show k+401<=471 by omega)) (by decide))
 by_cases l:(jc b.m s).2=0
 ·have e:=q2g H.mw l;refine qu8 b s H.mw.sm e.mw.sm m ?_;obtain⟨y,_,i⟩:=e.one;rw[e.changes H.mw,i];simp
 ·have o:(jc b.m s).1=⟨0,[]⟩:=by
   revert l;unfold jc;split
   ·intro _;rfl
   split
   ·intro _;rfl
   split
   ·intro _;rfl
   ·intro h;exact absurd rfl h
  refine qu8 b s H.mw.sm (by rw[o];exact⟨by simp,by simp⟩) m ?_;rw[o];unfold jd;split
  ·simp
  split
  ·simp
  ·simp[qr4]
structure BstOk (x:Bst):Prop where
 w:x.p.W
 sm:x.p.Sm
 n0:0<=x.n
 n1:x.n<=1000
def d11d:=cut prog f11 news [8,19,21,23,25]
@[go_sem] def E11d:=qm d11d
def F11d:=fnC d11d follows func11
theorem qvh:qh prog 11 [] [] (.d (.bool true)) []:=by
 obtain⟨s',c,p,H1⟩:=xbj;have H2:=H1.tick 0;have H3:=H2.tick 7;have k0:=qx3 2 1 (by decide);have h:=qsd xmh (qu9 xmh) (by decide) (wh 1) xgt xqk;have q:zl ((2:Nat):Int) ((1:Nat):Int)=zl 2 1:=rfl;rw[q,p]at h;have i:=qse xmh H1 (by decide) (by decide) 0;have e:=qse xmh H2 (by decide) (by decide) 7;have m:=qse xmh H3 (by decide) (by decide) 8;have l:=q2s;have o:=qmc (wh 1) (wh 1) xgt.v xgt.c;simp only[qf,wh,decide_true]at o;have v:qcr (awB s') 0 2 1= [⟨0,qr7 (wh 1)⟩,⟨1,wh 1⟩]:=congrArg Prod.snd (xtj s');have u:qcr (aw1 s') 7 2 1= []:=congrArg Prod.snd (xtk s');have t:qcr (aw2 s') 8 2 1= [⟨1,wh 1⟩]:=xuz s';rw[v]at i;rw[show vh (awB s') 0 2 1=aw1 s' from rfl]at i e;rw[u]at e;rw[show vh (aw1 s') 7 2 1=aw2 s' from rfl]at e;rw[show vh (vh (awB s') 0 2 1) 7 2 1=aw2 s' from rfl,t]at m;generalize vh (aw2 s') 8 2 1=b3 at m;clear H1 H2 H3 v u t p q;generalize awB s'=b0 at h i;generalize aw1 s'=b1 at i e;generalize aw2 s'=b2 at e m;simp only[brO,tkO,qp,qg0,stoO,mapO,qmO,tmO,List.map_cons,List.map_nil]at k0 h i e m;refine F11d.go ?_;refine ez ?_;refine clT [0,1,2,3,4] F45n k0 ?_;refine eo ?_;refine no_ ?_;refine eo ?_
 first|refine cl F60 (l) ?_|refine clF F60 (l) (λ_=>by exact et2 @qf.eq_1 @xk.eq_1) ?_
 refine ez ?_;cases c
 ·simp only[afB,qp,stoO,mapO,qmO,tmO]at h;refine clT [0,1,2,3,4,5] F21d h ?_;refine ez ?_;refine clT [0,1,2,3,4,6] F14t i ?_;refine ez ?_;refine clT [0,1,2,3,6,7] F14t e ?_;refine ez ?_;refine clT [0,1,2,3,7,8] F14t m ?_;refine eo5 @List.map_nil.{0,0} @xk.eq_1 @qr7.eq_1 @qf.eq_1 @wh.eq_1 ?_;first|refine cl F60 (l) ?_|refine clF F60 (l) (λ_=>by exact et2 @qf.eq_1 @xk.eq_1) ?_
  refine eo2 @qf.eq_1 @wh.eq_1 ?_;first|refine cl F17 (o) ?_|refine clF F17 (o) (λ_=>by exact et2 @qf.eq_1 @xk.eq_1) ?_
  exact et1 @List.map_nil.{0,0}
 ·simp only[afB,qp,stoO,mapO,qmO,tmO]at h;refine clT [0,1,2,3,4,5] F21d h ?_;refine ez ?_;refine clT [0,1,5,3,4,6] F14t i ?_;refine ez ?_;refine clT [0,1,5,3,6,7] F14t e ?_;refine ez ?_;refine clT [0,1,5,3,7,8] F14t m ?_;refine eo5 @List.map_nil.{0,0} @xk.eq_1 @qr7.eq_1 @qf.eq_1 @wh.eq_1 ?_;first|refine cl F60 (l) ?_|refine clF F60 (l) (λ_=>by exact et2 @qf.eq_1 @xk.eq_1) ?_
  refine eo2 @qf.eq_1 @wh.eq_1 ?_;first|refine cl F17 (o) ?_|refine clF F17 (o) (λ_=>by exact et2 @qf.eq_1 @xk.eq_1) ?_
  exact et1 @List.map_nil.{0,0}
def d16d:=cut prog f16 news [] [] true
@[go_sem] def E16d:=qm d16d
def F16d:=fnC d16d follows func16
def d19d:=cut prog f19 news [] [] true
@[go_sem] def E19d:=qm d19d
def F19d:=fnC d19d follows func19
def xn (b:Brk) (x:D):List ASlot:= [.d (.int .i64 b.roles),.d (.int .i64 b.sess),.d (.ptr 1 0),.d (.map 3),.d (.int .i64 b.m.roles),.d (.sl 4 (b.m.ents.map ql)),.d x,.d (.map 4)]
def brX (b:Brk) (x:D):List AObj:= [.row (xn b x),stoO b.s 2,mapO b.s.m,qmO b.q,tmO b.t]
def SqF (b:Brk) (x:D) (q:Qu) (i:{i:Nat//i<=q.items.length}):St:=
 ⟨[(8,true,.d (.ptr 5 0)),(9,true,.d (.ptr 6 0)),(34,true,.d (.sl 9 (q.items.map qf))),(35,true,.d (.int .i64 q.items.length)),(36,true,.d (.int .i64 (i.val:Nat)))],
  [.row (xn b x),stoO b.s 2,mapO b.s.m,qmO b.q,tmO b.t,.row [.d (.int .i64 0),.d (.int .i64 0),.d .nilsl],.row [.d (.int .i64 q.acc),.d (.int .i64 q.cons),.own 0 9 ((q.items.take i.val).map qf)]],[0],1⟩
theorem q2v (b:Brk) (x:D) (hx:x.noPtr=true) (s f t:Int) (m:(b.queue ⟨s,f,t⟩).Sm):
  qh prog 16 [.d (.ptr 0 0),.d (.int .i64 s),.d (.int .i64 f),.d (.int .i64 t)] (brX b x) (.d (.agg (encQ (b.queue ⟨s,f,t⟩)))) (brX b x):=by
 have hl:=m.1;have l:b.queue ⟨s,f,t⟩=(b.q.get ⟨s,f,t⟩).getD noQ:=rfl;generalize b.queue ⟨s,f,t⟩=q at m hl l⊢;refine F16d.go ?_;refine eo7 @hx @brX.eq_1 @xn.eq_1 @stoO.eq_1 @mapO.eq_1 @qmO.eq_1 @tmO.eq_1 ?_;refine no_ ?_;refine ez ?_;cases hc:b.q.get ⟨s,f,t⟩with
 |none=>
  rw[hc]at l;subst l;simp only[hc,lkQ,qj2,encQ,noQ,go_sem,simprocAttr];refine qk (λ_:Unit=>SqF b x noQ ⟨0,jAi _⟩) (λ_=>0) () ?_ (λ_=> ?_)
  ·simp only[hx,SqF,noQ,xn,stoO,mapO,qmO,tmO,List.map_nil,List.take_nil,List.length_nil,jAp,go_sem,simprocAttr]
  simp only[hx,SqF,noQ,xn,stoO,mapO,qmO,tmO,List.map_nil,List.take_nil,List.length_nil,jAp,go_sem,simprocAttr]
  (repeat(with_reducible refine ob ?_));refine no_ ?_
  refine ez ?_;refine pu ?_;simp only[hx,encQ,noQ,Option.getD_none,List.map_nil,xn,stoO,mapO,qmO,tmO,go_sem,simprocAttr]
 |some q'=>
  rw[hc]at l;simp only[Option.getD_some]at l;subst l;simp only[hc,lkQ,qj2,encQ,encQ,go_sem,simprocAttr];refine qk (SqF b x q) (λi=>(q).items.length-i.val) ⟨0,jAi _⟩ ?_ (λi=> ?_)
  ·exact et8 @hx @SqF.eq_1 @encQ.eq_1 @xn.eq_1 @stoO.eq_1 @mapO.eq_1 @qmO.eq_1 @tmO.eq_1
  ·obtain⟨i,hi⟩:=i;refine eo7 @hx @SqF.eq_1 @xn.eq_1 @stoO.eq_1 @mapO.eq_1 @qmO.eq_1 @tmO.eq_1 ?_;refine xp _ (λh=> ?_) (λh=> ?_)
   ·have e:i<(q).items.length:=by simpa using h
    have hp:=m.2 _ (jAg e);have hp1:=hp.1;have hp2:=hp.2;simp only[qj qf (q).items e,qf,go_sem,simprocAttr]
    (repeat(with_reducible refine ob ?_))
    refine⟨⟨i+1,e⟩,?_,by dsimp only;omega⟩;simp only[hx,SqF,wn qf (q).items e,qf,qg (show i<9223372036854775807 by omega),xn,stoO,mapO,qmO,tmO,go_sem,simprocAttr]
   ·have e:i=(q).items.length:=by simp at h;omega
    subst e;refine ez1 @jAs.{0} ?_;refine pu ?_;exact et7 @hx @encQ.eq_1 @xn.eq_1 @stoO.eq_1 @mapO.eq_1 @qmO.eq_1 @tmO.eq_1
def SmF (b:Brk) (x:D) (i:{i:Nat//i<=b.m.ents.length}):St:=
 ⟨[(2,true,.d (.ptr 5 0)),(3,true,.d (.ptr 6 0)),(19,true,.d (.sl 4 (b.m.ents.map ql))),(20,true,.d (.int .i64 b.m.ents.length)),(21,true,.d (.int .i64 (i.val:Nat)))],
  [.row (xn b x),stoO b.s 2,mapO b.s.m,qmO b.q,tmO b.t,.row [.d (.int .i64 0),.d .nilsl],.row [.d (.int .i64 b.m.roles),.own 0 4 ((b.m.ents.take i.val).map ql)]],[0],1⟩
theorem qsf (b:Brk) (x:D) (hx:x.noPtr=true) (l:b.m.Sm):qh prog 19 [.d (.ptr 0 0)] (brX b x) (.d (.agg (qu b.m))) (brX b x):=by
 have hl:=l.1;refine F19d.go ?_;refine eo7 @hx @brX.eq_1 @xn.eq_1 @stoO.eq_1 @mapO.eq_1 @qmO.eq_1 @tmO.eq_1 ?_;refine no_ ?_;refine ez ?_;refine qk (SmF b x) (λi=>b.m.ents.length-i.val) ⟨0,jAi _⟩ ?_ (λi=> ?_)
 ·exact et7 @hx @SmF.eq_1 @xn.eq_1 @stoO.eq_1 @mapO.eq_1 @qmO.eq_1 @tmO.eq_1
 ·obtain⟨i,hi⟩:=i;refine eo7 @hx @SmF.eq_1 @xn.eq_1 @stoO.eq_1 @mapO.eq_1 @qmO.eq_1 @tmO.eq_1 ?_;refine xp _ (λh=> ?_) (λh=> ?_)
  ·have e:i<b.m.ents.length:=by simpa using h
   have hp:=l.2 _ (jAg e);have hp1:=hp.1;have hp2:=hp.2;simp only[qj ql b.m.ents e,ql,go_sem,simprocAttr]
   (repeat(with_reducible refine ob ?_))
   refine⟨⟨i+1,e⟩,?_,by dsimp only;omega⟩;simp only[hx,SmF,wn ql b.m.ents e,ql,qg (show i<9223372036854775807 by omega),xn,stoO,mapO,qmO,tmO,go_sem,simprocAttr]
  ·have e:i=b.m.ents.length:=by simp at h;omega
   subst e;refine ez1 @jAs.{0} ?_;refine pu ?_;exact et7 @hx @qu.eq_1 @xn.eq_1 @stoO.eq_1 @mapO.eq_1 @qmO.eq_1 @tmO.eq_1
theorem q8b (b:Brk) (x:D) (hx:x.noPtr=true) (hf:b.s.file.length<=1000000000):qh prog 38 [.d (.ptr 0 0)] (brX b x) (.d (.agg (v7 b.s.file b.s.synced))) (brX b x):=by
 have e:=xd5 b.s hf;simp only[mapO,stoO]at e;refine F38.go ?_;refine eo7 @hx @brX.eq_1 @xn.eq_1 @stoO.eq_1 @mapO.eq_1 @qmO.eq_1 @tmO.eq_1 ?_;refine no_ ?_;refine ez ?_;simp only[v7]at e
 (repeat(with_reducible refine ob ?_));refine clO [1,2] F62 (e) ?_ (hfit:=by first|exact⟨qd,trivial⟩|exact⟨qd,qd,trivial⟩|(refine ev5 @qf.eq_1 @encQ.eq_1 @ql.eq_1 @qu.eq_1 @xk.eq_1 ?_;try exact⟨⟩))
 exact et2 @hx @v7.eq_1
def brF (b:Brk):List AObj:= [.row (xn b (.sl 10 (b.p.map xk))),stoO b.s 2,mapO b.s.m,qmO b.q,tmO b.t]
theorem qsg (b:Brk):(D.sl 10 (b.p.map xk)).noPtr=true:=by simp only[D.noPtr,qm3]
theorem qsh (b:Brk) (s f t:Int) (hq:(b.queue ⟨s,f,t⟩).Sm):qh prog 16 [.d (.ptr 0 0),.d (.int .i64 s),.d (.int .i64 f),.d (.int .i64 t)] (brF b) (.d (.agg (encQ (b.queue ⟨s,f,t⟩)))) (brF b):=q2v b _ (qsg b) s f t hq
theorem q52 (b:Brk) (hm:b.m.Sm):qh prog 19 [.d (.ptr 0 0)] (brF b) (.d (.agg (qu b.m))) (brF b):=qsf b _ (qsg b) hm
theorem xmm (b:Brk) (hf:b.s.file.length<=1000000000):qh prog 38 [.d (.ptr 0 0)] (brF b) (.d (.agg (v7 b.s.file b.s.synced))) (brF b):=q8b b _ (qsg b) hf
end Go.Proofs.YtkcdbcbpbolgkaaGreatDoor
