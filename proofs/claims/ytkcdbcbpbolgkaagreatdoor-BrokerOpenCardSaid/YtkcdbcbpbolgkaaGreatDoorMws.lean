/- Texts Gh, Gi, Gj, Gk, Gl, Tb, Tc, Ta, Ka, Kc, Kp, Tj, Kg, Kh, Ki, Kd, Kf, Ke, Kj, Kq, Kn, Km, Lb, Lg, Kl, Ko, Ks, Kt, Kw, La, Ku. -/
import Derived.Test.YtkcdbcbpbolgkaaGreatDoorMwr
set_option linter.unusedSimpArgs false
set_option linter.unusedVariables false
set_option linter.defProp false
set_option maxRecDepth 100000
noncomputable section
namespace Go.Proofs.YtkcdbcbpbolgkaaGreatDoor
open Tryz
open Go.Abs
def d74b:=cut prog f74 news [42] [9,10] true
@[go_sem] def E74b:=qj d74b
theorem qjd: ∀l:List Ue,qay (jy l)=true
 | []=>rfl
 |x::l=>by
  rw[zt];have:=qjd l;exact et1 @this
theorem qs9 (ι:List Nat): ∀l:List Ue,(jy l).map (ASlot.ren1 ι)=jy l
 | []=>rfl
 |x::l=>by
  rw[zt];have:=qs9 ι l;exact et2 @List.map_cons.{0,0} @this
attribute [go_sem] qjd qs9
theorem xjt (l:List Ue): ∀r∈l.map qu,r.length=4:=by
 intro r hr;obtain⟨x,_,rfl⟩:=jAo.1 hr;rfl
def newE (d s:Int):Ue:=⟨s,1,List.replicate d.toNat false,List.replicate d.toNat false⟩
def jg (m:Mg) (s:Int):Mg×Int:=
 if !jc m then(⟨0,[]⟩,1)else if decide (s<1)||decide (s>32)then(⟨0,[]⟩,2)else if(xj m s).2 then(⟨0,[]⟩,9)
 else(⟨m.roles,m.ents.take (xj m s).1++ [newE m.roles s]++m.ents.drop (xj m s).1⟩,0)
theorem qep {m:Mg} (h:jc m=true):1<=m.roles∧m.roles<=6:=by
 simp only[jc,jAf,decide_eq_true_eq]at h;exact h.2
def d75b:=cut prog f75 news [] [16] true
@[go_sem] def E75b:=qj d75b
def F75b:=fnC d75b follows func75
def vu (p:Pk) (x:Ue):Ue:=
 if p.label==2 then{x with opened:=x.opened.set p.from_.toNat true}else{x with moved:=x.moved.set p.from_.toNat true}
def qaz (x:Ue):Ue:={x with phase:=jb x}
def qdl (p:Pk) (x:Ue):List Bool:=if p.label==2 then x.opened else x.moved
def x8 (m:Mg) (p:Pk):Mg×Int:=
 if !jc m||p.kind !=4|| !qm p||decide (p.from_≥m.roles)then(⟨0,[]⟩,1)
 else if !(xj m p.sess).2 then(⟨0,[]⟩,8)
 else if(qdl p (m.ents.getD (xj m p.sess).1 default)).getD p.from_.toNat false then(⟨0,[]⟩,21)
 else if p.label==2&&(m.ents.getD (xj m p.sess).1 default).phase==1 then(⟨0,[]⟩,7)
 else(⟨m.roles,m.ents.set (xj m p.sess).1 (qaz (vu p (m.ents.getD (xj m p.sess).1 default)))⟩,0)
theorem qn5 {s:ASlot} (hs:qay [s]=true): ∀(l:List ASlot) (i:Nat),qay l=true->qay (l.set i s)=true
 | [],_,h=>h
 | _::l,0,h=>by
  rw[List.set_cons_zero];simp only[qay,jAf]at h hs⊢;exact⟨hs.1,h.2⟩
 |x::l,i+1,h=>by
  rw[List.set_cons_succ];simp only[qay,jAf]at h⊢;exact⟨h.1,qn5 hs l i h.2⟩
theorem q8e {l:List Ue} {k a b:Nat} {x:Ue}:qay (refA (jy l) k a b x)=true:=qn5 rfl _ _ (qn5 rfl _ _ (qjd l))
theorem qta: ∀l:List Bool,qay (l.map λb=> .d (.bool b))=true
 | []=>rfl
 |x::l=>by
  have:=qta l;exact et2 @List.map_cons.{0,0} @this
theorem xp9 (ι:List Nat) (l:List Bool):(l.map λb=>ASlot.d (.bool b)).map (ASlot.ren1 ι)=l.map λb=> .d (.bool b):=by
 rw[jEa];rfl
theorem xqa {l:List Ue} {k:Nat} {x:Ue} (ι:List Nat) (a b:Nat):(refA (jy l) k a b x).map (ASlot.ren1 ι)=refA (jy l) k (ι.getD a 0) (ι.getD b 0) x:=by
 rw[refA,jDz,jDz,qs9];rfl
attribute [go_sem] q8e qta xp9 xqa
theorem xx4 {l:List Ue} {k a b j:Nat} {x:Ue} (hk:k<l.length) (hj:j<2):(refA (jy l) k a b x).getD (k*4+j) .bad= .d ((qu l[k]).getD j .nilsl):=by
 rw[jA1,refA,jBj (by omega),jBj (by omega),qiv l k j hk (by omega)];rfl
theorem xjv {l:List Ue} {k a b:Nat} {x:Ue} (hk:k<l.length):(refA (jy l) k a b x).getD (k*4+1) .bad= .d (.int .i64 l[k].phase):=xx4 hk (by decide)
theorem qzm {l:List Ue} {k a b:Nat} {x:Ue} (hk:k<l.length):(refA (jy l) k a b x).getD (k*4+2) .bad= .d (.ref a 0 1 x.moved.length):=by
 have hf:=qfh l;rw[jA1,refA,jBj (by omega),jBv (by omega)];rfl
theorem qzn {l:List Ue} {k a b:Nat} {x:Ue} (hk:k<l.length):(refA (jy l) k a b x).getD (k*4+3) .bad= .d (.ref b 0 1 x.opened.length):=by
 have hf:=qfh l;rw[jA1,refA,jBv (by rw[jCh];omega)];rfl
theorem xaz {l:List Bool} {i:Nat} (h:i<l.length):(l.map λb=>ASlot.d (.bool b)).getD i .bad= .d (.bool (l.getD i false)):=by
 rw[jA1,jAn,jA1,jAa h];rfl
theorem qmx (l:List Bool) (i:Nat) (b:Bool):(l.map λb=>ASlot.d (.bool b)).set i (.d (.bool b))=(l.set i b).map λb=> .d (.bool b):=by rw[jDz]
theorem xx5 {m:Mg} {p:Pk} (h:(!jc m||p.kind !=4|| !qm p||decide (p.from_≥m.roles))=false):jc m=true∧p.kind=4∧qm p=true∧p.from_<m.roles∧0<=p.from_:=by
 simp only[jA4,jCf,bne_eq_false_iff_eq,decide_eq_false_iff_not]at h;obtain⟨⟨⟨h1,e⟩,d⟩,h4⟩:=h;refine⟨h1,e,d,by omega,?_⟩;simp[qm,order,role,e]at d;omega
theorem qj3 {m:Mg} (h:jc m=true) {k:Nat} (d:k<m.ents.length):(m.ents[k].moved.length:Int)=m.roles∧(m.ents[k].opened.length:Int)=m.roles∧m.ents[k].phase=jb m.ents[k]:=by
 simp only[jc,jAf]at h;have:=zh.1 h.1 k d;simp only[qfg,zp d,jBd,jA4,bne_eq_false_iff_eq]at this;exact⟨this.1.1.1.2,this.1.1.2,this.2⟩
theorem qo8 (id es e:Nat) (rows r:List (List D)) (h:D.noPtrR r=true):((ASlot.d (.sl e r)).frz id es rows).only (neId id)= .d (.sl e r):=by simp only[ASlot.frz,D.frz,ASlot.only,ASlot.okS,D.okW,D.okWR_noPtr h,if_true]
theorem q4i (id es:Nat) (rows:List (List D)): ∀l:List Ue,(jy l).map (λs=>(s.frz id es rows).only (neId id))=jy l
 | []=>rfl
 |x::l=>by
  rw[zt,List.map_cons,List.map_cons,List.map_cons,List.map_cons,q4i id es rows l,qo8 _ _ _ _ _ (qaj _),qo8 _ _ _ _ _ (qaj _)];rfl
theorem qzo (l:List Ue) (i j:Nat) (u v:ASlot) (id es:Nat) (rows:List (List D)):(((jy l).set i u).set j v).map (λs=>(s.frz id es rows).only (neId id))=((jy l).set i ((u.frz id es rows).only (neId id))).set j ((v.frz id es rows).only (neId id)):=by
 rw[jDz,jDz,q4i]
theorem xa0 (l:List Ue) (k a b:Nat) (x:Ue) (id es:Nat) (rows:List (List D)):(refA (jy l) k a b x).map (λs=>(s.frz id es rows).only (neId id))=
  ((jy l).set (k*4+2) (((ASlot.d (.ref a 0 1 x.moved.length)).frz id es rows).only (neId id))).set (k*4+3) (((ASlot.d (.ref b 0 1 x.opened.length)).frz id es rows).only (neId id)):=qzo ..
theorem qp9 (l:List Bool) (id es:Nat) (rows:List (List D)):(l.map λb=>ASlot.d (.bool b)).map (λs=>(s.frz id es rows).only (neId id))=l.map λb=> .d (.bool b):=by
 rw[jEa];rfl
theorem qdh (l:List Bool):(l.map λb=>ASlot.d (.bool b)).map ASlot.cellD=(l.map encB).flatten:=by
 induction l with
 |nil=>rfl
 |cons b l ih=>simp only[List.map_cons,List.flatten_cons,encB,List.cons_append,List.nil_append,ih];rfl
theorem qhr (l:List Bool):(l.map λb=>ASlot.d (.bool b)).all ASlot.isCellD=true:=by
 rw[List.all_map];exact jAx.2 λb _=>rfl
theorem qhs (l:List Bool): ∀r∈l.map encB,r.length=1:=by
 intro r hr;obtain⟨x,_,rfl⟩:=jAo.1 hr;rfl
theorem qtb (l:List Ue):(jy l).map ASlot.cellD=(l.map qu).flatten:=by
 induction l with
 |nil=>rfl
 |cons x l ih=>rw[zt];simp only[List.map_cons,List.flatten_cons,qu,List.cons_append,List.nil_append,ih];rfl
theorem q4j (l:List Ue):(jy l).all ASlot.isCellD=true:=by
 induction l with
 |nil=>rfl
 |cons x l ih=>rw[zt];simp only[jCx,ih];rfl
theorem qn6: ∀(l:List Ue) (k:Nat) (y:Ue) (e:k<l.length),y.sess=l[k].sess->y.phase=l[k].phase->
  ((jy l).set (k*4+2) (.d (.sl 1 (y.moved.map encB)))).set (k*4+3) (.d (.sl 1 (y.opened.map encB)))=jy (l.set k y)
 |x::l,0,y,_,h1,h2=>by
  simp only[List.getElem_cons_zero]at h1 h2;rw[List.set_cons_zero,zt,zt,h1,h2];rfl
 |x::l,k+1,y,e,h1,h2=>by
  rw[List.set_cons_succ,zt,zt,<- qn6 l k y (by simpa using e) (by simpa using h1) (by simpa using h2),show(k+1)*4+2=(k*4+2)+1+1+1+1 by omega,show(k+1)*4+3=(k*4+3)+1+1+1+1 by omega];simp only[List.set_cons_succ]
theorem qfm: ∀(l:List Ue) (k:Nat) (y:Ue),k<l.length->(jy (l.set k y)).set (k*4+1) (.d (.int .i64 (jb y)))=jy (l.set k (qaz y))
 |x::l,0,y,_=>by
  rw[List.set_cons_zero,List.set_cons_zero,zt,zt];rfl
 |x::l,k+1,y,hk=>by
  rw[List.set_cons_succ,List.set_cons_succ,zt,zt,<- qfm l k y (by simpa using hk),show(k+1)*4+1=(k*4+1)+1+1+1+1 by omega];simp only[List.set_cons_succ]
theorem qn7: ∀(l:List Ue) (k:Nat) (y:Ue),k<l.length->((jy (l.set k y)).drop (k*4)).take 4= [.d (.int .i64 y.sess),.d (.int .i64 y.phase),.d (.sl 1 (y.moved.map encB)),.d (.sl 1 (y.opened.map encB))]
 |x::l,0,y,_=>by
  rw[List.set_cons_zero,zt];rfl
 |x::l,k+1,y,hk=>by
  rw[List.set_cons_succ,zt,<- qn7 l k y (by simpa using hk),show(k+1)*4=k*4+1+1+1+1 by omega];simp only[jCs]
theorem q4k {m:Mg} {s:Int} (h:(xj m s).2=true):(xj m s).1<m.ents.length:=by
 unfold xj at h⊢;split at h
 ·rename_i d;rw[if_pos d];exact(qnn d).2
 ·cases h
theorem qla (m:Mg) (p:Pk) (hm:m.Sm) (hp:p.Sm):qf Tryz.prog 75 [.d (.agg (xt m)),.d (.agg (qi p))] [] (.tup [.d (.agg (xt (x8 m p).1)),.d (.int .i64 (x8 m p).2)]) []:=by
 have hl:=hm.1
 refine F75b.goT ?_
 refine eo2 @xt.eq_1 @qi.eq_1 ?_
 refine cl F69 (qdd m hm) ?_
 refine eo ?_
 (repeat(with_reducible refine ob ?_));refine cl F70 (wh p hp.v hp.c) ?_
 refine eo ?_
 refine xf _ (fun h=> ?_) (fun h=> ?_)
 ·have hb:x8 m p=(⟨0,[]⟩,1):=by simp only[x8,h,if_true]
  refine ez2 @hb @List.map_nil.{0,0} ?_
  refine pu ?_
  exact et
 have h0:=h
 refine eo ?_
 refine cl F77 (qiu m p.sess hm) ?_
 refine eo ?_
 refine xf _ (fun h=> ?_) (fun h=> ?_)
 ·have hb:x8 m p=(⟨0,[]⟩,8):=by simp only[x8,h0,h];rfl
  refine ez2 @hb @List.map_nil.{0,0} ?_
  refine pu ?_
  exact et
 have h1:=h
 have hk:(xj m p.sess).1<m.ents.length:=q4k (by simpa using h)
 have hx:=hm.2 _ (jAg hk)
 obtain⟨r1,r2,r3,r4,r5⟩:=xx5 h0
 obtain⟨v1,v2,_⟩:=qj3 r1 hk
 have h7:=q7k m hm _ hk
 have hfl:=qfh m.ents
 have hu:x8 m p=(if(qdl p m.ents[(xj m p.sess).1]).getD p.from_.toNat false then(⟨0,[]⟩,21)
   else if p.label==2&&m.ents[(xj m p.sess).1].phase==1 then(⟨0,[]⟩,7)
   else(⟨m.roles,m.ents.set (xj m p.sess).1 (qaz (vu p m.ents[(xj m p.sess).1]))⟩,0)):=by
  simp only[x8,h0,h1,zp hk];rfl
 rw[hu]
 clear hu
 refine ez ?_
 refine clO [3,4,5,6,7] xxh h7 ?_ (hfit:=by first|exact⟨qo,trivial⟩|(refine ev1 @xt.eq_1 ?_;try exact⟨⟩))
 clear h7
 generalize (xj m p.sess).1=k at hk hx v1 v2⊢
 refine eo ?_
 refine xf _ (fun hl2=> ?_) (fun hl2=> ?_)
 ·simp only[qdl,vu,hl2,if_true,jCr]
  try simp only[qzm hk,qzn hk,go_sem,simprocAttr]
  (repeat(with_reducible refine ob ?_))
  try simp only[qzm hk,qzn hk,jCo,xaz (l:=m.ents[k].opened) (i:=p.from_.toNat) (by omega),go_sem,simprocAttr]
  refine xf _ (fun h3=> ?_) (fun h3=> ?_)
  ·refine ez2 @h3 @List.map_nil.{0,0} ?_
   refine pu ?_
   exact et
  try simp only[xjv hk,go_sem,simprocAttr]
  (repeat(with_reducible refine ob ?_))
  refine xf _ (fun h4=> ?_) (fun h4=> ?_)
  ·have h4':(m.ents[k].phase==1)=true:=by simpa[hl2]using h4
   refine ez4 @h3 @h4' @hl2 @List.map_nil.{0,0} ?_
   refine pu ?_
   exact et
  have h4':(m.ents[k].phase==1)=false:=by simpa[hl2]using h4
  simp only[h3,h4',jAw,if_false]
  refine eo4 @h3 @hl2 @jCo @qmx ?_
  have hy: ∀y:Ue,y={m.ents[k]with opened:=m.ents[k].opened.set p.from_.toNat true} ->y.Sm:=by rintro y rfl;exact⟨by simpa using hx.1,by simpa using hx.2⟩
  generalize hyd:{m.ents[k]with opened:=m.ents[k].opened.set p.from_.toNat true}=y at hy⊢
  have hys:y.sess=m.ents[k].sess:=by rw[<- hyd]
  have hyp:y.phase=m.ents[k].phase:=by rw[<- hyd]
  have hym:m.ents[k].moved=y.moved:=by rw[<- hyd]
  have hyo:m.ents[k].opened.set p.from_.toNat true=y.opened:=by rw[<- hyd]
  have hml:m.ents[k].moved.length=y.moved.length:=by simp[<- hyd]
  have hol:m.ents[k].opened.length=y.opened.length:=by simp[<- hyd]
  simp only[hml,hol,hym,hyo]
  refine qio 6 1 (y.moved.map encB) ?_ (qdh _) (qhr _) (qhs _) (D.okWR_noPtr (qaj _))
  simp only[qov,Fr.mapS,List.map_cons,List.map_nil,AObj.mapS,xa0,hml,hol,qp9,List.set_cons_zero,List.set_cons_succ]
  refine ez ?_
  refine qio 7 1 (y.opened.map encB) ?_ (qdh _) (qhr _) (qhs _) (D.okWR_noPtr (qaj _))
  simp only[qov,Fr.mapS,List.map_cons,List.map_nil,AObj.mapS,qzo,qo8 _ _ _ _ _ (qaj _),List.set_cons_zero,List.set_cons_succ]
  try simp only[qn6 m.ents k y hk hys hyp,go_sem,simprocAttr]
  refine pu ?_
  try simp only[qn7 m.ents k y hk,jCh,go_sem,simprocAttr]
  (repeat(with_reducible refine ob ?_))
  (repeat(with_reducible refine ob ?_));refine cl F134 (qjp y (hy y rfl)) ?_
  refine eo2 @jCh.{0} (qfm m.ents k y hk) ?_
  try simp only[qfm m.ents k y hk,go_sem,simprocAttr]
  refine qio 5 4 ((m.ents.set k (qaz y)).map qu) ?_ (qtb _) (q4j _) (xjt _) (D.okWR_noPtr (qgt _))
  refine pu ?_
  exact et2 @jCh.{0} @jAm.{0,0}
 ·simp only[qdl,vu,hl2,jEh,jAw,if_false]
  try simp only[qzm hk,qzn hk,go_sem,simprocAttr]
  (repeat(with_reducible refine ob ?_))
  try simp only[qzm hk,qzn hk,jCo,xaz (l:=m.ents[k].moved) (i:=p.from_.toNat) (by omega),go_sem,simprocAttr]
  refine xf _ (fun h3=> ?_) (fun h3=> ?_)
  ·refine ez2 @h3 @List.map_nil.{0,0} ?_
   refine pu ?_
   exact et
  try simp only[xjv hk,go_sem,simprocAttr]
  (repeat(with_reducible refine ob ?_))
  refine eo2 @hl2 @jEh ?_
  refine no_ ?_
  simp only[h3,jAw,if_false]
  refine eo4 @h3 @hl2 @jCo @qmx ?_
  have hy: ∀y:Ue,y={m.ents[k]with moved:=m.ents[k].moved.set p.from_.toNat true} ->y.Sm:=by rintro y rfl;exact⟨by simpa using hx.1,by simpa using hx.2⟩
  generalize hyd:{m.ents[k]with moved:=m.ents[k].moved.set p.from_.toNat true}=y at hy⊢
  have hys:y.sess=m.ents[k].sess:=by rw[<- hyd]
  have hyp:y.phase=m.ents[k].phase:=by rw[<- hyd]
  have hym:m.ents[k].moved.set p.from_.toNat true=y.moved:=by rw[<- hyd]
  have hyo:m.ents[k].opened=y.opened:=by rw[<- hyd]
  have hml:m.ents[k].moved.length=y.moved.length:=by simp[<- hyd]
  have hol:m.ents[k].opened.length=y.opened.length:=by simp[<- hyd]
  simp only[hml,hol,hym,hyo]
  refine qio 6 1 (y.moved.map encB) ?_ (qdh _) (qhr _) (qhs _) (D.okWR_noPtr (qaj _))
  simp only[qov,Fr.mapS,List.map_cons,List.map_nil,AObj.mapS,xa0,hml,hol,qp9,List.set_cons_zero,List.set_cons_succ]
  refine ez ?_
  refine qio 7 1 (y.opened.map encB) ?_ (qdh _) (qhr _) (qhs _) (D.okWR_noPtr (qaj _))
  simp only[qov,Fr.mapS,List.map_cons,List.map_nil,AObj.mapS,qzo,qo8 _ _ _ _ _ (qaj _),List.set_cons_zero,List.set_cons_succ]
  try simp only[qn6 m.ents k y hk hys hyp,go_sem,simprocAttr]
  refine pu ?_
  try simp only[qn7 m.ents k y hk,jCh,go_sem,simprocAttr]
  (repeat(with_reducible refine ob ?_))
  (repeat(with_reducible refine ob ?_));refine cl F134 (qjp y (hy y rfl)) ?_
  refine eo2 @jCh.{0} (qfm m.ents k y hk) ?_
  try simp only[qfm m.ents k y hk,go_sem,simprocAttr]
  refine qio 5 4 ((m.ents.set k (qaz y)).map qu) ?_ (qtb _) (q4j _) (xjt _) (D.okWR_noPtr (qgt _))
  refine pu ?_
  exact et2 @jCh.{0} @jAm.{0,0}
def d22:=cut prog f22 news
@[go_sem] def E22:=qj d22
def d76:=cut prog f76 news
@[go_sem] def E76:=qj d76
theorem qlb {m:Mg} (h:jc m=true) {k:Nat} (d:k<m.ents.length):1<=m.ents[k].sess∧m.ents[k].sess<=32∧m.ents[k].phase≠0:=by
 simp only[jc,jAf]at h;have:=zh.1 h.1 k d;simp only[qfg,zp d,jBd,jA4,bne_eq_false_iff_eq,decide_eq_false_iff_not,beq_eq_false_iff_ne]at this;obtain⟨⟨⟨⟨⟨⟨h1,h2⟩,_⟩,_⟩,_⟩,h3⟩,_⟩:=this;exact⟨by omega,by omega,h3⟩
theorem xjw (x:Ue) (n r:Nat) (h1:x.moved.length=n) (h2:x.opened.length=n) (d:x.phase=jb x) (h0:x.phase≠0) (hr:r<n):
  qk2 x.sess (qak x) (zs x) r=(if x.phase==1&& !x.moved.getD r false then [qh6 x.sess r 1]else [])++(if x.phase==2&& !x.opened.getD r false then [qh6 x.sess r 2]else []):=by
 have h:r<x.moved.length:=by omega
 have e:r<x.opened.length:=by omega
 have hp:x.phase=1∨x.phase=2∨x.phase=3:=by
  have h4:jb x=0∨jb x=1∨jb x=2∨jb x=3:=by
   unfold jb;cases hasB false x.moved<;>cases hasB false x.opened<;>cases hasB true x.opened<;>simp
  omega
 rcases hp with hp|hp|hp
 ·simp[qk2,qak,zs,hp,List.getD,h,e];cases x.moved[r]<;>simp
 ·simp[qk2,qak,zs,hp,List.getD,h,e];cases x.opened[r]<;>simp
 ·have i:x.opened.all idB=true:=by
   rw[hp]at d;simp only[jb,qnp]at d;cases hq:x.opened.all idB with
   |true=>rfl
   |false=>
    rw[hq]at d;simp at d;split at d
    ·simp at d
    ·split at d<;>simp at d
  have hb:x.opened[r]=true:=by
   rw[jAx]at i;exact i _ (jAg e)
  simp[qk2,qak,zs,hp,List.getD,e,hb]
def SrO (m:Mg) (i:{i:Nat//i<=m.ents.length}):St:=
 ⟨[(1,true,.d (.ptr 0 0)),(2,true,.d .nilsl),(3,true,.own 0 9 ((yi m i.val).map qi)),(4,true,.d (.int .i64 (i.val:Nat)))],[zm m],[0],1⟩
def SrI (m:Mg) (i:Nat) (x:Ue) (n:Nat) (r:{r:Nat//r<=n}):St:=
 ⟨[(1,true,.d (.ptr 0 0)),(2,true,.d .nilsl),(3,true,.own 0 9 ((yi m i++qnq x.sess (qak x) (zs x) r.val).map qi)),(4,true,.d (.int .i64 (i:Nat))),(5,true,.d (.ptr 1 0)),(6,true,.d (.int .i64 (r.val:Nat)))],[zm m,qh7 x],[0],1⟩
theorem xu2 (m:Mg) (p:m.Sm) (i n:Nat) (hn:(n:Int)=m.roles) (hi:i<m.ents.length) (x:Ue) (hx:x.Sm) (h1:x.moved.length=n) (h2:x.opened.length=n) (h3:x.phase=jb x) (h0:x.phase≠0) (Q:SExit->St->Prop) (st:St) (hw:Weak 0 st (SrI m i x n ⟨0,jAj _⟩))
  (q: ∀b:Bool,Q .normal ⟨(25,true,.d (.bool b))::(24,true,.d (.int .i64 m.roles))::(23,true,.d (.ptr 0 0))::(22,true,.d (.int .i64 n))::(SrI m i x n ⟨n,jAi _⟩).fr,[zm m,qh7 x],[0],5⟩):AWp prog 0 (.block 2 (.loop (.seq (.seq (.region (d200.reg 8) 0 []) (.cond (.t 25) .skip (.exit 2))) (.seq (.block 3 (.seq (.seq (.region (d200.reg 9) 0 []) (.cond (.t 38) (.region (d200.reg 10) 0 []) .skip)) (.seq (.region (d200.reg 11) 0 []) (.cond (.t 56) (.region (d200.reg 12) 0 []) .skip)))) (.region (d200.reg 13) 0 []))))) Q st:=by
 have hol:=qf3 m p i (by omega);have hl:=p.1;have hn1:n<=1000:=by have:=hx.1;omega
 refine ez ?_;refine qg (SrI m i x n) (λr=>n-r.val) ⟨0,jAj _⟩ hw (λr=> ?_);obtain⟨r,hr⟩:=r;have hlt:=qiw x.sess (qak x) (zs x) r;refine eo4 @SrI.eq_1 @zm.eq_1 @qh7.eq_1 hn.symm ?_;refine xf _ (λh=> ?_) (λh=> ?_)
 ·have e:r<n:=by simpa using h
  have hst:=xjw x n r h1 h2 h3 h0 e;have o:r<x.moved.length:=by omega
  have l:r<x.opened.length:=by omega
  rw[zp o,zp l]at hst;refine eo2 (qh encB x.moved o) @encB.eq_1 ?_;refine xf _ (λc1=> ?_) (λc1=> ?_)
  ·rw[c1]at hst;have c2:(x.phase==2&& !x.opened[r])=false:=by
    simp only[jAf,beq_iff_eq]at c1;simp[c1.1]
   rw[c2]at hst;simp only[if_true,jAw,if_false,jAu]at hst;refine eo ?_;refine eo2 (qh encB x.opened l) @encB.eq_1 ?_;refine qt false rfl ?_ (λh=>Bool.noConfusion h) (λ_=> ?_)
   ·exact et1 @c2
   refine ez ?_;refine⟨⟨r+1,e⟩,?_,by dsimp only;omega⟩;simp only[SrI,zm,qh7,qex,hst,<- jAh,jA2,List.map_cons,List.map_nil,qh6,qi,qe (show r<9223372036854775807 by omega),go_sem,simprocAttr];exact hn
  ·rw[c1]at hst;refine ez ?_;refine eo2 (qh encB x.opened l) @encB.eq_1 ?_;refine xf _ (λc2=> ?_) (λc2=> ?_)
   ·rw[c2]at hst;simp only[if_true,jAw,if_false,List.nil_append]at hst;refine eo ?_;refine⟨⟨r+1,e⟩,?_,by dsimp only;omega⟩;simp only[SrI,zm,qh7,qex,hst,<- jAh,jA2,List.map_cons,List.map_nil,qh6,qi,qe (show r<9223372036854775807 by omega),go_sem,simprocAttr];exact hn
   ·rw[c2]at hst;simp only[jAw,if_false,List.nil_append]at hst;refine ez ?_;refine⟨⟨r+1,e⟩,?_,by dsimp only;omega⟩;refine ez7 @SrI.eq_1 @zm.eq_1 @qh7.eq_1 @qex @hst @jAu.{0} (qe (show r<9223372036854775807 by omega)) ?_;exact hn
 ·have e:r=n:=by
   have:n<=r:=by simpa using h
   omega
  subst e;refine ez ?_;simp only[SrI,zm,qh7,<- hn]at q;exact q _
theorem q4l (m:Mg) (p:m.Sm):qf prog 200 [.d (.agg (xt m))] [] (.d (.sl 9 ((xn m).map qi))) []:=by
 have hl:=p.1;refine F200.go ?_;refine eo1 @xt.eq_1 ?_;refine cl F81 (qjq m p) ?_;refine ez ?_;refine xf _ (λo=> ?_) (λo=> ?_)
 ·have hu:xn m= []:=by simp at o;simp[xn,o]
  exact et2 @hu @List.map_nil.{0,0}
 have hu:xn m=yi m m.ents.length:=by simp at o;simp[xn,o]
 have l:jc m=true:=by simpa using o
 have hro:=qep l;rw[hu];refine ez ?_;refine qg (SrO m) (λi=>m.ents.length-i.val) ⟨0,jAj _⟩ ?_ (λi=> ?_)
 ·exact et4 @SrO.eq_1 @zm.eq_1 @q22 @List.map_nil.{0,0}
 obtain⟨i,hi⟩:=i;refine eo2 @SrO.eq_1 @zm.eq_1 ?_;refine xf _ (λh=> ?_) (λh=> ?_)
 ·have e:i<m.ents.length:=by simpa using h
  have hx:=p.2 _ (jAg e);obtain⟨a1,a2,a3⟩:=qj3 l e;obtain⟨_,_,a4⟩:=qlb l e;have hml:(zs m.ents[i]).length=m.roles.toNat:=by unfold zs;split<;>omega
  refine eo2 (qh qu m.ents e) @qu.eq_1 ?_;refine xu2 m p i m.roles.toNat (by omega) e m.ents[i] hx (by omega) (by omega) a3 a4 _ _ ?_ (λb=> ?_)
  ·exact et5 @SrI.eq_1 @zm.eq_1 @qh7.eq_1 @xhv @jAu.{0}
  ·refine ez3 @SrI.eq_1 @zm.eq_1 @qh7.eq_1 ?_;refine⟨⟨i+1,e⟩,?_,by dsimp only;omega⟩;have he:(zs m.ents[i]).length=m.roles.toNat:=hml;exact et7 @SrO.eq_1 @zm.eq_1 @qen (zp e) @qsf.eq_1 @hml (qe (show i<9223372036854775807 by omega))
 ·have e:i=m.ents.length:=by
   have:m.ents.length<=i:=by simpa using h
   omega
  subst e;exact et
def we (s r label:Int):Pk:=⟨4,s,0,r,0,0,label,[],[]⟩
theorem b1:jg ⟨2,[]⟩ 5=(⟨2,[⟨5,1,[false,false],[false,false]⟩]⟩,0):=by decide
theorem b2:xn ⟨2,[⟨5,1,[false,false],[false,false]⟩]⟩= [qh6 5 0 1,qh6 5 1 1]:=by decide
theorem b3:x8 ⟨2,[⟨5,1,[false,false],[false,false]⟩]⟩ (we 5 1 1)=(⟨2,[⟨5,1,[false,true],[false,false]⟩]⟩,0):=by decide
theorem b4:xn ⟨2,[⟨5,1,[false,true],[false,false]⟩]⟩= [qh6 5 0 1]:=by decide
theorem b5:x8 ⟨2,[⟨5,1,[false,true],[false,false]⟩]⟩ (we 5 0 1)=(⟨2,[⟨5,2,[true,true],[false,false]⟩]⟩,0):=by decide
theorem b6:xn ⟨2,[⟨5,2,[true,true],[false,false]⟩]⟩= [qh6 5 0 2,qh6 5 1 2]:=by decide
structure EnOk (r:Int) (x:Ue):Prop where
 s1:1<=x.sess
 s32:x.sess<=32
 ml:(x.moved.length:Int)=r
 ol:(x.opened.length:Int)=r
 ph:x.phase=jb x
 p0:x.phase≠0
structure MW (m:Mg):Prop where
 r1:1<=m.roles
 r6:m.roles<=6
 inc:(m.ents.map Ue.sess).Pairwise (· < ·)
 en: ∀x∈m.ents,EnOk m.roles x
theorem qtd {l:List Int} (h: ∀i (h:i+1<l.length),l[i]<l[i+1]):l.Pairwise (· < ·):=by
 rw[jDh];intro i j hi e hij;obtain⟨d,rfl⟩: ∃d,j=i+1+d:=⟨j-(i+1),by omega⟩;induction d with
 |zero=>exact h i e
 |succ d ih=>exact Int.lt_trans (ih (by omega) (by omega)) (h (i+1+d) e)
theorem wk {m:Mg}:jc m=true↔MW m:=by
 constructor
 ·intro h;have u:=qep h;refine⟨u.1,u.2,qtd λi hi=> ?_,λx hx=> ?_⟩
  ·have d:i+1<m.ents.length:=by simpa using hi
   have v:=h;simp only[jc,jAf]at v;have:=zh.1 v.1 (i+1) d;rw[<- enk m i d (by omega)]at this;simp only[jBd,jA4,jB6,decide_eq_false_iff_not]at this;simp only[jE0];have:=this.1.1.1.1.2;omega
  ·obtain⟨i,hi,rfl⟩:=jCc hx;obtain⟨a1,a2,a3⟩:=qj3 h hi;obtain⟨b1,b2,b3⟩:=qlb h hi;exact⟨b1,b2,a1,a2,a3,b3⟩
 ·rintro⟨r1,r6,e,en⟩;simp only[jc,jAf,decide_eq_true_eq];refine⟨zh.2 λi hi=> ?_,r1,r6⟩;obtain⟨s1,s32,t,q,o,p⟩:=en _ (jAg hi);rcases jC7 i with rfl|h0
  ·rw[<- en0 m hi];simp only[jBd,jA4,decide_eq_false_iff_not,bne_eq_false_iff_eq,beq_eq_false_iff_ne];exact⟨⟨⟨⟨⟨by omega,by omega⟩,t⟩,q⟩,p⟩,o⟩
  ·obtain⟨k,rfl⟩: ∃k,i=k+1:=⟨i-1,by omega⟩;rw[<- enk m k hi (by omega)];have l:=(jDh.1 e) k (k+1) (by simp;omega) (by simpa using hi) (by omega);simp only[jE0]at l;simp only[jBd,jA4,jB6,decide_eq_false_iff_not,bne_eq_false_iff_eq,beq_eq_false_iff_ne];exact⟨⟨⟨⟨⟨⟨by omega,by omega⟩,.inr (by omega)⟩,t⟩,q⟩,p⟩,o⟩
theorem qje {l:List Int} (h:l.Pairwise (· < ·)) (h1: ∀x∈l,1<=x) (d: ∀x∈l,x<=32):l.length<=32:=by
 have key: ∀(i:Nat) (hi:i<l.length),(i:Int)+1<=l[i]:=by
  intro i;induction i with
  |zero=>intro hi;have:=h1 _ (jAg hi);omega
  |succ i ih=>
   intro hi;have:=ih (by omega);have:=(jDh.1 h) i (i+1) (by omega) hi (by omega);omega
 rcases jB9 32 l.length with h'|h'
 ·have:=key 32 h';have:=d _ (jAg h');omega
 ·exact h'
theorem MW.sm {m:Mg} (h:MW m):m.Sm:=by
 refine⟨?_,λx d=> ?_⟩
 ·have:=qje h.inc (by intro x d;obtain⟨e,i,rfl⟩:=jAo.1 d;exact(h.en e i).s1) (by intro x d;obtain⟨e,i,rfl⟩:=jAo.1 d;exact(h.en e i).s32);rw[jAm]at this;omega
 ·have h1:=(h.en x d).ml;have h2:=(h.en x d).ol;have h6:=h.r6;exact⟨by omega,by omega⟩
theorem qj4 {m:Mg} {s:Int} (h:(xj m s).2=true): ∃hk:(xj m s).1<m.ents.length,m.ents[(xj m s).1].sess=s:=by
 refine⟨q4k h,?_⟩;unfold xj at h⊢;split at h
 ·rename_i d;simp only[d,if_true]at h⊢;rw[zp (qnn d).2]at h;simpa using h
 ·cases h
theorem q4m {m:Mg} {s:Int} (hm:MW m) (h:(xj m s).2=false):(∀x∈m.ents.take (xj m s).1,x.sess<s)∧ ∀x∈m.ents.drop (xj m s).1,s<x.sess:=by
 unfold xj at h⊢;split at h
 ·rename_i d;obtain⟨_,q⟩:=qnn d;simp only[d,if_true]at h⊢;rw[zp q]at h;have o:=List.findIdx_getElem (p:=λx:Ue=>decide (x.sess≥s)) (xs:=m.ents) (w:=q);simp only[decide_eq_true_eq]at o;simp only[beq_eq_false_iff_ne]at h;refine⟨λx e=> ?_,λx e=> ?_⟩
  ·obtain⟨i,hi,rfl⟩:=jCc e;have l:i<m.ents.findIdx (λx=>decide (x.sess≥s)):=by rw[jAl]at hi;omega
   have:=List.not_of_lt_findIdx l;simp at this;simpa using this
  ·obtain⟨i,hi,rfl⟩:=jCc e;rw[List.getElem_drop];rw[jAp]at hi;rcases jC7 i with rfl|h0
   ·simp only[Nat.add_zero];omega
   ·have:=(jDh.1 hm.inc) (m.ents.findIdx (λx=>decide (x.sess≥s))) (m.ents.findIdx (λx=>decide (x.sess≥s))+i) (by rw[jAm];exact q) (by rw[jAm];omega) (by omega);simp only[jE0]at this;omega
 ·rename_i d;simp only[d]at h⊢;simp only[jAw,if_false,jAr,jC0];refine⟨λx e=> ?_,by simp⟩;simp only[jC1,jD3,decide_eq_true_eq]at d;have:=d x e;omega
theorem qg3 {m:Mg} {s:Int} (hm:MW m):(xj m s).2=true↔ ∃x∈m.ents,x.sess=s:=by
 constructor
 ·intro h;obtain⟨hk,hs⟩:=qj4 h;exact⟨_,jAg hk,hs⟩
 ·rintro⟨x,d,hs⟩;cases hf:(xj m s).2 with
  |true=>rfl
  |false=>
   obtain⟨h1,h2⟩:=q4m hm hf;rw[<- jB5 (xj m s).1 m.ents]at d;rcases jAs.1 d with d|d
   ·have:=h1 x d;omega
   ·have:=h2 x d;omega
theorem q8f {s r label:Int} (h1:1<=s) (h2:s<=32) (h3:0<=r) (h4:r<6) (h5:label=1∨label=2):qm (we s r label)=true:=by
 rcases h5 with rfl|rfl<;>simp[qm,qf1,order,role,bare,we,h1,h2,h3,h4]
theorem xjz {r:Int} {x:Ue} (d:EnOk r x) (p:Pk) (e:jb (vu p x)≠0):EnOk r (qaz (vu p x)):=by
 unfold vu at e⊢;split
 ·rename_i h;rw[if_pos h]at e;exact⟨d.s1,d.s32,d.ml,by simpa[qaz]using d.ol,rfl,e⟩
 ·rename_i h;rw[if_neg h]at e;exact⟨d.s1,d.s32,by simpa[qaz]using d.ml,d.ol,rfl,e⟩
theorem qht (p:Pk) (x:Ue):(qaz (vu p x)).sess=x.sess:=by unfold vu qaz;split<;>rfl
theorem xu4 {l:List Bool}:l.all idB=true↔ ∀b∈l,b=true:=by simp[jAx,idB]
theorem qao (x:Ue):(jb x=3∧x.moved.all idB=true∧x.opened.all idB=true)∨(jb x=2∧x.moved.all idB=true∧x.opened.all idB=false)∨
  (jb x=0∧x.moved.all idB=false∧x.opened.any idB=true)∨(jb x=1∧x.moved.all idB=false∧x.opened.any idB=false):=by
 simp only[jb,qnp,q21];cases x.moved.all idB<;>cases x.opened.all idB<;>cases x.opened.any idB<;>simp
theorem qo9 (m:Mg) (s r label:Int) (e:MW m) (h1:1<=s) (z:s<=32) (h0:0<=r) (hr:r<m.roles) (A:label=1∨label=2):
  ((x8 m (we s r label)).2≠0)∨ ∃k,∃q:k<m.ents.length,m.ents[k].sess=s∧(xj m s).1=k∧(qdl (we s r label) m.ents[k]).getD r.toNat false=false∧(label=2->m.ents[k].phase≠1)∧
   x8 m (we s r label)=(⟨m.roles,m.ents.set k (qaz (vu (we s r label) m.ents[k]))⟩,0)∧EnOk m.roles (qaz (vu (we s r label) m.ents[k]))∧MW ⟨m.roles,m.ents.set k (qaz (vu (we s r label) m.ents[k]))⟩:=by
 have hv:=wk.2 e;have hp:=q8f h1 z h0 (by have:=e.r6;omega) A;have B:(!jc m||(we s r label).kind !=4|| !qm (we s r label)||decide ((we s r label).from_≥m.roles))=false:=by
  rw[hv,hp];simp[we];omega
 cases hf:(xj m s).2 with
 |false=>
  refine .inl ?_;have:(xj m (we s r label).sess).2=false:=hf;simp only[x8,B,this];simp
 |true=>
  obtain⟨q,hs⟩:=qj4 hf;have hu:x8 m (we s r label)=(if(qdl (we s r label) m.ents[(xj m s).1]).getD r.toNat false then(⟨0,[]⟩,21)
    else if label==2&&m.ents[(xj m s).1].phase==1 then(⟨0,[]⟩,7)
    else(⟨m.roles,m.ents.set (xj m s).1 (qaz (vu (we s r label) m.ents[(xj m s).1]))⟩,0)):=by
   have e1:(we s r label).sess=s:=rfl;have e2:(we s r label).from_=r:=rfl
   have e3:(we s r label).label=label:=rfl;simp only[x8,B];simp only[e1,e2,e3,hf,zp q];rfl
  rw[hu];by_cases c1:(qdl (we s r label) m.ents[(xj m s).1]).getD r.toNat false=true
  ·exact .inl (by rw[if_pos c1];simp)
  ·rw[if_neg c1];by_cases c2:(label==2&&m.ents[(xj m s).1].phase==1)=true
   ·exact .inl (by rw[if_pos c2];simp)
   ·rw[if_neg c2];have t:=e.en _ (jAg q);have d:EnOk m.roles (qaz (vu (we s r label) m.ents[(xj m s).1])):=by
     refine xjz t _ ?_;have o:=qao m.ents[(xj m s).1];have hph:=t.ph;have hp0:=t.p0;have hm6:=e.r6;have l:r.toNat<m.ents[(xj m s).1].moved.length:=by have:=t.ml;omega
     intro hz;rcases A with rfl|rfl
     ·have p: ¬m.ents[(xj m s).1].moved.all idB=true:=by
       intro ha;have:=xu4.1 ha _ (jAg l);exact c1 (by simp[qdl,we,List.getD,l,this])
      rcases qao (vu (we s r 1) m.ents[(xj m s).1])with⟨h,_⟩|⟨h,_⟩|⟨_,_,h⟩|⟨h,_⟩
      ·omega
      ·omega
      ·have h':m.ents[(xj m s).1].opened.any idB=true:=h;rcases o with⟨_,h,_⟩|⟨_,h,_⟩|⟨h,_⟩|⟨_,_,h⟩
       ·exact p h
       ·exact p h
       ·omega
       ·rw[h]at h';cases h'
      ·omega
     ·have hne:m.ents[(xj m s).1].phase≠1:=by simpa using c2
      rcases qao (vu (we s r 2) m.ents[(xj m s).1])with⟨h,_⟩|⟨h,_⟩|⟨_,h,_⟩|⟨h,_⟩
      ·omega
      ·omega
      ·have h':m.ents[(xj m s).1].moved.all idB=false:=h;rcases o with⟨_,h,_⟩|⟨_,h,_⟩|⟨h,_⟩|⟨h,_⟩
       ·rw[h]at h';cases h'
       ·rw[h]at h';cases h'
       ·omega
       ·omega
      ·omega
    refine .inr ⟨_,q,hs,rfl,by simpa using c1,λv=> ?_,rfl,d,e.r1,e.r6,?_,?_⟩
    ·subst v;simpa using c2
    ·have:((m.ents.set (xj m s).1 (qaz (vu (we s r label) m.ents[(xj m s).1]))).map Ue.sess)=m.ents.map Ue.sess:=by
      rw[jDz,qht];refine jC5 λi=> ?_;rw[List.getElem?_set];split
      ·rename_i h;subst h;simp[q]
      ·rfl
     simp only[this];exact e.inc
    ·intro x u;rcases jD6 u with h|h
     ·exact e.en x h
     ·subst h;exact d
def bitN:List Bool->Nat
 | []=>0
 |b::l=>b.toNat+2*bitN l
theorem qec: ∀l:List Bool,bitN l<2^l.length
 | []=>by simp[bitN]
 |b::l=>by
  have:=qec l;have hb:b.toNat<=1:=by cases b<;>decide
  rw[bitN,List.length_cons,jCi];omega
def k7:Nat->Nat->List Bool
 |0,_=> []
 |k+1,n=>(n%2==1)::k7 k (n/2)
theorem kc: ∀k n,(k7 k n).length=k
 |0,_=>rfl
 |k+1,n=>by rw[k7,List.length_cons,kc k]
theorem qlc: ∀l:List Bool,k7 l.length (bitN l)=l
 | []=>rfl
 |b::l=>by
  rw[List.length_cons,k7,bitN];have h1:(b.toNat+2*bitN l)/2=bitN l:=by cases b<;>simp<;>omega
  have h2:((b.toNat+2*bitN l)%2==1)=b:=by cases b<;>simp<;>omega
  rw[h1,h2,qlc l]
theorem qwh: ∀(k n i:Nat),i<k->(k7 k n).getD i false=(n/2^i%2==1)
 |k+1,n,0,_=>by simp[k7]
 |k+1,n,i+1,h=>by
  rw[k7,jD8,qwh k (n/2) i (by omega),jE1,jCi,jDx]
def qb0 (x:Ue):List UInt8:=wInt x.phase++wInt (bitN x.moved)++wInt (bitN x.opened)
def uPfx:List UInt8:= [117,47]
def uKey (s:Int):List UInt8:= [117,47,UInt8.ofNat (48+s.toNat/10),UInt8.ofNat (48+s.toNat%10)]
theorem xa2: ∀a b:Fin 33,(uKey (a.val:Int)=uKey (b.val:Int) ->a=b)∧(a<b->Op.bytesLess (uKey (a.val:Int)) (uKey (b.val:Int))=true):=by decide+kernel
theorem qzp {a b:Int} (h1:0<=a) (h2:a<=32) (h3:0<=b) (h4:b<=32) (h:uKey a=uKey b):a=b:=by
 obtain⟨m,rfl⟩: ∃m:Nat,a=m:=⟨a.toNat,by omega⟩;obtain⟨n,rfl⟩: ∃n:Nat,b=n:=⟨b.toNat,by omega⟩;have:=(xa2 ⟨m,by omega⟩ ⟨n,by omega⟩).1 h;simp at this;omega
theorem xu5 {a b:Int} (h1:0<=a) (h4:b<=32) (h:a<b):cmpB (uKey a) (uKey b)<0:=by
 obtain⟨m,rfl⟩: ∃m:Nat,a=m:=⟨a.toNat,by omega⟩;obtain⟨n,rfl⟩: ∃n:Nat,b=n:=⟨b.toNat,by omega⟩;have:=(xa2 ⟨m,by omega⟩ ⟨n,by omega⟩).2 (by simp;omega);rw[qhl]at this;simpa using this
theorem xqc (s:Int):pre uPfx (uKey s)=true:=rfl
def ldN (d:Int):Int:=2^d.toNat-1
def ldRd (d:Int) (v:List UInt8):(Int×Int×Int)×Rd:=
 (((js ⟨v,0,false⟩).1,(xc 0 (ldN d) (js ⟨v,0,false⟩).2).1,(xc 0 (ldN d) (xc 0 (ldN d) (js ⟨v,0,false⟩).2).2).1),
  (xc 0 (ldN d) (xc 0 (ldN d) (js ⟨v,0,false⟩).2).2).2)
def q4n (d s:Int) (x:Int×Int×Int):Ue:=⟨s,x.1,k7 d.toNat x.2.1.toNat,k7 d.toNat x.2.2.toNat⟩
def xed (d s:Int) (v:List UInt8):Option Ue:=if rEnd (ldRd d v).2=0 then some (q4n d s (ldRd d v).1)else none
def qc2 (k:List UInt8):Option Nat:=(List.range 33).find? λs=>uKey (s:Nat)==k
def ldEn (d:Int) (e:En):Option Ue:=match qc2 e.1 with
 |none=>none
 |some s=>xed d (s:Nat) e.2
def qhu (d:Int):List En->Option (List Ue)
 | []=>some []
 |e::l=>match ldEn d e with
  |none=>none
  |some x=>(qhu d l).map (x:: ·)
def ldMg (d:Int):Option (List Ue) ->Mg×Int
 |none=>(⟨0,[]⟩,4)
 |some l=>if jc ⟨d,l⟩=true then(⟨d,l⟩,0)else(⟨0,[]⟩,4)
def xy (m:Cont) (d:Int):Mg×Int:=
 if(decide (d<1)||decide (d>6))=true then(⟨0,[]⟩,2)else ldMg d (qhu d (qau m uPfx))
theorem qwi {s:Int} (h1:0<=s) (h2:s<=32):qc2 (uKey s)=some s.toNat:=by
 obtain⟨n,rfl⟩: ∃n:Nat,s=n:=⟨s.toNat,by omega⟩;unfold qc2;cases hf:(List.range 33).find? (λs=>uKey (s:Nat)==uKey (n:Int))with
 |none=>
  rw[jCj]at hf;exact absurd (beq_self_eq_true _) (hf n (by simp;omega))
 |some k=>
  have d:=jD1 hf;have hm:=jBz hf;simp only[beq_iff_eq]at d;simp only[jC8]at hm;have:=qzp (a:=(k:Int)) (b:=(n:Int)) (by omega) (by omega) (by omega) (by omega) d;congr 1;omega
theorem qld {k:List UInt8} {s:Nat} (h:qc2 k=some s):s<=32∧k=uKey (s:Nat):=by
 have d:=jD1 h;have hm:=jBz h;simp only[beq_iff_eq]at d;simp only[jC8]at hm;exact⟨by omega,d.symm⟩
theorem xzp {r:Int} (h1:1<=r) (h6:r<=6):(2:Nat)^r.toNat<=64:=by
 have:r.toNat<=6:=by omega
 exact jBn (jB4 (by decide) this) (by decide)
theorem qtf (r:Int):ldN r=((2^r.toNat-1:Nat):Int):=by
 unfold ldN;have:1<=2^r.toNat:=Nat.one_le_two_pow;rw[Int.ofNat_sub this];simp
theorem xx7 {r:Int} (h1:1<=r) (h6:r<=6) {l:List Bool} (hl:(l.length:Int)=r) (t:List UInt8):zd 0 (ldN r) (wInt (bitN l)++t)=some ((bitN l:Int),t):=by
 have hb:=qec l;have h64:=xzp h1 h6;have e:l.length=r.toNat:=by omega
 rw[e]at hb;rw[zd,qb3 (by unfold I64;omega)];simp only;have: ¬((bitN l:Int)<0∨(bitN l:Int)>ldN r):=by rw[qtf];omega
 simp[this]
theorem qtg {r:Int} (o:1<=r) (m:r<=6) {x:Ue} (d:EnOk r x):xed r x.sess (qb0 x)=some x:=by
 have hp:I64 x.phase:=by
  rw[d.ph];rcases qao x with h|h|h|h<;>rw[h.1]<;>unfold I64<;>omega
 have e:(qb0 x).length<=1000000000:=by
  have a:=xg hp;have hb:=qec x.moved;have hc:=qec x.opened;have h64:=xzp o m;have e1:x.moved.length=r.toNat:=by have:=d.ml;omega
  have e2:x.opened.length=r.toNat:=by have:=d.ol;omega
  rw[e1]at hb;rw[e2]at hc;have b:=xg (n:=(bitN x.moved:Int)) (by unfold I64;omega);have c:=xg (n:=(bitN x.opened:Int)) (by unfold I64;omega);simp only[qb0,jAc];omega
 have z:(⟨qb0 x,0,false⟩:Rd).Ok:=⟨e,jAj _⟩;have t:qb0 x=wInt x.phase++(wInt (bitN x.moved)++wInt (bitN x.opened)):=by rw[qb0,jAh]
 have b2:=xx7 o m d.ml (wInt (bitN x.opened));have b3:=xx7 o m d.ol [];rw[jAu]at b3;generalize qb0 x=v at e z t⊢;have C:=wj qdf z rfl (v:=x.phase) (l:=wInt (bitN x.moved)++wInt (bitN x.opened)) (by simp only[List.drop_zero,t];exact qb3 hp _);have u:=(jp (b:=v) (p:=0) (q:=wInt x.phase) (jAj _) (by rw[List.drop_zero,t])).1;have B:=wj (qb9 0 (ldN r)) (r:=⟨v,v.length-(wInt (bitN x.moved)++wInt (bitN x.opened)).length,false⟩) ⟨e,jCt _ _⟩ rfl (by simp only[u];exact b2);have t2:=(jp (b:=v) (p:=v.length-(wInt (bitN x.moved)++wInt (bitN x.opened)).length) (q:=wInt (bitN x.moved)) (jCt _ _) u).1;have A:=wj (qb9 0 (ldN r)) (r:=⟨v,v.length-(wInt (bitN x.opened)).length,false⟩) ⟨e,jCt _ _⟩ rfl (by simp only[t2];exact b3);simp only at C B A;have k1:r.toNat=x.moved.length:=by have:=d.ml;omega
 have k2:r.toNat=x.opened.length:=by have:=d.ol;omega
 have i:ldRd r v=((x.phase,(bitN x.moved:Int),(bitN x.opened:Int)),⟨v,v.length,false⟩):=by
  simp only[ldRd,C,B,A,List.length_nil,jCz]
 have he:rEnd ⟨v,v.length,false⟩=0:=by simp[rEnd]
 simp only[xed,i];rw[if_pos he];simp only[q4n,jA6];congr 1;have q1:k7 r.toNat (bitN x.moved)=x.moved:=by rw[k1];exact qlc _
 have q2:k7 r.toNat (bitN x.opened)=x.opened:=by rw[k2];exact qlc _
 rw[q1,q2]
theorem xqd {r:Int} (h1:1<=r) (h6:r<=6) {x:Ue} (d:EnOk r x):ldEn r (uKey x.sess,qb0 x)=some x:=by
 have a:=d.s1;have b:=d.s32;have e:((x.sess.toNat:Nat):Int)=x.sess:=by omega
 unfold ldEn;simp only[qwi (s:=x.sess) (by omega) b,e];exact qtg h1 h6 d
theorem q4o {r:Int} (e:1<=r) (d:r<=6): ∀{l:List Ue},(∀x∈l,EnOk r x) ->qhu r (l.map λx=>(uKey x.sess,qb0 x))=some l
 | [],_=>rfl
 |x::l,h=>by
  rw[List.map_cons,qhu,xqd e d (h x jA7)];simp only[q4o e d (λy hy=>h y (jA9 _ hy)),Option.map_some]
theorem qzq {l:List Ue} (h:l.Pairwise λa b=>a.sess≠b.sess) {x y:Ue} (d:x∈l) (i:y∈l) (m:x≠y):x.sess≠y.sess:=by
 induction l with
 |nil=>cases d
 |cons a l ih=>
  obtain⟨o,h2⟩:=jB1.1 h;rcases jAv.1 d with d|d<;>rcases jAv.1 i with i|i
  ·exact absurd (d.trans i.symm) m
  ·rw[d];exact o y i
  ·rw[i];exact λe=>o x d e.symm
  ·exact ih h2 d i
def URep (m:Cont) (g:Mg):Prop:= ∀k,pre uPfx k=true->mGet k m=(g.ents.find? λx=>uKey x.sess==k).map qb0
theorem xj0 {m:Cont} (t:m.Ok) {g:Mg} (i:MW g) (h:URep m g):qau m uPfx=g.ents.map λx=>(uKey x.sess,qb0 x):=by
 refine qjr (qix t _) ?_ λe=> ?_
 ·unfold Sorted;rw[jCu];have hp:=i.inc;rw[jCu]at hp;refine hp.imp_of_mem λ{a b} ha hb p=> ?_;have:=(i.en a ha).s1;exact xu5 (by omega) (i.en b hb).s32 p
 ·rw[qsh t,jAo];constructor
  ·rintro⟨u,h2⟩;rw[h _ h2,jAb]at u;obtain⟨x,d,hv⟩:=u;have o:=jD1 d;exact⟨x,jBz d,by rw[beq_iff_eq.1 o,hv]⟩
  ·rintro⟨x,d,rfl⟩;refine⟨?_,rfl⟩;rw[h _ rfl,jAb];refine⟨x,?_,rfl⟩;cases hf:g.ents.find? (λy=>uKey y.sess==uKey x.sess)with
   |none=>rw[jCj]at hf;exact absurd (beq_self_eq_true _) (hf x d)
   |some y=>
    have o:=jD1 hf;have q:=jBz hf;have z:=i.en x d;have v:=i.en y q;have hs:=qzp (by have:=v.s1;omega) v.s32 (by have:=z.s1;omega) z.s32 (beq_iff_eq.1 o);have hn:g.ents.Pairwise λa b=>a.sess≠b.sess:=by
     have hp:=i.inc;rw[jCu]at hp;exact hp.imp λh=>by omega
    congr 1;by_cases l:y=x
    ·exact l
    ·exact absurd hs (qzq hn q d l)
theorem xee {m:Cont} (hm:m.Ok) {g:Mg} (d:MW g) (h:URep m g):xy m g.roles=(g,0):=by
 have h1:=d.r1;have h6:=d.r6;unfold xy;rw[if_neg (by simp;omega),xj0 hm d h,q4o h1 h6 d.en];have:jc ⟨g.roles,g.ents⟩=true:=wk.2 d;simp only[ldMg,this,if_true]
def chOp (a:Mg) (x:Ue):List OpS:=if x∈a.ents then []else [⟨uKey x.sess,false,qb0 x⟩]
def qn8 (a b:Mg):List OpS:=b.ents.flatMap (chOp a)
def zb (a b:Mg):List OpS×Int:=
 if(!jc a|| !jc b||a.roles !=b.roles)=true then([],1)else if(a.ents.any λx=> !(xj b x.sess).2)=true then([],1)else(qn8 a b,0)
theorem qn9 (k:List UInt8): ∀(l:List OpS) (a:Option (List UInt8)) (l':List OpS),vz k a (l++l')=vz k (vz k a l) l'
 | [],_,_=>rfl
 |o::l,a,l'=>by rw[List.cons_append,vz,vz,qn9 k l]
theorem xj1 {a:Mg} {k:List UInt8}: ∀{l:List Ue},(∀x∈l,uKey x.sess≠k) -> ∀g,vz k g (l.flatMap (chOp a))=g
 | [],_,_=>rfl
 |x::l,h,g=>by
  have hx:=h x jA7;have:vz k g (chOp a x)=g:=by
   unfold chOp;split
   ·rfl
   ·simp[vz,hx]
  rw[List.flatMap_cons,qn9,this,xj1 (λy hy=>h y (jA9 _ hy))]
theorem xj2 {a:Mg} {k:List UInt8}: ∀{l:List Ue},(l.map λx=>uKey x.sess).Nodup-> ∀g,vz k g (l.flatMap (chOp a))=match l.find? (λx=>uKey x.sess==k)with
  |some x=>if x∈a.ents then g else some (qb0 x)
  |none=>g
 | [],_,_=>rfl
 |x::l,h,g=>by
  rw[List.map_cons,jCe]at h;obtain⟨h1,h2⟩:=h;rw[List.flatMap_cons,qn9];by_cases d:uKey x.sess=k
  ·have hn: ∀y∈l,uKey y.sess≠k:=λy hy e=>h1 (jAo.2 ⟨y,hy,by rw[e,d]⟩);rw[xj1 hn];simp only[jB7,beq_iff_eq.2 d];unfold chOp;split
   ·rfl
   ·simp[vz,d]
  ·have:vz k g (chOp a x)=g:=by
    unfold chOp;split
    ·rfl
    ·simp[vz,d]
   have hb:(uKey x.sess==k)=false:=by simpa using d
   rw[this,xj2 h2];simp only[jB7,hb]
theorem qwj {g:Mg} (d:MW g):(g.ents.map λx=>uKey x.sess).Nodup:=by
 have hp:=d.inc;rw[jCu]at hp;unfold List.Nodup;rw[jCu];refine hp.imp_of_mem λ{a b} ha hb hab h=> ?_;have i:=d.en a ha;have e:=d.en b hb;have:=qzp (by have:=i.s1;omega) i.s32 (by have:=e.s1;omega) e.s32 h;omega
theorem xqe {g:Mg} (hg:MW g) {x:Ue} (d:x∈g.ents):g.ents.find? (λy=>uKey y.sess==uKey x.sess)=some x:=by
 have hn:=qwj hg;generalize g.ents=l at d hn⊢;induction l with
 |nil=>cases d
 |cons a l ih=>
  rw[List.map_cons,jCe]at hn;rcases jAv.1 d with rfl|d
  ·simp
  ·have:(uKey a.sess==uKey x.sess)=false:=by
    rw[beq_eq_false_iff_ne];exact λe=>hn.1 (jAo.2 ⟨x,d,e.symm⟩)
   simp only[jB7,this];exact ih d hn.2
theorem xj3 {m m':Cont} {a b:Mg} (ha:MW a) (hb:MW b) (hs: ∀x∈a.ents,∃y∈b.ents,y.sess=x.sess) (hr:URep m a) (hg: ∀k,mGet k m'=vz k (mGet k m) (qn8 a b)):URep m' b:=by
 intro k hk;rw[hg,qn8,xj2 (qwj hb),hr k hk];cases hf:b.ents.find? (λx=>uKey x.sess==k)with
 |some x=>
  have d:=jD1 hf;simp only[beq_iff_eq]at d;simp only[Option.map_some];split
  ·rename_i i;rw[<- d,xqe ha i];rfl
  ·rfl
 |none=>
  simp only[Option.map_none,Option.map_eq_none_iff];rw[jCj]at hf⊢;intro x hx h;obtain⟨y,hy,e⟩:=hs x hx;exact hf y hy (by rw[e];exact h)
theorem xef (d:Int):URep kx ⟨d,[]⟩:=λk _=>rfl
theorem xeg {m m':Cont} {g:Mg} (hr:URep m g) (h: ∀k,pre uPfx k=true->mGet k m'=mGet k m):URep m' g:=λk d=>by rw[h k d,hr k d]
theorem qth {k:List UInt8}: ∀{l:List OpS},(∀o∈l,o.key≠k) -> ∀g,vz k g l=g
 | [],_,_=>rfl
 |o::l,h,g=>by rw[vz,if_neg (h o jA7),qth λx hx=>h x (jA9 _ hx)]
theorem xeh {n:Nat} {s:Sto} (h:s.Ok n) (hm:s.m.l.length<=390) {k v:List UInt8} (k1:1<=k.length) (k4:k.length<=40) (hv:v.length<=900):
  (xa s [⟨k,false,v⟩]).2=0∧(xa s [⟨k,false,v⟩]).1.Ok (n+1)∧(xa s [⟨k,false,v⟩]).1.m.l.length<=s.m.l.length+1∧ ∀k',mGet k' (xa s [⟨k,false,v⟩]).1.m=vz k' (mGet k' s.m) [⟨k,false,v⟩]:=by
 have hp:k9 ⟨k,false,v⟩=true:=vr.2 ⟨k1,k4,hv,λh=>by cases h⟩;have a1:=xg (n:=(k.length:Int)) (x7 (by omega));have a2:=xg (n:=(v.length:Int)) (x7 (by omega));have a3:=xg (n:=(([⟨k,false,v⟩]:List OpS).length:Int)) (x7 (by simp));have he:(qs [⟨k,false,v⟩]).2=0:=by
  unfold qs;rw[if_neg (by simp[hp]),if_neg];simp only[jA0,decide_eq_true_eq,not_or,wOps,wOp,qbm,jAc,List.flatMap_cons,List.flatMap_nil,jAu,List.length_cons,List.length_nil]at a3⊢;omega
 have d:(jw s.m [⟨k,false,v⟩]).2=true∧(jw s.m [⟨k,false,v⟩]).1.l.length<=s.m.l.length+1:=by
  have hl:=q90 k v s.m;rw[jw,if_neg (by simp),if_neg (by simp only;omega),jw];exact⟨rfl,hl⟩
 have hc:xa s [⟨k,false,v⟩]=(⟨wn s.file (qs [⟨k,false,v⟩]).1,s.synced,(jw s.m [⟨k,false,v⟩]).1⟩,0):=by
  unfold xa;rw[if_neg (by simp[he]),if_neg (by simp[d.1])]
 have hok:=qky h [⟨k,false,v⟩];rw[hc]at hok⊢;exact⟨rfl,hok,d.2,λk'=>qgs k' _ h.good.ok d.1⟩
theorem xj4 {r:Int} (h6:r<=6) {x:Ue} (d:EnOk r x):(qb0 x).length<=30:=by
 have h1:0<=r:=by have:=d.ml;omega
 have h64:(2:Nat)^r.toNat<=64:=jBn (jB4 (by decide) (show r.toNat<=6 by omega)) (by decide);have hp:I64 x.phase:=by
  rw[d.ph];rcases qao x with h|h|h|h<;>rw[h.1]<;>unfold I64<;>omega
 have a:=xg hp;have hb:=qec x.moved;have hc:=qec x.opened;have e1:x.moved.length=r.toNat:=by have:=d.ml;omega
 have e2:x.opened.length=r.toNat:=by have:=d.ol;omega
 rw[e1]at hb;rw[e2]at hc;have b:=xg (n:=(bitN x.moved:Int)) (by unfold I64;omega);have c:=xg (n:=(bitN x.opened:Int)) (by unfold I64;omega);simp only[qb0,jAc];omega
theorem q4p {m:Mg} {r:Int} {a c:List Ue} {y:Ue} (ha: ∀x∈a,x∈m.ents) (hc: ∀x∈c,x∈m.ents) (hy:y∉m.ents):qn8 m ⟨r,a++y::c⟩= [⟨uKey y.sess,false,qb0 y⟩]:=by
 have hn: ∀l:List Ue,(∀x∈l,x∈m.ents) ->l.flatMap (chOp m)= []:=λl hl=>by
  rw[jCn];intro x hx;rw[chOp,if_pos (hl x hx)]
 unfold qn8;simp only[jDs,List.flatMap_cons,hn a ha,hn c hc,List.nil_append,jAu];rw[chOp,if_neg hy]
structure OneStep (m b:Mg):Prop where
 mw:MW b
 roles:b.roles=m.roles
 keep: ∀x∈m.ents,∃y∈b.ents,y.sess=x.sess
 one: ∃y∈b.ents,qn8 m b= [⟨uKey y.sess,false,qb0 y⟩]
theorem OneStep.changes {m b:Mg} (hm:MW m) (h:OneStep m b):zb m b=(qn8 m b,0):=by
 have h1:jc m=true:=wk.2 hm;have h2:jc b=true:=wk.2 h.mw;unfold zb;rw[if_neg (by simp[h1,h2,h.roles]),if_neg];simp only[jB3,not_exists,not_and,jBd,jEv];intro x hx;obtain⟨y,hy,e⟩:=h.keep x hx;exact(qg3 h.mw).2 ⟨y,hy,e⟩
theorem qwk {m:Mg} {s r label:Int} (A:MW m) (F:label=1∨label=2) (h:(x8 m (we s r label)).2=0):OneStep m (x8 m (we s r label)).1:=by
 have hv:=wk.2 A;have hs:1<=s∧s<=32∧0<=r∧r<m.roles:=by
  unfold x8 at h;split at h
  ·cases h
  ·rename_i hn;rw[hv]at hn;simp only[we,qm,qf1,order,role,jEn,jDg,jA0,bne_iff_ne,ne_eq,not_or,jBd,decide_eq_true_eq]at hn;simp at hn;exact⟨hn.1.1,of_decide_eq_true hn.1.2.1,hn.1.2.2.1,hn.2⟩
 obtain⟨h1,E,h0,hr⟩:=hs;rcases qo9 m s r label A h1 E h0 hr F with e|⟨k,B,hks,_,q,_,e,he,hw⟩
 ·exact absurd h e
 ·rw[e];have p:m.ents.set k (qaz (vu (we s r label) m.ents[k]))=m.ents.take k++qaz (vu (we s r label) m.ents[k])::m.ents.drop (k+1):=by rw[List.set_eq_take_append_cons_drop,if_pos B]
  refine⟨hw,rfl,λx o=> ?_,qaz (vu (we s r label) m.ents[k]),by rw[p];simp,?_⟩
  ·obtain⟨i,hi,rfl⟩:=jCc o;by_cases hik:i=k
   ·subst hik;exact⟨_,List.mem_set B _,qht _ _⟩
   ·refine⟨m.ents[i],?_,rfl⟩;have:=List.getElem_set_ne (l:=m.ents) (i:=k) (j:=i) (a:=qaz (vu (we s r label) m.ents[k])) (Ne.symm hik) (by simpa using hi);rw[<- this];exact jAg _
  ·rw[p];refine q4p (λx o=>jBe o) (λx o=>jCd o) λv=> ?_;have o:=A.en _ (jAg B);have hy:=he;have hn:m.ents.Pairwise λa b=>a.sess≠b.sess:=by
    have hp:=A.inc;rw[jCu]at hp;exact hp.imp λh=>by omega
   have d:qaz (vu (we s r label) m.ents[k])=m.ents[k]:=by
    by_cases t:qaz (vu (we s r label) m.ents[k])=m.ents[k]
    ·exact t
    ·exact absurd (qht _ _) (qzq hn v (jAg B) t)
   have C:r.toNat<m.ents[k].moved.length:=by have:=o.ml;omega
   have u:r.toNat<m.ents[k].opened.length:=by have:=o.ol;omega
   rcases F with rfl|rfl
   ·have z:=congrArg Ue.moved d;simp only[qaz,vu,we]at z;simp only[qdl,we]at q;have:=congrArg (λl=>l.getD r.toNat false) z;simp[List.getD,C]at this q;rw[this]at q;cases q
   ·have z:=congrArg Ue.opened d;simp only[qaz,vu,we]at z;simp only[qdl,we]at q;have:=congrArg (λl=>l.getD r.toNat false) z;simp[List.getD,u]at this q;rw[this]at q;cases q
def d316:=cut prog f316 news
@[go_sem] def E316:=qj d316
def F316:=fnC d316 follows func316
def d271:=cut prog f271 news
@[go_sem] def E271:=qj d271
def F271:=fnC d271 follows func271
def d228:=cut prog f228 news
@[go_sem] def E228:=qj d228
def F228:=fnC d228 follows func228
def d146:=cut prog f146 news
@[go_sem] def E146:=qj d146
def F146:=fnC d146 follows func146
def d148:=cut prog f148 news
@[go_sem] def E148:=qj d148
def F148:=fnC d148 follows func148
def d80:=cut prog f80 news
@[go_sem] def E80:=qj d80
def F80:=fnC d80 follows func80
def d79:=cut prog f79 news
@[go_sem] def E79:=qj d79
def F79:=fnC d79 follows func79
def d25:=cut prog f25 news
@[go_sem] def E25:=qj d25
def F25:=fnC d25 follows func25
theorem xqf: ∀n:Fin 10,(([48,49,50,51,52,53,54,55,56,57,97,98,99,100,101,102,103,104,105,106,107,108,109,110,111,112,113,114,115,116,117,118,119,120,121,122]:List UInt8).drop n.val).take 1= [UInt8.ofNat (48+n.val)]:=by decide
theorem xqg (n:Nat) (hn:n<10):qf prog 316 [.d (.int .i64 (n:Nat))] [] (.d (.str [UInt8.ofNat (48+n)])) []:=by
 have h1:decide (((n:Nat):Int)<10)=true:=by simp;omega
 have h2:=xqf ⟨n,hn⟩;simp only at h2;have h3:IntKind.i64.wrap ((n:Int)+1)=((n+1:Nat):Int):=qe (show n<9223372036854775807 by omega);have h4:n+1-n=1:=by omega
 refine F316.go ?_;refine eo1 @h1 ?_;refine ya ?_;refine ez4 @h3 @jA6 @h4 @h2 ?_;omega
theorem q4r (n:Nat) (hn:n<10):qf prog 271 [.d (.int .i64 (n:Nat)),.d (.int .i64 10)] [] (.d (.str [UInt8.ofNat (48+n)])) []:=by
 have h1:decide ((0:Int)<=((n:Nat):Int))=true:=by simp
 have h2:decide (((n:Nat):Int)<100)=true:=by simp;omega
 refine F271.go ?_;refine eo ?_;refine ya ?_;refine eo2 @h1 @h2 ?_;refine ya ?_;refine eo ?_;refine cl F316 (xqg n hn) ?_;exact et
theorem xqh (n:Nat) (hn:n<10):qf prog 228 [.d (.int .i64 (n:Nat))] [] (.d (.str [UInt8.ofNat (48+n)])) []:=by
 refine F228.go ?_;refine eo ?_;refine cl F271 (q4r n hn) ?_;exact et
theorem xj5 (n:Nat) (hn:n<10):qf prog 146 [.d (.int .i64 (n:Nat))] [] (.d (.str [UInt8.ofNat (48+n)])) []:=by
 refine F146.go ?_;refine eo ?_;refine cl F228 (xqh n hn) ?_;exact et
theorem qzr (s:Int) (h1:0<=s) (h2:s<=99):qf prog 79 [.d (.int .i64 s)] [] (.d (.str (uKey s))) []:=by
 obtain⟨n,rfl⟩: ∃n:Nat,s=n:=⟨s.toNat,by omega⟩;have e1:IntKind.i64.wrap ((n:Int).tdiv 10)=((n/10:Nat):Int):=by
  rw[jB8 (by omega),xo (by unfold I64;omega)];omega
 have e2:((n:Int)).tmod 10=((n%10:Nat):Int):=by rw[jBf (by omega)];omega
 refine F79.go ?_;refine eo2 @e1 @e2 ?_;refine cl F146 (xj5 (n/10) (by omega)) ?_;refine eo ?_;refine cl F146 (xj5 (n%10) (by omega)) ?_;exact et3 @uKey.eq_1 @jA6 @jAh.{0}
def xj6 (l:List Bool) (i:{i:Nat//i<=l.length}):St:=
 ⟨[(3,true,.d (.int .i64 (bitN (l.take i.val):Nat))),(6,true,.d (.sl 1 (l.map encB))),(7,true,.d (.int .i64 l.length)),(8,true,.d (.int .i64 (i.val:Nat)))],[],[],1⟩
theorem q4s: ∀(l:List Bool) (b:Bool),bitN (l++ [b])=bitN l+b.toNat*2^l.length
 | [],b=>by simp[bitN]
 |c::l,b=>by
  rw[List.cons_append,bitN,q4s l b,bitN,List.length_cons,jCi,Nat.mul_add,<- jEx,jDx 2 b.toNat,jEx,jDx 2 (2^l.length)];omega
theorem xx8 {u i:Nat} (hu:u<2^i) (hi:i<=60):IntKind.i64.wrap (bvOr 64 (u:Int) (IntKind.i64.wrap (1*2^(min i 64))))=((u+2^i:Nat):Int):=by
 have hp:(2:Nat)^i<=2^60:=jB4 (by decide) hi;have e1:min i 64=i:=by omega
 have e2:(1:Int)*2^i=((2^i:Nat):Int):=by simp
 rw[e1,e2,xo (n:=((2^i:Nat):Int)) (by unfold I64;omega)];have e3:bvOr 64 (u:Int) ((2^i:Nat):Int)=((u|||2^i:Nat):Int):=by
  unfold bvOr;rw[BitVec.toNat_or,BitVec.ofInt_natCast,BitVec.ofInt_natCast,BitVec.toNat_ofNat,BitVec.toNat_ofNat,jBy (by omega),jBy (by omega)]
 have d:=q7o u 1 i hu;rw[Nat.one_mul]at d;rw[e3,d,xo (by unfold I64;omega)]
theorem xj7 (l:List Bool) (hl:l.length<=60):qf prog 148 [.d (.sl 1 (l.map encB))] [] (.d (.int .i64 (bitN l:Nat))) []:=by
 refine F148.go ?_;refine ez ?_;refine qg (xj6 l) (λi=>l.length-i.val) ⟨0,jAj _⟩ ?_ (λi=> ?_)
 ·simp only[xj6,List.take_zero,bitN,jAt,go_sem,simprocAttr]
 obtain⟨i,hi⟩:=i;refine eo1 @xj6.eq_1 ?_;refine xf _ (λh=> ?_) (λh=> ?_)
 ·have e:i<l.length:=by simpa using h
  have hw:=qe (show i<9223372036854775807 by omega);have m:(l.take i).length=i:=by rw[jAl];omega
  have hsn:bitN (l.take (i+1))=bitN (l.take i)+(l[i]).toNat*2^i:=by
   rw[<- jD9 e,q4s,m]
  have o:=qec (l.take i);rw[m]at o;refine eo2 (qh encB l e) @encB.eq_1 ?_;refine xf _ (λp=> ?_) (λp=> ?_)
  ·have ho:=xx8 o (show i<=60 by omega);rw[p,Bool.toNat_true,Nat.one_mul]at hsn;rw[<- hsn]at ho;refine eo2 @jA6 @ho ?_;refine⟨⟨i+1,e⟩,?_,by dsimp only;omega⟩;exact et2 @xj6.eq_1 @hw
  ·rw[p,Bool.toNat_false,jEi,Nat.add_zero]at hsn;refine ez ?_;refine⟨⟨i+1,e⟩,?_,by dsimp only;omega⟩;exact et3 @xj6.eq_1 @hw @hsn
 ·have e:l.length<=i:=by simpa using h
  exact et1 (jAq e)
theorem xqi (x:Ue) (hp:I64 x.phase) (i:x.moved.length<=60) (h:x.opened.length<=60):qf prog 80 [.d (.agg (qu x))] [] (.d (.sl 1 (qd (qb0 x)))) []:=by
 have p1:(2:Nat)^x.moved.length<=2^60:=jB4 (by decide) i;have p2:(2:Nat)^x.opened.length<=2^60:=jB4 (by decide) h;have q1:=qec x.moved;have q2:=qec x.opened;have e:I64 (bitN x.moved:Nat):=by unfold I64;omega
 have i2:I64 (bitN x.opened:Nat):=by unfold I64;omega
 have a1:=xg hp;have a2:=xg e;refine F80.go ?_;refine ez1 @qu.eq_1 ?_;refine clA F147 (k8 [] x.phase (by simp) hp) ?_;refine eo ?_;refine cl F148 (xj7 x.moved i) ?_;refine ez ?_;refine clA F147 (k8 ([]++wInt x.phase) _ (by rw[List.nil_append];omega) e) ?_;refine eo ?_;refine cl F148 (xj7 x.opened h) ?_;refine ez ?_;refine clA F147 (k8 ([]++wInt x.phase++wInt (bitN x.moved:Nat)) _ (by rw[List.nil_append,jAc];omega) i2) ?_;simp only[qb0,List.nil_append,go_sem,simprocAttr]
theorem xqj {a:Mg} (i:MW a) (x:Ue):((xj a x.sess).2&&decide (x=a.ents.getD (xj a x.sess).1 default))=decide (x∈a.ents):=by
 cases hf:(xj a x.sess).2 with
 |false=>
  have:x∉a.ents:=λh=>by
   have:=(qg3 i (s:=x.sess)).2 ⟨x,h,rfl⟩;rw[hf]at this;cases this
  simp[this]
 |true=>
  obtain⟨e,hs⟩:=qj4 hf;rw[jCr,zp e,decide_eq_decide];constructor
  ·intro h;rw[h];exact jAg e
  ·intro h;have hn:a.ents.Pairwise λa b=>a.sess≠b.sess:=by
    have hp:=i.inc;rw[jCu]at hp;exact hp.imp λh=>by omega
   by_cases d:x=a.ents[(xj a x.sess).1]
   ·exact d
   ·exact absurd hs.symm (qzq hn h (jAg e) d)
def Sch1 (a b:Mg) (i:{i:Nat//qb6 (λi=>(xj b (a.ents.getD i default).sess).2) i=true}):St:=
 ⟨[(2,true,.d (.ptr 0 0)),(3,true,.d (.ptr 1 0)),(31,true,.d (.sl 4 (a.ents.map qu))),(32,true,.d (.int .i64 a.ents.length)),(33,true,.d (.int .i64 (i.val:Nat)))],[zm a,zm b],[],1⟩
def Sch2 (a b:Mg) (i:{i:Nat//i<=b.ents.length}):St:=
 ⟨[(2,true,.d (.ptr 0 0)),(3,true,.d (.ptr 1 0)),(10,true,.own 0 3 (((b.ents.take i.val).flatMap (chOp a)).map xp)),(48,true,.d (.sl 4 (b.ents.map qu))),(49,true,.d (.int .i64 b.ents.length)),(50,true,.d (.int .i64 (i.val:Nat)))],[zm a,zm b],[0],1⟩
theorem qzs {a b:Mg}:(a.ents.any λx=> !(xj b x.sess).2)= !qb6 (λi=>(xj b (a.ents.getD i default).sess).2) a.ents.length:=by
 rw[jBl];simp only[jB3,jBd,<- jC1,zh,Classical.not_forall];constructor
 ·rintro⟨x,hx,h⟩;obtain⟨i,hi,rfl⟩:=jCc hx;exact⟨i,hi,by rw[zp hi];exact h⟩
 ·rintro⟨i,hi,h⟩;exact⟨a.ents[i],jAg hi,by rw[zp hi]at h;exact h⟩
theorem xsn (a:Mg) (l:List Ue):(l.flatMap (chOp a)).length<=l.length:=by
 induction l with
 |nil=>simp
 |cons x l ih=>
  have:(chOp a x).length<=1:=by unfold chOp;split<;>simp
  rw[List.flatMap_cons,jAc,List.length_cons];omega
theorem xei (a b:Mg) (z:a.Sm) (v:b.Sm):qf prog 25 [.d (.agg (xt a)),.d (.agg (xt b))] [] (.tup [.d (.sl 3 ((zb a b).1.map xp)),.d (.int .i64 (zb a b).2)]) []:=by
 have hal:=z.1;have hbl:=v.1;refine F25.goT ?_;refine eo1 @xt.eq_1 ?_;refine cl F69 (qdd a z) ?_;refine eo ?_;refine cl F69 (qdd b v) ?_;refine eo ?_
 (repeat(with_reducible refine ob ?_));refine xf _ (λh=> ?_) (λh=> ?_)
 ·have hx:zb a b=([],1):=by unfold zb;rw[if_pos h]
  exact et2 @hx @List.map_nil.{0,0}
 have I:=h;simp only[jA4,jCf,bne_eq_false_iff_eq]at h;obtain⟨⟨va,vb⟩,hr⟩:=h;have wa:=wk.1 va;have A:=wk.1 vb;refine ez ?_;refine qg (Sch1 a b) (λi=>a.ents.length-i.val) ⟨0,rfl⟩ ?_ (λi=> ?_)
 ·exact et3 @Sch1.eq_1 @zm.eq_1 @jAt
 obtain⟨i,hi⟩:=i;refine eo2 @Sch1.eq_1 @zm.eq_1 ?_;refine xf _ (λh=> ?_) (λh=> ?_)
 ·have o:i<a.ents.length:=by simpa using h
  have k:=qiu b (a.ents[i]).sess v;simp only[xt]at k;refine eo2 (qh qu a.ents o) @qu.eq_1 ?_
  (repeat(with_reducible refine ob ?_));refine cl F77 (k) ?_
  refine ez ?_;refine xf _ (λp=> ?_) (λp=> ?_)
  ·have hg:(λi=>(xj b (a.ents.getD i default).sess).2) i=false:=by simp only[zp o];simpa using p
   have hx:zb a b=([],1):=by
    unfold zb;rw[if_neg (by rw[I];simp),if_pos];rw[qzs,qel o hg];rfl
   exact et2 @hx @List.map_nil.{0,0}
  ·refine ez ?_;refine⟨⟨i+1,yz hi (by simp only[zp o];simpa using p)⟩,?_,by dsimp only;omega⟩;exact et3 @Sch1.eq_1 @zm.eq_1 (qe (show i<9223372036854775807 by omega))
 have o:a.ents.length<=i:=by simpa using h
 have t:qb6 (λi=>(xj b (a.ents.getD i default).sess).2) a.ents.length=true:=zh.2 λj hj=>zh.1 hi j (by omega);have hx:zb a b=(qn8 a b,0):=by
  unfold zb;rw[if_neg (by rw[I];simp),if_neg];rw[qzs,t];simp
 rw[hx];refine ez ?_;refine qg (Sch2 a b) (λi=>b.ents.length-i.val) ⟨0,jAj _⟩ ?_ (λi=> ?_)
 ·exact et6 @Sch2.eq_1 @zm.eq_1 @jAt @List.take_zero.{0} @List.flatMap_nil.{0,0} @List.map_nil.{0,0}
 obtain⟨j,hj⟩:=i;refine eo2 @Sch2.eq_1 @zm.eq_1 ?_;refine xf _ (λh=> ?_) (λh=> ?_)
 ·have l:j<b.ents.length:=by simpa using h
  have C:=v.2 _ (jAg l);have m:=A.en _ (jAg l);have G:=qiu a (b.ents[j]).sess z;have E:I64 (b.ents[j]).phase:=by
   rw[m.ph];rcases qao b.ents[j]with h|h|h|h<;>rw[h.1]<;>unfold I64<;>omega
  have B:=xqi b.ents[j] E (by have:=m.ml;have:=A.r6;omega) (by have:=m.ol;have:=A.r6;omega);simp only[qu]at B;have q:=xsn a (b.ents.take j);rw[jAl]at q;have hsnoc:(b.ents.take (j+1)).flatMap (chOp a)=(b.ents.take j).flatMap (chOp a)++chOp a b.ents[j]:=by
   rw[<- jD9 l,jDs];simp
  have e:=xqj wa b.ents[j];have hw:=qe (show j<9223372036854775807 by omega);simp only[xt]at G;refine eo2 (qh qu b.ents l) @qu.eq_1 ?_
  (repeat(with_reducible refine ob ?_));refine cl F77 (G) ?_
  refine ez ?_;cases hf:(xj a (b.ents[j]).sess).2 with
  |false=>
   rw[hf,jEh]at e;have hc:chOp a b.ents[j]= [⟨uKey b.ents[j].sess,false,qb0 b.ents[j]⟩]:=by unfold chOp;rw[if_neg (of_decide_eq_false e.symm)]
   refine eo1 @hf ?_;refine xgl ?_;refine eo ?_;refine no_ ?_;refine eo ?_;refine cl F79 (qzr (b.ents[j]).sess (by have:=m.s1;omega) (by have:=m.s32;omega)) ?_;refine eo ?_;refine cl F80 (B) ?_;refine eo ?_;refine⟨⟨j+1,l⟩,?_,by dsimp only;omega⟩;simp only[Sch2,zm,hsnoc,hc,jA2,List.map_cons,List.map_nil,xp,hw,go_sem,simprocAttr]
  |true=>
   obtain⟨u,_⟩:=qj4 hf;rw[hf,jCr,zp u]at e;generalize (xj a (b.ents[j]).sess).1=k at u e⊢;have hys:=z.2 _ (jAg u);have F:=qvp b.ents[j] a.ents[k] C;simp only[qu]at F;refine ez2 @hf @jA6 ?_;refine eo2 (qh qu a.ents u) @qu.eq_1 ?_
   (repeat(with_reducible refine ob ?_));refine cl F78 (F) ?_
   refine ez ?_;refine xf _ (λp=> ?_) (λp=> ?_)
   ·have hc:chOp a b.ents[j]= []:=by unfold chOp;rw[if_pos (of_decide_eq_true (e.symm.trans p))]
    refine ez ?_;refine⟨⟨j+1,l⟩,?_,by dsimp only;omega⟩;exact et6 @Sch2.eq_1 @zm.eq_1 @hsnoc @hc @jAu.{0} @hw
   ·have hc:chOp a b.ents[j]= [⟨uKey b.ents[j].sess,false,qb0 b.ents[j]⟩]:=by unfold chOp;rw[if_neg (of_decide_eq_false (e.symm.trans p))]
    refine eo ?_;refine cl F79 (qzr (b.ents[j]).sess (by have:=m.s1;omega) (by have:=m.s32;omega)) ?_;refine eo ?_;refine cl F80 (B) ?_;refine eo ?_;refine⟨⟨j+1,l⟩,?_,by dsimp only;omega⟩;simp only[Sch2,zm,hsnoc,hc,jA2,List.map_cons,List.map_nil,xp,hw,go_sem,simprocAttr]
 ·have l:b.ents.length<=j:=by simpa using h
  exact et2 @qn8.eq_1 (jAq l)
structure MapM (K V:Type) where
 l:List (Nat×K×V)
 c:Nat
 deriving Inhabited
section
variable {K V:Type} [DecidableEq K]
def qca (k:K) (x:Nat×K×V):Bool:=decide (k=x.2.1)
def MapM.get (m:MapM K V) (k:K):Option V:=(m.l.find? (qca k)).map (·.2.2)
def MapM.put (m:MapM K V) (k:K) (v:V):MapM K V:=match m.l.findIdx? (qca k)with
 |some j=>⟨m.l.modify j λe=>(e.1,k,v),m.c⟩
 |none=>⟨m.l++ [(m.c,k,v)],m.c+1⟩
def encE (eK:K->D) (eV:V->D) (x:Nat×K×V):Nat×D×D:=(x.1,eK x.2.1,eV x.2.2)
structure KeyE (kd:KD) (eK:K->D):Prop where
 is: ∀a n b d,qbx (eK a) (n,eK b,d)=decide (a=b)
 fit: ∀a b,kd.fit (eK a) (eK b)=true
variable {kd:KD} {eK:K→D} {eV:V→D}
theorem KeyE.findIdx (h:KeyE kd eK) (k:K) (l:List (Nat×K×V)):(l.map (encE eK eV)).findIdx? (qbx (eK k))=l.findIdx? (qca k):=by
 rw[List.findIdx?_map];congr 1;funext x;exact h.is k x.1 x.2.1 _
theorem KeyE.put (h:KeyE kd eK) (m:MapM K V) (k:K) (v:V):qh9 (eK k) (eV v) m.c (m.l.map (encE eK eV))=(m.put k v).l.map (encE eK eV):=by
 unfold qh9 MapM.put;rw[h.findIdx];cases hf:m.l.findIdx? (qca k)with
 |none=>simp[encE]
 |some j=>
  simp only;apply jC5;intro i;rw[jDk,jAn,jAn,jDk];cases m.l[i]?with
  |none=>rfl
  |some x=>
   show some (if j=i then _ else _)=some (encE eK eV (if j=i then _ else _));split<;>rfl
theorem KeyE.clock (h:KeyE kd eK) (m:MapM K V) (k:K) (v:V):qcm (eK k) m.c (m.l.map (encE eK eV))=(m.put k v).c:=by
 unfold qcm MapM.put;rw[h.findIdx];cases m.l.findIdx? (qca k)<;>rfl
theorem KeyE.find (h:KeyE kd eK) (m:MapM K V) (k:K):qbs (eK k) (m.l.map (encE eK eV))=(m.get k).map eV:=by
 unfold qbs MapM.get;rw[jFh];have:qbx (eK k)∘encE eK eV=qca k:=by
  funext x;exact h.is k x.1 x.2.1 _
 rw[this];cases m.l.find? (qca k)<;>rfl
theorem KeyE.keyFit (h:KeyE kd eK) (k:K) (l:List (Nat×K×V)):keyFit kd (eK k) (l.map (encE eK eV))=true:=by
 simp only[Go.Abs.keyFit,h.fit,jCr,List.all_map];exact jAx.2 λx _=>h.fit _ _
theorem MapM.get_put (m:MapM K V) (k k':K) (v:V):(m.put k v).get k'=if k'=k then some v else m.get k':=by
 unfold MapM.put MapM.get;cases hf:m.l.findIdx? (qca k)with
 |none=>
  have hn: ∀x∈m.l,qca k x=false:=by
   intro x o;have:=jD7.1 hf x o;simpa using this
  simp only[jDm,jB7,List.find?_nil];by_cases d:k'=k
  ·subst d;have:m.l.find? (qca k')=none:=jCj.2 λx o=>by simp[hn x o]
   simp[this,qca]
  ·simp only[if_neg d];have:qca k' (m.c,k,v)=false:=by simp[qca,d]
   rw[this];cases m.l.find? (qca k')<;>rfl
 |some j=>
  obtain⟨h,o,hb⟩:=List.findIdx?_eq_some_iff_getElem.1 hf;have p:(m.l[j]).2.1=k:=by simpa[qca,eq_comm]using o
  simp only;have t: ∀(l:List (Nat×K×V)) (j:Nat) (h:j<l.length),(l[j]).2.1=k->(∀i (hi:i<j),(l[i]'(by omega)).2.1≠k) ->
    ((l.modify j λe=>(e.1,k,v)).find? (qca k')).map (·.2.2)=if k'=k then some v else(l.find? (qca k')).map (·.2.2):=by
   intro l;induction l with
   |nil=>intro j h;simp at h
   |cons e l ih=>
    intro j h q u;cases j with
    |zero=>
     simp only[List.getElem_cons_zero]at q;simp only[jE5,jB7];by_cases d:k'=k
     ·subst d;simp[qca]
     ·simp[qca,d,q]
    |succ j=>
     simp only[jE6,jB7];have h0:e.2.1≠k:=by simpa using u 0 (by omega)
     have hr:=ih j (by simpa using h) (by simpa using q) (λi hi=>by simpa using u (i+1) (by omega));by_cases d:k'=e.2.1
     ·subst d;simp[qca,h0]
     ·have:qca k' e=false:=by simp[qca,d]
      simp only[this];exact hr
  exact t m.l j h p λi hi=>by
   have:=hb i hi;simpa[qca,eq_comm]using this
end
structure Pr where
 s:Int
 f:Int
 t:Int
 deriving DecidableEq,Inhabited
structure Tk where
 p:Pr
 n:Int
 deriving DecidableEq,Inhabited
structure TryM where
 count:Int
 next:Int
 deriving DecidableEq,Inhabited
structure OutM where
 to:Int
 p:Pk
 deriving DecidableEq,Inhabited
def qle (p:Pr):D:= .agg [.int .i64 p.s,.int .i64 p.f,.int .i64 p.t]
def qzt (t:Tk):D:= .agg [.int .i64 t.p.s,.int .i64 t.p.f,.int .i64 t.p.t,.int .i64 t.n]
def qmy (y:TryM):D:= .agg [.int .i64 y.count,.int .i64 y.next]
def vg (o:OutM):List D:= .int .i64 o.to::qi o.p
theorem qpa (o:OutM):D.noPtrL (vg o)=true:=by simp only[vg,D.noPtrL,D.noPtr,qfa,jBu]
theorem qoa: ∀l:List OutM,D.noPtrR (l.map vg)=true
 | []=>rfl
 |o::l=>by simp only[List.map_cons,D.noPtrR,qpa,qoa l,jBu]
attribute [go_sem] qpa qoa
theorem qzu:KeyE (.agg [.int,.int,.int]) qle:=by
 refine⟨λa n b d=> ?_,λa b=>rfl⟩;cases a;cases b;simp only[qbx,qle,zq,qh3,Pr.mk.injEq,jEd,Bool.decide_and];try rfl
theorem qzv:KeyE (.agg [.int,.int,.int,.int]) qzt:=by
 refine⟨λa n b d=> ?_,λa b=>rfl⟩;obtain⟨⟨a1,a2,a3⟩,a4⟩:=a;obtain⟨⟨b1,b2,b3⟩,b4⟩:=b;simp only[qbx,qzt,zq,qh3,Tk.mk.injEq,Pr.mk.injEq,jEd,Bool.decide_and,jFk];rfl
structure Brk where
 roles:Int
 sess:Int
 s:Sto
 q:MapM Pr Qu
 m:Mg
 p:List OutM
 t:MapM Tk TryM
def qft (q:Qu):D:= .agg (encQ q)
def qmO (m:MapM Pr Qu):AObj:= .map (m.l.map (encE qle qft)) m.c
def tmO (m:MapM Tk TryM):AObj:= .map (m.l.map (encE qzt qmy)) m.c
def qq (b:Brk):List ASlot:= [.d (.int .i64 b.roles),.d (.int .i64 b.sess),.d (.ptr 1 0),.d (.map 3),.d (.int .i64 b.m.roles),.d (.sl 4 (b.m.ents.map qu)),.own 0 10 (b.p.map vg),.d (.map 4)]
def brO (b:Brk):List AObj:= [.row (qq b),stoO b.s 2,mapO b.s.m,qmO b.q,tmO b.t]
def afB (b b':Brk):Bool->List AObj
 |true=> [.row (qq b'),stoO b'.s 5,mapO b.s.m,qmO b'.q,tmO b'.t,mapO b'.s.m]
 |false=> [.row (qq b'),stoO b'.s 2,mapO b'.s.m,qmO b'.q,tmO b'.t,.none]
def lkQ:Option Qu->D
 |some q=>qft q
 |none=> .agg [.int .i64 0,.int .i64 0,.nilsl]
def noQ:Qu:=⟨0,0,[]⟩
def Brk.queue (b:Brk) (k:Pr):Qu:=(b.q.get k).getD noQ
theorem xu6 (m:MapM Pr Qu) (s f t:Int):qfp false (.d (.agg [.int .i64 0,.int .i64 0,.nilsl])) (qbs (.agg [.int .i64 s,.int .i64 f,.int .i64 t]) (m.l.map (encE qle qft)))= .d (lkQ (m.get ⟨s,f,t⟩)):=by
 have:=qzu.find (eV:=qft) m ⟨s,f,t⟩;simp only[qle]at this;rw[this];cases m.get ⟨s,f,t⟩<;>rfl
theorem xqk (m:MapM Pr Qu) (s f t:Int):keyFit (.agg [.int,.int,.int]) (.agg [.int .i64 s,.int .i64 f,.int .i64 t]) (m.l.map (encE qle qft))=true:=qzu.keyFit ⟨s,f,t⟩ m.l
theorem xzq (m:MapM Pr Qu) (s f t:Int) (q:Qu):qh9 (.agg [.int .i64 s,.int .i64 f,.int .i64 t]) (.agg [.int .i64 q.acc,.int .i64 q.cons,.sl 9 (q.items.map qi)]) m.c (m.l.map (encE qle qft))=(m.put ⟨s,f,t⟩ q).l.map (encE qle qft):=qzu.put (eV:=qft) m ⟨s,f,t⟩ q
theorem q8h (m:MapM Pr Qu) (s f t:Int) (q:Qu):qcm (.agg [.int .i64 s,.int .i64 f,.int .i64 t]) m.c (m.l.map (encE qle qft))=(m.put ⟨s,f,t⟩ q).c:=qzu.clock (eV:=qft) m ⟨s,f,t⟩ q
theorem xu7 (m:MapM Tk TryM) (s f t n:Int):qfp true (.d (.agg [.int .i64 0,.int .i64 0])) (qbs (.agg [.int .i64 s,.int .i64 f,.int .i64 t,.int .i64 n]) (m.l.map (encE qzt qmy)))=
  .tup [.d (.agg [.int .i64 ((m.get ⟨⟨s,f,t⟩,n⟩).getD ⟨0,0⟩).count,.int .i64 ((m.get ⟨⟨s,f,t⟩,n⟩).getD ⟨0,0⟩).next]),.d (.bool (m.get ⟨⟨s,f,t⟩,n⟩).isSome)]:=by
 have:=qzv.find (eV:=qmy) m ⟨⟨s,f,t⟩,n⟩;simp only[qzt]at this;rw[this];cases m.get ⟨⟨s,f,t⟩,n⟩<;>rfl
theorem xql (m:MapM Tk TryM) (s f t n:Int):keyFit (.agg [.int,.int,.int,.int]) (.agg [.int .i64 s,.int .i64 f,.int .i64 t,.int .i64 n]) (m.l.map (encE qzt qmy))=true:=qzv.keyFit ⟨⟨s,f,t⟩,n⟩ m.l
theorem xzr (m:MapM Tk TryM) (s f t n:Int) (c x:Int):qh9 (.agg [.int .i64 s,.int .i64 f,.int .i64 t,.int .i64 n]) (.agg [.int .i64 c,.int .i64 x]) m.c (m.l.map (encE qzt qmy))=(m.put ⟨⟨s,f,t⟩,n⟩ ⟨c,x⟩).l.map (encE qzt qmy):=qzv.put (eV:=qmy) m ⟨⟨s,f,t⟩,n⟩ ⟨c,x⟩
theorem xj8 (m:MapM Tk TryM) (s f t n:Int) (c x:Int):qcm (.agg [.int .i64 s,.int .i64 f,.int .i64 t,.int .i64 n]) m.c (m.l.map (encE qzt qmy))=(m.put ⟨⟨s,f,t⟩,n⟩ ⟨c,x⟩).c:=qzv.clock (eV:=qmy) m ⟨⟨s,f,t⟩,n⟩ ⟨c,x⟩
attribute [go_sem] xu6 xqk xu7 xql xzq xzr
theorem xj9 (o:Option Qu):(lkQ o).noPtr=true:=by
 cases o with
 |none=>rfl
 |some q=>simp only[lkQ,qft,encQ,go_sem]
theorem qzw (o:Option Qu):D.eqv (lkQ o) (.agg (encQ (o.getD noQ))):=by
 cases o with
 |none=>exact(by simp only[lkQ,encQ,noQ,Option.getD_none,List.map_nil,go_sem])
 |some q=>exact D.eqv_refl _
attribute [go_sem] xj9
def d103:=cut prog f103 news
@[go_sem] def E103:=qj d103
def F103:=fnC d103 follows func103
def d192:=cut prog f192 news
@[go_sem] def E192:=qj d192
def F192:=fnC d192 follows func192
def d107:=cut prog f107 news
@[go_sem] def E107:=qj d107
def F107:=fnC d107 follows func107
def d20:=cut prog f20 news
@[go_sem] def E20:=qj d20
def F20:=fnC d20 follows func20
def d131:=cut prog f131 news
@[go_sem] def E131:=qj d131
def F131:=fnC d131 follows func131
def d64:=cut prog f64 news
@[go_sem] def E64:=qj d64
def F64:=fnC d64 follows func64
def posB (r s:Int):Bool:=decide (r≥1)&&decide (r<=6)&&decide (s≥1)&&decide (s<=32)&&decide (IntKind.wrap .i64 (s*IntKind.wrap .i64 (IntKind.wrap .i64 (IntKind.wrap .i64 (5*r)*IntKind.wrap .i64 (r-1))+1))<=400)
theorem qti (r s:Int):qf prog 103 [.d (.int .i64 r),.d (.int .i64 s)] [] (.d (.bool (posB r s))) []:=by
 refine F103.go ?_;exact et1 @posB.eq_1
def dig (d:Nat):List UInt8:= [UInt8.ofNat (48+d)]
theorem qqa (d:Nat) (hd:d<10):qf prog 192 [.d (.int .i64 (d:Nat))] [] (.d (.str (dig d))) []:=by
 refine F192.go ?_;have e: ∀d:Fin 10,(Utf8.encode (IntKind.i32.wrap (IntKind.i64.wrap (48+((d.val:Nat):Int))))).data.toList= [UInt8.ofNat (48+d.val)]:=by decide
 have e:=e ⟨d,hd⟩;simp only at e;exact et2 @dig.eq_1 @e
def jh (s f t:Nat):List UInt8:= [113,47]++dig (s/10)++dig (s%10)++ [47]++dig f++ [47]++dig t
theorem xka (s f t:Nat) (hs:s<100) (hf:f<10) (ht:t<10):qf prog 107 [.d (.agg [.int .i64 (s:Nat),.int .i64 (f:Nat),.int .i64 (t:Nat)])] [] (.d (.str (jh s f t))) []:=by
 have w1:IntKind.i64.wrap ((s:Int).tdiv 10)=((s/10:Nat):Int):=by rw[show((s:Int).tdiv 10)=((s/10:Nat):Int)from by rw[jB8 (by omega)];rfl];exact wrap_i64 (by omega) (by omega)
 have w2:IntKind.i64.wrap ((s:Int).tmod 10)=((s%10:Nat):Int):=by rw[show((s:Int).tmod 10)=((s%10:Nat):Int)from by rw[jBf (by omega)];rfl];exact wrap_i64 (by omega) (by omega)
 have l:=qqa (s/10) (by omega);have i:=qqa (s%10) (by omega);have h:=qqa f hf;have e:=qqa t ht;refine F107.go ?_;simp only[dig]at l i h e;refine eo1 @w1 ?_;refine cl F192 (l) ?_;refine eo1 @w2 ?_;refine cl F192 (i) ?_;refine eo ?_;refine cl F192 (h) ?_;refine eo ?_;refine cl F192 (e) ?_;exact et2 @jh.eq_1 @dig.eq_1
def qtj (p:Pk):Pk:=⟨2,p.sess,0,p.from_,p.to,p.seq,0,[],[]⟩
def noPk:Pk:=⟨0,0,0,0,0,0,0,[],[]⟩
def qfu (p:Pk):Pk×Int:=if !(p.kind==1)|| !qm p then(noPk,1)else(qtj p,0)
theorem xqm (p:Pk) (hp:p.Sm):qf prog 20 [.d (.agg (qi p))] [] (.tup [.d (.agg (qi (qfu p).1)),.d (.int .i64 (qfu p).2)]) []:=by
 refine F20.goT ?_;refine ez1 @qi.eq_1 ?_;cases hk:(p.kind==1)with
 |false=>
  have hb:(p.kind !=1)=true:=by simpa using hk
  have hx:qfu p=(noPk,1):=by unfold qfu;rw[hk];rfl
  refine eo1 @hb ?_;refine xgl ?_;refine eo ?_;refine ya ?_;exact et3 @hx @noPk.eq_1 @List.map_nil.{0,0}
 |true=>
  have hb:(p.kind !=1)=false:=by simpa using hk
  refine eo1 @hb ?_;refine cl F70 (wh p hp.v hp.c) ?_;refine eo ?_;refine xf _ (λh=> ?_) (λh=> ?_)
  ·have hx:qfu p=(noPk,1):=by unfold qfu;rw[if_pos (by simp[h])]
   exact et3 @hx @noPk.eq_1 @List.map_nil.{0,0}
  ·have hx:qfu p=(qtj p,0):=by unfold qfu;rw[if_neg (by simp[hk,h])]
   exact et3 @hx @qtj.eq_1 @List.map_nil.{0,0}
def qeq (c:Int):Int:=if c<1 then 0 else if c=1 then 8 else if c=2 then 16 else if c=3 then 32 else 64
theorem q8i (c:Int) (hc:c<=1000000):qf prog 131 [.d (.int .i64 c)] [] (.d (.int .i64 (qeq c))) []:=by
 refine F131.go ?_;refine eo ?_;refine xf _ (λh=> ?_) (λh=> ?_)
 ·have hx:qeq c=0:=by unfold qeq;rw[if_pos (by simpa using h)]
  exact et1 @hx
 ·have h0: ¬c<1:=by simpa using h
  have hw:IntKind.i64.wrap (c-1)=c-1:=wrap_i64 (by omega) (by omega);refine ez1 @hw ?_;refine⟨by split<;>omega,?_⟩
  by_cases l:c=1
  ·subst l;decide
  by_cases i:c=2
  ·subst i;decide
  by_cases e:c=3
  ·subst e;decide
  by_cases h4:c=4
  ·subst h4;decide
  ·unfold qeq;rw[if_neg h0,if_neg l,if_neg i,if_neg e,if_pos (by omega)];decide
theorem xqn (b:Brk):qf prog 64 [.d (.ptr 0 0)] (brO b) (.d (.func (.func 130) [] [.ptr 5 0])) (brO b++ [.row [.d (.ptr 0 0)]]):=by
 refine F64.go ?_;exact et6 @brO.eq_1 @qq.eq_1 @stoO.eq_1 @mapO.eq_1 @qmO.eq_1 @tmO.eq_1
theorem qbf:kw xx=true:=by decide
theorem q8j {p q r:Pk} (h1:qj9 p r=true) (h2:qj9 q r=true):qj9 p q=true:=by
 simp only[qj9,jAf,beq_iff_eq]at*;grind
theorem qhv {p:Pk} (h:qbv p=true):p.kind=1∧qm p=true∧1<=p.seq∧p.seq<=1099511627776∧1<=p.sess∧p.sess<=32∧0<=p.from_∧p.from_<6∧0<=p.to∧p.to<6∧p.from_≠p.to:=by
 simp only[qbv,jAf,beq_iff_eq]at h;obtain⟨e,d⟩:=h;refine⟨e,d,?_⟩;simp only[qm,qf1,e,if_true,data,qdi,role,jAf,decide_eq_true_eq,bne_iff_ne,ne_eq]at d;grind
theorem qhw (q:Qu) (seq:Int):kw (zc q seq).1=true:=by
 unfold zc;by_cases m:kw q=true
 ·have h:=(qbo q).1 m;simp only[m,jEn,jAw,if_false];split
  ·exact qbf
  ·rcases jC7 q.items.length with e|e
   ·simp only[e,jDw,beq_self_eq_true,jFc,if_true];exact qbf
   ·have hs:=(h.item 0 e).2.2;have h1:=h.lo;have h2:=h.le;have h3:=h.hi;have h4:=h.len;have h5:=h.few;have o:(q.items.getD 0 default).seq=q.cons+1:=by rw[zp e,hs];simp
    rw[o];split
    ·exact qbf
    ·rename_i hc;have d:seq=q.cons+1:=by simp at hc;exact hc.2
     subst d;refine(qbo _).2 ⟨by dsimp only;omega,by dsimp only;omega,h3,by simp only[jAp];omega,by simp only[jAp];omega,λi hi=> ?_⟩;simp only[jAp]at hi;obtain⟨m1,m2,m3⟩:=h.item (1+i) (by omega);obtain⟨n1,n2,n3⟩:=h.item 1 (by omega);simp only[List.getElem_drop,Nat.add_zero];exact⟨m1,q8j m2 n2,by rw[m3];omega⟩
 ·have l:kw q=false:=by simpa using m
  simp only[l,jDj,if_true];exact qbf
theorem qmz {q:Qu} {p:Pk} (h:(zu q p).2=0):kw q=true∧qbv p=true∧(q.items≠ [] ->qj9 p (q.items.getD 0 default)=true)∧p.seq=q.acc+1∧q.items.length≠4∧(zu q p).1=⟨p.seq,q.cons,q.items++ [p]⟩:=by
 unfold zu at h⊢;split at h
 ·cases h
 rename_i d;split at h
 ·cases h
 rename_i c1;split at h
 ·cases h
 rename_i c2;split at h
 ·cases h
 rename_i c3;rw[if_neg d,if_neg c1,if_neg c2,if_neg c3];simp only[jA0,jBd,jAf,decide_eq_true_eq,not_or,jEv,not_and]at d;obtain⟨⟨l,v2⟩,v3⟩:=d;have e:=(qbo q).1 l;have h1:=e.lo;have h2:=e.le;have h3:=e.hi;have hw:IntKind.i64.wrap (q.acc+1)=q.acc+1:=wrap_i64 (by omega) (by omega);rw[hw]at c2;simp only[decide_eq_true_eq,beq_iff_eq]at c1 c2 c3;refine⟨l,v2,λi=>v3 ?_,by omega,by omega,rfl⟩;have:=jCl.2 i;omega
theorem xa3 {q:Qu} {p:Pk} (h:(zu q p).2≠0):(zu q p).1=xx:=by
 revert h;unfold zu;split
 ·intro _;rfl
 split
 ·intro _;rfl
 split
 ·intro _;rfl
 split
 ·intro _;rfl
 ·intro h;exact absurd rfl h
theorem qhx (q:Qu) (p:Pk):kw (zu q p).1=true:=by
 by_cases e:(zu q p).2=0
 ·obtain⟨v1,o,v3,hs,hn4,he⟩:=qmz e;rw[he];have h:=(qbo q).1 v1;have h1:=h.lo;have h2:=h.le;have h3:=h.hi;have u:=h.len;have h5:=h.few;have hm:=qhv o;refine(qbo _).2 ⟨h1,by dsimp only;omega,by dsimp only;omega,by simp only[jAc,List.length_cons,List.length_nil];omega,by simp only[jAc,List.length_cons,List.length_nil];omega,λi hi=> ?_⟩;simp only[jAc,List.length_cons,List.length_nil]at hi;by_cases m:i<q.items.length
  ·obtain⟨m1,m2,m3⟩:=h.item i m;simp only[jCk m,jCk (show 0<q.items.length by omega)];exact⟨m1,m2,m3⟩
  ·have t:i=q.items.length:=by omega
   subst t;rcases jC7 q.items.length with e|e
   ·have d:q.items= []:=jAy e;simp only[d,List.nil_append,List.length_nil,List.getElem_cons_zero];refine⟨o,by simp[qj9],?_⟩;rw[d]at u;simp at u;omega
   ·have l:=v3 (jCl.1 e);rw[zp e]at l;simp only[List.getElem_append_right (jAi _),jCk e,jDe,List.getElem_cons_zero];exact⟨o,l,by omega⟩
 ·rw[xa3 e];exact qbf
theorem qlf {q:Qu} {s:Int} (h:(zc q s).2=0):kw q=true∧q.items≠ []∧s=q.cons+1∧(zc q s).1=⟨q.acc,s,q.items.drop 1⟩:=by
 unfold zc at h⊢;split at h
 ·cases h
 rename_i i;split at h
 ·cases h
 rename_i c1;split at h
 ·cases h
 rename_i c2;rw[if_neg i,if_neg c1,if_neg c2];have e:kw q=true:=by simpa using i
 have hq:=(qbo q).1 e;have d:0<q.items.length:=by
  simp only[jA0,beq_iff_eq,not_or]at c2;omega
 have hs:=(hq.item 0 d).2.2;simp only[jA0,bne_iff_ne,ne_eq,not_or,Decidable.not_not,zp d,hs]at c2;exact⟨e,jCl.1 d,by have:=c2.2;omega,rfl⟩
theorem qwl {q:Qu} {s:Int} (h:(zc q s).2≠0):(zc q s).1=xx:=by
 revert h;unfold zc;split
 ·intro _;rfl
 split
 ·intro _;rfl
 split
 ·intro _;rfl
 ·intro h;exact absurd rfl h
theorem qhy {q:Qu} (h:kw q=true):q.Sm:=by
 have d:=(qbo q).1 h;refine⟨by have:=d.few;omega,λp hp=> ?_⟩;obtain⟨i,hi,rfl⟩:=jCc hp;have:=qir (qhv (d.item i hi).1).2.1;exact⟨by omega,by omega⟩
theorem qqb:xx.W:=⟨by simp[xx,I64],by simp[xx,I64],by simp[xx]⟩
theorem xx9 {q:Qu} (h:kw q=true):I64 q.acc∧I64 q.cons:=(quj h).I
theorem q8k {q:Qu} {p:Pk} (hq:q.W) (hp:p.W):(zu q p).1.W:=by
 by_cases e:(zu q p).2=0
 ·have he:=(qmz e).2.2.2.2.2;have hi:=xx9 (qhx q p);rw[he]at hi⊢;refine⟨hi.1,hi.2,λx d=> ?_⟩;rcases jAs.1 d with d|d
  ·exact hq.p x d
  ·simp only[jAv,jBk,or_false]at d;subst d;exact hp
 ·rw[xa3 e];exact qqb
theorem q4t {q:Qu} {s:Int} (hq:q.W):(zc q s).1.W:=by
 by_cases d:(zc q s).2=0
 ·have he:=(qlf d).2.2.2;have hi:=xx9 (qhw q s);rw[he]at hi⊢;exact⟨hi.1,hi.2,λx hx=>hq.p x (jCd hx)⟩
 ·rw[qwl d];exact qqb
theorem xu8: ∀a b:Fin 10,dig a.val=dig b.val->a=b:=by decide
theorem qqc {a b:Nat} (ha:a<10) (hb:b<10) (h:dig a=dig b):a=b:=by
 have:=xu8 ⟨a,ha⟩ ⟨b,hb⟩ h;simpa using this
theorem qe0 (s f t:Nat):(jh s f t).length=8:=rfl
theorem xej {s f t s' f' t':Nat} (hs:s<100) (hf:f<10) (ht:t<10) (hs':s'<100) (e:f'<10) (d:t'<10) (h:jh s f t=jh s' f' t'):s=s'∧f=f'∧t=t':=by
 simp only[jh,dig,List.cons_append,List.nil_append,jE9,and_true,true_and]at h;obtain⟨h1,h2,h3,h4⟩:=h;have e1:=qqc (a:=s/10) (b:=s'/10) (by omega) (by omega) (by simp[dig,h1]);have e2:=qqc (a:=s%10) (b:=s'%10) (by omega) (by omega) (by simp[dig,h2]);have e3:=qqc hf e (by simp[dig,h3]);have e4:=qqc ht d (by simp[dig,h4]);omega
def Pr.name (x:Pr):List UInt8:=jh x.s.toNat x.f.toNat x.t.toNat
structure PrOk (n ss:Nat) (x:Pr):Prop where
 s1:1<=x.s
 s2:x.s<=ss
 f0:0<=x.f
 f1:x.f<n
 t0:0<=x.t
 t1:x.t<n
 ne:x.f≠x.t
theorem xu9 {n ss:Nat} (hn:n<=6) (hss:ss<=32) {x y:Pr} (hx:PrOk n ss x) (hy:PrOk n ss y) (h:x≠y) (a b:List UInt8) (ha:a.length=2) (hb:b.length=2):x.name++a≠y.name++b:=by
 intro he;have:=(List.append_inj he (by simp[Pr.name,qe0])).1;obtain⟨x1,x2,x3⟩:=x;obtain⟨y1,y2,y3⟩:=y;obtain⟨a1,a2,a3,a4,a5,a6,a7⟩:=hx;obtain⟨b1,b2,b3,b4,b5,b6,b7⟩:=hy;simp only at a1 a2 a3 a4 a5 a6 b1 b2 b3 b4 b5 b6;obtain⟨e1,e2,e3⟩:=xej (by simp only;omega) (by simp only;omega) (by simp only;omega) (by simp only;omega) (by simp only;omega) (by simp only;omega) this;simp only at e1 e2 e3;exact h (by rw[Pr.mk.injEq];omega)
theorem xa4 (x:Pr) (a:List UInt8):pre uPfx (x.name++a)=false:=rfl
theorem qob (x:Pr):qdu x.name=true:=by simp[qdu,Pr.name,qe0]
theorem q4u {n:Nat} {s:Sto} (h:s.Ok n) (hn:s.m.l.length<=390) {a b:Qu} {name:List UInt8} (hb:QV b) (wb:b.W) (hm:name.length<=30) (d:vl a b name 4≠ []):
  (xa s (vl a b name 4)).2=0∧(xa s (vl a b name 4)).1.Ok (n+1)∧(xa s (vl a b name 4)).1.m.l.length<=s.m.l.length+5∧ ∀k,mGet k (xa s (vl a b name 4)).1.m=vz k (mGet k s.m) (vl a b name 4):=by
 have he:=xae hb wb hm d;have hl:=qff a b name 4;obtain⟨e,y2⟩:=qjx (vl a b name 4) s.m (by omega);have hc:xa s (vl a b name 4)=(⟨wn s.file (qs (vl a b name 4)).1,s.synced,(jw s.m (vl a b name 4)).1⟩,0):=by
  unfold xa;rw[if_neg (by simp[he]),if_neg (by simp[e])]
 have hok:=qky h (vl a b name 4);rw[hc]at hok⊢;exact⟨rfl,hok,by simp only;omega,λk=>qgs k _ h.good.ok e⟩
theorem xqo {m m':Cont} {name:List UInt8} {q:Qu} (e:Rep m name q) (h: ∀a:List UInt8,a.length=2->mGet (name++a) m'=mGet (name++a) m):Rep m' name q:=
 ⟨(h [47,110] rfl).trans e.1,λd hd=>(h [47,UInt8.ofNat (48+d)] rfl).trans (e.2 d hd)⟩
def qd1 (n:Int) (r:Nat):List Bool×Bool:=if n<0 then([],false)else(k7 r n.toNat,decide (n.toNat/2^r=0))
theorem qqd {n:Int} {r:Nat}:(qd1 n r).2=true↔0<=n∧n<=((2^r-1:Nat):Int):=by
 have hp:1<=2^r:=Nat.one_le_two_pow;unfold qd1;split
 ·simp;omega
 ·simp only[decide_eq_true_eq,Nat.div_eq_zero_iff];omega
theorem xkd {r:Rd} {lo hi:Int} (h:(xc lo hi r).2.failed=false):js r=xc lo hi r∧lo<=(xc lo hi r).1∧(xc lo hi r).1<=hi:=by
 unfold xc qb8 at h⊢;unfold js qb8;by_cases i:r.failed=true
 ·rw[if_pos i]at h;rw[i]at h;cases h
 ·rw[if_neg i]at h;rw[if_neg i,if_neg i];by_cases e:(xl lo hi r).2.failed=true
  ·rw[if_pos e]at h;simp only at h;rw[e]at h;cases h
  ·rw[if_neg e];have m:=qbb (by simpa using e:(xl lo hi r).2.failed=false);refine⟨?_,m⟩;simp only[xl,Rd.fail,jC1,jA4]at e;obtain⟨⟨l,h2⟩,h3⟩:=e;rw[if_neg (by simp[l])];simp only[xl,Rd.fail,l,h2,h3,jFs];generalize hx:rInt r=x at l⊢;obtain⟨a,b,c,d⟩:=x;simp only at l;subst l;rfl
theorem xke {r:Rd} {lo hi:Int} (h:(js r).2.failed=false) (o:lo<=(js r).1) (m:(js r).1<=hi):xc lo hi r=js r:=by
 unfold js qb8 at h o m⊢;unfold xc qb8;by_cases l:r.failed=true
 ·rw[if_pos l]at h;rw[l]at h;cases h
 ·rw[if_neg l]at h o m;rw[if_neg l,if_neg l];by_cases i:(rInt r).2.failed=true
  ·rw[if_pos i]at h;simp only at h;rw[i]at h;cases h
  ·rw[if_neg i]at o m⊢;have e:(rInt r).2.failed=false:=by simpa using i
   have d1:decide ((rInt r).1<lo)=false:=by simp;omega
   have d2:decide ((rInt r).1>hi)=false:=by simp;omega
   have hb:xl lo hi r=rInt r:=by
    simp only[xl,Rd.fail,e,d1,d2,jFs];generalize rInt r=x at e⊢;obtain⟨a,b,c,d⟩:=x;simp only at e;subst e;rfl
   rw[hb,if_neg i]
theorem q8l {r:Rd} (h:(js r).2.failed=false):r.failed=false:=by
 unfold js qb8 at h;by_cases d:r.failed=true
 ·rw[if_pos d]at h;exact h
 ·simpa using d
theorem q8m {r:Rd} {lo hi:Int} (h:(xc lo hi r).2.failed=false):r.failed=false:=by
 unfold xc qb8 at h;by_cases d:r.failed=true
 ·rw[if_pos d]at h;exact h
 ·simpa using d
theorem qtk {r:Rd} (h:rEnd r=0):r.failed=false:=by
 unfold rEnd at h;cases hf:r.failed with
 |false=>rfl
 |true=>rw[hf]at h;simp at h
def rv1 (v:List UInt8):Int×Rd:=js ⟨v,0,false⟩
def rv2 (v:List UInt8):Int×Rd:=js (rv1 v).2
def rv3 (v:List UInt8):Int×Rd:=js (rv2 v).2
def rVal (r:Nat) (s:Int) (v:List UInt8):Option Ue:=
 if(rEnd (rv3 v).2 !=0|| !(qd1 (rv2 v).1 r).2|| !(qd1 (rv3 v).1 r).2)=true then none else some ⟨s,(rv1 v).1,(qd1 (rv2 v).1 r).1,(qd1 (rv3 v).1 r).1⟩
theorem xvc (r:Nat) (s:Int) (v:List UInt8):xed (r:Int) s v=rVal r s v:=by
 have p:ldN (r:Int)=((2^r-1:Nat):Int):=by rw[qtf,jA6]
 unfold xed rVal;by_cases o:rEnd (ldRd (r:Int) v).2=0
 ·rw[if_pos o];have q:=qtk o;have f2:=q8m q;obtain⟨z,m,e⟩:=xkd f2;obtain⟨u,l,d⟩:=xkd q;have i:rv2 v=xc 0 (ldN (r:Int)) (js ⟨v,0,false⟩).2:=z;have h:rv3 v=xc 0 (ldN (r:Int)) (xc 0 (ldN (r:Int)) (js ⟨v,0,false⟩).2).2:=by rw[rv3,i];exact u
  rw[p]at e d;rw[p]at m l;have t:rEnd (rv3 v).2=0:=by rw[h];exact o
  rw[<- p]at m e l d;rw[<- i]at m e;rw[<- h]at l d;rw[p]at e d;have b2:=qqd.2 ⟨m,e⟩;have b3:=qqd.2 ⟨l,d⟩;rw[if_neg (by rw[t,b2,b3];decide)];have r2:(qd1 (rv2 v).1 r).1=k7 r (rv2 v).1.toNat:=by unfold qd1;rw[if_neg (by omega)]
  have r3:(qd1 (rv3 v).1 r).1=k7 r (rv3 v).1.toNat:=by unfold qd1;rw[if_neg (by omega)]
  rw[r2,r3];have hx:(ldRd (r:Int) v).1=((rv1 v).1,(rv2 v).1,(rv3 v).1):=by rw[i,h];simp only[ldRd,rv1]
  rw[hx];simp only[q4n,jA6]
 ·rw[if_neg o];by_cases hc:(rEnd (rv3 v).2 !=0|| !(qd1 (rv2 v).1 r).2|| !(qd1 (rv3 v).1 r).2)=true
  ·rw[if_pos hc]
  ·exfalso;simp only[jA0,jBd,not_or,jEv,bne_iff_ne,ne_eq,Decidable.not_not]at hc;obtain⟨⟨A,h2⟩,h3⟩:=hc;have q:=qtk A;have f2:=q8l q;obtain⟨m,e⟩:=qqd.1 h2;obtain⟨l,d⟩:=qqd.1 h3;rw[<- p]at e d;have z:xc 0 (ldN (r:Int)) (rv1 v).2=rv2 v:=xke f2 m e;have u:xc 0 (ldN (r:Int)) (rv2 v).2=rv3 v:=xke q l d;refine o ?_;have:(ldRd (r:Int) v).2=(xc 0 (ldN (r:Int)) (xc 0 (ldN (r:Int)) (rv1 v).2).2).2:=rfl;rw[this,z,u,A]
def qjf (k:List UInt8):Nat:=(qc2 k).getD 0
def rEn (r:Nat) (e:En):Option Ue:=rVal r (qjf e.1:Nat) e.2
def rAll (r:Nat):List En->Option (List Ue)
 | []=>some []
 |e::l=>match rEn r e with
  |none=>none
  |some x=>(rAll r l).map (x:: ·)
theorem q4v (r:Nat) (e:En) (l:List En):rAll r (e::l)=(match rEn r e with
  |none=>none
  |some x=>(rAll r l).map (x:: ·)):=rfl
theorem qwn (r:Int) (e:En) (l:List En):qhu r (e::l)=(match ldEn r e with
  |none=>none
  |some x=>(qhu r l).map (x:: ·)):=rfl
theorem xa5 {r:Nat}: ∀{L:List En},(∀e∈L,(qc2 e.1).isSome=true) ->qhu (r:Int) L=rAll r L
 | [],_=>rfl
 |e::l,h=>by
  have d:=h e jA7;rw[qwn,q4v,xa5 λx hx=>h x (jA9 _ hx)];have:ldEn (r:Int) e=rEn r e:=by
   unfold ldEn rEn qjf;cases hs:qc2 e.1 with
   |none=>rw[hs]at d;cases d
   |some s=>simp only[Option.getD_some];exact xvc r _ _
  rw[this]
theorem xa6 {r:Int}: ∀{L:List En} {e:En},e∈L->qc2 e.1=none->qhu r L=none
 | [],_,h,_=>by cases h
 |x::l,e,h,hs=>by
  rw[qwn];rcases jAv.1 h with rfl|h
  ·unfold ldEn;rw[hs]
  ·cases ldEn r x with
   |none=>rfl
   |some y=>simp only;rw[xa6 h hs];rfl
theorem xkf {r:Nat}: ∀{L:List En} {e:En} {l:List Ue},e∈L->qc2 e.1=none->rAll r L=some l-> ∃x∈l,x.sess=0
 | [],_,_,h,_,_=>by cases h
 |x::L,e,l,h,hs,ha=>by
  rw[q4v]at ha;cases hx:rEn r x with
  |none=>rw[hx]at ha;cases ha
  |some y=>
   rw[hx]at ha;simp only[jAb]at ha;obtain⟨m,hm,rfl⟩:=ha;rcases jAv.1 h with rfl|h
   ·refine⟨y,jA7,?_⟩;unfold rEn qjf at hx;rw[hs]at hx;unfold rVal at hx;split at hx
    ·cases hx
    ·cases hx;rfl
   ·obtain⟨z,hz,d⟩:=xkf h hs hm;exact⟨z,jA9 _ hz,d⟩
theorem xya (r:Nat) (L:List En):ldMg (r:Int) (qhu (r:Int) L)=ldMg (r:Int) (rAll r L):=by
 by_cases h: ∀e∈L,(qc2 e.1).isSome=true
 ·rw[xa5 h]
 ·obtain⟨e,i,hs⟩: ∃e∈L,qc2 e.1=none:=by
   simp only[Classical.not_forall]at h;obtain⟨e,i,hs⟩:=h;exact⟨e,i,by simpa using hs⟩
  have d:=hs;rw[xa6 i d];cases ha:rAll r L with
  |none=>rfl
  |some l=>
   obtain⟨x,hx,h0⟩:=xkf i d ha;have: ¬jc ⟨(r:Int),l⟩=true:=λhv=>by
    have:=((wk.1 hv).en x hx).s1;omega
   simp only[ldMg,if_neg this]
attribute [-go_sem] qfp
def d65:=cut prog f65 news
@[go_sem] def E65:=qj d65
def F65:=fnC d65 follows func65
def qed (b:Brk) (t:Tk):TryM:=(b.t.get t).getD ⟨0,0⟩
def qzx (b:Brk) (t:Tk) (now:Int):Bool:= !(b.t.get t).isSome||decide ((qed b t).next<=now)
def qtl (y:TryM) (now:Int):TryM:=⟨y.count+1,IntKind.wrap .i64 (now+qeq (y.count+1))⟩
def qge (b:Brk) (d:MapM Tk TryM) (t:Tk) (now:Int) (l:List OutM) (x:OutM):MapM Tk TryM×List OutM:=
 if qzx b t now then(d.put t (qtl (qed b t) now),l++ [x])else(d.put t (qed b t),l)
def wg (b:Brk) (it:Nat):List ASlot:= [.d (.int .i64 b.roles),.d (.int .i64 b.sess),.d (.ptr 1 0),.d (.map 3),.d (.int .i64 b.m.roles),.d (.sl 4 (b.m.ents.map qu)),.d .nilsl,.d (.map it)]
def brN (b:Brk):List AObj:= [.row (wg b 4),stoO b.s 2,mapO b.s.m,qmO b.q,tmO b.t]
theorem xkg (b:Brk):qf prog 64 [.d (.ptr 0 0)] (brN b) (.d (.func (.func 130) [] [.ptr 5 0])) (brN b++ [.row [.d (.ptr 0 0)]]):=by
 refine F64.go ?_;exact et6 @brN.eq_1 @wg.eq_1 @stoO.eq_1 @mapO.eq_1 @qmO.eq_1 @tmO.eq_1
theorem q4w (b:Brk) (i:MapM Tk TryM) (s f t n now:Int) (l:List OutM) (x:OutM) (hc:0<=(qed b ⟨⟨s,f,t⟩,n⟩).count∧(qed b ⟨⟨s,f,t⟩,n⟩).count<=100000) (hl:l.length<=1000000):
  qf prog 65 [.d (.ptr 0 0),.d (.map 5),.d (.agg [.int .i64 s,.int .i64 f,.int .i64 t,.int .i64 n]),.d (.int .i64 now),.own 1 10 (l.map vg),.d (.agg (vg x))] (brN b++ [tmO i])
   (.own 1 10 ((qge b i ⟨⟨s,f,t⟩,n⟩ now l x).2.map vg)) (brN b++ [tmO (qge b i ⟨⟨s,f,t⟩,n⟩ now l x).1]):=by
 have hw:IntKind.i64.wrap ((qed b ⟨⟨s,f,t⟩,n⟩).count+1)=(qed b ⟨⟨s,f,t⟩,n⟩).count+1:=wrap_i64 (by omega) (by omega);have m:=q8i ((qed b ⟨⟨s,f,t⟩,n⟩).count+1) (by omega);have hT:(b.t.get ⟨⟨s,f,t⟩,n⟩).getD ⟨0,0⟩=qed b ⟨⟨s,f,t⟩,n⟩:=rfl;generalize e:qge b i ⟨⟨s,f,t⟩,n⟩ now l x=R;unfold qge qzx at e;refine F65.go ?_;simp only[brN,wg,stoO,mapO,qmO,tmO,vg,qi,List.cons_append,List.nil_append,go_sem,simprocAttr];simp only[hT];generalize hy:qed b ⟨⟨s,f,t⟩,n⟩=y at e hw m hc
 (repeat(with_reducible refine ob ?_))
 (repeat(with_reducible refine ob ?_));refine xf _ (λh=> ?_) (λh=> ?_)
 ·rw[if_pos h]at e;subst e;refine eo1 @hw ?_;refine cl F131 (m) ?_;refine eo ?_;simp only[xj8 _ _ _ _ _ (y.count+1) (IntKind.i64.wrap (now+qeq (y.count+1))),go_sem,simprocAttr];exact et6 @qtl.eq_1 @jA2.{0,0} @List.map_cons.{0,0} @List.map_nil.{0,0} @vg.eq_1 @qi.eq_1
 ·rw[if_neg (by rw[h];exact jEc)]at e;subst e;simp only[xj8 _ _ _ _ _ y.count y.next,go_sem,simprocAttr]
end Go.Proofs.YtkcdbcbpbolgkaaGreatDoor
namespace Go.Proofs.YtkcdbcbpbolgkaaGreatDoor
open Tryz
open Go.Abs
def d45n:=cut prog f45 news [] [] true
@[go_sem] def E45n:=qj d45n
def F45n:=fnC d45n follows func45
def d38:=cut prog f38 news
@[go_sem] def E38:=qj d38
def je (r s:Int):Brk:=⟨r,s,newS,⟨[],0⟩,⟨r,[]⟩,[],⟨[],0⟩⟩
theorem qj5 {r s:Int} (h:posB r s=true):1<=r∧r<=6∧1<=s∧s<=32:=by
 simp only[posB,jAf,decide_eq_true_eq]at h;omega
theorem qzy (r s:Int) (h:posB r s=true):qf prog 45 [.d (.int .i64 r),.d (.int .i64 s)] [] (.tup [.d (.ptr 0 0),.d (.int .i64 0)]) (brO (je r s)):=by
 have i:=qti r s;rw[h]at i;obtain⟨h1,h2,h3,h4⟩:=qj5 h;have e:=qyv r;have hu:qk0 r=(⟨r,[]⟩,0):=by unfold qk0;rw[if_neg (by simp;omega)]
 rw[hu]at e;simp only[xt]at e;have l:=xrz;simp only[mapO,stoO]at l;refine F45n.goT ?_;refine eo ?_;refine cl F103 (i) ?_;refine eo ?_;refine no_ ?_;refine eo ?_;refine cl F43 (e) ?_;refine eo ?_;refine no_ ?_;refine eo ?_;refine clO [1,2] F28 (l) ?_;refine ez4 @kx.eq_1 @newS.eq_1 @List.map_nil.{0,0} @qk ?_;refine qc6 [5,2,1,3,4,0] [.row [.d (.int .i64 r),.d (.int .i64 s),.d (.ptr 1 0),.d (.map 3),.d (.int .i64 r),.d (.sl 4 []),.d .nilsl,.d (.map 4)],.row [.d (.sl 1 []),.d (.int .i64 0),.d (.map 2)],.map [] 0,.map [] 0,.map [] 0,.row [.d (.int .i64 r),.d (.sl 4 [])]] ?_ (by exact et) (hp:=rfl);refine pu ?_;simp only[brO,je,qq,stoO,mapO,qmO,tmO,kx,newS,List.map_nil,qk,go_sem,simprocAttr]
theorem xkh (r s:Int) (h:posB r s=false):qf prog 45 [.d (.int .i64 r),.d (.int .i64 s)] [] (.tup [.d .nilptr,.d (.int .i64 2)]) [.none,.none,.none,.none,.none]:=by
 have e:=qti r s;rw[h]at e;refine F45n.goT ?_;refine eo ?_;refine cl F103 (e) ?_;refine eo ?_;refine ya ?_;refine ez ?_;refine pu ?_;exact et
attribute [-go_sem] qfp
def d14t:=cut prog f14 news [41,66,93] [6,9,16] true
@[go_sem] def E14t:=qj d14t
def F14t:=fnC d14t follows func14
def qh8 (s:Sto):Sto:=if(qkx s).file.length>16384 then qj2 (qkx s)else qkx s
def StA (b:Brk) (now:Int) (s:Sto):St:=
 ⟨[(2,true,.d (.ptr 5 0)),(3,true,.d (.ptr 6 0)),(4,true,.d .nilsl)],[.row (qq b),stoO s 2,mapO s.m,qmO b.q,tmO b.t,.row [.d (.ptr 0 0)],.row [.d (.int .i64 now)]],[0],1⟩
def StB (b:Brk) (now:Int) (s:Sto):St:=
 ⟨[(2,true,.d (.ptr 5 0)),(3,true,.d (.ptr 6 0)),(5,true,.d (.ptr 7 0)),(6,true,.d (.ptr 9 0))],[.row (wg b 4),stoO s 2,mapO s.m,qmO b.q,tmO b.t,.row [.d (.ptr 0 0)],.row [.d (.int .i64 now)],.row [.own 0 10 (b.p.map vg)],.map [] 0,.row [.d (.map 8)]],[0],1⟩
def q4x (b:Brk) (now:Int) (a:MapM Tk TryM×List OutM) (p:Nat×Nat×Nat):MapM Tk TryM×List OutM:=
 if(y4 (b.queue ⟨p.1,p.2.1,p.2.2⟩)).2 then qge b a.1 ⟨⟨p.1,p.2.1,p.2.2⟩,(y4 (b.queue ⟨p.1,p.2.1,p.2.2⟩)).1.seq⟩ now a.2 ⟨p.2.2,(y4 (b.queue ⟨p.1,p.2.1,p.2.2⟩)).1⟩else a
def accT (b:Brk) (now:Int) (l:List (Nat×Nat×Nat)):MapM Tk TryM×List OutM:=l.foldl (q4x b now) (⟨[],0⟩,b.p)
def fr0T:Fr:= [(2,true,.d (.ptr 5 0)),(3,true,.d (.ptr 6 0)),(5,true,.d (.ptr 7 0)),(6,true,.d (.ptr 9 0))]
def StC (b:Brk) (now:Int) (s:Sto) (l:List (Nat×Nat×Nat)) (k:Nat):St:=
 ⟨fr0T,[.row (wg b 4),stoO s 2,mapO s.m,qmO b.q,tmO b.t,.row [.d (.ptr 0 0)],.row [.d (.int .i64 now)],.row [.own 0 10 ((accT b now (l.take k)).2.map vg)],tmO (accT b now (l.take k)).1,.row [.d (.map 8)],.row [.d (.ptr 0 0)]],[0],1⟩
def stepO (b:Brk) (now:Int) (a:MapM Tk TryM×List OutM) (x:Pk):MapM Tk TryM×List OutM:=qge b a.1 ⟨⟨x.sess,x.from_,-1⟩,x.label⟩ now a.2 ⟨x.from_,x⟩
def accO (b:Brk) (now:Int) (a:MapM Tk TryM×List OutM) (l:List Pk):MapM Tk TryM×List OutM:=l.foldl (stepO b now) a
def StD (b:Brk) (now:Int) (s:Sto) (l:List Pk) (a:MapM Tk TryM×List OutM) (i:Nat):St:=
 ⟨[(2,true,.d (.ptr 5 0)),(3,true,.d (.ptr 6 0)),(5,true,.d (.ptr 7 0)),(6,true,.d (.ptr 9 0)),(71,true,.d (.sl 9 (l.map qi))),(72,true,.d (.int .i64 l.length)),(73,true,.d (.int .i64 (i:Nat)))],
  [.row (wg b 4),stoO s 2,mapO s.m,qmO b.q,tmO b.t,.row [.d (.ptr 0 0)],.row [.d (.int .i64 now)],.row [.own 0 10 (a.2.map vg)],tmO a.1,.row [.d (.map 8)]],[0],1⟩
def xso (b:Brk) (now:Int) (n ss:Nat):List AObj:=
 [.row (wg b 5),stoO (qh8 b.s) 2,mapO (qh8 b.s).m,qmO b.q,tmO b.t,tmO (accO b now (accT b now (xr n ss)) (xn b.m)).1]
theorem xqp (b:Brk) (now:Int) (n ss:Nat) (hn:n<=6) (hss:ss<=32) (br:b.roles=n) (bs:b.sess=ss) (hQ: ∀k,(b.queue k).Sm) (Y: ∀t,0<=(qed b t).count∧(qed b t).count<=100000)
  (hA: ∀k,(accT b now ((xr n ss).take k)).2.length<=1000000) (hM:b.m.Sm) (I: ∀i,(accO b now (accT b now (xr n ss)) ((xn b.m).take i)).2.length<=1000000) (hL:(xn b.m).length<=1000000) (hs:b.s.m.Good) (hF:b.s.file.length<=100000000):
  qf prog 14 [.d (.ptr 0 0),.d (.int .i64 now)] (brO b) (.own 1 10 ((accO b now (accT b now (xr n ss)) (xn b.m)).2.map vg)) (xso b now n ss):=by
 have X:=xty b.s (by omega);have U:=xhh (qkx b.s) (show b.s.file.length<=_ by omega);have E:=xd0 (qkx b.s) hs;have hm:(qkx b.s).m=b.s.m:=rfl;rw[hm]at E;simp only[stoO,mapO,hm]at X U E;unfold xso;refine F14t.go ?_;refine eo6 @brO.eq_1 @qq.eq_1 @stoO.eq_1 @mapO.eq_1 @qmO.eq_1 @tmO.eq_1 ?_;refine no_ ?_;refine eo ?_;refine clO [1,2] F61 (X) ?_;refine eo ?_;refine clO [1,2] F62 (U) ?_;refine ez1 @vo.eq_1 ?_;refine xnm (λx:{x:Sto//x=qh8 b.s}=>StA b now x.val) ?_ (λx=> ?_)
 ·(repeat(with_reducible refine ob ?_));refine xf _ (λh=> ?_) (λh=> ?_)
  ·have hx:qh8 b.s=qj2 (qkx b.s):=by unfold qh8;rw[if_pos (by simp at h;omega)]
   have hy:(qj2 (qkx b.s)).m=b.s.m:=rfl;refine eo ?_;refine clO [1,2] F63r (E) ?_;refine ez ?_;refine⟨⟨_,rfl⟩,?_⟩;exact et8 @StA.eq_1 @hx @hy @qq.eq_1 @stoO.eq_1 @mapO.eq_1 @qmO.eq_1 @tmO.eq_1
  ·have hx:qh8 b.s=qkx b.s:=by unfold qh8;rw[if_neg (by simp at h;omega)]
   refine ez ?_;refine⟨⟨_,rfl⟩,?_⟩;exact et8 @StA.eq_1 @hx @hm @qq.eq_1 @stoO.eq_1 @mapO.eq_1 @qmO.eq_1 @tmO.eq_1
 ·obtain⟨s,hx⟩:=x;refine ez6 @StA.eq_1 @qq.eq_1 @stoO.eq_1 @mapO.eq_1 @qmO.eq_1 @tmO.eq_1 ?_;refine pu ?_;refine ez ?_;refine xgn (st1:=StB b now s) (by exact et6 @StB.eq_1 @wg.eq_1 @stoO.eq_1 @mapO.eq_1 @qmO.eq_1 @tmO.eq_1) ?_;have M:=xkg {b with s:=s};simp only[brN,wg,stoO,mapO,qmO,tmO,List.map_nil,List.cons_append,List.nil_append]at M;refine ez7 @StB.eq_1 @wg.eq_1 @stoO.eq_1 @mapO.eq_1 @qmO.eq_1 @tmO.eq_1 @List.map_nil.{0,0} ?_;refine clT [0,1,2,3,4,10] F64 M ?_;refine ez ?_;refine xgm 130 10 0 11 [(n:Nat),(ss:Nat)] ((xr n ss).map q2l) (StC b now s (xr n ss)) fr0T (qvi n ss (by omega) (by omega)) ?_ (λk=>rfl) (λk=>⟨_,by simp only[StC,wg,jCa,br,bs];rfl⟩) (λk vs B=> ?_) ?_ (λvs hv=> ?_)
  ·simp only[StC,fr0T,wg,stoO,mapO,qmO,tmO,accT,List.take_zero,List.foldl_nil,List.map_nil,go_sem,simprocAttr]
  ·rw[jAn,jAb]at B;obtain⟨p,hp,rfl⟩:=B;have J:=qzw (b.q.get ⟨p.1,p.2.1,p.2.2⟩);have R:=xhb (b.queue ⟨p.1,p.2.1,p.2.2⟩) (hQ _);have hstep:accT b now ((xr n ss).take (k+1))=q4x b now (accT b now ((xr n ss).take k)) p:=by
    have B:k<(xr n ss).length:=(jAd.1 hp).1;have he:(xr n ss)[k]=p:=(jAd.1 hp).2;rw[jAk B,accT,jCm,he];rfl
   have A:=hA k;have o:=λx=>q4w {b with s:=s} (accT b now ((xr n ss).take k)).1 p.1 p.2.1 p.2.2 (y4 (b.queue ⟨p.1,p.2.1,p.2.2⟩)).1.seq now (accT b now ((xr n ss).take k)).2 x (Y _) A;simp only[brN,wg,stoO,mapO,qmO,tmO,List.map_nil,List.cons_append,List.nil_append,vg,qi]at o;simp only[encQ,qi]at R;simp only[encQ]at J;unfold StC;rw[hstep];unfold q4x;generalize accT b now ((xr n ss).take k)=e at A o⊢;simp only[fr0T,q2l,jo,wg,stoO,mapO,qmO,tmO,go_sem,simprocAttr]
   (repeat(with_reducible refine ob ?_));refine clF F15 (R) (λhg=>by exact⟨J,trivial⟩) ?_
   generalize y4 (b.queue ⟨p.1,p.2.1,p.2.2⟩)=F at o⊢;obtain⟨x,ok⟩:=F;simp only at o⊢;refine ez ?_;cases ok
   ·refine eo ?_;refine no_ ?_;show Turn 11 _ _;refine .weak ?_ (.refl _);exact et
   ·have o:=o ⟨p.2.2,x⟩;have u: ∀v t now l x,qge {b with s:=s} v t now l x=qge b v t now l x:=λ_ _ _ _ _=>rfl;simp only[u]at o;refine eo ?_;refine ya ?_;refine ez ?_;generalize qge b e.1 ⟨⟨p.1,p.2.1,p.2.2⟩,x.seq⟩ now e.2 ⟨p.2.2,x⟩=acc2 at o⊢;refine clT [0,1,2,3,4,8] F65 o ?_;refine ez ?_;show Turn 11 _ _;refine .weak ?_ (.refl _);exact et
  ·show AWp _ _ _ _ _;simp only[StC,jAm,jAr];have C:=qfi b.m hM;simp only[xt]at C;generalize accT b now (xr n ss)=e at I⊢;generalize xn b.m=O at C I hL⊢;refine pu ?_;refine eo6 @fr0T.eq_1 @wg.eq_1 @stoO.eq_1 @mapO.eq_1 @qmO.eq_1 @tmO.eq_1 ?_;refine cl F18 (C) ?_;refine ez1 @jAm.{0,0} ?_;refine qg (λi:{i:Nat//i<=O.length}=>StD b now s O (accO b now e (O.take i.val)) i.val) (λi=>O.length-i.val) ⟨0,jAj _⟩ ?_ (λi=> ?_)
   ·simp only[StD,wg,stoO,mapO,qmO,tmO,accO,List.take_zero,List.foldl_nil,List.map_nil,jAt,go_sem,simprocAttr]
   obtain⟨i,hi⟩:=i;have z:=I i;have o:=λm f n x=>q4w {b with s:=s} (accO b now e (O.take i)).1 m f (-1) n now (accO b now e (O.take i)).2 x (Y _) z;have u: ∀v t now l x,qge {b with s:=s} v t now l x=qge b v t now l x:=λ_ _ _ _ _=>rfl;simp only[u,brN,wg,stoO,mapO,qmO,tmO,List.map_nil,List.cons_append,List.nil_append,vg,qi]at o;generalize ha:accO b now e (O.take i)=a at z o⊢;refine eo7 @StD.eq_1 @ha @wg.eq_1 @stoO.eq_1 @mapO.eq_1 @qmO.eq_1 @tmO.eq_1 ?_;refine xf _ (λh=> ?_) (λh=> ?_)
   ·have q:i<O.length:=by simp at h;omega
    have hstep:accO b now e (O.take (i+1))=stepO b now a O[i]:=by
     rw[jAk q,accO,jCm,<- ha];rfl
    have o:=o (O[i]).sess (O[i]).from_ (O[i]).label ⟨(O[i]).from_,O[i]⟩
    refine ez2 (qh qi O q) @qi.eq_1 ?_;unfold stepO at hstep;generalize qge b a.1 ⟨⟨(O[i]).sess,(O[i]).from_,-1⟩,(O[i]).label⟩ now a.2 ⟨(O[i]).from_,O[i]⟩=a2 at o hstep⊢
    (repeat(with_reducible refine ob ?_))
    refine clT [0,1,2,3,4,8] F65 o ?_;refine ez ?_;refine⟨⟨i+1,q⟩,?_,by dsimp only;omega⟩;exact et8 @StD.eq_1 @hstep @wg.eq_1 @stoO.eq_1 @mapO.eq_1 @qmO.eq_1 @tmO.eq_1 (qe (show i<9223372036854775807 by omega))
   ·have G:i=O.length:=by simp at h;omega
    subst G;rw[jAr]at ha;refine ez2 @ha hx.symm ?_;refine qc6 [0,1,2,3,4,6,7,8,5,9] [.row (wg b 5),stoO s 2,mapO s.m,qmO b.q,tmO b.t,tmO a.1,.row [.d (.ptr 0 0)],.row [.d (.int .i64 now)],.row [.own 0 10 (a.2.map vg)],.row [.d (.map 5)]] ?_ (by exact et5 @wg.eq_1 @mapO.eq_1 @stoO.eq_1 @qmO.eq_1 @tmO.eq_1) (hp:=rfl);refine pu ?_;exact et5 @wg.eq_1 @stoO.eq_1 @mapO.eq_1 @qmO.eq_1 @tmO.eq_1
  ·obtain⟨p,_,rfl⟩:=jAo.1 hv;exact⟨rfl,rfl⟩
def xyb:=cut prog f139 news [] [] true
@[go_sem] def x1b:=qj xyb
def xki:=fnC xyb follows func139
def xyc:=cut prog f102 news [] [] true
@[go_sem] def x1c:=qj xyc
def xkj:=fnC xyc follows func102
def yv (b:Brk) (k:Pr) (name:List UInt8) (next:Qu):Brk×Int×Bool:=
 if(jk (b.queue k) next name).2≠0 then(b,(jk (b.queue k) next name).2,false)
 else if(jk (b.queue k) next name).1= []then({b with q:=b.q.put k next},0,false)
 else if(xa b.s (jk (b.queue k) next name).1).2≠0 then(b,(xa b.s (jk (b.queue k) next name).1).2,false)
 else({b with s:=(xa b.s (jk (b.queue k) next name).1).1,q:=b.q.put k next},0,true)
theorem qtm (b:Brk) (s f t:Nat) (next:Qu) (hs:s<100) (hf:f<10) (ht:t<10) (h1:(b.queue ⟨s,f,t⟩).Sm) (h2:(b.queue ⟨s,f,t⟩).W) (h3:next.Sm) (h4:next.W) (hF:b.s.file.length<=100000000)
  (o:(jk (b.queue ⟨s,f,t⟩) next (jh s f t)).1.length<=100000):
  qf prog 139 [.d (.ptr 0 0),.d (.agg [.int .i64 (s:Nat),.int .i64 (f:Nat),.int .i64 (t:Nat)]),.d (.agg (encQ next))] (brO b) (.d (.int .i64 (yv b ⟨s,f,t⟩ (jh s f t) next).2.1)) (afB b (yv b ⟨s,f,t⟩ (jh s f t) next).1 (yv b ⟨s,f,t⟩ (jh s f t) next).2.2):=by
 have kn:=xka s f t hs hf ht;have v:=q7e (b.queue ⟨s,f,t⟩) next (jh s f t) h1 h2 h3 h4 (by simp[jh,dig])
 have kq:=qzw (b.q.get ⟨s,f,t⟩);simp only[encQ]at v;generalize h:yv b ⟨s,f,t⟩ (jh s f t) next=R
 unfold yv at h;refine xki.go ?_;refine eo7 @brO.eq_1 @qq.eq_1 @stoO.eq_1 @mapO.eq_1 @qmO.eq_1 @tmO.eq_1 @encQ.eq_1 ?_;refine cl F107 (kn) ?_;refine eo ?_;refine clF F223 (v) (λhg=>by exact⟨kq,qo,qo,trivial⟩) ?_;generalize jk (b.queue ⟨s,f,t⟩) next (jh s f t)=C at h o⊢
 obtain⟨l,e⟩:=C;simp only at h o⊢;refine ez ?_;by_cases p:e=0
 ·subst p;rw[if_neg (by simp)]at h;by_cases u:l= []
  ·subst u;rw[if_pos rfl]at h;subst h;simp only[jAm,List.length_nil,List.map_nil,go_sem,simprocAttr]
   (repeat(with_reducible refine ob ?_));refine no_ ?_
   refine eo ?_;refine ya ?_;simp only[q8h _ _ _ _ next,go_sem,simprocAttr];refine pu ?_;simp only[afB,qq,mapO,stoO,qmO,tmO,go_sem,simprocAttr]
  ·rw[if_neg u]at h;have hd:decide ((l.length:Int)>0)=true:=by
    have:=jCl.2 u;simp only[decide_eq_true_eq];omega
   have i:=ql8 b.s l o hF;refine eo2 @jAm.{0,0} @hd ?_;refine ya ?_;refine ez ?_;by_cases hc:(xa b.s l).2=0
   ·rw[if_neg (by simp[hc])]at h;subst h;have q:qdt b.s l= [stoO (xa b.s l).1 2,mapO b.s.m,mapO (xa b.s l).1.m]:=by unfold qdt;rw[if_pos hc]
    rw[q,hc]at i;simp only[stoO,mapO]at i;generalize (xa b.s l).1=s' at i⊢
    (repeat(with_reducible refine ob ?_));refine clO [1,2,7] F29 (i) ?_
    refine eo ?_;refine ya ?_;simp only[q8h _ _ _ _ next,go_sem,simprocAttr];refine qc6 [0,1,2,3,4,6,7,5] [.row (qq b),stoO s' 5,mapO b.s.m,qmO (b.q.put ⟨s,f,t⟩ next),tmO b.t,mapO s'.m,.row [.d (.int .i64 s),.d (.int .i64 f),.d (.int .i64 t)],.row [.d (.int .i64 next.acc),.d (.int .i64 next.cons),.d (.sl 9 (next.items.map qi))]] ?_ (by exact et5 @qq.eq_1 @mapO.eq_1 @stoO.eq_1 @qmO.eq_1 @tmO.eq_1) (hp:=rfl);refine pu ?_;simp only[afB,qq,mapO,stoO,qmO,tmO,go_sem,simprocAttr]
   ·rw[if_pos hc]at h;subst h;have q:qdt b.s l= [stoO b.s 1,mapO b.s.m,.none]:=by unfold qdt;rw[if_neg hc]
    rw[q]at i;have hb:((xa b.s l).2==0)=false:=by simpa using hc
    simp only[stoO,mapO]at i
    (repeat(with_reducible refine ob ?_));refine clO [1,2,7] F29 (i) ?_
    refine eo1 @hb ?_;refine no_ ?_;refine ez ?_;refine pu ?_;simp only[afB,qq,mapO,stoO,qmO,tmO,go_sem,simprocAttr]
 ·rw[if_pos p]at h;subst h;have hb:(e==0)=false:=by simpa using p
  refine eo1 @hb ?_;refine no_ ?_;refine eo1 @hb ?_;refine no_ ?_;refine ez ?_;refine pu ?_;simp only[afB,qq,stoO,mapO,qmO,tmO,go_sem,simprocAttr]
def qbq (b:Brk) (next:Mg):Brk×Int×Bool:=
 if(zb b.m next).2≠0 then(b,(zb b.m next).2,false)
 else if(zb b.m next).1= []then({b with m:=next},0,false)
 else if(xa b.s (zb b.m next).1).2≠0 then(b,(xa b.s (zb b.m next).1).2,false)
 else({b with s:=(xa b.s (zb b.m next).1).1,m:=next},0,true)
theorem q4y (b:Brk) (next:Mg) (h1:b.m.Sm) (h2:next.Sm) (hF:b.s.file.length<=100000000) (o:(zb b.m next).1.length<=100000):
  qf prog 102 [.d (.ptr 0 0),.d (.agg (xt next))] (brO b) (.d (.int .i64 (qbq b next).2.1)) (afB b (qbq b next).1 (qbq b next).2.2):=by
 have u:=xei b.m next h1 h2
 simp only[xt]at u;generalize h:qbq b next=R
 unfold qbq at h;refine xkj.go ?_;refine eo7 @brO.eq_1 @qq.eq_1 @stoO.eq_1 @mapO.eq_1 @qmO.eq_1 @tmO.eq_1 @xt.eq_1 ?_;refine cl F25 (u) ?_;generalize zb b.m next=C at h o⊢
 obtain⟨l,e⟩:=C;simp only at h o⊢;refine ez ?_;by_cases p:e=0
 ·subst p;rw[if_neg (by simp)]at h;by_cases t:l= []
  ·subst t;rw[if_pos rfl]at h;subst h;simp only[jAm,List.length_nil,List.map_nil,go_sem,simprocAttr]
   (repeat(with_reducible refine ob ?_));refine no_ ?_
   refine eo ?_;refine ya ?_;refine ez ?_;refine pu ?_;simp only[afB,qq,mapO,stoO,qmO,tmO,go_sem,simprocAttr]
  ·rw[if_neg t]at h;have hd:decide ((l.length:Int)>0)=true:=by
    have:=jCl.2 t;simp only[decide_eq_true_eq];omega
   have i:=ql8 b.s l o hF;refine eo2 @jAm.{0,0} @hd ?_;refine ya ?_;refine ez ?_;by_cases hc:(xa b.s l).2=0
   ·rw[if_neg (by simp[hc])]at h;subst h;have q:qdt b.s l= [stoO (xa b.s l).1 2,mapO b.s.m,mapO (xa b.s l).1.m]:=by unfold qdt;rw[if_pos hc]
    rw[q,hc]at i;simp only[stoO,mapO]at i;generalize (xa b.s l).1=s' at i⊢
    (repeat(with_reducible refine ob ?_));refine clO [1,2,6] F29 (i) ?_
    refine eo ?_;refine ya ?_;refine ez ?_;refine qc6 [0,1,2,3,4,6,5] [.row (qq {b with m:=next}),stoO s' 5,mapO b.s.m,qmO b.q,tmO b.t,mapO s'.m,.row [.d (.int .i64 next.roles),.d (.sl 4 (next.ents.map qu))]] ?_ (by exact et5 @qq.eq_1 @mapO.eq_1 @stoO.eq_1 @qmO.eq_1 @tmO.eq_1) (hp:=rfl);refine pu ?_;simp only[afB,qq,mapO,stoO,qmO,tmO,go_sem,simprocAttr]
   ·rw[if_pos hc]at h;subst h;have q:qdt b.s l= [stoO b.s 1,mapO b.s.m,.none]:=by unfold qdt;rw[if_neg hc]
    rw[q]at i;have hb:((xa b.s l).2==0)=false:=by simpa using hc
    simp only[stoO,mapO]at i
    (repeat(with_reducible refine ob ?_));refine clO [1,2,6] F29 (i) ?_
    refine eo1 @hb ?_;refine no_ ?_;refine ez ?_;refine pu ?_;simp only[afB,qq,mapO,stoO,qmO,tmO,go_sem,simprocAttr]
 ·rw[if_pos p]at h;subst h;have hb:(e==0)=false:=by simpa using p
  refine eo1 @hb ?_;refine no_ ?_;refine eo1 @hb ?_;refine no_ ?_;refine ez ?_;refine pu ?_;simp only[afB,qq,stoO,mapO,qmO,tmO,go_sem,simprocAttr]
def d72d:=cut prog f72 news [33] [] true
@[go_sem] def E72d:=qj d72d
def F72d:=fnC d72d follows func72
def d73d:=cut prog f73 news [21] [] true
@[go_sem] def E73d:=qj d73d
def F73d:=fnC d73d follows func73
def d41d:=cut prog f41 news [35] [] true
@[go_sem] def E41d:=qj d41d
def zx (b:Brk) (t:Nat):List ASlot:= [.d (.int .i64 b.roles),.d (.int .i64 b.sess),.d (.ptr 1 0),.d (.map 3),.d (.int .i64 b.m.roles),.d (.sl 4 (b.m.ents.map qu)),.own t 10 (b.p.map vg),.d (.map 4)]
def qzz (b:Brk) (k:Pr) (name:List UInt8) (d:Int):Brk×Int×Bool:=
 if(zc (b.queue k) d).2≠0 then(b,(zc (b.queue k) d).2,false)else yv b k name (zc (b.queue k) d).1
theorem xqq (b:Brk) (p:Pk) (s f t:Nat) (hs:s<100) (hf:f<10) (ht:t<10) (ps:p.sess=s) (q:p.from_=f) (o:p.to=t) (v:(b.queue ⟨s,f,t⟩).Sm) (hw:(b.queue ⟨s,f,t⟩).W)
  (ho:(zc (b.queue ⟨s,f,t⟩) p.seq).1.Sm) (hu:(zc (b.queue ⟨s,f,t⟩) p.seq).1.W) (hF:b.s.file.length<=100000000)
  (hl:(jk (b.queue ⟨s,f,t⟩) (zc (b.queue ⟨s,f,t⟩) p.seq).1 (jh s f t)).1.length<=100000):
  qf prog 72 [.d (.ptr 0 0),.d (.agg (qi p))] (brO b) (.d (.int .i64 (qzz b ⟨s,f,t⟩ (jh s f t) p.seq).2.1)) (afB b (qzz b ⟨s,f,t⟩ (jh s f t) p.seq).1 (qzz b ⟨s,f,t⟩ (jh s f t) p.seq).2.2):=by
 have u:=q61 (b.queue ⟨s,f,t⟩) p.seq v;have kq:=qzw (b.q.get ⟨s,f,t⟩);have i:=qtm b s f t (zc (b.queue ⟨s,f,t⟩) p.seq).1 hs hf ht v hw ho hu hF hl;generalize h:qzz b ⟨s,f,t⟩ (jh s f t) p.seq=R;unfold qzz at h;simp only[brO,qq,stoO,mapO,qmO,tmO,encQ]at i;simp only[encQ]at u;refine F72d.go ?_;simp only[brO,qq,stoO,mapO,qmO,tmO,qi,ps,q,o,go_sem,simprocAttr]
 (repeat(with_reducible refine ob ?_));refine clF F140 (u) (λhg=>by exact⟨kq,qo,trivial⟩) ?_
 generalize zc (b.queue ⟨s,f,t⟩) p.seq=O at h i;obtain⟨l,e⟩:=O;simp only at h i⊢;refine ez ?_;by_cases m:e=0
 ·subst m;rw[if_neg (by simp)]at h;generalize yv b ⟨s,f,t⟩ (jh s f t) l=C at h i;obtain⟨b1,e1,c⟩:=C;subst h;simp only[afB,qq,stoO,mapO,qmO,tmO]at i;refine eo ?_;refine no_ ?_;refine ez ?_;cases c
  ·refine clT [0,1,2,3,4,8] xki i ?_;refine ez ?_;refine pu ?_;simp only[afB,qq,stoO,mapO,qmO,tmO,go_sem,simprocAttr]
  ·refine clT [0,1,2,3,4,8] xki i ?_;refine ez ?_;refine qc6 [0,1,2,3,4,6,7,8,5] [.row (zx b1 512),stoO b1.s 5,mapO b.s.m,qmO b1.q,tmO b1.t,mapO b1.s.m,.row ((qi p).map .d),.row [.d (.int .i64 s),.d (.int .i64 f),.d (.int .i64 t)],.row [.d (.int .i64 l.acc),.d (.int .i64 l.cons),.d (.sl 9 (l.items.map qi))]] ?_ (by try simp only[zx,mapO,stoO,qmO,tmO,qi,ps,q,o,go_sem,simprocAttr]) (hp:=rfl);refine pu ?_;simp only[afB,qq,zx,stoO,mapO,qmO,tmO,go_sem,simprocAttr]
 ·rw[if_pos m]at h;subst h;have hb:(e !=0)=true:=by simpa using m
  refine eo1 @hb ?_;refine ya ?_;refine ez ?_;refine pu ?_;simp only[afB,qq,stoO,mapO,qmO,tmO,go_sem,simprocAttr]
def qer (b:Brk) (p:Pk):Brk×Int×Bool:=
 if(x8 b.m p).2≠0 then(b,(x8 b.m p).2,false)else qbq b (x8 b.m p).1
theorem qtn (b:Brk) (p:Pk) (hp:p.Sm) (q:b.m.Sm) (h2:(x8 b.m p).1.Sm) (hF:b.s.file.length<=100000000) (hl:(zb b.m (x8 b.m p).1).1.length<=100000):
  qf prog 73 [.d (.ptr 0 0),.d (.agg (qi p))] (brO b) (.d (.int .i64 (qer b p).2.1)) (afB b (qer b p).1 (qer b p).2.2):=by
 have o:=qla b.m p q hp;have i:=q4y b (x8 b.m p).1 q h2 hF hl;generalize h:qer b p=R;unfold qer at h;simp only[brO,qq,stoO,mapO,qmO,tmO,xt]at i;simp only[xt]at o;refine F73d.go ?_;refine eo7 @brO.eq_1 @qq.eq_1 @stoO.eq_1 @mapO.eq_1 @qmO.eq_1 @tmO.eq_1 @qi.eq_1 ?_;refine cl F75b (o) ?_;generalize x8 b.m p=O at h i;obtain⟨l,e⟩:=O;simp only at h i⊢;refine ez ?_;by_cases m:e=0
 ·subst m;rw[if_neg (by simp)]at h;generalize qbq b l=C at h i;obtain⟨b1,e1,c⟩:=C;subst h;simp only[afB,qq,stoO,mapO,qmO,tmO]at i;refine eo ?_;refine no_ ?_;refine ez ?_;cases c
  ·refine clT [0,1,2,3,4,7] xkj i ?_;refine ez ?_;refine pu ?_;simp only[afB,qq,stoO,mapO,qmO,tmO,go_sem,simprocAttr]
  ·refine clT [0,1,2,3,4,7] xkj i ?_;refine ez ?_;refine qc6 [0,1,2,3,4,6,7,5] [.row (zx b1 304),stoO b1.s 5,mapO b.s.m,qmO b1.q,tmO b1.t,mapO b1.s.m,.row ((qi p).map .d),.row [.d (.int .i64 l.roles),.d (.sl 4 (l.ents.map qu))]] ?_ (by exact et6 @zx.eq_1 @mapO.eq_1 @stoO.eq_1 @qmO.eq_1 @tmO.eq_1 @qi.eq_1) (hp:=rfl);refine pu ?_;simp only[afB,qq,zx,stoO,mapO,qmO,tmO,go_sem,simprocAttr]
 ·rw[if_pos m]at h;subst h;have hb:(e !=0)=true:=by simpa using m
  refine eo1 @hb ?_;refine ya ?_;refine ez ?_;refine pu ?_;simp only[afB,qq,stoO,mapO,qmO,tmO,go_sem,simprocAttr]
def d71d:=cut prog f71 news [33] [5] true
@[go_sem] def E71d:=qj d71d
def F71d:=fnC d71d follows func71
def qbg (b:Brk) (k:Pr) (name:List UInt8) (p:Pk):Brk×Int×Bool:=
 if(zu (b.queue k) p).2=0 then yv b k name (zu (b.queue k) p).1 else(b,(zu (b.queue k) p).2,false)
def qf7 (b:Brk) (p:Pk):Brk:={b with p:=b.p++ [⟨p.from_,(qfu p).1⟩]}
def qkk (b:Brk) (k:Pr) (name:List UInt8) (p:Pk):Brk×Int×Bool:=
 if(qbg b k name p).2.1=0∨(qbg b k name p).2.1=21 then(qf7 (qbg b k name p).1 p,(qbg b k name p).2)else qbg b k name p
theorem xek (b:Brk) (k:Pr) (name:List UInt8) (next:Qu):(yv b k name next).1.p=b.p:=by
 unfold yv;split
 ·rfl
 ·split
  ·rfl
  ·split<;>rfl
def SbD (b:Brk) (p:Pk) (x:Brk×Int×Bool):St:=
 ⟨[(0,true,.d (.ptr 0 0)),(3,true,.d (.ptr 5 0)),(7,true,.d (.int .i64 x.2.1))],
  (match x.2.2 with
   |true=> [.row (qq x.1),stoO x.1.s 8,mapO b.s.m,qmO x.1.q,tmO x.1.t,.row ((qi p).map .d),.none,.none,mapO x.1.s.m]
   |false=> [.row (qq x.1),stoO x.1.s 2,mapO x.1.s.m,qmO x.1.q,tmO x.1.t,.row ((qi p).map .d),.none,.none,.none]),[0],1⟩
theorem xkk (b:Brk) (p:Pk) (s f t:Nat) (hs:s<100) (hf:f<10) (ht:t<10) (ps:p.sess=s) (v:p.from_=f) (u:p.to=t) (hp:p.Sm) (G:(b.queue ⟨s,f,t⟩).Sm) (hw:(b.queue ⟨s,f,t⟩).W)
  (ho:(zu (b.queue ⟨s,f,t⟩) p).1.Sm) (hu:(zu (b.queue ⟨s,f,t⟩) p).1.W) (hF:b.s.file.length<=100000000) (hP:b.p.length<=1000000)
  (hl:(jk (b.queue ⟨s,f,t⟩) (zu (b.queue ⟨s,f,t⟩) p).1 (jh s f t)).1.length<=100000):
  qf prog 71 [.d (.ptr 0 0),.d (.agg (qi p))] (brO b) (.d (.int .i64 (qkk b ⟨s,f,t⟩ (jh s f t) p).2.1)) (afB b (qkk b ⟨s,f,t⟩ (jh s f t) p).1 (qkk b ⟨s,f,t⟩ (jh s f t) p).2.2):=by
 have B:=xha (b.queue ⟨s,f,t⟩) p G hp;have kq:=qzw (b.q.get ⟨s,f,t⟩);have o:=qtm b s f t (zu (b.queue ⟨s,f,t⟩) p).1 hs hf ht G hw ho hu hF hl;have F:=xqm p hp;have i:qbg b ⟨s,f,t⟩ (jh s f t) p=if(zu (b.queue ⟨s,f,t⟩) p).2=0 then yv b ⟨s,f,t⟩ (jh s f t) (zu (b.queue ⟨s,f,t⟩) p).1 else(b,(zu (b.queue ⟨s,f,t⟩) p).2,false):=rfl
 have l:qkk b ⟨s,f,t⟩ (jh s f t) p=if(qbg b ⟨s,f,t⟩ (jh s f t) p).2.1=0∨(qbg b ⟨s,f,t⟩ (jh s f t) p).2.1=21 then(qf7 (qbg b ⟨s,f,t⟩ (jh s f t) p).1 p,(qbg b ⟨s,f,t⟩ (jh s f t) p).2)else qbg b ⟨s,f,t⟩ (jh s f t) p:=rfl
 generalize qkk b ⟨s,f,t⟩ (jh s f t) p=R at l⊢;generalize qbg b ⟨s,f,t⟩ (jh s f t) p=D0 at l i;simp only[brO,qq,stoO,mapO,qmO,tmO,encQ]at o;simp only[encQ]at B;refine F71d.go ?_;simp only[brO,qq,stoO,mapO,qmO,tmO,qi,ps,v,u,go_sem,simprocAttr];simp only[qi,ps,v,u]at B
 (repeat(with_reducible refine ob ?_));refine clF F138 (B) (λhg=>by exact⟨kq,qo,trivial⟩) ?_
 generalize zu (b.queue ⟨s,f,t⟩) p=O at i o;obtain⟨nx,e⟩:=O;simp only at i o⊢;refine ez ?_;have z:D0.1.p=b.p:=by
  rw[i];split
  ·exact xek _ _ _ _
  ·rfl
 refine xnm (λx:{x:Brk×Int×Bool//x=D0}=>SbD b p x.val) ?_ (λx=> ?_)
 ·by_cases E:e=0
  ·subst E;rw[if_pos rfl]at i;generalize yv b ⟨s,f,t⟩ (jh s f t) nx=C at i o;obtain⟨b1,m,c⟩:=C;subst i;simp only[afB,qq,stoO,mapO,qmO,tmO]at o;refine eo ?_;refine ya ?_;refine ez ?_;cases c
   ·refine clT [0,1,2,3,4,8] xki o ?_;refine ez ?_;refine⟨⟨_,rfl⟩,?_⟩;simp only[SbD,qq,stoO,mapO,qmO,tmO,qi,ps,v,u,go_sem,simprocAttr]
   ·refine clT [0,1,2,3,4,8] xki o ?_;refine ez ?_;refine⟨⟨_,rfl⟩,?_⟩;simp only[SbD,qq,stoO,mapO,qmO,tmO,qi,ps,v,u,go_sem,simprocAttr]
  ·rw[if_neg E]at i;subst i;have hb:(e==0)=false:=by simpa using E
   refine eo1 @hb ?_;refine no_ ?_;refine ez ?_;refine⟨⟨_,rfl⟩,?_⟩;simp only[SbD,qq,stoO,mapO,qmO,tmO,qi,ps,v,u,go_sem,simprocAttr]
 ·obtain⟨⟨b1,m,c⟩,rfl⟩:=x;simp only at z;have hP1:b1.p.length<=1000000:=by rw[z];exact hP
  simp only[qf7]at l;cases c
  ·refine ez7 @SbD.eq_1 @qq.eq_1 @stoO.eq_1 @mapO.eq_1 @qmO.eq_1 @tmO.eq_1 @qi.eq_1 ?_;refine pu ?_;refine eo ?_;refine xf _ (λh=> ?_) (λh=> ?_)
   ·have q:m=0∨m=21:=by simpa using h
    rw[if_pos q]at l;subst l;refine eo ?_;refine cl F20 (F) ?_;generalize qfu p=A;refine eo1 @qi.eq_1 ?_;refine pu ?_;simp only[afB,qq,stoO,mapO,qmO,tmO,qf7,jA2,List.map_cons,List.map_nil,vg,qi,go_sem,simprocAttr]
   ·have q: ¬(m=0∨m=21):=by simpa using h
    rw[if_neg q]at l;subst l;refine ez ?_;refine pu ?_;simp only[afB,qq,stoO,mapO,qmO,tmO,go_sem,simprocAttr]
  ·refine ez7 @SbD.eq_1 @qq.eq_1 @stoO.eq_1 @mapO.eq_1 @qmO.eq_1 @tmO.eq_1 @qi.eq_1 ?_;refine pu ?_;refine eo ?_;refine xf _ (λh=> ?_) (λh=> ?_)
   ·have q:m=0∨m=21:=by simpa using h
    rw[if_pos q]at l;subst l;refine eo ?_;refine cl F20 (F) ?_;generalize I:qfu p=A;refine eo1 @qi.eq_1 ?_;refine qc6 [0,1,2,3,4,6,7,8,5,9] [.row (zx (qf7 b1 p) 400),stoO b1.s 5,mapO b.s.m,qmO b1.q,tmO b1.t,mapO b1.s.m,.row ((qi p).map .d),.none,.none,.row ((qi A.1).map .d)] ?_ (by try simp only[zx,mapO,stoO,qmO,tmO,qf7,jA2,List.map_cons,List.map_nil,vg,qi,I,go_sem,simprocAttr]) (hp:=rfl);refine pu ?_;simp only[afB,qq,zx,stoO,mapO,qmO,tmO,qf7,jA2,List.map_cons,List.map_nil,vg,qi,I,go_sem,simprocAttr]
   ·have q: ¬(m=0∨m=21):=by simpa using h
    rw[if_neg q]at l;subst l;refine ez ?_;refine qc6 [0,1,2,3,4,6,7,8,5] [.row (qq b1),stoO b1.s 5,mapO b.s.m,qmO b1.q,tmO b1.t,mapO b1.s.m,.row ((qi p).map .d),.none,.none] ?_ (by exact et6 @qq.eq_1 @mapO.eq_1 @stoO.eq_1 @qmO.eq_1 @tmO.eq_1 @qi.eq_1) (hp:=rfl);refine pu ?_;simp only[afB,qq,stoO,mapO,qmO,tmO,go_sem,simprocAttr]
end Go.Proofs.YtkcdbcbpbolgkaaGreatDoor
namespace Go.Proofs.YtkcdbcbpbolgkaaGreatDoor
open Go.Abs
theorem q4z (b:Brk) (tr:MapM Tk TryM) (t:Tk) (now:Int) (l:List OutM) (x:OutM):(qge b tr t now l x).2.length<=l.length+1:=by
 unfold qge;split<;>simp
theorem qz0 {α β:Type} (f:β×List OutM->α->β×List OutM) (h: ∀a x,(f a x).2.length<=a.2.length+1): ∀(l:List α) (a:β×List OutM),(l.foldl f a).2.length<=a.2.length+l.length
 | [],a=>by simp
 |x::l,a=>by
  have h1:=qz0 f h l (f a x);have h2:=h a x;simp only[List.foldl_cons,List.length_cons];omega
theorem xqs (b:Brk) (now:Int) (l:List (Nat×Nat×Nat)):(accT b now l).2.length<=b.p.length+l.length:=
 qz0 (q4x b now) (λa x=>by
  unfold q4x;split
  ·exact q4z _ _ _ _ _ _
  ·omega) l _
theorem xqt (b:Brk) (now:Int) (a:MapM Tk TryM×List OutM) (l:List Pk):(accO b now a l).2.length<=a.2.length+l.length:=
 qz0 (stepO b now) (λa x=>q4z _ _ _ _ _ _) l _
structure NS (n ss:Nat):Prop where
 n1:1<=n
 n6:n<=6
 s1:1<=ss
 s32:ss<=32
structure BI (n ss k j:Nat) (b:Brk):Prop where
 ro:b.roles=n
 se:b.sess=ss
 st:b.s.Ok (k+401)
 ln:b.s.m.l.length<=5*k
 qv: ∀x,kw (b.queue x)=true
 qw: ∀x,(b.queue x).W
 kq: ∀x,¬PrOk n ss x->b.q.get x=none
 qa: ∀x,∀p∈(b.queue x).items,p.sess=x.s∧p.from_=x.f∧p.to=x.t
 mw:MW b.m
 mr:b.m.roles=n
 ms: ∀e∈b.m.ents,e.sess<=ss
 pl:b.p.length<=k
 tr: ∀t,0<=(qed b t).count∧(qed b t).count<=j
 rq: ∀x,PrOk n ss x->Rep b.s.m x.name (b.queue x)
 rm:URep b.s.m b.m
theorem q40 {n ss:Nat} (h:NS n ss):BI n ss 0 0 (je n ss):=by
 have d: ∀x,(je n ss).queue x=noQ:=λx=>rfl;have ht: ∀t,qed (je n ss) t=⟨0,0⟩:=λt=>rfl;refine⟨rfl,rfl,q7a _,by simp[je,newS,kx],λx=>by rw[d];decide,λx=>by rw[d];exact qqb,λx _=>rfl,λx p hp=>by rw[d]at hp;simp[noQ]at hp,⟨?_,?_,?_,?_⟩,rfl,λe he=>by simp[je]at he,by simp[je],λt=>by rw[ht];simp,λx _=>by rw[d];exact xiv _,xef _⟩
 ·have:=h.n1;simp only[je];omega
 ·have:=h.n6;simp only[je];omega
 ·simp[je]
 ·intro x hx;simp[je]at hx
theorem qfn (b:Brk) (s':Sto) (x y:Pr) (q:Qu):({b with s:=s',q:=b.q.put x q}:Brk).queue y=if y=x then q else b.queue y:=by
 unfold Brk.queue;simp only[MapM.get_put];split<;>rfl
section
variable {n ss k j:Nat} {b:Brk}
theorem BI.put (H:BI n ss k j b) {x:Pr} (hx:PrOk n ss x) {q:Qu} (v:kw q=true) (w:q.W) (a: ∀p∈q.items,p.sess=x.s∧p.from_=x.f∧p.to=x.t) {s':Sto} (ok:s'.Ok (k+1+401)) (ln:s'.m.l.length<=5*(k+1))
  (rq: ∀y,PrOk n ss y->Rep s'.m y.name (if y=x then q else b.queue y)) (rm:URep s'.m b.m):BI n ss (k+1) j {b with s:=s',q:=b.q.put x q}:=by
 refine⟨H.ro,H.se,ok,ln,λy=> ?_,λy=> ?_,λy d=> ?_,λy p hp=> ?_,H.mw,H.mr,H.ms,Nat.le_succ_of_le H.pl,H.tr,λy d=> ?_,rm⟩
 ·rw[qfn];split
  ·exact v
  ·exact H.qv y
 ·rw[qfn];split
  ·exact w
  ·exact H.qw y
 ·simp only[MapM.get_put];rw[if_neg (by rintro rfl;exact d hx)];exact H.kq y d
 ·rw[qfn]at hp;split at hp
  ·rename_i h;subst h;exact a p hp
  ·exact H.qa y p hp
 ·rw[qfn];exact rq y d
theorem BI.change (hn:NS n ss) (H:BI n ss k j b) (hk:k<=70) {x:Pr} (t:PrOk n ss x) {q:Qu} (v:kw q=true) (w:q.W) (a: ∀p∈q.items,p.sess=x.s∧p.from_=x.f∧p.to=x.t):
  ∃s' c,yv b x x.name q=({b with s:=s',q:=b.q.put x q},0,c)∧BI n ss (k+1) j {b with s:=s',q:=b.q.put x q}:=by
 have u:jk (b.queue x) q x.name=(vl (b.queue x) q x.name 4,0):=by
  unfold jk;rw[if_neg];simp[H.qv x,v,qob]
 have hln:=H.ln;unfold yv;rw[u];rw[if_neg (by simp)];by_cases o:vl (b.queue x) q x.name 4= []
 ·rw[if_pos o];obtain⟨h1,h2⟩:=xaf o;refine⟨b.s,false,rfl,H.put t v w a (H.st.mono (by omega)) (by omega) (λy i=> ?_) H.rm⟩;split
  ·rename_i h;subst h;exact xpg h1 h2 (H.rq y i)
  ·exact H.rq y i
 ·rw[if_neg o];obtain⟨c1,c2,c3,z⟩:=q4u (a:=b.queue x) H.st (by omega) (quj v) w (show x.name.length<=30 by simp[Pr.name,qe0]) o;rw[if_neg (by simp[c1])];refine⟨_,true,rfl,H.put t v w a (c2.mono (by omega)) (by simp only;omega) (λy i=> ?_) (xeg H.rm λk' m=> ?_)⟩
  ·split
   ·rename_i h;subst h;exact xpf (H.rq y i) z
   ·rename_i h;exact xiu (xu9 hn.n6 hn.s32 t i (λe=>h e.symm)) (H.rq y i) z
  ·have l: ∀a:List UInt8,x.name++a≠k':=λa h=>by
    rw[<- h,xa4]at m;cases m
   rw[z,qjw (b.queue x) q x.name k' (l _) (λd _=>l _) _ 4 (jAi _)]
theorem BI.manage (H:BI n ss k j b) (hk:k<=70) {m':Mg} (o:OneStep b.m m') (ms: ∀e∈m'.ents,e.sess<=ss):
  ∃s',qbq b m'=({b with s:=s',m:=m'},0,true)∧BI n ss (k+1) j {b with s:=s',m:=m'}:=by
 have l:=o.changes H.mw;obtain⟨y,hy,p⟩:=o.one;have hln:=H.ln;have i:=o.mw.en y hy;obtain⟨c1,c2,c3,q⟩:=xeh H.st (k:=uKey y.sess) (v:=qb0 y) (by omega) (by simp[uKey]) (by simp[uKey]) (by have:=xj4 o.mw.r6 i;omega);unfold qbq;rw[l,p];rw[if_neg (by simp),if_neg (by simp),if_neg (by simp[c1])];refine⟨_,rfl,H.ro,H.se,c2.mono (by omega),by simp only;omega,H.qv,H.qw,H.kq,H.qa,o.mw,o.roles.trans H.mr,ms,Nat.le_succ_of_le H.pl,H.tr,λx hx=>xqo (H.rq x hx) λa _=> ?_,xj3 H.mw o.mw o.keep H.rm λk'=>by rw[q,p]⟩;rw[q,qth];intro o' d;simp only[jAv,jBk,or_false]at d;subst d;intro h;have:=xa4 x a;rw[<- h,xqc]at this;cases this
end
def Pk.key (p:Pk):Pr:=⟨p.sess,p.from_,p.to⟩
def qc3 (k:Int):Bool:=k==1||k==2||k==4
def qd2 (b:Brk) (p:Pk):Bool:=qc3 p.kind&&qm p&& !decide (p.sess>b.sess)&& !decide (p.from_≥b.roles)&& !decide (p.to≥b.roles)
def yl (b:Brk) (p:Pk):Brk×Int×Bool:=
 if !qd2 b p then(b,1,false)
 else if p.kind=1 then qkk b p.key p.key.name p
 else if p.kind=2 then qzz b p.key p.key.name p.seq
 else qer b p
theorem qqe {n ss k j:Nat} {b:Brk} (H:BI n ss k j b) {p:Pk} (h:qd2 b p=true) (d:p.kind=1∨p.kind=2):PrOk n ss p.key:=by
 have h1:=H.ro;have h2:=H.se;simp only[qd2,jAf,jBd,decide_eq_false_iff_not,qm,qf1,decide_eq_true_eq]at h;rcases d with d|d
 ·simp only[d,if_true,data,qdi,role,jAf,decide_eq_true_eq,bne_iff_ne,ne_eq]at h;exact⟨by simp only[Pk.key];omega,by simp only[Pk.key];omega,by simp only[Pk.key];omega,by simp only[Pk.key];omega,by simp only[Pk.key];omega,by simp only[Pk.key];omega,by simp only[Pk.key];omega⟩
 ·have e: ¬((2:Int)=1):=by decide
  simp only[d,e,if_false,ack,qdi,role,jAf,decide_eq_true_eq,bne_iff_ne,ne_eq,if_true]at h;exact⟨by simp only[Pk.key];omega,by simp only[Pk.key];omega,by simp only[Pk.key];omega,by simp only[Pk.key];omega,by simp only[Pk.key];omega,by simp only[Pk.key];omega,by simp only[Pk.key];omega⟩
theorem xsp {p:Pk} (d:p.kind=4) (h:qm p=true):p=we p.sess p.from_ p.label∧(p.label=1∨p.label=2):=by
 have e1: ¬((4:Int)=1):=by decide
 have e2: ¬((4:Int)=2):=by decide
 simp only[qm,qf1,d,e1,e2,if_false,order,bare,jAf,jA0,decide_eq_true_eq,beq_iff_eq]at h;obtain⟨_,⟨⟨⟨_,hl⟩,⟨⟨m,h2⟩,h3⟩⟩,l⟩,i⟩:=h;refine⟨?_,hl⟩;have e:p.values= []:=jAy (by omega);have o:p.clock= []:=jAy (by omega);obtain⟨a1,a2,a3,a4,a5,a6,a7,a8,a9⟩:=p;simp only at d m l i e o;subst d;subst m;subst l;subst i;subst e;subst o;rfl
section
variable {n ss k j:Nat} {b:Brk}
theorem BI.ack (H:BI n ss k j b) (hb:b.p.length+1<=k) (p:Pk):BI n ss k j (qf7 b p):=
 ⟨H.ro,H.se,H.st,H.ln,H.qv,H.qw,H.kq,H.qa,H.mw,H.mr,H.ms,by simp only[qf7,jAc,List.length_cons,List.length_nil];exact hb,H.tr,H.rq,H.rm⟩
theorem BI.mono (H:BI n ss k j b) {k' j':Nat} (h1:k<=k') (h2:j<=j'):BI n ss k' j' b:=
 ⟨H.ro,H.se,H.st.mono (by omega),by have:=H.ln;omega,H.qv,H.qw,H.kq,H.qa,H.mw,H.mr,H.ms,by have:=H.pl;omega,λt=>by have:=H.tr t;omega,H.rq,H.rm⟩
inductive Rcv (n ss k j:Nat) (b:Brk) (p:Pk):Brk×Int×Bool->Prop
 |no (e:Int) (he:e≠0) (hd:p.kind=1->e≠21):Rcv n ss k j b p (b,e,false)
 |dup (hk:p.kind=1) (hx:PrOk n ss p.key) (ho:(zu (b.queue p.key) p).2=21) (hv:qm p=true) (H:BI n ss (k+1) j (qf7 b p)):Rcv n ss k j b p (qf7 b p,21,false)
 |data (s':Sto) (c:Bool) (hk:p.kind=1) (hx:PrOk n ss p.key) (ho:(zu (b.queue p.key) p).2=0) (hv:qm p=true) (H:BI n ss (k+1) j {b with s:=s',q:=b.q.put p.key (zu (b.queue p.key) p).1,p:=b.p++ [⟨p.from_,(qfu p).1⟩]}):
   Rcv n ss k j b p ({b with s:=s',q:=b.q.put p.key (zu (b.queue p.key) p).1,p:=b.p++ [⟨p.from_,(qfu p).1⟩]},0,c)
 |ack (s':Sto) (c:Bool) (hk:p.kind=2) (hx:PrOk n ss p.key) (ho:(zc (b.queue p.key) p.seq).2=0) (H:BI n ss (k+1) j {b with s:=s',q:=b.q.put p.key (zc (b.queue p.key) p.seq).1}):
   Rcv n ss k j b p ({b with s:=s',q:=b.q.put p.key (zc (b.queue p.key) p.seq).1},0,c)
 |rep (s':Sto) (hk:p.kind=4) (ho:(x8 b.m p).2=0) (H:BI n ss (k+1) j {b with s:=s',m:=(x8 b.m p).1}):Rcv n ss k j b p ({b with s:=s',m:=(x8 b.m p).1},0,true)
theorem q8n (H:BI n ss k j b) {p:Pk} (h:(zu (b.queue p.key) p).2=0): ∀x∈(zu (b.queue p.key) p).1.items,x.sess=p.key.s∧x.from_=p.key.f∧x.to=p.key.t:=by
 rw[(qmz h).2.2.2.2.2];intro x d;rcases jAs.1 d with d|d
 ·exact H.qa _ x d
 ·simp only[jAv,jBk,or_false]at d;subst d;exact⟨rfl,rfl,rfl⟩
theorem qz1 (H:BI n ss k j b) {x:Pr} {s:Int}: ∀p∈(zc (b.queue x) s).1.items,p.sess=x.s∧p.from_=x.f∧p.to=x.t:=by
 by_cases h:(zc (b.queue x) s).2=0
 ·rw[(qlf h).2.2.2];exact λp hp=>H.qa x p (jCd hp)
 ·rw[qwl h];intro p hp;simp[xx]at hp
theorem xkl {m:Mg} {s r label:Int} {ss:Nat} (hm:MW m) (hl:label=1∨label=2) (h:(x8 m (we s r label)).2=0) (i: ∀e∈m.ents,e.sess<=ss) (h1:1<=s) (d:s<=32) (h0:0<=r) (hr:r<m.roles): ∀e∈(x8 m (we s r label)).1.ents,e.sess<=ss:=by
 rcases qo9 m s r label hm h1 d h0 hr hl with e|⟨k,hk,hks,_,hb,_,e,he,hw⟩
 ·exact absurd h e
 ·rw[e];intro x hx;rcases jD6 hx with h|h
  ·exact i x h
  ·subst h;rw[qht];exact i _ (jAg hk)
theorem qj6 (hn:NS n ss) (H:BI n ss k j b) (i:k<=70) (p:Pk) (hw:p.W):Rcv n ss k j b p (yl b p):=by
 have hpl:=H.pl;unfold yl;by_cases hok:qd2 b p=true
 ·rw[if_neg (by simp[hok])];have t:qm p=true:=by
   simp only[qd2,jAf]at hok;exact hok.1.1.1.2
  by_cases m:p.kind=1
  ·rw[if_pos m];have o:=qqe H hok (.inl m);unfold qkk qbg;by_cases d:(zu (b.queue p.key) p).2=0
   ·rw[if_pos d];obtain⟨s',c,e,H'⟩:=H.change hn i o (qhx _ p) (q8k (H.qw _) hw) (q8n H d);rw[e,if_pos (.inl rfl)];exact .data s' c m o d t (H'.ack (by simp only;omega) p)
   ·rw[if_neg d];by_cases l:(zu (b.queue p.key) p).2=21
    ·rw[if_pos (.inr l),l];exact .dup m o l t ((H.mono (jFl k) (jAi j)).ack (by omega) p)
    ·rw[if_neg (by simp only[not_or];exact⟨d,l⟩)];exact .no _ d (λ_=>l)
  ·rw[if_neg m];by_cases q:p.kind=2
   ·rw[if_pos q];have o:=qqe H hok (.inr q);unfold qzz;by_cases d:(zc (b.queue p.key) p.seq).2=0
    ·rw[if_neg (by simp[d])];obtain⟨s',c,e,H'⟩:=H.change hn i o (qhw _ p.seq) (q4t (H.qw _)) (qz1 H);rw[e];exact .ack s' c q o d H'
    ·rw[if_pos d];exact .no _ d (λh=>absurd h m)
   ·rw[if_neg q];have z:p.kind=4:=by
     simp only[qd2,qc3,jAf,jA0,beq_iff_eq]at hok;rcases hok.1.1.1.1 with(h|h)|h
     ·exact absurd h m
     ·exact absurd h q
     ·exact h
    unfold qer;by_cases d:(x8 b.m p).2=0
    ·rw[if_neg (by simp[d])];obtain⟨hp,A⟩:=xsp z t;have u:OneStep b.m (x8 b.m p).1:=by
      have:=qwk (s:=p.sess) (r:=p.from_) (label:=p.label) H.mw A (by rw[<- hp];exact d);rwa [<- hp]at this
     have v: ∀e∈(x8 b.m p).1.ents,e.sess<=ss:=by
      have hg:(!jc b.m||p.kind !=4|| !qm p||decide (p.from_≥b.m.roles))=false:=by
       cases hgg:(!jc b.m||p.kind !=4|| !qm p||decide (p.from_≥b.m.roles))with
       |false=>rfl
       |true=>unfold x8 at d;rw[if_pos hgg]at d;cases d
      obtain⟨_,_,_,g4,g5⟩:=xx5 hg;have hs:1<=p.sess∧p.sess<=32:=by
       simp only[qm,qf1,jAf,decide_eq_true_eq]at t;omega
      have:=xkl (s:=p.sess) (r:=p.from_) (label:=p.label) (ss:=ss) H.mw A (by rw[<- hp];exact d) H.ms hs.1 hs.2 g5 g4;rwa [<- hp]at this
     obtain⟨s',e,H'⟩:=H.manage i u v;rw[e];exact .rep s' z d H'
    ·rw[if_pos d];exact .no _ d (λh=>absurd h m)
 ·rw[if_pos (by simpa using hok)];exact .no 1 (by decide) (λ_=>by decide)
end
theorem xqv {m:Cont} (h:m.Good):(qzi (xu m)).length<=401*70000:=by
 have d:(xu m).length<=400:=by rw[qf4];exact h.few
 have h0:=(xi9 (xu m) (xja h) (xu m).length (jAi _)).file;have h1:qzi (xu m)=qd0 (cAt (xu m) (xu m).length).1 (cAt (xu m) (xu m).length).2:=by rw[qzi,cAt,jAr]
 have h2:=qn2 (cAt (xu m) (xu m).length).1 (cAt (xu m) (xu m).length).2;have h3:=jAz 70000 d;rw[h1];omega
theorem qz2 (s:Sto):(qh8 s).m=s.m:=by unfold qh8;split<;>rfl
theorem xqw {s:Sto} {k:Nat} (h:s.Ok (k+401)):(qh8 s).Ok (k+401):=by
 refine⟨by rw[qz2];exact h.good,?_⟩;unfold qh8;split
 ·have:=xqv h.good;exact jBn this (jAz _ (by omega))
 ·exact h.file
theorem qe1 {α β:Type} (f:α->List β) (c:Nat): ∀(l:List α),(∀x∈l,(f x).length<=c) ->(l.flatMap f).length<=l.length*c
 | [],_=>by simp
 |x::l,h=>by
  have h1:=h x jA7;have h2:=qe1 f c l λy hy=>h y (jA9 _ hy);rw[List.flatMap_cons,jAc,List.length_cons,jCp];omega
theorem qwp (n ss:Nat):(xr n ss).length<=ss*(n*n):=by
 unfold xr in3;have h1: ∀s f,(in1 n s f 0).length<=n:=λs f=>by
  unfold in1;have:=qe1 (λt=>if f=t then []else [(s,f,t)]) 1 (List.range' 0 (n-0)) (λx _=>by split<;>simp)
  simpa using this
 have h2: ∀s,(in2 n s 0).length<=n*n:=λs=>by
  unfold in2;have:=qe1 (λf=>in1 n s f 0) n (List.range' 0 (n-0)) (λx _=>h1 s x);simpa using this
 have:=qe1 (λs=>in2 n s 0) (n*n) (List.range' 1 (ss+1-1)) (λx _=>h2 x);simpa using this
theorem xkm {n s f t:Nat} {x:Nat×Nat×Nat}:x∈in1 n s f t↔x.1=s∧x.2.1=f∧t<=x.2.2∧x.2.2<n∧f≠x.2.2:=by
 obtain⟨a,b,c⟩:=x;unfold in1;simp only[jBi,List.mem_range'_1];constructor
 ·rintro⟨y,hy,h⟩;split at h
  ·cases h
  ·simp only[jAv,jCw,jBk,or_false]at h;obtain⟨rfl,rfl,rfl⟩:=h;exact⟨rfl,rfl,by omega,by omega,by assumption⟩
 ·rintro⟨h1,h2,h3,h4,h5⟩;exact⟨c,by omega,by rw[if_neg h5];simp[h1,h2]⟩
theorem qj7 {n ss:Nat} {x:Nat×Nat×Nat}:x∈xr n ss↔1<=x.1∧x.1<=ss∧x.2.1<n∧x.2.2<n∧x.2.1≠x.2.2:=by
 unfold xr in3;simp only[jBi,List.mem_range'_1,in2];constructor
 ·rintro⟨s,hs,f,hf,h⟩;obtain⟨h1,h2,h3,e,d⟩:=xkm.1 h;omega
 ·rintro⟨h1,h2,h3,e,d⟩;exact⟨x.1,by omega,x.2.1,by omega,xkm.2 ⟨rfl,rfl,jAj _,e,d⟩⟩
theorem qwq {m:Mg} (h:MW m):(xn m).length<=200:=by
 unfold xn;split
 ·have hl:m.ents.length<=32:=by
   have:=qje h.inc (by intro x d;obtain⟨e,p,rfl⟩:=jAo.1 d;exact(h.en e p).s1) (by intro x d;obtain⟨e,p,rfl⟩:=jAo.1 d;exact(h.en e p).s32);rwa [jAm]at this
  have h6:=h.r6;have d: ∀i∈List.range m.ents.length,(qsf (m.ents.getD i default)).length<=6:=λi hi=>by
   have l:i<m.ents.length:=by simpa using hi
   rw[zp l];have o:=h.en _ (jAg l);have h1:=qiw m.ents[i].sess (qak m.ents[i]) (zs m.ents[i]) (zs m.ents[i]).length;have h2:(zs m.ents[i]).length<=6:=by
    have:=o.ml;have:=o.ol;unfold zs;split<;>omega
   unfold qsf;omega
  have:=qe1 (λi=>qsf (m.ents.getD i default)) 6 (List.range m.ents.length) d;unfold yi;simp only[List.length_range]at this;omega
 ·simp
section
variable {n ss k j:Nat} {b:Brk}
def qbr (b:Brk) (now:Int) (n ss:Nat):Brk:={b with s:=qh8 b.s,p:= [],t:=(accO b now (accT b now (xr n ss)) (xn b.m)).1}
def qh0 (b:Brk) (now:Int) (n ss:Nat):List OutM:=(accO b now (accT b now (xr n ss)) (xn b.m)).2
def TrOk (j:Nat) (d:MapM Tk TryM):Prop:= ∀t,0<=((d.get t).getD ⟨0,0⟩).count∧((d.get t).getD ⟨0,0⟩).count<=j
theorem xa7 {d:MapM Tk TryM} (hb: ∀t,0<=(qed b t).count∧(qed b t).count<=j) (h:TrOk (j+1) d) (t:Tk) (now:Int) (l:List OutM) (x:OutM):TrOk (j+1) (qge b d t now l x).1:=by
 have hbt:=hb t;intro u;unfold qge;split
 ·simp only[MapM.get_put];split
  ·simp only[Option.getD_some,qtl];omega
  ·exact h u
 ·simp only[MapM.get_put];split
  ·simp only[Option.getD_some];omega
  ·exact h u
theorem qoc {α β:Type} (P:β->Prop) (f:β->α->β) (h: ∀a x,P a->P (f a x)): ∀(l:List α) (a:β),P a->P (l.foldl f a)
 | [],_,ha=>ha
 |x::l,a,ha=>qoc P f h l (f a x) (h a x ha)
theorem xyd (e: ∀t,0<=(qed b t).count∧(qed b t).count<=j) (now:Int) (l:List (Nat×Nat×Nat)) (o:List Pk):TrOk (j+1) (accO b now (accT b now l) o).1:=by
 unfold accO;refine qoc (λa:MapM Tk TryM×List OutM=>TrOk (j+1) a.1) _ (λa x d=>xa7 e d _ _ _ _) o _ ?_;unfold accT;refine qoc (λa:MapM Tk TryM×List OutM=>TrOk (j+1) a.1) _ (λa x d=> ?_) l _ (λt=>by simp[MapM.get];omega);unfold q4x;split
 ·exact xa7 e d _ _ _ _
 ·exact d
theorem BI.tick (H:BI n ss k j b) (now:Int):BI n ss k (j+1) (qbr b now n ss):=
 ⟨H.ro,H.se,xqw H.st,by simp only[qbr,qz2];exact H.ln,H.qv,H.qw,H.kq,H.qa,H.mw,H.mr,H.ms,jAj _,xyd H.tr now _ _,λx hx=>by simp only[qbr,qz2];exact H.rq x hx,by simp only[qbr,qz2];exact H.rm⟩
theorem BI.qsm (H:BI n ss k j b) (x:Pr):(b.queue x).Sm:=qhy (H.qv x)
end
open Tryz
attribute [-go_sem] qfp
def d16d:=cut prog f16 news [] [] true
@[go_sem] def E16d:=qj d16d
def F16d:=fnC d16d follows func16
def d19d:=cut prog f19 news [] [] true
@[go_sem] def E19d:=qj d19d
def F19d:=fnC d19d follows func19
def ve (b:Brk) (x:D):List ASlot:= [.d (.int .i64 b.roles),.d (.int .i64 b.sess),.d (.ptr 1 0),.d (.map 3),.d (.int .i64 b.m.roles),.d (.sl 4 (b.m.ents.map qu)),.d x,.d (.map 4)]
def brX (b:Brk) (x:D):List AObj:= [.row (ve b x),stoO b.s 2,mapO b.s.m,qmO b.q,tmO b.t]
def SqF (b:Brk) (x:D) (q:Qu) (i:{i:Nat//i<=q.items.length}):St:=
 ⟨[(8,true,.d (.ptr 5 0)),(9,true,.d (.ptr 6 0)),(34,true,.d (.sl 9 (q.items.map qi))),(35,true,.d (.int .i64 q.items.length)),(36,true,.d (.int .i64 (i.val:Nat)))],
  [.row (ve b x),stoO b.s 2,mapO b.s.m,qmO b.q,tmO b.t,.row [.d (.int .i64 0),.d (.int .i64 0),.d .nilsl],.row [.d (.int .i64 q.acc),.d (.int .i64 q.cons),.own 0 9 ((q.items.take i.val).map qi)]],[0],1⟩
theorem xko (b:Brk) (x:D) (hx:x.noPtr=true) (s f t:Int) (m:(b.queue ⟨s,f,t⟩).Sm):
  qf prog 16 [.d (.ptr 0 0),.d (.int .i64 s),.d (.int .i64 f),.d (.int .i64 t)] (brX b x) (.d (.agg (encQ (b.queue ⟨s,f,t⟩)))) (brX b x):=by
 have hl:=m.1;have l:b.queue ⟨s,f,t⟩=(b.q.get ⟨s,f,t⟩).getD noQ:=rfl;generalize b.queue ⟨s,f,t⟩=q at m hl l⊢;refine F16d.go ?_;refine eo7 @hx @brX.eq_1 @ve.eq_1 @stoO.eq_1 @mapO.eq_1 @qmO.eq_1 @tmO.eq_1 ?_;refine no_ ?_;refine ez ?_;cases hc:b.q.get ⟨s,f,t⟩with
 |none=>
  rw[hc]at l;subst l;simp only[hc,lkQ,qft,encQ,noQ,go_sem,simprocAttr];refine qg (λ_:Unit=>SqF b x noQ ⟨0,jAj _⟩) (λ_=>0) () ?_ (λ_=> ?_)
  ·simp only[hx,SqF,noQ,ve,stoO,mapO,qmO,tmO,List.map_nil,List.take_nil,List.length_nil,jAt,go_sem,simprocAttr]
  simp only[hx,SqF,noQ,ve,stoO,mapO,qmO,tmO,List.map_nil,List.take_nil,List.length_nil,jAt,go_sem,simprocAttr]
  (repeat(with_reducible refine ob ?_));refine no_ ?_
  refine ez ?_;refine pu ?_;simp only[hx,encQ,noQ,Option.getD_none,List.map_nil,ve,stoO,mapO,qmO,tmO,go_sem,simprocAttr]
 |some q'=>
  rw[hc]at l;simp only[Option.getD_some]at l;subst l;simp only[hc,lkQ,qft,encQ,encQ,go_sem,simprocAttr];refine qg (SqF b x q) (λi=>(q).items.length-i.val) ⟨0,jAj _⟩ ?_ (λi=> ?_)
  ·exact et8 @hx @SqF.eq_1 @encQ.eq_1 @ve.eq_1 @stoO.eq_1 @mapO.eq_1 @qmO.eq_1 @tmO.eq_1
  ·obtain⟨i,hi⟩:=i;refine eo7 @hx @SqF.eq_1 @ve.eq_1 @stoO.eq_1 @mapO.eq_1 @qmO.eq_1 @tmO.eq_1 ?_;refine xf _ (λh=> ?_) (λh=> ?_)
   ·have e:i<(q).items.length:=by simpa using h
    have hp:=m.2 _ (jAg e);have hp1:=hp.1;have hp2:=hp.2;simp only[qh qi (q).items e,qi,go_sem,simprocAttr]
    (repeat(with_reducible refine ob ?_))
    refine⟨⟨i+1,e⟩,?_,by dsimp only;omega⟩;simp only[hx,SqF,ye qi (q).items e,qi,qe (show i<9223372036854775807 by omega),ve,stoO,mapO,qmO,tmO,go_sem,simprocAttr]
   ·have e:i=(q).items.length:=by simp at h;omega
    subst e;refine ez1 @jAr.{0} ?_;refine pu ?_;exact et7 @hx @encQ.eq_1 @ve.eq_1 @stoO.eq_1 @mapO.eq_1 @qmO.eq_1 @tmO.eq_1
def SmF (b:Brk) (x:D) (i:{i:Nat//i<=b.m.ents.length}):St:=
 ⟨[(2,true,.d (.ptr 5 0)),(3,true,.d (.ptr 6 0)),(19,true,.d (.sl 4 (b.m.ents.map qu))),(20,true,.d (.int .i64 b.m.ents.length)),(21,true,.d (.int .i64 (i.val:Nat)))],
  [.row (ve b x),stoO b.s 2,mapO b.s.m,qmO b.q,tmO b.t,.row [.d (.int .i64 0),.d .nilsl],.row [.d (.int .i64 b.m.roles),.own 0 4 ((b.m.ents.take i.val).map qu)]],[0],1⟩
theorem q8o (b:Brk) (x:D) (hx:x.noPtr=true) (l:b.m.Sm):qf prog 19 [.d (.ptr 0 0)] (brX b x) (.d (.agg (xt b.m))) (brX b x):=by
 have hl:=l.1;refine F19d.go ?_;refine eo7 @hx @brX.eq_1 @ve.eq_1 @stoO.eq_1 @mapO.eq_1 @qmO.eq_1 @tmO.eq_1 ?_;refine no_ ?_;refine ez ?_;refine qg (SmF b x) (λi=>b.m.ents.length-i.val) ⟨0,jAj _⟩ ?_ (λi=> ?_)
 ·exact et7 @hx @SmF.eq_1 @ve.eq_1 @stoO.eq_1 @mapO.eq_1 @qmO.eq_1 @tmO.eq_1
 ·obtain⟨i,hi⟩:=i;refine eo7 @hx @SmF.eq_1 @ve.eq_1 @stoO.eq_1 @mapO.eq_1 @qmO.eq_1 @tmO.eq_1 ?_;refine xf _ (λh=> ?_) (λh=> ?_)
  ·have e:i<b.m.ents.length:=by simpa using h
   have hp:=l.2 _ (jAg e);have hp1:=hp.1;have hp2:=hp.2;simp only[qh qu b.m.ents e,qu,go_sem,simprocAttr]
   (repeat(with_reducible refine ob ?_))
   refine⟨⟨i+1,e⟩,?_,by dsimp only;omega⟩;simp only[hx,SmF,ye qu b.m.ents e,qu,qe (show i<9223372036854775807 by omega),ve,stoO,mapO,qmO,tmO,go_sem,simprocAttr]
  ·have e:i=b.m.ents.length:=by simp at h;omega
   subst e;refine ez1 @jAr.{0} ?_;refine pu ?_;exact et7 @hx @xt.eq_1 @ve.eq_1 @stoO.eq_1 @mapO.eq_1 @qmO.eq_1 @tmO.eq_1
def brF (b:Brk):List AObj:= [.row (ve b (.sl 10 (b.p.map vg))),stoO b.s 2,mapO b.s.m,qmO b.q,tmO b.t]
theorem qto (b:Brk):(D.sl 10 (b.p.map vg)).noPtr=true:=by simp only[D.noPtr,qoa]
theorem xkp (b:Brk) (s f t:Int) (hq:(b.queue ⟨s,f,t⟩).Sm):qf prog 16 [.d (.ptr 0 0),.d (.int .i64 s),.d (.int .i64 f),.d (.int .i64 t)] (brF b) (.d (.agg (encQ (b.queue ⟨s,f,t⟩)))) (brF b):=xko b _ (qto b) s f t hq
theorem q8p (b:Brk) (hm:b.m.Sm):qf prog 19 [.d (.ptr 0 0)] (brF b) (.d (.agg (xt b.m))) (brF b):=q8o b _ (qto b) hm
end Go.Proofs.YtkcdbcbpbolgkaaGreatDoor
namespace Go.Proofs.YtkcdbcbpbolgkaaGreatDoor
open Go.Abs
section
variable {n ss k j:Nat} {b:Brk}
def prOf (x:Nat×Nat×Nat):Pr:=⟨x.1,x.2.1,x.2.2⟩
def itP (b:Brk) (x:Nat×Nat×Nat):List (Tk×OutM):=if(y4 (b.queue (prOf x))).2=true then [(⟨prOf x,(y4 (b.queue (prOf x))).1.seq⟩,⟨x.2.2,(y4 (b.queue (prOf x))).1⟩)]else []
def itO (y:Pk):Tk×OutM:=(⟨⟨y.sess,y.from_,-1⟩,y.label⟩,⟨y.from_,y⟩)
def items (b:Brk) (n ss:Nat):List (Tk×OutM):=(xr n ss).flatMap (itP b)++(xn b.m).map itO
def valT (b:Brk) (t:Tk) (now:Int):TryM:=if qzx b t now=true then qtl (qed b t) now else qed b t
def q41 (b:Brk) (now:Int) (a:MapM Tk TryM×List OutM) (i:Tk×OutM):MapM Tk TryM×List OutM:=(a.1.put i.1 (valT b i.1 now),if qzx b i.1 now=true then a.2++ [i.2]else a.2)
theorem q42 (a:MapM Tk TryM×List OutM) (t:Tk) (now:Int) (x:OutM):qge b a.1 t now a.2 x=q41 b now a (t,x):=by
 unfold qge q41 valT;split<;>rfl
theorem qwr {α β γ:Type} (f:γ->β->γ) (g:α->List β) (h:γ->α->γ) (d: ∀a x,h a x=(g x).foldl f a): ∀(l:List α) (a:γ),l.foldl h a=(l.flatMap g).foldl f a
 | [],_=>rfl
 |x::l,a=>by rw[List.foldl_cons,List.flatMap_cons,jCm,d,qwr f g h d l]
theorem qws (now:Int):accO b now (accT b now (xr n ss)) (xn b.m)=(items b n ss).foldl (q41 b now) (⟨[],0⟩,b.p):=by
 unfold items;rw[jCm,List.foldl_map];have h1:accT b now (xr n ss)=((xr n ss).flatMap (itP b)).foldl (q41 b now) (⟨[],0⟩,b.p):=by
  unfold accT;refine qwr _ _ _ (λa x=> ?_) _ _;unfold q4x itP;show(if(y4 (b.queue (prOf x))).2=true then _ else a)=_;split
  ·rw[List.foldl_cons,List.foldl_nil,<- q42];rfl
  ·rfl
 rw[h1];unfold accO;congr 1;funext a y;exact q42 a _ now _
theorem q44 (now:Int) (t:Tk): ∀(l:List (Tk×OutM)) (a:MapM Tk TryM×List OutM),(l.foldl (q41 b now) a).1.get t=if t∈l.map (·.1)then some (valT b t now)else a.1.get t
 | [],a=>by simp
 |i::l,a=>by
  rw[List.foldl_cons,q44 now t l];simp only[q41,MapM.get_put,List.map_cons,jAv];by_cases h:t∈l.map (·.1)
  ·simp[h]
  ·simp only[h,if_false,or_false];by_cases d:t=i.1
   ·subst d;simp
   ·simp[d]
theorem xve (b:Brk) (now:Int) (n ss:Nat) (t:Tk):(qbr b now n ss).t.get t=if t∈(items b n ss).map (·.1)then some (valT b t now)else none:=by
 unfold qbr;simp only;rw[qws,q44];rfl
structure BD (now:Int) (b:Brk):Prop where
 pk: ∀o∈b.p,o.p.kind≠1
 nx: ∀t y,b.t.get t=some y->y.next<=now+64
theorem q8q (c:Int):0<=qeq c∧qeq c<=64:=by
 unfold qeq;repeat' split
 all_goals omega
theorem xq0 {now d:Int} (h:BD now b) (h0:0<=d) (h1:d<=1000000000) (hle:now<=d) (t:Tk):(valT b t d).next<=d+64:=by
 unfold valT;have hi:=q8q ((qed b t).count+1);split
 ·simp only[qtl];rw[wrap_i64 (by omega) (by omega)];omega
 ·rename_i e;unfold qzx at e;cases hg:b.t.get t with
  |none=>rw[hg]at e;simp at e
  |some y=>
   have:=h.nx t y hg;unfold qed;rw[hg];simp only[Option.getD_some];omega
theorem BD.tick {now d:Int} (h:BD now b) (h0:0<=d) (h1:d<=1000000000) (i:now<=d):BD d (qbr b d n ss):=by
 refine⟨λo ho=>by simp[qbr]at ho,λt y e=> ?_⟩;rw[xve]at e;split at e
 ·cases e;exact xq0 h h0 h1 i t
 ·cases e
theorem BD.mono {now d:Int} (h:BD now b) (hle:now<=d):BD d b:=⟨h.pk,λt y hy=>by have:=h.nx t y hy;omega⟩
end
end Go.Proofs.YtkcdbcbpbolgkaaGreatDoor
namespace Go.Proofs.YtkcdbcbpbolgkaaGreatDoor
open Tryz
open Go.Abs Go.RowKit
attribute [-go_sem] qfp
attribute [local go_sem] qye xtw qyf
def d21d:=cut prog f21 news [61] [] true
@[go_sem] def E21d:=qj d21d
def F21d:=fnC d21d follows func21
def xyf:Nat->Code->Code
 |n+1,.seq _ y=>xyf n y
 | _,c=>c
noncomputable def xks:Code:=xyf 4 (f21.body.getD .skip)
noncomputable def qtp:SCode:= .seq (.seq (.region (d21d.reg 5) 0 []) (.cond (.t 58) (.seq (.region (d21d.reg 6) 0 []) (.pause .ret)) .skip)) (.seq (.region (d21d.reg 7) 0 []) (.pause .ret))
theorem xel:zy prog [61] 62 news xks=some qtp.erase:=by kernel_rfl
def qtq (k:Int):D×Bool:=
 if k=1 then(.func (.func 71) [.ptr 0 0] [],true)else if k=2 then(.func (.func 72) [.ptr 0 0] [],true)else if k=4 then(.func (.func 73) [.ptr 0 0] [],true)else(.nilfunc,false)
def SrY (b:Brk) (p:Pk):St:=⟨[(0,true,.d (.ptr 0 0)),(3,true,.d (.ptr 5 0)),(6,true,.d (qtq p.kind).1),(7,true,.d (.bool (qtq p.kind).2))],brO b++ [.row ((qi p).map .d),.none],[0],1⟩
theorem xyg {α:Type} {l:List α} (h:l.length=2): ∃a b,l= [a,b]:=by
 match l,h with
 | [a,b],_=>exact⟨a,b,rfl⟩
theorem xvg {α:Type} {l:List α} (h:l.length=9): ∃a b c d e f g i j,l= [a,b,c,d,e,f,g,i,j]:=by
 match l,h with
 | [a,b,c,d,e,f,g,i,j],_=>exact⟨a,b,c,d,e,f,g,i,j,rfl⟩
def qz3:Nat->Code->Code
 |0,.seq x _=>x
 |n+1,.seq _ y=>qz3 n y
 | _,c=>c
noncomputable def q8s:Code:=f21.body.getD .skip
theorem xem:q8s= .seq (qz3 0 q8s) (.seq (qz3 1 q8s) (.seq (qz3 2 q8s) (.seq (qz3 3 q8s) xks))):=by kernel_rfl
def mapW (W:World) (b:Nat) (es:List MapEntry) (c:Nat):World:={W with heap:=W.heap.setIfInBounds b (.map es.toArray c)}
theorem q8t {W:World} {b:Nat} {o:Obj} (es:List MapEntry) (c:Nat) (h:W.heap[b]? =some o):(mapW W b es c).heap[b]? =some (.map es.toArray c):=(MapKept.heap_set h).1
theorem qod {W:World} {b k:Nat} (es:List MapEntry) (c:Nat) (h:k≠b):(mapW W b es c).heap[k]? =W.heap[k]? :=by
 simp[mapW,Ne.symm h]
theorem xkt {W:World} {b:Nat} (es:List MapEntry) (c:Nat):(mapW W b es c).heap.size=W.heap.size:=by simp[mapW]
theorem q8u {W:World} {b c:Nat} {es:List MapEntry} (k:Int) (f:Value) (h:W.heap[b]? =some (.map es.toArray c)) (hn:Instr.findNow (.int .i64) (.int .i64 k) es 0=some none):
  (Instr.mapUpdate 165 (.map (some b)) (.int .i64 k) f).run prog W= .ok () (mapW W b (es++ [{key:= .int .i64 k,val:=f,born:=c}]) (c+1)):=by
 have e:(Instr.checkKey false 10000 3 (.int .i64 k)).run prog W= .ok () W:=MapKept.run_checkKey (k:= .int .i64 k) underlying3 (by simp[MapKept.IsKey]) false 9999;have d:=MapKept.run_findKey (P:=prog) (w:=W) underlying3 hn;simp[Instr.mapUpdate,run_underlying underlying165,MapKept.run_getObj_map h,e,d,MapKept.run_setObj_map _ h,Result.andThen,mapW]
theorem qz4 {W:World} {b c:Nat} {es:List MapEntry} (k:Int) (j:Nat) (F:Value) (hh:W.heap[b]? =some (.map es.toArray c)) (hn:Instr.findNow (.int .i64) (.int .i64 k) es 0=some (some (j,F))):
  (Instr.lookup 165 (.map (some b)) (.int .i64 k) true).run prog W= .ok (.tuple #[F,.bool true]) W:=by
 have h: ∀e,(Instr.checkKey e 10000 3 (.int .i64 k)).run prog W= .ok () W:=λe=>MapKept.run_checkKey (k:= .int .i64 k) underlying3 (by simp[MapKept.IsKey]) e 9999;have d:=MapKept.run_findKey (P:=prog) (w:=W) underlying3 hn;simp[Instr.lookup,run_underlying underlying165,MapKept.run_getObj_map hh,h,d,Result.andThen]
theorem xku {W:World} {b c:Nat} {es:List MapEntry} (k:Int) (hh:W.heap[b]? =some (.map es.toArray c)) (hn:Instr.findNow (.int .i64) (.int .i64 k) es 0=some none):
  (Instr.lookup 165 (.map (some b)) (.int .i64 k) true).run prog W= .ok (.tuple #[.nilFunc,.bool false]) W:=by
 have m: ∀e,(Instr.checkKey e 10000 3 (.int .i64 k)).run prog W= .ok () W:=λe=>MapKept.run_checkKey (k:= .int .i64 k) underlying3 (by simp[MapKept.IsKey]) e 9999;have l:=MapKept.run_findKey (P:=prog) (w:=W) underlying3 hn;have d:(zeroValue 53).run prog W= .ok .nilFunc W:=by
  obtain⟨i,hi,d⟩: ∃i,prog.info? 53=some i∧i.zero=some .nilFunc:=by
   have h:(prog.info? 53).bind (λi=>i.zero)=some .nilFunc:=by kernel_rfl
   exact jEb.1 h
  simp[zeroValue,typeInfo,hi,d]
 simp[Instr.lookup,run_underlying underlying165,MapKept.run_getObj_map hh,m,l,d,Result.andThen]
theorem xen (b:Brk) (p:Pk) (R:Exit->Act->World->Prop) (g:Ghost) (w:World) (vs:List Value) (ae:vs.length=2) (hd:Dom g w)
  (hs:SR 62 (below 1) g w (qim [.d (.ptr 0 0),.d (.agg (qi p))] (brO b)) {tmps:=vs.toArray++Array.replicate (62-vs.toArray.size) undef,defers:= []})
  (hY: ∀g1 w1 a1,SR 62 (below 1) g1 w1 (SrY b p) a1->G g w g1 w1->a1.defers= [] ->xks.wpIn (Fw none) 0 prog R a1 w1):
  q8s.wpIn (Fw none) 0 prog R {tmps:=vs.toArray++Array.replicate (62-vs.toArray.size) undef,defers:= []} w:=by
 obtain⟨v0,v1,rfl⟩:=xyg ae;simp only[List.size_toArray,List.length_cons,List.length_nil,Nat.reduceAdd,Nat.reduceSub,jFf,jFe,List.push_toArray,jFm,List.nil_append,List.cons_append]at hs⊢;have h0:=ws ((hs.slots 0 true _ rfl).1 rfl);have A:=ws ((hs.slots 1 true _ rfl).1 rfl);simp only[jEp,jD8,jBg,jCv,jCa,jCb,Option.getD_some]at h0 A;cases h0 with
 |ptr bb _ _ hg=>
 generalize af:qi p=ds at A;cases A with
 |agg us _ hl hcl hr=>
 subst af;obtain⟨u0,U,O,M,J,I,E,C,B,rfl⟩:=xvg (hl.trans rfl);have m:u0= .int .i64 p.kind:=by
  have:=hr 0 u0 _ rfl rfl;cases this;rfl
 subst m;rw[xem];generalize xks=Y at hY⊢;refine wpIn_seq ?_;conv in (qz3 0 _)=>whnf
 gi_wp2
 conv in (qz3 1 _)=>whnf
 gi_wp2
 conv in (qz3 2 _)=>whnf
 have alloc_at: ∀(W:World) (o:Obj),(W.alloc o).heap[W.heap.size]? =some o:=λW o=>heap_alloc_new W o;have hB:((w.alloc (.cells #[.int .i64 p.kind,U,O,M,J,I,E,C,B] 33)).alloc (.map #[] 0)).heap[w.heap.size+1]? =some (.map ([]:List MapEntry).toArray 0):=by
  have:=alloc_at (w.alloc (.cells #[.int .i64 p.kind,U,O,M,J,I,E,C,B] 33)) (.map #[] 0);simpa using this
 have i1:=q8u 1 (.func (.func 71) #[.pointer (some ⟨bb,0,none⟩)] #[]) hB rfl;have ac:=q8t ([]++ [{key:= .int .i64 1,val:= .func (.func 71) #[.pointer (some ⟨bb,0,none⟩)] #[],born:=0}]) 1 hB;have i2:=q8u 2 (.func (.func 72) #[.pointer (some ⟨bb,0,none⟩)] #[]) ac rfl;have ab:=q8t ([]++ [{key:= .int .i64 1,val:= .func (.func 71) #[.pointer (some ⟨bb,0,none⟩)] #[],born:=0}]++ [{key:= .int .i64 2,val:= .func (.func 72) #[.pointer (some ⟨bb,0,none⟩)] #[],born:=1}]) 2 ac;have i3:=q8u 4 (.func (.func 73) #[.pointer (some ⟨bb,0,none⟩)] #[]) ab rfl;have q:=q8t ([]++ [{key:= .int .i64 1,val:= .func (.func 71) #[.pointer (some ⟨bb,0,none⟩)] #[],born:=0}]++ [{key:= .int .i64 2,val:= .func (.func 72) #[.pointer (some ⟨bb,0,none⟩)] #[],born:=1}]++ [{key:= .int .i64 4,val:= .func (.func 73) #[.pointer (some ⟨bb,0,none⟩)] #[],born:=2}]) 3 ab;simp only[List.nil_append,List.cons_append,Nat.reduceAdd,Nat.zero_add]at i1 i2 i3 q;gi_wp2_with (first|simp only[run_makeMap,Result.andThen_ok]|simp only[i1,Result.andThen_ok]|simp only[i2,Result.andThen_ok]|simp only[i3,Result.andThen_ok])
 clear i1 i2 i3 hB ac ab;generalize hW:mapW (mapW (mapW _ _ _ _) _ _ _) _ _ _=W at q⊢;have w1:W.heap.size=w.heap.size+2:=by rw[<- hW];simp[xkt]
 have w2: ∀k,k≠w.heap.size+1->W.heap[k]? =(w.alloc (.cells #[.int .i64 p.kind,U,O,M,J,I,E,C,B] 33)).heap[k]? :=by
  intro k m;rw[<- hW,qod _ _ m,qod _ _ m,qod _ _ m];by_cases z:k<(w.alloc (.cells #[.int .i64 p.kind,U,O,M,J,I,E,C,B] 33)).heap.size
  ·exact heap_alloc_old _ _ z
  ·rw[jEe (by simp at z⊢;omega),jEe (by omega)]
 have w3:W.os=w.os∧W.tape=w.tape∧W.output=w.output:=by rw[<- hW];exact⟨rfl,rfl,rfl⟩
 have w4:W.heap[w.heap.size]? =some (.cells #[.int .i64 p.kind,U,O,M,J,I,E,C,B] 33 (0,0)):=by
  rw[w2 _ (by omega)];exact heap_alloc_new w _
 clear hW;have hc:W.cell? ⟨w.heap.size,0,none⟩=some (.int .i64 p.kind):=by simp[World.cell?,w4]
 have hf:W.frozen? ⟨w.heap.size,0,none⟩=false:=by simp[World.frozen?,w4]
 have u: ∀(g':Ghost) (f:FuncId),g' bb= .obj 0->RV g' W (.func (.func f) #[.pointer (some ⟨bb,0,none⟩)] #[]) (.func (.func f) [.ptr 0 0] []):=λg' f l=>
  .func (.func f) [.pointer (some ⟨bb,0,none⟩)] [] [.ptr 0 0] [] rfl rfl (λj v d A h2=>by
   match j with
   |0=>simp at A h2;subst A;subst h2;exact .ptr bb 0 0 l
   |j+1=>simp at A) (λj v d A=>by simp at A)
 have lk: ∃F,(Instr.lookup 165 (.map (some (w.heap.size+1))) (.int .i64 p.kind) true).run prog W= .ok (.tuple #[F,.bool (qtq p.kind).2]) W∧ ∀g':Ghost,g' bb= .obj 0->RV g' W F (qtq p.kind).1:=by
  by_cases k1:p.kind=1
  ·refine⟨_,by rw[k1];exact qz4 1 0 _ q rfl,λg' l=> ?_⟩;rw[k1];exact u g' _ l
  by_cases k2:p.kind=2
  ·refine⟨_,by rw[k2];exact qz4 2 1 _ q rfl,λg' l=> ?_⟩;rw[k2];exact u g' _ l
  by_cases k4:p.kind=4
  ·refine⟨_,by rw[k4];exact qz4 4 2 _ q rfl,λg' l=> ?_⟩;rw[k4];exact u g' _ l
  ·have hp:qtq p.kind=(.nilfunc,false):=by unfold qtq;rw[if_neg k1,if_neg k2,if_neg k4]
   have e1:(p.kind==1)=false:=by simpa using k1
   have e2:(p.kind==2)=false:=by simpa using k2
   have e4:(p.kind==4)=false:=by simpa using k4
   refine⟨.nilFunc,by rw[hp];exact xku p.kind q (by simp only[Instr.findNow,Instr.sameNow,e1,e2,e4,if_true]),λg' l=> ?_⟩;rw[hp];exact .nilfunc
 obtain⟨F,lk,hF⟩:=lk;clear q u;conv in (qz3 3 _)=>whnf
 gi_wp2_with (simp only[lk,Result.andThen_ok])
 obtain⟨wo,wt,wu⟩:=w3;have s1:=hs.grow 2;obtain⟨ah,s2⟩:=s1.newObj (id:=5) (new:=(qi p).map .d) (vs:= [.int .i64 p.kind,U,O,M,J,I,E,C,B]) (e:=33) rfl (by simp[qi]) (λi s hi=>by
  rw[jAn,jAb]at hi;obtain⟨d,X,rfl⟩:=hi;have z:i<9:=by have:=(jAd.1 X).1;simpa[qi]using this
  have hv: ∃v,([.int .i64 p.kind,U,O,M,J,I,E,C,B]:List Value)[i]? =some v:=⟨_,jAa (by simpa using z)⟩;obtain⟨v,hv⟩:=hv;have ad:=hr i v d hv X;exact⟨v,hv,ad.oneCell (hcl d (jAe X)),ad⟩) (λs hm t ht=>by
  obtain⟨d,_,rfl⟩:=jAo.1 hm;simp[ASlot.toks]at ht)
 have Z: ∀k,(g.at w.heap.size (.obj 5)) k≠ .out->k≠w.heap.size+1:=by
  rintro k m rfl;rw[Ghost.at_ne g _ (by omega)]at m;exact m (hd.1 _ (by omega))
 have s3:=s2.still (w':=W) (λk m=>w2 k (Z k m)) (by rw[w1];simp);have ag:bb≠w.heap.size:=λh=>by
  rw[h,hd.1 _ (jAi _)]at hg;cases hg
 have l:(g.at w.heap.size (.obj 5)) bb= .obj 0:=by rw[Ghost.at_ne g _ ag];exact hg
 have aa:(g.at w.heap.size (.obj 5)) w.heap.size= .obj 5:=Ghost.at_same _ _ _;refine hY (g.at w.heap.size (.obj 5)) W _ (SR.plain (fr:=(SrY b p).fr) s3 rfl rfl λk d m=> ?_) (ah.beyond wo wt wu (by rw[w1];simp) λk r m _ _=>w2 k (by omega)) rfl;simp only[SrY,Fr.get]at m;split at m
 ·rename_i h;subst h;cases m;exact .ptr bb 0 0 l
 split at m
 ·rename_i h;subst h;cases m;exact .ptr _ 0 5 aa
 split at m
 ·rename_i h;subst h;cases m;exact hF _ l
 split at m
 ·rename_i h;subst h;cases m;exact .bool _
 ·cases m
end Go.Proofs.YtkcdbcbpbolgkaaGreatDoor
namespace Go.Proofs.YtkcdbcbpbolgkaaGreatDoor
open Tryz
open Go.Abs
attribute [-go_sem] qfp
def QrB (b:Brk) (p:Pk):SExit->St->Prop:=q56 5 [.tmp 4] [.d (.int .i64 (yl b p).2.1)] (afB b (yl b p).1 (yl b p).2.2)
theorem xvh {k:Int} (h:qc3 k=false):qtq k=(.nilfunc,false):=by
 simp only[qc3,jA4,beq_eq_false_iff_ne]at h;unfold qtq;rw[if_neg h.1.1,if_neg h.1.2,if_neg h.2]
theorem qj8 {b:Brk} {p:Pk} (h:qc3 p.kind=true):(!qd2 b p)=(!qm p||decide (p.sess>b.sess)||decide (p.from_≥b.roles)||decide (p.to≥b.roles)):=by
 unfold qd2
 rw[h]
 generalize qm p=A
 generalize decide (p.sess>b.sess)=B
 generalize decide (p.from_≥b.roles)=C
 generalize decide (p.to≥b.roles)=E
 cases A<;>cases B<;>cases C<;>cases E<;>rfl
theorem xkv (b:Brk) (p:Pk) (R:Brk×Int×Bool) (o:p.kind=1) (hp:p.Sm) (l:R=qkk b p.key p.key.name p)
  (kd:qd2 b p=true->qf prog 71 [.d (.ptr 0 0),.d (.agg (qi p))] (brO b) (.d (.int .i64 R.2.1)) (afB b R.1 R.2.2)):AWp prog 5 qtp (QrB b p) (SrY b p):=by
 have t:yl b p=if !qd2 b p then(b,1,false)else R:=by unfold yl;rw[if_pos o,l]
 have m:qtq p.kind=(.func (.func 71) [.ptr 0 0] [],true):=by rw[o];rfl
 have q:=wh p hp.v hp.c;have i:qc3 p.kind=true:=by rw[o];rfl
 unfold QrB qtp;rw[t,qj8 i];simp only[SrY,m];simp only[qi]at q;refine eo7 @brO.eq_1 @qq.eq_1 @stoO.eq_1 @mapO.eq_1 @qmO.eq_1 @tmO.eq_1 @qi.eq_1 ?_;refine cl F70 (q) ?_;refine eo ?_;refine xf _ (λh=> ?_) (λh=> ?_)
 ·rw[if_pos h];refine ez ?_;refine pu ?_;simp only[afB,qq,stoO,mapO,qmO,tmO,go_sem,simprocAttr]
 rw[if_neg (by rw[h];exact jEc)];have kd:=kd (by have e:=qj8 (b:=b) i;rw[h]at e;simpa using e);simp only[brO,qq,stoO,mapO,qmO,tmO,qi]at kd;clear t l;obtain⟨b1,e1,c⟩:=R;simp only[afB,qq,stoO,mapO,qmO,tmO]at kd⊢;refine ez ?_;cases c
 ·refine clT [0,1,2,3,4,6] F71d kd ?_;refine ez ?_;refine pu ?_;simp only[afB,qq,stoO,mapO,qmO,tmO,go_sem,simprocAttr]
 ·refine clT [0,1,2,3,4,6] F71d kd ?_;refine ez ?_;refine qc6 [0,1,2,3,4,6,5] [.row (zx b1 592),stoO b1.s 5,mapO b.s.m,qmO b1.q,tmO b1.t,mapO b1.s.m,.row ((qi p).map .d)] ?_ (by exact et6 @zx.eq_1 @mapO.eq_1 @stoO.eq_1 @qmO.eq_1 @tmO.eq_1 @qi.eq_1) (hp:=rfl);refine pu ?_;simp only[afB,qq,zx,stoO,mapO,qmO,tmO,go_sem,simprocAttr]
theorem xq1 (b:Brk) (p:Pk) (R:Brk×Int×Bool) (q:p.kind=2) (hp:p.Sm) (l:R=qzz b p.key p.key.name p.seq)
  (kd:qd2 b p=true->qf prog 72 [.d (.ptr 0 0),.d (.agg (qi p))] (brO b) (.d (.int .i64 R.2.1)) (afB b R.1 R.2.2)):AWp prog 5 qtp (QrB b p) (SrY b p):=by
 have o: ¬p.kind=1:=by omega
 have u:yl b p=if !qd2 b p then(b,1,false)else R:=by unfold yl;rw[if_neg o,if_pos q,l]
 have m:qtq p.kind=(.func (.func 72) [.ptr 0 0] [],true):=by rw[q];rfl
 have t:=wh p hp.v hp.c;have i:qc3 p.kind=true:=by rw[q];rfl
 unfold QrB qtp;rw[u,qj8 i];simp only[SrY,m];simp only[qi]at t;refine eo7 @brO.eq_1 @qq.eq_1 @stoO.eq_1 @mapO.eq_1 @qmO.eq_1 @tmO.eq_1 @qi.eq_1 ?_;refine cl F70 (t) ?_;refine eo ?_;refine xf _ (λh=> ?_) (λh=> ?_)
 ·rw[if_pos h];refine ez ?_;refine pu ?_;simp only[afB,qq,stoO,mapO,qmO,tmO,go_sem,simprocAttr]
 rw[if_neg (by rw[h];exact jEc)];have kd:=kd (by have e:=qj8 (b:=b) i;rw[h]at e;simpa using e);simp only[brO,qq,stoO,mapO,qmO,tmO,qi]at kd;clear u l;obtain⟨b1,e1,c⟩:=R;simp only[afB,qq,stoO,mapO,qmO,tmO]at kd⊢;refine ez ?_;cases c
 ·refine clT [0,1,2,3,4,6] F72d kd ?_;refine ez ?_;refine pu ?_;simp only[afB,qq,stoO,mapO,qmO,tmO,go_sem,simprocAttr]
 ·refine clT [0,1,2,3,4,6] F72d kd ?_;refine ez ?_;refine qc6 [0,1,2,3,4,6,5] [.row (zx b1 592),stoO b1.s 5,mapO b.s.m,qmO b1.q,tmO b1.t,mapO b1.s.m,.row ((qi p).map .d)] ?_ (by exact et6 @zx.eq_1 @mapO.eq_1 @stoO.eq_1 @qmO.eq_1 @tmO.eq_1 @qi.eq_1) (hp:=rfl);refine pu ?_;simp only[afB,qq,zx,stoO,mapO,qmO,tmO,go_sem,simprocAttr]
theorem xq2 (b:Brk) (p:Pk) (R:Brk×Int×Bool) (u:p.kind=4) (hp:p.Sm) (l:R=qer b p)
  (kd:qd2 b p=true->qf prog 73 [.d (.ptr 0 0),.d (.agg (qi p))] (brO b) (.d (.int .i64 R.2.1)) (afB b R.1 R.2.2)):AWp prog 5 qtp (QrB b p) (SrY b p):=by
 have q: ¬p.kind=1:=by omega
 have o: ¬p.kind=2:=by omega
 have v:yl b p=if !qd2 b p then(b,1,false)else R:=by unfold yl;rw[if_neg q,if_neg o,l]
 have m:qtq p.kind=(.func (.func 73) [.ptr 0 0] [],true):=by rw[u];rfl
 have t:=wh p hp.v hp.c;have i:qc3 p.kind=true:=by rw[u];rfl
 unfold QrB qtp;rw[v,qj8 i];simp only[SrY,m];simp only[qi]at t;refine eo7 @brO.eq_1 @qq.eq_1 @stoO.eq_1 @mapO.eq_1 @qmO.eq_1 @tmO.eq_1 @qi.eq_1 ?_;refine cl F70 (t) ?_;refine eo ?_;refine xf _ (λh=> ?_) (λh=> ?_)
 ·rw[if_pos h];refine ez ?_;refine pu ?_;simp only[afB,qq,stoO,mapO,qmO,tmO,go_sem,simprocAttr]
 rw[if_neg (by rw[h];exact jEc)];have kd:=kd (by have e:=qj8 (b:=b) i;rw[h]at e;simpa using e);simp only[brO,qq,stoO,mapO,qmO,tmO,qi]at kd;clear v l;obtain⟨b1,e1,c⟩:=R;simp only[afB,qq,stoO,mapO,qmO,tmO]at kd⊢;refine ez ?_;cases c
 ·refine clT [0,1,2,3,4,6] F73d kd ?_;refine ez ?_;refine pu ?_;simp only[afB,qq,stoO,mapO,qmO,tmO,go_sem,simprocAttr]
 ·refine clT [0,1,2,3,4,6] F73d kd ?_;refine ez ?_;refine qc6 [0,1,2,3,4,6,5] [.row (zx b1 592),stoO b1.s 5,mapO b.s.m,qmO b1.q,tmO b1.t,mapO b1.s.m,.row ((qi p).map .d)] ?_ (by exact et6 @zx.eq_1 @mapO.eq_1 @stoO.eq_1 @qmO.eq_1 @tmO.eq_1 @qi.eq_1) (hp:=rfl);refine pu ?_;simp only[afB,qq,zx,stoO,mapO,qmO,tmO,go_sem,simprocAttr]
theorem xvi (b:Brk) (p:Pk) (d:qc3 p.kind=false):AWp prog 5 qtp (QrB b p) (SrY b p):=by
 have hR:yl b p=(b,1,false):=by
  unfold yl qd2;rw[d];rfl
 unfold QrB qtp;rw[hR];simp only[SrY,xvh d];refine eo7 @brO.eq_1 @qq.eq_1 @stoO.eq_1 @mapO.eq_1 @qmO.eq_1 @tmO.eq_1 @qi.eq_1 ?_;refine xgl ?_;refine eo ?_;refine ya ?_;refine ez ?_;refine pu ?_;simp only[afB,qq,stoO,mapO,qmO,tmO,go_sem,simprocAttr]
theorem xkw {n ss k j:Nat} {b:Brk} (hn:NS n ss) (H:BI n ss k j b) (hk70:k<=70) (p:Pk) (hp:p.Sm) (hw:p.W):AWp prog 5 qtp (QrB b p) (SrY b p):=by
 by_cases hok:qc3 p.kind=true
 ·have B:b.s.file.length<=100000000:=by
   have I:=H.st.file;exact jBn I (jBn (jAz 70000 (show k+401<=471 by omega)) (by decide))
  have hP:b.p.length<=1000000:=by have:=H.pl;omega
  have O: ∀(a q:Qu) (C:List UInt8),(jk a q C).1.length<=100000:=λa q C=>by
   unfold jk;split
   ·simp
   ·have:=qff a q C 4;simp only;omega
  have d: ∀{x:Int},0<=x-> ∃m:Nat,x=(m:Int):=λh=>⟨_,(jEq h).symm⟩;have h6:=hn.n6;have h32:=hn.s32;by_cases F:p.kind=1
  ·refine xkv b p _ F hp rfl λu=> ?_;have i:=qqe H u (.inl F);obtain⟨s,hs⟩:=d (show 0<=p.sess by have:=i.s1;simp only[Pk.key]at this;omega);obtain⟨f,A⟩:=d (show 0<=p.from_ by have:=i.f0;simp only[Pk.key]at this;omega);obtain⟨t,v⟩:=d (show 0<=p.to by have:=i.t0;simp only[Pk.key]at this;omega);have e:p.key=⟨(s:Int),(f:Int),(t:Int)⟩:=by simp only[Pk.key,hs,A,v]
   have b1:=i.s2;have b2:=i.f1;have b3:=i.t1;simp only[e]at b1 b2 b3;have:=xkk b p s f t (by omega) (by omega) (by omega) hs A v hp (H.qsm _) (H.qw _) (qhy (qhx _ _)) (q8k (H.qw _) hw) B hP (O _ _ _);have o:p.key.name=jh s f t:=by rw[e];rfl
   rw[o,e];exact this
  by_cases E:p.kind=2
  ·refine xq1 b p _ E hp rfl λu=> ?_;have i:=qqe H u (.inr E);obtain⟨s,hs⟩:=d (show 0<=p.sess by have:=i.s1;simp only[Pk.key]at this;omega);obtain⟨f,A⟩:=d (show 0<=p.from_ by have:=i.f0;simp only[Pk.key]at this;omega);obtain⟨t,v⟩:=d (show 0<=p.to by have:=i.t0;simp only[Pk.key]at this;omega);have e:p.key=⟨(s:Int),(f:Int),(t:Int)⟩:=by simp only[Pk.key,hs,A,v]
   have b1:=i.s2;have b2:=i.f1;have b3:=i.t1;simp only[e]at b1 b2 b3;have:=xqq b p s f t (by omega) (by omega) (by omega) hs A v (H.qsm _) (H.qw _) (qhy (qhw _ p.seq)) (q4t (H.qw _)) B (O _ _ _);have o:p.key.name=jh s f t:=by rw[e];rfl
   rw[o,e];exact this
  ·have J:p.kind=4:=by
    simp only[qc3,jA0,beq_iff_eq]at hok;rcases hok with(h|h)|h
    ·exact absurd h F
    ·exact absurd h E
    ·exact h
   refine xq2 b p _ J hp rfl λu=> ?_;have hv:qm p=true:=by simp only[qd2,jAf]at u;exact u.1.1.1.2
   obtain⟨z,G⟩:=xsp J hv;by_cases M:(x8 b.m p).2=0
   ·have l:OneStep b.m (x8 b.m p).1:=by
     have:=qwk (s:=p.sess) (r:=p.from_) (label:=p.label) H.mw G (by rw[<- z];exact M);rwa [<- z]at this
    refine qtn b p hp H.mw.sm l.mw.sm B ?_;obtain⟨y,_,I⟩:=l.one;rw[l.changes H.mw,I];simp
   ·have R:(x8 b.m p).1=⟨0,[]⟩:=by
     revert M;unfold x8;split
     ·intro _;rfl
     split
     ·intro _;rfl
     split
     ·intro _;rfl
     split
     ·intro _;rfl
     ·intro h;exact absurd rfl h
    refine qtn b p hp H.mw.sm (by rw[R];exact⟨by simp,by simp⟩) B ?_;rw[R];unfold zb;split
    ·simp
    split
    ·simp
    ·simp[qn8]
 ·exact xvi b p (by simpa using hok)
theorem q45 {n ss k j:Nat} {b:Brk} (hn:NS n ss) (H:BI n ss k j b) (h:k<=70) (p:Pk) (hp:p.Sm) (hw:p.W):
  qf prog 21 [.d (.ptr 0 0),.d (.agg (qi p))] (brO b) (.d (.int .i64 (yl b p).2.1)) (afB b (yl b p).1 (yl b p).2.2):=by
 refine qx3 (rs:= [.d (.int .i64 (yl b p).2.1)]) (c:=q8s) (rv:=f21.results.toList) (rvs:= [.tmp 4]) func21 (by kernel_rfl) (by simp) (by kernel_rfl) (Nat.le_of_ble_eq_true (by kernel_rfl)) rfl ?_ ?_
 ·intro t ht;have:ltB 16 (vy [ASlot.d (.ptr 0 0),.d (.agg (qi p))]++xi (brO b))=true:=by simp only[brO,qq,stoO,mapO,qmO,tmO,go_sem];rfl
  exact of_decide_eq_true (jAx.1 this t ht)
 ·intro g w vs i hd hs h0;refine xen b p _ g w vs i hd hs λg1 w1 a1 l u o=> ?_;exact q1n (k0:=5) (mu:= [61]) (N:=62) (news:=news) follows h0 rfl xks qtp (QrB b p) _ (SrY b p) g1 w1 a1 xel (xkw hn H h p hp hw) l u (by rw[o];exact⟨by simp,by simp⟩) λe st' g' w' a' hq m v q=>⟨e,st',g',rfl,hq,m,v,q⟩
end Go.Proofs.YtkcdbcbpbolgkaaGreatDoor
namespace Go.Proofs.YtkcdbcbpbolgkaaGreatDoor
open Tryz
open Go.Abs
def d12:=cut prog f12 news
@[go_sem] def E12:=qj d12
def d37:=cut prog f37 news
@[go_sem] def E37:=qj d37
def d60:=cut prog f60 news
@[go_sem] def E60:=qj d60
def F60:=fnC d60 follows func60
structure Bst where
 kind:Int
 p:Pk
 n:Int
 deriving DecidableEq,Inhabited
def qbh (x:Bst):List D:= [.int .i64 x.kind,.int .i64 x.p.kind,.int .i64 x.p.sess,.int .i64 x.p.epoch,.int .i64 x.p.from_,.int .i64 x.p.to,.int .i64 x.p.seq,.int .i64 x.p.label,.sl 3 (x.p.values.map zw),.sl 1 (x.p.clock.map encI),.int .i64 x.n]
theorem qpb (x:Bst):D.noPtrL (qbh x)=true:=by exact et1 @qbh.eq_1
theorem qwt: ∀l:List Bst,D.noPtrR (l.map qbh)=true
 | []=>rfl
 |o::l=>by simp only[List.map_cons,D.noPtrR,qpb,qwt l,jBu]
attribute [go_sem] qpb qwt
def ww (s:Int):Pk:=⟨1,1,0,0,1,s,s%40,[],[s,0]⟩
theorem q47:qf prog 60 [.d (.int .i64 1)] [] (.d (.agg (qi (ww 1)))) []:=by
 refine F60.go ?_;refine ez5 @qi.eq_1 @ww.eq_1 @encI.eq_1 @List.map_cons.{0,0} @List.map_nil.{0,0} ?_;try decide
def qh2 (b:Brk) (it:Nat):List ASlot:= [.d (.int .i64 b.roles),.d (.int .i64 b.sess),.d (.ptr 1 0),.d (.map 3),.d (.int .i64 b.m.roles),.d (.sl 4 (b.m.ents.map qu)),.own 0 10 (b.p.map vg),.d (.map it)]
def tkO (b b':Brk):List AObj:= [.row (qh2 b' 5),stoO b'.s 2,mapO b'.s.m,qmO b'.q,tmO b.t,tmO b'.t]
def tkN (b b':Brk):List AObj:= [.row (wg b' 5),stoO b'.s 2,mapO b'.s.m,qmO b'.q,tmO b.t,tmO b'.t]
theorem xq4 {n ss k j:Nat} {b:Brk} (hn:NS n ss) (H:BI n ss k j b) (hk:k<=70) (hj:j<=1000) (now:Int):
  qf prog 14 [.d (.ptr 0 0),.d (.int .i64 now)] (brO b) (.own 1 10 ((qh0 b now n ss).map vg)) (tkN b (qbr b now n ss)):=by
 have hpl:=H.pl;have h:=hn.n6;have e:=hn.s32;have hp:=qwp n ss;have hq:ss*(n*n)<=32*(6*6):=jEs e (jEs h h);have ho:=qwq H.mw;have m: ∀l,(accT b now l).2.length<=b.p.length+l.length:=xqs b now;refine xqp b now n ss h e H.ro H.se H.qsm (λt=>⟨(H.tr t).1,by have:=(H.tr t).2;omega⟩) (λi=> ?_) H.mw.sm (λi=> ?_) (by omega) H.st.good ?_
 ·have:=m ((xr n ss).take i);have:=List.length_take_le i (xr n ss);have:((xr n ss).take i).length<=(xr n ss).length:=List.length_take_le' _ _;omega
 ·have o:=xqt b now (accT b now (xr n ss)) ((xn b.m).take i);have h2:=m (xr n ss);have h3:((xn b.m).take i).length<=(xn b.m).length:=List.length_take_le' _ _;omega
 ·have o:=H.st.file;exact jBn o (jBn (jAz 70000 (show k+401<=471 by omega)) (by decide))
theorem qz5 {n ss k j:Nat} {b:Brk} (hn:NS n ss) (H:BI n ss k j b) (hk:k<=70) (hj:j<=1000) (now:Int):
  qf prog 14 [.d (.ptr 0 0),.d (.int .i64 now)] (brO b) (.own 1 10 ((qh0 b now n ss).map vg)) (tkO b (qbr b now n ss)):=
 qx4 6 0 10 (xq4 hn H hk hj now) rfl (by simp[ASlot.toks]) (by simp[xi,AObj.cells,wg,ASlot.toks,stoO,mapO,qmO,tmO]) (by simp[stoO,mapO,qmO,tmO]) (λl h=>by cases h)
theorem qz6 {b:Brk} {m:Pk} (h1:y4 (b.queue ⟨1,0,1⟩)=(m,true)) (hs:m.seq=1) (h2:(y4 (b.queue ⟨1,1,0⟩)).2=false) (h3:xn b.m= []) (now:Int):
  accO b now (accT b now (xr 2 1)) (xn b.m)=qge b ⟨[],0⟩ ⟨⟨1,0,1⟩,1⟩ now b.p ⟨1,m⟩:=by
 have hp:xr 2 1= [(1,0,1),(1,1,0)]:=by decide
 have e3:((1:Nat):Int)=1:=rfl;have e0:((0:Nat):Int)=0:=rfl;rw[h3,hp];simp only[accO,List.foldl_nil,accT,List.foldl_cons,q4x,e3,e0,h1,h2,hs,if_true,jAw,if_false]
def awB (s':Sto):Brk:={je 2 1 with s:=s',q:=(je 2 1).q.put ⟨1,0,1⟩ ⟨1,0,[ww 1]⟩,p:= [⟨0,qtj (ww 1)⟩]}
theorem xq5:NS 2 1:=⟨by decide,by decide,by decide,by decide⟩
theorem xvj:(ww 1).W:=by
 refine⟨λx d=> ?_,λx d=>by simp[ww]at d,λx d=> ?_⟩
 ·simp[zr,ww]at d;unfold I64;omega
 ·simp[ww]at d;unfold I64;omega
theorem xkx:(ww 1).Sm:=⟨by simp[ww],by simp[ww]⟩
theorem xep: ∃s' c,yl (je 2 1) (ww 1)=(awB s',0,c)∧BI 2 1 1 0 (awB s'):=by
 have hr:=qj6 xq5 (q40 xq5) (by decide) (ww 1) xvj;have hok:qd2 (je 2 1) (ww 1)=true:=by decide
 have d:(zu noQ (ww 1))=(⟨1,0,[ww 1]⟩,0):=by decide
 have h:qfu (ww 1)=(qtj (ww 1),0):=by decide
 have hx:PrOk 2 1 (ww 1).key:=⟨by decide,by decide,by decide,by decide,by decide,by decide,by decide⟩;have hq:(je 2 1).queue (ww 1).key=noQ:=rfl;have H0:BI 2 1 0 0 (je 2 1):=q40 xq5;obtain⟨s',c,e,H'⟩:=H0.change xq5 (by decide) hx (qhx noQ (ww 1)) (q8k qqb xvj) (λp hp=>by rw[d]at hp;simp at hp;subst hp;exact⟨rfl,rfl,rfl⟩);refine⟨s',c,?_,?_⟩
 ·have h0:qbg (je 2 1) (ww 1).key (ww 1).key.name (ww 1)=({je 2 1 with s:=s',q:=(je 2 1).q.put (ww 1).key (zu noQ (ww 1)).1},0,c):=by
   unfold qbg;rw[hq,if_pos (by rw[d])];exact e
  unfold yl qkk;rw[if_neg (by simp[hok]),if_pos (show(ww 1).kind=1 from rfl),h0,if_pos (.inl rfl)];simp only[qf7,h,d];rfl
 ·have:=(H'.ack (b:={je 2 1 with s:=s',q:=(je 2 1).q.put (ww 1).key (zu noQ (ww 1)).1}) (by simp[je]) (ww 1));simp only[qf7,h,d]at this;exact this
theorem awq (s':Sto) (x:Pr):(awB s').queue x=if x=⟨1,0,1⟩then⟨1,0,[ww 1]⟩else noQ:=qfn (je 2 1) s' ⟨1,0,1⟩ x _
def aw1 (s':Sto):Brk:=qbr (awB s') 0 2 1
def aw2 (s':Sto):Brk:=qbr (aw1 s') 7 2 1
theorem qz7 (s':Sto):y4 ((awB s').queue ⟨1,0,1⟩)=(ww 1,true):=by rw[awq,if_pos rfl];rfl
theorem q8v (s':Sto):(y4 ((awB s').queue ⟨1,1,0⟩)).2=false:=by rw[awq,if_neg (by decide)];rfl
theorem xky:xn (je 2 1).m= []:=by decide
theorem xyh (s':Sto):accO (awB s') 0 (accT (awB s') 0 (xr 2 1)) (xn (awB s').m)=(⟨[(0,⟨⟨1,0,1⟩,1⟩,⟨1,8⟩)],1⟩,[⟨0,qtj (ww 1)⟩,⟨1,ww 1⟩]):=by
 rw[qz6 (qz7 s') rfl (q8v s') xky];rfl
theorem xzw (s':Sto):(aw1 s').t=⟨[(0,⟨⟨1,0,1⟩,1⟩,⟨1,8⟩)],1⟩:=congrArg Prod.fst (xyh s')
theorem xyi (s':Sto):accO (aw1 s') 7 (accT (aw1 s') 7 (xr 2 1)) (xn (aw1 s').m)=(⟨[(0,⟨⟨1,0,1⟩,1⟩,⟨1,8⟩)],1⟩,[]):=by
 rw[qz6 (b:=aw1 s') (qz7 s') rfl (q8v s') xky];unfold qge qzx qed;rw[xzw];rfl
theorem xzx (s':Sto):(aw2 s').t=⟨[(0,⟨⟨1,0,1⟩,1⟩,⟨1,8⟩)],1⟩:=congrArg Prod.fst (xyi s')
theorem xzy (s':Sto):(accO (aw2 s') 8 (accT (aw2 s') 8 (xr 2 1)) (xn (aw2 s').m)).2= [⟨1,ww 1⟩]:=by
 rw[qz6 (b:=aw2 s') (qz7 s') rfl (q8v s') xky];unfold qge qzx qed;rw[xzx];rfl
structure Pk.I (p:Pk):Prop where
 h: ∀x∈zr p,I64 x
 v: ∀x∈p.values,I64 x.kind∧I64 x.n
 c: ∀x∈p.clock,I64 x
theorem xez {n:Nat} {d:List D} (h:Shp prog (n+1) 3 d): ∃x,d=encI x∧I64 x:=xx2 h
theorem x1f (n:Int):argS prog 3 (encI n)= .d (.int .i64 n):=by simp only[argS,underlying3];rfl
attribute [-go_sem] qfp
def d13d:=cut prog f13 news [20,42,54,63] [14,15] true
@[go_sem] def E13d:=qj d13d
structure BstOk (x:Bst):Prop where
 w:x.p.W
 sm:x.p.Sm
 n0:0<=x.n
 n1:x.n<=1000
def d11d:=cut prog f11 news [8,19,21,23,25]
@[go_sem] def E11d:=qj d11d
def F11d:=fnC d11d follows func11
theorem xer:qf prog 11 [] [] (.d (.bool true)) []:=by
 obtain⟨s',c,p,H1⟩:=xep;have H2:=H1.tick 0;have H3:=H2.tick 7;have k0:=qzy 2 1 (by decide);have h:=q45 xq5 (q40 xq5) (by decide) (ww 1) xkx xvj;have q:je ((2:Nat):Int) ((1:Nat):Int)=je 2 1:=rfl;rw[q,p]at h;have i:=qz5 xq5 H1 (by decide) (by decide) 0;have e:=qz5 xq5 H2 (by decide) (by decide) 7;have l:=qz5 xq5 H3 (by decide) (by decide) 8;have m:=q47;have o:=qvg (ww 1) (ww 1) xkx.v xkx.c;simp only[qi,ww,decide_true]at o;have v:qh0 (awB s') 0 2 1= [⟨0,qtj (ww 1)⟩,⟨1,ww 1⟩]:=congrArg Prod.snd (xyh s');have u:qh0 (aw1 s') 7 2 1= []:=congrArg Prod.snd (xyi s');have t:qh0 (aw2 s') 8 2 1= [⟨1,ww 1⟩]:=xzy s';rw[v]at i;rw[show qbr (awB s') 0 2 1=aw1 s' from rfl]at i e;rw[u]at e;rw[show qbr (aw1 s') 7 2 1=aw2 s' from rfl]at e;rw[show qbr (qbr (awB s') 0 2 1) 7 2 1=aw2 s' from rfl,t]at l;generalize qbr (aw2 s') 8 2 1=b3 at l;clear H1 H2 H3 v u t p q;generalize awB s'=b0 at h i;generalize aw1 s'=b1 at i e;generalize aw2 s'=b2 at e l;simp only[brO,tkO,qq,qh2,stoO,mapO,qmO,tmO,List.map_cons,List.map_nil]at k0 h i e l;refine F11d.go ?_;refine ez ?_;refine clT [0,1,2,3,4] F45n k0 ?_;refine eo ?_;refine no_ ?_;refine eo ?_;refine cl F60 (m) ?_;refine ez ?_;cases c
 ·simp only[afB,qq,stoO,mapO,qmO,tmO]at h;refine clT [0,1,2,3,4,5] F21d h ?_;refine ez ?_;refine clT [0,1,2,3,4,6] F14t i ?_;refine ez ?_;refine clT [0,1,2,3,6,7] F14t e ?_;refine ez ?_;refine clT [0,1,2,3,7,8] F14t l ?_;refine eo5 @List.map_nil.{0,0} @vg.eq_1 @qtj.eq_1 @qi.eq_1 @ww.eq_1 ?_;refine cl F60 (m) ?_;refine eo2 @qi.eq_1 @ww.eq_1 ?_;refine cl F17 (o) ?_;exact et1 @List.map_nil.{0,0}
 ·simp only[afB,qq,stoO,mapO,qmO,tmO]at h;refine clT [0,1,2,3,4,5] F21d h ?_;refine ez ?_;refine clT [0,1,5,3,4,6] F14t i ?_;refine ez ?_;refine clT [0,1,5,3,6,7] F14t e ?_;refine ez ?_;refine clT [0,1,5,3,7,8] F14t l ?_;refine eo5 @List.map_nil.{0,0} @vg.eq_1 @qtj.eq_1 @qi.eq_1 @ww.eq_1 ?_;refine cl F60 (m) ?_;refine eo2 @qi.eq_1 @ww.eq_1 ?_;refine cl F17 (o) ?_;exact et1 @List.map_nil.{0,0}
end Go.Proofs.YtkcdbcbpbolgkaaGreatDoor
