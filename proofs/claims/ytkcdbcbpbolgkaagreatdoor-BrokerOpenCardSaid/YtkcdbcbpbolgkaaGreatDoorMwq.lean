/- Texts Ve, Vf, Vg, Vh, Zb, Zc, Zd, Ze, Zf, Zg, Zj, Zk, Zl, Zm, Zp, Zr, Zh, Zi, Zs, Ua, Ub, Uc, Ud, Ue, Ws. -/
import Derived.Test.YtkcdbcbpbolgkaaGreatDoorMwp
set_option linter.unusedSimpArgs false
set_option linter.unusedVariables false
set_option linter.defProp false
set_option maxRecDepth 100000
noncomputable section
namespace Go.Proofs.YtkcdbcbpbolgkaaGreatDoor
open Tryz
open Go.Abs
theorem q7w (most:Nat) (r:Rd):(y6 most r).1.length<=most:=by
 unfold y6;split
 ·exact jAj _
 ·rename_i h;have:=(qbb (by simpa using h)).2;unfold yt;split
  ·exact jAj _
  ·simp only[jAl];omega
theorem xxq (r:Rd):(rAV r).1.Sm:=by
 have d:I64 (xl 1 2 r).1:=qp6 r;unfold rAV;split
 ·exact⟨d,qdj,jAj _⟩
 ·split
  ·exact⟨d,qp6 _,jAj _⟩
  ·exact⟨d,qdj,jBn (q7w 40 _) (by decide)⟩
theorem qsr {α:Type} {f:Rd->α×Rd} {Q:α->Prop} (h: ∀r,Q (f r).1): ∀(n:Nat) (r:Rd),∀x∈(qci f n r).1,Q x
 |0,r,x,d=>by cases d
 |n+1,r,x,d=>by
  rw[qci]at d;split at d
  ·cases d
  ·rcases jAv.1 d with rfl|d
   ·exact h r
   ·exact qsr h n _ x d
theorem q3l {α:Type} {f:Rd->List α×Rd} {Q:α->Prop} (h: ∀r,∀x∈(f r).1,Q x) (r:Rd): ∀x∈(qb8 [] f r).1,Q x:=by
 unfold qb8;split
 ·intro x d;cases d
 ·split
  ·intro x d;cases d
  ·exact h r
theorem q3m (r:Rd): ∀n,∀x∈(qbp n r).1,I64 x
 |0,x,d=>by cases d
 |n+1,x,d=>by
  rcases jAs.1 d with d|d
  ·exact q3m r n x d
  ·simp at d;subst d;exact qi5 _
theorem xpb {l:List Int} (h: ∀x∈l,I64 x) (i:Nat):I64 (l.getD i 0):=by
 rw[jA1];cases hg:l[i]?with
 |none=>exact qdj
 |some x=>exact h x (jAe hg)
theorem xxr {l:List Int} {v:List AV} {c:List Int} (h1: ∀x∈l,I64 x) (h2: ∀x∈v,x.Sm) (h3: ∀x∈c,I64 x):(pkOf l v c).W:=by
 refine⟨λx d=> ?_,h2,h3⟩;simp only[zr,pkOf,jAv,jBk,or_false]at d;rcases d with rfl|rfl|rfl|rfl|rfl|rfl|rfl<;>exact xpb h1 _
theorem xil:(default:Pk).W:=⟨λx d=>by
 simp only[zr,jAv,jBk,or_false]at d;rcases d with rfl|rfl|rfl|rfl|rfl|rfl|rfl<;>exact qdj,λx d=>(by cases d),λx d=>(by cases d)⟩
theorem qss (b:List UInt8):(w7 b).1.W∧(w7 b).1.Sm:=by
 have h1:(qpr (wx b).1).1.W:=xxr (q3m _ 7) (q3l (λr=>qsr xxq _ _) _) (q3l (λr=>qsr qp6 _ _) _);have h2:(qpr (wx b).1).1.Sm:=⟨jBn (qgz (λr=>qgy (f:=rAV) (most:=4) (r:=r)) _) (by decide),jBn (qgz (λr=>qgy (f:=rInt) (most:=6) (r:=r)) _) (by decide)⟩;have d:(default:Pk).Sm:=⟨jAj _,jAj _⟩;unfold w7;split
 ·exact⟨xil,d⟩
 ·split
  ·exact⟨xil,d⟩
  ·exact⟨h1,h2⟩
def qc1:Option (List UInt8) ->Int×Int
 |none=>(0,0)
 |some b=>((js ⟨b,0,false⟩).1,(js (js ⟨b,0,false⟩).2).1)
def xdn (x:Int×Int):Bool:=decide (x.2<0)||decide (x.1<x.2)||decide (x.1>1099511627776)||decide (IntKind.i64.wrap (x.1-x.2)>4)
def ldAt (m:Cont) (name:List UInt8) (k:Nat):Pk×Int:=w7 (optV (mGet (sKey name (k%4)) m))
def y8 (m:Cont) (name:List UInt8):Nat->Nat->Option (List Pk)
 |0,_=>some []
 |n+1,k=>if(ldAt m name k).2≠0 then none else(y8 m name n (k+1)).map ((ldAt m name k).1:: ·)
def qo2 (m:Cont) (name:List UInt8) (q:Qu):Bool:= !kw q||(!((mGet (nKey name) m).isSome==decide (((ky q).length:Int)>0)))|| !(optV (mGet (nKey name) m)==ky q)
def qst (m:Cont) (name:List UInt8) (q:Qu) (d:Nat):Bool:=(!((mGet (sKey name d) m).isSome==decide (((wv q d).length:Int)>0)))|| !(optV (mGet (sKey name d) m)==wv q d)
def xim (m:Cont) (name:List UInt8) (a c:Int):Option (List Pk) ->Qu×Int
 |none=>(xx,4)
 |some l=>if(qo2 m name ⟨a,c,l⟩|| !qb6 (λd=> !qst m name ⟨a,c,l⟩ d) 4)=true then(xx,4)else(⟨a,c,l⟩,0)
def qaa (m:Cont) (name:List UInt8):Qu×Int:=
 if(!qdu name)=true then(xx,1)else
 if xdn (qc1 (mGet (nKey name) m))=true then(xx,4)else
 xim m name (qc1 (mGet (nKey name) m)).1 (qc1 (mGet (nKey name) m)).2 (y8 m name ((qc1 (mGet (nKey name) m)).1-(qc1 (mGet (nKey name) m)).2).toNat ((qc1 (mGet (nKey name) m)).2.toNat+1))
theorem qju (m:Cont) (hm: ∀x∈m.l,x.2.2.length<=1000000) (k:List UInt8):(optV (mGet k m)).length<=1000000:=by
 unfold optV mGet;cases hf:m.l.find? (jd k)with
 |none=>simp
 |some x=>exact hm x (jBz hf)
def xxs:=cut prog f106 news [] [8]
@[go_sem] def x03:=qj xxs
def xxt:=fnC xxs follows func106
def vt:AObj:= .row [.d (.int .i64 0),.d (.int .i64 0),.d .nilsl]
def SL0 (s:Sto) (name:List UInt8) (g:Option (List UInt8)) (x:Unit):St:=
 ⟨[(0,true,.d (.ptr 0 0)),(1,true,.d (.str name)),(4,true,.d (.ptr 2 0)),(6,true,.d (.ptr 3 0)),(7,true,.d (.sl 1 (qd (optV g)))),(8,true,.d (.bool g.isSome))],
  [stoO s 1,mapO s.m,vt,.row [.d (.int .i64 (qc1 g).1),.d (.int .i64 (qc1 g).2),.d .nilsl]],[],1⟩
def SL1 (s:Sto) (name:List UInt8) (g:Option (List UInt8)) (a c:Int) (k:Nat) (l:List Pk):St:=
 ⟨[(0,true,.d (.ptr 0 0)),(1,true,.d (.str name)),(4,true,.d (.ptr 2 0)),(6,true,.d (.ptr 3 0)),(7,true,.d (.sl 1 (qd (optV g)))),(8,true,.d (.bool g.isSome)),(10,true,.d (.int .i64 (k:Nat)))],
  [stoO s 1,mapO s.m,vt,.row [.d (.int .i64 a),.d (.int .i64 c),.own 0 9 (l.map qi)]],[0],1⟩
def SL2 (s:Sto) (name:List UInt8) (a c:Int) (d:Nat) (l:List Pk):St:=
 ⟨[(0,true,.d (.ptr 0 0)),(1,true,.d (.str name)),(4,true,.d (.ptr 2 0)),(6,true,.d (.ptr 3 0)),(113,true,.d (.int .i64 (d:Nat)))],
  [stoO s 1,mapO s.m,vt,.row [.d (.int .i64 a),.d (.int .i64 c),.own 0 9 (l.map qi)]],[0],1⟩
theorem xpc (s:Sto) (name:List UInt8) (U: ∀x∈s.m.l,x.2.2.length<=1000000) (hn:name.length<=1000):
  qf prog 106 [.d (.ptr 0 0),.d (.str name)] [stoO s 1,mapO s.m] (.tup [.d (.agg (encQ (qaa s.m name).1)),.d (.int .i64 (qaa s.m name).2)]) [stoO s 1,mapO s.m]:=by
 have M:=λk=>xw1 s k U;simp only[stoO,mapO]at M;refine xxt.goT ?_;refine eo2 @stoO.eq_1 @mapO.eq_1 ?_;refine cl F183 (q2q name) ?_;refine ez ?_;refine xf _ (λh=> ?_) (λh=> ?_)
 ·have hb:qaa s.m name=(xx,1):=by unfold qaa;rw[if_pos h]
  exact et4 @hb @encQ.eq_1 @xx.eq_1 @List.map_nil.{0,0}
 have Y:(!qdu name)≠true:=by rw[h];simp
 refine eo ?_;refine cl F185 (xhr name hn) ?_;refine eo ?_;refine clO [0,1] F184 ((M (nKey name))) ?_;refine ez ?_;generalize u:mGet (nKey name) s.m=g;have X:(optV g).length<=1000000:=by rw[<- u];exact qju s.m U _
 refine xnm (SL0 s name g) ?_ ?_
 ·cases g with
  |none=>
   simp only[jDd]
   (repeat(with_reducible refine ob ?_));refine no_ ?_
   refine ez ?_;refine⟨(),?_⟩;simp only[SL0,stoO,mapO,vt,qc1,jDd,go_sem,simprocAttr]
  |some b=>
   have I:b.length<=1000000000:=by simp only[optV,Option.getD_some]at X;omega
   have v:=qp3 b I;have r0:(⟨b,0,false⟩:Rd).Ok:=⟨I,jAj _⟩;have i1:=qp4 ⟨b,0,false⟩ r0;have r1:=(vm r0).1;have i2:=qp4 _ r1;simp only[rdO]at v i1 i2;simp only[jDv,optV,Option.getD_some]
   (repeat(with_reducible refine ob ?_));refine ya ?_
   refine ez ?_;refine clO [4] F177 v ?_;refine eo ?_;refine clO [4] F178 (i1) ?_;refine eo ?_;refine clO [4] F178 (i2) ?_;refine ez ?_;refine⟨(),?_⟩;simp only[SL0,stoO,mapO,vt,qc1,jDv,optV,Option.getD_some,go_sem,simprocAttr]
 intro _;refine pu ?_;generalize hx:qc1 g=x;obtain⟨a,c⟩:=x;have A:qaa s.m name=if xdn (a,c)=true then(xx,(4:Int))else xim s.m name a c (y8 s.m name (a-c).toNat (c.toNat+1)):=by
  unfold qaa;rw[if_neg Y,u,hx]
 refine eo5 @SL0.eq_1 @hx @stoO.eq_1 @mapO.eq_1 @vt.eq_1 ?_;refine xf _ (λt=> ?_) (λt=> ?_)
 ·have hb:qaa s.m name=(xx,4):=by rw[A,if_pos (show xdn (a,c)=true from t)]
  exact et4 @hb @encQ.eq_1 @xx.eq_1 @List.map_nil.{0,0}
 have aa:=t;simp only[jA4,decide_eq_false_iff_not]at t;obtain⟨⟨⟨c0,c1⟩,c2⟩,c3⟩:=t;rw[xo (by unfold I64;omega)]at c3;obtain⟨n,rfl⟩: ∃n:Nat,c=n:=⟨c.toNat,by omega⟩;obtain⟨w,rfl⟩: ∃w:Nat,a=((n+w:Nat):Int):=⟨(a-n).toNat,by omega⟩;have e1:(((n+w:Nat):Int) -(n:Int)).toNat=w:=by omega
 have e2:IntKind.i64.wrap ((n:Int)+1)=((n+1:Nat):Int):=by rw[xo (by unfold I64;omega)];omega
 rw[if_neg (by rw[show xdn (((n+w:Nat):Int),(n:Int))=false from aa];simp),e1,jA6]at A;refine ez1 @e2 ?_;refine qg (λx:{x:Nat×List Pk//x.1<=w∧x.2.length=x.1∧(∀p∈x.2,p.W∧p.Sm)∧y8 s.m name w (n+1)=(y8 s.m name (w-x.1) (n+1+x.1)).map (x.2++ ·)}=>SL1 s name g (n+w:Nat) n (n+1+x.val.1) x.val.2) (λx=>w-x.val.1)
  ⟨(0,[]),jAj _,rfl,λp hp=>(by cases hp),by simp⟩ ?_ (λx=> ?_)
 ·exact et6 @SL1.eq_1 @stoO.eq_1 @mapO.eq_1 @vt.eq_1 @List.map_nil.{0,0} @Nat.add_zero
 obtain⟨⟨i,l⟩,x1,x2,J,o⟩:=x;simp only at x1 x2 J o;refine ez4 @SL1.eq_1 @stoO.eq_1 @mapO.eq_1 @vt.eq_1 ?_;refine xf _ (λh=> ?_) (λh=> ?_)
 ·have E:i<w:=by simp at h;omega
  have e3:w-i=(w-(i+1))+1:=by omega
  have e4:(((n+1+i:Nat):Int)).tmod 4=(((n+1+i)%4:Nat):Int):=by rw[jBf (by omega)];omega
  rw[e3,y8]at o;have C:=xdm (optV (mGet (sKey name ((n+1+i)%4)) s.m)) (by have:=qju s.m U (sKey name ((n+1+i)%4));omega);obtain⟨w1,O⟩:=qss (optV (mGet (sKey name ((n+1+i)%4)) s.m));simp only[qi]at C;refine eo1 @e4 ?_;refine cl F186 (q7c name ((n+1+i)%4) hn (jC6 _ (by decide))) ?_;refine eo ?_;refine clO [0,1] F184 ((M (sKey name ((n+1+i)%4)))) ?_;refine eo ?_;refine cl F187 (C) ?_;refine ez ?_;have Z:ldAt s.m name (n+1+i)=w7 (optV (mGet (sKey name ((n+1+i)%4)) s.m)):=rfl;rw[Z]at o;generalize w7 (optV (mGet (sKey name ((n+1+i)%4)) s.m))=y at C w1 O o⊢;obtain⟨p,e⟩:=y;simp only at w1 O o;refine xf _ (λh=> ?_) (λh=> ?_)
  ·have hb:qaa s.m name=(xx,4):=by rw[A,o,if_pos (by simpa using h)];rfl
   exact et4 @hb @encQ.eq_1 @xx.eq_1 @List.map_nil.{0,0}
  ·rw[if_neg (by simpa using h),jFg]at o;refine eo ?_;refine⟨⟨(i+1,l++ [p]),E,by simp[x2],λq m=> ?_,?_⟩,?_,by dsimp only;omega⟩
   ·rcases jAs.1 m with m|m
    ·exact J q m
    ·simp at m;subst m;exact⟨w1,O⟩
   ·rw[o];congr 1;funext z;simp
   ·have hwr:IntKind.i64.wrap ((n:Int)+1+(i:Int)+1)=(n:Int)+1+((i:Int)+1):=by rw[xo (by unfold I64;omega)];omega
    refine ez8 @SL1.eq_1 @stoO.eq_1 @mapO.eq_1 @vt.eq_1 @jA2.{0,0} @List.map_cons.{0,0} @List.map_nil.{0,0} @qi.eq_1 ?_;exact et1 @hwr
 have E:i=w:=by simp at h;omega
 subst E;rw[jDe,y8]at o;rw[o,Option.map_some,jAu]at A;generalize m:(⟨((n+i:Nat):Int),(n:Int),l⟩:Qu)=q;have hqe:encQ q= [.int .i64 ((n+i:Nat):Int),.int .i64 (n:Int),.sl 9 (l.map qi)]:=by rw[<- m];rfl
 have F:q.Sm:=by rw[<- m];exact⟨by simp only;omega,λp hp=>(J p hp).2⟩
 have B:q.W:=by rw[<- m];exact⟨by unfold I64;simp only;omega,by unfold I64;simp only;omega,λp hp=>(J p hp).1⟩
 simp only[xim,m]at A;have kv:=qgp q F;have R:=qyq q B.a B.c;have ks:=λd=>qys q d F B;simp only[hqe]at kv R ks;refine eo ?_;refine cl F188 (kv) ?_;refine eo ?_;refine cl F189 (R) ?_;refine eo ?_;refine cl F189 (R) ?_;refine eo ?_;refine cl xn7 (qsc (optV g) (ky q)) ?_;refine eo ?_;refine xf _ (λh=> ?_) (λh=> ?_)
 ·have t:qo2 s.m name q=true:=by unfold qo2;rw[u];exact h
  have hb:qaa s.m name=(xx,4):=by rw[A,t];rfl
  exact et4 @hb @encQ.eq_1 @xx.eq_1 @List.map_nil.{0,0}
 have t:qo2 s.m name q=false:=by unfold qo2;rw[u];exact h
 refine ez ?_;refine qg (λx:{d:Nat//d<=4∧qb6 (λd=> !qst s.m name q d) d=true}=>SL2 s name (n+i:Nat) n x.val l) (λx=>4-x.val) ⟨0,jAj _,rfl⟩ ?_ (λx=> ?_)
 ·exact et5 @SL2.eq_1 @stoO.eq_1 @mapO.eq_1 @vt.eq_1 @jAt
 obtain⟨d,d1,d2⟩:=x;refine ez4 @SL2.eq_1 @stoO.eq_1 @mapO.eq_1 @vt.eq_1 ?_;refine xf _ (λh=> ?_) (λh=> ?_)
 ·have G:d<4:=by simp at h;omega
  refine eo ?_;refine cl F186 (q7c name d hn G) ?_;refine eo ?_;refine clO [0,1] F184 ((M (sKey name d))) ?_;refine eo ?_;refine cl F191 (ks d) ?_;refine eo ?_;refine cl F191 (ks d) ?_;refine eo ?_;refine cl xn7 (qsc (optV (mGet (sKey name d) s.m)) (wv q d)) ?_;refine eo ?_;refine xf _ (λh=> ?_) (λh=> ?_)
  ·have h2:qst s.m name q d=true:=h;have hb:qaa s.m name=(xx,4):=by rw[A,t,qel G (by rw[h2];rfl)];rfl
   exact et4 @hb @encQ.eq_1 @xx.eq_1 @List.map_nil.{0,0}
  ·have h2:qst s.m name q d=false:=h;refine ez ?_;refine⟨⟨d+1,G,yz d2 (by rw[h2];rfl)⟩,?_,by dsimp only;omega⟩;exact et5 @SL2.eq_1 @stoO.eq_1 @mapO.eq_1 @vt.eq_1 (qe (show d<9223372036854775807 by omega))
 ·have G:d=4:=by simp at h;omega
  subst G;have hb:qaa s.m name=(q,0):=by rw[A,t,d2];rfl
  exact et2 @hb @hqe
theorem qdk {n:Int} (h0:0<=n) (h1:n<=1099511627776):(wInt n).length<=6:=
 qni 5 _ (by
  unfold zz;rw[if_pos h0];have:(128:Nat)^(5+1)=4398046511104:=by decide
  omega)
theorem qsu {p:Pk} (h:qm p=true):(∀x∈zr p,0<=x∧x<=1099511627776)∧(∀v∈p.values,qbz v=true)∧ ∀x∈p.clock,0<=x∧x<=1099511627776:=by
 unfold qm qf1 at h;simp only[jAf,decide_eq_true_eq]at h;obtain⟨⟨⟨⟨k1,k2⟩,k3⟩,k4⟩,h⟩:=h;have l:(∀x∈ [p.epoch,p.from_,p.to,p.seq,p.label],0<=x∧x<=1099511627776) -> ∀x∈zr p,0<=x∧x<=1099511627776:=by
  intro h x d;simp only[zr,jAv]at d;rcases d with rfl|rfl|d
  ·omega
  ·omega
  ·exact h x (by simpa using d)
 have e:bare p=true->p.epoch=0∧(∀v∈p.values,qbz v=true)∧ ∀x∈p.clock,0<=x∧x<=1099511627776:=by
  intro m;simp only[bare,jAf,beq_iff_eq]at m;have h1:p.values= []:=jAy (by omega);have h2:p.clock= []:=jAy (by omega);rw[h1,h2];exact⟨m.1.1,λv i=>(by cases i),λv i=>(by cases i)⟩
 split at h
 ·simp only[data,qdi,role,jAf,jA0,decide_eq_true_eq,beq_iff_eq,jBd,jD3,jA4,decide_eq_false_iff_not,jCf,not_or,jC1]at h;refine⟨l λx d=> ?_,λv i=> ?_,λx d=> ?_⟩
  ·simp only[jAv,jBk,or_false]at d;rcases d with rfl|rfl|rfl|rfl|rfl<;>omega
  ·have:=h.1.2 v i;simpa using this
  ·have:=h.2 x d;omega
 ·split at h
  ·simp only[ack,qdi,role,jAf,decide_eq_true_eq,beq_iff_eq]at h;obtain⟨b1,b2,b3⟩:=e h.1.2;refine⟨l λx d=> ?_,b2,b3⟩;simp only[jAv,jBk,or_false]at d;rcases d with rfl|rfl|rfl|rfl|rfl<;>omega
  ·simp only[order,role,jAf,jA0,decide_eq_true_eq,beq_iff_eq]at h;obtain⟨b1,b2,b3⟩:=e h.1.1.2;refine⟨l λx d=> ?_,b2,b3⟩;simp only[jAv,jBk,or_false]at d;rcases d with rfl|rfl|rfl|rfl|rfl<;>omega
theorem qv6 {p:Pk} (h:qm p=true): ∀x∈zr p,0<=x∧x<=1099511627776:=(qsu h).1
theorem qo3 {p:Pk} (h:qm p=true): ∀v∈p.values,qbz v=true:=(qsu h).2.1
theorem qsv {p:Pk} (h:qm p=true): ∀x∈p.clock,0<=x∧x<=1099511627776:=(qsu h).2.2
theorem q7x (s:List UInt8):wx (qfq s)=(s,0):=by
 have h8:=ji (fnv 14695981039346656037 s);have d:(qfq s).length=s.length+8:=by rw[qfq,jAc,h8]
 have h1:(qfq s).take ((qfq s).length-8)=s:=by rw[d,jEr,qfq,jD4]
 have h2:(qfq s).drop ((qfq s).length-8)=be8 (fnv 14695981039346656037 s):=by rw[d,jEr,qfq,jDi]
 unfold wx;rw[if_neg (by omega),h1,h2,if_pos rfl]
theorem q3n {s:List UInt8} (hs:s.length<=1000000000) {d:List Int} {rest:List UInt8} (h:s=d.flatMap wInt++rest) (hi: ∀x∈d,I64 x):
  ∀n,n<=d.length->qbp n ⟨s,0,false⟩=(d.take n,⟨s,s.length-((d.drop n).flatMap wInt++rest).length,false⟩)∧s.drop (s.length-((d.drop n).flatMap wInt++rest).length)=(d.drop n).flatMap wInt++rest
 |0,_=>by
  have e:s.length-(d.flatMap wInt++rest).length=0:=by rw[<- h,jDe]
  simp only[qbp,List.take_zero,List.drop_zero,e,and_true];exact⟨trivial,h⟩
 |n+1,hn=>by
  obtain⟨o,m⟩:=q3n hs h hi n (by omega);have hc:=jBm (show n<d.length by omega);rw[hc,List.flatMap_cons,jAh]at o m;have hx:=hi _ (jAg (show n<d.length by omega));have hr:(⟨s,s.length-(wInt d[n]++((d.drop (n+1)).flatMap wInt++rest)).length,false⟩:Rd).Ok:=⟨hs,jCt _ _⟩;have i:=wj qdf hr rfl (v:=d[n]) (l:=(d.drop (n+1)).flatMap wInt++rest) (by simp only[m];exact qb3 hx _);refine⟨?_,(jp (jCt _ _) m).1⟩;rw[qbp,o,i,jAk (show n<d.length by omega)]
theorem xin {p:Pk} (m:qm p=true) (e:p.W) (hs:(wd p).length<=1000000000):qpr (wd p)=(p,⟨wd p,(wd p).length,false⟩):=by
 obtain⟨f1,f2⟩:=qir m;have h0:wd p=(zr p).flatMap wInt++(wAVs p.values++qhe p.clock):=by rw[wd,jAh]
 obtain⟨i,h⟩:=q3n hs h0 e.h 7 (jAi _);rw[show(zr p).drop 7= []from rfl,List.flatMap_nil,List.nil_append]at i h;rw[show(zr p).take 7=zr p from rfl]at i;have d1:qk5 4 dAV (wAVs p.values++qhe p.clock)=some (p.values,qhe p.clock):=q3i (most:=4) (by decide) f1 (λx d l=>xug (e.v x d) (qo3 m x d) l) _;have o:qk5 6 dInt (qhe p.clock++ [])=some (p.clock,[]):=q3i (most:=6) (by decide) f2 (λx d l=>qb3 (e.c x d) l) [];have t:=wj (q7v 4) (r:=⟨wd p,(wd p).length-(wAVs p.values++qhe p.clock).length,false⟩) ⟨hs,jCt _ _⟩ rfl (v:=p.values) (l:=qhe p.clock)
  (by simp only[h];exact d1)
 have h3:=(jp (jCt _ _) h).1;have q:=wj (qy4 6) (r:=⟨wd p,(wd p).length-(qhe p.clock).length,false⟩) ⟨hs,jCt _ _⟩ rfl (v:=p.clock) (l:= [])
  (by simp only[h3];rw[jAu]at o;exact o)
 simp only at t q;simp only[qpr,i,t,q,List.length_nil,jCz];rfl
theorem q7y {p:Pk} (d:qm p=true) (hw:p.W) (hs:(wd p).length<=1000000000):w7 (qfq (wd p))=(p,0):=by
 unfold w7;rw[q7x,xin d hw hs,if_neg (by simp),if_neg];simp[d,rEnd]
theorem xui {v:AV} (hp:qbz v=true) (hs:v.Sm):(wAV v).length<=60:=by
 obtain⟨k,n,s⟩:=v;unfold qbz at hp;have hk:k=1∨k=2:=by grind
 have h1:=qdk (n:=k) (by omega) (by omega);have h2:=xg hs.2.1;unfold wAV;rw[jAc];simp only at h1 h2⊢;split
 ·omega
 ·split
  ·have h40:(s.length:Int)<=40:=by grind
   have h3:=qdk (n:=s.length) (by omega) (by omega);simp only[qbm,jAc];omega
  ·simp only[List.length_nil];omega
theorem xsa {p:Pk} (e:qm p=true) (hw:p.W):(wd p).length<=340:=by
 obtain⟨f1,f2⟩:=qir e;have a1:=yh wInt 6 (zr p) λx d=>qdk (qv6 e x d).1 (qv6 e x d).2;have a2:=yh wAV 60 p.values λx d=>xui (qo3 e x d) (hw.v x d);have a3:=yh wInt 6 p.clock λx d=>qdk (qsv e x d).1 (qsv e x d).2;have b2:=qdk (n:=p.values.length) (by omega) (by omega);have b3:=qdk (n:=p.clock.length) (by omega) (by omega);have h7:(zr p).length=7:=rfl;simp only[wd,wAVs,qhe,jAc];omega
theorem xuj (p:Pk) (hw:p.W):(vk p).1.length<=348:=by
 unfold vk;split
 ·rename_i h;have:=xsa h hw;simp only[qfq,jAc,ji];omega
 ·simp
theorem xuk {p:Pk} (d:qm p=true) (e:p.W):w7 (vk p).1=(p,0):=by
 have hs:=xsa d e;rw[vk,if_pos d];exact q7y d e (by omega)
theorem xio {p:Pk} (hv:qm p=true):(vk p).1≠ []:=by
 rw[vk,if_pos hv];intro h;have:=congrArg List.length h;simp[qfq,ji]at this
def qd9 (v:List UInt8):Option (List UInt8):=if v= []then none else some v
theorem q7z (v:List UInt8):optV (qd9 v)=v:=by unfold qd9 optV;split<;>simp_all
theorem qy5 (v:List UInt8):(qd9 v).isSome=decide ((v.length:Int)>0):=by
 cases v with
 |nil=>rfl
 |cons c v=>simp[qd9]
def Rep (m:Cont) (name:List UInt8) (q:Qu):Prop:=mGet (nKey name) m=qd9 (ky q)∧ ∀d,d<4->mGet (sKey name d) m=qd9 (wv q d)
theorem qjv (k:List UInt8): ∀(l:List OpS) (a:Option (List UInt8)) (l':List OpS),vz k a (l++l')=vz k (vz k a l) l'
 | [],_,_=>rfl
 |o::l,a,l'=>qjv k l _ l'
theorem qv7 {k o n:List UInt8}:vz k (qd9 o) (chg k o n)=qd9 n:=by
 unfold chg;split
 ·rename_i h;rw[h];rfl
 ·simp only[vz,if_true,qd9];by_cases hn:n= []<;>simp[hn]
theorem qdy {k k' o n:List UInt8} {a:Option (List UInt8)} (h:k'≠k):vz k a (chg k' o n)=a:=by
 unfold chg;split
 ·rfl
 ·simp only[vz,if_neg h]
theorem xsb (name:List UInt8) {d:Nat} (hd:d<4):nKey name≠sKey name d:=by
 intro h;have:=List.append_cancel_left h;have h4:d=0∨d=1∨d=2∨d=3:=by omega
 rcases h4 with rfl|rfl|rfl|rfl<;>exact absurd this (by decide)
theorem xxu (name:List UInt8) {d e:Nat} (hd:d<4) (he:e<4) (h:d≠e):sKey name d≠sKey name e:=by
 intro hk;have:=List.append_cancel_left hk;have h4:d=0∨d=1∨d=2∨d=3:=by omega
 have h5:e=0∨e=1∨e=2∨e=3:=by omega
 rcases h4 with rfl|rfl|rfl|rfl<;>rcases h5 with rfl|rfl|rfl|rfl<;>first|exact absurd rfl h|exact absurd this (by decide)
theorem q3o (a b:Qu) (name:List UInt8): ∀D,D<=4->vz (nKey name) (qd9 (ky a)) (vl a b name D)=qd9 (ky b)
 |0,_=>qv7
 |D+1,h=>by rw[vl,qjv,q3o a b name D (by omega),qdy (Ne.symm (xsb name (by omega)))]
theorem q3p (a b:Qu) (name:List UInt8) {e:Nat} (d:e<4): ∀D,D<=4->vz (sKey name e) (qd9 (wv a e)) (vl a b name D)=qd9 (if e<D then wv b e else wv a e)
 |0,_=>by rw[vl,qdy (xsb name d)];simp
 |D+1,h=>by
  rw[vl,qjv,q3p a b name d D (by omega)];by_cases l:D=e
  ·subst l;rw[if_neg (by omega),qv7,if_pos (by omega)]
  ·rw[qdy (xxu name (by omega) d l)];by_cases i:e<D
   ·rw[if_pos i,if_pos (by omega)]
   ·rw[if_neg i,if_neg (by omega)]
theorem qjw (a b:Qu) (name k:List UInt8) (e:nKey name≠k) (hs: ∀d,d<4->sKey name d≠k) (x:Option (List UInt8)): ∀D,D<=4->vz k x (vl a b name D)=x
 |0,_=>qdy e
 |D+1,h=>by rw[vl,qjv,qjw a b name k e hs x D (by omega),qdy (hs D (by omega))]
structure QV (q:Qu):Prop where
 c0:0<=q.cons
 c1:q.cons<=q.acc
 c2:q.acc<=1099511627776
 len:(q.items.length:Int)=q.acc-q.cons
 few:q.items.length<=4
 it: ∀i (h:i<q.items.length),qm q.items[i]=true∧q.items[i].seq=q.cons+1+i
theorem quj {q:Qu} (h:kw q=true):QV q:=by
 unfold kw at h;simp only[jAf,decide_eq_true_eq,beq_iff_eq]at h;obtain⟨ha,⟨⟨⟨c0,c1⟩,c2⟩,c3⟩,c4⟩:=h;rw[xo (by unfold I64;omega)]at c3;refine⟨c0,c1,c2,c3,by omega,λi hi=> ?_⟩;have:=zh.1 ha i hi;unfold qrz qbv at this;simp only[jAf,beq_iff_eq]at this;rw[zp hi,xo (n:=q.cons+1) (by unfold I64;omega),xo (by unfold I64;omega)]at this;exact⟨this.1.1.2,this.2⟩
theorem QV.I {q:Qu} (h:QV q):I64 q.acc∧I64 q.cons:=by
 obtain⟨c0,c1,c2,_,_,_⟩:=h;unfold I64;omega
theorem xip {q:Qu} (h:QV q) {i:Nat} (hi:i<q.items.length) {d:Nat} (e:(d:Int)=(q.cons+1+i).tmod 4):wv q d=(vk q.items[i]).1:=by
 have hf:q.items.find? (λp=>p.seq.tmod 4==(d:Int))=some q.items[i]:=by
  refine qyr (jCj.2 λp hp=> ?_) hi ?_
  ·obtain⟨j,hj,rfl⟩:=jCc hp;rw[jAl]at hj;rw[List.getElem_take,(h.it j (by omega)).2,e];have h1:=h.c0;have h2:=h.few;rw[jBf (by omega),jBf (by omega)];simp only[beq_iff_eq];omega
  ·rw[(h.it i hi).2,e];simp
 unfold wv;rw[hf]
theorem xiq {q:Qu} (h:QV q) {d:Nat} (hd: ∀i:Nat,i<q.items.length->(d:Int)≠(q.cons+1+i).tmod 4):wv q d= []:=by
 have hf:q.items.find? (λp=>p.seq.tmod 4==(d:Int))=none:=jCj.2 λp hp=>by
  obtain⟨j,e,rfl⟩:=jCc hp;rw[(h.it j e).2];have:=hd j e;simp only[beq_iff_eq];omega
 unfold wv;rw[hf]
theorem xir {q:Qu} (h:QV q):qc1 (qd9 (ky q))=(q.acc,q.cons):=by
 obtain⟨u,t⟩:=h.I;by_cases d:q.acc=0∧q.cons=0
 ·have:ky q= []:=by unfold ky;rw[if_pos d]
  rw[this];simp only[qd9,if_true,qc1,d.1,d.2]
 ·have e:ky q=wInt q.acc++wInt q.cons:=by unfold ky;rw[if_neg d]
  have hp:=qpx q.acc;have l1:=xg u;have l2:=xg t;have i:ky q≠ []:=by rw[e];intro h;have:=congrArg List.length h;rw[jAc,List.length_nil]at this;omega
  have z:(ky q).length<=1000000000:=by rw[e,jAc];omega
  have o:=wj qdf (r:=⟨ky q,0,false⟩) ⟨z,jAj _⟩ rfl (v:=q.acc) (l:=wInt q.cons) (by simp only[List.drop_zero,e];exact qb3 u _);have ht:=(jp (b:=ky q) (p:=0) (q:=wInt q.acc) (l:=wInt q.cons) (jAj _) (by rw[List.drop_zero,e])).1;have m:=wj qdf (r:=⟨ky q,(ky q).length-(wInt q.cons).length,false⟩) ⟨z,jCt _ _⟩ rfl (v:=q.cons) (l:= []) (by simp only[ht];have:=qb3 t [];rwa [jAu]at this);simp only at o m;simp only[qd9,if_neg i,qc1,o,m]
theorem qnz {m:Cont} {name:List UInt8} {q:Qu} (h:QV q) (o:q.W) (p:Rep m name q): ∀n i,n+i=q.items.length->y8 m name n (q.cons.toNat+1+i)=some (q.items.drop i)
 |0,i,hi=>by rw[y8,jDu (by omega)]
 |n+1,i,hi=>by
  have h0:=h.c0;have d:i<q.items.length:=by omega
  have hk:((q.cons.toNat+1+i)%4:Nat)=(((q.cons.toNat+1+i)%4:Nat):Int):=rfl;have e:wv q ((q.cons.toNat+1+i)%4:Nat)=(vk q.items[i]).1:=xip h d (by rw[jBf (by omega)];omega);have l:ldAt m name (q.cons.toNat+1+i)=(q.items[i],0):=by
   unfold ldAt;rw[p.2 _ (jC6 _ (by decide)),e,q7z];exact xuk (h.it i d).1 (o.p _ (jAg d))
  have ih:=qnz h o p n (i+1) (by omega);rw[y8,l,if_neg (by simp)];rw[show q.cons.toNat+1+i+1=q.cons.toNat+1+(i+1) by omega,ih,jBm d];rfl
theorem xad {m:Cont} {name:List UInt8} {q:Qu} (h:kw q=true) (hw:q.W) (hn:qdu name=true) (e:Rep m name q):qaa m name=(q,0):=by
 have l:=quj h;have i:=l;obtain⟨c0,c1,c2,c3,c4,_⟩:=i;have e1:(q.acc-q.cons).toNat=q.items.length:=by omega
 have hi:=qnz l hw e q.items.length 0 (by omega);have hb:xdn (q.acc,q.cons)=false:=by
  unfold xdn;simp only[jA4,decide_eq_false_iff_not];rw[xo (by unfold I64;omega)];exact⟨⟨⟨by omega,by omega⟩,by omega⟩,by omega⟩
 have b1:qo2 m name q=false:=by
  unfold qo2;rw[e.1,q7z,qy5,h];simp
 have b2:qb6 (λd=> !qst m name q d) 4=true:=zh.2 λd hd=>by
  unfold qst;rw[e.2 d hd,q7z,qy5];simp
 unfold qaa;rw[if_neg (by simp[hn]),e.1,xir l,if_neg (by rw[hb];simp),e1];simp only;rw[show q.cons.toNat+1=q.cons.toNat+1+0 from rfl,hi,List.drop_zero,xim,b1,b2];rfl
theorem xis {k o n:List UInt8} {x:OpS} (h:x∈chg k o n):x.key=k∧x.val=n∧(x.del=true->n= []):=by
 unfold chg at h;split at h
 ·cases h
 ·simp only[jAv,jBk,or_false]at h;subst h;exact⟨rfl,rfl,λh=>by simpa using h⟩
theorem qy6 {a b:Qu} {name:List UInt8} {x:OpS}: ∀{D:Nat},x∈vl a b name D->x.key.length=name.length+2∧(x.val=ky b∨ ∃d:Nat,x.val=wv b d)∧(x.del=true->x.val= [])
 |0,h=>by
  obtain⟨m,e,l⟩:=xis h;exact⟨by rw[m];simp[nKey],.inl e,λi=>by rw[e];exact l i⟩
 |D+1,h=>by
  rcases jAs.1 h with h|h
  ·exact qy6 h
  ·obtain⟨m,e,l⟩:=xis h;exact⟨by rw[m];simp[sKey],.inr ⟨D,e⟩,λi=>by rw[e];exact l i⟩
theorem xpd {q:Qu} (h:QV q):(ky q).length<=12:=by
 obtain⟨c0,c1,c2,_,_,_⟩:=h;have h1:=qdk (n:=q.acc) (by omega) (by omega);have h2:=qdk (n:=q.cons) (by omega) (by omega);unfold ky;split
 ·simp
 ·rw[jAc];omega
theorem xpe {q:Qu} (hw:q.W) (d:Int):(wv q d).length<=348:=by
 unfold wv;split
 ·rename_i p hp;exact xuj p (hw.p _ (jBz hp))
 ·simp
theorem xit {q:Qu} (h:QV q) (hw:q.W) {v:List UInt8} (hv:v=ky q∨ ∃d:Nat,v=wv q d):v.length<=348:=by
 rcases hv with rfl|⟨d,rfl⟩
 ·have:=xpd h;omega
 ·exact xpe hw d
theorem q3q {s:List UInt8} (h:s.length<=1000000):(qbm s).length<=s.length+6:=by
 have:=qdk (n:=s.length) (by omega) (by omega);rw[qbm,jAc];omega
theorem xae {a b:Qu} {name:List UInt8} (l:QV b) (i:b.W) (hn:name.length<=30) (e:vl a b name 4≠ []):(qs (vl a b name 4)).2=0:=by
 have hl:=qff a b name 4;have hp: ∀o∈vl a b name 4,k9 o=true:=λo d=>by
  obtain⟨h1,h,m⟩:=qy6 d;have h4:=xit l i h;exact vr.2 ⟨by omega,by omega,by omega,λhd=>by rw[m hd];rfl⟩
 have hs:=yh wOp 393 (vl a b name 4) λo d=>by
  obtain⟨h1,h,m⟩:=qy6 d;have h4:=xit l i h;have h5:=q3q (s:=o.key) (by omega);have h6:=q3q (s:=o.val) (by omega);simp only[wOp,jAc,List.length_cons,List.length_nil];omega
 have hc:=qdk (n:=(vl a b name 4).length) (by omega) (by omega);have hpos:0<(vl a b name 4).length:=jCl.2 e;unfold qs;rw[if_neg,if_neg]
 ·simp only[jA0,decide_eq_true_eq,not_or,wOps,jAc];omega
 ·simp only[jA0,decide_eq_true_eq,not_or,jB3,not_exists,not_and];exact⟨by omega,λo d=>by simp[hp o d]⟩
theorem qjx: ∀(l:List OpS) (m:Cont),m.l.length+l.length<=400->(jw m l).2=true∧(jw m l).1.l.length<=m.l.length+l.length
 | [],m,h=>⟨rfl,jAi _⟩
 |o::l,m,h=>by
  rw[jw];simp only[List.length_cons]at h⊢;split
  ·have h1:=qyn o.key m;have:=qjx l (mDel o.key m) (by omega);exact⟨this.1,by omega⟩
  ·have h1:=q90 o.key o.val m;rw[if_neg (by omega)];have:=qjx l (mPut o.key o.val m) (by omega);exact⟨this.1,by omega⟩
structure Sto.Few (n:Nat) (s:Sto):Prop where
 ok:s.Ok n
 len:s.m.l.length<=5*n
theorem Sto.Few.v {n:Nat} {s:Sto} (h:s.Few n): ∀x∈s.m.l,x.2.2.length<=1000000:=λx hx=>by
 have:=(h.ok.good.small x hx).2.2;omega
theorem xpf {m m':Cont} {a b:Qu} {name:List UInt8} (h:Rep m name a) (i: ∀k,mGet k m'=vz k (mGet k m) (vl a b name 4)):Rep m' name b:=by
 refine⟨by rw[i,h.1,q3o a b name 4 (jAi _)],λd e=> ?_⟩;rw[i,h.2 d e,q3p a b name e 4 (jAi _),if_pos e]
theorem xiu {m m':Cont} {a b c:Qu} {name h:List UInt8} (i: ∀(x y:List UInt8),x.length=2->y.length=2->name++x≠h++y) (l:Rep m h c) (o: ∀k,mGet k m'=vz k (mGet k m) (vl a b name 4)):Rep m' h c:=by
 refine⟨?_,λd hd=> ?_⟩
 ·rw[o,qjw a b name (nKey h) (i [47,110] [47,110] rfl rfl) (λd _=>i [47,UInt8.ofNat (48+d)] [47,110] rfl rfl) _ 4 (jAi _),l.1]
 ·rw[o,qjw a b name (sKey h d) (i [47,110] [47,UInt8.ofNat (48+d)] rfl rfl) (λe _=>i [47,UInt8.ofNat (48+e)] [47,UInt8.ofNat (48+d)] rfl rfl) _ 4 (jAi _),l.2 d hd]
theorem xiv (name:List UInt8):Rep kx name xx:=⟨rfl,λd _=>rfl⟩
theorem xiw {k o n:List UInt8} (h:chg k o n= []):o=n:=by
 unfold chg at h;split at h
 ·assumption
 ·cases h
theorem xaf {a b:Qu} {name:List UInt8}: ∀{D:Nat},vl a b name D= [] ->ky a=ky b∧ ∀d,d<D->wv a d=wv b d
 |0,h=>⟨xiw h,λd i=>absurd i (Nat.not_lt_zero _)⟩
 |D+1,h=>by
  obtain⟨h1,h2⟩:=jC2.1 h;obtain⟨i1,i2⟩:=xaf h1;refine⟨i1,λd i=> ?_⟩;rcases jB9 d D with e|e
  ·exact i2 d e
  ·have:d=D:=by omega
   subst this;exact xiw h2
theorem xpg {m:Cont} {a b:Qu} {name:List UInt8} (h1:ky a=ky b) (h2: ∀d:Nat,d<4->wv a d=wv b d) (e:Rep m name a):Rep m name b:=⟨by rw[<- h1];exact e.1,λd h=>by rw[<- h2 d h];exact e.2 d h⟩
def qz (b:List UInt8) (p:Nat):List UInt8:=(b.drop p).take 24
def qea (b:List UInt8) (p:Nat):List UInt8:=(b.drop (p+24)).take 8
def yr (h:List UInt8):Nat:=(h.getD 0 0).toNat
def numB (h:List UInt8):Nat:=(h.getD 1 0).toNat
def qfl (h:List UInt8) (d:Nat):Bool:=
 (decide (yr h=1)||decide (yr h=2))&&decide (numB h<=22)&&decide (d+numB h<=2000)&& !(decide (yr h=1)&&decide (numB h≠22))&& !(decide (yr h=2)&&decide (numB h=0)&&decide (0<d))&&(h.drop (2+numB h)).all (λc=>c==0)
structure Rds where
 pos:Nat
 seed:Nat
 now:List UInt8
 recs:List (List UInt8)
 ends:List Nat
 deriving Inhabited
def Rds.used (s:Rds):Nat:=s.ends.getLastD 0
def cNow (b:List UInt8) (s:Rds):List UInt8:=s.now++((qz b s.pos).drop 2).take (numB (qz b s.pos))
def qhp (b:List UInt8) (s:Rds):Rds:=
 if yr (qz b s.pos)=2 then⟨s.pos+32,fnv s.seed (qz b s.pos),[],s.recs++ [cNow b s],s.ends++ [s.pos+32]⟩
 else⟨s.pos+32,fnv s.seed (qz b s.pos),cNow b s,s.recs,s.ends⟩
def cErr (b:List UInt8) (s:Rds):Option Int:=
 if be8 (fnv s.seed (qz b s.pos))=qea b s.pos then(if qfl (qz b s.pos) s.now.length=true then none else some 4)else some 5
theorem q3r (b:List UInt8) (s:Rds):(qhp b s).pos=s.pos+32:=by unfold qhp;split<;>rfl
def w8 (b:List UInt8) (s:Rds):Rds×Int:=
 if h:s.pos+32<=b.length then
  match cErr b s with
  |some e=>(s,e)
  |none=>w8 b (qhp b s)
 else(s,if s.used=b.length then 0 else 4)
termination_by b.length-s.pos
decreasing_by rw[q3r];omega
def xdo:Nat:=14695981039346656037
def rds0:Rds:=⟨0,xdo,[],[],[]⟩
theorem qi6 {b:List UInt8} {s:Rds} {e:Int} (h:s.pos+32<=b.length) (he:cErr b s=some e):w8 b s=(s,e):=by
 rw[w8,dif_pos h,he]
theorem qjy {b:List UInt8} {s:Rds} (h:s.pos+32<=b.length) (he:cErr b s=none):w8 b s=w8 b (qhp b s):=by
 rw[w8,dif_pos h,he]
theorem qg0 {b:List UInt8} {s:Rds} (h: ¬s.pos+32<=b.length):w8 b s=(s,if s.used=b.length then 0 else 4):=by
 rw[w8,dif_neg h]
structure Rds.Ok (b:List UInt8) (s:Rds):Prop where
 pos:s.pos<=b.length
 seed:s.seed<18446744073709551616
 now:s.now.length<=2000
 recs:s.recs.length<=s.pos
 ends:s.ends.length<=s.pos
 used:s.used<=s.pos
 small: ∀r∈s.recs,r.length<=2000
theorem qi7 (b:List UInt8):rds0.Ok b:=⟨jAj _,by decide,by simp[rds0],by simp[rds0],by simp[rds0],by simp[rds0,Rds.used],by simp[rds0]⟩
theorem qms (l:List Nat) (x d:Nat):(l++ [x]).getLastD d=x:=by simp
theorem xix {b:List UInt8} {s:Rds} (h:cErr b s=none):be8 (fnv s.seed (qz b s.pos))=qea b s.pos∧qfl (qz b s.pos) s.now.length=true:=by
 unfold cErr at h;split at h
 ·split at h
  ·exact⟨by assumption,by assumption⟩
  ·cases h
 ·cases h
theorem qbd {h:List UInt8} {n:Nat}:qfl h n=true↔(yr h=1∨yr h=2)∧numB h<=22∧n+numB h<=2000∧(yr h=1->numB h=22)∧(yr h=2->numB h=0->n=0)∧(h.drop (2+numB h)).all (λc=>c==0)=true:=by
 unfold qfl;simp only[jAf,jA0,jBd,jB6,decide_eq_true_eq,decide_eq_false_iff_not];constructor
 ·rintro⟨⟨⟨⟨⟨l,i⟩,e⟩,h4⟩,h5⟩,d⟩;exact⟨l,i,e,by omega,by omega,d⟩
 ·rintro⟨l,i,e,h4,h5,d⟩;exact⟨⟨⟨⟨⟨l,i⟩,e⟩,by omega⟩,by omega⟩,d⟩
theorem qy7 {b:List UInt8} {s:Rds} (h:cErr b s=none):(cNow b s).length<=2000:=by
 obtain⟨_,h2⟩:=xix h;obtain⟨_,_,h3,_⟩:=qbd.1 h2;unfold cNow;rw[jAc,jAl];omega
theorem qy8 {b:List UInt8} {s:Rds} (hs:s.Ok b) (h:s.pos+32<=b.length) (he:cErr b s=none):(qhp b s).Ok b:=by
 have hn:=qy7 he;have e:=qgo hs.seed (qz b s.pos);have h1:=hs.recs;have h2:=hs.ends;have h3:=hs.used;unfold qhp;split
 ·refine⟨h,e,by simp,by simp;omega,by simp;omega,by simp[Rds.used],λr d=> ?_⟩;rcases jAs.1 d with d|d
  ·exact hs.small r d
  ·simp at d;subst d;exact hn
 ·exact⟨h,e,hn,by simp only;omega,by simp only;omega,by simp only[Rds.used]at h3⊢;omega,hs.small⟩
theorem qhq {b:List UInt8} {s:Rds} (hs:s.Ok b):(w8 b s).1.Ok b:=by
 by_cases h:s.pos+32<=b.length
 ·cases he:cErr b s with
  |some e=>rw[qi6 h he];exact hs
  |none=>rw[qjy h he];exact qhq (qy8 hs h he)
 ·rw[qg0 h];exact hs
termination_by b.length-s.pos
decreasing_by rw[q3r];omega
def jx:Nat->List (Nat×List UInt8) ->List UInt8
 | _,[]=> []
 |h,p::l=>zl p++be8 (fnv h (zl p))++jx (fnv h (zl p)) l
def qfs:Nat->List (Nat×List UInt8) ->Nat
 |h,[]=>h
 |h,p::l=>qfs (fnv h (zl p)) l
theorem xdp (x:List UInt8) (h:Nat) (l:List (Nat×List UInt8)):wm (x,h) l=(x++jx h l,qfs h l):=by
 induction l generalizing x h with
 |nil=>simp[wm,jx,qfs]
 |cons p l ih=>
  have:wm (x,h) (p::l)=wm (qgq (x,h) p) l:=rfl;rw[this,qgq,ih,jx,qfs];simp only[jAh]
theorem qjz {h:Nat} {l:List (Nat×List UInt8)} (d: ∀p∈l,p.2.length<=22):(jx h l).length=32*l.length:=by
 induction l generalizing h with
 |nil=>simp[jx]
 |cons p l ih=>
  rw[jx,jAc,jAc,ji,qaq (d p jA7),ih (λq hq=>d q (jA9 _ hq)),List.length_cons];omega
theorem xph {h:Nat} (d:h<18446744073709551616) (l:List (Nat×List UInt8)):qfs h l<18446744073709551616:=by
 induction l generalizing h with
 |nil=>exact d
 |cons p l ih=>exact ih (qgo d _)
theorem q3s {b rest:List UInt8} {s:Rds} {p:Nat×List UInt8} (hp:p.1=1∨p.1=2) (hl:p.2.length<=22) (h:b.drop s.pos=zl p++be8 (fnv s.seed (zl p))++rest):
  s.pos+32<=b.length∧qz b s.pos=zl p∧qea b s.pos=be8 (fnv s.seed (zl p)):=by
 have d:=qaq hl;have e:=congrArg List.length h;simp only[jAp,jAc,d,ji]at e;refine⟨by omega,?_,?_⟩
 ·rw[qz,h,jAh,<- d,jD4]
 ·rw[qea,<- jCq,h,jAh,<- d,jDi,<- ji (fnv s.seed (zl p)),jD4]
theorem qsw {p:Nat×List UInt8} (hp:p.1=1∨p.1=2):yr (zl p)=p.1:=by
 unfold yr zl;rcases hp with h|h<;>rw[h]<;>rfl
theorem qv8 {p:Nat×List UInt8} (hl:p.2.length<=22):numB (zl p)=p.2.length:=by
 unfold numB zl;simp only[List.cons_append,List.nil_append,jD8,jEp,UInt8.toNat_ofNat'];omega
theorem q70 (p:Nat×List UInt8):((zl p).drop 2).take p.2.length=p.2:=by
 unfold zl;simp only[List.cons_append,List.nil_append,jCs,List.drop_zero,jD4]
theorem xdq (p:Nat×List UInt8):((zl p).drop (2+p.2.length)).all (λc=>c==0)=true:=by
 rw[<- jCq];unfold zl;simp only[List.cons_append,List.nil_append,jCs,List.drop_zero,jDi];simp
theorem qsx {b rest:List UInt8} {s:Rds} {p:Nat×List UInt8} (hp:p.1=1∨p.1=2) (d:p.2.length<=22) (e:p.1=1->p.2.length=22) (h0:p.1=2->p.2.length=0->s.now.length=0) (hn:s.now.length+p.2.length<=2000)
  (hb:b.drop s.pos=zl p++be8 (fnv s.seed (zl p))++rest):
  w8 b s=w8 b (if p.1=2 then⟨s.pos+32,fnv s.seed (zl p),[],s.recs++ [s.now++p.2],s.ends++ [s.pos+32]⟩else⟨s.pos+32,fnv s.seed (zl p),s.now++p.2,s.recs,s.ends⟩):=by
 obtain⟨h1,h,h3⟩:=q3s hp d hb;have he:cErr b s=none:=by
  unfold cErr;rw[h,h3,if_pos rfl,if_pos];refine qbd.2 ?_;rw[qsw hp,qv8 d];exact⟨hp,d,hn,e,h0,xdq p⟩
 rw[qjy h1 he];unfold qhp cNow;rw[h,qsw hp,qv8 d,q70]
theorem xag: ∀(n:Nat) {r b rest:List UInt8} {s:Rds},r.length<=n->(s.now.length=0∨0<r.length) ->s.now.length+r.length<=2000->b.drop s.pos=jx s.seed (partsOf r)++rest->
  w8 b s=w8 b ⟨s.pos+32*(partsOf r).length,qfs s.seed (partsOf r),[],s.recs++ [s.now++r],s.ends++ [s.pos+32*(partsOf r).length]⟩
 |n,r,b,rest,s,hr,h0,hn,hb=>by
  by_cases h:r.length>22
  ·have l:(r.take 22).length=22:=by rw[jAl];omega
   rw[yf h]at hb⊢;rw[jx,jAh]at hb;have hc:=qsx (p:=(1,r.take 22)) (s:=s) (b:=b) (.inl rfl) (by simp only;omega) (λ_=>l) (λh=>by cases h) (by simp only;omega) hb;rw[hc];simp only[show¬(1:Nat)=2 by decide,if_false];cases n with
   |zero=>omega
   |succ n=>
    have hd:=(q3s (p:=(1,r.take 22)) (.inl rfl) (by simp only;omega) hb).1;have d:b.drop (s.pos+32)=jx (fnv s.seed (zl (1,r.take 22))) (partsOf (r.drop 22))++rest:=by
     have i:=qaq (p:=(1,r.take 22)) (by simp only;omega);rw[<- jCq,hb];exact jE8 (by rw[jAc,i,ji])
    have ih:=xag n (r:=r.drop 22) (b:=b) (rest:=rest) (s:=⟨s.pos+32,fnv s.seed (zl (1,r.take 22)),s.now++r.take 22,s.recs,s.ends⟩) (by rw[jAp];omega) (.inr (by rw[jAp];omega))
     (by simp only[jAc,jAp,l];omega) (by simp only;exact d)
    rw[ih];simp only[jAh,jB5,List.length_cons,qfs];have e:s.pos+32+32*(partsOf (r.drop 22)).length=s.pos+32*((partsOf (r.drop 22)).length+1):=by omega
    rw[e]
  ·rw[yg h]at hb⊢;rw[jx,jAh]at hb;have hc:=qsx (p:=(2,r)) (s:=s) (b:=b) (.inr rfl) (by simp only;omega) (λh=>by cases h) (λ_ h1=>by simp only at h1;omega) hn hb;rw[hc];simp only[if_true,jBo,qfs,jCo]
theorem xiy: ∀(n:Nat) {r b:List UInt8} {m:Nat} {s:Rds},r.length<=n->(s.now.length=0∨0<r.length) ->s.now.length+r.length<=2000->b.drop s.pos=(jx s.seed (partsOf r)).take m->s.pos<=b.length->m<(jx s.seed (partsOf r)).length->
  (w8 b s).1.recs=s.recs∧(w8 b s).1.ends=s.ends∧((w8 b s).2=0∨(w8 b s).2=4)
 |n,r,b,m,s,hr,h0,hn,hb,hpos,hm=>by
  have i:=wp _ r (jAi _);have e:=congrArg List.length hb;rw[jAp,jAl,jDy (Nat.le_of_lt hm)]at e;rw[qjz (λp hp=>(i p hp).2)]at hm;by_cases h32:m<32
  ·rw[qg0 (by omega)];exact⟨rfl,rfl,by simp only;split<;>simp⟩
  ·by_cases h:r.length>22
   ·have q:(r.take 22).length=22:=by rw[jAl];omega
    rw[yf h]at hb hm;rw[jx]at hb;have o:=qaq (p:=(1,r.take 22)) (by simp only;omega);have t:(zl (1,r.take 22)++be8 (fnv s.seed (zl (1,r.take 22)))).length=32:=by rw[jAc,o,ji]
    rw[jEz,jAq (by omega),t]at hb;have hc:=qsx (p:=(1,r.take 22)) (s:=s) (b:=b) (.inl rfl) (by simp only;omega) (λ_=>q) (λh=>by cases h) (by simp only;omega) hb;rw[hc];simp only[show¬(1:Nat)=2 by decide,if_false];cases n with
    |zero=>omega
    |succ n=>
     have l:b.drop (s.pos+32)=(jx (fnv s.seed (zl (1,r.take 22))) (partsOf (r.drop 22))).take (m-32):=by
      rw[<- jCq,hb];exact jE8 t
     have d:=wp _ (r.drop 22) (jAi _);exact xiy n (r:=r.drop 22) (b:=b) (m:=m-32) (s:=⟨s.pos+32,fnv s.seed (zl (1,r.take 22)),s.now++r.take 22,s.recs,s.ends⟩) (by rw[jAp];omega) (.inr (by rw[jAp];omega))
      (by simp only[jAc,jAp,q];omega) (by simp only;exact l) (by simp only;omega) (by rw[qjz (λp hp=>(d p hp).2)];rw[List.length_cons]at hm;omega)
   ·rw[yg h]at hm;simp at hm;omega
theorem xiz {h:Nat} (hh:h<18446744073709551616):qpl (be8 h)=h:=by
 have e: ∀x:Nat,(UInt8.ofNat x).toNat=x%256:=λx=>UInt8.toNat_ofNat';simp only[qpl,be8,List.foldl_cons,List.foldl_nil,num1,e];have p0:(256:Nat)^0=1:=rfl;have p1:(256:Nat)^1=256:=rfl;have p2:(256:Nat)^2=65536:=rfl;have p3:(256:Nat)^3=16777216:=rfl;have p4:(256:Nat)^4=4294967296:=rfl;have p5:(256:Nat)^5=1099511627776:=rfl;have p6:(256:Nat)^6=281474976710656:=rfl;have p7:(256:Nat)^7=72057594037927936:=rfl;rw[p0,p1,p2,p3,p4,p5,p6,p7];omega
theorem qsy: ∀(l:List (Nat×List UInt8)) {h:Nat},l≠ [] -> ∃q,jx h l=q++be8 (qfs h l)
 | [],_,hn=>(hn rfl).elim
 | [p],h,_=>⟨zl p,by simp[jx,qfs]⟩
 |p::p'::l,h,_=>by
  obtain⟨q,hq⟩:=qsy (p'::l) (h:=fnv h (zl p)) (by simp);refine⟨zl p++be8 (fnv h (zl p))++q,?_⟩;have e:qfs h (p::p'::l)=qfs (fnv h (zl p)) (p'::l):=by rw[qfs]
  rw[jx,hq,e,<- jAh]
theorem qy9 (r:List UInt8):partsOf r≠ []:=by
 by_cases h:r.length>22
 ·rw[yf h];simp
 ·rw[yg h];simp
theorem qey (f r:List UInt8):wn f r=f++jx (yn f) (partsOf r):=by rw[wn,xdp]
theorem qo4 (f r:List UInt8):yn (wn f r)=qfs (yn f) (partsOf r):=by
 obtain⟨q,hq⟩:=qsy (partsOf r) (h:=yn f) (qy9 r);have hh:=xph (q9t f) (partsOf r);rw[qey,hq,yn,if_neg (by simp[ji];omega)];have e:(f++(q++be8 (qfs (yn f) (partsOf r)))).length-8=(f++q).length:=by simp only[jAc,ji];omega
 rw[e,<- jAh,jDi,xiz hh]
def zo (rs:List (List UInt8)):List UInt8:=rs.foldl wn []
theorem qam (rs:List (List UInt8)) (r:List UInt8):zo (rs++ [r])=zo rs++jx (yn (zo rs)) (partsOf r):=by
 have:zo (rs++ [r])=wn (zo rs) r:=by unfold zo;rw[jCm,List.foldl_cons,List.foldl_nil]
 rw[this,qey]
theorem qn0 (rs:List (List UInt8)) (r:List UInt8):zo (rs++ [r])=wn (zo rs) r:=by rw[qam,qey]
theorem qmt (f r:List UInt8):(jx (yn f) (partsOf r)).length=32*(partsOf r).length:=qjz λp hp=>(wp _ r (jAi _) p hp).2
theorem xi0 (f r:List UInt8):0<(jx (yn f) (partsOf r)).length:=by
 rw[qmt];have:=jCl.2 (qy9 r);omega
theorem qj0 {α:Type} {P:List α->Prop} (e:P []) (d: ∀l x,P l->P (l++ [x])): ∀(n:Nat) (l:List α),l.length=n->P l
 |0,l,h=>by cases l with
  |nil=>exact e
  |cons a l=>simp at h
 |n+1,l,h=>by
  rcases jE7 l with rfl|⟨t,c,rfl⟩
  ·simp at h
  ·rw[jFa]at h⊢;exact d _ _ (qj0 e d n t (by simpa using h))
structure Behind (rs:List (List UInt8)) (s:Rds):Prop where
 pos:s.pos=(zo rs).length
 seed:s.seed=yn (zo rs)
 now:s.now= []
 recs:s.recs=rs
 used:s.used=(zo rs).length
theorem q3t (rs:List (List UInt8)): ∀(b rest:List UInt8),(∀r∈rs,r.length<=2000) ->b=zo rs++rest-> ∃s,Behind rs s∧w8 b rds0=w8 b s:=by
 refine qj0 (P:=λrs=> ∀(b rest:List UInt8),(∀r∈rs,r.length<=2000) ->b=zo rs++rest-> ∃s,Behind rs s∧w8 b rds0=w8 b s) ?_ ?_ _ rs rfl
 ·intro b rest _ _;exact⟨rds0,⟨rfl,rfl,rfl,rfl,rfl⟩,rfl⟩
 ·intro rs r ih b rest e d;rw[qam,jAh]at d;obtain⟨s,⟨b1,b2,b3,b4,b5⟩,hs⟩:=ih b _ (λx hx=>e x (jBa _ hx)) d;have hd:b.drop s.pos=jx s.seed (partsOf r)++rest:=by rw[b1,b2,d,jDi]
  have:=xag _ (r:=r) (b:=b) (s:=s) (jAi _) (.inl (by rw[b3];rfl)) (by rw[b3];have:=e r (by simp);simpa using this) hd;refine⟨_,?_,hs.trans this⟩;refine⟨?_,?_,rfl,?_,?_⟩
  ·rw[qam,jAc,qmt,b1]
  ·rw[qn0,qo4,b2]
  ·rw[b4,b3,List.nil_append]
  ·rw[Rds.used,qms,qam,jAc,qmt,b1]
theorem quk (rs:List (List UInt8)): ∀i j:Nat,i<=j->(zo (rs.take i)).length<=(zo (rs.take j)).length:=by
 intro i j hij;induction j with
 |zero=>
  have:i=0:=by omega
  subst this;exact jAi _
 |succ j ih=>
  by_cases h:i<=j
  ·refine jBn (ih h) ?_;by_cases hj:j<rs.length
   ·rw[jAk hj,qam,jAc];omega
   ·rw[jAq (by omega),jAq (by omega)];omega
  ·have:i=j+1:=by omega
   subst this;exact jAi _
theorem xdr (rs:List (List UInt8)): ∀i:Nat,i<=rs.length->(zo rs).take (zo (rs.take i)).length=zo (rs.take i):=by
 refine qj0 (P:=λrs=> ∀i:Nat,i<=rs.length->(zo rs).take (zo (rs.take i)).length=zo (rs.take i)) ?_ ?_ _ rs rfl
 ·intro i hi;simp at hi;subst hi;rfl
 ·intro rs r ih i hi;by_cases h:i<=rs.length
  ·have d:=quk rs i rs.length h;rw[jAr]at d;rw[jBq h,qam,jBq d,ih i h]
  ·have:i=(rs++ [r]).length:=by simp at hi⊢;omega
   subst this;rw[jAr,jAr]
structure ReadOf (rs:List (List UInt8)) (k j:Nat) (x:Rds×Int):Prop where
 le:j<=rs.length
 recs:x.1.recs=rs.take j
 used:x.1.used=(zo (rs.take j)).length
 fit:(zo (rs.take j)).length<=k
 all: ∀i,i<=rs.length->(zo (rs.take i)).length<=k->i<=j
theorem xds (rs:List (List UInt8)): ∀k:Nat,(∀r∈rs,r.length<=2000) -> ∃j,ReadOf rs k j (w8 ((zo rs).take k) rds0):=by
 refine qj0 (P:=λrs=> ∀k:Nat,(∀r∈rs,r.length<=2000) -> ∃j,ReadOf rs k j (w8 ((zo rs).take k) rds0)) ?_ ?_ _ rs rfl
 ·intro k _;refine⟨0,?_⟩;have q:(zo []).take k= []:=by simp[zo]
  rw[q,qg0 (by simp[rds0])];exact⟨jAi _,rfl,rfl,jAj _,λi hi _=>by simpa using hi⟩
 ·intro rs r ih k p;have l: ∀x∈rs,x.length<=2000:=λx hx=>p x (jBa _ hx);have o:r.length<=2000:=p r (by simp);have hln:(zo (rs++ [r])).length=(zo rs).length+(jx (yn (zo rs)) (partsOf r)).length:=by rw[qam,jAc]
  have hps:=xi0 (zo rs) r;by_cases t:(zo (rs++ [r])).length<=k
  ·rw[jAq t];obtain⟨s,⟨b1,b2,b3,b4,b5⟩,hs⟩:=q3t (rs++ [r]) (zo (rs++ [r])) [] p (by simp);rw[hs,qg0 (by rw[b1];omega)];refine⟨(rs++ [r]).length,⟨jAi _,by rw[jAr];exact b4,by rw[jAr];exact b5,by rw[jAr];exact t,λi hi _=>hi⟩⟩
  ·have d: ∀i,i<=(rs++ [r]).length->(zo ((rs++ [r]).take i)).length<=k->i<=rs.length:=by
    intro i hi e;rcases jB9 rs.length i with h|h
    ·have:i=(rs++ [r]).length:=by simp at hi⊢;omega
     rw[this,jAr]at e;exact(t e).elim
    ·exact h
   have htk: ∀i,i<=rs.length->(rs++ [r]).take i=rs.take i:=λi hi=>jBq hi;by_cases h2:k<=(zo rs).length
   ·rw[qam,jBq h2];obtain⟨j,m,j2,j3,j4,j5⟩:=ih k l;refine⟨j,⟨by simp;omega,by rw[htk j m];exact j2,by rw[htk j m];exact j3,by rw[htk j m];exact j4,λi hi e=> ?_⟩⟩;have:=d i hi e;rw[htk i this]at e;exact j5 i this e
   ·have q:(zo (rs++ [r])).take k=zo rs++(jx (yn (zo rs)) (partsOf r)).take (k-(zo rs).length):=by
     rw[qam,jEz,jAq (by omega)]
    rw[q];obtain⟨s,⟨b1,b2,b3,b4,b5⟩,hs⟩:=q3t rs (zo rs++(jx (yn (zo rs)) (partsOf r)).take (k-(zo rs).length)) _ l rfl;have hd:(zo rs++(jx (yn (zo rs)) (partsOf r)).take (k-(zo rs).length)).drop s.pos=(jx s.seed (partsOf r)).take (k-(zo rs).length):=by rw[b1,b2,jDi]
    obtain⟨c1,c2,c3⟩:=xiy _ (r:=r) (s:=s) (jAi _) (.inl (by rw[b3];rfl)) (by rw[b3];simpa using o) hd (by rw[b1,jAc];omega) (by rw[b2];omega);rw[hs];refine⟨rs.length,⟨by simp,?_,?_,?_,d⟩⟩
    ·rw[c1,b4,htk _ (jAi _),jAr]
    ·rw[Rds.used,c2,htk _ (jAi _),jAr];exact b5
    ·rw[htk _ (jAi _),jAr];omega
def d339:=cut prog f339 news
@[go_sem] def E339:=qj d339
def F339:=fnC d339 follows func339
def d342:=cut prog f342 news
@[go_sem] def E342:=qj d342
def F342:=fnC d342 follows func342
def d338:=cut prog f338 news
@[go_sem] def E338:=qj d338
def F338:=fnC d338 follows func338
def d328:=cut prog f328 news
@[go_sem] def E328:=qj d328
def F328:=fnC d328 follows func328
def d190:=cut prog f190 news
@[go_sem] def E190:=qj d190
def F190:=fnC d190 follows func190
def d290:=cut prog f290 news
@[go_sem] def E290:=qj d290
def F290:=fnC d290 follows func290
theorem xdt (c:UInt8):qf prog 339 [.d (.int .u8 (c.toNat:Nat))] [] (.d (.bool (!(c==0)))) []:=by
 have e:(((c.toNat:Nat):Int) !=0)= !(c==0):=by
  show(!(((c.toNat:Nat):Int)==0))= !(c==0);congr 1;rw[jBl];simp only[beq_iff_eq];constructor
  ·intro h;apply UInt8.toNat_inj.1;show c.toNat=0;omega
  ·rintro rfl;rfl
 refine F339.go ?_;exact et1 @e
def xpi (k:FuncId) (l:List UInt8) (f:UInt8->Bool) (i:{i:Nat//(l.take i).any f=false}):St:=
 ⟨[(0,true,.d (.sl 1 (qd l))),(1,true,.d (.func (.func k) [] [])),(7,true,.d (.int .i64 l.length)),(8,true,.d (.int .i64 (i.val:Nat)))],[],[],1⟩
theorem xi1 {k:FuncId} {f:UInt8->Bool} (hb:(prog.funcs[k]?).any (λfn=>fn.body.isSome&& !(fn.name== "runtime.NumGoroutine"))=true)
  (hf: ∀v:UInt8,qf prog k [.d (.int .u8 (v.toNat:Nat))] [] (.d (.bool (f v))) []) (l:List UInt8) (hl:l.length<=maxLen):
  qf prog 342 [.d (.sl 1 (qd l)),.d (.func (.func k) [] [])] [] (.d (.int .i64 (idx f l))) []:=by
 refine F342.go ?_;refine ez ?_;refine qg (xpi k l f) (λi=>l.length-i.val) ⟨0,rfl⟩ ?_ (λi=> ?_)
 ·exact et1 @xpi.eq_1
 obtain⟨i,hi⟩:=i;refine eo1 @xpi.eq_1 ?_;refine xf _ (λh=> ?_) (λh=> ?_)
 ·have e:i<l.length:=by simpa using h
  refine eo1 (za l e) ?_;refine zf (hf l[i]) hb (λh=>h) (λ_=>⟨qo,trivial⟩) rfl rfl rfl ?_;refine eo ?_;refine xf _ (λh=> ?_) (λh=> ?_)
  ·exact et1 (qf0 hi e h)
  ·refine ez ?_;refine⟨⟨i+1,v8 hi e (by simpa using h)⟩,?_,by dsimp only;omega⟩;exact et2 @xpi.eq_1 (qe (show i<9223372036854775807 by unfold maxLen at hl;omega))
 ·have e:l.length<=i:=by simpa using h
  exact et1 (qfz hi e)
theorem q3u {k:FuncId} {f:UInt8->Bool} (hb:(prog.funcs[k]?).any (λfn=>fn.body.isSome&& !(fn.name== "runtime.NumGoroutine"))=true)
  (hf: ∀v:UInt8,qf prog k [.d (.int .u8 (v.toNat:Nat))] [] (.d (.bool (f v))) []) (l:List UInt8) (hl:l.length<=maxLen):
  qf prog 338 [.d (.sl 1 (qd l)),.d (.func (.func k) [] [])] [] (.d (.bool (l.any f))) []:=by
 refine F338.go ?_;refine eo ?_;refine cl F342 (xi1 hb hf l hl) ?_;exact et1 @qvc
theorem q3v:(prog.funcs[339]?).any (λfn=>fn.body.isSome&& !(fn.name== "runtime.NumGoroutine"))=true:=F339.body
theorem qza {h:List UInt8} (hl:0<h.length):yr h=h[0].toNat:=by simp[yr,jA1,hl]
theorem q3w {h:List UInt8} (hl:1<h.length):numB h=h[1].toNat:=by simp[numB,jA1,hl]
theorem xxw (l:List UInt8):l.any (λc=> !(c==0))= !l.all (λc=>c==0):=by induction l<;>simp_all
theorem q3x (h:List UInt8) (n:Nat) (hl:h.length=24) (hn:n<=100000):qf prog 328 [.d (.sl 1 (qd h)),.d (.int .i64 n)] [] (.d (.bool (qfl h n))) []:=by
 have z:0<h.length:=by omega
 have v:1<h.length:=by omega
 have u:=qza z;have t:=q3w v;have l0:=qcv h[0];have l1:=qcv h[1];refine F328.go ?_;refine ez3 (za h z) (za h v) (xo (n:=(h[1].toNat:Int)) (by unfold I64;omega)) ?_;rw[<- u,<- t];rw[<- u]at l0;rw[<- t]at l1
 (repeat(with_reducible refine ob ?_))
 generalize i:yr h=k at*;generalize e:numB h=m at*;have w1:IntKind.i64.wrap ((n:Int)+(m:Int))=((n+m:Nat):Int):=by rw[xo (by unfold I64;omega)];omega
 have w2:IntKind.i64.wrap (2+(m:Int))=((2+m:Nat):Int):=by rw[xo (by unfold I64;omega)];omega
 refine ez2 @w1 @w2 ?_;refine xf _ (λhc=> ?_) (λhc=> ?_)
 ·have hb:qfl h n=false:=by
   rw[Bool.eq_false_iff];intro hp;obtain⟨C,B,A,q,p,a6⟩:=qbd.1 hp;rw[i]at C;rw[e]at B A;simp only[jA0,jAf,decide_eq_true_eq,bne_iff_ne]at hc;omega
  exact et1 @hb
 have l:(k=1∨k=2)∧m<=22∧n+m<=2000:=by
  simp only[jA4,jB6,decide_eq_false_iff_not,bne_eq_false_iff_eq]at hc;omega
 refine eo ?_;refine xf _ (λo=> ?_) (λo=> ?_)
 ·have hb:qfl h n=false:=by
   rw[Bool.eq_false_iff];intro hp;obtain⟨C,B,A,q,p,a6⟩:=qbd.1 hp;rw[i]at q p;rw[e]at q p;simp only[jA0,jAf,decide_eq_true_eq,bne_iff_ne,beq_iff_eq]at o;omega
  exact et1 @hb
 have hb:qfl h n=(h.drop (2+m)).all (λc=>c==0):=by
  rw[jBl,qbd,i,e];simp only[jA4,jB6,decide_eq_false_iff_not,bne_eq_false_iff_eq,beq_eq_false_iff_ne]at o;exact⟨λx=>x.2.2.2.2.2,λx=>⟨l.1,l.2.1,l.2.2,by omega,by omega,x⟩⟩
 have hx:((qd h).drop (2+m)).take (h.length-(2+m))=qd (h.drop (2+m)):=by rw[ze,xq,jAq (by rw[jAp];omega)]
 have e2:(2+(m:Int)).toNat=2+m:=by omega
 refine ez3 @w2 @e2 @hx ?_;refine⟨by omega,?_⟩
 (repeat(with_reducible refine ob ?_));refine cl F338 (q3u q3v xdt (h.drop (2+m)) (by rw[jAp];unfold maxLen;omega)) ?_
 exact et2 @xxw @hb
theorem xi2 (a b:List UInt8):qf prog 190 [.d (.ref 0 0 1 a.length),.d (.sl 1 (qd b))] [.row ((a.map ju).map .d)] (.d (.bool (a==b))) [.row ((a.map ju).map .d)]:=by
 refine F190.go ?_;refine ez ?_;rw[jCo,qjm (s:=a) rfl rfl,jAq (by simp)];exact⟨⟨⟨jAi _,qkv a⟩,a,rfl⟩,by rw[qkj]⟩
def qav (l:List Nat):List (List D):=l.map λn=> [.int .i64 (n:Nat)]
theorem xi3 (l:List Nat) (hl:l.length<=1000000000):qf prog 290 [.d (.sl 1 (qav l))] [] (.d (.int .i64 (l.getLastD 0:Nat))) []:=by
 refine F290.go ?_;refine ez ?_;have e:(qav l).length=l.length:=by simp[qav]
 refine xf _ (λhc=> ?_) (λhc=> ?_)
 ·have:l= []:=by simpa[e]using hc
  subst this;exact et2 @List.getLastD_nil.{0} @jAt
 ·have hne:0<l.length:=by simp only[e,beq_eq_false_iff_ne]at hc;omega
  have e1:IntKind.i64.wrap (((qav l).length:Int) -1)=((l.length-1:Nat):Int):=by rw[e,xo (by unfold I64;omega)];omega
  have e2:(qav l).getD (l.length-1) []= [.int .i64 (l.getLastD 0:Nat)]:=by
   rw[qav,qh (λn:Nat=> [D.int .i64 (n:Int)]) l (by omega) [],List.getLastD_eq_getLast?,List.getLast?_eq_getElem?,jAa (by omega)];rfl
  refine ez3 @e1 @jA6 @e2 ?_;rw[e];omega
def d289:=cut prog f289 news
@[go_sem] def E289:=qj d289
def F289:=fnC d289 follows func289
def d248:=cut prog f248 news
@[go_sem] def E248:=qj d248
def F248:=fnC d248 follows func248
def d181:=cut prog f181 news
@[go_sem] def E181:=qj d181
def F181:=fnC d181 follows func181
def qan (l:List (List UInt8)):List (List D):=l.map λr=> [.sl 1 (qd r)]
theorem qzb (l:List (List UInt8)):D.noPtrR (qan l)=true:=zg (λr=>by simp only[D.noPtrL,D.noPtr,jz,jBu]) l
theorem q71 (l:List (List UInt8)):(qan l).length=l.length:=by simp[qan]
theorem q72:qan []= []:=rfl
theorem qo5 (l:List (List UInt8)) (r:List UInt8):qan l++ [[.sl 1 (qd r)]]=qan (l++ [r]):=by simp[qan]
theorem qzc (l:List Nat):D.noPtrR (qav l)=true:=zg (λ_=>rfl) l
theorem q73 (l:List Nat):(qav l).length=l.length:=by simp[qav]
theorem q74:qav []= []:=rfl
attribute [go_sem] qzb q71 q72 qzc q73 q74
def xi4 (b:List UInt8) (s:Rds):St:=
 ⟨[(0,true,.d (.sl 1 (qd b))),(2,true,.own 0 1 (qan s.recs)),(3,true,.own 1 1 (qav s.ends)),(4,true,.d (.int .i64 0)),(5,true,.d (.int .u64 (s.seed:Nat))),(6,true,.own 2 1 (qd s.now)),(7,true,.d (.int .i64 (s.pos:Nat)))],[],[0,1,2],1⟩
theorem xum (b:List UInt8) (hb:b.length<=1000000000):qf prog 289 [.d (.sl 1 (qd b))] [] (.tup [.d (.sl 1 (qan (w8 b rds0).1.recs)),.d (.sl 1 (qav (w8 b rds0).1.ends)),.d (.int .i64 (w8 b rds0).2)]) []:=by
 refine F289.goT ?_;refine ez ?_;refine qg (λi:{s:Rds//s.Ok b∧w8 b s=w8 b rds0}=>xi4 b i.val) (λi=>b.length-i.val.pos) ⟨rds0,qi7 b,rfl⟩ ?_ (λi=> ?_)
 ·exact et5 @xi4.eq_1 @rds0.eq_1 @xdo.eq_1 @jAt @qk
 obtain⟨s,hs,v⟩:=i;obtain⟨q1,C,q3,q4,q5,q6,q7⟩:=hs;have w1:IntKind.i64.wrap ((s.pos:Int)+32)=((s.pos+32:Nat):Int):=by rw[xo (by unfold I64;omega)];omega
 have w2:IntKind.i64.wrap ((s.pos:Int)+24)=((s.pos+24:Nat):Int):=by rw[xo (by unfold I64;omega)];omega
 refine ez2 @xi4.eq_1 @w1 ?_;refine xf _ (λhc=> ?_) (λhc=> ?_)
 ·have l:s.pos+32<=b.length:=by simp at hc;omega
  have hh:(qz b s.pos).length=24:=by rw[qz,jAl,jAp];omega
  have e1:((s.pos:Int)+24).toNat-s.pos=24:=by omega
  have e2:((s.pos:Int)+32).toNat-((s.pos:Int)+24).toNat=8:=by omega
  have e5:((s.pos:Int)+24).toNat=s.pos+24:=by omega
  have e3:((qd b).drop s.pos).take 24=qd (qz b s.pos):=by rw[ze,xq];rfl
  have e4:((qd b).drop (s.pos+24)).take 8=qd (qea b s.pos):=by rw[ze,xq];rfl
  refine eo6 @w2 @e1 @e2 @e3 @e4 @jA6 ?_
  (repeat(with_reducible refine ob ?_));refine cl F161 (xnx s.seed (qz b s.pos) C (by omega)) ?_
  refine ez5 @qr3 @e1 @e2 @e4 @e5 ?_;have F:=xi2 (be8 (fnv s.seed (qz b s.pos))) (qea b s.pos);rw[ji]at F;have e4b:((qd b).drop ((s.pos:Int)+24).toNat).take 8=qd (qea b s.pos):=by rw[e5];exact e4
  refine ez5 @w1 @w2 @ji @e2 @e4b ?_;refine⟨by omega,?_⟩;refine clO [0] F190 F ?_;refine ez ?_;refine xf _ (λe=> ?_) (λe=> ?_)
  ·have o:cErr b s=some 5:=by
    unfold cErr;rw[if_neg (by simpa using e)]
   have hr:=v.symm.trans (qi6 l o);exact et1 @hr
  have u:be8 (fnv s.seed (qz b s.pos))=qea b s.pos:=by simpa using e
  refine eo ?_;refine cl F328 (q3x (qz b s.pos) s.now.length hh (by omega)) ?_;refine ez ?_;refine xf _ (λe=> ?_) (λe=> ?_)
  ·have o:cErr b s=some 4:=by
    unfold cErr;rw[if_pos u,if_neg (by simpa using e)]
   have hr:=v.symm.trans (qi6 l o);exact et1 @hr
  have t:qfl (qz b s.pos) s.now.length=true:=by simpa using e
  have o:cErr b s=none:=by
   unfold cErr;rw[if_pos u,if_pos t]
  obtain⟨p1,p2,p3,p4,p5,p6⟩:=qbd.1 t;have A:=qza (h:=qz b s.pos) (by omega);have z:=q3w (h:=qz b s.pos) (by omega);have w3:IntKind.i64.wrap ((numB (qz b s.pos):Nat):Int)=(numB (qz b s.pos):Nat):=xo (by unfold I64;omega);have w4:IntKind.i64.wrap (2+((numB (qz b s.pos):Nat):Int))=((2+numB (qz b s.pos):Nat):Int):=by rw[xo (by unfold I64;omega)];omega
  have e6:(2+((numB (qz b s.pos):Nat):Int)).toNat-2=numB (qz b s.pos):=by omega
  have e7:((qd (qz b s.pos)).drop 2).take (numB (qz b s.pos))=qd (((qz b s.pos).drop 2).take (numB (qz b s.pos))):=by rw[ze,xq]
  have hln:(((qz b s.pos).drop 2).take (numB (qz b s.pos))).length<=22:=by rw[jAl];omega
  refine ez5 (za (qz b s.pos) (show 0<(qz b s.pos).length by omega)) (za (qz b s.pos) (show 1<(qz b s.pos).length by omega)) z.symm A.symm @w3 ?_;refine ez4 @w4 @e6 @e7 @qx ?_;refine⟨by omega,by omega,by omega,by omega,?_⟩;have B:s.now++((qz b s.pos).drop 2).take (numB (qz b s.pos))=cNow b s:=rfl;rw[B];have hcl:=qy7 o;have hok:=qy8 ⟨q1,C,q3,q4,q5,q6,q7⟩ l o;have q:=(qjy l o).symm.trans v;refine xf _ (λe=> ?_) (λe=> ?_)
  ·have m:yr (qz b s.pos)=2:=by simp at e;omega
   have hn:qhp b s=⟨s.pos+32,fnv s.seed (qz b s.pos),[],s.recs++ [cNow b s],s.ends++ [s.pos+32]⟩:=by rw[qhp,if_pos m]
   refine eo1 @qo5 ?_;refine⟨⟨qhp b s,hok,q⟩,?_,by dsimp only;rw[hn];dsimp only;omega⟩;have hes:qav s.ends++ [[.int .i64 ((s.pos:Int)+32)]]=qav (s.ends++ [s.pos+32]):=by simp[qav]
   exact et5 @xi4.eq_1 @hn @w1 @hes @qk
  ·have m: ¬yr (qz b s.pos)=2:=by simp at e;omega
   have hn:qhp b s=⟨s.pos+32,fnv s.seed (qz b s.pos),cNow b s,s.recs,s.ends⟩:=by rw[qhp,if_neg m]
   refine ez ?_;refine⟨⟨qhp b s,hok,q⟩,?_,by dsimp only;rw[hn];dsimp only;omega⟩;exact et3 @xi4.eq_1 @hn @w1
 ·have p:=v.symm.trans (qg0 (b:=b) (s:=s) (by simp at hc;omega));refine eo ?_;refine cl F290 (xi3 s.ends (by omega)) ?_;refine ez ?_;have E:s.ends.getLastD 0=s.used:=rfl;refine xf _ (λe=> ?_) (λe=> ?_)
  ·have hr:w8 b rds0=(s,4):=by
    rw[p,if_neg];intro h;rw[<- E]at h;rw[h]at e;simp at e
   exact et1 @hr
  ·have hr:w8 b rds0=(s,0):=by
    rw[p,if_pos];rw[<- E];simp only[bne_eq_false_iff_eq]at e;omega
   exact et1 @hr
theorem xdu (b:List UInt8) (hb:b.length<=1000000000):qf prog 248 [.d (.sl 1 (qd b))] [] (.tup [.d (.sl 1 (qan (w8 b rds0).1.recs)),.d (.int .i64 ((w8 b rds0).1.used:Nat)),.d (.int .i64 (w8 b rds0).2)]) []:=by
 have hok:=qhq (qi7 b);have h1:=hok.ends;have h2:=hok.pos;refine F248.goT ?_;refine eo ?_;refine cl F289 (xum b hb) ?_;refine eo ?_;refine cl F290 (xi3 (w8 b rds0).1.ends (by omega)) ?_;exact et1 @Rds.used.eq_1
def yo (b:List UInt8):List (List UInt8):=(w8 b rds0).1.recs
def qbw (b:List UInt8):Nat:=(w8 b rds0).1.used
theorem qzd (b:List UInt8):qbw b<=b.length:=jBn (qhq (qi7 b)).used (qhq (qi7 b)).pos
theorem q3y (b:List UInt8):(yo b).length<=b.length:=jBn (qhq (qi7 b)).recs (qhq (qi7 b)).pos
theorem qk6 (b:List UInt8): ∀r∈yo b,r.length<=2000:=(qhq (qi7 b)).small
theorem xdv (b:List UInt8) (hb:b.length<=1000000000):qf prog 181 [.d (.sl 1 (qd b))] [] (.tup [.d (.agg (vo (b.take (qbw b)) (qbw b))),.d (.sl 1 (qan (yo b)))]) []:=by
 have e:=xdu b hb;have hu:=qzd b;change qf prog 248 [.d (.sl 1 (qd b))] [] (.tup [.d (.sl 1 (qan (yo b))),.d (.int .i64 (qbw b:Nat)),.d (.int .i64 (w8 b rds0).2)]) []at e;refine F181.goT ?_;refine eo ?_;refine cl F248 (e) ?_;have e1:((qd b).drop 0).take (qbw b-0)=qd (b.take (qbw b)):=by rw[List.drop_zero,xq,jCz]
 refine eo2 @xq @jCz ?_
 (repeat(with_reducible refine ob ?_));refine cl F127 (qfc (b.take (qbw b)) (by rw[jAl];omega)) ?_
 exact et1 @vo.eq_1
def d235:=cut prog f235 news
@[go_sem] def E235:=qj d235
def F235:=fnC d235 follows func235
def xxx:=cut prog f234 news [5] [2] true
@[go_sem] def x04:=qj xxx
def xi5:=fnC xxx follows func234
def d308:=cut prog f308 news
@[go_sem] def E308:=qj d308
def F308:=fnC d308 follows func308
def d256:=cut prog f256 news
@[go_sem] def E256:=qj d256
def F256:=fnC d256 follows func256
def d193:=cut prog f193 news
@[go_sem] def E193:=qj d193
def F193:=fnC d193 follows func193
def xah (h:Nat) (s:List UInt8) (i:{i:Nat//i<=s.length}):St:=
 ⟨[(1,true,.d (.sl 1 (qd s))),(5,true,.d (.int .u64 (fnv h (s.take i.val):Nat))),(6,true,.d (.int .i64 (i.val:Nat)))],[],[],1⟩
theorem qp7 (h:Nat) (s:List UInt8) (hh:h<18446744073709551616) (hl:s.length<=1000000000):qf prog 235 [.d (.int .u64 h),.d (.sl 1 (qd s))] [] (.d (.int .u64 (fnv h s:Nat))) []:=by
 refine F235.go ?_;refine ez ?_;refine qg (xah h s) (λi=>s.length-i.val) ⟨0,jAj _⟩ ?_ (λi=> ?_)
 ·exact et4 @xah.eq_1 @List.take_zero.{0} @qx6 @jAt
 obtain⟨i,hi⟩:=i;refine eo1 @xah.eq_1 ?_;refine xf _ (λh=> ?_) (λh=> ?_)
 ·have e:i<s.length:=by simpa using h
  refine eo1 (za s e) ?_;simp only[qx7 _ _ (qgo hh (s.take i)) (qcv s[i]),go_sem,simprocAttr];refine⟨⟨i+1,e⟩,?_,by dsimp only;omega⟩;exact et4 @xah.eq_1 (qe (show i<9223372036854775807 by omega)) (jAk e) @qpy
 ·have l:i=s.length:=by simp at h;omega
  subst l;exact et1 @jAr.{0}
theorem xi6 (h:Nat): ∀{k:Nat},k<8->((List.replicate (8-k) 0++(be8 h).drop (8-k)).map ju).set (7-k) (D.int .u8 ((UInt8.ofNat (h/256^k)).toNat:Int))=(List.replicate (8-(k+1)) 0++(be8 h).drop (8-(k+1))).map ju
 |0,_=>rfl
 |1,_=>rfl
 |2,_=>rfl
 |3,_=>rfl
 |4,_=>rfl
 |5,_=>rfl
 |6,_=>rfl
 |7,_=>rfl
def xai (h:Nat) (k:{k:Nat//k<=8}):St:=
 ⟨[(0,true,.d (.int .u64 (h/256^k.val:Nat))),(3,true,.d (.ref 0 0 1 8)),(4,true,.d (.int .i64 (7-(k.val:Int))))],[.row (((List.replicate (8-k.val) 0++(be8 h).drop (8-k.val)).map ju).map .d)],[],1⟩
theorem qmu (h:Nat) (hh:h<18446744073709551616):qf Tryz.prog 234 [.d (.int .u64 h)] [] (.d (.sl 1 (qd (be8 h)))) []:=by
 refine xi5.go ?_
 try(refine ev ?_;try exact True.intro)
 try refine⟨by decide,?_⟩
 refine qou (.fr 3) 32 1 (List.replicate 8 [D.int .u8 0]) ?_
 refine pu ?_
 try(refine ev ?_;try exact True.intro)
 refine qg (xai h) (fun k=>8-k.val) ⟨0,by simp⟩ ?_ (fun k=> ?_)
 ·try(refine ev8 @xai.eq_1 @Nat.pow_zero @Nat.div_one @Nat.sub_zero @Int.ofNat_zero @Int.sub_zero @be8.eq_1 @ju.eq_1 ?_;try exact True.intro)
  try rfl
 obtain⟨k,hk⟩:=k
 try(refine ev1 @xai.eq_1 ?_;try exact True.intro)
 refine xf _ (fun hc=> ?_) (fun hc=> ?_)
 ·have hkl:k<8:=by simp at hc;omega
  have e1:(7-(k:Int)).toNat=7-k:=by omega
  have e2:IntKind.u8.wrap (((h/256^k:Nat):Int).tmod 256)=((UInt8.ofNat (h/256^k)).toNat:Int):=by
   generalize h/256^k=x
   rw[Int.tmod_eq_emod_of_nonneg (by omega),qip,UInt8.toNat_ofNat']
   omega
  have e3:IntKind.u64.wrap (((h/256^k:Nat):Int).tdiv 256)=((h/256^(k+1):Nat):Int):=by
   have h1:h/256^k<=h:=Nat.div_le_self _ _
   have h2:h/256^(k+1)=h/256^k/256:=by rw[Nat.pow_succ,Nat.div_div_eq_div_mul]
   rw[h2]
   generalize h/256^k=x at h1
   rw[Int.tdiv_eq_ediv_of_nonneg (by omega),show((x:Int)/256)=((x/256:Nat):Int) by omega,f2 _ (by omega)]
  have e4:IntKind.i64.wrap (7-(k:Int) -1)=7-((k+1:Nat):Int):=by rw[xo (by unfold I64;omega)];omega
  try(refine ev6 @Nat.mul_one @e1 @e2 @e3 @qcx (xi6 h hkl) ?_;try exact True.intro)
  refine⟨by omega,by simp only[List.length_replicate,List.length_drop,ji];omega,⟨k+1,hkl⟩,?_,by dsimp only;omega⟩
  try(refine ev2 @xai.eq_1 @e4 ?_;try exact True.intro)
 ·have:k=8:=by simp at hc;omega
  subst this
  try(refine ev ?_;try exact True.intro)
  refine qio 0 1 (qd (be8 h)) ?_ (hc:= ?_) (hcc:= ?_) (hes:= ?_) (hok:=D.okWR_noPtr (jz _))
  ·refine pu ?_
   try(refine ev1 @ji ?_;try exact True.intro)
  ·try(refine ev ?_;try exact True.intro)
   rw[qcw]
  ·try(refine ev ?_;try exact True.intro)
  ·intro r hr
   obtain⟨x,_,rfl⟩:=List.mem_map.1 hr
   rfl
def pr47 (h:List UInt8):Bool:=(decide (yr h=1)||decide (yr h=2))&&decide (numB h<=22)&& !(decide (yr h=1)&&decide (numB h≠22))&&(h.drop (2+numB h)).all (λc=>c==0)
theorem qze {h:List UInt8}:pr47 h=true↔(yr h=1∨yr h=2)∧numB h<=22∧(yr h=1->numB h=22)∧(h.drop (2+numB h)).all (λc=>c==0)=true:=by
 unfold pr47;simp only[jAf,jA0,jBd,jB6,decide_eq_true_eq,decide_eq_false_iff_not];constructor
 ·rintro⟨⟨⟨i,e⟩,h3⟩,d⟩;exact⟨i,e,by omega,d⟩
 ·rintro⟨i,e,h3,d⟩;exact⟨⟨⟨i,e⟩,by omega⟩,d⟩
theorem qsz (h:List UInt8) (n:Nat):qfl h n=true↔pr47 h=true∧(yr h=2->numB h=0->n=0)∧n+numB h<=2000:=by
 rw[qbd,qze];constructor
 ·rintro⟨o,m,l,i,e,d⟩;exact⟨⟨o,m,i,d⟩,e,l⟩
 ·rintro⟨⟨o,m,i,d⟩,e,l⟩;exact⟨o,m,l,i,e,d⟩
theorem xpj {l:List UInt8} {m k:Nat} (h:m+k<l.length):(l.drop m)[k]'(by rw[jAp];omega)=l[m+k]:=by simp
def xpk (c:List UInt8) (m:Nat) (p:List UInt8) (k:{k:Nat//k<=p.length∧(p.take k).all (λc=>c==0)=true}):St:=
 ⟨[(0,true,.d (.sl 1 (qd c))),(4,true,.d (.int .i64 (m+k.val:Nat)))],[],[],1⟩
theorem q3z (h t:List UInt8) (hl:h.length=24) (ht:t.length=8):qf prog 308 [.d (.sl 1 (qd (h++t)))] [] (.d (.bool (pr47 h))) []:=by
 have u:0<h.length:=by omega
 have E:1<h.length:=by omega
 have hcl:(h++t).length=32:=by rw[jAc];omega
 have C:=qza u;have B:=q3w E;have l0:=qcv h[0];have l1:=qcv h[1];have g0:(qd (h++t)).getD 0 []= [.int .u8 (yr h:Nat)]:=by rw[za (h++t) (by omega),jCk u,C]
 have g1:(qd (h++t)).getD 1 []= [.int .u8 (numB h:Nat)]:=by rw[za (h++t) (by omega),jCk E,B]
 rw[<- C]at l0;rw[<- B]at l1;refine F308.go ?_;refine eo3 @g0 @g1 (xo (n:=((numB h:Nat):Int)) (by unfold I64;omega)) ?_;generalize o:yr h=k at*;generalize l:numB h=m at*;refine xf _ (λhc=> ?_) (λhc=> ?_)
 ·have hb:pr47 h=false:=by
   rw[Bool.eq_false_iff];intro hp;obtain⟨a1,a2,F,a4⟩:=qze.1 hp;rw[o]at a1 F;rw[l]at a2 F;simp only[jA0,jAf,decide_eq_true_eq,bne_iff_ne,beq_iff_eq]at hc;omega
  exact et1 @hb
 have i:(k=1∨k=2)∧m<=22∧(k=1->m=22):=by
  simp only[jA4,jB6,decide_eq_false_iff_not,bne_eq_false_iff_eq,beq_eq_false_iff_ne]at hc;omega
 have hb:pr47 h=(h.drop (2+m)).all (λc=>c==0):=by
  rw[jBl,qze,o,l];exact⟨λx=>x.2.2.2,λx=>⟨i.1,i.2.1,i.2.2,x⟩⟩
 have w2:IntKind.i64.wrap (2+(m:Int))=((2+m:Nat):Int):=by rw[xo (by unfold I64;omega)];omega
 have hpl:(h.drop (2+m)).length=22-m:=by rw[jAp];omega
 refine ez1 @w2 ?_;refine qg (xpk (h++t) (2+m) (h.drop (2+m))) (λk=>22-k.val) ⟨0,jAj _,by simp⟩ ?_ (λk=> ?_)
 ·exact et3 @xpk.eq_1 @jAt @Int.add_zero
 obtain⟨j,hj,z⟩:=k;refine ez1 @xpk.eq_1 ?_;refine xf _ (λv=> ?_) (λv=> ?_)
 ·have p:2+m+j<h.length:=by simp at v;omega
  have e:j<(h.drop (2+m)).length:=by omega
  have e1:(2+(m:Int)+(j:Int)).toNat=2+m+j:=by omega
  have g2:(qd (h++t)).getD (2+m+j) []= [.int .u8 (((h.drop (2+m))[j]).toNat:Nat)]:=by rw[za (h++t) (by omega),jCk p,xpj p]
  refine ez2 @e1 @g2 ?_;refine⟨by omega,?_⟩;refine xf _ (λq=> ?_) (λq=> ?_)
  ·have:(h.drop (2+m)).all (λc=>c==0)=false:=by
    refine qoy e ?_;rw[beq_eq_false_iff_ne];intro u;rw[u]at q;simp at q
   rw[this]at hb;exact et1 @hb
  ·have A:((h.drop (2+m))[j]==0)=true:=by
    rw[beq_iff_eq];apply UInt8.toNat_inj.1;simp only[bne_eq_false_iff_eq]at q;show _=0;omega
   refine ez ?_;refine⟨⟨j+1,e,qai z e A⟩,?_,by dsimp only;omega⟩;have w5:IntKind.i64.wrap (2+(m:Int)+(j:Int)+1)=((2+m+(j+1):Nat):Int):=by rw[xo (by unfold I64;omega)];omega
   exact et2 @xpk.eq_1 @w5
 ·have:j=(h.drop (2+m)).length:=by simp at v;omega
  rw[this,jAr]at z;rw[z]at hb;exact et1 @hb
def q30 (b:List UInt8) (s:Rds):St:=
 ⟨[(0,true,.d (.sl 1 (qd b))),(5,true,.own 0 1 (qan s.recs)),(6,true,.own 1 1 (qd s.now)),(7,true,.d (.int .u64 (s.seed:Nat))),(8,true,.d (.int .i64 (s.pos:Nat))),(9,true,.d (.int .i64 (s.used:Nat)))],[],[0,1],1⟩
theorem xdw (b:List UInt8) (p:Nat):(b.drop p).take 32=qz b p++qea b p:=by
 rw[qz,qea,<- jCq,show(32:Nat)=24+8 from rfl,jFn]
theorem xpl (b:List UInt8) (hb:b.length<=1000000000):qf prog 256 [.d (.sl 1 (qd b))] [] (.tup [.d (.sl 1 (qan (w8 b rds0).1.recs)),.d (.int .i64 ((w8 b rds0).1.used:Nat)),.d (.int .i64 (w8 b rds0).2)]) []:=by
 refine F256.goT ?_;refine ez ?_;refine qg (λi:{s:Rds//s.Ok b∧w8 b s=w8 b rds0}=>q30 b i.val) (λi=>b.length-i.val.pos) ⟨rds0,qi7 b,rfl⟩ ?_ (λi=> ?_)
 ·exact et7 @q30.eq_1 @rds0.eq_1 @xdo.eq_1 @Rds.used.eq_1 @List.getLastD_nil.{0} @jAt @qk
 obtain⟨s,hs,v⟩:=i;obtain⟨q1,z,q3,q4,q5,q6,q7⟩:=hs;have w1:IntKind.i64.wrap ((s.pos:Int)+32)=((s.pos+32:Nat):Int):=by rw[xo (by unfold I64;omega)];omega
 refine ez2 @q30.eq_1 @w1 ?_;refine xf _ (λhc=> ?_) (λhc=> ?_)
 ·have l:s.pos+32<=b.length:=by simp at hc;omega
  have A:(qz b s.pos).length=24:=by rw[qz,jAl,jAp];omega
  have ht:(qea b s.pos).length=8:=by rw[qea,jAl,jAp];omega
  have hht:(qz b s.pos++qea b s.pos).length=32:=by rw[jAc];omega
  have e1:((s.pos:Int)+32).toNat-s.pos=32:=by omega
  have e3:((qd b).drop s.pos).take 32=qd (qz b s.pos++qea b s.pos):=by rw[ze,xq,xdw]
  have e4:(qd (qz b s.pos++qea b s.pos)).take 24=qd (qz b s.pos):=by rw[xq,<- A,jD4]
  have e5:((qd (qz b s.pos++qea b s.pos)).drop 24).take (32-24)=qd (qea b s.pos):=by
   have:(qz b s.pos++qea b s.pos).drop 24=qea b s.pos:=jE8 A;rw[ze,this,xq,jAq (by omega)]
  have e6:(qz b s.pos).length+(qea b s.pos).length=32:=by omega
  refine ez6 @w1 @e1 @e3 @e4 @hht @jA6 ?_;refine⟨by omega,?_⟩
  (repeat(with_reducible refine ob ?_));refine cl F235 (qp7 s.seed (qz b s.pos) z (by omega)) ?_
  refine eo ?_;refine cl xi5 (qmu (fnv s.seed (qz b s.pos)) (qgo z _)) ?_;refine ez2 @e5 @hht ?_;refine xf _ (λe=> ?_) (λe=> ?_)
  ·have o:cErr b s=some 5:=by
    unfold cErr;rw[if_neg (by simpa using e)]
   have hr:=v.symm.trans (qi6 l o);exact et1 @hr
  have u:be8 (fnv s.seed (qz b s.pos))=qea b s.pos:=by simpa using e
  have g0:(qd (qz b s.pos++qea b s.pos)).getD 0 []= [.int .u8 (yr (qz b s.pos):Nat)]:=by rw[za _ (by omega),jCk (by omega),qza (h:=qz b s.pos) (by omega)]
  have g1:(qd (qz b s.pos++qea b s.pos)).getD 1 []= [.int .u8 (numB (qz b s.pos):Nat)]:=by rw[za _ (by omega),jCk (by omega),q3w (h:=qz b s.pos) (by omega)]
  have hnb:numB (qz b s.pos)<256:=by rw[q3w (h:=qz b s.pos) (by omega)];exact qcv _
  have w3:IntKind.i64.wrap ((numB (qz b s.pos):Nat):Int)=(numB (qz b s.pos):Nat):=xo (by unfold I64;omega);refine eo3 @g1 @hht @w3 ?_
  (repeat(with_reducible refine ob ?_));refine cl F308 (q3z (qz b s.pos) (qea b s.pos) A ht) ?_
  have w6:IntKind.i64.wrap ((s.now.length:Int)+((numB (qz b s.pos):Nat):Int))=((s.now.length+numB (qz b s.pos):Nat):Int):=by rw[xo (by unfold I64;omega)];omega
  refine ez3 @g0 @hht @w6 ?_;refine⟨λh=>⟨h,λC=>by rw[h,C];rfl⟩,λh=>⟨h,λC=>by rw[h,C];rfl⟩,λh=>by simpa using h,λh=>by rw[h];rfl,?_⟩;refine xf _ (λe=> ?_) (λe=> ?_)
  ·have o:cErr b s=some 4:=by
    unfold cErr;rw[if_pos u,if_neg];rw[qsz];rintro⟨k1,k2,k3⟩;rw[k1]at e;simp only[jEn,jDg,jA0,jAf,beq_iff_eq,decide_eq_true_eq]at e;omega
   have hr:=v.symm.trans (qi6 l o);exact et1 @hr
  simp only[jA4,jCf,jB6,beq_eq_false_iff_ne,decide_eq_false_iff_not]at e;have t:qfl (qz b s.pos) s.now.length=true:=by rw[qsz];exact⟨e.1.1,by omega,by omega⟩
  have o:cErr b s=none:=by
   unfold cErr;rw[if_pos u,if_pos t]
  obtain⟨p1,p2,p3,p4,p5,p6⟩:=qbd.1 t;have w4:IntKind.i64.wrap (2+((numB (qz b s.pos):Nat):Int))=((2+numB (qz b s.pos):Nat):Int):=by rw[xo (by unfold I64;omega)];omega
  have e6:(2+((numB (qz b s.pos):Nat):Int)).toNat-2=numB (qz b s.pos):=by omega
  have e7:((qd (qz b s.pos++qea b s.pos)).drop 2).take (numB (qz b s.pos))=qd (((qz b s.pos).drop 2).take (numB (qz b s.pos))):=by
   rw[ze,xq,List.drop_append_of_le_length (by omega),jBq (by rw[jAp];omega)]
  have hln:(((qz b s.pos).drop 2).take (numB (qz b s.pos))).length<=22:=by rw[jAl];omega
  refine ez7 @g0 @w1 @w4 @e6 @e7 @hht @qx ?_;have B:s.now++((qz b s.pos).drop 2).take (numB (qz b s.pos))=cNow b s:=rfl;rw[B];have hcl:=qy7 o;have hok:=qy8 ⟨q1,z,q3,q4,q5,q6,q7⟩ l o;have q:=(qjy l o).symm.trans v;refine⟨by omega,by omega,?_⟩;refine xf _ (λe=> ?_) (λe=> ?_)
  ·have m:yr (qz b s.pos)=2:=by simp at e;omega
   have hn:qhp b s=⟨s.pos+32,fnv s.seed (qz b s.pos),[],s.recs++ [cNow b s],s.ends++ [s.pos+32]⟩:=by rw[qhp,if_pos m]
   refine eo1 @qo5 ?_;refine⟨⟨qhp b s,hok,q⟩,?_,by dsimp only;rw[hn];dsimp only;omega⟩;exact et6 @q30.eq_1 @hn @w1 @Rds.used.eq_1 @qms @qk
  ·have m: ¬yr (qz b s.pos)=2:=by simp at e;omega
   have hn:qhp b s=⟨s.pos+32,fnv s.seed (qz b s.pos),cNow b s,s.recs,s.ends⟩:=by rw[qhp,if_neg m]
   refine ez ?_;refine⟨⟨qhp b s,hok,q⟩,?_,by dsimp only;rw[hn];dsimp only;omega⟩;exact et4 @q30.eq_1 @hn @w1 @Rds.used.eq_1
 ·have p:=v.symm.trans (qg0 (b:=b) (s:=s) (by simp at hc;omega));refine ez ?_;refine xf _ (λe=> ?_) (λe=> ?_)
  ·have hr:w8 b rds0=(s,4):=by
    rw[p,if_neg];intro h;rw[h]at e;simp at e
   exact et1 @hr
  ·have hr:w8 b rds0=(s,0):=by
    rw[p,if_pos];simp only[bne_eq_false_iff_eq]at e;omega
   exact et1 @hr
theorem xpm (b:List UInt8) (hb:b.length<=1000000000):qf prog 193 [.d (.sl 1 (qd b))] [] (.tup [.d (.agg (vo (b.take (qbw b)) (qbw b))),.d (.sl 1 (qan (yo b)))]) []:=by
 have e:=xpl b hb;have hu:=qzd b;change qf prog 256 [.d (.sl 1 (qd b))] [] (.tup [.d (.sl 1 (qan (yo b))),.d (.int .i64 (qbw b:Nat)),.d (.int .i64 (w8 b rds0).2)]) []at e;refine F193.goT ?_;refine eo ?_;refine cl F256 (e) ?_;refine eo2 @xq @jCz ?_;exact et1 @vo.eq_1
def d105:=cut prog f105 news
@[go_sem] def E105:=qj d105
def F105:=fnC d105 follows func105
def qps:Cont->List (List UInt8) ->Option Cont
 |m,[]=>some m
 |m,b::l=>if(jv b).2≠0 then none else if(jw m (jv b).1).2=false then none else qps (jw m (jv b).1).1 l
def qeb (d:List UInt8):Option Sto:=(qps kx (yo d)).map λm=>⟨d.take (qbw d),(qbw d:Nat),m⟩
def qs0 (d:List UInt8):Int:=if(qeb d).isSome then 0 else 4
def qs1 (d:List UInt8):D:=if(qeb d).isSome then .ptr 1 0 else .nilptr
def qzf (d:List UInt8):List AObj:=match qeb d with
 |some s=> [mapO s.m,stoO s 0]
 |none=> [.none,.none]
theorem qi8 {b:List UInt8} (hb:b.length<=1000000000) (h:(jv b).2=0):(jv b).1.length<=20∧ ∀o∈(jv b).1,k9 o=true:=by
 have h1:=qy2 hb h;obtain⟨k1,k2,_⟩:=wq (by rw[h1]:(qs (jv b).1).2=0);exact⟨k1,k2⟩
theorem qo6 (l:List (List UInt8)) {i:Nat} (h:i<l.length):(qan l).getD i []= [.sl 1 (qd l[i])]:=qh (λr:List UInt8=> [D.sl 1 (qd r)]) l h []
def xpn (e:List UInt8) (i:Nat) (m:Cont):St:=
 ⟨[(4,true,.d (.ptr 1 0)),(21,true,.d (.sl 1 (qan (yo e)))),(22,true,.d (.int .i64 (yo e).length)),(23,true,.d (.int .i64 (i:Nat)))],[mapO m,stoO ⟨e.take (qbw e),(qbw e:Nat),m⟩ 0],[],1⟩
theorem xi7 (e:List UInt8) (hb:e.length<=1000000000):qf prog 105 [.d (.sl 1 (qd e))] [] (.tup [.d (qs1 e),.d (.int .i64 (qs0 e))]) (qzf e):=by
 have k0:=xt3;have hln:=q3y e;simp only[stoO,mapO]at k0;refine F105.goT ?_;refine ez ?_;refine clO [0,1] F28 k0 ?_;refine eo ?_;refine cl F181 (xdv e hb) ?_;refine ez1 @vo.eq_1 ?_;refine qg (λx:{x:Nat×Cont//x.1<=(yo e).length∧qps x.2 ((yo e).drop x.1)=qps kx (yo e)}=>xpn e x.val.1 x.val.2) (λx=>(yo e).length-x.val.1) ⟨(0,kx),jAj _,by simp⟩ ?_ (λx=> ?_)
 ·exact et5 @xpn.eq_1 @stoO.eq_1 @mapO.eq_1 @newS.eq_1 @jAt
 obtain⟨⟨i,m⟩,hi,h⟩:=x;simp only at hi h;refine ez3 @xpn.eq_1 @stoO.eq_1 @mapO.eq_1 ?_;refine xf _ (λhc=> ?_) (λhc=> ?_)
 ·have l:i<(yo e).length:=by simpa using hc
  have hr:=qk6 e _ (jAg l);rw[jBm l,qps]at h;simp only[qo6 _ l,go_sem,simprocAttr]
  (repeat(with_reducible refine ob ?_))
  (repeat(with_reducible refine ob ?_));refine cl F182 (xdf (yo e)[i] (by omega)) ?_
  refine ez ?_;by_cases p:(jv (yo e)[i]).2=0
  ·rw[if_neg (by simpa using p)]at h;obtain⟨g1,g2⟩:=qi8 (by omega) p;have q:=q9x m (jv (yo e)[i]).1 (by omega) (λo ho=>by have:=(vr.1 (g2 o ho)).2.2.1;omega);simp only[mapO]at q;have hz:(((jv (yo e)[i]).2:Int) !=0)=false:=by rw[p];rfl
   refine eo1 @hz ?_;refine clO [0] F87 (q) ?_;refine ez ?_;refine xf _ (λu=> ?_) (λu=> ?_)
   ·rw[if_pos (by simpa using u)]at h;have hs:qeb e=none:=by rw[qeb,<- h];rfl
    have hP:qs1 e= .nilptr:=by rw[qs1,hs];rfl
    have hE:qs0 e=4:=by rw[qs0,hs];rfl
    have hO:qzf e= [.none,.none]:=by rw[qzf,hs]
    exact et3 @hP @hE @hO
   ·rw[if_neg (by simpa using u)]at h;refine ez ?_;refine⟨⟨(i+1,(jw m (jv (yo e)[i]).1).1),l,h⟩,?_,by dsimp only;omega⟩;exact et4 @xpn.eq_1 @stoO.eq_1 @mapO.eq_1 (qe (show i<9223372036854775807 by omega))
  ·rw[if_pos (by simpa using p)]at h;have hz:(((jv (yo e)[i]).2:Int) !=0)=true:=by simpa using p
   have hs:qeb e=none:=by rw[qeb,<- h];rfl
   refine eo1 @hz ?_;refine xgl ?_;refine eo ?_;refine ya ?_;have hP:qs1 e= .nilptr:=by rw[qs1,hs];rfl
   have hE:qs0 e=4:=by rw[qs0,hs];rfl
   have hO:qzf e= [.none,.none]:=by rw[qzf,hs]
   exact et3 @hP @hE @hO
 ·have t:i=(yo e).length:=by
   have:(yo e).length<=i:=by simpa using hc
   omega
  subst t;rw[jC0,qps]at h;have hs:qeb e=some ⟨e.take (qbw e),(qbw e:Nat),m⟩:=by rw[qeb,<- h];rfl
  have hP:qs1 e= .ptr 1 0:=by rw[qs1,hs];rfl
  have hE:qs0 e=0:=by rw[qs0,hs];rfl
  have hO:qzf e= [mapO m,stoO ⟨e.take (qbw e),(qbw e:Nat),m⟩ 0]:=by rw[qzf,hs]
  exact et5 @hP @hE @hO @stoO.eq_1 @mapO.eq_1
theorem xpo {e:List UInt8} {s:Sto} (hb:e.length<=1000000000) (h:qeb e=some s):qf prog 105 [.d (.sl 1 (qd e))] [] (.tup [.d (.ptr 1 0),.d (.int .i64 0)]) [mapO s.m,stoO s 0]:=by
 have:=xi7 e hb;have hP:qs1 e= .ptr 1 0:=by rw[qs1,h];rfl
 have hE:qs0 e=0:=by rw[qs0,h];rfl
 rw[hP,hE,qzf,h]at this;exact this
theorem xun {e:List UInt8} (hb:e.length<=1000000000) (h:qeb e=none):qf prog 105 [.d (.sl 1 (qd e))] [] (.tup [.d .nilptr,.d (.int .i64 4)]) [.none,.none]:=by
 have:=xi7 e hb;have hP:qs1 e= .nilptr:=by rw[qs1,h];rfl
 have hE:qs0 e=4:=by rw[qs0,h];rfl
 rw[hP,hE,qzf,h]at this;exact this
theorem qv9: ∀(l:List (List UInt8)) {m m':Cont},(∀r∈l,r.length<=2000) ->m.Good->qps m l=some m'->m'.Good
 | [],m,m',_,hm,h=>by cases h;exact hm
 |b::l,m,m',hl,hm,h=>by
  rw[qps]at h;split at h
  ·cases h
  ·rename_i he;split at h
   ·cases h
   ·rename_i ha;have hbl:=hl b jA7;have hg:=qi8 (b:=b) (by omega) (by simpa using he);exact qv9 l (λr hr=>hl r (jA9 _ hr)) (qhf _ hm hg.2 (by simpa using ha)) h
theorem qs2:kx.Good:=(q7a 0).good
theorem qj1 {d:List UInt8} {s:Sto} (h:qeb d=some s):s.m.Good∧s.file=d.take (qbw d)∧s.synced=(qbw d:Nat):=by
 unfold qeb at h;rw[jAb]at h;obtain⟨m,hm,rfl⟩:=h;exact⟨qv9 _ (qk6 d) qs2 hm,rfl,rfl⟩
def qg1:List En->List (List UInt8) ->Option (List En)
 |m,[]=>some m
 |m,b::l=>if(jv b).2≠0 then none else if(yj m (jv b).1).2=false then none else qg1 (yj m (jv b).1).1 l
theorem qmv: ∀(l:List (List UInt8)) {m:Cont},m.Ok->m.l.length<=400->(qps m l).map xu=qg1 (xu m) l
 | [],m,_,_=>rfl
 |b::l,m,h,hl=>by
  rw[qps,qg1];split
  ·rfl
  ·obtain⟨k1,k2⟩:=qgu (jv b).1 h hl;rw[<- k1];split
   ·rfl
   ·rename_i ha;obtain⟨k3,k4,k5⟩:=k2 (by simpa using ha);rw[qmv l k4 k5,k3]
theorem qn1: ∀(ops:List OpS) (m:List En),m.length<=400->(yj m ops).2=true->(yj m ops).1.length<=400
 | [],m,h,_=>h
 |o::ops,m,h,hy=>by
  rw[yj]at hy⊢;split at hy
  ·cases hy
  ·rename_i h4;rw[if_neg h4];exact qn1 ops _ (by omega) hy
theorem kh:xu kx= []:=jAy (by rw[qf4];rfl)
def eRun:List En->List (List OpS) ->Option (List En)
 |m,[]=>some m
 |m,t::ts=>if(yj m t).2=false then none else eRun (yj m t).1 ts
theorem qzg: ∀(a b:List (List OpS)) (m:List En),eRun m (a++b)=(eRun m a).bind λm'=>eRun m' b
 | [],b,m=>rfl
 |t::a,b,m=>by
  rw[List.cons_append,eRun,eRun];split
  ·rfl
  ·exact qzg a b _
theorem xpp {m r:List En} {ts:List (List OpS)} (h:eRun m ts=some r) (j:Nat): ∃r',eRun m (ts.take j)=some r':=by
 rw[<- jB5 j ts,qzg]at h;cases he:eRun m (ts.take j)with
 |none=>rw[he]at h;cases h
 |some r'=>exact⟨r',rfl⟩
theorem qwa: ∀(a b:List OpS) (m:List En),yj m (a++b)=if(yj m a).2=false then([],false)else yj (yj m a).1 b
 | [],b,m=>rfl
 |o::a,b,m=>by
  rw[List.cons_append,yj,yj];split
  ·rfl
  ·exact qwa a b _
theorem q31: ∀(ts:List (List OpS)) (m r:List En),yj m ts.flatten=(r,true) ->eRun m ts=some r
 | [],m,r,h=>by
  rw[List.flatten_nil,yj]at h;cases h;rfl
 |t::ts,m,r,h=>by
  rw[List.flatten_cons,qwa]at h;rw[eRun];split at h
  ·cases h
  ·rename_i ha;rw[if_neg ha];exact q31 ts _ r h
theorem q32: ∀(ts:List (List OpS)) (m:List En),(∀t∈ts,(qs t).2=0) ->qg1 m (ts.map wOps)=eRun m ts
 | [],m,_=>rfl
 |t::ts,m,h=>by
  have e:=h t jA7;obtain⟨_,_,he⟩:=wq e;have d:=qy1 e;rw[he]at d;rw[List.map_cons,qg1,d,eRun];simp only[ne_eq,not_true_eq_false,if_false];split
  ·rfl
  ·exact q32 ts _ λx hx=>h x (jA9 _ hx)
def qdz (ts:List (List OpS)):List UInt8:=zo (ts.map wOps)
theorem qk7 (ts:List (List OpS)) (t:List OpS):qdz (ts++ [t])=wn (qdz ts) (wOps t):=by rw[qdz,jA2,List.map_cons,List.map_nil,qn0];rfl
theorem xpq {ts:List (List OpS)} (h: ∀t∈ts,(qs t).2=0): ∀r∈ts.map wOps,r.length<=2000:=by
 intro r hr;obtain⟨t,ht,rfl⟩:=jAo.1 hr;have d:=qb7 t;rw[(wq (h t ht)).2.2]at d;exact d
structure Bk (s:Sto) (ts:List (List OpS)):Prop where
 file:s.file=qdz ts
 enc: ∀t∈ts,(qs t).2=0
 run:eRun [] ts=some (xu s.m)
theorem xi8 {s:Sto} {ts:List (List OpS)} {l:List OpS} (h:Bk s ts) (i:s.m.Good) (hc:(xa s l).2=0):Bk (xa s l).1 (ts++ [l]):=by
 rcases qhg s l with⟨c1,_⟩|⟨_,c2,c3,c4⟩
 ·exact(c1 hc).elim
 ·obtain⟨e,k2⟩:=qgu l i.ok i.few;obtain⟨k3,_,_⟩:=k2 c3;have he:=(wq c2).2.2;rw[c4];refine⟨?_,λt d=> ?_,?_⟩
  ·simp only[he];rw[qk7,h.file]
  ·rcases jAs.1 d with d|d
   ·exact h.enc t d
   ·simp at d;subst d;exact c2
  ·simp only;rw[qzg,h.run,k3];rw[c3]at e;simp only[Option.bind_some,eRun,<- e,Bool.true_eq_false,if_false]
theorem xup {s:Sto} {ts:List (List OpS)} (h:Bk s ts):Bk (qkx s) ts:=⟨h.file,h.enc,h.run⟩
theorem q33 {s:Sto} {ts:List (List OpS)} (h:Bk s ts) (k:Nat): ∃(j:Nat) (s':Sto),j<=ts.length∧qeb (s.file.take k)=some s'∧eRun [] (ts.take j)=some (xu s'.m)∧(qdz (ts.take j)).length<=k∧
  s'.file=qdz (ts.take j)∧s'.synced=(s'.file.length:Nat)∧ ∀i,i<=ts.length->(qdz (ts.take i)).length<=k->i<=j:=by
 obtain⟨j,u,q,p,o,v⟩:=xds (ts.map wOps) k (xpq h.enc);rw[jAm]at u v;have B:zo (ts.map wOps)=s.file:=h.file.symm;rw[B]at q p;have d: ∀i,(ts.map wOps).take i=(ts.take i).map wOps:=λi=>(jDr ..).symm;rw[d]at q p o;obtain⟨r,A⟩:=xpp h.run j;have l:=qmv (yo (s.file.take k)) (m:=kx) qs2.ok (jAj _);rw[kh]at l;have z:yo (s.file.take k)=(ts.take j).map wOps:=q;rw[z,q32 _ _ (λt ht=>h.enc t (jBe ht)),A,<- z]at l;rw[jAb]at l;obtain⟨m,hm,he⟩:=l;have hu:qbw (s.file.take k)=(qdz (ts.take j)).length:=p;refine⟨j,⟨(s.file.take k).take (qbw (s.file.take k)),(qbw (s.file.take k):Nat),m⟩,u,by rw[qeb,hm];rfl,by rw[A,<- he],o,?_,?_,λi hi hk=>v i hi (by rw[d];exact hk)⟩
 ·simp only[hu];have e:min (qdz (ts.take j)).length k=(qdz (ts.take j)).length:=jDy o;rw[List.take_take,e];have:=xdr (ts.map wOps) j (by rw[jAm];exact u);rw[d,B]at this;exact this
 ·simp only;have:=qzd (s.file.take k);rw[jAl,jDy this]
def kz (l:List OpS):List D:=(l.map xp).flatten
theorem qez (l:List OpS):(kz l).length=l.length*3:=by induction l<;>simp_all[kz,xp];omega
theorem qbe (l:List OpS):D.noPtrL (kz l)=true:=by
 rw[D.noPtrL_iff];exact λd hd=>(D.noPtrR_iff _).1 (qct l) d hd
theorem qdg (l:List OpS):(kz l).all D.isCell=true:=by induction l<;>simp_all[kz,xp,D.isCell]
theorem q34 (l:List OpS) (ex:List D): ∀{i:Nat} (h:i<l.length),((kz l++ex).drop (i*3)).take 3=xp l[i]:=by
 induction l with
 |nil=>intro i h;simp at h
 |cons o l ih=>
  intro i h;have hf:kz (o::l)= .str o.key:: .bool o.del:: .sl 1 (qd o.val)::kz l:=rfl;rw[hf];cases i with
  |zero=>rfl
  |succ i=>
   rw[show(i+1)*3=i*3+1+1+1 by omega];exact ih (by simpa using h)
def xaj (k:FuncId) (l:List OpS) (ex:List D) (f:OpS->Bool) (i:{i:Nat//(l.take i).any f=false}):St:=
 ⟨[(0,true,.d (.ref 0 0 3 l.length)),(1,true,.d (.func (.func k) [] [])),(7,true,.d (.int .i64 l.length)),(8,true,.d (.int .i64 (i.val:Nat)))],[.row ((kz l++ex).map .d)],[],1⟩
theorem xdy {k:FuncId} {f:OpS->Bool} (hb:(prog.funcs[k]?).any (λfn=>fn.body.isSome&& !(fn.name== "runtime.NumGoroutine"))=true)
  (hf: ∀v,qf prog k [.d (.agg (xp v))] [] (.d (.bool (f v))) []) (l:List OpS) (ex:List D) (m:D.noPtrL ex=true) (hl:l.length<=maxLen):
  qf prog 231 [.d (.ref 0 0 3 l.length),.d (.func (.func k) [] [])] [.row ((kz l++ex).map .d)] (.d (.int .i64 (idx f l))) [.row ((kz l++ex).map .d)]:=by
 have hlf:=qez l;have hnp:D.noPtrL (kz l++ex)=true:=by rw[qag,qbe,m];rfl
 refine F231.go ?_;refine ez ?_;refine qg (xaj k l ex f) (λi=>l.length-i.val) ⟨0,rfl⟩ ?_ (λi=> ?_)
 ·exact et2 @xaj.eq_1 @hnp
 obtain⟨i,hi⟩:=i;refine eo1 @xaj.eq_1 ?_;refine xf _ (λh=> ?_) (λh=> ?_)
 ·have e:i<l.length:=by simpa using h
  refine ez4 (q34 l ex e) @jAm.{0,0} @jAc.{0} @hlf ?_;refine⟨by omega,⟨by omega,by omega,rfl⟩,?_⟩;refine zf (hf l[i]) hb (λh=>h) (λ_=>⟨qo,trivial⟩) (by exact et1 @xp.eq_1) rfl rfl ?_;refine eo ?_;refine xf _ (λh=> ?_) (λh=> ?_)
  ·exact et2 (qf0 hi e h) @hnp
  ·refine ez ?_;refine⟨⟨i+1,v8 hi e (by simpa using h)⟩,?_,by dsimp only;omega⟩;exact et3 @xaj.eq_1 @hnp (qe (show i<9223372036854775807 by unfold maxLen at hl;omega))
 ·have e:l.length<=i:=by simpa using h
  exact et2 (qfz hi e) @hnp
theorem qzh {k:FuncId} {f:OpS->Bool} (hb:(prog.funcs[k]?).any (λfn=>fn.body.isSome&& !(fn.name== "runtime.NumGoroutine"))=true)
  (hf: ∀v,qf prog k [.d (.agg (xp v))] [] (.d (.bool (f v))) []) (l:List OpS) (ex:List D) (e:D.noPtrL ex=true) (hl:l.length<=maxLen):
  qf prog 152 [.d (.ref 0 0 3 l.length),.d (.func (.func k) [] [])] [.row ((kz l++ex).map .d)] (.d (.bool (l.any f))) [.row ((kz l++ex).map .d)]:=by
 have hnp:D.noPtrL (kz l++ex)=true:=by rw[qag,qbe,e];rfl
 have hc:=xdy hb hf l ex e hl;refine F152.go ?_;refine ez ?_;refine clO [0] F231 hc ?_ (hik:=by exact et2 @hnp @D.inKL_noPtr) (hold:=by exact et1 @hnp) (htk:=by exact et1 @hnp);exact et2 @qvc @hnp
def xpr (l:List OpS) (ex:List D) (i:{i:Nat//i<=l.length}):St:=
 ⟨[(0,true,.d (.ref 0 0 3 l.length)),(4,true,.own 0 1 (qd (wInt l.length++(l.take i.val).flatMap wOp))),(17,true,.d (.ref 0 0 3 l.length)),(18,true,.d (.int .i64 l.length)),(19,true,.d (.int .i64 (i.val:Nat)))],[.row ((kz l++ex).map .d)],[0],1⟩
theorem qs3 (l:List OpS) (ex:List D) (u:D.noPtrL ex=true) (hl:l.length<=100000):
  qf prog 85 [.d (.ref 0 0 3 l.length)] [.row ((kz l++ex).map .d)] (.tup [.d (.sl 1 (qd (qs l).1)),.d (.int .i64 (qs l).2)]) [.row ((kz l++ex).map .d)]:=by
 have hlf:=qez l;have hnp:D.noPtrL (kz l++ex)=true:=by rw[qag,qbe,u];rfl
 have hc:=qzh qox qvd l ex u (by unfold maxLen;omega);refine F85.goT ?_;by_cases A:l.length=0
 ·have hd:(((l.length:Nat):Int)==0)=true:=by rw[A];rfl
  have hb:qs l=([],1):=by
   unfold qs;rw[if_pos];simp[A]
  refine eo1 @hd ?_;refine xgl ?_;refine eo ?_;refine ya ?_;exact et3 @hb @qk @hnp
 have hd:(((l.length:Nat):Int)==0)=false:=by rw[beq_eq_false_iff_ne];omega
 refine ez1 @hd ?_;refine clO [0] F152 hc ?_ (hik:=by exact et2 @hnp @D.inKL_noPtr) (hold:=by exact et1 @hnp) (htk:=by exact et1 @hnp);refine eo ?_;refine xf _ (λh=> ?_) (λh=> ?_)
 ·have hb:qs l=([],1):=by
   unfold qs;rw[if_pos];rw[h];simp
  exact et3 @hb @qk @hnp
 have m: ¬(decide (l.length=0)||l.any (λo=> !k9 o))=true:=by
  rw[h];simp[A]
 have t: ∀o∈l,k9 o=true:=by
  simp only[jA0,not_or,jB3,not_exists,not_and]at m;intro o v;simpa using m.2 o v
 have hwl:=qjl t;have hil0:=xg (x7 (n:=l.length) (by omega));refine ez ?_;refine clA F147 (k8 [] l.length (by simp) (x7 (by omega))) ?_;refine ez ?_;refine qg (xpr l ex) (λi=>l.length-i.val) ⟨0,jAj _⟩ ?_ (λi=> ?_)
 ·exact et3 @xpr.eq_1 @List.take_zero.{0} @hnp
 obtain⟨i,hi⟩:=i;refine eo1 @xpr.eq_1 ?_;refine xf _ (λh=> ?_) (λh=> ?_)
 ·have p:i<l.length:=by simpa using h
  have v:=t l[i] (jAg p);obtain⟨p1,p2,p3,_⟩:=vr.1 v;have q:(wInt l.length++(l.take i).flatMap wOp).length<=100000020:=by
   have:=qjl (l:=l.take i) (λo h=>t o (jBe h));simp only[jAc,jAl]at this⊢;have:min i l.length<=100000:=by omega
   omega
  have k1:=qds l[i].key (by omega);refine ez4 (q34 l ex p) @jAm.{0,0} @hlf @xp.eq_1 ?_;refine⟨by omega,⟨by omega,by omega⟩,?_⟩;refine clA F157 (qks (wInt l.length++(l.take i).flatMap wOp) l[i].key (by omega)) ?_;refine ez ?_;refine clA F156 (qry ((wInt l.length++(l.take i).flatMap wOp)++qbm l[i].key) l[i].del (by simp only[jAc]at q⊢;omega)) ?_;refine ez ?_;refine clA F155 (qow ((wInt l.length++(l.take i).flatMap wOp)++qbm l[i].key++ [if l[i].del then 1 else 0]) l[i].val (by simp only[jAc,List.length_cons,List.length_nil]at q⊢;omega)) ?_;refine ez ?_;have e:wInt l.length++(l.take i).flatMap wOp++qbm l[i].key++ [if l[i].del then 1 else 0]++qbm l[i].val=wInt l.length++(l.take (i+1)).flatMap wOp:=by
   rw[qcu wOp l p,wOp];simp only[jAh]
  refine⟨⟨i+1,p⟩,?_,by dsimp only;omega⟩;exact et4 @xpr.eq_1 @e @hnp (qe (show i<9223372036854775807 by omega))
 ·have z:i=l.length:=by simp at h;omega
  subst z;refine ez1 @jAr.{0} ?_;have hw:wInt l.length++l.flatMap wOp=wOps l:=rfl;have hw2:(wOps l).length=(wInt l.length).length+(l.flatMap wOp).length:=by rw[wOps,jAc]
  refine eo1 @hw ?_;refine xf _ (λh=> ?_) (λh=> ?_)
  ·have hb:qs l=([],6):=by
    unfold qs;rw[if_neg m,if_pos];simp only[jA0,decide_eq_true_eq]at h⊢;omega
   exact et3 @hb @qk @hnp
  ·have hb:qs l=(wOps l,0):=by
    unfold qs;rw[if_neg m,if_neg];simp only[jA0,jA4,decide_eq_true_eq,decide_eq_false_iff_not]at h⊢;omega
   exact et2 @hb @hnp
def d63r:=cut prog f63 news [30,1000030,41,1000041] [8,14,16]
@[go_sem] def E63r:=qj d63r
def F63r:=fnC d63r follows func63
def d129:=cut prog f129 news
@[go_sem] def E129:=qj d129
def F129:=fnC d129 follows func129
def qd0 (d:List UInt8) (ops:List OpS):List UInt8:=if(qs ops).2=0 then wn d (qs ops).1 else d
def cOp (e:En):OpS:=⟨e.1,false,e.2⟩
def qk8 (x:List UInt8×List OpS) (e:En):List UInt8×List OpS:=if(qs (x.2++ [cOp e])).2≠0 then(qd0 x.1 x.2,[cOp e])else(x.1,x.2++ [cOp e])
def cAt (l:List En) (i:Nat):List UInt8×List OpS:=(l.take i).foldl qk8 ([],[])
def qzi (l:List En):List UInt8:=qd0 (l.foldl qk8 ([],[])).1 (l.foldl qk8 ([],[])).2
def qj2 (s:Sto):Sto:=⟨qzi (qau s.m []),(qzi (qau s.m [])).length,s.m⟩
theorem qzj (l:List En) {i:Nat} (h:i<l.length):cAt l (i+1)=qk8 (cAt l i) l[i]:=by
 unfold cAt;rw[jAk h,jCm];rfl
theorem qzk (e:List UInt8) (ops:List OpS) (ex:List D) (i:D.noPtrL ex=true) (ho:ops.length<=100000) (hf:e.length<=100000000):
  qf prog 129 [.d (.ptr 0 0),.d (.ptr 1 0)] [.row [.d (.ref 2 0 3 ops.length)],.row [.d (.sl 1 (qd e)),.d (.int .i64 0)],.row ((kz ops++ex).map .d)] (.tup [])
   [.row [.d .nilsl],.row [.d (.sl 1 (qd (qd0 e ops))),.d (.int .i64 0)],.row ((kz ops++ex).map .d)]:=by
 have hnp:D.noPtrL (kz ops++ex)=true:=by rw[qag,qbe,i];rfl
 have hE:=qs3 ops ex i ho;refine F129.goT ?_;refine ez ?_;refine clO [2] F85 hE ?_ (hik:=by exact et2 @hnp @D.inKL_noPtr) (hold:=by exact et1 @hnp) (htk:=by exact et1 @hnp);refine ez1 @hnp ?_;refine xf _ (λh=> ?_) (λh=> ?_)
 ·have l:(qs ops).2=0:=by simpa using h
  have hc:qd0 e ops=wn e (qs ops).1:=by rw[qd0,if_pos l]
  refine eo ?_;refine cl F88 (q2h e (qs ops).1 0 hf (qb7 ops)) ?_;exact et3 @vo.eq_1 @hc @hnp
 ·have l: ¬(qs ops).2=0:=by simpa using h
  have hc:qd0 e ops=e:=by rw[qd0,if_neg l]
  exact et2 @hc @hnp
theorem x05 {os:List AObj} {id:Nat} {ops:List OpS} {ex:List D} {o:OpS} {rd:Option Nat} {ok:Prop} (h:ql os id=((kz ops++ex).map .d)):qae os id 3 ops.length ⟨[xp o],rd,ok⟩=(kz (ops++ [o])).map .d:=by
 have hl:=qez ops;have h1:kz (ops++ [o])=kz ops++xp o:=by simp[kz]
 unfold qae;rw[h,<- jDr,jBq (by omega),jAq (by omega),h1,jA2];simp
theorem xdz {os:List AObj} {id:Nat} {ops:List OpS} {ex:List D} {e:En} {rd:Option Nat} {ok:Prop} (h:ql os id=((kz ops++ex).map .d)):qae os id 3 ops.length ⟨[[.str e.1,.bool false,.sl 1 (qd e.2)]],rd,ok⟩=(kz (ops++ [cOp e])).map .d:=x05 (o:=cOp e) h
structure CIs (i:Nat) (x:List UInt8×List OpS):Prop where
 file:x.1.length<=i*70000
 ops:x.2= []∨(qs x.2).2=0
theorem x0d {e:En} (h:kvOk (0,e.1,e.2)):(qs [cOp e]).2=0:=by
 obtain⟨l,i,d⟩:=h;simp only at l i d;have hp:k9 (cOp e)=true:=vr.2 ⟨l,i,d,λh=>by cases h⟩;have hw:=q6x hp;have hi:=xg (x7 (n:=1) (by omega));have hl:(wOps [cOp e]).length<=2000:=by
  simp only[wOps,List.flatMap_cons,List.flatMap_nil,jAu,jAc,jBo];omega
 unfold qs;have q1: ¬(decide ([cOp e].length=0)|| [cOp e].any (λo=> !k9 o))=true:=by
  rw[List.any_cons,hp];exact jEc
 rw[if_neg q1,if_neg (by simp only[jBo,jA0,decide_eq_true_eq];omega)]
theorem qn2 (d:List UInt8) (ops:List OpS):(qd0 d ops).length<=d.length+70000:=by
 unfold qd0;split
 ·exact qsa _ _ (qb7 ops)
 ·omega
theorem xps {i:Nat} {x:List UInt8×List OpS} {e:En} (h:CIs i x) (he:kvOk (0,e.1,e.2)):CIs (i+1) (qk8 x e):=by
 have hf:=h.file;unfold qk8;split
 ·have:=qn2 x.1 x.2;exact⟨by show(qd0 x.1 x.2).length<=_;rw[jCp];omega,.inr (x0d he)⟩
 ·rename_i hn;refine⟨?_,.inr (by simpa only[ne_eq,Classical.not_not]using hn)⟩;have h2:i*70000<=(i+1)*70000:=jAz _ (jFl i);exact jBn hf h2
theorem CIs.few {i:Nat} {x:List UInt8×List OpS} (h:CIs i x):x.2.length<=20:=by
 rcases h.ops with h|h
 ·rw[h];simp
 ·exact(wq h).1
theorem xi9 (l:List En) (d: ∀e∈l,kvOk (0,e.1,e.2)): ∀i,i<=l.length->CIs i (cAt l i)
 |0,_=>⟨by simp[cAt],.inl (by simp[cAt])⟩
 |i+1,h=>by
  rw[qzj l h];exact xps (xi9 l d i (by omega)) (d _ (jAg h))
def Scom (s:Sto) (l:List En) (i:Nat) (x:List UInt8×List OpS):St:=
 ⟨[(0,true,.d (.ptr 0 0)),(3,true,.d (.ptr 2 0)),(4,true,.d (.ptr 3 0)),(5,true,.d (.func (.func 129) [] [.ptr 3 0,.ptr 2 0])),(15,true,.d (.sl 2 (l.map x9))),(16,true,.d (.int .i64 l.length)),(17,true,.d (.int .i64 (i:Nat)))],
  [stoO s 1,mapO s.m,.row [.d (.sl 1 (qd x.1)),.d (.int .i64 0)],.row [.uni 0 3 (x.2.map xp)]],[0],1⟩
theorem xd0 (s:Sto) (hs:s.m.Good):
  qf prog 63 [.d (.ptr 0 0)] [stoO s 1,mapO s.m] (.d (.int .i64 0)) [stoO (qj2 s) 1,mapO s.m]:=by
 have B:=xho s [] hs.ok (by have:=hs.few;omega) (λx u=>by have:=(hs.small x u).2.2;omega);have I:(qau s.m []).length<=400:=jBn (qsb s.m []) hs.few;have E: ∀e∈qau s.m [],kvOk (0,e.1,e.2):=by
  intro e M;rw[qau,(vd _).mem_iff,preL,jAo]at M;obtain⟨y,hy,rfl⟩:=M;exact hs.small y (jBs.1 hy).1
 have hfin:qzi (qau s.m [])=qd0 (cAt (qau s.m []) (qau s.m []).length).1 (cAt (qau s.m []) (qau s.m []).length).2:=by rw[qzi,cAt,jAr]
 unfold qj2;simp only[stoO,mapO]at B;generalize qau s.m []=l at B I E hfin;refine F63r.go ?_;refine eo2 @stoO.eq_1 @mapO.eq_1 ?_;refine no_ ?_;refine ez ?_;refine clO [0,1] F92u B ?_;refine ez ?_;refine qg (λi:{i:Nat//i<=l.length}=>Scom s l i.val (cAt l i.val)) (λi=>l.length-i.val) ⟨0,jAj _⟩ ?_ (λi=> ?_)
 ·have h0:cAt l 0=([],[]):=rfl;exact et7 @Scom.eq_1 @stoO.eq_1 @mapO.eq_1 @h0 @List.map_nil.{0,0} @qk @jAt
 obtain⟨i,hi⟩:=i;have o:=xi9 l E i hi;have v:=o.few;have hcl:=o.file;refine ez3 @Scom.eq_1 @stoO.eq_1 @mapO.eq_1 ?_;refine xf _ (λhc=> ?_) (λhc=> ?_)
 ·have m:i<l.length:=by simpa using hc
  have hnx:=qzj l m;generalize cAt l i=x at o v hcl hnx;obtain⟨h,ops⟩:=x;simp only at o v hcl;refine ez ?_;refine qou (.cell 3 0) 0 3 (ops.map xp) ?_;refine pu ?_;have C:kz (ops++ [cOp l[i]])=kz ops++xp (cOp l[i]):=by simp[kz]
  have O:=F129;have hnp1:=qbe ops;have hnp2:=qbe (ops++ [cOp l[i]]);have G:=qs3 (ops++ [cOp l[i]]) [] rfl (by simp only[jAc,jBo];omega);have F:=qzk h ops (xp (cOp l[i])) (qkt _) (by omega) (by omega);have q:=qzk h ops [] rfl (by omega) (by omega);rw[jAu]at G q;rw[<- C]at F;simp only[jAc,jBo]at G;have hfd:(ops.map xp).flatten=kz ops:=rfl;refine ez3 (qh x9 l m) @x9.eq_1 @hfd ?_;refine⟨by omega,?_⟩;refine qrw 4 ops.length rfl ?_ ?_ ?_ ?_ ?_
  ·rw[xdz (e:=l[i]) (ex:= []) (by rw[jAu];rfl)];refine ez2 @hnp2 @hnp1 ?_;refine clO [4] F85 G ?_ (hik:=by exact et2 @hnp2 @D.inKL_noPtr) (hold:=by exact et1 @hnp2) (htk:=by exact et1 @hnp2);refine ez2 @hnp2 @hnp1 ?_;refine xf _ (λu=> ?_) (λu=> ?_)
   ·skip
    have A:qk8 (h,ops) l[i]=(qd0 h ops,[cOp l[i]]):=by rw[qk8,if_pos (by simpa using u)]
    rw[A]at hnx;refine ez ?_;refine clO [3,2,4] O F ?_ (hik:=by exact et3 @hnp2 @hnp1 @D.inKL_noPtr) (hold:=by exact et2 @hnp2 @hnp1) (htk:=by exact et2 @hnp2 @hnp1);refine ez2 @hnp2 @hnp1 ?_;refine qvb rfl ?_ ⟨by show 1*48<=140737488355328;decide,by show 1<=9223372036854775807;decide⟩;refine ez2 @hnp2 @hnp1 ?_;refine qrv (.cell 3 0) 8 3 ([cOp l[i]].map xp) ?_ (hc:=rfl) (hes:= ?_) (hcl:= ?_) (hok:=D.okWR_noPtr (qct _)) (hn:=by simp[Pos.notIn])
    ·refine pu ?_;refine ez2 @hnp2 @hnp1 ?_;refine⟨⟨i+1,m⟩,?_,by dsimp only;omega⟩;exact et7 @Scom.eq_1 @stoO.eq_1 @mapO.eq_1 @hnx @hnp1 @hnp2 (qe (show i<9223372036854775807 by omega))
    ·intro r p;obtain⟨x,_,rfl⟩:=jAo.1 p;rfl
    ·exact λd t=>jAx.1 (qdg _) d t
   ·skip
    have z:qk8 (h,ops) l[i]=(h,ops++ [cOp l[i]]):=by rw[qk8,if_neg (by simpa using u)]
    rw[z]at hnx;refine ez ?_;refine qrw 4 ops.length rfl ?_ ?_ ?_ ?_ ?_
    ·rw[xdz (e:=l[i]) (ex:=xp (cOp l[i])) (by rw[<- C];rfl)];refine ez2 @hnp2 @hnp1 ?_;refine qrv (.cell 3 0) 4 3 ((ops++ [cOp l[i]]).map xp) ?_ (hc:=rfl) (hes:= ?_) (hcl:= ?_) (hok:=D.okWR_noPtr (qct _)) (hp:=by simp only[jAm,jAc,jBo];rfl) (hn:=by simp[Pos.notIn])
     ·refine pu ?_;refine ez2 @hnp2 @hnp1 ?_;refine⟨⟨i+1,m⟩,?_,by dsimp only;omega⟩;exact et7 @Scom.eq_1 @stoO.eq_1 @mapO.eq_1 @hnx @hnp1 @hnp2 (qe (show i<9223372036854775807 by omega))
     ·intro r p;obtain⟨x,_,rfl⟩:=jAo.1 p;rfl
     ·exact λd t=>jAx.1 (qdg _) d t
    ·rw[xdz (e:=l[i]) (ex:=xp (cOp l[i])) (by rw[<- C];rfl)];refine ez2 @hnp2 @hnp1 ?_;refine qrv (.cell 3 0) 8 3 ((ops++ [cOp l[i]]).map xp) ?_ (hc:=rfl) (hes:= ?_) (hcl:= ?_) (hok:=D.okWR_noPtr (qct _)) (hp:=by simp only[jAm,jAc,jBo];rfl) (hn:=by simp[Pos.notIn])
     ·refine pu ?_;refine ez2 @hnp2 @hnp1 ?_;refine⟨⟨i+1,m⟩,?_,by dsimp only;omega⟩;exact et7 @Scom.eq_1 @stoO.eq_1 @mapO.eq_1 @hnx @hnp1 @hnp2 (qe (show i<9223372036854775807 by omega))
     ·intro r p;obtain⟨x,_,rfl⟩:=jAo.1 p;rfl
     ·exact λd t=>jAx.1 (qdg _) d t
    ·show ops.length*3<=((kz (ops++ [cOp l[i]])).map ASlot.d).length;rw[jAm,qez,jAc];omega
    ·show(ops.length+1)*48<=_;omega
    ·show ops.length+1<=_;omega
  ·rw[xdz (e:=l[i]) (ex:= []) (by rw[jAu];rfl)];refine ez2 @hnp2 @hnp1 ?_;refine clO [7] F85 G ?_ (hik:=by exact et2 @hnp2 @D.inKL_noPtr) (hold:=by exact et1 @hnp2) (htk:=by exact et1 @hnp2);refine ez2 @hnp2 @hnp1 ?_;refine xf _ (λu=> ?_) (λu=> ?_)
   ·skip
    have A:qk8 (h,ops) l[i]=(qd0 h ops,[cOp l[i]]):=by rw[qk8,if_pos (by simpa using u)]
    rw[A]at hnx;refine ez ?_;refine clO [3,2,4] O q ?_ (hik:=by exact et3 @hnp2 @hnp1 @D.inKL_noPtr) (hold:=by exact et2 @hnp2 @hnp1) (htk:=by exact et2 @hnp2 @hnp1);refine ez2 @hnp2 @hnp1 ?_;refine qvb rfl ?_ ⟨by show 1*48<=140737488355328;decide,by show 1<=9223372036854775807;decide⟩;refine ez2 @hnp2 @hnp1 ?_;refine qrv (.cell 3 0) 8 3 ([cOp l[i]].map xp) ?_ (hc:=rfl) (hes:= ?_) (hcl:= ?_) (hok:=D.okWR_noPtr (qct _)) (hn:=by simp[Pos.notIn])
    ·refine pu ?_;refine ez2 @hnp2 @hnp1 ?_;refine⟨⟨i+1,m⟩,?_,by dsimp only;omega⟩;exact et7 @Scom.eq_1 @stoO.eq_1 @mapO.eq_1 @hnx @hnp1 @hnp2 (qe (show i<9223372036854775807 by omega))
    ·intro r p;obtain⟨x,_,rfl⟩:=jAo.1 p;rfl
    ·exact λd t=>jAx.1 (qdg _) d t
   ·skip
    have z:qk8 (h,ops) l[i]=(h,ops++ [cOp l[i]]):=by rw[qk8,if_neg (by simpa using u)]
    rw[z]at hnx;refine ez ?_;refine qrw 4 ops.length rfl ?_ ?_ ?_ ?_ ?_
    ·rw[xdz (e:=l[i]) (ex:= []) (by rw[jAu];rfl)];refine ez2 @hnp2 @hnp1 ?_;refine qrv (.cell 3 0) 4 3 ((ops++ [cOp l[i]]).map xp) ?_ (hc:=rfl) (hes:= ?_) (hcl:= ?_) (hok:=D.okWR_noPtr (qct _)) (hp:=by simp only[jAm,jAc,jBo];rfl) (hn:=by simp[Pos.notIn])
     ·refine pu ?_;refine ez2 @hnp2 @hnp1 ?_;refine⟨⟨i+1,m⟩,?_,by dsimp only;omega⟩;exact et7 @Scom.eq_1 @stoO.eq_1 @mapO.eq_1 @hnx @hnp1 @hnp2 (qe (show i<9223372036854775807 by omega))
     ·intro r p;obtain⟨x,_,rfl⟩:=jAo.1 p;rfl
     ·exact λd t=>jAx.1 (qdg _) d t
    ·rw[xdz (e:=l[i]) (ex:= []) (by rw[jAu];rfl)];refine ez2 @hnp2 @hnp1 ?_;refine qrv (.cell 3 0) 8 3 ((ops++ [cOp l[i]]).map xp) ?_ (hc:=rfl) (hes:= ?_) (hcl:= ?_) (hok:=D.okWR_noPtr (qct _)) (hp:=by simp only[jAm,jAc,jBo];rfl) (hn:=by simp[Pos.notIn])
     ·refine pu ?_;refine ez2 @hnp2 @hnp1 ?_;refine⟨⟨i+1,m⟩,?_,by dsimp only;omega⟩;exact et7 @Scom.eq_1 @stoO.eq_1 @mapO.eq_1 @hnx @hnp1 @hnp2 (qe (show i<9223372036854775807 by omega))
     ·intro r p;obtain⟨x,_,rfl⟩:=jAo.1 p;rfl
     ·exact λd t=>jAx.1 (qdg _) d t
    ·show ops.length*3<=((kz ops).map ASlot.d).length;rw[jAm,qez];omega
    ·show(ops.length+1)*48<=_;omega
    ·show ops.length+1<=_;omega
  ·show ops.length*3<=((kz ops).map ASlot.d).length;rw[jAm,qez];omega
  ·show(ops.length+1)*48<=_;omega
  ·show ops.length+1<=_;omega
 ·have J:i=l.length:=by
   have:l.length<=i:=by simpa using hc
   omega
  subst J;generalize cAt l l.length=x at o v hcl hfin;obtain⟨h,ops⟩:=x;simp only at o v hcl hfin;have hnp1:=qbe ops;have hfd:(ops.map xp).flatten=kz ops:=rfl;have q:=qzk h ops [] rfl (by omega) (by omega);rw[jAu]at q;have hcf2:=qn2 h ops;refine ez ?_;refine qou (.cell 3 0) 0 3 (ops.map xp) ?_;refine pu ?_;refine ez2 @hfd @hnp1 ?_;refine clO [3,2,4] F129 q ?_ (hik:=by exact et2 @hnp1 @D.inKL_noPtr) (hold:=by exact et1 @hnp1) (htk:=by exact et1 @hnp1);refine eo1 @hnp1 ?_;refine cl F128 (qvh (qd0 h ops) 0 (by omega)) ?_;exact et3 @vo.eq_1 @hfin @hnp1
theorem q35 (x:En): ∀(a:List En),(∀y∈a,cmpB y.1 x.1<0) ->eSet x a=a++ [x]
 | [],_=>rfl
 |y::a,h=>by
  have hy:=h y jA7;rw[eSet,qhl,if_pos (by simpa using hy),q35 x a (λz hz=>h z (jA9 _ hz))];rfl
theorem qo7: ∀(b a:List En),Sorted (a++b) ->(a++b).length<=400->yj a (b.map cOp)=(a++b,true)
 | [],a,_,_=>by rw[List.map_nil,yj,jAu]
 |e::b,a,hs,hl=>by
  have h:eSet e a=a++ [e]:=q35 e a λy hy=>(jFd.1 hs).2.2 y hy e jA7;have ho:eOp a (cOp e)=a++ [e]:=by rw[eOp,if_neg (by simp[cOp])];exact h
  have d:a++e::b=(a++ [e])++b:=by simp
  rw[List.map_cons,yj,ho,if_neg (by simp only[jAc,List.length_cons,List.length_nil]at hl⊢;omega),d];rw[d]at hs hl;exact qo7 b (a++ [e]) hs hl
structure CTx (x:List UInt8×List OpS) (ts:List (List OpS)) (ops:List OpS):Prop where
 file:x.1=qdz ts
 enc: ∀t∈ts,(qs t).2=0
 now:x.2= []∨(qs x.2).2=0
 all:ts.flatten++x.2=ops
theorem xak {x:List UInt8×List OpS} {ts:List (List OpS)} {ops:List OpS} (h:CTx x ts ops): ∃d,qd0 x.1 x.2=qdz d∧(∀t∈d,(qs t).2=0)∧d.flatten=ops:=by
 unfold qd0;by_cases i:(qs x.2).2=0
 ·rw[if_pos i,(wq i).2.2];refine⟨ts++ [x.2],by rw[qk7,h.file],λt e=> ?_,by rw[<- h.all];simp⟩;rcases jAs.1 e with e|e
  ·exact h.enc t e
  ·simp at e;subst e;exact i
 ·rw[if_neg i];have hn:x.2= []:=h.now.resolve_right i;refine⟨ts,h.file,h.enc,?_⟩;have:=h.all;rw[hn,jAu]at this;exact this
theorem xsd (l:List En) (p: ∀e∈l,kvOk (0,e.1,e.2)): ∀i,i<=l.length-> ∃ts,CTx (cAt l i) ts ((l.take i).map cOp)
 |0,_=>⟨[],⟨rfl,by simp,.inl rfl,rfl⟩⟩
 |i+1,h=>by
  obtain⟨ts,d⟩:=xsd l p i (by omega);have hk:=x0d (p _ (jAg (show i<l.length from h)));rw[qzj l h];have m:(l.take (i+1)).map cOp=(l.take i).map cOp++ [cOp l[i]]:=by rw[jAk h,jA2];rfl
  unfold qk8;split
  ·obtain⟨o,q1,q2,q3⟩:=xak d;exact⟨o,⟨q1,q2,.inr hk,by rw[m,q3]⟩⟩
  ·rename_i hn;exact⟨ts,⟨d.file,d.enc,.inr (by simpa only[ne_eq,Classical.not_not]using hn),by rw[m,<- d.all,jAh]⟩⟩
theorem xja {m:Cont} (hm:m.Good): ∀e∈xu m,kvOk (0,e.1,e.2):=by
 intro e d;rw[xu,qau,(vd _).mem_iff,preL,jAo]at d;obtain⟨y,hy,rfl⟩:=d;exact hm.small y (jBs.1 hy).1
theorem xd1 {s:Sto} (hs:s.m.Good): ∃ts,Bk (qj2 s) ts∧ts.flatten=(xu s.m).map cOp:=by
 obtain⟨ts0,h⟩:=xsd (xu s.m) (xja hs) (xu s.m).length (jAi _);rw[jAr]at h;obtain⟨ts,q1,q2,e⟩:=xak h;have hf:qzi (xu s.m)=qdz ts:=by
  rw[qzi,<- q1,cAt,jAr]
 have d:=qo7 (xu s.m) [] (qbn hs.ok) (by rw[List.nil_append,qf4];exact hs.few);rw[List.nil_append,<- e]at d;exact⟨ts,⟨hf,q2,q31 ts [] _ d⟩,e⟩
def hAll (f:List UInt8):Nat->Nat
 |0=>xdo
 |k+1=>fnv (hAll f k) (qz f (32*k))
theorem q75 (f:List UInt8): ∀k,hAll f k<18446744073709551616
 |0=>by show xdo<_;decide
 |k+1=>qgo (q75 f k) _
def Chain (f:List UInt8) (h:Nat):Prop:= ∃n,f.length=32*n∧hAll f n=h
theorem Chain.lt {f:List UInt8} {h:Nat} (hc:Chain f h):h<18446744073709551616:=by
 obtain⟨n,_,h2⟩:=hc;rw[<- h2];exact q75 f n
def d168:=cut prog f168 news
@[go_sem] def E168:=qj d168
def d170:=cut prog f170 news
@[go_sem] def E170:=qj d170
def d169:=cut prog f169 news
@[go_sem] def E169:=qj d169
def d91:=cut prog f91 news
@[go_sem] def E91:=qj d91
def d167:=cut prog f167 news
@[go_sem] def E167:=qj d167
def F167:=fnC d167 follows func167
def d166:=cut prog f166 news
@[go_sem] def E166:=qj d166
def F166:=fnC d166 follows func166
def d90:=cut prog f90 news
@[go_sem] def E90:=qj d90
def F90:=fnC d90 follows func90
theorem xap (x:En): ∀l:List En,(eSet x l).length<=l.length+1
 | []=>by simp[eSet]
 |y::l=>by
  have:=xap x l;rw[eSet];split
  ·simp only[List.length_cons];omega
  ·split<;>simp
theorem xaq (k:List UInt8) (l:List En):(eDel k l).length<=l.length:=jD0 _ _
theorem q77 (x:En): ∀(l:List En) (i:Nat) (hi:i<=l.length),(∀y∈l.take i,Op.bytesLess y.1 x.1=true) ->(∀h:i<l.length,Op.bytesLess l[i].1 x.1=false) ->
  eSet x l=l.take i++ [x]++l.drop (if∃h:i<l.length,l[i].1=x.1 then i+1 else i)
 | [],i,hi,_,_=>by
  have:i=0:=by simpa using hi
  subst this;simp[eSet]
 |y::l,0,_,_,h2=>by
  have:=h2 (by simp);simp only[List.getElem_cons_zero]at this;rw[eSet,this];by_cases he:y.1=x.1<;>simp[he]
 |y::l,i+1,hi,h1,h2=>by
  have hy:=h1 y (by simp);have ih:=q77 x l i (by simpa using hi) (λz hz=>h1 z (by simp[hz])) (λh=>by have:=h2 (by simpa using h);simpa only[List.getElem_cons_succ]using this);rw[eSet,if_pos hy,ih];simp only[jDp,List.cons_append,List.length_cons,Nat.add_lt_add_iff_right,List.getElem_cons_succ];split<;>simp
def xje (l:List En) (x:En) (i:{i:Nat//i<=l.length∧ ∀y∈l.take i,Op.bytesLess y.1 x.1=true}):St:=
 ⟨[(0,true,.d (.sl 2 (l.map x9))),(3,true,.d (.ptr 0 0)),(5,true,.own 0 2 ((l.take i.val).map x9)),(6,true,.d (.int .i64 (i.val:Nat)))],[.row [.d (.str x.1),.d (.sl 1 (qd x.2))]],[0],1⟩
theorem xuq (l:List En) (x:En) (hl:l.length<=100000):qf prog 167 [.d (.sl 2 (l.map x9)),.d (.agg (x9 x))] [] (.d (.sl 2 ((eSet x l).map x9))) []:=by
 refine F167.go ?_;refine ez1 @x9.eq_1 ?_;refine qg (xje l x) (λi=>l.length-i.val) ⟨0,jAj _,by simp⟩ ?_ (λi=> ?_)
 ·exact et4 @xje.eq_1 @List.take_zero.{0} @List.map_nil.{0,0} @jAt
 obtain⟨i,hi,t⟩:=i;have w1:IntKind.i64.wrap ((i:Int)+1)=((i+1:Nat):Int):=qe (show i<9223372036854775807 by omega);have tl:(l.take i).length<=i:=by rw[jAl];omega
 by_cases e:i<l.length
 ·have hd:decide ((i:Int)<(l.length:Int))=true:=by simpa using e
  refine eo4 @xje.eq_1 @hd (qh x9 l e) @x9.eq_1 ?_;refine xf _ (λq=> ?_) (λq=> ?_)
  ·refine eo2 (qh x9 l e) @x9.eq_1 ?_;refine⟨⟨i+1,e,λy m=> ?_⟩,?_,by dsimp only;omega⟩
   ·rw[jAk e]at m;rcases jAs.1 m with m|m
    ·exact t y m
    ·simp only[jB2]at m;subst m;exact q
   exact et4 @xje.eq_1 (qmd x9 l e) @x9.eq_1 @w1
  ·have o:=q77 x l i hi t (λ_=>q);by_cases p:l[i].1=x.1
   ·have he2:(l[i].1==x.1)=true:=by simpa using p
    rw[if_pos ⟨e,p⟩]at o;have hm:(eSet x l).map x9=(l.take i).map x9++ [[D.str x.1,D.sl 1 (qd x.2)]]++(l.map x9).drop (i+1):=by rw[o];simp[jEm,x9]
    have ht:((l.map x9).drop (i+1)).take (l.length-(i+1))=(l.map x9).drop (i+1):=jAq (by simp);have e1:((i:Int)+1).toNat=i+1:=by omega
    refine ez4 @hd (qh x9 l e) @x9.eq_1 @he2 ?_;refine⟨by omega,by omega,?_⟩
    (repeat(with_reducible refine ob ?_));refine ya ?_
    refine ez4 @w1 @e1 @ht @hm ?_;refine⟨by omega,by simp only[jAp,jAm];omega,?_⟩;rw[<- hm];exact D.okWR_noPtr (qfd _)
   ·have he2:(l[i].1==x.1)=false:=by simpa using p
    rw[if_neg (λ⟨_,h⟩=>p h)]at o;have hm:(eSet x l).map x9=(l.take i).map x9++ [[D.str x.1,D.sl 1 (qd x.2)]]++(l.map x9).drop i:=by rw[o];simp[jEm,x9]
    have ht:((l.map x9).drop i).take (l.length-i)=(l.map x9).drop i:=jAq (by simp);refine ez4 @hd (qh x9 l e) @x9.eq_1 @he2 ?_;refine⟨by omega,by omega,?_⟩
    (repeat(with_reducible refine ob ?_));refine no_ ?_
    refine ez3 @jA6 @ht @hm ?_;refine⟨by omega,by simp only[jAp,jAm];omega,?_⟩;rw[<- hm];exact D.okWR_noPtr (qfd _)
 ·have hd:decide ((i:Int)<(l.length:Int))=false:=by simpa using e
  have o:=q77 x l i hi t (λh=>(e h).elim);rw[if_neg (λ⟨h,_⟩=>e h)]at o;have hm:(eSet x l).map x9=(l.take i).map x9++ [[D.str x.1,D.sl 1 (qd x.2)]]++(l.map x9).drop i:=by rw[o];simp[jEm,x9]
  have ht:((l.map x9).drop i).take (l.length-i)=(l.map x9).drop i:=jAq (by simp);have hg:(l.map x9).getD i []= []:=by rw[jA1,jCg (by rw[jAm];omega)];rfl
  refine eo4 @xje.eq_1 @hd @hg @Out.bad.eq_1 ?_;refine eo3 @hd @hg @Out.bad.eq_1 ?_;refine no_ ?_;refine ez3 @hd @hg @Out.bad.eq_1 ?_;refine⟨by omega,?_⟩
  (repeat(with_reducible refine ob ?_));refine no_ ?_
  refine ez3 @jA6 @ht @hm ?_;refine⟨by omega,by simp only[jAp,jAm];omega,?_⟩;rw[<- hm];exact D.okWR_noPtr (qfd _)
def xjf (l:List En) (k:List UInt8) (i:{i:Nat//i<=l.length}):St:=
 ⟨[(0,true,.d (.sl 2 (l.map x9))),(1,true,.d (.str k)),(5,true,.own 0 2 ((eDel k (l.take i.val)).map x9)),(6,true,.d (.int .i64 (i.val:Nat)))],[],[0],1⟩
theorem q38 (k:List UInt8) (l:List En) {i:Nat} (h:i<l.length):eDel k (l.take (i+1))=if l[i].1=k then eDel k (l.take i)else eDel k (l.take i)++ [l[i]]:=by
 rw[jAk h,eDel,List.filter_append];split
 ·rename_i d;simp[eDel,d]
 ·rename_i d;simp[eDel,d]
theorem xd5 (l:List En) (k:List UInt8) (hl:l.length<=100000):qf prog 166 [.d (.sl 2 (l.map x9)),.d (.str k)] [] (.d (.sl 2 ((eDel k l).map x9))) []:=by
 refine F166.go ?_;refine ez ?_;refine qg (xjf l k) (λi=>l.length-i.val) ⟨0,jAj _⟩ ?_ (λi=> ?_)
 ·exact et6 @xjf.eq_1 @List.take_zero.{0} @eDel.eq_1 @List.filter_nil.{0} @List.map_nil.{0,0} @jAt
 obtain⟨i,hi⟩:=i;have o:=xaq k (l.take i);rw[jAl]at o;refine eo1 @xjf.eq_1 ?_;refine xf _ (λh=> ?_) (λh=> ?_)
 ·have e:i<l.length:=by simpa using h
  refine eo2 (qh x9 l e) @x9.eq_1 ?_;refine xf _ (λm=> ?_) (λm=> ?_)
  ·have hx:eDel k (l.take (i+1))=eDel k (l.take i)++ [l[i]]:=by rw[q38 k l e,if_neg (by simpa using m)]
   refine eo2 (qh x9 l e) @x9.eq_1 ?_;refine⟨⟨i+1,e⟩,?_,by dsimp only;omega⟩;exact et7 @xjf.eq_1 @hx @jA2.{0,0} @List.map_cons.{0,0} @List.map_nil.{0,0} @x9.eq_1 (qe (show i<9223372036854775807 by omega))
  ·have hx:eDel k (l.take (i+1))=eDel k (l.take i):=by rw[q38 k l e,if_pos (by simpa using m)]
   refine ez ?_;refine⟨⟨i+1,e⟩,?_,by dsimp only;omega⟩;exact et3 @xjf.eq_1 @hx (qe (show i<9223372036854775807 by omega))
 ·have e:i=l.length:=by
   have:l.length<=i:=by simpa using h
   omega
  subst e;exact et1 @jAr.{0}
def qs4 (l:List En) (ops:List OpS) (n:Nat) (i:Nat) (m:List En):St:=
 ⟨[(0,true,.d (.sl 2 (m.map x9))),(1,true,.d (.sl 3 (ops.map xp))),(6,true,.d (.int .i64 (i:Nat)))],[],[],1⟩
theorem q39 (l:List En) (ops:List OpS) (hl:l.length<=400) (u:ops.length<=100000) (hv: ∀o∈ops,o.val.length<=1000000):
  qf prog 90 [.d (.sl 2 (l.map x9)),.d (.sl 3 (ops.map xp))] [] (.tup [.d (.sl 2 ((yj l ops).1.map x9)),.d (.bool (yj l ops).2)]) []:=by
 refine F90.goT ?_;refine ez ?_;refine qg (λx:{x:Nat×List En//x.1<=ops.length∧x.2.length<=400∧yj x.2 (ops.drop x.1)=yj l ops}=>qs4 l ops 0 x.val.1 x.val.2) (λx=>ops.length-x.val.1) ⟨(0,l),jAj _,hl,rfl⟩ ?_ (λx=> ?_)
 ·exact et2 @qs4.eq_1 @jAt
 obtain⟨⟨i,m⟩,hi,hm,h⟩:=x;simp only at hi hm h;refine ez1 @qs4.eq_1 ?_;refine xf _ (λhc=> ?_) (λhc=> ?_)
 ·have e:i<ops.length:=by simpa using hc
  rw[jBm e,yj]at h;have hvi:=hv _ (jAg e);refine eo2 (qh xp ops e) @xp.eq_1 ?_;refine xf _ (λz=> ?_) (λz=> ?_)
  ·have u:eOp m ops[i]=eDel ops[i].key m:=by rw[eOp,if_pos z]
   have p:=xaq ops[i].key m;refine eo2 (qh xp ops e) @xp.eq_1 ?_
   (repeat(with_reducible refine ob ?_));refine cl F166 (xd5 m ops[i].key (by omega)) ?_
   rw[<- u]at p⊢;generalize eOp m ops[i]=m' at p h;refine ez ?_;refine xf _ (λt=> ?_) (λt=> ?_)
   ·rw[if_pos (by simp at t;omega)]at h;exact et1 h.symm
   ·have q:m'.length<=400:=by simp at t;omega
    rw[if_neg (by omega)]at h;refine ez ?_;refine⟨⟨(i+1,m'),e,q,h⟩,?_,by dsimp only;omega⟩;exact et2 @qs4.eq_1 (qe (show i<9223372036854775807 by omega))
  ·have u:eOp m ops[i]=eSet (ops[i].key,ops[i].val) m:=by rw[eOp,if_neg (by simp[z])]
   have p:=xap (ops[i].key,ops[i].val) m;refine eo2 (qh xp ops e) @xp.eq_1 ?_
   (repeat(with_reducible refine ob ?_));refine cl F167 (xuq m (ops[i].key,ops[i].val) (by omega)) ?_
   rw[<- u]at p⊢;generalize eOp m ops[i]=m' at p h;refine ez ?_;refine xf _ (λt=> ?_) (λt=> ?_)
   ·rw[if_pos (by simp at t;omega)]at h;exact et1 h.symm
   ·have q:m'.length<=400:=by simp at t;omega
    rw[if_neg (by omega)]at h;refine ez ?_;refine⟨⟨(i+1,m'),e,q,h⟩,?_,by dsimp only;omega⟩;exact et2 @qs4.eq_1 (qe (show i<9223372036854775807 by omega))
 ·have v:i=ops.length:=by
   have:ops.length<=i:=by simpa using hc
   omega
  subst v;rw[jC0,yj]at h;exact et1 h.symm
def d108:=cut prog f108 news
@[go_sem] def E108:=qj d108
def F108:=fnC d108 follows func108
def qgd (e:List UInt8) (d:Int) (m:List En):List D:= [.sl 1 (qd e),.int .i64 d,.sl 2 (m.map x9)]
theorem q78 (e:List UInt8) (d:Int) (m:List En):D.noPtrL (qgd e d m)=true:=by simp only[qgd,D.noPtrL,D.noPtr,jz,qfd,jBu]
attribute [go_sem] q78
def qja (d:List UInt8):List D:=match qg1 [] (yo d)with
 |some m=>qgd (d.take (qbw d)) (qbw d:Nat) m
 |none=> [.nilsl,.int .i64 0,.nilsl]
def qjb (d:List UInt8):Int:=match qg1 [] (yo d)with
 |some m=>0
 |none=>4
def xar (e:List UInt8) (i:Nat) (m:List En):St:=
 ⟨[(2,true,.d (.ptr 0 0)),(5,true,.d (.sl 1 (qan (yo e)))),(6,true,.d (.ptr 2 0)),(7,true,.d (.int .i64 (i:Nat)))],[.row [.d .nilsl,.d (.int .i64 0),.d .nilsl],.row [.d (.sl 1 (qd (e.take (qbw e)))),.d (.int .i64 (qbw e:Nat))],.row [.d (.sl 1 (qd (e.take (qbw e)))),.d (.int .i64 (qbw e:Nat)),.d (.sl 2 (m.map x9))]],[],1⟩
theorem q4a (e:List UInt8) (hb:e.length<=1000000000):qf prog 108 [.d (.sl 1 (qd e))] [] (.tup [.d (.agg (qja e)),.d (.int .i64 (qjb e))]) []:=by
 have hln:=q3y e;refine F108.goT ?_;refine eo ?_;refine cl F193 (xpm e hb) ?_;refine ez1 @vo.eq_1 ?_;refine qg (λx:{x:Nat×List En//x.1<=(yo e).length∧x.2.length<=400∧qg1 x.2 ((yo e).drop x.1)=qg1 [] (yo e)}=>xar e x.val.1 x.val.2) (λx=>(yo e).length-x.val.1) ⟨(0,[]),jAj _,by simp,by simp⟩ ?_ (λx=> ?_)
 ·exact et3 @xar.eq_1 @jAt @List.map_nil.{0,0}
 obtain⟨⟨i,m⟩,hi,t,h⟩:=x;simp only at hi t h;refine ez1 @xar.eq_1 ?_;refine xf _ (λhc=> ?_) (λhc=> ?_)
 ·have l:i<(yo e).length:=by simpa using hc
  have hr:=qk6 e _ (jAg l);rw[jBm l,qg1]at h;simp only[qo6 _ l,go_sem,simprocAttr]
  (repeat(with_reducible refine ob ?_))
  (repeat(with_reducible refine ob ?_));refine cl F194 (q29 (yo e)[i] (by omega)) ?_
  refine ez ?_;refine xf _ (λp=> ?_) (λp=> ?_)
  ·rw[if_pos (by simpa using p)]at h;have hV:qja e= [.nilsl,.int .i64 0,.nilsl]:=by rw[qja,<- h]
   have hE:qjb e=4:=by rw[qjb,<- h]
   exact et2 @hV @hE
  ·rw[if_neg (by simpa using p)]at h;obtain⟨g1,g2⟩:=qi8 (b:=(yo e)[i]) (by omega) (by simpa using p);refine eo ?_;refine cl F90 (q39 m (jv (yo e)[i]).1 t (by omega) (λo ho=>by have:=(vr.1 (g2 o ho)).2.2.1;omega)) ?_;refine ez ?_;refine xf _ (λq=> ?_) (λq=> ?_)
   ·rw[if_pos (by simpa using q)]at h;have hV:qja e= [.nilsl,.int .i64 0,.nilsl]:=by rw[qja,<- h]
    have hE:qjb e=4:=by rw[qjb,<- h]
    exact et2 @hV @hE
   ·rw[if_neg (by simpa using q)]at h;have u:=qn1 (jv (yo e)[i]).1 m t (by simpa using q);refine ez ?_;refine⟨⟨(i+1,(yj m (jv (yo e)[i]).1).1),l,u,h⟩,?_,by dsimp only;omega⟩;exact et2 @xar.eq_1 (qe (show i<9223372036854775807 by omega))
 ·have v:i=(yo e).length:=by
   have:(yo e).length<=i:=by simpa using hc
   omega
  subst v;rw[jC0,qg1]at h;have hV:qja e=qgd (e.take (qbw e)) (qbw e:Nat) m:=by rw[qja,<- h]
  have hE:qjb e=0:=by rw[qjb,<- h]
  exact et3 @hV @hE @qgd.eq_1
def d122:=cut prog f122 news
@[go_sem] def E122:=qj d122
def d196:=cut prog f196 news
@[go_sem] def E196:=qj d196
def F196:=fnC d196 follows func196
def d95:=cut prog f95 news
@[go_sem] def E95:=qj d95
def F95:=fnC d95 follows func95
def d31:=cut prog f31 news
@[go_sem] def E31:=qj d31
def stR (s:Sto):List D:=qgd s.file s.synced (xu s.m)
theorem xur {α:Type} {f:α->Bool} {l:List α} {i:Nat} (h:i<l.length) (hn:(l.take i).find? f=none) (hf:f l[i]=true):l.find? f=some l[i]:=by
 have e:l=l.take i++(l[i]::l.drop (i+1)):=by rw[<- jBm h,jB5]
 generalize l[i]=x at*;rw[e,jDm,hn,List.find?_cons_of_pos hf];rfl
theorem xjg {α:Type} {f:α->Bool} {l:List α} {i:Nat} (h:i<l.length) (hn:(l.take i).find? f=none) (hf:f l[i]=false):(l.take (i+1)).find? f=none:=by
 rw[jAk h,jDm,hn,List.find?_cons_of_neg (by simp[hf])];rfl
def xpw (f:List UInt8) (y:Int) (m:List En) (k:List UInt8) (i:Nat):St:=
 ⟨[(1,true,.d (.str k)),(2,true,.d (.ptr 0 0)),(6,true,.d (.int .i64 (i:Nat)))],[.row [.d (.sl 1 (qd f)),.d (.int .i64 y),.d (.sl 2 (m.map x9))]],[],1⟩
theorem xpx (f:List UInt8) (y:Int) (m:List En) (k:List UInt8) (hm:m.length<=1000000):
  qf prog 196 [.d (.agg (qgd f y m)),.d (.str k)] [] (.tup [.d (.sl 1 (qd (optV (eGet k m)))),.d (.bool (eGet k m).isSome)]) []:=by
 refine F196.goT ?_;refine ez1 @qgd.eq_1 ?_;refine qg (λi:{i:Nat//i<=m.length∧(m.take i).find? (λe=>e.1==k)=none}=>xpw f y m k i.val) (λi=>m.length-i.val) ⟨0,jAj _,rfl⟩ ?_ (λi=> ?_)
 ·exact et2 @xpw.eq_1 @jAt
 obtain⟨i,hi,hn⟩:=i;refine ez1 @xpw.eq_1 ?_;refine xf _ (λhc=> ?_) (λhc=> ?_)
 ·have h:i<m.length:=by simpa using hc
  refine eo2 (qh x9 m h) @x9.eq_1 ?_;refine xf _ (λo=> ?_) (λo=> ?_)
  ·have hg:eGet k m=some m[i].2:=by rw[eGet,xur h hn (by simpa using o)];rfl
   refine eo2 (qh x9 m h) @x9.eq_1 ?_;exact et3 @hg @optV.eq_1 @jDv.{0}
  ·refine ez ?_;refine⟨⟨i+1,h,xjg h hn (by simpa using o)⟩,?_,by dsimp only;omega⟩;exact et2 @xpw.eq_1 (qe (show i<9223372036854775807 by omega))
 ·have l:i=m.length:=by
   have:m.length<=i:=by simpa using hc
   omega
  subst l;rw[jAr]at hn;have hg:eGet k m=none:=by rw[eGet,hn];rfl
  exact et4 @hg @optV.eq_1 @jDd.{0} @qk
theorem xd6 (p:List UInt8) (l:List En) {i:Nat} (h:i<l.length):qpq p (l.take (i+1))=if pre p l[i].1=true then qpq p (l.take i)++ [l[i]]else qpq p (l.take i):=by
 rw[jAk h,qpq,List.filter_append,qpq];by_cases hp:pre p l[i].1=true<;>simp[hp]
def q4b (f:List UInt8) (y:Int) (m:List En) (p:List UInt8) (i:Nat):St:=
 ⟨[(1,true,.d (.str p)),(2,true,.d (.ptr 0 0)),(5,true,.own 0 2 ((qpq p (m.take i)).map x9)),(6,true,.d (.int .i64 (i:Nat)))],[.row [.d (.sl 1 (qd f)),.d (.int .i64 y),.d (.sl 2 (m.map x9))]],[0],1⟩
theorem xjh (f:List UInt8) (y:Int) (m:List En) (p:List UInt8) (hm:m.length<=1000000) (hp:p.length<=1000000) (hk: ∀e∈m,e.1.length<=1000000):
  qf prog 95 [.d (.agg (qgd f y m)),.d (.str p)] [] (.d (.sl 2 ((qpq p m).map x9))) []:=by
 refine F95.go ?_;refine ez1 @qgd.eq_1 ?_;refine qg (λi:{i:Nat//i<=m.length}=>q4b f y m p i.val) (λi=>m.length-i.val) ⟨0,jAj _⟩ ?_ (λi=> ?_)
 ·exact et6 @q4b.eq_1 @jAt @List.map_nil.{0,0} @List.take_zero.{0} @qpq.eq_1 @List.filter_nil.{0}
 obtain⟨i,hi⟩:=i;refine ez1 @q4b.eq_1 ?_;refine xf _ (λhc=> ?_) (λhc=> ?_)
 ·have l:i<m.length:=by simpa using hc
  have hki:=hk _ (jAg l);have hsn:=xd6 p m l;have hfl:(qpq p (m.take i)).length<=i:=by
   have h1:(qpq p (m.take i)).length<=(m.take i).length:=jD0 _ _;rw[jAl]at h1;omega
  refine eo2 (qh x9 m l) @x9.eq_1 ?_;refine ez ?_;refine xf _ (λo=> ?_) (λo=> ?_)
  ·have q:pre p m[i].1=true:=by
    simp only[jAf,decide_eq_true_eq,beq_iff_eq,jCz]at o;simp only[pre,jAf,decide_eq_true_eq,beq_iff_eq];exact⟨by omega,o.2⟩
   rw[if_pos q]at hsn;refine eo2 (qh x9 m l) @x9.eq_1 ?_;refine⟨⟨i+1,l⟩,?_,by dsimp only;omega⟩;exact et7 @q4b.eq_1 @hsn @jA2.{0,0} @List.map_cons.{0,0} @List.map_nil.{0,0} @x9.eq_1 (qe (show i<9223372036854775807 by omega))
  ·have q: ¬pre p m[i].1=true:=by
    intro h;simp only[pre,jAf,decide_eq_true_eq,beq_iff_eq]at h;simp only[jB6,decide_eq_false_iff_not,beq_eq_false_iff_ne,jCz]at o;rcases o with o|o
    ·exact o (by omega)
    ·exact o h.2
   rw[if_neg q]at hsn;refine ez ?_;refine⟨⟨i+1,l⟩,?_,by dsimp only;omega⟩;exact et3 @q4b.eq_1 @hsn (qe (show i<9223372036854775807 by omega))
 ·have t:i=m.length:=by
   have:m.length<=i:=by simpa using hc
   omega
  subst t;exact et1 @jAr.{0}
def d313:=cut prog f313 news
@[go_sem] def E313:=qj d313
def d330:=cut prog f330 news
@[go_sem] def E330:=qj d330
def d312:=cut prog f312 news
@[go_sem] def E312:=qj d312
def d310:=cut prog f310 news
@[go_sem] def E310:=qj d310
def F310:=fnC d310 follows func310
def d314:=cut prog f314 news
@[go_sem] def E314:=qj d314
def d261:=cut prog f261 news
@[go_sem] def E261:=qj d261
def F261:=fnC d261 follows func261
def d265:=cut prog f265 news
@[go_sem] def E265:=qj d265
theorem qwc (p:Pk):qcz p=qm p:=by
 by_cases e:p.kind=1
 ·have:=qv0 p;simp only[qbv,e,beq_self_eq_true,jCr,jEd]at this;exact this.symm
 ·unfold qcz qm qf1 ack order bare qyu qdi role qvn in46;by_cases d:p.kind=2
  ·simp only[d];rw[jBl];simp;grind
  ·rw[jBl];simp[e,d];grind
theorem xsg (s:List UInt8) (hl:s.length<=1000000000):qf prog 310 [.d (.sl 1 (qd s))] [] (.d (.int .u64 (fnv 14695981039346656037 s:Nat))) []:=by
 have h0:=qp7 14695981039346656037 s (by decide) hl;refine F310.go ?_;refine eo ?_;refine cl F235 (h0) ?_;exact et
theorem xd8 (b:List UInt8) (hb:b.length<=1000000000):qf prog 261 [.d (.sl 1 (qd b))] [] (.tup [.d (.sl 1 (qd (wx b).1)),.d (.int .i64 (wx b).2)]) []:=by
 refine F261.goT ?_;refine ez ?_;refine xf _ (λh=> ?_) (λh=> ?_)
 ·have hx:wx b=([],4):=by unfold wx;rw[if_pos (by simp at h;omega)]
  exact et2 @hx @qk
 have h8:8<=b.length:=by simp at h;omega
 have hn:IntKind.i64.wrap ((b.length:Int) -8)=((b.length-8:Nat):Int):=by rw[xo (by unfold I64;omega)];omega
 have e:wx b=if be8 (fnv 14695981039346656037 (b.take (b.length-8)))=b.drop (b.length-8)then(b.take (b.length-8),0)else([],5):=by unfold wx;rw[if_neg (by omega)]
 generalize hm:b.length-8=m at hn e;have l:=qgo (h:=14695981039346656037) (by decide) (b.take m);have i:(b.take m).length<=1000000000:=by rw[jAl];omega
 have hA:List.take (b.length-m) (List.drop m (qd b))=qd (b.drop m):=by rw[ze,xq,jAq (by rw[jAp];omega)]
 have hF:List.take (m-0) (qd b)=qd (b.take m):=by rw[xq,jCz]
 refine eo2 @hn @hF ?_
 (repeat(with_reducible refine ob ?_));refine cl F310 (xsg (b.take m) i) ?_
 refine ez ?_;refine cl xi5 (qmu _ l) ?_;refine eo2 @hn @hA ?_;refine xf _ (λh=> ?_) (λh=> ?_)
 ·have hx:wx b=([],5):=by rw[e,if_neg (by simpa using h)]
  exact et2 @hx @qk
 ·have hx:wx b=(b.take m,0):=by rw[e,if_pos (by simpa using h)]
  exact et1 @hx
def d311:=cut prog f311 news
@[go_sem] def E311:=qj d311
def F311:=fnC d311 follows func311
def d263:=cut prog f263 news
@[go_sem] def E263:=qj d263
def F263:=fnC d263 follows func263
def d262:=cut prog f262 news
@[go_sem] def E262:=qj d262
def F262:=fnC d262 follows func262
def rAVP:=qb8 (default:AV) rAV
theorem xsh:qmk default rAVP dAV:=qde (λr d=>(qsp d).2) λr d hf=>xxn d hf
theorem xp2 {r:Rd} (h:r.Ok):(rAVP r).2.Ok∧(rAVP r).2.b=r.b:=qfj h (qsp h)
theorem xp3:zw default= [.int .i64 0,.int .i64 0,.str []]:=rfl
theorem xut (r:Rd) (F:r.Ok):qf prog 311 [.d (.ptr 0 0)] [rdO r] (.d (.agg (zw (rAVP r).1))) [rdO (rAVP r).2]:=by
 have v:=qdx r 1 2 F;have h:=qb9 1 2 r F;have e:=xsh r F;obtain⟨i,t⟩:=F;obtain⟨b,p,f⟩:=r;simp only at i t;have u:=λq=>qgw ⟨b,q,true⟩ p;simp only[rdO]at u;have hT:=λq (A:q<=b.length)=>qso ⟨b,q,true⟩ 40 ⟨i,A⟩ (by decide);have J:=λq (A:q<=b.length)=>qjt (qbc 40) (r:=⟨b,q,true⟩) ⟨i,A⟩ rfl;refine F311.go ?_;have bad: ∀q:Nat,q<=b.length->qf prog 258 [.d (.ptr 0 0),.d (.int .i64 40)] [.row [.d (.sl 1 (qd b)),.d (.int .i64 (q:Nat)),.d (.bool true)]] (.d (.str [])) [.row [.d (.sl 1 (qd b)),.d (.int .i64 (q:Nat)),.d (.bool true)]]:=λq A=>by
  have O:=hT q A;have h2:=J q A;rw[show((40:Nat):Int)=40 from rfl,h2]at O;exact O
 cases f
 ·simp only[jAw,if_false]at h e;unfold dAV at e;cases hB:zd 1 2 (b.drop p)with
  |none=>
   rw[hB]at h e;simp only at h e;rw[h]at v;rw[e];simp only[rdO]at v;refine eo1 @rdO.eq_1 ?_;refine clO [0] F257 (v) ?_;refine eo ?_;refine no_ ?_;refine eo ?_;refine clO [0] F258 ((bad p t)) ?_;refine eo ?_;refine ya ?_;refine eo ?_;refine clO [0] F309 ((u p)) ?_;exact et1 @xp3
  |some x=>
   obtain⟨k,l⟩:=x;rw[hB]at h e;simp only at h e;rw[h]at v;obtain⟨p1,G⟩:=yk _ _ _ _ _ hB;obtain⟨M,t2⟩:=jp t G;generalize A:b.length-l.length=q at v M t2;have z:q<=b.length:=by omega
   have E:=qal ⟨b,q,false⟩ ⟨i,z⟩;have o:=qdf ⟨b,q,false⟩ ⟨i,z⟩;have C:=qso ⟨b,q,false⟩ 40 ⟨i,z⟩ (by decide);have m:=qbc 40 ⟨b,q,false⟩ ⟨i,z⟩;rw[show((40:Nat):Int)=40 from rfl]at C;simp only[jAw,if_false,M]at o m;simp only[rdO]at v;refine eo1 @rdO.eq_1 ?_;refine clO [0] F257 (v) ?_;refine ez ?_;refine xf _ (λI=> ?_) (λI=> ?_)
   ·have B:k=1:=by simpa using I
    rw[if_pos B]at e;cases hi:dInt l with
    |none=>
     rw[hi]at o e;simp only at o e;rw[o]at E;rw[e];simp only[rdO]at E;refine eo ?_;refine clO [0] F96 (E) ?_;refine eo ?_;refine ya ?_;refine eo ?_;refine clO [0] F309 ((u q)) ?_;exact et1 @xp3
    |some y=>
     obtain⟨n,l1⟩:=y;rw[hi]at o e;simp only at o e;rw[o]at E;rw[e];simp only[rdO]at E;refine eo ?_;refine clO [0] F96 (E) ?_;refine eo ?_;refine no_ ?_;exact et1 @zw.eq_1
   ·have B:k≠1:=by simpa using I
    rw[if_neg B]at e;cases hi:qcg 40 l with
    |none=>
     rw[hi]at m e;simp only at m e;rw[m]at C;rw[e];simp only[rdO]at C;refine eo ?_;refine clO [0] F258 (C) ?_;refine eo ?_;refine ya ?_;refine eo ?_;refine clO [0] F309 ((u q)) ?_;exact et1 @xp3
    |some y=>
     obtain⟨s,l1⟩:=y;rw[hi]at m e;simp only at m e;rw[m]at C;rw[e];simp only[rdO]at C;refine eo ?_;refine clO [0] F258 (C) ?_;refine eo ?_;refine no_ ?_;exact et1 @zw.eq_1
 ·simp only[if_true]at h e;rw[h]at v;rw[e];simp only[rdO]at v;refine eo1 @rdO.eq_1 ?_;refine clO [0] F257 (v) ?_;refine eo ?_;refine no_ ?_;refine eo ?_;refine clO [0] F258 ((bad p t)) ?_;refine eo ?_;refine ya ?_;refine eo ?_;refine clO [0] F309 ((u p)) ?_;exact et1 @xp3
def SrLi {α:Type} (es:Nat) (enc:α->List D) (p:Nat) (n:Int) (x:Nat×List α×Rd):St:=
 ⟨[(0,true,.d (.ptr 0 0)),(5,true,.d (.int .i64 (p:Nat))),(6,true,.d (.int .i64 n)),(7,true,.own 0 es (x.2.1.map enc)),(8,true,.d (.int .i64 (x.1:Nat)))],[rdO x.2.2],[0],1⟩
structure LInv {α:Type} (d:List UInt8->Option (α×List UInt8)) (F:List α×Rd) (b:List UInt8) (p:Nat) (n:Int) (x:Nat×List α×Rd):Prop where
 eb:x.2.2.b=b
 ok:x.2.2.Ok
 bad:x.2.2.failed=true->F=([],⟨b,p,true⟩)
 good:x.2.2.failed=false->n<=1000∧x.2.1.length=x.1∧F=match qho d (n.toNat-x.1) (b.drop x.2.2.pos)with
  |some (vs,l)=>(x.2.1++vs,⟨b,b.length-l.length,false⟩)
  |none=>([],⟨b,p,true⟩)
theorem xsi {α:Type} {d:List UInt8->Option (α×List UInt8)} {z:List α} {f:Rd->List α×Rd} {most:Nat} (hm:most<=1000) (hd:qmk [] f (qk5 most d)) (r:Rd) (o:r.Ok):LInv d (f r) r.b r.pos (xc 0 most r).1 (0,[],(xc 0 most r).2):=by
 have e:=qb9 0 most r o;have h:=hd r o;have p:=qc0 o 0 most;refine⟨p.2,p.1,λi=> ?_,λi=> ?_⟩
 ·simp only at i;by_cases m:r.failed=true
  ·rw[h,if_pos m];cases r;simp only at m;rw[m]
  ·rw[if_neg m]at e h;unfold qk5 at h;cases hb:zd 0 most (r.b.drop r.pos)with
   |none=>rw[hb]at h;exact h
   |some x=>rw[hb]at e;rw[e]at i;cases i
 ·simp only at i⊢;by_cases m:r.failed=true
  ·rw[if_pos m]at e;rw[e,m]at i;cases i
  ·rw[if_neg m]at e h;unfold qk5 at h;cases hb:zd 0 most (r.b.drop r.pos)with
   |none=>rw[hb]at e;rw[e]at i;cases i
   |some x=>
    obtain⟨n,l⟩:=x;obtain⟨e1,e2,e3,_⟩:=qi4 hb;obtain⟨t1,t2⟩:=jp o.pos e1;rw[hb]at e h;simp only at e h;rw[e,h];simp only[t1,jCz,List.nil_append];exact⟨by omega,rfl,by cases qho d n.toNat l<;>rfl⟩
theorem xsj {α:Type} {d:List UInt8->Option (α×List UInt8)} {z:α} {F:List α×Rd} {b:List UInt8} {p:Nat} {n:Int} {i:Nat} {l:List α} {r:Rd} {f:Rd->α×Rd} (hd:qmk z f d) (ht:qns d) (h:LInv d F b p n (i,l,r)) (A:r.failed=false) (hi:(i:Int)<n) (u:(f r).2.Ok∧(f r).2.b=r.b):
  LInv d F b p n (i+1,l++ [(f r).1],(f r).2):=by
 obtain⟨e,t,h1,h2⟩:=h;obtain⟨C,B,o⟩:=h2 A;simp only at e t C B o;subst e;have m:=hd r t;rw[if_neg (by simp[A])]at m;rw[show n.toNat-i=(n.toNat-(i+1))+1 by omega,qho]at o;refine⟨u.2,u.1,λe=> ?_,λe=> ?_⟩
 ·simp only at e;cases hc:d (r.b.drop r.pos)with
  |none=>rw[hc]at o;exact o
  |some y=>rw[hc]at m;rw[m]at e;cases e
 ·simp only at e⊢;cases hc:d (r.b.drop r.pos)with
  |none=>rw[hc]at m;rw[m]at e;cases e
  |some y=>
   obtain⟨v,l1⟩:=y;obtain⟨q,hq⟩:=ht _ _ _ hc;obtain⟨t1,t2⟩:=jp t.pos hq;rw[hc]at m o;simp only at m o;rw[m,o];simp only[t1];refine⟨C,by simp[B],?_⟩;cases qho d (n.toNat-(i+1)) l1 with
   |none=>rfl
   |some w=>simp
theorem xsk {α:Type} {d:List UInt8->Option (α×List UInt8)} {F:List α×Rd} {b:List UInt8} {p:Nat} {n:Int} {i:Nat} {l:List α} {r:Rd} (h:LInv d F b p n (i,l,r)) (o:r.failed=false) (hi: ¬(i:Int)<n):F=(l,r):=by
 obtain⟨q,m,h1,h2⟩:=h;obtain⟨g1,g2,e⟩:=h2 o;have hp:=m.pos;simp only at q m g1 g2 e hp;subst q;rw[show n.toNat-i=0 by omega,qho]at e;simp only at e;rw[e,jAu,jAp,show r.b.length-(r.b.length-r.pos)=r.pos by omega,<- o]
theorem xjj (r:Rd) (most:Nat) (C:r.Ok) (hm:most<=1000):qf prog 263 [.d (.ptr 0 0),.d (.int .i64 (most:Nat))] [rdO r] (.d (.sl 1 ((qc7 most r).1.map encI))) [rdO (qc7 most r).2]:=by
 have v:=qdx r 0 most C;have q:=xsi (z:= []) hm (qy4 most) r C;obtain⟨b,p,f⟩:=r;simp only at q;generalize xc 0 most ⟨b,p,f⟩=x at v q;obtain⟨n,r1⟩:=x;simp only at q;simp only[rdO]at v;generalize qc7 most ⟨b,p,f⟩=F at q⊢;refine F263.go ?_;refine eo1 @rdO.eq_1 ?_;refine clO [0] F257 (v) ?_;refine ez ?_;refine qg (λx:{x:Nat×List Int×Rd//LInv dInt F b p n x}=>SrLi 1 encI p n x.val) (λx=>n.toNat-x.val.1) ⟨(0,[],r1),q⟩ ?_ (λx=> ?_)
 ·exact et4 @SrLi.eq_1 @rdO.eq_1 @List.map_nil.{0,0} @jAt
 obtain⟨⟨i,l,t,rp,A⟩,e⟩:=x;have m:=qgw ⟨t,rp,A⟩ p;simp only[rdO]at m;cases A
 ·obtain⟨g1,g2,_⟩:=e.good rfl;simp only at g2;refine ez2 @SrLi.eq_1 @rdO.eq_1 ?_;refine xf _ (λh=> ?_) (λh=> ?_)
  ·have u:(i:Int)<n:=by simpa using h
   have B:=qal ⟨t,rp,false⟩ e.ok;have hn:=xsj qdf qsl e rfl u (vm e.ok);simp only[rdO,encI]at B;refine eo ?_;refine clO [0] F96 (B) ?_;refine eo ?_;refine⟨⟨(i+1,l++ [(js ⟨t,rp,false⟩).1],(js ⟨t,rp,false⟩).2),hn⟩,?_,by simp only;omega⟩;exact et7 @SrLi.eq_1 @rdO.eq_1 @jA2.{0,0} @List.map_cons.{0,0} @List.map_nil.{0,0} @encI.eq_1 (qe (show i<9223372036854775807 by omega))
  ·have hF:=xsk e rfl (by simpa using h);refine eo ?_;refine no_ ?_;exact et1 @hF
 ·have hF:=e.bad rfl;have o:=e.eb;simp only at o;subst o;refine ez2 @SrLi.eq_1 @rdO.eq_1 ?_;refine xf _ (λh=> ?_) (λh=> ?_)
  ·simp at h
  ·refine eo ?_;refine ya ?_;refine eo ?_;refine clO [0] F309 (m) ?_;exact et2 @hF @List.map_nil.{0,0}
theorem xp4 (r:Rd) (most:Nat) (C:r.Ok) (hm:most<=1000):qf prog 262 [.d (.ptr 0 0),.d (.int .i64 (most:Nat))] [rdO r] (.d (.sl 3 ((qd8 most r).1.map zw))) [rdO (qd8 most r).2]:=by
 have v:=qdx r 0 most C;have q:=xsi (z:= []) hm (q7v most) r C;obtain⟨b,p,f⟩:=r;simp only at q;generalize xc 0 most ⟨b,p,f⟩=x at v q;obtain⟨n,r1⟩:=x;simp only at q;simp only[rdO]at v;generalize qd8 most ⟨b,p,f⟩=F at q⊢;refine F262.go ?_;refine eo1 @rdO.eq_1 ?_;refine clO [0] F257 (v) ?_;refine ez ?_;refine qg (λx:{x:Nat×List AV×Rd//LInv dAV F b p n x}=>SrLi 3 zw p n x.val) (λx=>n.toNat-x.val.1) ⟨(0,[],r1),q⟩ ?_ (λx=> ?_)
 ·exact et4 @SrLi.eq_1 @rdO.eq_1 @List.map_nil.{0,0} @jAt
 obtain⟨⟨i,l,t,rp,A⟩,e⟩:=x;have m:=qgw ⟨t,rp,A⟩ p;simp only[rdO]at m;cases A
 ·obtain⟨g1,g2,_⟩:=e.good rfl;simp only at g2;refine ez2 @SrLi.eq_1 @rdO.eq_1 ?_;refine xf _ (λh=> ?_) (λh=> ?_)
  ·have u:(i:Int)<n:=by simpa using h
   have B:=xut ⟨t,rp,false⟩ e.ok;have hn:=xsj xsh xac e rfl u (xp2 e.ok);simp only[rdO,zw]at B;refine eo ?_;refine clO [0] F311 (B) ?_;refine eo ?_;refine⟨⟨(i+1,l++ [(rAVP ⟨t,rp,false⟩).1],(rAVP ⟨t,rp,false⟩).2),hn⟩,?_,by simp only;omega⟩;exact et7 @SrLi.eq_1 @rdO.eq_1 @jA2.{0,0} @List.map_cons.{0,0} @List.map_nil.{0,0} @zw.eq_1 (qe (show i<9223372036854775807 by omega))
  ·have hF:=xsk e rfl (by simpa using h);refine eo ?_;refine no_ ?_;exact et1 @hF
 ·have hF:=e.bad rfl;have o:=e.eb;simp only at o;subst o;refine ez2 @SrLi.eq_1 @rdO.eq_1 ?_;refine xf _ (λh=> ?_) (λh=> ?_)
  ·simp at h
  ·refine eo ?_;refine ya ?_;refine eo ?_;refine clO [0] F309 (m) ?_;exact et2 @hF @List.map_nil.{0,0}
def d198:=cut prog f198 news
@[go_sem] def E198:=qj d198
def F198:=fnC d198 follows func198
def d207:=cut prog f207 news
@[go_sem] def E207:=qj d207
def d208:=cut prog f208 news
@[go_sem] def E208:=qj d208
def xx0:=cut prog f206 news [28] [] true
@[go_sem] def x06:=qj xx0
def d197:=cut prog f197 news
@[go_sem] def E197:=qj d197
def F197:=fnC d197 follows func197
def d195:=cut prog f195 news
@[go_sem] def E195:=qj d195
def F195:=fnC d195 follows func195
def d121:=cut prog f121 news
@[go_sem] def E121:=qj d121
theorem xd9 (b:List UInt8) (hb:b.length<=1000000000):qf prog 198 [.d (.sl 1 (qd b))] [] (.tup [.d (.agg (qi (w7 b).1)),.d (.int .i64 (w7 b).2)]) []:=by
 have m:=xd8 b hb;have o:=qny b;unfold w7;generalize wx b=x at m o⊢;obtain⟨s,e⟩:=x;simp only at o;refine F198.goT ?_;refine eo ?_;refine cl F261 (m) ?_;refine ez ?_;refine xf _ (λh=> ?_) (λh=> ?_)
 ·rw[if_pos (by simpa using h)];refine ez1 @qi.eq_1 ?_;exact⟨rfl,rfl,rfl,rfl,rfl,rfl,rfl,rfl,rfl⟩
 have he:e=0:=by simpa using h
 rw[if_neg (by simp[he])];have J:(⟨s,0,false⟩:Rd).Ok:=⟨by simp only;omega,jAj _⟩;have I:=qal _ J;have B:=(vm J).1;have i:qbp 7 ⟨s,0,false⟩=qbp 7 ⟨s,0,false⟩:=rfl;conv at i=>rhs;simp only[qbp,List.nil_append]
 simp only[rdO,jAt]at I;generalize js ⟨s,0,false⟩=x0 at I B i;obtain⟨a0,r1⟩:=x0;have c1:=qal _ B;have A:=(vm B).1;simp only[rdO]at c1;generalize js r1=x1 at c1 A i;obtain⟨a1,r2⟩:=x1;have c2:=qal _ A;have z:=(vm A).1;simp only[rdO]at c2;generalize js r2=x2 at c2 z i;obtain⟨a2,r3⟩:=x2;have c3:=qal _ z;have v:=(vm z).1;simp only[rdO]at c3;generalize js r3=x3 at c3 v i;obtain⟨a3,r4⟩:=x3;have G:=qal _ v;have u:=(vm v).1;simp only[rdO]at G;generalize js r4=x4 at G u i;obtain⟨a4,r5⟩:=x4;have F:=qal _ u;have t:=(vm u).1;simp only[rdO]at F;generalize js r5=x5 at F t i;obtain⟨a5,r6⟩:=x5;have E:=qal _ t;have q:=(vm t).1;simp only[rdO]at E;generalize js r6=x6 at E q i;obtain⟨a6,l⟩:=x6;simp only[List.cons_append,List.nil_append]at i;have X:=xp4 l 4 q (by decide);have R:=(qsq q 4).1;have M:=qgz (λr=>qgy (f:=rAV) (most:=4) (r:=r)) l;have Z:=xjj _ 6 R (by decide);have iC:=(qv3 R 6).1;have O:=qgz (λr=>qgy (f:=rInt) (most:=6) (r:=r)) (qd8 4 l).2;have Y:=qp5 _ iC;simp only[rdO,jDw]at X Z Y M O;simp only[qpr,i];refine ez ?_;refine clO [1] F96 I ?_;refine ez ?_;refine clO [1] F96 c1 ?_;refine ez ?_;refine clO [1] F96 c2 ?_;refine ez ?_;refine clO [1] F96 c3 ?_;refine ez ?_
 refine clO [1] F96 G ?_;refine ez ?_;refine clO [1] F96 F ?_;refine ez ?_;refine clO [1] F96 E ?_;refine ez ?_;refine clO [1] F262 X ?_;refine ez ?_;refine clO [1] F263 Z ?_;refine eo ?_;refine clO [1] F98 (Y) ?_;refine ez ?_;generalize hp:pkOf [a0,a1,a2,a3,a4,a5,a6] (qd8 4 l).1 (qc7 6 (qd8 4 l).2).1=p;have hpe:qi p= [.int .i64 a0,.int .i64 a1,.int .i64 a2,.int .i64 a3,.int .i64 a4,.int .i64 a5,.int .i64 a6,.sl 3 ((qd8 4 l).1.map zw),.sl 1 ((qc7 6 (qd8 4 l).2).1.map encI)]:=by rw[<- hp];rfl
 have C:p.Sm:=by rw[<- hp];exact⟨jBn M (by decide),jBn O (by decide)⟩
 have U:=qnm p C;rw[qwc,hpe]at U
 (repeat(with_reducible refine ob ?_));refine cl F114 (U) ?_
 refine eo ?_;refine xf _ (λh=> ?_) (λh=> ?_)
 ·rw[if_pos h];refine ez1 @qi.eq_1 ?_;exact⟨rfl,rfl,rfl,rfl,rfl,rfl,rfl,rfl,rfl⟩
 ·rw[if_neg (by rw[h];simp)];exact et2 @hpe @qhd
theorem q4d (s:List UInt8):qf prog 195 [.d (.str s)] [] (.d (.bool (qdu s))) []:=by
 refine F195.go ?_;exact et1 @qdu.eq_1
theorem q79 (s:List UInt8) (d:Nat) (h:s.length<=1000) (hd:d<4):qf Tryz.prog 197 [.d (.str s),.d (.int .i64 d)] [] (.d (.str (sKey s d))) []:=by
 refine F197.go ?_
 have h4:d=0∨d=1∨d=2∨d=3:=by omega
 rcases h4 with rfl|rfl|rfl|rfl
 all_goals
  have w1:IntKind.i64.wrap 1=1:=rfl
  have w2:IntKind.i64.wrap 2=2:=rfl
  have w3:IntKind.i64.wrap 3=3:=rfl
  have w4:IntKind.i64.wrap 4=4:=rfl
  try(refine ev6 @sKey.eq_1 @w1 @w2 @w3 @w4 @List.append_assoc.{0} ?_;try exact True.intro)
  repeat(with_reducible refine ob ?_)
  repeat' apply And.intro
  all_goals first|rfl|omega|trivial
def qzl:Option (List UInt8) ->Option (Int×Int)
 |none=>some (0,0)
 |some b=>if(rEnd (js (js ⟨b,0,false⟩).2).2 !=0||(js ⟨b,0,false⟩).1==0)=true then none else some ((js ⟨b,0,false⟩).1,(js (js ⟨b,0,false⟩).2).1)
def yp (m:Cont) (name:List UInt8):Nat->Nat
 |0=>0
 |d+1=>yp m name d+(if(mGet (sKey name d) m).isSome then 1 else 0)
theorem qn3 (m:Cont) (name:List UInt8): ∀d,yp m name d<=d
 |0=>jAi _
 |d+1=>by have:=qn3 m name d;rw[yp];split<;>omega
def xjl (a c:Int):Option (List Pk) ->Qu×Int
 |none=>(xx,4)
 |some l=>if kw ⟨a,c,l⟩=true then(⟨a,c,l⟩,0)else(xx,4)
def qg2 (m:Cont) (name:List UInt8):Qu×Int:=
 if(!qdu name)=true then(xx,1)else
 match qzl (mGet (nKey name) m)with
 |none=>(xx,4)
 |some (a,c)=>if(decide (c<0)||decide (a<c)||IntKind.i64.wrap (a-c) !=(yp m name 4:Nat))=true then(xx,4)else xjl a c (y8 m name (yp m name 4) (c.toNat+1))
def xx1:=cut prog f109 news [] [10]
@[go_sem] def x07:=qj xx1
def xux:=fnC xx1 follows func109
def rsO (s:Sto):AObj:= .row [.d (.sl 1 (qd s.file)),.d (.int .i64 s.synced),.d (.sl 2 ((xu s.m).map x9))]
def SR0 (s:Sto) (name:List UInt8) (x:{x:Int×Int//I64 x.1∧I64 x.2}):St:=
 ⟨[(1,true,.d (.str name)),(2,true,.d (.ptr 0 0)),(4,true,.d (.ptr 1 0)),(6,true,.d (.ptr 2 0))],
  [rsO s,vt,.row [.d (.int .i64 x.val.1),.d (.int .i64 x.val.2),.d .nilsl]],[],1⟩
def SR1 (s:Sto) (name:List UInt8) (a c:Int) (d:Nat):St:=
 ⟨[(1,true,.d (.str name)),(2,true,.d (.ptr 0 0)),(4,true,.d (.ptr 1 0)),(6,true,.d (.ptr 2 0)),(10,true,.d (.int .i64 (yp s.m name d:Nat))),(11,true,.d (.int .i64 (d:Nat)))],
  [rsO s,vt,.row [.d (.int .i64 a),.d (.int .i64 c),.d .nilsl]],[],1⟩
def SR2 (s:Sto) (name:List UInt8) (a c:Int) (f i:Nat) (l:List Pk):St:=
 ⟨[(1,true,.d (.str name)),(2,true,.d (.ptr 0 0)),(4,true,.d (.ptr 1 0)),(6,true,.d (.ptr 2 0)),(10,true,.d (.int .i64 (f:Nat))),(14,true,.d (.int .i64 (i:Nat)))],
  [rsO s,vt,.row [.d (.int .i64 a),.d (.int .i64 c),.own 0 9 (l.map qi)]],[0],1⟩
theorem xaw (s:Sto) (name:List UInt8) (X:s.m.Good) (hn:name.length<=1000):
  qf prog 109 [.d (.agg (stR s)),.d (.str name)] [] (.tup [.d (.agg (encQ (qg2 s.m name).1)),.d (.int .i64 (qg2 s.m name).2)]) []:=by
 have hm: ∀x∈s.m.l,x.2.2.length<=1000000:=λx F=>by have:=(X.small x F).2.2;omega
 have Y:(xu s.m).length<=1000000:=by rw[qf4];have:=X.few;omega
 have I:=λk=>xpx s.file s.synced (xu s.m) k Y;simp only[qyy X.ok,qgd]at I;have hk:name++ [47,110]=nKey name:=rfl;refine xux.goT ?_;refine eo2 @stR.eq_1 @qgd.eq_1 ?_;refine cl F195 (q4d name) ?_;refine ez ?_;refine xf _ (λh=> ?_) (λh=> ?_)
 ·have hb:qg2 s.m name=(xx,1):=by unfold qg2;rw[if_pos h]
  exact et4 @hb @encQ.eq_1 @xx.eq_1 @List.map_nil.{0,0}
 have aa:(!qdu name)≠true:=by rw[h];simp
 refine eo1 @hk ?_
 (repeat(with_reducible refine ob ?_));refine cl F196 (I (nKey name)) ?_
 refine ez ?_;generalize B:mGet (nKey name) s.m=g;have U:(optV g).length<=1000000:=by rw[<- B];exact qju s.m hm _
 have m:qg2 s.m name=(match qzl g with
  |none=>(xx,(4:Int))
  |some (a,c)=>if(decide (c<0)||decide (a<c)||IntKind.i64.wrap (a-c) !=(yp s.m name 4:Nat))=true then(xx,4)else xjl a c (y8 s.m name (yp s.m name 4) (c.toNat+1))):=by
  unfold qg2;rw[if_neg aa,B]
 refine xnm (λx:{x:{x:Int×Int//I64 x.1∧I64 x.2}//qzl g=some x.val}=>SR0 s name x.val) ?_ ?_
 ·cases g with
  |none=>
   simp only[jDd]
   (repeat(with_reducible refine ob ?_));refine no_ ?_
   refine ez ?_;refine⟨⟨⟨(0,0),qdj,qdj⟩,rfl⟩,?_⟩;exact et3 @SR0.eq_1 @rsO.eq_1 @vt.eq_1
  |some b=>
   have Z:b.length<=1000000000:=by simp only[optV,Option.getD_some]at U;omega
   have r0:(⟨b,0,false⟩:Rd).Ok:=⟨Z,jAj _⟩;have i1:=qal ⟨b,0,false⟩ r0;have r1:=(vm r0).1;have i2:=qal _ r1;have r2:=(vm r1).1;have i3:=qp5 _ r2;have j1:=qi5 ⟨b,0,false⟩;have j2:=qi5 (js ⟨b,0,false⟩).2;have G:qzl (some b)=if(rEnd (js (js ⟨b,0,false⟩).2).2 !=0||(js ⟨b,0,false⟩).1==0)=true then none else some ((js ⟨b,0,false⟩).1,(js (js ⟨b,0,false⟩).2).1):=rfl
   simp only[rdO,jAt]at i1 i2 i3;simp only[jDv,optV,Option.getD_some]
   (repeat(with_reducible refine ob ?_));refine ya ?_
   refine eo ?_;refine clO [3] F96 (i1) ?_;refine eo ?_;refine clO [3] F96 (i2) ?_;refine eo ?_;refine clO [3] F98 (i3) ?_;refine eo ?_;refine xf _ (λh=> ?_) (λh=> ?_)
   ·rw[if_pos h]at G;have hb:qg2 s.m name=(xx,4):=by rw[m,G]
    exact et4 @hb @encQ.eq_1 @xx.eq_1 @List.map_nil.{0,0}
   ·rw[if_neg (by rw[h];simp)]at G;refine ez ?_;refine⟨⟨⟨(_,_),j1,j2⟩,G⟩,?_⟩;exact et3 @SR0.eq_1 @rsO.eq_1 @vt.eq_1
 rintro⟨⟨⟨a,c⟩,ia,ic⟩,F⟩;simp only at ia ic F;rw[F]at m;simp only at m;refine pu ?_;refine ez3 @SR0.eq_1 @rsO.eq_1 @vt.eq_1 ?_;refine qg (λd:{d:Nat//d<=4}=>SR1 s name a c d.val) (λd=>4-d.val) ⟨0,jAj _⟩ ?_ (λd=> ?_)
 ·simp only[SR1,rsO,vt,yp,jAt,go_sem,simprocAttr]
 obtain⟨d,hd⟩:=d;refine ez3 @SR1.eq_1 @rsO.eq_1 @vt.eq_1 ?_;refine xf _ (λh=> ?_) (λh=> ?_)
 ·have A:d<4:=by simp at h;omega
  have C:=qn3 s.m name d;refine eo ?_;refine cl F197 (q79 name d hn A) ?_;refine eo ?_;refine cl F196 (I (sKey name d)) ?_;refine ez ?_;cases hv:(mGet (sKey name d) s.m).isSome
  ·have hs:yp s.m name (d+1)=yp s.m name d:=by rw[yp,hv];rfl
   (repeat(with_reducible refine ob ?_));refine no_ ?_
   refine ez ?_;refine⟨⟨d+1,A⟩,?_,by dsimp only;omega⟩;exact et5 @SR1.eq_1 @rsO.eq_1 @vt.eq_1 @hs (qe (show d<9223372036854775807 by omega))
  ·have hs:yp s.m name (d+1)=yp s.m name d+1:=by rw[yp,hv];rfl
   (repeat(with_reducible refine ob ?_));refine ya ?_
   refine ez ?_;refine⟨⟨d+1,A⟩,?_,by dsimp only;omega⟩;exact et6 @SR1.eq_1 @rsO.eq_1 @vt.eq_1 @hs (qe (show d<9223372036854775807 by omega)) (qe (show yp s.m name d<9223372036854775807 by omega))
 have A:d=4:=by simp at h;omega
 subst A;have C:=qn3 s.m name 4;generalize yp s.m name 4=w at m C⊢;refine eo ?_;refine xf _ (λE=> ?_) (λE=> ?_)
 ·have hb:qg2 s.m name=(xx,4):=by rw[m,if_pos E]
  exact et4 @hb @encQ.eq_1 @xx.eq_1 @List.map_nil.{0,0}
 rw[if_neg (by rw[E];simp)]at m;simp only[jA4,decide_eq_false_iff_not,bne_eq_false_iff_eq]at E;obtain⟨⟨c0,c1⟩,c2⟩:=E;unfold I64 at ia ic;rw[xo (by unfold I64;omega)]at c2;obtain⟨n,rfl⟩: ∃n:Nat,c=n:=⟨c.toNat,by omega⟩;have ha:a=((n+w:Nat):Int):=by omega
 subst ha;rw[jA6]at m;clear h hd;refine ez ?_;refine qg (λx:{x:Nat×List Pk//x.1<=w∧x.2.length=x.1∧(∀p∈x.2,p.W∧p.Sm)∧y8 s.m name w (n+1)=(y8 s.m name (w-x.1) (n+1+x.1)).map (x.2++ ·)}=>SR2 s name (n+w:Nat) n w x.val.1 x.val.2) (λx=>w-x.val.1)
  ⟨(0,[]),jAj _,rfl,λp hp=>(by cases hp),by simp⟩ ?_ (λx=> ?_)
 ·exact et5 @SR2.eq_1 @rsO.eq_1 @vt.eq_1 @List.map_nil.{0,0} @jAt
 obtain⟨⟨i,l⟩,x1,x2,J,o⟩:=x;simp only at x1 x2 J o;refine ez3 @SR2.eq_1 @rsO.eq_1 @vt.eq_1 ?_;refine xf _ (λh=> ?_) (λh=> ?_)
 ·have v:i<w:=by simp at h;omega
  have e3:w-i=(w-(i+1))+1:=by omega
  have e2:IntKind.i64.wrap (IntKind.i64.wrap ((n:Int)+1)+(i:Int))=((n+1+i:Nat):Int):=by rw[xo (n:=(n:Int)+1) (by unfold I64;omega),xo (by unfold I64;omega)];omega
  have e4:(((n+1+i:Nat):Int)).tmod 4=(((n+1+i)%4:Nat):Int):=by rw[jBf (by omega)];omega
  rw[e3,y8]at o;have u:=xd9 (optV (mGet (sKey name ((n+1+i)%4)) s.m)) (by have:=qju s.m hm (sKey name ((n+1+i)%4));omega);obtain⟨w1,M⟩:=qss (optV (mGet (sKey name ((n+1+i)%4)) s.m));simp only[qi]at u;refine eo2 @e2 @e4 ?_
  (repeat(with_reducible refine ob ?_));refine cl F197 (q79 name ((n+1+i)%4) hn (jC6 _ (by decide))) ?_
  refine eo ?_;refine cl F196 (I (sKey name ((n+1+i)%4))) ?_;refine eo ?_;refine cl F198 (u) ?_;refine ez ?_;have ab:ldAt s.m name (n+1+i)=w7 (optV (mGet (sKey name ((n+1+i)%4)) s.m)):=rfl;rw[ab]at o;generalize w7 (optV (mGet (sKey name ((n+1+i)%4)) s.m))=y at u w1 M o⊢;obtain⟨p,e⟩:=y;simp only at w1 M o;refine xf _ (λh=> ?_) (λh=> ?_)
  ·have hb:qg2 s.m name=(xx,4):=by rw[m,o,if_pos (by simpa using h)];rfl
   exact et4 @hb @encQ.eq_1 @xx.eq_1 @List.map_nil.{0,0}
  ·rw[if_neg (by simpa using h),jFg]at o;refine eo ?_;refine⟨⟨(i+1,l++ [p]),v,by simp[x2],λq t=> ?_,?_⟩,?_,by dsimp only;omega⟩
   ·rcases jAs.1 t with t|t
    ·exact J q t
    ·simp at t;subst t;exact⟨w1,M⟩
   ·rw[o];congr 1;funext z;simp
   ·exact et8 @SR2.eq_1 @rsO.eq_1 @vt.eq_1 @jA2.{0,0} @List.map_cons.{0,0} @List.map_nil.{0,0} @qi.eq_1 (qe (show i<9223372036854775807 by omega))
 have v:i=w:=by simp at h;omega
 subst v;rw[jDe,y8]at o;rw[o,Option.map_some,jAu]at m;generalize t:(⟨((n+i:Nat):Int),(n:Int),l⟩:Qu)=q;have hqe:encQ q= [.int .i64 ((n+i:Nat):Int),.int .i64 (n:Int),.sl 9 (l.map qi)]:=by rw[<- t];rfl
 have R:q.Sm:=by rw[<- t];exact⟨by simp only;omega,λp hp=>(J p hp).2⟩
 simp only[xjl,t]at m;have O:=qnx q R;rw[qv2]at O;simp only[hqe]at O;refine eo ?_;refine cl F199 (O) ?_;refine ez ?_;refine xf _ (λh=> ?_) (λh=> ?_)
 ·have hb:qg2 s.m name=(xx,4):=by rw[m,if_neg (by simpa using h)]
  exact et4 @hb @encQ.eq_1 @xx.eq_1 @List.map_nil.{0,0}
 ·have hb:qg2 s.m name=(q,0):=by rw[m,if_pos (by simpa using h)]
  exact et2 @hb @hqe
theorem qjc {α:Type} {z:α} {f:Rd->α×Rd} {d:List UInt8->Option (α×List UInt8)} (hd:qmk z f d) {r:Rd} (hr:r.Ok) (h:(f r).2.failed=false):
  r.failed=false∧ ∃l,d (r.b.drop r.pos)=some ((f r).1,l)∧(f r).2=⟨r.b,r.b.length-l.length,false⟩:=by
 have e:=hd r hr;by_cases i:r.failed=true
 ·rw[if_pos i]at e;rw[e]at h;simp only at h;rw[i]at h;cases h
 ·rw[if_neg i]at e;refine⟨by simpa using i,?_⟩;cases hc:d (r.b.drop r.pos)with
  |none=>rw[hc]at e;rw[e]at h;cases h
  |some x=>
   obtain⟨v,l⟩:=x;rw[hc]at e;simp only at e;exact⟨l,by rw[e],by rw[e]⟩
theorem q4e {r:Rd} (i:r.Ok): ∀n,(qbp n r).2.failed=false->r.b.drop r.pos=(qbp n r).1.flatMap wInt++r.b.drop (qbp n r).2.pos
 |0,_=>by simp[qbp]
 |n+1,h=>by
  obtain⟨e,d,_⟩:=qmr i n;rw[qbp]at h⊢;simp only at h⊢;obtain⟨h1,l,o,m⟩:=qjc qdf e h;have ih:=q4e i n h1;rw[d]at o m;obtain⟨_,p⟩:=qf6 o;have hp:=e.pos;rw[d]at hp;obtain⟨t1,_⟩:=jp hp p;rw[ih,m,jDs,jAh];simp only[t1];rw[p];simp
theorem q4f {r:Rd} (h:rEnd r=0):r.failed=false∧r.b.length<=r.pos:=by
 unfold rEnd at h;split at h
 ·cases h
 ·rename_i hn;simp only[jA0,decide_eq_true_eq,not_or]at hn;exact⟨by simpa using hn.1,by omega⟩
theorem xjm {s:List UInt8} (hs:s.length<=1000000000) (h:rEnd (qpr s).2=0):s=wd (qpr s).1:=by
 have F:(⟨s,0,false⟩:Rd).Ok:=⟨hs,jAj _⟩;obtain⟨d,p,v⟩:=qmr F 7;have q:=q4e F 7;unfold qpr at h⊢;simp only at h⊢p q;generalize qbp 7 ⟨s,0,false⟩=x at h d p v q⊢;obtain⟨A,r1⟩:=x;simp only at h d p v q⊢;have iV:=qsq d 4;obtain⟨i,e⟩:=q4f h;obtain⟨g1,l1,t,l⟩:=qjc (qy4 6) iV.1 i;obtain⟨f1,l2,f2,u⟩:=qjc (q7v 4) d g1;have G:=q f1;have E:=d.pos;rw[p]at f2 u E;obtain⟨o,_⟩:=q3j (w:=wAV) (λ_ _ _ h=>(xih h).1) f2;obtain⟨t1,_⟩:=jp E o;generalize qd8 4 r1=y at i e t l u o⊢;obtain⟨V,r2⟩:=y;simp only at i e t l u o⊢;subst u;simp only[t1]at t;obtain⟨m,_⟩:=q3j (w:=wInt) (λ_ _ _ h=>(qf6 h).2) t;generalize qc7 6 ⟨s,s.length-l2.length,false⟩=z at i e l m⊢;obtain⟨C,r3⟩:=z;simp only at i e l m⊢;subst l;simp only at e;have B:l1= []:=by
  have q1:=congrArg List.length o;have q3:=congrArg List.length m;rw[jAc]at q3;rw[jAp,jAc]at q1;exact jAy (by omega)
 obtain⟨a0,a1,a2,a3,a4,a5,a6,rfl⟩:=xxp v;rw[List.drop_zero]at G;rw[B,jAu]at m;rw[G,o,m];simp only[wd,zr,pkOf,wAVs,qhe,jEp,jD8,jAh]
theorem q8a {b:List UInt8} (hb:b.length<=1000000000) (h:(w7 b).2=0):qm (w7 b).1=true∧b=(vk (w7 b).1).1:=by
 have hl:=qny b;unfold w7 at h⊢;split at h
 ·rename_i hn;exact absurd h hn
 ·rename_i hn;rw[if_neg hn];split at h
  ·cases h
  ·rename_i d;rw[if_neg d];simp only[jA0,bne_iff_ne,ne_eq,jBd,not_or,jEv,Decidable.not_not]at d;refine⟨d.2,?_⟩;simp only;rw[vk,if_pos d.2];simp only;rw[<- xjm (by omega) d.1];unfold wx at hn⊢;split at hn
   ·simp at hn
   ·rename_i h8;rw[if_neg h8];split at hn
    ·rename_i e;rw[if_pos e,qfq,e,jB5]
    ·simp at hn
theorem xsl {o:Option (List UInt8)} {v:List UInt8} (d:o.isSome=decide ((v.length:Int)>0)) (h2:optV o=v):o=qd9 v:=by
 subst h2;cases o with
 |none=>rfl
 |some w=>
  unfold qd9;rw[if_neg];rfl;intro h;rw[h]at d;simp at d
theorem qs5 (m:Cont) (name:List UInt8): ∀(n k:Nat) {l:List Pk},y8 m name n k=some l->(∀p∈l,p.W∧p.Sm)∧l.length=n∧ ∀i (h:i<l.length),ldAt m name (k+i)=(l[i],0)
 |0,k,l,h=>by
  cases h;exact⟨λp hp=>(by cases hp),rfl,λi hi=>absurd hi (Nat.not_lt_zero _)⟩
 |n+1,k,l,h=>by
  rw[y8]at h;split at h
  ·cases h
  ·rename_i he;obtain⟨t,ht,rfl⟩:=jAb.1 h;obtain⟨h1,h2,h3⟩:=qs5 m name n (k+1) ht;refine⟨λp hp=> ?_,by simp[h2],λi hi=> ?_⟩
   ·rcases jAv.1 hp with rfl|hp
    ·exact qss _
    ·exact h1 p hp
   ·cases i with
    |zero=>
     have:(ldAt m name k).2=0:=by simpa using he
     rw[Nat.add_zero,List.getElem_cons_zero,<- this]
    |succ i=>
     have:=h3 i (by simpa using hi);rw[List.getElem_cons_succ,<- this];congr 1;omega
theorem x0e {q:Qu} (h:kw q=true) (hp: ∀p∈q.items,p.W):q.W:=⟨(quj h).I.1,(quj h).I.2,hp⟩
theorem qs6 {m:Cont} {name:List UInt8} (hn:qdu name=true):qaa m name=(xx,4)∨ ∃q,qaa m name=(q,0)∧kw q=true∧q.W∧Rep m name q∧q.Sm:=by
 unfold qaa;rw[if_neg (by simp[hn])];split
 ·exact .inl rfl
 ·cases hi:y8 m name ((qc1 (mGet (nKey name) m)).1-(qc1 (mGet (nKey name) m)).2).toNat ((qc1 (mGet (nKey name) m)).2.toNat+1)with
  |none=>exact .inl rfl
  |some l=>
   rw[xim];split
   ·exact .inl rfl
   ·rename_i i;simp only[jA0,not_or,jC1,jCf]at i;obtain⟨b1,b2⟩:=i;obtain⟨e,_,_⟩:=qs5 m name _ _ hi;generalize hq:(⟨(qc1 (mGet (nKey name) m)).1,(qc1 (mGet (nKey name) m)).2,l⟩:Qu)=q at b1 b2;unfold qo2 at b1;simp only[jA4,jCf,beq_iff_eq]at b1;have h:q.items=l:=by rw[<- hq]
    refine .inr ⟨q,rfl,b1.1.1,x0e b1.1.1 λp hp=>(e p (by rwa [<- h])).1,⟨xsl b1.1.2 b1.2,λd hd=> ?_⟩,⟨by have:=(quj b1.1.1).few;omega,λp hp=>(e p (by rwa [<- h])).2⟩⟩;have:=zh.1 b2 d hd;unfold qst at this;simp only[jBd,jA4,jCf,beq_iff_eq]at this;exact xsl this.1 this.2
theorem x08 (r:Fin 4) (w:Fin 5) (l i h e:Bool):(∀d:Fin 4,(d.val+4-r.val)%4<w.val-> [l,i,h,e].getD d.val false=true) ->l.toNat+i.toNat+h.toNat+e.toNat=w.val->
  ∀d:Fin 4,¬(d.val+4-r.val)%4<w.val-> [l,i,h,e].getD d.val false=false:=by
 revert r w l i h e;decide+kernel
theorem xzk (r:Fin 4) (w:Fin 5):(decide ((0+4-r.val)%4<w.val)).toNat+(decide ((1+4-r.val)%4<w.val)).toNat+(decide ((2+4-r.val)%4<w.val)).toNat+(decide ((3+4-r.val)%4<w.val)).toNat=w.val:=by
 revert r w;decide+kernel
theorem xax (m:Cont) (name:List UInt8):yp m name 4=(mGet (sKey name 0) m).isSome.toNat+(mGet (sKey name 1) m).isSome.toNat+(mGet (sKey name 2) m).isSome.toNat+(mGet (sKey name 3) m).isSome.toNat:=by
 have h: ∀b:Bool,(if b=true then 1 else 0)=b.toNat:=by decide
 simp only[yp,h,Nat.zero_add]
theorem qp8 {q:Qu} (h:QV q) {d:Nat} (hd:d<4):(∃i:Nat,∃hi:i<q.items.length,(q.cons.toNat+1+i)%4=d∧wv q d=(vk q.items[i]).1∧wv q d≠ []∧(d+4-(q.cons.toNat+1)%4)%4<q.items.length)∨(wv q d= []∧ ¬(d+4-(q.cons.toNat+1)%4)%4<q.items.length):=by
 have h0:=h.c0;have h4:=h.few;by_cases e:(d+4-(q.cons.toNat+1)%4)%4<q.items.length
 ·have hs:=xip h e (d:=d) (by rw[jBf (by omega)];omega);exact .inl ⟨_,e,by omega,hs,by rw[hs];exact xio (h.it _ e).1,e⟩
 ·refine .inr ⟨xiq h λi hi=> ?_,e⟩;rw[jBf (by omega)];omega
theorem xjn {m:Cont} {name:List UInt8} {q:Qu} (h:QV q) (hr:mGet (nKey name) m=qd9 (ky q)):qzl (mGet (nKey name) m)=some (q.acc,q.cons):=by
 obtain⟨z,u⟩:=h.I;rw[hr];by_cases d:q.acc=0∧q.cons=0
 ·have:ky q= []:=by unfold ky;rw[if_pos d]
  rw[this];simp only[qd9,if_true,qzl,d.1,d.2]
 ·have e:ky q=wInt q.acc++wInt q.cons:=by unfold ky;rw[if_neg d]
  have hp:=qpx q.acc;have l1:=xg z;have l2:=xg u;have i:ky q≠ []:=by rw[e];intro h;have:=congrArg List.length h;rw[jAc,List.length_nil]at this;omega
  have A:(ky q).length<=1000000000:=by rw[e,jAc];omega
  have t:=wj qdf (r:=⟨ky q,0,false⟩) ⟨A,jAj _⟩ rfl (v:=q.acc) (l:=wInt q.cons) (by simp only[List.drop_zero,e];exact qb3 z _);have ht:=(jp (b:=ky q) (p:=0) (q:=wInt q.acc) (l:=wInt q.cons) (jAj _) (by rw[List.drop_zero,e])).1;have o:=wj qdf (r:=⟨ky q,(ky q).length-(wInt q.cons).length,false⟩) ⟨A,jCt _ _⟩ rfl (v:=q.cons) (l:= []) (by simp only[ht];have:=qb3 u [];rwa [jAu]at this);simp only at t o;have ha:(q.acc==0)=false:=by
   rw[beq_eq_false_iff_ne];have:=h.c0;have:=h.c1;omega
  simp only[qd9,if_neg i,qzl,t,o];rw[if_neg];simp[rEnd,ha]
theorem xjo {m:Cont} {name:List UInt8} {q:Qu} (h:kw q=true) (hw:q.W) (hn:qdu name=true) (o:Rep m name q):qg2 m name=(q,0):=by
 have e:=quj h;have l:=e;obtain⟨c0,c1,c2,c3,c4,_⟩:=l;have hi:=qnz e hw o q.items.length 0 (by omega);have hp: ∀d,d<4->(mGet (sKey name d) m).isSome=decide ((d+4-(q.cons.toNat+1)%4)%4<q.items.length):=λd p=>by
  rw[o.2 d p,qy5];rcases qp8 e p with⟨i,hi,u,t,e3,e4⟩|⟨u,t⟩
  ·have:=jCl.2 e3;rw[decide_eq_true e4,decide_eq_true_iff];omega
  ·rw[u,decide_eq_false t];rfl
 have hf:yp m name 4=q.items.length:=by
  rw[xax,hp 0 (by omega),hp 1 (by omega),hp 2 (by omega),hp 3 (by omega)];exact xzk ⟨(q.cons.toNat+1)%4,jC6 _ (by decide)⟩ ⟨q.items.length,by omega⟩
 unfold qg2;rw[if_neg (by simp[hn]),xjn e o.1];simp only;rw[hf,if_neg,show q.cons.toNat+1=q.cons.toNat+1+0 from rfl,hi,List.drop_zero,xjl,if_pos h];rw[xo (by unfold I64;omega)];simp only[jA0,decide_eq_true_eq,bne_iff_ne,not_or,Decidable.not_not];exact⟨⟨by omega,by omega⟩,by omega⟩
theorem qs7 {m:Cont} {name:List UInt8} (O:m.Good) (hn:qdu name=true):qg2 m name=(xx,4)∨ ∃q,qg2 m name=(q,0)∧kw q=true∧q.W∧Rep m name q:=by
 have hm: ∀x∈m.l,x.2.2.length<=1000000:=λx e=>by have:=(O.small x e).2.2;omega
 unfold qg2;rw[if_neg (by simp[hn])];cases e:qzl (mGet (nKey name) m)with
 |none=>exact .inl rfl
 |some x=>
  obtain⟨a,c⟩:=x;simp only;split
  ·exact .inl rfl
  ·rename_i I;simp only[jA0,decide_eq_true_eq,bne_iff_ne,ne_eq,not_or,Decidable.not_not]at I;cases hi:y8 m name (yp m name 4) (c.toNat+1)with
   |none=>exact .inl rfl
   |some l=>
    rw[xjl];split
    ·rename_i Y;obtain⟨w1,w2,w3⟩:=qs5 m name _ _ hi;have C:=quj Y;have hw:(⟨a,c,l⟩:Qu).W:=x0e Y λp hp=>(w1 p hp).1;refine .inr ⟨_,rfl,Y,hw,?_,?_⟩
     ·have E:=C.c0;have ae:=C.c1;simp only at E ae;cases I:mGet (nKey name) m with
      |none=>
       rw[I]at e;cases e;rfl
      |some b=>
       rw[I]at e;unfold qzl at e;simp only at e;split at e
       ·cases e
       ·rename_i B;simp only[jA0,bne_iff_ne,ne_eq,beq_iff_eq,not_or,Decidable.not_not]at B;simp only[jA8,jCw]at e;have ag:b.length<=1000000000:=by
         have:=qju m hm (nKey name);rw[I]at this;simp only[optV,Option.getD_some]at this;omega
        have r0:(⟨b,0,false⟩:Rd).Ok:=⟨ag,jAj _⟩;have r1:=vm r0;obtain⟨z1,U⟩:=q4f B.1;obtain⟨g1,l1,g2,g3⟩:=qjc qdf r1.1 z1;obtain⟨f1,l2,f2,f3⟩:=qjc qdf r0 g1;simp only[List.drop_zero]at f2 f3;obtain⟨_,t⟩:=qf6 f2;obtain⟨t1,_⟩:=jp (b:=b) (p:=0) (jAj _) (by rw[List.drop_zero];exact t);rw[f3]at g2 g3 U e;rw[g3]at U;simp only[t1]at g2 U;obtain⟨_,o⟩:=qf6 g2;rw[e.1]at t;rw[e.2]at o;have X:=congrArg List.length t;have q2:=congrArg List.length o;rw[jAc]at X q2;have ac:l1= []:=jAy (by omega);rw[ac,jAu]at o;have ab: ¬(a=0∧c=0):=λh=>B.2 (by rw[e.1];exact h.1);have Z:ky ⟨a,c,l⟩=b:=by unfold ky;rw[if_neg ab,t,o]
        rw[Z,qd9,if_neg];intro af;have:=qpx a;rw[af]at X;simp only[List.length_nil]at X;omega
     ·have M:=C.few;have E:=C.c0;simp only at M E;have G: ∀d,d<4->(d+4-(c.toNat+1)%4)%4<l.length->mGet (sKey name d) m=qd9 (wv ⟨a,c,l⟩ d):=λd A F=>by
       rcases qp8 C A with⟨i,hi,t,o,z,_⟩|⟨_,o⟩
       ·simp only at hi t o;have u:=w3 i hi;unfold ldAt at u;rw[t]at u;have hol:=qju m hm (sKey name d);obtain⟨_,R⟩:=q8a (by omega) (show(w7 (optV (mGet (sKey name d) m))).2=0 by rw[u]);rw[u]at R;simp only at R;rw[<- o]at R;rw[<- R]at z⊢;cases O:mGet (sKey name d) m with
        |none=>rw[O]at z;exact absurd rfl z
        |some v=>
         rw[O]at z;simp only[optV,Option.getD_some]at z⊢;rw[qd9,if_neg z]
       ·exact absurd F o
      have ad:=xax m name;have J:=x08 ⟨(c.toNat+1)%4,jC6 _ (by decide)⟩ ⟨l.length,by omega⟩ (mGet (sKey name 0) m).isSome (mGet (sKey name 1) m).isSome (mGet (sKey name 2) m).isSome (mGet (sKey name 3) m).isSome
       (λd A=>by
        have hs:=G d.val d.isLt A;have B:(mGet (sKey name d.val) m).isSome=true:=by
         rw[hs,qy5];rcases qp8 C d.isLt with⟨i,hi,t,o,z,_⟩|⟨_,o⟩
         ·have:=jCl.2 z;simp only[decide_eq_true_eq];omega
         ·exact absurd A o
        obtain⟨d,hlt⟩:=d;have M:d=0∨d=1∨d=2∨d=3:=by omega
        rcases M with rfl|rfl|rfl|rfl<;>exact B) (by rw[<- ad];exact w2.symm)
      intro d A;by_cases F:(d+4-(c.toNat+1)%4)%4<l.length
      ·exact G d A F
      ·have aa:=J ⟨d,A⟩ F;have B:(mGet (sKey name d) m).isSome=false:=by
        have M:d=0∨d=1∨d=2∨d=3:=by omega
        rcases M with rfl|rfl|rfl|rfl<;>exact aa
       rcases qp8 C A with⟨i,hi,t,o,z,e4⟩|⟨t,o⟩
       ·exact absurd e4 F
       ·rw[t];simpa[qd9]using B
    ·exact .inl rfl
theorem q8b {m:Cont} (hg:m.Good) (name:List UInt8):qg2 m name=qaa m name:=by
 cases hn:qdu name with
 |false=>
  unfold qg2 qaa;rw[if_pos (by rw[hn];rfl),if_pos (by rw[hn];rfl)]
 |true=>
  rcases qs6 (m:=m) hn with d|⟨q,d,h2,h3,h4,_⟩
  ·rcases qs7 hg hn with e|⟨q,e,g2,g3,g4⟩
   ·rw[d,e]
   ·rw[xad g2 g3 hn g4]at d;cases d
  ·rw[d,xjo h2 h3 hn h4]
theorem qn4 {α:Type} {enc:α->List D} {Q:α->Prop}: ∀{rows:List (List D)},(∀r∈rows,∃x,r=enc x∧Q x) -> ∃l:List α,rows=l.map enc∧ ∀x∈l,Q x
 | [],_=>⟨[],rfl,by simp⟩
 |r::rows,h=>by
  obtain⟨x,rfl,hx⟩:=h r (by simp);obtain⟨l,rfl,hl⟩:=qn4 (enc:=enc) (Q:=Q) (rows:=rows) (λr hr=>h r (by simp[hr]));exact⟨x::l,rfl,by simpa using ⟨hx,hl⟩⟩
theorem xjp {n:Int} (h:(Lit.int .i64 n).wf=true):I64 n:=by
 have h1:IntKind.i64.min= -9223372036854775808:=by decide
 have h2:IntKind.i64.max=9223372036854775807:=by decide
 simp only[Lit.wf,jAf,decide_eq_true_eq,h1,h2]at h;exact h
theorem xzl {n:Int} (h:(Lit.int .u8 n).wf=true):0<=n∧n<=255:=by
 have h1:IntKind.u8.min=0:=by decide
 have h2:IntKind.u8.max=255:=by decide
 simp only[Lit.wf,jAf,decide_eq_true_eq,h1,h2]at h;exact h
theorem xx2 {n:Nat} {d:List D} (h:Shp prog (n+1) 3 d): ∃x,d= [.int .i64 x]∧I64 x:=by
 simp only[Shp,underlying3]at h;obtain⟨x,rfl,h⟩:=h;exact⟨x,rfl,xjp h⟩
theorem xuy {n:Nat} {d:List D} (h:Shp prog (n+1) 5 d): ∃x:Nat,d= [.int .u8 (x:Nat)]∧x<256:=by
 simp only[Shp,underlying5]at h;obtain⟨x,rfl,h⟩:=h;have:=xzl h;refine⟨x.toNat,?_,by omega⟩;rw[jEq this.1]
theorem xuz {n:Nat} {d:List D} (h:Shp prog (n+1) 5 d): ∃c:UInt8,d= [ju c]∧True:=by
 obtain⟨x,rfl,hx⟩:=xuy h;refine⟨UInt8.ofNat x,?_,trivial⟩;simp[ju,UInt8.toNat_ofNat];omega
theorem q4g (s:List UInt8):s.map (λc=> [ju c])=qd s:=by
 induction s with
 |nil=>rfl
 |cons c s ih=>rw[List.map_cons,ih];rfl
theorem xp6:prog.cellsOf 5=1:=by kernel_rfl
theorem xay {n:Nat} {d:List D} (h:Shp prog (n+2) 68 d): ∃s:List UInt8,d= [.sl 1 (qd s)]∧s.length<=maxLen:=by
 rw[Shp]at h;simp only[underlying68]at h;obtain⟨r,rfl,l,h⟩:=h;obtain⟨s,rfl,_⟩:=qn4 λr hr=>xuz (h r hr);exact⟨s,by rw[xp6,q4g],by simpa using l⟩
theorem xp7 (s:List UInt8):argS prog 68 [.sl 1 (qd s)]= .d (.sl 1 (qd s)):=by simp only[argS,underlying68];rfl
end Go.Proofs.YtkcdbcbpbolgkaaGreatDoor
