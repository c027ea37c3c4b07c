/- Texts Ze, Zg, Zj, Zk, Zl, Yk, Vb, Vd, Ve, Ci, Cj, Vr, Vp, Vf, Vg, Vh, Zm, Ws, Lo. -/
import Derived.Test.YtkcdbcbpbolgkaaGreatDoorMrp
set_option linter.unusedSimpArgs false
set_option linter.unusedVariables false
set_option linter.defProp false
set_option maxRecDepth 100000
noncomputable section
namespace Go.Proofs.YtkcdbcbpbolgkaaGreatDoor
open Tryz
open Go.Abs
def d289:=cut prog f289 news
@[go_sem] def E289:=qm d289
def F289:=fnC d289 follows func289
def d248:=cut prog f248 news
@[go_sem] def E248:=qm d248
def F248:=fnC d248 follows func248
def d181:=cut prog f181 news
@[go_sem] def E181:=qm d181
def F181:=fnC d181 follows func181
def qcd (l:List (List UInt8)):List (List D):=l.map λr=> [.sl 1 (qe r)]
theorem qxf (l:List (List UInt8)):D.noPtrR (qcd l)=true:=x7 (λr=>by simp only[D.noPtrL,D.noPtr,vt,jBu]) l
theorem q48 (l:List (List UInt8)):(qcd l).length=l.length:=by simp[qcd]
theorem q49:qcd []= []:=rfl
theorem q1j (l:List (List UInt8)) (r:List UInt8):qcd l++ [[.sl 1 (qe r)]]=qcd (l++ [r]):=by simp[qcd]
theorem qxg (l:List Nat):D.noPtrR (qab l)=true:=x7 (λ_=>rfl) l
theorem q5a (l:List Nat):(qab l).length=l.length:=by simp[qab]
theorem q5b:qab []= []:=rfl
attribute [go_sem] qxf q48 q49 qxg q5a q5b
def xe8 (b:List UInt8) (s:Rds):St:=
 ⟨[(0,true,.d (.sl 1 (qe b))),(2,true,.own 0 1 (qcd s.recs)),(3,true,.own 1 1 (qab s.ends)),(4,true,.d (.int .i64 0)),(5,true,.d (.int .u64 (s.seed:Nat))),(6,true,.own 2 1 (qe s.now)),(7,true,.d (.int .i64 (s.pos:Nat)))],[],[0,1,2],1⟩
theorem xpl (b:List UInt8) (hb:b.length<=1000000000):qh prog 289 [.d (.sl 1 (qe b))] [] (.tup [.d (.sl 1 (qcd (qaa b rds0).1.recs)),.d (.sl 1 (qab (qaa b rds0).1.ends)),.d (.int .i64 (qaa b rds0).2)]) []:=by
 refine F289.goT ?_;refine ez ?_;refine qk (λi:{s:Rds//s.Ok b∧qaa b s=qaa b rds0}=>xe8 b i.val) (λi=>b.length-i.val.pos) ⟨rds0,qjt b,rfl⟩ ?_ (λi=> ?_)
 ·exact et5 @xe8.eq_1 @rds0.eq_1 @xsp.eq_1 @jAp @xa
 obtain⟨s,hs,v⟩:=i;obtain⟨q1,F,q3,q4,q5,q6,q7⟩:=hs;have w1:IntKind.i64.wrap ((s.pos:Int)+32)=((s.pos+32:Nat):Int):=by rw[x9 (by unfold I64;omega)];omega
 have w2:IntKind.i64.wrap ((s.pos:Int)+24)=((s.pos+24:Nat):Int):=by rw[x9 (by unfold I64;omega)];omega
 refine ez2 @xe8.eq_1 @w1 ?_;refine xp _ (λhc=> ?_) (λhc=> ?_)
 ·have l:s.pos+32<=b.length:=by simp at hc;omega
  have hh:(je b s.pos).length=24:=by rw[je,jAl,jAq];omega
  have e1:((s.pos:Int)+24).toNat-s.pos=24:=by omega
  have e2:((s.pos:Int)+32).toNat-((s.pos:Int)+24).toNat=8:=by omega
  have e5:((s.pos:Int)+24).toNat=s.pos+24:=by omega
  have e3:((qe b).drop s.pos).take 24=qe (je b s.pos):=by rw[vm,zy];rfl
  have e4:((qe b).drop (s.pos+24)).take 8=qe (q1b b s.pos):=by rw[vm,zy];rfl
  refine eo6 @w2 @e1 @e2 @e3 @e4 @jA6 ?_
  (repeat(with_reducible refine ob ?_));refine cl F161 (xjv s.seed (je b s.pos) F (by omega)) ?_
  refine ez5 @qqw @e1 @e2 @e4 @e5 ?_;have I:=xe6 (be8 (fnv s.seed (je b s.pos))) (q1b b s.pos);rw[kw]at I;have e4b:((qe b).drop ((s.pos:Int)+24).toNat).take 8=qe (q1b b s.pos):=by rw[e5];exact e4
  refine ez5 @w1 @w2 @kw @e2 @e4b ?_;refine⟨by omega,?_⟩;refine clO [0] F190 I ?_;refine ez ?_;refine xp _ (λe=> ?_) (λe=> ?_)
  ·have o:cErr b s=some 5:=by
    unfold cErr;rw[if_neg (by simpa using e)]
   have hr:=v.symm.trans (qri l o);exact et1 @hr
  have u:be8 (fnv s.seed (je b s.pos))=q1b b s.pos:=by simpa using e
  refine eo ?_;refine cl F328 (q1i (je b s.pos) s.now.length hh (by omega)) ?_;refine ez ?_;refine xp _ (λe=> ?_) (λe=> ?_)
  ·have o:cErr b s=some 4:=by
    unfold cErr;rw[if_pos u,if_neg (by simpa using e)]
   have hr:=v.symm.trans (qri l o);exact et1 @hr
  have t:qgr (je b s.pos) s.now.length=true:=by simpa using e
  have o:cErr b s=none:=by
   unfold cErr;rw[if_pos u,if_pos t]
  obtain⟨p1,p2,p3,p4,p5,p6⟩:=qcp.1 t;have C:=xe5 (h:=je b s.pos) (by omega);have z:=xng (h:=je b s.pos) (by omega);have w3:IntKind.i64.wrap ((numB (je b s.pos):Nat):Int)=(numB (je b s.pos):Nat):=x9 (by unfold I64;omega);have w4:IntKind.i64.wrap (2+((numB (je b s.pos):Nat):Int))=((2+numB (je b s.pos):Nat):Int):=by rw[x9 (by unfold I64;omega)];omega
  have e6:(2+((numB (je b s.pos):Nat):Int)).toNat-2=numB (je b s.pos):=by omega
  have e7:((qe (je b s.pos)).drop 2).take (numB (je b s.pos))=qe (((je b s.pos).drop 2).take (numB (je b s.pos))):=by rw[vm,zy]
  have hln:(((je b s.pos).drop 2).take (numB (je b s.pos))).length<=22:=by rw[jAl];omega
  refine ez5 (jm (je b s.pos) (show 0<(je b s.pos).length by omega)) (jm (je b s.pos) (show 1<(je b s.pos).length by omega)) z.symm C.symm @w3 ?_;refine ez4 @w4 @e6 @e7 @zc ?_;refine⟨by omega,by omega,by omega,by omega,?_⟩;have E:s.now++((je b s.pos).drop 2).take (numB (je b s.pos))=cNow b s:=rfl;rw[E];have hcl:=q7n o;have hok:=q7o ⟨q1,F,q3,q4,q5,q6,q7⟩ l o;have q:=(qmu l o).symm.trans v;refine xp _ (λe=> ?_) (λe=> ?_)
  ·have m:qdk (je b s.pos)=2:=by simp at e;omega
   have hn:qmt b s=⟨s.pos+32,fnv s.seed (je b s.pos),[],s.recs++ [cNow b s],s.ends++ [s.pos+32]⟩:=by rw[qmt,if_pos m]
   refine eo1 @q1j ?_;refine⟨⟨qmt b s,hok,q⟩,?_,by dsimp only;rw[hn];dsimp only;omega⟩;have hes:qab s.ends++ [[.int .i64 ((s.pos:Int)+32)]]=qab (s.ends++ [s.pos+32]):=by simp[qab]
   exact et5 @xe8.eq_1 @hn @w1 @hes @xa
  ·have m: ¬qdk (je b s.pos)=2:=by simp at e;omega
   have hn:qmt b s=⟨s.pos+32,fnv s.seed (je b s.pos),cNow b s,s.recs,s.ends⟩:=by rw[qmt,if_neg m]
   refine ez ?_;refine⟨⟨qmt b s,hok,q⟩,?_,by dsimp only;rw[hn];dsimp only;omega⟩;exact et3 @xe8.eq_1 @hn @w1
 ·have p:=v.symm.trans (qh1 (b:=b) (s:=s) (by simp at hc;omega));refine eo ?_;refine cl F290 (xe7 s.ends (by omega)) ?_;refine ez ?_;have G:s.ends.getLastD 0=s.used:=rfl;refine xp _ (λe=> ?_) (λe=> ?_)
  ·have hr:qaa b rds0=(s,4):=by
    rw[p,if_neg];intro h;rw[<- G]at h;rw[h]at e;simp at e
   exact et1 @hr
  ·have hr:qaa b rds0=(s,0):=by
    rw[p,if_pos];rw[<- G];simp only[bne_eq_false_iff_eq]at e;omega
   exact et1 @hr
theorem xar (b:List UInt8) (hb:b.length<=1000000000):qh prog 248 [.d (.sl 1 (qe b))] [] (.tup [.d (.sl 1 (qcd (qaa b rds0).1.recs)),.d (.int .i64 ((qaa b rds0).1.used:Nat)),.d (.int .i64 (qaa b rds0).2)]) []:=by
 have hok:=qgs (qjt b);have h1:=hok.ends;have h2:=hok.pos;refine F248.goT ?_;refine eo ?_;refine cl F289 (xpl b hb) ?_;refine eo ?_;refine cl F290 (xe7 (qaa b rds0).1.ends (by omega)) ?_;exact et1 @Rds.used.eq_1
def qeq (b:List UInt8):List (List UInt8):=(qaa b rds0).1.recs
def qf4 (b:List UInt8):Nat:=(qaa b rds0).1.used
theorem q7r (b:List UInt8):qf4 b<=b.length:=jBj (qgs (qjt b)).used (qgs (qjt b)).pos
theorem xe9 (b:List UInt8):(qeq b).length<=b.length:=jBj (qgs (qjt b)).recs (qgs (qjt b)).pos
theorem qrm (b:List UInt8): ∀r∈qeq b,r.length<=2000:=(qgs (qjt b)).small
theorem qul (b:List UInt8) (hb:b.length<=1000000000):qh prog 181 [.d (.sl 1 (qe b))] [] (.tup [.d (.agg (v7 (b.take (qf4 b)) (qf4 b))),.d (.sl 1 (qcd (qeq b)))]) []:=by
 have e:=xar b hb;have hu:=q7r b;change qh prog 248 [.d (.sl 1 (qe b))] [] (.tup [.d (.sl 1 (qcd (qeq b))),.d (.int .i64 (qf4 b:Nat)),.d (.int .i64 (qaa b rds0).2)]) []at e;refine F181.goT ?_;refine eo ?_;refine cl F248 (e) ?_;have e1:((qe b).drop 0).take (qf4 b-0)=qe (b.take (qf4 b)):=by rw[List.drop_zero,zy,jCt]
 refine eo2 @zy @jCt ?_
 (repeat(with_reducible refine ob ?_));refine cl F127 (wp (b.take (qf4 b)) (by rw[jAl];omega)) ?_
 exact et1 @v7.eq_1
def d105:=cut prog f105 news
@[go_sem] def E105:=qm d105
def F105:=fnC d105 follows func105
def qs9:Cont->List (List UInt8) ->Option Cont
 |m,[]=>some m
 |m,b::l=>if(kj b).2≠0 then none else if(jt m (kj b).1).2=false then none else qs9 (jt m (kj b).1).1 l
def qg7 (d:List UInt8):Option Sto:=(qs9 qch (qeq d)).map λm=>⟨d.take (qf4 d),(qf4 d:Nat),m⟩
def qrn (d:List UInt8):Int:=if(qg7 d).isSome then 0 else 4
def qro (d:List UInt8):D:=if(qg7 d).isSome then .ptr 1 0 else .nilptr
def qxh (d:List UInt8):List AObj:=match qg7 d with
 |some s=> [mapO s.m,stoO s 0]
 |none=> [.none,.none]
theorem qnw {b:List UInt8} (hb:b.length<=1000000000) (h:(kj b).2=0):(kj b).1.length<=20∧ ∀o∈(kj b).1,kh o=true:=by
 have h1:=qxd hb h;obtain⟨k1,k2,_⟩:=v8 (by rw[h1]:(qx (kj b).1).2=0);exact⟨k1,k2⟩
theorem q1k (l:List (List UInt8)) {i:Nat} (h:i<l.length):(qcd l).getD i []= [.sl 1 (qe l[i])]:=qj (λr:List UInt8=> [D.sl 1 (qe r)]) l h []
def xky (e:List UInt8) (i:Nat) (m:Cont):St:=
 ⟨[(4,true,.d (.ptr 1 0)),(21,true,.d (.sl 1 (qcd (qeq e)))),(22,true,.d (.int .i64 (qeq e).length)),(23,true,.d (.int .i64 (i:Nat)))],[mapO m,stoO ⟨e.take (qf4 e),(qf4 e:Nat),m⟩ 0],[],1⟩
theorem xfa (e:List UInt8) (v:e.length<=1000000000):qh prog 105 [.d (.sl 1 (qe e))] [] (.tup [.d (qro e),.d (.int .i64 (qrn e))]) (qxh e):=by
 have k0:=xpa;have hln:=xe9 e;simp only[stoO,mapO]at k0;refine F105.goT ?_;refine ez ?_;refine clO [0,1] F28 k0 ?_;refine eo ?_;first|refine cl F181 (qul e v) ?_|refine clF F181 (qul e v) (λ_=>by exact et3 @qr.eq_1 @j0.eq_1 @zq.eq_1) ?_
 refine ez1 @v7.eq_1 ?_;refine qk (λx:{x:Nat×Cont//x.1<=(qeq e).length∧qs9 x.2 ((qeq e).drop x.1)=qs9 qch (qeq e)}=>xky e x.val.1 x.val.2) (λx=>(qeq e).length-x.val.1) ⟨(0,qch),jAi _,by simp⟩ ?_ (λx=> ?_)
 ·exact et5 @xky.eq_1 @stoO.eq_1 @mapO.eq_1 @newS.eq_1 @jAp
 obtain⟨⟨i,m⟩,hi,h⟩:=x;simp only at hi h;refine ez3 @xky.eq_1 @stoO.eq_1 @mapO.eq_1 ?_;refine xp _ (λhc=> ?_) (λhc=> ?_)
 ·have l:i<(qeq e).length:=by simpa using hc
  have hr:=qrm e _ (jAg l);rw[jBn l,qs9]at h;simp only[q1k _ l,go_sem,simprocAttr]
  (repeat(with_reducible refine ob ?_))
  (repeat(with_reducible refine ob ?_));first|refine cl F182 (qug (qeq e)[i] (by omega)) ?_|refine clF F182 (qug (qeq e)[i] (by omega)) (λ_=>by exact et3 @qr.eq_1 @j0.eq_1 @zq.eq_1) ?_
  refine ez ?_;by_cases p:(kj (qeq e)[i]).2=0
  ·rw[if_neg (by simpa using p)]at h;obtain⟨g1,g2⟩:=qnw (by omega) p;have q:=q61 m (kj (qeq e)[i]).1 (by omega) (λo ho=>by have:=(vz.1 (g2 o ho)).2.2.1;omega);simp only[mapO]at q;have hz:(((kj (qeq e)[i]).2:Int) !=0)=false:=by rw[p];rfl
   refine eo1 @hz ?_;refine clO [0] F87 (q) ?_ (hfit:=by first|exact⟨qd,trivial⟩|exact⟨qd,qd,trivial⟩|(refine ev3 @qr.eq_1 @j0.eq_1 @zq.eq_1 ?_;try exact⟨⟩))
   refine ez ?_;refine xp _ (λu=> ?_) (λu=> ?_)
   ·rw[if_pos (by simpa using u)]at h;have hs:qg7 e=none:=by rw[qg7,<- h];rfl
    have hP:qro e= .nilptr:=by rw[qro,hs];rfl
    have hE:qrn e=4:=by rw[qrn,hs];rfl
    have hO:qxh e= [.none,.none]:=by rw[qxh,hs]
    exact et3 @hP @hE @hO
   ·rw[if_neg (by simpa using u)]at h;refine ez ?_;refine⟨⟨(i+1,(jt m (kj (qeq e)[i]).1).1),l,h⟩,?_,by dsimp only;omega⟩;exact et4 @xky.eq_1 @stoO.eq_1 @mapO.eq_1 (qg (show i<9223372036854775807 by omega))
  ·rw[if_pos (by simpa using p)]at h;have hz:(((kj (qeq e)[i]).2:Int) !=0)=true:=by simpa using p
   have hs:qg7 e=none:=by rw[qg7,<- h];rfl
   refine eo1 @hz ?_;refine xda ?_;refine eo ?_;refine qa2 ?_;have hP:qro e= .nilptr:=by rw[qro,hs];rfl
   have hE:qrn e=4:=by rw[qrn,hs];rfl
   have hO:qxh e= [.none,.none]:=by rw[qxh,hs]
   exact et3 @hP @hE @hO
 ·have t:i=(qeq e).length:=by
   have:(qeq e).length<=i:=by simpa using hc
   omega
  subst t;rw[jC0,qs9]at h;have hs:qg7 e=some ⟨e.take (qf4 e),(qf4 e:Nat),m⟩:=by rw[qg7,<- h];rfl
  have hP:qro e= .ptr 1 0:=by rw[qro,hs];rfl
  have hE:qrn e=0:=by rw[qrn,hs];rfl
  have hO:qxh e= [mapO m,stoO ⟨e.take (qf4 e),(qf4 e:Nat),m⟩ 0]:=by rw[qxh,hs]
  exact et5 @hP @hE @hO @stoO.eq_1 @mapO.eq_1
theorem xkz {e:List UInt8} {s:Sto} (hb:e.length<=1000000000) (h:qg7 e=some s):qh prog 105 [.d (.sl 1 (qe e))] [] (.tup [.d (.ptr 1 0),.d (.int .i64 0)]) [mapO s.m,stoO s 0]:=by
 have:=xfa e hb;have hP:qro e= .ptr 1 0:=by rw[qro,h];rfl
 have hE:qrn e=0:=by rw[qrn,h];rfl
 rw[hP,hE,qxh,h]at this;exact this
theorem xpm {e:List UInt8} (hb:e.length<=1000000000) (h:qg7 e=none):qh prog 105 [.d (.sl 1 (qe e))] [] (.tup [.d .nilptr,.d (.int .i64 4)]) [.none,.none]:=by
 have:=xfa e hb;have hP:qro e= .nilptr:=by rw[qro,h];rfl
 have hE:qrn e=4:=by rw[qrn,h];rfl
 rw[hP,hE,qxh,h]at this;exact this
theorem qum: ∀(l:List (List UInt8)) {m m':Cont},(∀r∈l,r.length<=2000) ->m.Good->qs9 m l=some m'->m'.Good
 | [],m,m',_,hm,h=>by cases h;exact hm
 |b::l,m,m',hl,hm,h=>by
  rw[qs9]at h;split at h
  ·cases h
  ·rename_i he;split at h
   ·cases h
   ·rename_i ha;have hbl:=hl b jA7;have hg:=qnw (b:=b) (by omega) (by simpa using he);exact qum l (λr hr=>hl r (jA9 _ hr)) (qgi _ hm hg.2 (by simpa using ha)) h
theorem qrp:qch.Good:=(q4p 0).good
theorem qun {d:List UInt8} {s:Sto} (h:qg7 d=some s):s.m.Good∧s.file=d.take (qf4 d)∧s.synced=(qf4 d:Nat):=by
 unfold qg7 at h;rw[jAb]at h;obtain⟨m,hm,rfl⟩:=h;exact⟨qum _ (qrm d) qrp hm,rfl,rfl⟩
def qrq:List En->List (List UInt8) ->Option (List En)
 |m,[]=>some m
 |m,b::l=>if(kj b).2≠0 then none else if(qa3 m (kj b).1).2=false then none else qrq (qa3 m (kj b).1).1 l
theorem q1l: ∀(l:List (List UInt8)) {m:Cont},m.Ok->m.l.length<=400->(qs9 m l).map zt=qrq (zt m) l
 | [],m,_,_=>rfl
 |b::l,m,h,hl=>by
  rw[qs9,qrq];split
  ·rfl
  ·obtain⟨k1,k2⟩:=qii (kj b).1 h hl;rw[<- k1];split
   ·rfl
   ·rename_i ha;obtain⟨k3,k4,k5⟩:=k2 (by simpa using ha);rw[q1l l k4 k5,k3]
theorem qh2:zt qch= []:=jAz (by rw[qlb];rfl)
def eRun:List En->List (List OpS) ->Option (List En)
 |m,[]=>some m
 |m,t::ts=>if(qa3 m t).2=false then none else eRun (qa3 m t).1 ts
theorem qxi: ∀(a b:List (List OpS)) (m:List En),eRun m (a++b)=(eRun m a).bind λm'=>eRun m' b
 | [],b,m=>rfl
 |t::a,b,m=>by
  rw[List.cons_append,eRun,eRun];split
  ·rfl
  ·exact qxi a b _
theorem xk0 {m r:List En} {ts:List (List OpS)} (h:eRun m ts=some r) (j:Nat): ∃r',eRun m (ts.take j)=some r':=by
 rw[<- jB5 j ts,qxi]at h;cases he:eRun m (ts.take j)with
 |none=>rw[he]at h;cases h
 |some r'=>exact⟨r',rfl⟩
theorem quq: ∀(a b:List OpS) (m:List En),qa3 m (a++b)=if(qa3 m a).2=false then([],false)else qa3 (qa3 m a).1 b
 | [],b,m=>rfl
 |o::a,b,m=>by
  rw[List.cons_append,qa3,qa3];split
  ·rfl
  ·exact quq a b _
theorem q1m: ∀(ts:List (List OpS)) (m r:List En),qa3 m ts.flatten=(r,true) ->eRun m ts=some r
 | [],m,r,h=>by
  rw[List.flatten_nil,qa3]at h;cases h;rfl
 |t::ts,m,r,h=>by
  rw[List.flatten_cons,quq]at h;rw[eRun];split at h
  ·cases h
  ·rename_i ha;rw[if_neg ha];exact q1m ts _ r h
theorem q1n: ∀(ts:List (List OpS)) (m:List En),(∀t∈ts,(qx t).2=0) ->qrq m (ts.map wOps)=eRun m ts
 | [],m,_=>rfl
 |t::ts,m,h=>by
  have e:=h t jA7;obtain⟨_,_,he⟩:=v8 e;have d:=qxc e;rw[he]at d;rw[List.map_cons,qrq,d,eRun];simp only[ne_eq,not_true_eq_false,if_false];split
  ·rfl
  ·exact q1n ts _ λx hx=>h x (jA9 _ hx)
def yi (ts:List (List OpS)):List UInt8:=zp (ts.map wOps)
theorem qjv (ts:List (List OpS)) (t:List OpS):yi (ts++ [t])=yu (yi ts) (wOps t):=by rw[yi,jA2,List.map_cons,List.map_nil,quk];rfl
theorem xk1 {ts:List (List OpS)} (h: ∀t∈ts,(qx t).2=0): ∀r∈ts.map wOps,r.length<=2000:=by
 intro r hr;obtain⟨t,ht,rfl⟩:=jAo.1 hr;have d:=qan t;rw[(v8 (h t ht)).2.2]at d;exact d
structure Bk (s:Sto) (ts:List (List OpS)):Prop where
 file:s.file=yi ts
 enc: ∀t∈ts,(qx t).2=0
 run:eRun [] ts=some (zt s.m)
theorem xpn:Bk newS []:=⟨rfl,by simp,by rw[show newS.m=qch from rfl,qh2];rfl⟩
theorem xfb {s:Sto} {ts:List (List OpS)} {l:List OpS} (h:Bk s ts) (i:s.m.Good) (hc:(xh s l).2=0):Bk (xh s l).1 (ts++ [l]):=by
 rcases qgj s l with⟨c1,_⟩|⟨_,c2,c3,c4⟩
 ·exact(c1 hc).elim
 ·obtain⟨e,k2⟩:=qii l i.ok i.few;obtain⟨k3,_,_⟩:=k2 c3;have he:=(v8 c2).2.2;rw[c4];refine⟨?_,λt d=> ?_,?_⟩
  ·simp only[he];rw[qjv,h.file]
  ·rcases jAt.1 d with d|d
   ·exact h.enc t d
   ·simp at d;subst d;exact c2
  ·simp only;rw[qxi,h.run,k3];rw[c3]at e;simp only[Option.bind_some,eRun,<- e,Bool.true_eq_false,if_false]
theorem xpo {s:Sto} {ts:List (List OpS)} (h:Bk s ts):Bk (qmf s) ts:=⟨h.file,h.enc,h.run⟩
theorem q1o {s:Sto} {ts:List (List OpS)} (h:Bk s ts) (k:Nat): ∃(j:Nat) (s':Sto),j<=ts.length∧qg7 (s.file.take k)=some s'∧eRun [] (ts.take j)=some (zt s'.m)∧(yi (ts.take j)).length<=k∧
  s'.file=yi (ts.take j)∧s'.synced=(s'.file.length:Nat)∧ ∀i,i<=ts.length->(yi (ts.take i)).length<=k->i<=j:=by
 obtain⟨j,u,q,p,o,v⟩:=xap (ts.map wOps) k (xk1 h.enc);rw[jAm]at u v;have E:zp (ts.map wOps)=s.file:=h.file.symm;rw[E]at q p;have d: ∀i,(ts.map wOps).take i=(ts.take i).map wOps:=λi=>(jDh ..).symm;rw[d]at q p o;obtain⟨r,C⟩:=xk0 h.run j;have l:=q1l (qeq (s.file.take k)) (m:=qch) qrp.ok (jAi _);rw[qh2]at l;have z:qeq (s.file.take k)=(ts.take j).map wOps:=q;rw[z,q1n _ _ (λt ht=>h.enc t (jBf ht)),C,<- z]at l;rw[jAb]at l;obtain⟨m,hm,he⟩:=l;have hu:qf4 (s.file.take k)=(yi (ts.take j)).length:=p;refine⟨j,⟨(s.file.take k).take (qf4 (s.file.take k)),(qf4 (s.file.take k):Nat),m⟩,u,by rw[qg7,hm];rfl,by rw[C,<- he],o,?_,?_,λi hi hk=>v i hi (by rw[d];exact hk)⟩
 ·simp only[hu];have e:min (yi (ts.take j)).length k=(yi (ts.take j)).length:=jDy o;rw[List.take_take,e];have:=xao (ts.map wOps) j (by rw[jAm];exact u);rw[d,E]at this;exact this
 ·simp only;have:=q7r (s.file.take k);rw[jAl,jDy this]
def kc (l:List OpS):List D:=(l.map qr).flatten
theorem qd8 (l:List OpS):(kc l).length=l.length*3:=by induction l<;>simp_all[kc,qr];omega
theorem qap (l:List OpS):D.noPtrL (kc l)=true:=by
 rw[D.noPtrL_iff];exact λd hd=>(D.noPtrR_iff _).1 (qb6 l) d hd
theorem qcq (l:List OpS):(kc l).all D.isCell=true:=by induction l<;>simp_all[kc,qr,D.isCell]
theorem q1p (l:List OpS) (ex:List D): ∀{i:Nat} (h:i<l.length),((kc l++ex).drop (i*3)).take 3=qr l[i]:=by
 induction l with
 |nil=>intro i h;simp at h
 |cons o l ih=>
  intro i h;have hf:kc (o::l)= .str o.key:: .bool o.del:: .sl 1 (qe o.val)::kc l:=rfl;rw[hf];cases i with
  |zero=>rfl
  |succ i=>
   rw[show(i+1)*3=i*3+1+1+1 by omega];exact ih (by simpa using h)
def q7s (k:FuncId) (l:List OpS) (ex:List D) (f:OpS->Bool) (i:{i:Nat//(l.take i).any f=false}):St:=
 ⟨[(0,true,.d (.ref 0 0 3 l.length)),(1,true,.d (.func (.func k) [] [])),(7,true,.d (.int .i64 l.length)),(8,true,.d (.int .i64 (i.val:Nat)))],[.row ((kc l++ex).map .d)],[],1⟩
theorem xat {k:FuncId} {f:OpS->Bool} (hb:(prog.funcs[k]?).any (λfn=>fn.body.isSome&& !(fn.name== "runtime.NumGoroutine"))=true)
  (hf: ∀v,qh prog k [.d (.agg (qr v))] [] (.d (.bool (f v))) []) (l:List OpS) (ex:List D) (m:D.noPtrL ex=true) (hl:l.length<=maxLen):
  qh prog 231 [.d (.ref 0 0 3 l.length),.d (.func (.func k) [] [])] [.row ((kc l++ex).map .d)] (.d (.int .i64 (idx f l))) [.row ((kc l++ex).map .d)]:=by
 have hlf:=qd8 l;have hnp:D.noPtrL (kc l++ex)=true:=by rw[qav,qap,m];rfl
 refine F231.go ?_;refine ez ?_;refine qk (q7s k l ex f) (λi=>l.length-i.val) ⟨0,rfl⟩ ?_ (λi=> ?_)
 ·exact et2 @q7s.eq_1 @hnp
 obtain⟨i,hi⟩:=i;refine eo1 @q7s.eq_1 ?_;refine xp _ (λh=> ?_) (λh=> ?_)
 ·have e:i<l.length:=by simpa using h
  refine ez4 (q1p l ex e) @jAm.{0,0} @jAc.{0} @hlf ?_;refine⟨by omega,⟨by omega,by omega,rfl⟩,?_⟩;refine xz (hf l[i]) hb (λh=>h) (λ_=>⟨qd,trivial⟩) (by exact et1 @qr.eq_1) rfl rfl ?_;refine eo ?_;refine xp _ (λh=> ?_) (λh=> ?_)
  ·exact et2 (qe3 hi e h) @hnp
  ·refine ez ?_;refine⟨⟨i+1,vl hi e (by simpa using h)⟩,?_,by dsimp only;omega⟩;exact et3 @q7s.eq_1 @hnp (qg (show i<9223372036854775807 by unfold maxLen at hl;omega))
 ·have e:l.length<=i:=by simpa using h
  exact et2 (qe2 hi e) @hnp
theorem qxj {k:FuncId} {f:OpS->Bool} (hb:(prog.funcs[k]?).any (λfn=>fn.body.isSome&& !(fn.name== "runtime.NumGoroutine"))=true)
  (hf: ∀v,qh prog k [.d (.agg (qr v))] [] (.d (.bool (f v))) []) (l:List OpS) (ex:List D) (e:D.noPtrL ex=true) (hl:l.length<=maxLen):
  qh prog 152 [.d (.ref 0 0 3 l.length),.d (.func (.func k) [] [])] [.row ((kc l++ex).map .d)] (.d (.bool (l.any f))) [.row ((kc l++ex).map .d)]:=by
 have hnp:D.noPtrL (kc l++ex)=true:=by rw[qav,qap,e];rfl
 have hc:=xat hb hf l ex e hl;refine F152.go ?_;refine ez ?_;refine clO [0] F231 hc ?_ (hik:=by exact et2 @hnp @D.inKL_noPtr) (hold:=by exact et1 @hnp) (htk:=by exact et1 @hnp);exact et2 @qty @hnp
def xk2 (l:List OpS) (ex:List D) (i:{i:Nat//i<=l.length}):St:=
 ⟨[(0,true,.d (.ref 0 0 3 l.length)),(4,true,.own 0 1 (qe (wInt l.length++(l.take i.val).flatMap wOp))),(17,true,.d (.ref 0 0 3 l.length)),(18,true,.d (.int .i64 l.length)),(19,true,.d (.int .i64 (i.val:Nat)))],[.row ((kc l++ex).map .d)],[0],1⟩
theorem qrr (l:List OpS) (ex:List D) (u:D.noPtrL ex=true) (hl:l.length<=100000):
  qh prog 85 [.d (.ref 0 0 3 l.length)] [.row ((kc l++ex).map .d)] (.tup [.d (.sl 1 (qe (qx l).1)),.d (.int .i64 (qx l).2)]) [.row ((kc l++ex).map .d)]:=by
 have hlf:=qd8 l;have hnp:D.noPtrL (kc l++ex)=true:=by rw[qav,qap,u];rfl
 have hc:=qxj qho qma l ex u (by unfold maxLen;omega);refine F85.goT ?_;by_cases C:l.length=0
 ·have hd:(((l.length:Nat):Int)==0)=true:=by rw[C];rfl
  have hb:qx l=([],1):=by
   unfold qx;rw[if_pos];simp[C]
  refine eo1 @hd ?_;refine xda ?_;refine eo ?_;refine qa2 ?_;exact et3 @hb @xa @hnp
 have hd:(((l.length:Nat):Int)==0)=false:=by rw[beq_eq_false_iff_ne];omega
 refine ez1 @hd ?_;refine clO [0] F152 hc ?_ (hik:=by exact et2 @hnp @D.inKL_noPtr) (hold:=by exact et1 @hnp) (htk:=by exact et1 @hnp);refine eo ?_;refine xp _ (λh=> ?_) (λh=> ?_)
 ·have hb:qx l=([],1):=by
   unfold qx;rw[if_pos];rw[h];simp
  exact et3 @hb @xa @hnp
 have m: ¬(decide (l.length=0)||l.any (λo=> !kh o))=true:=by
  rw[h];simp[C]
 have t: ∀o∈l,kh o=true:=by
  simp only[jA1,not_or,jB3,not_exists,not_and]at m;intro o v;simpa using m.2 o v
 have hwl:=qh9 t;have hil0:=xu (zd (n:=l.length) (by omega));refine ez ?_;refine clA F147 (kg [] l.length (by simp) (zd (by omega))) ?_;refine ez ?_;refine qk (xk2 l ex) (λi=>l.length-i.val) ⟨0,jAi _⟩ ?_ (λi=> ?_)
 ·exact et3 @xk2.eq_1 @List.take_zero.{0} @hnp
 obtain⟨i,hi⟩:=i;refine eo1 @xk2.eq_1 ?_;refine xp _ (λh=> ?_) (λh=> ?_)
 ·have p:i<l.length:=by simpa using h
  have v:=t l[i] (jAg p);obtain⟨p1,p2,p3,_⟩:=vz.1 v;have q:(wInt l.length++(l.take i).flatMap wOp).length<=100000020:=by
   have:=qh9 (l:=l.take i) (λo h=>t o (jBf h));simp only[jAc,jAl]at this⊢;have:min i l.length<=100000:=by omega
   omega
  have k1:=qek l[i].key (by omega);refine ez4 (q1p l ex p) @jAm.{0,0} @hlf @qr.eq_1 ?_;refine⟨by omega,⟨by omega,by omega⟩,?_⟩;refine clA F157 (qjj (wInt l.length++(l.take i).flatMap wOp) l[i].key (by omega)) ?_;refine ez ?_;refine clA F156 (qqq ((wInt l.length++(l.take i).flatMap wOp)++qa7 l[i].key) l[i].del (by simp only[jAc]at q⊢;omega)) ?_;refine ez ?_;refine clA F155 (qnm ((wInt l.length++(l.take i).flatMap wOp)++qa7 l[i].key++ [if l[i].del then 1 else 0]) l[i].val (by simp only[jAc,List.length_cons,List.length_nil]at q⊢;omega)) ?_;refine ez ?_;have e:wInt l.length++(l.take i).flatMap wOp++qa7 l[i].key++ [if l[i].del then 1 else 0]++qa7 l[i].val=wInt l.length++(l.take (i+1)).flatMap wOp:=by
   rw[qfu wOp l p,wOp];simp only[jAj]
  refine⟨⟨i+1,p⟩,?_,by dsimp only;omega⟩;exact et4 @xk2.eq_1 @e @hnp (qg (show i<9223372036854775807 by omega))
 ·have z:i=l.length:=by simp at h;omega
  subst z;refine ez1 @jAs.{0} ?_;have hw:wInt l.length++l.flatMap wOp=wOps l:=rfl;have hw2:(wOps l).length=(wInt l.length).length+(l.flatMap wOp).length:=by rw[wOps,jAc]
  refine eo1 @hw ?_;refine xp _ (λh=> ?_) (λh=> ?_)
  ·have hb:qx l=([],6):=by
    unfold qx;rw[if_neg m,if_pos];simp only[jA1,decide_eq_true_eq]at h⊢;omega
   exact et3 @hb @xa @hnp
  ·have hb:qx l=(wOps l,0):=by
    unfold qx;rw[if_neg m,if_neg];simp only[jA1,jA4,decide_eq_true_eq,decide_eq_false_iff_not]at h⊢;omega
   exact et2 @hb @hnp
def d63r:=cut prog f63 news [30,1000030,41,1000041] [8,14,16]
@[go_sem] def E63r:=qm d63r
def F63r:=fnC d63r follows func63
def d129:=cut prog f129 news
@[go_sem] def E129:=qm d129
def F129:=fnC d129 follows func129
def qci (d:List UInt8) (ops:List OpS):List UInt8:=if(qx ops).2=0 then yu d (qx ops).1 else d
def cOp (e:En):OpS:=⟨e.1,false,e.2⟩
def qjw (x:List UInt8×List OpS) (e:En):List UInt8×List OpS:=if(qx (x.2++ [cOp e])).2≠0 then(qci x.1 x.2,[cOp e])else(x.1,x.2++ [cOp e])
def cAt (l:List En) (i:Nat):List UInt8×List OpS:=(l.take i).foldl qjw ([],[])
def qxk (l:List En):List UInt8:=qci (l.foldl qjw ([],[])).1 (l.foldl qjw ([],[])).2
def qil (s:Sto):Sto:=⟨qxk (qa9 s.m []),(qxk (qa9 s.m [])).length,s.m⟩
theorem qxl (l:List En) {i:Nat} (h:i<l.length):cAt l (i+1)=qjw (cAt l i) l[i]:=by
 unfold cAt;rw[jAk h,jCm];rfl
theorem qxm (e:List UInt8) (ops:List OpS) (ex:List D) (i:D.noPtrL ex=true) (ho:ops.length<=100000) (m:e.length<=100000000):
  qh prog 129 [.d (.ptr 0 0),.d (.ptr 1 0)] [.row [.d (.ref 2 0 3 ops.length)],.row [.d (.sl 1 (qe e)),.d (.int .i64 0)],.row ((kc ops++ex).map .d)] (.tup [])
   [.row [.d .nilsl],.row [.d (.sl 1 (qe (qci e ops))),.d (.int .i64 0)],.row ((kc ops++ex).map .d)]:=by
 have hnp:D.noPtrL (kc ops++ex)=true:=by rw[qav,qap,i];rfl
 have hE:=qrr ops ex i ho;refine F129.goT ?_;refine ez ?_;refine clO [2] F85 hE ?_ (hik:=by exact et2 @hnp @D.inKL_noPtr) (hold:=by exact et1 @hnp) (htk:=by exact et1 @hnp);refine ez1 @hnp ?_;refine xp _ (λh=> ?_) (λh=> ?_)
 ·have l:(qx ops).2=0:=by simpa using h
  have hc:qci e ops=yu e (qx ops).1:=by rw[qci,if_pos l]
  refine eo ?_;first|refine cl F88 (qky e (qx ops).1 0 m (qan ops)) ?_|refine clF F88 (qky e (qx ops).1 0 m (qan ops)) (λ_=>by exact et3 @qr.eq_1 @j0.eq_1 @zq.eq_1) ?_
  exact et3 @v7.eq_1 @hc @hnp
 ·have l: ¬(qx ops).2=0:=by simpa using h
  have hc:qci e ops=e:=by rw[qci,if_neg l]
  exact et2 @hc @hnp
theorem xvx {os:List AObj} {id:Nat} {ops:List OpS} {ex:List D} {o:OpS} {rd:Option Nat} {ok:Prop} (h:qi os id=((kc ops++ex).map .d)):yq os id 3 ops.length ⟨[qr o],rd,ok⟩=(kc (ops++ [o])).map .d:=by
 have hl:=qd8 ops;have h1:kc (ops++ [o])=kc ops++qr o:=by simp[kc]
 unfold yq;rw[h,<- jDh,jBq (by omega),jAr (by omega),h1,jA2];simp
theorem xau {os:List AObj} {id:Nat} {ops:List OpS} {ex:List D} {e:En} {rd:Option Nat} {ok:Prop} (h:qi os id=((kc ops++ex).map .d)):yq os id 3 ops.length ⟨[[.str e.1,.bool false,.sl 1 (qe e.2)]],rd,ok⟩=(kc (ops++ [cOp e])).map .d:=xvx (o:=cOp e) h
structure CIs (i:Nat) (x:List UInt8×List OpS):Prop where
 file:x.1.length<=i*70000
 ops:x.2= []∨(qx x.2).2=0
theorem xvd {e:En} (h:kvOk (0,e.1,e.2)):(qx [cOp e]).2=0:=by
 obtain⟨l,i,d⟩:=h;simp only at l i d;have hp:kh (cOp e)=true:=vz.2 ⟨l,i,d,λh=>by cases h⟩;have hw:=q4e hp;have hi:=xu (zd (n:=1) (by omega));have hl:(wOps [cOp e]).length<=2000:=by
  simp only[wOps,List.flatMap_cons,List.flatMap_nil,jAu,jAc,jBo];omega
 unfold qx;have q1: ¬(decide ([cOp e].length=0)|| [cOp e].any (λo=> !kh o))=true:=by
  rw[List.any_cons,hp];exact jEd
 rw[if_neg q1,if_neg (by simp only[jBo,jA1,decide_eq_true_eq];omega)]
theorem qmw (d:List UInt8) (ops:List OpS):(qci d ops).length<=d.length+70000:=by
 unfold qci;split
 ·exact qq3 _ _ (qan ops)
 ·omega
theorem xk3 {i:Nat} {x:List UInt8×List OpS} {e:En} (h:CIs i x) (he:kvOk (0,e.1,e.2)):CIs (i+1) (qjw x e):=by
 have hf:=h.file;unfold qjw;split
 ·have:=qmw x.1 x.2;exact⟨by show(qci x.1 x.2).length<=_;rw[jCp];omega,.inr (xvd he)⟩
 ·rename_i hn;refine⟨?_,.inr (by simpa only[ne_eq,Classical.not_not]using hn)⟩;have h2:i*70000<=(i+1)*70000:=jAy _ (jEg i);exact jBj hf h2
theorem CIs.few {i:Nat} {x:List UInt8×List OpS} (h:CIs i x):x.2.length<=20:=by
 rcases h.ops with h|h
 ·rw[h];simp
 ·exact(v8 h).1
theorem xfc (l:List En) (d: ∀e∈l,kvOk (0,e.1,e.2)): ∀i,i<=l.length->CIs i (cAt l i)
 |0,_=>⟨by simp[cAt],.inl (by simp[cAt])⟩
 |i+1,h=>by
  rw[qxl l h];exact xk3 (xfc l d i (by omega)) (d _ (jAg h))
def Scom (s:Sto) (l:List En) (i:Nat) (x:List UInt8×List OpS):St:=
 ⟨[(0,true,.d (.ptr 0 0)),(3,true,.d (.ptr 2 0)),(4,true,.d (.ptr 3 0)),(5,true,.d (.func (.func 129) [] [.ptr 3 0,.ptr 2 0])),(15,true,.d (.sl 2 (l.map j0))),(16,true,.d (.int .i64 l.length)),(17,true,.d (.int .i64 (i:Nat)))],
  [stoO s 1,mapO s.m,.row [.d (.sl 1 (qe x.1)),.d (.int .i64 0)],.row [.uni 0 3 (x.2.map qr)]],[0],1⟩
theorem xav (s:Sto) (hs:s.m.Good):
  qh prog 63 [.d (.ptr 0 0)] [stoO s 1,mapO s.m] (.d (.int .i64 0)) [stoO (qil s) 1,mapO s.m]:=by
 have E:=xeb s [] hs.ok (by have:=hs.few;omega) (λx u=>by have:=(hs.small x u).2.2;omega);have M:(qa9 s.m []).length<=400:=jBj (q0p s.m []) hs.few;have G: ∀e∈qa9 s.m [],kvOk (0,e.1,e.2):=by
  intro e R;rw[qa9,(ki _).mem_iff,preL,jAo]at R;obtain⟨y,hy,rfl⟩:=R;exact hs.small y (jBs.1 hy).1
 have hfin:qxk (qa9 s.m [])=qci (cAt (qa9 s.m []) (qa9 s.m []).length).1 (cAt (qa9 s.m []) (qa9 s.m []).length).2:=by rw[qxk,cAt,jAs]
 unfold qil;simp only[stoO,mapO]at E;generalize qa9 s.m []=l at E M G hfin;refine F63r.go ?_;refine eo2 @stoO.eq_1 @mapO.eq_1 ?_;refine no_ ?_;refine ez ?_;refine clO [0,1] F92u E ?_;refine ez ?_;refine qk (λi:{i:Nat//i<=l.length}=>Scom s l i.val (cAt l i.val)) (λi=>l.length-i.val) ⟨0,jAi _⟩ ?_ (λi=> ?_)
 ·have h0:cAt l 0=([],[]):=rfl;exact et7 @Scom.eq_1 @stoO.eq_1 @mapO.eq_1 @h0 @List.map_nil.{0,0} @xa @jAp
 obtain⟨i,hi⟩:=i;have o:=xfc l G i hi;have v:=o.few;have hcl:=o.file;refine ez3 @Scom.eq_1 @stoO.eq_1 @mapO.eq_1 ?_;refine xp _ (λhc=> ?_) (λhc=> ?_)
 ·have m:i<l.length:=by simpa using hc
  have hnx:=qxl l m;generalize cAt l i=x at o v hcl hnx;obtain⟨h,ops⟩:=x;simp only at o v hcl;refine ez ?_;refine qqk (.cell 3 0) 0 3 (ops.map qr) ?_;refine pu ?_;have F:kc (ops++ [cOp l[i]])=kc ops++qr (cOp l[i]):=by simp[kc]
  have U:=F129;have hnp1:=qap ops;have hnp2:=qap (ops++ [cOp l[i]]);have J:=qrr (ops++ [cOp l[i]]) [] rfl (by simp only[jAc,jBo];omega);have I:=qxm h ops (qr (cOp l[i])) (qjk _) (by omega) (by omega);have q:=qxm h ops [] rfl (by omega) (by omega);rw[jAu]at J q;rw[<- F]at I;simp only[jAc,jBo]at J;have hfd:(ops.map qr).flatten=kc ops:=rfl;refine ez3 (qj j0 l m) @j0.eq_1 @hfd ?_;refine⟨by omega,?_⟩;refine qqn 4 ops.length rfl ?_ ?_ ?_ ?_ ?_
  ·rw[xau (e:=l[i]) (ex:= []) (by rw[jAu];rfl)];refine ez2 @hnp2 @hnp1 ?_;refine clO [4] F85 J ?_ (hik:=by exact et2 @hnp2 @D.inKL_noPtr) (hold:=by exact et1 @hnp2) (htk:=by exact et1 @hnp2);refine ez2 @hnp2 @hnp1 ?_;refine xp _ (λu=> ?_) (λu=> ?_)
   ·skip
    have C:qjw (h,ops) l[i]=(qci h ops,[cOp l[i]]):=by rw[qjw,if_pos (by simpa using u)]
    rw[C]at hnx;refine ez ?_;refine clO [3,2,4] U I ?_ (hik:=by exact et3 @hnp2 @hnp1 @D.inKL_noPtr) (hold:=by exact et2 @hnp2 @hnp1) (htk:=by exact et2 @hnp2 @hnp1);refine ez2 @hnp2 @hnp1 ?_;refine qtx rfl ?_ ⟨by show 1*48<=140737488355328;decide,by show 1<=9223372036854775807;decide⟩;refine ez2 @hnp2 @hnp1 ?_;refine qql (.cell 3 0) 8 3 ([cOp l[i]].map qr) ?_ (hc:=rfl) (hes:= ?_) (hcl:= ?_) (hok:=D.okWR_noPtr (qb6 _)) (hn:=by simp[Pos.notIn])
    ·refine pu ?_;refine ez2 @hnp2 @hnp1 ?_;refine⟨⟨i+1,m⟩,?_,by dsimp only;omega⟩;exact et7 @Scom.eq_1 @stoO.eq_1 @mapO.eq_1 @hnx @hnp1 @hnp2 (qg (show i<9223372036854775807 by omega))
    ·intro r p;obtain⟨x,_,rfl⟩:=jAo.1 p;rfl
    ·exact λd t=>jAx.1 (qcq _) d t
   ·skip
    have z:qjw (h,ops) l[i]=(h,ops++ [cOp l[i]]):=by rw[qjw,if_neg (by simpa using u)]
    rw[z]at hnx;refine ez ?_;refine qqn 4 ops.length rfl ?_ ?_ ?_ ?_ ?_
    ·rw[xau (e:=l[i]) (ex:=qr (cOp l[i])) (by rw[<- F];rfl)];refine ez2 @hnp2 @hnp1 ?_;refine qql (.cell 3 0) 4 3 ((ops++ [cOp l[i]]).map qr) ?_ (hc:=rfl) (hes:= ?_) (hcl:= ?_) (hok:=D.okWR_noPtr (qb6 _)) (hp:=by simp only[jAm,jAc,jBo];rfl) (hn:=by simp[Pos.notIn])
     ·refine pu ?_;refine ez2 @hnp2 @hnp1 ?_;refine⟨⟨i+1,m⟩,?_,by dsimp only;omega⟩;exact et7 @Scom.eq_1 @stoO.eq_1 @mapO.eq_1 @hnx @hnp1 @hnp2 (qg (show i<9223372036854775807 by omega))
     ·intro r p;obtain⟨x,_,rfl⟩:=jAo.1 p;rfl
     ·exact λd t=>jAx.1 (qcq _) d t
    ·rw[xau (e:=l[i]) (ex:=qr (cOp l[i])) (by rw[<- F];rfl)];refine ez2 @hnp2 @hnp1 ?_;refine qql (.cell 3 0) 8 3 ((ops++ [cOp l[i]]).map qr) ?_ (hc:=rfl) (hes:= ?_) (hcl:= ?_) (hok:=D.okWR_noPtr (qb6 _)) (hp:=by simp only[jAm,jAc,jBo];rfl) (hn:=by simp[Pos.notIn])
     ·refine pu ?_;refine ez2 @hnp2 @hnp1 ?_;refine⟨⟨i+1,m⟩,?_,by dsimp only;omega⟩;exact et7 @Scom.eq_1 @stoO.eq_1 @mapO.eq_1 @hnx @hnp1 @hnp2 (qg (show i<9223372036854775807 by omega))
     ·intro r p;obtain⟨x,_,rfl⟩:=jAo.1 p;rfl
     ·exact λd t=>jAx.1 (qcq _) d t
    ·show ops.length*3<=((kc (ops++ [cOp l[i]])).map ASlot.d).length;rw[jAm,qd8,jAc];omega
    ·show(ops.length+1)*48<=_;omega
    ·show ops.length+1<=_;omega
  ·rw[xau (e:=l[i]) (ex:= []) (by rw[jAu];rfl)];refine ez2 @hnp2 @hnp1 ?_;refine clO [7] F85 J ?_ (hik:=by exact et2 @hnp2 @D.inKL_noPtr) (hold:=by exact et1 @hnp2) (htk:=by exact et1 @hnp2);refine ez2 @hnp2 @hnp1 ?_;refine xp _ (λu=> ?_) (λu=> ?_)
   ·skip
    have C:qjw (h,ops) l[i]=(qci h ops,[cOp l[i]]):=by rw[qjw,if_pos (by simpa using u)]
    rw[C]at hnx;refine ez ?_;refine clO [3,2,4] U q ?_ (hik:=by exact et3 @hnp2 @hnp1 @D.inKL_noPtr) (hold:=by exact et2 @hnp2 @hnp1) (htk:=by exact et2 @hnp2 @hnp1);refine ez2 @hnp2 @hnp1 ?_;refine qtx rfl ?_ ⟨by show 1*48<=140737488355328;decide,by show 1<=9223372036854775807;decide⟩;refine ez2 @hnp2 @hnp1 ?_;refine qql (.cell 3 0) 8 3 ([cOp l[i]].map qr) ?_ (hc:=rfl) (hes:= ?_) (hcl:= ?_) (hok:=D.okWR_noPtr (qb6 _)) (hn:=by simp[Pos.notIn])
    ·refine pu ?_;refine ez2 @hnp2 @hnp1 ?_;refine⟨⟨i+1,m⟩,?_,by dsimp only;omega⟩;exact et7 @Scom.eq_1 @stoO.eq_1 @mapO.eq_1 @hnx @hnp1 @hnp2 (qg (show i<9223372036854775807 by omega))
    ·intro r p;obtain⟨x,_,rfl⟩:=jAo.1 p;rfl
    ·exact λd t=>jAx.1 (qcq _) d t
   ·skip
    have z:qjw (h,ops) l[i]=(h,ops++ [cOp l[i]]):=by rw[qjw,if_neg (by simpa using u)]
    rw[z]at hnx;refine ez ?_;refine qqn 4 ops.length rfl ?_ ?_ ?_ ?_ ?_
    ·rw[xau (e:=l[i]) (ex:= []) (by rw[jAu];rfl)];refine ez2 @hnp2 @hnp1 ?_;refine qql (.cell 3 0) 4 3 ((ops++ [cOp l[i]]).map qr) ?_ (hc:=rfl) (hes:= ?_) (hcl:= ?_) (hok:=D.okWR_noPtr (qb6 _)) (hp:=by simp only[jAm,jAc,jBo];rfl) (hn:=by simp[Pos.notIn])
     ·refine pu ?_;refine ez2 @hnp2 @hnp1 ?_;refine⟨⟨i+1,m⟩,?_,by dsimp only;omega⟩;exact et7 @Scom.eq_1 @stoO.eq_1 @mapO.eq_1 @hnx @hnp1 @hnp2 (qg (show i<9223372036854775807 by omega))
     ·intro r p;obtain⟨x,_,rfl⟩:=jAo.1 p;rfl
     ·exact λd t=>jAx.1 (qcq _) d t
    ·rw[xau (e:=l[i]) (ex:= []) (by rw[jAu];rfl)];refine ez2 @hnp2 @hnp1 ?_;refine qql (.cell 3 0) 8 3 ((ops++ [cOp l[i]]).map qr) ?_ (hc:=rfl) (hes:= ?_) (hcl:= ?_) (hok:=D.okWR_noPtr (qb6 _)) (hp:=by simp only[jAm,jAc,jBo];rfl) (hn:=by simp[Pos.notIn])
     ·refine pu ?_;refine ez2 @hnp2 @hnp1 ?_;refine⟨⟨i+1,m⟩,?_,by dsimp only;omega⟩;exact et7 @Scom.eq_1 @stoO.eq_1 @mapO.eq_1 @hnx @hnp1 @hnp2 (qg (show i<9223372036854775807 by omega))
     ·intro r p;obtain⟨x,_,rfl⟩:=jAo.1 p;rfl
     ·exact λd t=>jAx.1 (qcq _) d t
    ·show ops.length*3<=((kc ops).map ASlot.d).length;rw[jAm,qd8];omega
    ·show(ops.length+1)*48<=_;omega
    ·show ops.length+1<=_;omega
  ·show ops.length*3<=((kc ops).map ASlot.d).length;rw[jAm,qd8];omega
  ·show(ops.length+1)*48<=_;omega
  ·show ops.length+1<=_;omega
 ·have O:i=l.length:=by
   have:l.length<=i:=by simpa using hc
   omega
  subst O;generalize cAt l l.length=x at o v hcl hfin;obtain⟨h,ops⟩:=x;simp only at o v hcl hfin;have hnp1:=qap ops;have hfd:(ops.map qr).flatten=kc ops:=rfl;have q:=qxm h ops [] rfl (by omega) (by omega);rw[jAu]at q;have hcf2:=qmw h ops;refine ez ?_;refine qqk (.cell 3 0) 0 3 (ops.map qr) ?_;refine pu ?_;refine ez2 @hfd @hnp1 ?_;refine clO [3,2,4] F129 q ?_ (hik:=by exact et2 @hnp1 @D.inKL_noPtr) (hold:=by exact et1 @hnp1) (htk:=by exact et1 @hnp1);refine eo1 @hnp1 ?_;first|refine cl F128 (qid (qci h ops) 0 (by omega)) ?_|refine clF F128 (qid (qci h ops) 0 (by omega)) (λ_=>by exact et3 @qr.eq_1 @j0.eq_1 @zq.eq_1) ?_
  exact et3 @v7.eq_1 @hfin @hnp1
theorem xpp {u:Nat} (h:u<18446744073709551616):I64 (unz u):=by unfold unz I64;split<;>omega
theorem qe9:I64 0:=by unfold I64;omega
theorem q1q: ∀(k i u:Nat) (r:Rd),I64 (qlc k i u r).1
 |0,i,u,r=>qe9
 |k+1,i,u,r=>by
  rw[qlc];split
  ·exact qe9
  ·split
   ·exact xpp (jC3 _ (by decide))
   ·exact q1q k _ _ _
theorem qox (r:Rd):I64 (rInt r).1:=q1q 10 0 0 r
theorem xfd (r:Rd):I64 (qco r).1:=by
 unfold qco qdu;split
 ·exact qe9
 ·split
  ·exact qe9
  ·exact qox r
def qbv {α:Type} (f:Rd->α×Rd):Nat->Rd->List α×Rd
 |0,r=>([],r)
 |n+1,r=>if r.failed=true then([],r)else((f r).1::(qbv f n (f r).2).1,(qbv f n (f r).2).2)
def qf5 {α:Type} (most:Int) (f:Rd->α×Rd) (r:Rd):List α×Rd:=qbv f (xm 0 most r).1.toNat (xm 0 most r).2
def rAV (r:Rd):AV×Rd:=
 if(xm 1 2 r).2.failed=true then(⟨(xm 1 2 r).1,0,[]⟩,(xm 1 2 r).2)else
 if(xm 1 2 r).1=1 then(⟨(xm 1 2 r).1,(rInt (xm 1 2 r).2).1,[]⟩,(rInt (xm 1 2 r).2).2)else
 (⟨(xm 1 2 r).1,0,(yf 40 (xm 1 2 r).2).1⟩,(yf 40 (xm 1 2 r).2).2)
def qg4 (most:Int):=qdu ([]:List Int) (qf5 most rInt)
def qiy (most:Int):=qdu ([]:List AV) (qf5 most rAV)
theorem q1r {α:Type} {f:Rd->α×Rd} (d: ∀r:Rd,r.Ok->(f r).2.Ok∧(f r).2.b=r.b): ∀(n:Nat) {r:Rd},r.Ok->(qbv f n r).2.Ok∧(qbv f n r).2.b=r.b
 |0,r,h=>⟨h,rfl⟩
 |n+1,r,h=>by
  rw[qbv];split
  ·exact⟨h,rfl⟩
  ·have i:=d r h;have e:=q1r d n i.1;exact⟨e.1,e.2.trans i.2⟩
theorem qlj {α:Type} {f:Rd->α×Rd} (hf: ∀r:Rd,r.Ok->(f r).2.Ok∧(f r).2.b=r.b) {r:Rd} (h:r.Ok) (most:Int):(qf5 most f r).2.Ok∧(qf5 most f r).2.b=r.b:=by
 have e:=vu h 0 most;have d:=q1r hf (xm 0 most r).1.toNat e.1;exact⟨d.1,d.2.trans e.2⟩
theorem q5c {r:Rd} (h:r.Ok):(rAV r).2.Ok∧(rAV r).2.b=r.b:=by
 have e:=vu h 1 2;unfold rAV;split
 ·exact e
 ·split
  ·have d:=qe8 e.1;exact⟨d.1,d.2.trans e.2⟩
  ·have d:=qjs e.1 40;exact⟨d.1,d.2.trans e.2⟩
theorem q1s {α:Type} {f:Rd->α×Rd}: ∀(n:Nat) {r:Rd},(qbv f n r).1.length<=n
 |0,r=>jAh _
 |n+1,r=>by
  rw[qbv];split
  ·exact jAi _
  ·exact Nat.succ_le_succ (q1s n)
theorem qlk {α:Type} {f:Rd->α×Rd} {most:Nat} {r:Rd}:(qf5 most f r).1.length<=most:=by
 unfold qf5;cases hf:(xm 0 most r).2.failed with
 |true=>
  generalize xm 0 most r=x at hf;cases x.1.toNat with
  |zero=>exact jAi _
  |succ n=>rw[qbv,if_pos hf];exact jAi _
 |false=>
  have h1:=qbl hf;have h2:=q1s (f:=f) (xm 0 most r).1.toNat (r:=(xm 0 most r).2);omega
def d301:=cut prog f301 news
@[go_sem] def E301:=qm d301
def F301:=fnC d301 follows func301
def d304:=cut prog f304 news
@[go_sem] def E304:=qm d304
def F304:=fnC d304 follows func304
def d300:=cut prog f300 news
@[go_sem] def E300:=qm d300
def F300:=fnC d300 follows func300
def d303:=cut prog f303 news
@[go_sem] def E303:=qm d303
def F303:=fnC d303 follows func303
def d299:=cut prog f299 news
@[go_sem] def E299:=qm d299
def F299:=fnC d299 follows func299
def d302:=cut prog f302 news
@[go_sem] def E302:=qm d302
def F302:=fnC d302 follows func302
def d298:=cut prog f298 news
@[go_sem] def E298:=qm d298
def F298:=fnC d298 follows func298
def d254:=cut prog f254 news
@[go_sem] def E254:=qm d254
def F254:=fnC d254 follows func254
def d253:=cut prog f253 news
@[go_sem] def E253:=qm d253
def F253:=fnC d253 follows func253
theorem xss (r:Rd) (m:r.Ok):qh prog 301 [.d (.ptr 0 0)] [rdO r] (.d (.agg (xw (rAV r).1))) [rdO (rAV r).2]:=by
 have l:=qeo r 1 2 m;have hi:=(vu m 1 2).1;unfold rAV;generalize xm 1 2 r=x at l hi⊢;obtain⟨k,e⟩:=x;simp only at hi;simp only[rdO]at l;refine F301.go ?_;refine eo1 @rdO.eq_1 ?_;refine clO [0] F246 (l) ?_ (hfit:=by first|exact⟨qd,trivial⟩|exact⟨qd,qd,trivial⟩|(refine ev2 @xw.eq_1 @encI.eq_1 ?_;try exact⟨⟩))
 refine ez ?_;cases hf:e.failed
 ·(repeat(with_reducible refine ob ?_));refine no_ ?_
  refine ez ?_;refine xp _ (λh=> ?_) (λh=> ?_)
  ·have i:k=1:=by simpa using h
   have o:=qxb e hi;simp only[rdO,hf]at o;refine eo ?_;refine clO [0] F244 (o) ?_ (hfit:=by first|exact⟨qd,trivial⟩|exact⟨qd,qd,trivial⟩|(refine ev2 @xw.eq_1 @encI.eq_1 ?_;try exact⟨⟩))
   subst i;simp only[if_true,jAw,if_false,xw];exact et
  ·have i:k≠1:=by simpa using h
   have p:=que e 40 hi (by decide);simp only[rdO,hf]at p;refine eo ?_;refine clO [0] F295 (p) ?_ (hfit:=by first|exact⟨qd,trivial⟩|exact⟨qd,qd,trivial⟩|(refine ev2 @xw.eq_1 @encI.eq_1 ?_;try exact⟨⟩))
   simp only[i,jAw,if_false,xw];exact et
 ·(repeat(with_reducible refine ob ?_));refine qa2 ?_
  simp only[if_true,hf,xw];exact et
def Sli {α:Type} (es:Nat) (enc:α->List D) (k:FuncId) (n:Int) (x:Nat×List α×Rd):St:=
 ⟨[(0,true,.d (.ptr 0 0)),(2,true,.d (.func (.func k) [.ptr 0 0] [])),(7,true,.d (.int .i64 n)),(8,true,.own 0 es (x.2.1.map enc)),(9,true,.d (.int .i64 (x.1:Nat)))],[rdO x.2.2],[0],1⟩
theorem xk4 (r:Rd) (most:Nat) (C:r.Ok) (hm:most<=1000):qh prog 304 [.d (.ptr 0 0),.d (.int .i64 most),.d (.func (.func 244) [.ptr 0 0] [])] [rdO r] (.d (.sl 1 ((qf5 most rInt r).1.map encI))) [rdO (qf5 most rInt r).2]:=by
 have t:=qeo r 0 most C;have hi:=(vu C 0 most).1;have e:=qbl (r:=r) (lo:=0) (hi:=most);unfold qf5;generalize xm 0 most r=x at t hi e⊢;obtain⟨n,v⟩:=x;simp only at hi e;simp only[rdO]at t;refine F304.go ?_;refine eo1 @rdO.eq_1 ?_;refine clO [0] F246 (t) ?_ (hfit:=by first|exact⟨qd,trivial⟩|exact⟨qd,qd,trivial⟩|(refine ev2 @xw.eq_1 @encI.eq_1 ?_;try exact⟨⟩))
 refine ez ?_;refine qk (λx:{x:Nat×List Int×Rd//x.1<=most∧x.2.1.length=x.1∧x.2.2.Ok∧(x.2.1++(qbv rInt (n.toNat-x.1) x.2.2).1,(qbv rInt (n.toNat-x.1) x.2.2).2)=qbv rInt n.toNat v∧(x.2.2.failed=false->n<=most)}=>Sli 1 encI 244 n x.val) (λx=>most+1-x.val.1) ⟨(0,[],v),jAi _,rfl,hi,by simp,λh=>(e h).2⟩ ?_ (λx=> ?_)
 ·exact et4 @Sli.eq_1 @rdO.eq_1 @List.map_nil.{0,0} @jAp
 obtain⟨⟨i,l,b,p,f⟩,h1,F,u,m,E⟩:=x;simp only at h1 F u m E;cases f
 ·have hn:=E rfl;refine ez2 @Sli.eq_1 @rdO.eq_1 ?_;refine xp _ (λh=> ?_) (λh=> ?_)
  ·have hlt:i<n.toNat:=by simp at h;omega
   have z:=qxb ⟨b,p,false⟩ u;obtain⟨v1,v2⟩:=qe8 u;have o:n.toNat-i=(n.toNat-(i+1))+1:=by omega
   rw[o,qbv,if_neg (by simp)]at m;simp only[rdO,encI]at z;refine eo ?_;refine clO [0] F244 (z) ?_ (hfit:=by first|exact⟨qd,trivial⟩|exact⟨qd,qd,trivial⟩|(refine ev2 @xw.eq_1 @encI.eq_1 ?_;try exact⟨⟩))
   refine eo ?_;refine⟨⟨(i+1,l++ [(rInt ⟨b,p,false⟩).1],(rInt ⟨b,p,false⟩).2),by simp only;omega,by simp[F],v1,by simpa using m,λ_=>hn⟩,?_,by simp only;omega⟩;exact et7 @Sli.eq_1 @rdO.eq_1 @jA2.{0,0} @List.map_cons.{0,0} @List.map_nil.{0,0} @encI.eq_1 (qg (show i<9223372036854775807 by omega))
  ·have q:n.toNat-i=0:=by simp at h;omega
   rw[q,qbv,jAu]at m;exact et1 m.symm
 ·have hx:qbv rInt (n.toNat-i) ⟨b,p,true⟩=([],⟨b,p,true⟩):=by
   cases n.toNat-i with
   |zero=>rfl
   |succ k=>rw[qbv,if_pos rfl]
  rw[hx,jAu]at m;refine ez2 @Sli.eq_1 @rdO.eq_1 ?_;refine xp _ (λh=> ?_) (λh=> ?_)
  ·simp at h
  ·exact et1 m.symm
theorem xk5 (r:Rd) (most:Nat) (C:r.Ok) (hm:most<=1000):qh prog 300 [.d (.ptr 0 0),.d (.int .i64 most),.d (.func (.func 301) [.ptr 0 0] [])] [rdO r] (.d (.sl 3 ((qf5 most rAV r).1.map xw))) [rdO (qf5 most rAV r).2]:=by
 have t:=qeo r 0 most C;have hi:=(vu C 0 most).1;have e:=qbl (r:=r) (lo:=0) (hi:=most);unfold qf5;generalize xm 0 most r=x at t hi e⊢;obtain⟨n,v⟩:=x;simp only at hi e;simp only[rdO]at t;refine F300.go ?_;refine eo1 @rdO.eq_1 ?_;refine clO [0] F246 (t) ?_ (hfit:=by first|exact⟨qd,trivial⟩|exact⟨qd,qd,trivial⟩|(refine ev2 @xw.eq_1 @encI.eq_1 ?_;try exact⟨⟩))
 refine ez ?_;refine qk (λx:{x:Nat×List AV×Rd//x.1<=most∧x.2.1.length=x.1∧x.2.2.Ok∧(x.2.1++(qbv rAV (n.toNat-x.1) x.2.2).1,(qbv rAV (n.toNat-x.1) x.2.2).2)=qbv rAV n.toNat v∧(x.2.2.failed=false->n<=most)}=>Sli 3 xw 301 n x.val) (λx=>most+1-x.val.1) ⟨(0,[],v),jAi _,rfl,hi,by simp,λh=>(e h).2⟩ ?_ (λx=> ?_)
 ·exact et4 @Sli.eq_1 @rdO.eq_1 @List.map_nil.{0,0} @jAp
 obtain⟨⟨i,l,b,p,f⟩,h1,F,u,m,E⟩:=x;simp only at h1 F u m E;cases f
 ·have hn:=E rfl;refine ez2 @Sli.eq_1 @rdO.eq_1 ?_;refine xp _ (λh=> ?_) (λh=> ?_)
  ·have hlt:i<n.toNat:=by simp at h;omega
   have z:=xss ⟨b,p,false⟩ u;obtain⟨v1,v2⟩:=q5c u;have o:n.toNat-i=(n.toNat-(i+1))+1:=by omega
   rw[o,qbv,if_neg (by simp)]at m;simp only[rdO,xw]at z;refine eo ?_;refine clO [0] F301 (z) ?_ (hfit:=by first|exact⟨qd,trivial⟩|exact⟨qd,qd,trivial⟩|(refine ev2 @xw.eq_1 @encI.eq_1 ?_;try exact⟨⟩))
   refine eo ?_;refine⟨⟨(i+1,l++ [(rAV ⟨b,p,false⟩).1],(rAV ⟨b,p,false⟩).2),by simp only;omega,by simp[F],v1,by simpa using m,λ_=>hn⟩,?_,by simp only;omega⟩;exact et7 @Sli.eq_1 @rdO.eq_1 @jA2.{0,0} @List.map_cons.{0,0} @List.map_nil.{0,0} @xw.eq_1 (qg (show i<9223372036854775807 by omega))
  ·have q:n.toNat-i=0:=by simp at h;omega
   rw[q,qbv,jAu]at m;exact et1 m.symm
 ·have hx:qbv rAV (n.toNat-i) ⟨b,p,true⟩=([],⟨b,p,true⟩):=by
   cases n.toNat-i with
   |zero=>rfl
   |succ k=>rw[qbv,if_pos rfl]
  rw[hx,jAu]at m;refine ez2 @Sli.eq_1 @rdO.eq_1 ?_;refine xp _ (λh=> ?_) (λh=> ?_)
  ·simp at h
  ·exact et1 m.symm
theorem xk6 (r:Rd) (most:Nat) (hr:r.Ok) (hm:most<=1000):qh prog 303 [.d (.ptr 1 0),.d (.ptr 2 0)] [rdO r,.row [.d (.ptr 0 0)],.row [.d (.int .i64 most)]] (.d (.sl 1 ((qf5 most rInt r).1.map encI))) [rdO (qf5 most rInt r).2,.row [.d (.ptr 0 0)],.row [.d (.int .i64 most)]]:=by
 have hc:=xk4 r most hr hm;simp only[rdO]at hc;refine F303.go ?_;refine eo1 @rdO.eq_1 ?_;refine clO [0] F304 (hc) ?_ (hfit:=by first|exact⟨qd,trivial⟩|exact⟨qd,qd,trivial⟩|(refine ev2 @xw.eq_1 @encI.eq_1 ?_;try exact⟨⟩))
 exact et
theorem xaw (r:Rd) (most:Nat) (hr:r.Ok) (hm:most<=1000):qh prog 299 [.d (.ptr 1 0),.d (.ptr 2 0)] [rdO r,.row [.d (.ptr 0 0)],.row [.d (.int .i64 most)]] (.d (.sl 3 ((qf5 most rAV r).1.map xw))) [rdO (qf5 most rAV r).2,.row [.d (.ptr 0 0)],.row [.d (.int .i64 most)]]:=by
 have hc:=xk5 r most hr hm;simp only[rdO]at hc;refine F299.go ?_;refine eo1 @rdO.eq_1 ?_;refine clO [0] F300 (hc) ?_ (hfit:=by first|exact⟨qd,trivial⟩|exact⟨qd,qd,trivial⟩|(refine ev2 @xw.eq_1 @encI.eq_1 ?_;try exact⟨⟩))
 exact et
theorem q5d (r:Rd) (most:Nat) (hr:r.Ok) (hm:most<=1000):qh prog 302 [.d (.ptr 0 0),.d (.func (.func 303) [] [.ptr 1 0,.ptr 2 0])] [rdO r,.row [.d (.ptr 0 0)],.row [.d (.int .i64 most)]] (.d (.sl 1 ((qg4 most r).1.map encI))) [rdO (qg4 most r).2,.row [.d (.ptr 0 0)],.row [.d (.int .i64 most)]]:=by
 have hc:=xk6 r most hr hm;unfold qg4;unfold qdu;obtain⟨b,p,f⟩:=r;simp only[rdO]at hc;refine F302.go ?_;refine ez1 @rdO.eq_1 ?_;cases f
 ·refine eo ?_;refine no_ ?_;refine eo ?_;refine clO [0,1,2] F303 (hc) ?_ (hfit:=by first|exact⟨qd,trivial⟩|exact⟨qd,qd,trivial⟩|(refine ev2 @xw.eq_1 @encI.eq_1 ?_;try exact⟨⟩))
  refine ez ?_;cases hf:(qf5 most rInt ⟨b,p,false⟩).2.failed
  ·refine eo ?_;refine no_ ?_;simp only[hf,if_false,go_sem,simprocAttr]
  ·refine eo ?_;refine qa2 ?_;exact et2 @hf @List.map_nil.{0,0}
 ·refine eo ?_;refine qa2 ?_;exact et1 @List.map_nil.{0,0}
theorem qxn (r:Rd) (most:Nat) (hr:r.Ok) (hm:most<=1000):qh prog 298 [.d (.ptr 0 0),.d (.func (.func 299) [] [.ptr 1 0,.ptr 2 0])] [rdO r,.row [.d (.ptr 0 0)],.row [.d (.int .i64 most)]] (.d (.sl 3 ((qiy most r).1.map xw))) [rdO (qiy most r).2,.row [.d (.ptr 0 0)],.row [.d (.int .i64 most)]]:=by
 have hc:=xaw r most hr hm;unfold qiy;unfold qdu;obtain⟨b,p,f⟩:=r;simp only[rdO]at hc;refine F298.go ?_;refine ez1 @rdO.eq_1 ?_;cases f
 ·refine eo ?_;refine no_ ?_;refine eo ?_;refine clO [0,1,2] F299 (hc) ?_ (hfit:=by first|exact⟨qd,trivial⟩|exact⟨qd,qd,trivial⟩|(refine ev2 @xw.eq_1 @encI.eq_1 ?_;try exact⟨⟩))
  refine ez ?_;cases hf:(qf5 most rAV ⟨b,p,false⟩).2.failed
  ·refine eo ?_;refine no_ ?_;simp only[hf,if_false,go_sem,simprocAttr]
  ·refine eo ?_;refine qa2 ?_;exact et2 @hf @List.map_nil.{0,0}
 ·refine eo ?_;refine qa2 ?_;exact et1 @List.map_nil.{0,0}
theorem xfe (r:Rd) (most:Nat) (hr:r.Ok) (hm:most<=1000):qh prog 254 [.d (.ptr 0 0),.d (.int .i64 most)] [rdO r] (.d (.sl 1 ((qg4 most r).1.map encI))) [rdO (qg4 most r).2]:=by
 have hc:=q5d r most hr hm;simp only[rdO]at hc;refine F254.go ?_;refine ez1 @rdO.eq_1 ?_;refine clO [0,1,2] F302 hc ?_;exact et
theorem xk7 (r:Rd) (most:Nat) (hr:r.Ok) (hm:most<=1000):qh prog 253 [.d (.ptr 0 0),.d (.int .i64 most)] [rdO r] (.d (.sl 3 ((qiy most r).1.map xw))) [rdO (qiy most r).2]:=by
 have hc:=qxn r most hr hm;simp only[rdO]at hc;refine F253.go ?_;refine ez1 @rdO.eq_1 ?_;refine clO [0,1,2] F298 hc ?_;exact et
theorem xax {r:Rd} (h:r.Ok) (most:Int):(qg4 most r).2.Ok∧(qg4 most r).2.b=r.b:=qf2 h (qlj (λ_ h=>qe8 h) h most)
theorem xff {r:Rd} (h:r.Ok) (most:Int):(qiy most r).2.Ok∧(qiy most r).2.b=r.b:=qf2 h (qlj (λ_ h=>q5c h) h most)
theorem qll {α:Type} {f:Rd->List α×Rd} {k:Nat} (h: ∀r,(f r).1.length<=k) (r:Rd):(qdu [] f r).1.length<=k:=by
 unfold qdu;split
 ·exact jAi _
 ·split
  ·exact jAi _
  ·exact h r
def d252:=cut prog f252 news
@[go_sem] def E252:=qm d252
def F252:=fnC d252 follows func252
def d187:=cut prog f187 news
@[go_sem] def E187:=qm d187
def F187:=fnC d187 follows func187
def qbs (b:List UInt8):List UInt8×Int:=
 if b.length<8 then([],4)else if be8 (fnv 14695981039346656037 (b.take (b.length-8)))=b.drop (b.length-8)then(b.take (b.length-8),0)else([],5)
theorem qur: ∀(s t:List UInt8),s.length=t.length->eqOk (List.replicate s.length .int) (s.map jv) (t.map jv)=true
 | [],[],_=>rfl
 | [],_::_,h=>by simp at h
 | _::_,[],h=>by simp at h
 |a::s,b::t,h=>by
  have:=qur s t (by simpa using h);simpa[jDs,eqOk,jv]using this
theorem qlm: ∀(s t:List UInt8),zf (s.map jv) (t.map jv)=(s==t)
 | [],[]=>rfl
 | [],_::_=>rfl
 | _::_,[]=>rfl
 |a::s,b::t=>by
  have h:=qlm s t;have e:qg1 (jv a) (jv b)=(a==b):=by
   rw[jBm];simp only[qg1,jv,beq_iff_eq];exact⟨λh=>UInt8.toNat_inj.1 (by omega),λh=>by rw[h]⟩
  simp only[List.map_cons,zf,h,e];rfl
theorem xst (s t:List UInt8) (hs:s.length=8) (ht:t.length=8):eqOk [.int,.int,.int,.int,.int,.int,.int,.int] (s.map jv) (t.map jv)=true:=by
 have:=qur s t (hs.trans ht.symm);rw[hs]at this;exact this
theorem xfg (b:List UInt8) (hb:b.length<=1000000000):qh prog 252 [.d (.sl 1 (qe b))] [] (.tup [.d (.sl 1 (qe (qbs b).1)),.d (.int .i64 (qbs b).2)]) []:=by
 have hw:IntKind.i64.wrap ((b.length:Int) -8)=(b.length:Int) -8:=x9 (by unfold I64;omega);refine F252.goT ?_;refine ez1 @hw ?_;refine xp _ (λh=> ?_) (λh=> ?_)
 ·have hx:qbs b=([],4):=by unfold qbs;rw[if_pos (by simp at h;omega)]
  exact et2 @hx @xa
 have h8:8<=b.length:=by simp at h;omega
 have hn:(b.length:Int) -8=((b.length-8:Nat):Int):=by omega
 generalize hm:b.length-8=m at hn;have i:=qqr (h:=14695981039346656037) (by decide) (b.take m);have e2:(b.drop m).take (b.length-m)=b.drop m:=jAr (by rw[jAq];omega);have l:(b.take m).length<=1000000000:=by rw[jAl];omega
 refine ez4 @hn @zy @vm @e2 ?_;have e1:b.take (m-0)=b.take m:=rfl
 (repeat(with_reducible refine ob ?_));first|refine cl F297 (qon (b.take m) l) ?_|refine clF F297 (qon (b.take m) l) (λ_=>by exact et1 @qf.eq_1) ?_
 refine eo ?_;first|refine cl F296 (qoo _ i) ?_|refine clF F296 (qoo _ i) (λ_=>by exact et1 @qf.eq_1) ?_
 have e:qbs b=if be8 (fnv 14695981039346656037 (b.take m))=b.drop m then(b.take m,0)else([],5):=by unfold qbs;rw[if_neg (by omega),hm]
 have p:(b.drop m).length=8:=by rw[jAq];omega
 have hA:List.take (b.length-m) (List.drop m (qe b))=qe (b.drop m):=by rw[vm,zy,e2]
 have hF:List.take (m-0) (qe b)=qe (b.take m):=by rw[zy,jCt]
 have o:=kw (fnv 14695981039346656037 (b.take m));generalize b.drop m=t at e p hA;generalize fnv 14695981039346656037 (b.take m)=f at e i o;have hB:List.take 8 (qe t)=qe t:=jAr (by rw[js];omega);have hC:List.take 8 (t.map jv)=t.map jv:=jAr (by rw[jAm];omega);have hD:=xst (be8 f) t o p;have hG:=qdq t;have hE:=qlm (be8 f) t;refine eo7 @hA @hB @hG @hC @hD @hE @jAm.{0,0} ?_;refine xp _ (λh=> ?_) (λh=> ?_)
 ·have hx:qbs b=([],5):=by rw[e,if_neg (by simpa using h)]
  exact et2 @hx @xa
 ·have hx:qbs b=(b.take m,0):=by rw[e,if_pos (by simpa using h)]
  refine ez2 @hx @hF ?_;omega
def qdc:Nat->Rd->List Int×Rd
 |0,r=>([],r)
 |n+1,r=>((qdc n r).1++ [(qco (qdc n r).2).1],(qco (qdc n r).2).2)
theorem q1t {r:Rd} (h:r.Ok): ∀n,(qdc n r).2.Ok∧(qdc n r).2.b=r.b∧(qdc n r).1.length=n
 |0=>⟨h,rfl,rfl⟩
 |n+1=>by
  have ih:=q1t h n;have:=qrf ih.1;exact⟨this.1,this.2.trans ih.2.1,by simp only[qdc,jAc,ih.2.2,jBo]⟩
def pkOf (l:List Int) (v:List AV) (c:List Int):Pk:=⟨l.getD 0 0,l.getD 1 0,l.getD 2 0,l.getD 3 0,l.getD 4 0,l.getD 5 0,l.getD 6 0,v,c⟩
def q1u (s:List UInt8):Pk×Rd:=
 (pkOf (qdc 7 ⟨s,0,false⟩).1 (qiy 4 (qdc 7 ⟨s,0,false⟩).2).1 (qg4 6 (qiy 4 (qdc 7 ⟨s,0,false⟩).2).2).1,(qg4 6 (qiy 4 (qdc 7 ⟨s,0,false⟩).2).2).2)
def qdd (b:List UInt8):Pk×Int:=
 if(qbs b).2≠0 then(default,(qbs b).2)else if(rEnd (q1u (qbs b).1).2 !=0|| !qo (q1u (qbs b).1).1)=true then(default,4)else((q1u (qbs b).1).1,0)
def xk8 (r:Rd) (i:Nat):St:=
 ⟨[(2,true,.d (.ptr 0 0)),(6,true,.d (.ptr 1 0)),(7,true,.d (.ptr 2 0)),(28,true,.d (.sl 1 [[.ptr 2 0],[.ptr 2 1],[.ptr 2 2],[.ptr 2 3],[.ptr 2 4],[.ptr 2 5],[.ptr 2 6]])),(29,true,.d (.int .i64 7)),(30,true,.d (.int .i64 (i:Nat)))],
  [.row ((qf default).map .d),rdO (qdc i r).2,.row (((((qdc i r).1++List.replicate (7-i) 0).map (D.int .i64))++ [.nilsl,.nilsl]).map .d)],[],1⟩
theorem xk9 (f:Int->D) (A:List Int) (t:List D) (n:Int) {i:Nat} (hA:A.length=i) (hi:i<7):
  ((A++List.replicate (7-i) 0).map f++t).set i (f n)=((A++ [n])++List.replicate (7-(i+1)) 0).map f++t:=by
 have e:7-i=(7-(i+1))+1:=by omega
 rw[List.set_append_left _ _ (by simp;omega),<- jDz,jEl _ _ (by omega),hA,jDg,e,jDs,List.set_cons_zero,jAj,jE7]
theorem xay (A:List Int):D.noPtrL (A.map (D.int .i64)++ [.nilsl,.nilsl])=true:=by
 rw[D.noPtrL_iff];intro d e;simp only[jAt,jAo,jAv,jBl,or_false]at e;rcases e with⟨n,_,rfl⟩|rfl|rfl<;>rfl
theorem xuh {A:List Int} (h:A.length=7): ∃p o m l i e d,A= [p,o,m,l,i,e,d]:=by
 match A,h with
 | [p,o,m,l,i,e,d],_=>exact⟨p,o,m,l,i,e,d,rfl⟩
theorem xaz (b:List UInt8):(qbs b).1.length<=b.length:=by
 unfold qbs;split
 ·exact jAi _
 ·split
  ·simp only[jAl];omega
  ·exact jAi _
theorem xa0 (b:List UInt8) (hb:b.length<=1000000000):qh prog 187 [.d (.sl 1 (qe b))] [] (.tup [.d (.agg (qf (qdd b).1)),.d (.int .i64 (qdd b).2)]) []:=by
 have q:=xfg b hb;have z:=xaz b;unfold qdd;generalize qbs b=x at q z⊢;obtain⟨s,e⟩:=x;simp only at z;refine F187.goT ?_;refine eo ?_;first|refine cl F252 (q) ?_|refine clF F252 (q) (λ_=>by exact et1 @qf.eq_1) ?_
 refine ez ?_;refine xp _ (λh=> ?_) (λh=> ?_)
 ·rw[if_pos (by simpa using h)];refine ez1 @qf.eq_1 ?_;exact⟨rfl,rfl,rfl,rfl,rfl,rfl,rfl,rfl,rfl⟩
 have he:e=0:=by simpa using h
 rw[if_neg (by simp[he])];have m:=qou s (by omega);simp only[rdO]at m;refine ez ?_;refine clO [1] F177 m ?_;refine ez ?_;have E:(⟨s,0,false⟩:Rd).Ok:=⟨by simp only;omega,jAi _⟩;refine qk (λi:{i:Nat//i<=7}=>xk8 ⟨s,0,false⟩ i.val) (λi=>7-i.val) ⟨0,jAi _⟩ ?_ (λi=> ?_)
 ·simp only[xk8,qdc,rdO,jAp,qf,go_sem,simprocAttr];exact⟨rfl,rfl,rfl,rfl,rfl,rfl,rfl,rfl,rfl⟩
 obtain⟨i,hi⟩:=i;obtain⟨u,v2,t⟩:=q1t E i;have M:=qov _ u;have hsn:qdc (i+1) ⟨s,0,false⟩=((qdc i ⟨s,0,false⟩).1++ [(qco (qdc i ⟨s,0,false⟩).2).1],(qco (qdc i ⟨s,0,false⟩).2).2):=rfl;simp only[rdO]at M;refine ez2 @xk8.eq_1 @rdO.eq_1 ?_;refine xp _ (λh=> ?_) (λh=> ?_)
 ·have l:i<7:=by simp at h;omega
  have hg:List.getD [[D.ptr 2 0],[D.ptr 2 1],[D.ptr 2 2],[D.ptr 2 3],[D.ptr 2 4],[D.ptr 2 5],[D.ptr 2 6]] i []= [D.ptr 2 i]:=by
   have:i=0∨i=1∨i=2∨i=3∨i=4∨i=5∨i=6:=by omega
   rcases this with rfl|rfl|rfl|rfl|rfl|rfl|rfl<;>rfl
  refine eo1 @hg ?_
  (repeat(with_reducible refine ob ?_));refine clO [1] F178 (M) ?_ (hfit:=by first|exact⟨qd,trivial⟩|exact⟨qd,qd,trivial⟩|(refine ev1 @qf.eq_1 ?_;try exact⟨⟩))
  refine ez ?_;have hset:=xk9 (D.int .i64) (qdc i ⟨s,0,false⟩).1 [.nilsl,.nilsl] (qco (qdc i ⟨s,0,false⟩).2).1 t l;refine⟨by rw[t,jBp];omega,⟨i+1,l⟩,?_,by dsimp only;omega⟩;refine ez6 @xk8.eq_1 @rdO.eq_1 @hsn @hset @qdr (qg (show i<9223372036854775807 by omega)) ?_;exact D.okWL_noPtr (xay _)
 ·have l:i=7:=by simp at h;omega
  subst l;unfold q1u;generalize qdc 7 ⟨s,0,false⟩=x at u t⊢;obtain⟨A,o⟩:=x;simp only at u t;obtain⟨a0,a1,a2,Z,Y,X,U,rfl⟩:=xuh t;have J:=xk7 o 4 u (by decide);have I:=(xff u 4).1;have F:=qll (λr=>qlk (f:=rAV) (most:=4) (r:=r)) o;have R:=xfe _ 6 I (by decide);have iC:=(xax I 6).1;have G:=qll (λr=>qlk (f:=rInt) (most:=6) (r:=r)) (qiy 4 o).2;have O:=q41 _ iC;simp only[rdO,jDw]at J R O F G;refine eo ?_;refine clO [1] F253 (J) ?_ (hfit:=by first|exact⟨qd,trivial⟩|exact⟨qd,qd,trivial⟩|(refine ev1 @qf.eq_1 ?_;try exact⟨⟩))
  refine eo ?_;refine clO [1] F254 (R) ?_ (hfit:=by first|exact⟨qd,trivial⟩|exact⟨qd,qd,trivial⟩|(refine ev1 @qf.eq_1 ?_;try exact⟨⟩))
  refine eo ?_;refine clO [1] F180 (O) ?_ (hfit:=by first|exact⟨qd,trivial⟩|exact⟨qd,qd,trivial⟩|(refine ev1 @qf.eq_1 ?_;try exact⟨⟩))
  refine ez ?_;generalize hp:pkOf [a0,a1,a2,Z,Y,X,U] (qiy 4 o).1 (qg4 6 (qiy 4 o).2).1=p;have hpe:qf p= [.int .i64 a0,.int .i64 a1,.int .i64 a2,.int .i64 Z,.int .i64 Y,.int .i64 X,.int .i64 U,.sl 3 ((qiy 4 o).1.map xw),.sl 1 ((qg4 6 (qiy 4 o).2).1.map encI)]:=by rw[<- hp];rfl
  have v:p.Sm:=by rw[<- hp];exact⟨jBj F (by decide),jBj G (by decide)⟩
  have C:=zu p v.v v.c;rw[hpe]at C
  (repeat(with_reducible refine ob ?_));first|refine cl F70 (C) ?_|refine clF F70 (C) (λ_=>by exact et1 @qf.eq_1) ?_
  refine eo ?_;refine xp _ (λh=> ?_) (λh=> ?_)
  ·rw[if_pos h];refine ez1 @qf.eq_1 ?_;exact⟨rfl,rfl,rfl,rfl,rfl,rfl,rfl,rfl,rfl⟩
  ·rw[if_neg (by rw[h];simp)];exact et2 @hpe @qkx
theorem q5e (most:Nat) (r:Rd):(yf most r).1.length<=most:=by
 unfold yf;split
 ·exact jAi _
 ·rename_i h;have:=(qbl (by simpa using h)).2;unfold w5;split
  ·exact jAi _
  ·simp only[jAl];omega
theorem xsu (r:Rd):(rAV r).1.Sm:=by
 have d:I64 (xm 1 2 r).1:=qox r;unfold rAV;split
 ·exact⟨d,qe9,jAi _⟩
 ·split
  ·exact⟨d,qox _,jAi _⟩
  ·exact⟨d,qe9,jBj (q5e 40 _) (by decide)⟩
theorem qrs {α:Type} {f:Rd->α×Rd} {Q:α->Prop} (h: ∀r,Q (f r).1): ∀(n:Nat) (r:Rd),∀x∈(qbv f n r).1,Q x
 |0,r,x,d=>by cases d
 |n+1,r,x,d=>by
  rw[qbv]at d;split at d
  ·cases d
  ·rcases jAv.1 d with rfl|d
   ·exact h r
   ·exact qrs h n _ x d
theorem q1v {α:Type} {f:Rd->List α×Rd} {Q:α->Prop} (h: ∀r,∀x∈(f r).1,Q x) (r:Rd): ∀x∈(qdu [] f r).1,Q x:=by
 unfold qdu;split
 ·intro x d;cases d
 ·split
  ·intro x d;cases d
  ·exact h r
theorem q1w (r:Rd): ∀n,∀x∈(qdc n r).1,I64 x
 |0,x,d=>by cases d
 |n+1,x,d=>by
  rcases jAt.1 d with d|d
  ·exact q1w r n x d
  ·simp at d;subst d;exact xfd _
theorem xla {l:List Int} (h: ∀x∈l,I64 x) (i:Nat):I64 (l.getD i 0):=by
 rw[jA0];cases hg:l[i]?with
 |none=>exact qe9
 |some x=>exact h x (jAe hg)
theorem xsv {l:List Int} {v:List AV} {c:List Int} (h1: ∀x∈l,I64 x) (h2: ∀x∈v,x.Sm) (h3: ∀x∈c,I64 x):(pkOf l v c).W:=by
 refine⟨λx d=> ?_,h2,h3⟩;simp only[kx,pkOf,jAv,jBl,or_false]at d;rcases d with rfl|rfl|rfl|rfl|rfl|rfl|rfl<;>exact xla h1 _
theorem xfh:(default:Pk).W:=⟨λx d=>by
 simp only[kx,jAv,jBl,or_false]at d;rcases d with rfl|rfl|rfl|rfl|rfl|rfl|rfl<;>exact qe9,λx d=>(by cases d),λx d=>(by cases d)⟩
theorem xfi (b:List UInt8):(qdd b).1.W∧(qdd b).1.Sm:=by
 have h1:(q1u (qbs b).1).1.W:=xsv (q1w _ 7) (q1v (λr=>qrs xsu _ _) _) (q1v (λr=>qrs qox _ _) _);have h2:(q1u (qbs b).1).1.Sm:=⟨jBj (qll (λr=>qlk (f:=rAV) (most:=4) (r:=r)) _) (by decide),jBj (qll (λr=>qlk (f:=rInt) (most:=6) (r:=r)) _) (by decide)⟩;have d:(default:Pk).Sm:=⟨jAi _,jAi _⟩;unfold qdd;split
 ·exact⟨xfh,d⟩
 ·split
  ·exact⟨xfh,d⟩
  ·exact⟨h1,h2⟩
def qfa:Option (List UInt8) ->Int×Int
 |none=>(0,0)
 |some b=>((qco ⟨b,0,false⟩).1,(qco (qco ⟨b,0,false⟩).2).1)
def xa1 (x:Int×Int):Bool:=decide (x.2<0)||decide (x.1<x.2)||decide (x.1>1099511627776)||decide (IntKind.i64.wrap (x.1-x.2)>4)
def ldAt (m:Cont) (name:List UInt8) (k:Nat):Pk×Int:=qdd (optV (mGet (sKey name (k%4)) m))
def qfi (m:Cont) (name:List UInt8):Nat->Nat->Option (List Pk)
 |0,_=>some []
 |n+1,k=>if(ldAt m name k).2≠0 then none else(qfi m name n (k+1)).map ((ldAt m name k).1:: ·)
def qrt (m:Cont) (name:List UInt8) (q:Qu):Bool:= !wy q||(!((mGet (nKey name) m).isSome==decide (((qao q).length:Int)>0)))|| !(optV (mGet (nKey name) m)==qao q)
def qus (m:Cont) (name:List UInt8) (q:Qu) (d:Nat):Bool:=(!((mGet (sKey name d) m).isSome==decide (((qbe q d).length:Int)>0)))|| !(optV (mGet (sKey name d) m)==qbe q d)
def xlb (m:Cont) (name:List UInt8) (a c:Int):Option (List Pk) ->Qu×Int
 |none=>(jj,4)
 |some l=>if(qrt m name ⟨a,c,l⟩|| !qb7 (λd=> !qus m name ⟨a,c,l⟩ d) 4)=true then(jj,4)else(⟨a,c,l⟩,0)
def qde (m:Cont) (name:List UInt8):Qu×Int:=
 if(!qnp name)=true then(jj,1)else
 if xa1 (qfa (mGet (nKey name) m))=true then(jj,4)else
 xlb m name (qfa (mGet (nKey name) m)).1 (qfa (mGet (nKey name) m)).2 (qfi m name ((qfa (mGet (nKey name) m)).1-(qfa (mGet (nKey name) m)).2).toNat ((qfa (mGet (nKey name) m)).2.toNat+1))
theorem q7t (m:Cont) (hm: ∀x∈m.l,x.2.2.length<=1000000) (k:List UInt8):(optV (mGet k m)).length<=1000000:=by
 unfold optV mGet;cases hf:m.l.find? (zw k)with
 |none=>simp
 |some x=>exact hm x (jBz hf)
def xsw:=cut prog f106 news [] [8]
@[go_sem] def xvy:=qm xsw
def xsx:=fnC xsw follows func106
def qdf:AObj:= .row [.d (.int .i64 0),.d (.int .i64 0),.d .nilsl]
def SL0 (s:Sto) (name:List UInt8) (g:Option (List UInt8)) (x:Unit):St:=
 ⟨[(0,true,.d (.ptr 0 0)),(1,true,.d (.str name)),(4,true,.d (.ptr 2 0)),(6,true,.d (.ptr 3 0)),(7,true,.d (.sl 1 (qe (optV g)))),(8,true,.d (.bool g.isSome))],
  [stoO s 1,mapO s.m,qdf,.row [.d (.int .i64 (qfa g).1),.d (.int .i64 (qfa g).2),.d .nilsl]],[],1⟩
def SL1 (s:Sto) (name:List UInt8) (g:Option (List UInt8)) (a c:Int) (k:Nat) (l:List Pk):St:=
 ⟨[(0,true,.d (.ptr 0 0)),(1,true,.d (.str name)),(4,true,.d (.ptr 2 0)),(6,true,.d (.ptr 3 0)),(7,true,.d (.sl 1 (qe (optV g)))),(8,true,.d (.bool g.isSome)),(10,true,.d (.int .i64 (k:Nat)))],
  [stoO s 1,mapO s.m,qdf,.row [.d (.int .i64 a),.d (.int .i64 c),.own 0 9 (l.map qf)]],[0],1⟩
def SL2 (s:Sto) (name:List UInt8) (a c:Int) (d:Nat) (l:List Pk):St:=
 ⟨[(0,true,.d (.ptr 0 0)),(1,true,.d (.str name)),(4,true,.d (.ptr 2 0)),(6,true,.d (.ptr 3 0)),(113,true,.d (.int .i64 (d:Nat)))],
  [stoO s 1,mapO s.m,qdf,.row [.d (.int .i64 a),.d (.int .i64 c),.own 0 9 (l.map qf)]],[0],1⟩
theorem xlc (s:Sto) (name:List UInt8) (Z: ∀x∈s.m.l,x.2.2.length<=1000000) (hn:name.length<=1000):
  qh prog 106 [.d (.ptr 0 0),.d (.str name)] [stoO s 1,mapO s.m] (.tup [.d (.agg (encQ (qde s.m name).1)),.d (.int .i64 (qde s.m name).2)]) [stoO s 1,mapO s.m]:=by
 have U:=λk=>xr0 s k Z;simp only[stoO,mapO]at U;refine xsx.goT ?_;refine eo2 @stoO.eq_1 @mapO.eq_1 ?_;first|refine cl F183 (qk5 name) ?_|refine clF F183 (qk5 name) (λ_=>by exact et2 @qf.eq_1 @encQ.eq_1) ?_
 refine ez ?_;refine xp _ (λh=> ?_) (λh=> ?_)
 ·have hb:qde s.m name=(jj,1):=by unfold qde;rw[if_pos h]
  exact et4 @hb @encQ.eq_1 @jj.eq_1 @List.map_nil.{0,0}
 have hb0:(!qnp name)≠true:=by rw[h];simp
 refine eo ?_;first|refine cl F185 (qw5 name hn) ?_|refine clF F185 (qw5 name hn) (λ_=>by exact et2 @qf.eq_1 @encQ.eq_1) ?_
 refine eo ?_;refine clO [0,1] F184 ((U (nKey name))) ?_ (hfit:=by first|exact⟨qd,trivial⟩|exact⟨qd,qd,trivial⟩|(refine ev2 @qf.eq_1 @encQ.eq_1 ?_;try exact⟨⟩))
 refine ez ?_;generalize v:mGet (nKey name) s.m=g;have hgl:(optV g).length<=1000000:=by rw[<- v];exact q7t s.m Z _
 refine xov (SL0 s name g) ?_ ?_
 ·cases g with
  |none=>
   simp only[jDf]
   (repeat(with_reducible refine ob ?_));refine no_ ?_
   refine ez ?_;refine⟨(),?_⟩;simp only[SL0,stoO,mapO,qdf,qfa,jDf,go_sem,simprocAttr]
  |some b=>
   have O:b.length<=1000000000:=by simp only[optV,Option.getD_some]at hgl;omega
   have C:=qou b O;have r0:(⟨b,0,false⟩:Rd).Ok:=⟨O,jAi _⟩;have i1:=qov ⟨b,0,false⟩ r0;have r1:=(qrf r0).1;have i2:=qov _ r1;simp only[rdO]at C i1 i2;simp only[jDv,optV,Option.getD_some]
   (repeat(with_reducible refine ob ?_));refine qa2 ?_
   refine ez ?_;refine clO [4] F177 C ?_;refine eo ?_;refine clO [4] F178 (i1) ?_ (hfit:=by first|exact⟨qd,trivial⟩|exact⟨qd,qd,trivial⟩|(refine ev2 @qf.eq_1 @encQ.eq_1 ?_;try exact⟨⟩))
   refine eo ?_;refine clO [4] F178 (i2) ?_ (hfit:=by first|exact⟨qd,trivial⟩|exact⟨qd,qd,trivial⟩|(refine ev2 @qf.eq_1 @encQ.eq_1 ?_;try exact⟨⟩))
   refine ez ?_;refine⟨(),?_⟩;simp only[SL0,stoO,mapO,qdf,qfa,jDv,optV,Option.getD_some,go_sem,simprocAttr]
 intro _;refine pu ?_;generalize hx:qfa g=x;obtain⟨a,c⟩:=x;have E:qde s.m name=if xa1 (a,c)=true then(jj,(4:Int))else xlb s.m name a c (qfi s.m name (a-c).toNat (c.toNat+1)):=by
  unfold qde;rw[if_neg hb0,v,hx]
 refine eo5 @SL0.eq_1 @hx @stoO.eq_1 @mapO.eq_1 @qdf.eq_1 ?_;refine xp _ (λt=> ?_) (λt=> ?_)
 ·have hb:qde s.m name=(jj,4):=by rw[E,if_pos (show xa1 (a,c)=true from t)]
  exact et4 @hb @encQ.eq_1 @jj.eq_1 @List.map_nil.{0,0}
 have h1':=t;simp only[jA4,decide_eq_false_iff_not]at t;obtain⟨⟨⟨c0,c1⟩,c2⟩,c3⟩:=t;rw[x9 (by unfold I64;omega)]at c3;obtain⟨n,rfl⟩: ∃n:Nat,c=n:=⟨c.toNat,by omega⟩;obtain⟨w,rfl⟩: ∃w:Nat,a=((n+w:Nat):Int):=⟨(a-n).toNat,by omega⟩;have e1:(((n+w:Nat):Int) -(n:Int)).toNat=w:=by omega
 have e2:IntKind.i64.wrap ((n:Int)+1)=((n+1:Nat):Int):=by rw[x9 (by unfold I64;omega)];omega
 rw[if_neg (by rw[show xa1 (((n+w:Nat):Int),(n:Int))=false from h1'];simp),e1,jA6]at E;refine ez1 @e2 ?_;refine qk (λx:{x:Nat×List Pk//x.1<=w∧x.2.length=x.1∧(∀p∈x.2,p.W∧p.Sm)∧qfi s.m name w (n+1)=(qfi s.m name (w-x.1) (n+1+x.1)).map (x.2++ ·)}=>SL1 s name g (n+w:Nat) n (n+1+x.val.1) x.val.2) (λx=>w-x.val.1)
  ⟨(0,[]),jAi _,rfl,λp hp=>(by cases hp),by simp⟩ ?_ (λx=> ?_)
 ·exact et6 @SL1.eq_1 @stoO.eq_1 @mapO.eq_1 @qdf.eq_1 @List.map_nil.{0,0} @Nat.add_zero
 obtain⟨⟨i,l⟩,x1,x2,R,o⟩:=x;simp only at x1 x2 R o;refine ez4 @SL1.eq_1 @stoO.eq_1 @mapO.eq_1 @qdf.eq_1 ?_;refine xp _ (λh=> ?_) (λh=> ?_)
 ·have G:i<w:=by simp at h;omega
  have e3:w-i=(w-(i+1))+1:=by omega
  have e4:(((n+1+i:Nat):Int)).tmod 4=(((n+1+i)%4:Nat):Int):=by rw[jBd (by omega)];omega
  rw[e3,qfi]at o;have u:=xa0 (optV (mGet (sKey name ((n+1+i)%4)) s.m)) (by have:=q7t s.m Z (sKey name ((n+1+i)%4));omega);obtain⟨w1,X⟩:=xfi (optV (mGet (sKey name ((n+1+i)%4)) s.m));simp only[qf]at u;refine eo1 @e4 ?_;first|refine cl F186 (qmg name ((n+1+i)%4) hn (jC3 _ (by decide))) ?_|refine clF F186 (qmg name ((n+1+i)%4) hn (jC3 _ (by decide))) (λ_=>by exact et2 @qf.eq_1 @encQ.eq_1) ?_
  refine eo ?_;refine clO [0,1] F184 ((U (sKey name ((n+1+i)%4)))) ?_ (hfit:=by first|exact⟨qd,trivial⟩|exact⟨qd,qd,trivial⟩|(refine ev2 @qf.eq_1 @encQ.eq_1 ?_;try exact⟨⟩))
  refine eo ?_;first|refine cl F187 (u) ?_|refine clF F187 (u) (λ_=>by exact et2 @qf.eq_1 @encQ.eq_1) ?_
  refine ez ?_;have hat:ldAt s.m name (n+1+i)=qdd (optV (mGet (sKey name ((n+1+i)%4)) s.m)):=rfl;rw[hat]at o;generalize qdd (optV (mGet (sKey name ((n+1+i)%4)) s.m))=y at u w1 X o⊢;obtain⟨p,e⟩:=y;simp only at w1 X o;refine xp _ (λh=> ?_) (λh=> ?_)
  ·have hb:qde s.m name=(jj,4):=by rw[E,o,if_pos (by simpa using h)];rfl
   exact et4 @hb @encQ.eq_1 @jj.eq_1 @List.map_nil.{0,0}
  ·rw[if_neg (by simpa using h),jFj]at o;refine eo ?_;refine⟨⟨(i+1,l++ [p]),G,by simp[x2],λq m=> ?_,?_⟩,?_,by dsimp only;omega⟩
   ·rcases jAt.1 m with m|m
    ·exact R q m
    ·simp at m;subst m;exact⟨w1,X⟩
   ·rw[o];congr 1;funext z;simp
   ·have hwr:IntKind.i64.wrap ((n:Int)+1+(i:Int)+1)=(n:Int)+1+((i:Int)+1):=by rw[x9 (by unfold I64;omega)];omega
    refine ez8 @SL1.eq_1 @stoO.eq_1 @mapO.eq_1 @qdf.eq_1 @jA2.{0,0} @List.map_cons.{0,0} @List.map_nil.{0,0} @qf.eq_1 ?_;exact et1 @hwr
 have G:i=w:=by simp at h;omega
 subst G;rw[jDg,qfi]at o;rw[o,Option.map_some,jAu]at E;generalize m:(⟨((n+i:Nat):Int),(n:Int),l⟩:Qu)=q;have hqe:encQ q= [.int .i64 ((n+i:Nat):Int),.int .i64 (n:Int),.sl 9 (l.map qf)]:=by rw[<- m];rfl
 have M:q.Sm:=by rw[<- m];exact⟨by simp only;omega,λp hp=>(R p hp).2⟩
 have F:q.W:=by rw[<- m];exact⟨by unfold I64;simp only;omega,by unfold I64;simp only;omega,λp hp=>(R p hp).1⟩
 simp only[xlb,m]at E;have Y:=qb8 q M;have J:=qk6 q F.a F.c;have ks:=λd=>qk7 q d M F;simp only[hqe]at Y J ks;refine eo ?_;first|refine cl F188 (Y) ?_|refine clF F188 (Y) (λ_=>by exact et2 @qf.eq_1 @encQ.eq_1) ?_
 refine eo ?_;first|refine cl F189 (J) ?_|refine clF F189 (J) (λ_=>by exact et2 @qf.eq_1 @encQ.eq_1) ?_
 refine eo ?_;first|refine cl F189 (J) ?_|refine clF F189 (J) (λ_=>by exact et2 @qf.eq_1 @encQ.eq_1) ?_
 refine eo ?_;first|refine cl q4r (qfy (optV g) (qao q)) ?_|refine clF q4r (qfy (optV g) (qao q)) (λ_=>by exact et2 @qf.eq_1 @encQ.eq_1) ?_
 refine eo ?_;refine xp _ (λh=> ?_) (λh=> ?_)
 ·have t:qrt s.m name q=true:=by unfold qrt;rw[v];exact h
  have hb:qde s.m name=(jj,4):=by rw[E,t];rfl
  exact et4 @hb @encQ.eq_1 @jj.eq_1 @List.map_nil.{0,0}
 have t:qrt s.m name q=false:=by unfold qrt;rw[v];exact h
 refine ez ?_;refine qk (λx:{d:Nat//d<=4∧qb7 (λd=> !qus s.m name q d) d=true}=>SL2 s name (n+i:Nat) n x.val l) (λx=>4-x.val) ⟨0,jAi _,rfl⟩ ?_ (λx=> ?_)
 ·exact et5 @SL2.eq_1 @stoO.eq_1 @mapO.eq_1 @qdf.eq_1 @jAp
 obtain⟨d,d1,d2⟩:=x;refine ez4 @SL2.eq_1 @stoO.eq_1 @mapO.eq_1 @qdf.eq_1 ?_;refine xp _ (λh=> ?_) (λh=> ?_)
 ·have I:d<4:=by simp at h;omega
  refine eo ?_;first|refine cl F186 (qmg name d hn I) ?_|refine clF F186 (qmg name d hn I) (λ_=>by exact et2 @qf.eq_1 @encQ.eq_1) ?_
  refine eo ?_;refine clO [0,1] F184 ((U (sKey name d))) ?_ (hfit:=by first|exact⟨qd,trivial⟩|exact⟨qd,qd,trivial⟩|(refine ev2 @qf.eq_1 @encQ.eq_1 ?_;try exact⟨⟩))
  refine eo ?_;first|refine cl F191 (ks d) ?_|refine clF F191 (ks d) (λ_=>by exact et2 @qf.eq_1 @encQ.eq_1) ?_
  refine eo ?_;first|refine cl F191 (ks d) ?_|refine clF F191 (ks d) (λ_=>by exact et2 @qf.eq_1 @encQ.eq_1) ?_
  refine eo ?_;first|refine cl q4r (qfy (optV (mGet (sKey name d) s.m)) (qbe q d)) ?_|refine clF q4r (qfy (optV (mGet (sKey name d) s.m)) (qbe q d)) (λ_=>by exact et2 @qf.eq_1 @encQ.eq_1) ?_
  refine eo ?_;refine xp _ (λh=> ?_) (λh=> ?_)
  ·have h2:qus s.m name q d=true:=h;have hb:qde s.m name=(jj,4):=by rw[E,t,qe4 I (by rw[h2];rfl)];rfl
   exact et4 @hb @encQ.eq_1 @jj.eq_1 @List.map_nil.{0,0}
  ·have h2:qus s.m name q d=false:=h;refine ez ?_;refine⟨⟨d+1,I,y5 d2 (by rw[h2];rfl)⟩,?_,by dsimp only;omega⟩;exact et5 @SL2.eq_1 @stoO.eq_1 @mapO.eq_1 @qdf.eq_1 (qg (show d<9223372036854775807 by omega))
 ·have I:d=4:=by simp at h;omega
  subst I;have hb:qde s.m name=(q,0):=by rw[E,t,d2];rfl
  exact et2 @hb @hqe
def d205:=cut prog f205 news
@[go_sem] def E205:=qm d205
def d199:=cut prog f199 news
@[go_sem] def E199:=qm d199
def d49:=cut prog f49 news
@[go_sem] def E49:=qm d49
def d50:=cut prog f50 news
@[go_sem] def E50:=qm d50
structure QW0 (q:Qu):Prop where
 lo:0<=q.cons
 le:q.cons<=q.acc
 hi:q.acc<=1099511627776
 len:(q.items.length:Int)=q.acc-q.cons
 few:q.items.length<=4
 item: ∀(i:Nat) (h:i<q.items.length),qbj q.items[i]=true∧qix q.items[i] (q.items[0]'(by omega))=true∧q.items[i].seq=q.cons+1+i
theorem xni {c:Int} {i:Nat} (h1:0<=c) (h2:c<=1099511627776) (h3:i<=4):IntKind.i64.wrap (IntKind.i64.wrap (c+1)+(i:Int))=c+1+i:=by
 rw[wrap_i64 (n:=c+1) (by omega) (by omega),wrap_i64 (by omega) (by omega)]
theorem q1y {q:Qu} {i:Nat} (h1:0<=q.cons) (h2:q.cons<=1099511627776) (h3:q.items.length<=4) (hi:i<q.items.length):
  qqs q i=true↔qbj q.items[i]=true∧qix q.items[i] (q.items[0]'(by omega))=true∧q.items[i].seq=q.cons+1+i:=by
 have h0:0<q.items.length:=by omega
 simp only[qqs,zm hi,zm h0,jAf,beq_iff_eq,xni h1 h2 (show i<=4 by omega),and_assoc]
theorem qaz (q:Qu):wy q=true↔QW0 q:=by
 simp only[wy,jAf,decide_eq_true_eq,beq_iff_eq,zo];constructor
 ·rintro⟨h,⟨⟨⟨d,m⟩,l⟩,e⟩,o⟩;rw[wrap_i64 (by omega) (by omega)]at e;exact⟨d,m,l,e,by omega,λi hi=>(q1y d (by omega) (by omega) hi).1 (h i hi)⟩
 ·rintro⟨d,m,l,e,o,h6⟩;rw[wrap_i64 (by omega) (by omega)];exact⟨λi hi=>(q1y d (by omega) o hi).2 (h6 i hi),⟨⟨⟨d,m⟩,l⟩,e⟩,by omega⟩
def qlo {α:Type} (d:List UInt8->Option (α×List UInt8)):Nat->List UInt8->Option (List α×List UInt8)
 |0,l=>some ([],l)
 |n+1,l=>match d l with
  |none=>none
  |some (v,l1)=>match qlo d n l1 with
   |none=>none
   |some (vs,l2)=>some (v::vs,l2)
def qog {α:Type} (most:Int) (d:List UInt8->Option (α×List UInt8)) (l0:List UInt8):Option (List α×List UInt8):=match ze 0 most l0 with
 |none=>none
 |some (n,l)=>qlo d n.toNat l
def dAV (l0:List UInt8):Option (AV×List UInt8):=match ze 1 2 l0 with
 |none=>none
 |some (k,l)=>if k=1 then(match dInt l with
   |none=>none
   |some (n,l1)=>some (⟨k,n,[]⟩,l1))else(match qcb 40 l with
   |none=>none
   |some (s,l1)=>some (⟨k,0,s⟩,l1))
theorem q1z {α:Type} {d:List UInt8->Option (α×List UInt8)} {w:α->List UInt8} (l:List UInt8): ∀xs:List α,(∀x∈xs,∀l,d (w x++l)=some (x,l)) ->qlo d xs.length (xs.flatMap w++l)=some (xs,l)
 | [],_=>rfl
 |x::xs,h=>by
  have ih:=q1z l xs λy hy=>h y (by simp[hy]);simp only[List.length_cons,qlo,List.flatMap_cons,jAj,h x (by simp),ih]
theorem qh3 {lo hi n:Int} (h1:lo<=n) (h2:n<=hi) (hn:I64 n) (l:List UInt8):ze lo hi (wInt n++l)=some (n,l):=by
 unfold ze;rw[qct hn];simp only;rw[if_neg (by omega)]
theorem qnx {lo hi n:Int} {d l:List UInt8} (h:ze lo hi d=some (n,l)):d=wInt n++l∧lo<=n∧n<=hi∧I64 n:=by
 unfold ze at h;split at h
 ·rename_i hd;split at h
  ·cases h
  ·cases h;obtain⟨h1,h2⟩:=qow hd;exact⟨h2,by omega,by omega,h1⟩
 ·cases h
theorem q12 {α:Type} {most:Nat} (hm:most<=1000) {d:List UInt8->Option (α×List UInt8)} {w:α->List UInt8} {xs:List α} (hl:xs.length<=most) (h: ∀x∈xs,∀l,d (w x++l)=some (x,l)) (l:List UInt8):qog most d (wInt xs.length++xs.flatMap w++l)=some (xs,l):=by
 unfold qog;rw[jAj,qh3 (by omega) (by omega) (zd (by omega))];simp only[jA6];exact q1z l xs h
theorem xps {v:AV} (hv:v.Sm) (hp:qbd v=true) (l:List UInt8):dAV (wAV v++l)=some (v,l):=by
 obtain⟨h,i,h3⟩:=hv;obtain⟨k,n,s⟩:=v;simp only at h i h3;unfold dAV wAV;by_cases e:k=1
 ·subst e;have hs:s= []:=by simpa[qbd]using hp
  rw[if_pos rfl,jAj,qh3 (by decide) (by decide) h];simp only[if_true];rw[qct i];simp only[hs]
 ·by_cases d:k=2
  ·subst d;have hs:n=0∧(s.length:Int)<=40:=by simpa[qbd]using hp
   rw[if_neg e,if_pos rfl,jAj,qh3 (by decide) (by decide) h];simp only;rw[if_neg e,qmo hs.2 (by decide)];simp only[hs.1]
  ·simp[qbd,e,d]at hp
theorem xpt {e:List UInt8} {v:AV} {l:List UInt8} (h:dAV e=some (v,l)):e=wAV v++l∧v.Sm:=by
 unfold dAV at h;cases h1:ze 1 2 e with
 |none=>rw[h1]at h;cases h
 |some x=>
  obtain⟨k,i⟩:=x;rw[h1]at h;obtain⟨o,a2,a3,m⟩:=qnx h1;simp only at h;by_cases d:k=1
  ·rw[if_pos d]at h;cases h2:dInt i with
   |none=>rw[h2]at h;cases h
   |some x=>
    obtain⟨n,l2⟩:=x;rw[h2]at h;cases h;obtain⟨b1,b2⟩:=qow h2;refine⟨?_,m,b1,by simp⟩;rw[o,b2,wAV,if_pos d,jAj]
  ·rw[if_neg d]at h;cases h2:qcb 40 i with
   |none=>rw[h2]at h;cases h
   |some x=>
    obtain⟨s,l2⟩:=x;rw[h2]at h;cases h;obtain⟨b1,b2⟩:=qmp h2;refine⟨?_,m,by unfold I64;simp,by simp only;omega⟩;rw[o,b1,wAV,if_neg d,if_pos (show k=2 by omega),jAj]
theorem xlg:qof dAV:=λ_ _ _ h=>⟨_,(xpt h).1⟩
theorem xfj {α:Type} {d:List UInt8->Option (α×List UInt8)} {f:Rd->α×Rd} (h:qof d) (i: ∀r:Rd,r.Ok->r.failed=false->Got (d (r.b.drop r.pos)) r.b (f r)):
  ∀(n:Nat) {r:Rd},r.Ok->r.failed=false->Got (qlo d n (r.b.drop r.pos)) r.b (qbv f n r)
 |0,r,hr,h0=>by
  have:=hr.pos;simp only[Got,qlo,qbv,jAq];rw[show r.b.length-(r.b.length-r.pos)=r.pos by omega,<- h0]
 |n+1,r,hr,h0=>by
  have e:=i r hr h0;rw[qlo,qbv,if_neg (by simp[h0])];cases hd:d (r.b.drop r.pos)with
  |none=>
   rw[hd]at e;simp only[Got]at e⊢;cases n with
   |zero=>exact e
   |succ n=>rw[qbv,if_pos e];exact e
  |some x=>
   obtain⟨v,l⟩:=x;rw[hd]at e;have e:=qdw e;obtain⟨p,hp⟩:=h _ _ _ hd;obtain⟨t1,t2⟩:=ws hr.pos hp;have ih:=xfj h i n (r:=⟨r.b,r.b.length-l.length,false⟩) ⟨hr.len,jCu _ _⟩ rfl;simp only[t1]at ih;rw[e];simp only;cases hm:qlo d n l with
   |none=>rw[hm]at ih;exact ih
   |some x=>
    obtain⟨vs,l2⟩:=x;rw[hm]at ih;have ih:=qdw ih;simp only[Got,ih]
theorem xfk {α:Type} {d:List UInt8->Option (α×List UInt8)} {f:Rd->α×Rd} (ht:qof d) (hf: ∀r:Rd,r.Ok->r.failed=false->Got (d (r.b.drop r.pos)) r.b (f r)) (most:Int)
  {r:Rd} (h:r.Ok) (h0:r.failed=false):Got (qog most d (r.b.drop r.pos)) r.b (qf5 most f r):=by
 have e:=qij 0 most h h0;unfold qog qf5;cases hd:ze 0 most (r.b.drop r.pos)with
 |none=>
  rw[hd]at e;simp only[Got]at e⊢;generalize xm 0 most r=y at e⊢;cases y.1.toNat with
  |zero=>exact e
  |succ n=>rw[qbv,if_pos e];exact e
 |some x=>
  obtain⟨n,l⟩:=x;rw[hd]at e;have e:=qdw e;obtain⟨p,hp⟩:=yw _ _ _ _ _ hd;obtain⟨t1,t2⟩:=ws h.pos hp;have i:=xfj ht hf n.toNat (r:=⟨r.b,r.b.length-l.length,false⟩) ⟨h.len,jCu _ _⟩ rfl;simp only[t1]at i;rw[e];exact i
theorem xui {r:Rd} (i:r.Ok) (h0:r.failed=false):Got (dAV (r.b.drop r.pos)) r.b (rAV r):=by
 have e:=qij 1 2 i h0;unfold dAV rAV;cases hd:ze 1 2 (r.b.drop r.pos)with
 |none=>
  rw[hd]at e;simp only[Got]at e⊢;rw[if_pos e];exact e
 |some x=>
  obtain⟨n,l⟩:=x;rw[hd]at e;have e:=qdw e;obtain⟨p,hp⟩:=yw _ _ _ _ _ hd;obtain⟨m,t2⟩:=ws i.pos hp;have h:(⟨r.b,r.b.length-l.length,false⟩:Rd).Ok:=⟨i.len,jCu _ _⟩;rw[e];simp only[jAw,if_false];by_cases hn:n=1
  ·have d:=q7m h rfl;simp only[m]at d;rw[if_pos hn,if_pos hn];cases hd2:dInt l with
   |none=>rw[hd2]at d;exact d
   |some x=>
    obtain⟨v,l2⟩:=x;rw[hd2]at d;have d:=qdw d;simp only[Got,d]
  ·have d:=q08 40 h rfl;simp only[m]at d;rw[if_neg hn,if_neg hn];cases hd2:qcb 40 l with
   |none=>rw[hd2]at d;exact d
   |some x=>
    obtain⟨v,l2⟩:=x;rw[hd2]at d;have d:=qdw d;simp only[Got,d]
theorem xlh (most:Int):qs8 [] (qg4 most) (qog most dInt):=qd7 (λr d=>(qlj (λ_ h=>qe8 h) d most).2) λr d hf=>xfk q06 (λ_ h1 h2=>q7m h1 h2) most d hf
theorem xpu (most:Int):qs8 [] (qiy most) (qog most dAV):=qd7 (λr d=>(qlj (λ_ h=>q5c h) d most).2) λr d hf=>xfk xlg (λ_ h1 h2=>xui h1 h2) most d hf
theorem qcu {n:Int} (h0:0<=n) (h1:n<=1099511627776):(wInt n).length<=6:=
 ql9 5 _ (by
  unfold zz;rw[if_pos h0];have:(128:Nat)^(5+1)=4398046511104:=by decide
  omega)
theorem qru {p:Pk} (h:qo p=true):(∀x∈kx p,0<=x∧x<=1099511627776)∧(∀v∈p.values,qbd v=true)∧ ∀x∈p.clock,0<=x∧x<=1099511627776:=by
 unfold qo qft at h;simp only[jAf,decide_eq_true_eq]at h;obtain⟨⟨⟨⟨k1,k2⟩,k3⟩,k4⟩,h⟩:=h;have l:(∀x∈ [p.epoch,p.from_,p.to,p.seq,p.label],0<=x∧x<=1099511627776) -> ∀x∈kx p,0<=x∧x<=1099511627776:=by
  intro h x d;simp only[kx,jAv]at d;rcases d with rfl|rfl|d
  ·omega
  ·omega
  ·exact h x (by simpa using d)
 have e:bare p=true->p.epoch=0∧(∀v∈p.values,qbd v=true)∧ ∀x∈p.clock,0<=x∧x<=1099511627776:=by
  intro m;simp only[bare,jAf,beq_iff_eq]at m;have h1:p.values= []:=jAz (by omega);have h2:p.clock= []:=jAz (by omega);rw[h1,h2];exact⟨m.1.1,λv i=>(by cases i),λv i=>(by cases i)⟩
 split at h
 ·simp only[data,qdp,role,jAf,jA1,decide_eq_true_eq,beq_iff_eq,jBa,jD3,jA4,decide_eq_false_iff_not,jCc,not_or,jC1]at h;refine⟨l λx d=> ?_,λv i=> ?_,λx d=> ?_⟩
  ·simp only[jAv,jBl,or_false]at d;rcases d with rfl|rfl|rfl|rfl|rfl<;>omega
  ·have:=h.1.2 v i;simpa using this
  ·have:=h.2 x d;omega
 ·split at h
  ·simp only[ack,qdp,role,jAf,decide_eq_true_eq,beq_iff_eq]at h;obtain⟨b1,b2,b3⟩:=e h.1.2;refine⟨l λx d=> ?_,b2,b3⟩;simp only[jAv,jBl,or_false]at d;rcases d with rfl|rfl|rfl|rfl|rfl<;>omega
  ·simp only[order,role,jAf,jA1,decide_eq_true_eq,beq_iff_eq]at h;obtain⟨b1,b2,b3⟩:=e h.1.1.2;refine⟨l λx d=> ?_,b2,b3⟩;simp only[jAv,jBl,or_false]at d;rcases d with rfl|rfl|rfl|rfl|rfl<;>omega
theorem quw {p:Pk} (h:qo p=true): ∀x∈kx p,0<=x∧x<=1099511627776:=(qru h).1
theorem qny {p:Pk} (h:qo p=true): ∀v∈p.values,qbd v=true:=(qru h).2.1
theorem qrv {p:Pk} (h:qo p=true): ∀x∈p.clock,0<=x∧x<=1099511627776:=(qru h).2.2
theorem q5g (s:List UInt8):qbs (qhq s)=(s,0):=by
 have h8:=kw (fnv 14695981039346656037 s);have d:(qhq s).length=s.length+8:=by rw[qhq,jAc,h8]
 have h1:(qhq s).take ((qhq s).length-8)=s:=by rw[d,jEu,qhq,jD5]
 have h2:(qhq s).drop ((qhq s).length-8)=be8 (fnv 14695981039346656037 s):=by rw[d,jEu,qhq,jDl]
 unfold qbs;rw[if_neg (by omega),h1,h2,if_pos rfl]
theorem q13 {s:List UInt8} (hs:s.length<=1000000000) {d:List Int} {rest:List UInt8} (h:s=d.flatMap wInt++rest) (hi: ∀x∈d,I64 x):
  ∀n,n<=d.length->qdc n ⟨s,0,false⟩=(d.take n,⟨s,s.length-((d.drop n).flatMap wInt++rest).length,false⟩)∧s.drop (s.length-((d.drop n).flatMap wInt++rest).length)=(d.drop n).flatMap wInt++rest
 |0,_=>by
  have e:s.length-(d.flatMap wInt++rest).length=0:=by rw[<- h,jDg]
  simp only[qdc,List.take_zero,List.drop_zero,e,and_true];exact⟨trivial,h⟩
 |n+1,hn=>by
  obtain⟨o,m⟩:=q13 hs h hi n (by omega);have hc:=jBn (show n<d.length by omega);rw[hc,List.flatMap_cons,jAj]at o m;have hx:=hi _ (jAg (show n<d.length by omega));have hr:(⟨s,s.length-(wInt d[n]++((d.drop (n+1)).flatMap wInt++rest)).length,false⟩:Rd).Ok:=⟨hs,jCu _ _⟩;have i:=yh qmn hr rfl (v:=d[n]) (l:=(d.drop (n+1)).flatMap wInt++rest) (by simp only[m];exact qct hx _);refine⟨?_,(ws (jCu _ _) m).1⟩;rw[qdc,o,i,jAk (show n<d.length by omega)]
theorem xfl {p:Pk} (m:qo p=true) (e:p.W) (hs:(yd p).length<=1000000000):q1u (yd p)=(p,⟨yd p,(yd p).length,false⟩):=by
 obtain⟨f1,f2⟩:=qkz m;have h0:yd p=(kx p).flatMap wInt++(wAVs p.values++qme p.clock):=by rw[yd,jAj]
 obtain⟨i,h⟩:=q13 hs h0 e.h 7 (jAh _);rw[show(kx p).drop 7= []from rfl,List.flatMap_nil,List.nil_append]at i h;rw[show(kx p).take 7=kx p from rfl]at i;have d1:qog 4 dAV (wAVs p.values++qme p.clock)=some (p.values,qme p.clock):=q12 (most:=4) (by decide) f1 (λx d l=>xps (e.v x d) (qny m x d) l) _;have o:qog 6 dInt (qme p.clock++ [])=some (p.clock,[]):=q12 (most:=6) (by decide) f2 (λx d l=>qct (e.c x d) l) [];have t:=yh (xpu 4) (r:=⟨yd p,(yd p).length-(wAVs p.values++qme p.clock).length,false⟩) ⟨hs,jCu _ _⟩ rfl (v:=p.values) (l:=qme p.clock)
  (by simp only[h];exact d1)
 have h3:=(ws (jCu _ _) h).1;have q:=yh (xlh 6) (r:=⟨yd p,(yd p).length-(qme p.clock).length,false⟩) ⟨hs,jCu _ _⟩ rfl (v:=p.clock) (l:= [])
  (by simp only[h3];rw[jAu]at o;exact o)
 simp only at t q;simp only[q1u,i,t,q,List.length_nil,jCt];rfl
theorem q5h {p:Pk} (d:qo p=true) (hw:p.W) (hs:(yd p).length<=1000000000):qdd (qhq (yd p))=(p,0):=by
 unfold qdd;rw[q5g,xfl d hw hs,if_neg (by simp),if_neg];simp[d,rEnd]
theorem xpv {v:AV} (hp:qbd v=true) (hs:v.Sm):(wAV v).length<=60:=by
 obtain⟨k,n,s⟩:=v;unfold qbd at hp;have hk:k=1∨k=2:=by grind
 have h1:=qcu (n:=k) (by omega) (by omega);have h2:=xu hs.2.1;unfold wAV;rw[jAc];simp only at h1 h2⊢;split
 ·omega
 ·split
  ·have h40:(s.length:Int)<=40:=by grind
   have h3:=qcu (n:=s.length) (by omega) (by omega);simp only[qa7,jAc];omega
  ·simp only[List.length_nil];omega
theorem xnj {p:Pk} (e:qo p=true) (hw:p.W):(yd p).length<=340:=by
 obtain⟨f1,f2⟩:=qkz e;have a1:=qb9 wInt 6 (kx p) λx d=>qcu (quw e x d).1 (quw e x d).2;have a2:=qb9 wAV 60 p.values λx d=>xpv (qny e x d) (hw.v x d);have a3:=qb9 wInt 6 p.clock λx d=>qcu (qrv e x d).1 (qrv e x d).2;have b2:=qcu (n:=p.values.length) (by omega) (by omega);have b3:=qcu (n:=p.clock.length) (by omega) (by omega);have h7:(kx p).length=7:=rfl;simp only[yd,wAVs,qme,jAc];omega
theorem xpw (p:Pk) (hw:p.W):(qa8 p).1.length<=348:=by
 unfold qa8;split
 ·rename_i h;have:=xnj h hw;simp only[qhq,jAc,kw];omega
 ·simp
theorem xpx {p:Pk} (d:qo p=true) (e:p.W):qdd (qa8 p).1=(p,0):=by
 have hs:=xnj d e;rw[qa8,if_pos d];exact q5h d e (by omega)
def qiz (v:List UInt8):Option (List UInt8):=if v= []then none else some v
theorem q5i (v:List UInt8):optV (qiz v)=v:=by unfold qiz optV;split<;>simp_all
theorem xfm (v:List UInt8):(qiz v).isSome=decide ((v.length:Int)>0):=by
 cases v with
 |nil=>rfl
 |cons c v=>simp[qiz]
def Rep (m:Cont) (name:List UInt8) (q:Qu):Prop:=mGet (nKey name) m=qiz (qao q)∧ ∀d,d<4->mGet (sKey name d) m=qiz (qbe q d)
theorem qim (k:List UInt8): ∀(l:List OpS) (a:Option (List UInt8)) (l':List OpS),vg k a (l++l')=vg k (vg k a l) l'
 | [],_,_=>rfl
 |o::l,a,l'=>qim k l _ l'
theorem qux {k o n:List UInt8}:vg k (qiz o) (chg k o n)=qiz n:=by
 unfold chg;split
 ·rename_i h;rw[h];rfl
 ·simp only[vg,if_true,qiz];by_cases hn:n= []<;>simp[hn]
theorem qc4 {k k' o n:List UInt8} {a:Option (List UInt8)} (h:k'≠k):vg k a (chg k' o n)=a:=by
 unfold chg;split
 ·rfl
 ·simp only[vg,if_neg h]
theorem xnk (name:List UInt8) {d:Nat} (hd:d<4):nKey name≠sKey name d:=by
 intro h;have:=List.append_cancel_left h;have h4:d=0∨d=1∨d=2∨d=3:=by omega
 rcases h4 with rfl|rfl|rfl|rfl<;>exact absurd this (by decide)
theorem xs1 (name:List UInt8) {d e:Nat} (hd:d<4) (he:e<4) (h:d≠e):sKey name d≠sKey name e:=by
 intro hk;have:=List.append_cancel_left hk;have h4:d=0∨d=1∨d=2∨d=3:=by omega
 have h5:e=0∨e=1∨e=2∨e=3:=by omega
 rcases h4 with rfl|rfl|rfl|rfl<;>rcases h5 with rfl|rfl|rfl|rfl<;>first|exact absurd rfl h|exact absurd this (by decide)
theorem q14 (a b:Qu) (name:List UInt8): ∀D,D<=4->vg (nKey name) (qiz (qao a)) (vn a b name D)=qiz (qao b)
 |0,_=>qux
 |D+1,h=>by rw[vn,qim,q14 a b name D (by omega),qc4 (Ne.symm (xnk name (by omega)))]
theorem q15 (a b:Qu) (name:List UInt8) {e:Nat} (d:e<4): ∀D,D<=4->vg (sKey name e) (qiz (qbe a e)) (vn a b name D)=qiz (if e<D then qbe b e else qbe a e)
 |0,_=>by rw[vn,qc4 (xnk name d)];simp
 |D+1,h=>by
  rw[vn,qim,q15 a b name d D (by omega)];by_cases l:D=e
  ·subst l;rw[if_neg (by omega),qux,if_pos (by omega)]
  ·rw[qc4 (xs1 name (by omega) d l)];by_cases i:e<D
   ·rw[if_pos i,if_pos (by omega)]
   ·rw[if_neg i,if_neg (by omega)]
theorem qin (a b:Qu) (name k:List UInt8) (e:nKey name≠k) (hs: ∀d,d<4->sKey name d≠k) (x:Option (List UInt8)): ∀D,D<=4->vg k x (vn a b name D)=x
 |0,_=>qc4 e
 |D+1,h=>by rw[vn,qim,qin a b name k e hs x D (by omega),qc4 (hs D (by omega))]
structure QV (q:Qu):Prop where
 c0:0<=q.cons
 c1:q.cons<=q.acc
 c2:q.acc<=1099511627776
 len:(q.items.length:Int)=q.acc-q.cons
 few:q.items.length<=4
 it: ∀i (h:i<q.items.length),qo q.items[i]=true∧q.items[i].seq=q.cons+1+i
theorem xpy {q:Qu} (h:wy q=true):QV q:=by
 unfold wy at h;simp only[jAf,decide_eq_true_eq,beq_iff_eq]at h;obtain⟨ha,⟨⟨⟨c0,c1⟩,c2⟩,c3⟩,c4⟩:=h;rw[x9 (by unfold I64;omega)]at c3;refine⟨c0,c1,c2,c3,by omega,λi hi=> ?_⟩;have:=zo.1 ha i hi;unfold qqs qbj at this;simp only[jAf,beq_iff_eq]at this;rw[zm hi,x9 (n:=q.cons+1) (by unfold I64;omega),x9 (by unfold I64;omega)]at this;exact⟨this.1.1.2,this.2⟩
theorem QV.I {q:Qu} (h:QV q):I64 q.acc∧I64 q.cons:=by
 obtain⟨c0,c1,c2,_,_,_⟩:=h;unfold I64;omega
theorem xpz {q:Qu} (h:QV q) {i:Nat} (hi:i<q.items.length) {d:Nat} (e:(d:Int)=(q.cons+1+i).tmod 4):qbe q d=(qa8 q.items[i]).1:=by
 have hf:q.items.find? (λp=>p.seq.tmod 4==(d:Int))=some q.items[i]:=by
  refine q66 (jCj.2 λp hp=> ?_) hi ?_
  ·obtain⟨j,hj,rfl⟩:=jCd hp;rw[jAl]at hj;rw[List.getElem_take,(h.it j (by omega)).2,e];have h1:=h.c0;have h2:=h.few;rw[jBd (by omega),jBd (by omega)];simp only[beq_iff_eq];omega
  ·rw[(h.it i hi).2,e];simp
 unfold qbe;rw[hf]
theorem xfn {q:Qu} (h:QV q):qfa (qiz (qao q))=(q.acc,q.cons):=by
 obtain⟨u,t⟩:=h.I;by_cases d:q.acc=0∧q.cons=0
 ·have:qao q= []:=by unfold qao;rw[if_pos d]
  rw[this];simp only[qiz,if_true,qfa,d.1,d.2]
 ·have e:qao q=wInt q.acc++wInt q.cons:=by unfold qao;rw[if_neg d]
  have hp:=xjo q.acc;have l1:=xu u;have l2:=xu t;have i:qao q≠ []:=by rw[e];intro h;have:=congrArg List.length h;rw[jAc,List.length_nil]at this;omega
  have z:(qao q).length<=1000000000:=by rw[e,jAc];omega
  have o:=yh qmn (r:=⟨qao q,0,false⟩) ⟨z,jAi _⟩ rfl (v:=q.acc) (l:=wInt q.cons) (by simp only[List.drop_zero,e];exact qct u _);have ht:=(ws (b:=qao q) (p:=0) (q:=wInt q.acc) (l:=wInt q.cons) (jAi _) (by rw[List.drop_zero,e])).1;have m:=yh qmn (r:=⟨qao q,(qao q).length-(wInt q.cons).length,false⟩) ⟨z,jCu _ _⟩ rfl (v:=q.cons) (l:= []) (by simp only[ht];have:=qct t [];rwa [jAu]at this);simp only at o m;simp only[qiz,if_neg i,qfa,o,m]
theorem quy {m:Cont} {name:List UInt8} {q:Qu} (h:QV q) (o:q.W) (p:Rep m name q): ∀n i,n+i=q.items.length->qfi m name n (q.cons.toNat+1+i)=some (q.items.drop i)
 |0,i,hi=>by rw[qfi,jDu (by omega)]
 |n+1,i,hi=>by
  have h0:=h.c0;have d:i<q.items.length:=by omega
  have hk:((q.cons.toNat+1+i)%4:Nat)=(((q.cons.toNat+1+i)%4:Nat):Int):=rfl;have e:qbe q ((q.cons.toNat+1+i)%4:Nat)=(qa8 q.items[i]).1:=xpz h d (by rw[jBd (by omega)];omega);have l:ldAt m name (q.cons.toNat+1+i)=(q.items[i],0):=by
   unfold ldAt;rw[p.2 _ (jC3 _ (by decide)),e,q5i];exact xpx (h.it i d).1 (o.p _ (jAg d))
  have ih:=quy h o p n (i+1) (by omega);rw[qfi,l,if_neg (by simp)];rw[show q.cons.toNat+1+i+1=q.cons.toNat+1+(i+1) by omega,ih,jBn d];rfl
theorem xli {m:Cont} {name:List UInt8} {q:Qu} (h:wy q=true) (hw:q.W) (hn:qnp name=true) (e:Rep m name q):qde m name=(q,0):=by
 have l:=xpy h;have i:=l;obtain⟨c0,c1,c2,c3,c4,_⟩:=i;have e1:(q.acc-q.cons).toNat=q.items.length:=by omega
 have hi:=quy l hw e q.items.length 0 (by omega);have hb:xa1 (q.acc,q.cons)=false:=by
  unfold xa1;simp only[jA4,decide_eq_false_iff_not];rw[x9 (by unfold I64;omega)];exact⟨⟨⟨by omega,by omega⟩,by omega⟩,by omega⟩
 have b1:qrt m name q=false:=by
  unfold qrt;rw[e.1,q5i,xfm,h];simp
 have b2:qb7 (λd=> !qus m name q d) 4=true:=zo.2 λd hd=>by
  unfold qus;rw[e.2 d hd,q5i,xfm];simp
 unfold qde;rw[if_neg (by simp[hn]),e.1,xfn l,if_neg (by rw[hb];simp),e1];simp only;rw[show q.cons.toNat+1=q.cons.toNat+1+0 from rfl,hi,List.drop_zero,xlb,b1,b2];rfl
theorem xfo {k o n:List UInt8} {x:OpS} (h:x∈chg k o n):x.key=k∧x.val=n∧(x.del=true->n= []):=by
 unfold chg at h;split at h
 ·cases h
 ·simp only[jAv,jBl,or_false]at h;subst h;exact⟨rfl,rfl,λh=>by simpa using h⟩
theorem qxo {a b:Qu} {name:List UInt8} {x:OpS}: ∀{D:Nat},x∈vn a b name D->x.key.length=name.length+2∧(x.val=qao b∨ ∃d:Nat,x.val=qbe b d)∧(x.del=true->x.val= [])
 |0,h=>by
  obtain⟨m,e,l⟩:=xfo h;exact⟨by rw[m];simp[nKey],.inl e,λi=>by rw[e];exact l i⟩
 |D+1,h=>by
  rcases jAt.1 h with h|h
  ·exact qxo h
  ·obtain⟨m,e,l⟩:=xfo h;exact⟨by rw[m];simp[sKey],.inr ⟨D,e⟩,λi=>by rw[e];exact l i⟩
theorem xlj {q:Qu} (h:QV q):(qao q).length<=12:=by
 obtain⟨c0,c1,c2,_,_,_⟩:=h;have h1:=qcu (n:=q.acc) (by omega) (by omega);have h2:=qcu (n:=q.cons) (by omega) (by omega);unfold qao;split
 ·simp
 ·rw[jAc];omega
theorem xlk {q:Qu} (hw:q.W) (d:Int):(qbe q d).length<=348:=by
 unfold qbe;split
 ·rename_i p hp;exact xpw p (hw.p _ (jBz hp))
 ·simp
theorem xfp {q:Qu} (h:QV q) (hw:q.W) {v:List UInt8} (hv:v=qao q∨ ∃d:Nat,v=qbe q d):v.length<=348:=by
 rcases hv with rfl|⟨d,rfl⟩
 ·have:=xlj h;omega
 ·exact xlk hw d
theorem q16 {s:List UInt8} (h:s.length<=1000000):(qa7 s).length<=s.length+6:=by
 have:=qcu (n:=s.length) (by omega) (by omega);rw[qa7,jAc];omega
theorem q7u {a b:Qu} {name:List UInt8} (l:QV b) (i:b.W) (hn:name.length<=30) (e:vn a b name 4≠ []):(qx (vn a b name 4)).2=0:=by
 have hl:=qfz a b name 4;have hp: ∀o∈vn a b name 4,kh o=true:=λo d=>by
  obtain⟨h1,h,m⟩:=qxo d;have h4:=xfp l i h;exact vz.2 ⟨by omega,by omega,by omega,λhd=>by rw[m hd];rfl⟩
 have hs:=qb9 wOp 393 (vn a b name 4) λo d=>by
  obtain⟨h1,h,m⟩:=qxo d;have h4:=xfp l i h;have h5:=q16 (s:=o.key) (by omega);have h6:=q16 (s:=o.val) (by omega);simp only[wOp,jAc,List.length_cons,List.length_nil];omega
 have hc:=qcu (n:=(vn a b name 4).length) (by omega) (by omega);have hpos:0<(vn a b name 4).length:=jCl.2 e;unfold qx;rw[if_neg,if_neg]
 ·simp only[jA1,decide_eq_true_eq,not_or,wOps,jAc];omega
 ·simp only[jA1,decide_eq_true_eq,not_or,jB3,not_exists,not_and];exact⟨by omega,λo d=>by simp[hp o d]⟩
theorem qio: ∀(l:List OpS) (m:Cont),m.l.length+l.length<=400->(jt m l).2=true∧(jt m l).1.l.length<=m.l.length+l.length
 | [],m,h=>⟨rfl,jAh _⟩
 |o::l,m,h=>by
  rw[jt];simp only[List.length_cons]at h⊢;split
  ·have h1:=qw2 o.key m;have:=qio l (mDel o.key m) (by omega);exact⟨this.1,by omega⟩
  ·have h1:=q65 o.key o.val m;rw[if_neg (by omega)];have:=qio l (mPut o.key o.val m) (by omega);exact⟨this.1,by omega⟩
structure Sto.Few (n:Nat) (s:Sto):Prop where
 ok:s.Ok n
 len:s.m.l.length<=5*n
theorem Sto.Few.v {n:Nat} {s:Sto} (h:s.Few n): ∀x∈s.m.l,x.2.2.length<=1000000:=λx hx=>by
 have:=(h.ok.good.small x hx).2.2;omega
theorem xll {m m':Cont} {a b:Qu} {name:List UInt8} (h:Rep m name a) (i: ∀k,mGet k m'=vg k (mGet k m) (vn a b name 4)):Rep m' name b:=by
 refine⟨by rw[i,h.1,q14 a b name 4 (jAh _)],λd e=> ?_⟩;rw[i,h.2 d e,q15 a b name e 4 (jAh _),if_pos e]
theorem xfq {m m':Cont} {a b c:Qu} {name h:List UInt8} (i: ∀(x y:List UInt8),x.length=2->y.length=2->name++x≠h++y) (l:Rep m h c) (o: ∀k,mGet k m'=vg k (mGet k m) (vn a b name 4)):Rep m' h c:=by
 refine⟨?_,λd hd=> ?_⟩
 ·rw[o,qin a b name (nKey h) (i [47,110] [47,110] rfl rfl) (λd _=>i [47,UInt8.ofNat (48+d)] [47,110] rfl rfl) _ 4 (jAh _),l.1]
 ·rw[o,qin a b name (sKey h d) (i [47,110] [47,UInt8.ofNat (48+d)] rfl rfl) (λe _=>i [47,UInt8.ofNat (48+e)] [47,UInt8.ofNat (48+d)] rfl rfl) _ 4 (jAh _),l.2 d hd]
theorem xfr (name:List UInt8):Rep qch name jj:=⟨rfl,λd _=>rfl⟩
theorem xfs {k o n:List UInt8} (h:chg k o n= []):o=n:=by
 unfold chg at h;split at h
 ·assumption
 ·cases h
theorem q7v {a b:Qu} {name:List UInt8}: ∀{D:Nat},vn a b name D= [] ->qao a=qao b∧ ∀d,d<D->qbe a d=qbe b d
 |0,h=>⟨xfs h,λd i=>absurd i (Nat.not_lt_zero _)⟩
 |D+1,h=>by
  obtain⟨h1,h2⟩:=jC2.1 h;obtain⟨i1,i2⟩:=q7v h1;refine⟨i1,λd i=> ?_⟩;rcases jB9 d D with e|e
  ·exact i2 d e
  ·have:d=D:=by omega
   subst this;exact xfs h2
theorem xlm {m:Cont} {a b:Qu} {name:List UInt8} (h1:qao a=qao b) (h2: ∀d:Nat,d<4->qbe a d=qbe b d) (e:Rep m name a):Rep m name b:=⟨by rw[<- h1];exact e.1,λd h=>by rw[<- h2 d h];exact e.2 d h⟩
theorem q17 (x:En): ∀(a:List En),(∀y∈a,cmpB y.1 x.1<0) ->eSet x a=a++ [x]
 | [],_=>rfl
 |y::a,h=>by
  have hy:=h y jA7;rw[eSet,qgo,if_pos (by simpa using hy),q17 x a (λz hz=>h z (jA9 _ hz))];rfl
theorem qnz: ∀(b a:List En),Sorted (a++b) ->(a++b).length<=400->qa3 a (b.map cOp)=(a++b,true)
 | [],a,_,_=>by rw[List.map_nil,qa3,jAu]
 |e::b,a,hs,hl=>by
  have h:eSet e a=a++ [e]:=q17 e a λy hy=>(jFg.1 hs).2.2 y hy e jA7;have ho:eOp a (cOp e)=a++ [e]:=by rw[eOp,if_neg (by simp[cOp])];exact h
  have d:a++e::b=(a++ [e])++b:=by simp
  rw[List.map_cons,qa3,ho,if_neg (by simp only[jAc,List.length_cons,List.length_nil]at hl⊢;omega),d];rw[d]at hs hl;exact qnz b (a++ [e]) hs hl
structure CTx (x:List UInt8×List OpS) (ts:List (List OpS)) (ops:List OpS):Prop where
 file:x.1=yi ts
 enc: ∀t∈ts,(qx t).2=0
 now:x.2= []∨(qx x.2).2=0
 all:ts.flatten++x.2=ops
theorem q7w {x:List UInt8×List OpS} {ts:List (List OpS)} {ops:List OpS} (h:CTx x ts ops): ∃d,qci x.1 x.2=yi d∧(∀t∈d,(qx t).2=0)∧d.flatten=ops:=by
 unfold qci;by_cases i:(qx x.2).2=0
 ·rw[if_pos i,(v8 i).2.2];refine⟨ts++ [x.2],by rw[qjv,h.file],λt e=> ?_,by rw[<- h.all];simp⟩;rcases jAt.1 e with e|e
  ·exact h.enc t e
  ·simp at e;subst e;exact i
 ·rw[if_neg i];have hn:x.2= []:=h.now.resolve_right i;refine⟨ts,h.file,h.enc,?_⟩;have:=h.all;rw[hn,jAu]at this;exact this
theorem xnl (l:List En) (p: ∀e∈l,kvOk (0,e.1,e.2)): ∀i,i<=l.length-> ∃ts,CTx (cAt l i) ts ((l.take i).map cOp)
 |0,_=>⟨[],⟨rfl,by simp,.inl rfl,rfl⟩⟩
 |i+1,h=>by
  obtain⟨ts,d⟩:=xnl l p i (by omega);have hk:=xvd (p _ (jAg (show i<l.length from h)));rw[qxl l h];have m:(l.take (i+1)).map cOp=(l.take i).map cOp++ [cOp l[i]]:=by rw[jAk h,jA2];rfl
  unfold qjw;split
  ·obtain⟨o,q1,q2,q3⟩:=q7w d;exact⟨o,⟨q1,q2,.inr hk,by rw[m,q3]⟩⟩
  ·rename_i hn;exact⟨ts,⟨d.file,d.enc,.inr (by simpa only[ne_eq,Classical.not_not]using hn),by rw[m,<- d.all,jAj]⟩⟩
theorem xft {m:Cont} (hm:m.Good): ∀e∈zt m,kvOk (0,e.1,e.2):=by
 intro e d;rw[zt,qa9,(ki _).mem_iff,preL,jAo]at d;obtain⟨y,hy,rfl⟩:=d;exact hm.small y (jBs.1 hy).1
theorem xa3 {s:Sto} (hs:s.m.Good): ∃ts,Bk (qil s) ts∧ts.flatten=(zt s.m).map cOp:=by
 obtain⟨ts0,h⟩:=xnl (zt s.m) (xft hs) (zt s.m).length (jAh _);rw[jAs]at h;obtain⟨ts,q1,q2,e⟩:=q7w h;have hf:qxk (zt s.m)=yi ts:=by
  rw[qxk,<- q1,cAt,jAs]
 have d:=qnz (zt s.m) [] (qay hs.ok) (by rw[List.nil_append,qlb];exact hs.few);rw[List.nil_append,<- e]at d;exact⟨ts,⟨hf,q2,q1m ts [] _ d⟩,e⟩
theorem qmx {α:Type} {enc:α->List D} {Q:α->Prop}: ∀{rows:List (List D)},(∀r∈rows,∃x,r=enc x∧Q x) -> ∃l:List α,rows=l.map enc∧ ∀x∈l,Q x
 | [],_=>⟨[],rfl,by simp⟩
 |r::rows,h=>by
  obtain⟨x,rfl,hx⟩:=h r (by simp);obtain⟨l,rfl,hl⟩:=qmx (enc:=enc) (Q:=Q) (rows:=rows) (λr hr=>h r (by simp[hr]));exact⟨x::l,rfl,by simpa using ⟨hx,hl⟩⟩
theorem xfu {n:Int} (h:(Lit.int .i64 n).wf=true):I64 n:=by
 have h1:IntKind.i64.min= -9223372036854775808:=by decide
 have h2:IntKind.i64.max=9223372036854775807:=by decide
 simp only[Lit.wf,jAf,decide_eq_true_eq,h1,h2]at h;exact h
theorem xum {n:Int} (h:(Lit.int .u8 n).wf=true):0<=n∧n<=255:=by
 have h1:IntKind.u8.min=0:=by decide
 have h2:IntKind.u8.max=255:=by decide
 simp only[Lit.wf,jAf,decide_eq_true_eq,h1,h2]at h;exact h
theorem xs4 {n:Nat} {d:List D} (h:Shp prog (n+1) 3 d): ∃x,d= [.int .i64 x]∧I64 x:=by
 simp only[Shp,underlying3]at h;obtain⟨x,rfl,h⟩:=h;exact⟨x,rfl,xfu h⟩
theorem xp1 {n:Nat} {d:List D} (h:Shp prog (n+1) 5 d): ∃x:Nat,d= [.int .u8 (x:Nat)]∧x<256:=by
 simp only[Shp,underlying5]at h;obtain⟨x,rfl,h⟩:=h;have:=xum h;refine⟨x.toNat,?_,by omega⟩;rw[jEt this.1]
def d59:=cut prog f59 news
@[go_sem] def E59:=qm d59
def F59:=fnC d59 follows func59
theorem qrx (e:List UInt8) (n k:Nat) (hn:n<=e.length) (hf:e.length<=100000000) (hk:k<=100000):
  qh prog 59 [.d (.agg (v7 e n)),.d (.int .i64 k)] [] (.d (.sl 1 (qe (e.take (n+k%(e.length-n+1)))))) []:=by
 have d1:decide (((n:Nat):Int)<0)=false:=by simp
 have d2:decide (((n:Nat):Int)>(e.length:Int))=false:=by simp;omega
 have w1:IntKind.i64.wrap ((e.length:Int) -(n:Int))=((e.length-n:Nat):Int):=by rw[x9 (by unfold I64;omega)];omega
 have h:IntKind.i64.wrap (((e.length-n:Nat):Int)+1)=((e.length-n+1:Nat):Int):=by rw[x9 (by unfold I64;omega)];omega
 have hlt:=jC3 k (show e.length-n+1>0 by omega);have w3:(k:Int).tmod ((e.length-n+1:Nat):Int)=((k%(e.length-n+1):Nat):Int):=by rw[jBd (by omega)];rfl
 have w4:IntKind.i64.wrap ((n:Int)+((k%(e.length-n+1):Nat):Int))=((n+k%(e.length-n+1):Nat):Int):=by rw[x9 (by unfold I64;omega)];omega
 refine F59.go ?_;refine eo3 @v7.eq_1 @d1 @d2 ?_;refine no_ ?_;have hmx:(if(k:Int)>0 then(k:Int)else 0)=(k:Int):=by split<;>omega
 refine ez2 @w1 @hmx ?_;have hw:IntKind.i64.wrap ((n:Int)+(k:Int).tmod (IntKind.i64.wrap (((e.length-n:Nat):Int)+1)))=((n+k%(e.length-n+1):Nat):Int):=by rw[h,w3,w4]
 have e1:((qe e).take ((((n+k%(e.length-n+1):Nat):Int)).toNat-0))=qe (e.take (n+k%(e.length-n+1))):=by rw[jA6,jCt,zy]
 rw[hw,e1];refine⟨by rw[h];omega,⟨by omega,by omega⟩,?_⟩
 (repeat(with_reducible refine ob ?_));first|refine cl F127 (wp (e.take (n+k%(e.length-n+1))) (by rw[jAl];omega)) ?_|refine clF F127 (wp (e.take (n+k%(e.length-n+1))) (by rw[jAl];omega)) (λ_=>by exact et3 @qr.eq_1 @j0.eq_1 @zq.eq_1) ?_
 exact et
end Go.Proofs.YtkcdbcbpbolgkaaGreatDoor
