/- Texts Aj, Ak, Al, Am, An. -/
import Derived.Test.YtkcdbcbpbolgkaaGreatDoorMwd
import Derived.Laws.CopyRow
set_option linter.unusedSimpArgs false
set_option linter.unusedVariables false
set_option linter.defProp false
set_option maxRecDepth 100000
noncomputable section
namespace Go.Abs
section
variable {P:Program} {N tb:Nat} {T:Nat→Prop} {g:Ghost} {w:World} {st:St} {a:Act} {oper:Oper}
theorem getElem?_chunks: ∀(n es:Nat) (l:List D),n*es<=l.length->(qcl es n l).flatten=l.take (n*es)∧(∀r∈qcl es n l,r.length=es)∧(qcl es n l).length=n
 |0,es,l,_=>by simp[qcl]
 |n+1,es,l,h=>by
  rw[jCy]at h;obtain⟨h1,h2,h3⟩:=getElem?_chunks n es (l.drop es) (by simp;omega);refine⟨?_,?_,by simp[qcl,h3]⟩
  ·simp only[qcl,List.flatten_cons,h1];rw[jCy,Nat.add_comm,jFn]
  ·intro r d;simp only[qcl,jAv]at d;rcases d with rfl|d
   ·simp;omega
   ·exact h2 r d
theorem q83 (hs:SR N T g w st a) {v:Value} {id off es n:Nat} (h:RV g w v (.ref id off es n)) (hok:qtv st.os id off es n):
  (∀row∈qbt st.os id off es n,row.length=es)∧(qbt st.os id off es n).length=n∧ ∃us:List Value,RL g w us (qbt st.os id off es n).flatten∧
   ((n=0∧ ∃C,v= .slice C 0 0)∨ ∃b cap,v= .slice (some ⟨b,off,none⟩) n cap∧ ∀(j:Nat) (u:Value),us[j]? =some u->w.cell? ⟨b,off+j,none⟩=some u):=by
 obtain⟨h1,E⟩:=hok;obtain⟨c1,c2,c3⟩:=getElem?_chunks n es (((ql st.os id).drop off).map ASlot.cellD) (by simp;omega);refine⟨c2,c3,?_⟩;show∃us:List Value,RL g w us (qcl es n (((ql st.os id).drop off).map ASlot.cellD)).flatten∧_;rw[c1];generalize t:D.ref id off es n=y at h;cases h with
 |ref b off' id' es' len cap hg hcap hmx hsz=>
  cases t;by_cases h0:n*es=0
  ·refine⟨[],?_,.inr ⟨b,cap,rfl,by simp⟩⟩;rw[h0];exact⟨by simp,by simp,by simp⟩
  ·obtain⟨c,e,q1,q2,q3⟩:=qum hs hg (by omega);have o:((c.toList.drop off).take (n*es)).length=n*es:=by simp;omega
   refine⟨(c.toList.drop off).take (n*es),⟨by rw[o];simp;omega,?_,?_⟩,.inr ⟨b,cap,rfl,?_⟩⟩
   ·intro d p;rw[<- jDr,jAo]at p;obtain⟨s,i,rfl⟩:=p;have:=jAx.1 E s i;cases s<;>simp_all[ASlot.isCellD,ASlot.cellD]<;>rfl
   ·intro j u d l p;rw[<- jDr,jAn,jAb]at p;obtain⟨s,i,rfl⟩:=p;have q:=jAx.1 E s (jAe i);have B:(ql st.os id)[off+j]? =some s:=by rw[jBx]at i;split at i<;>simp_all
    have A:c[off+j]? =some u:=by rw[jBx]at l;split at l<;>simp_all
    obtain⟨v,m,_,z⟩:=q3 (off+j) s B;rw[A]at m;cases m;exact(qw3 (st:=st) z q).1
   ·intro j u l;rw[jBx]at l;split at l
    ·simpa[World.cell?,q1]using l
    ·cases l
 |refnil C id' off' es'=>
  cases t;refine⟨[],?_,.inl ⟨rfl,C,rfl⟩⟩;rw[jEi];exact⟨by simp,by simp,by simp⟩
 | _=>cases t
theorem qw6 {s t e:TypeId} {x:Operand} {y:Opd} {r:Src} (h1:(y.get st.fr).rows=none) (u:qcc 1 st.os (y.get st.fr)=some r) (G:oper.op= .convert s t x) (o:P.underlying s=some (.slice e)) (J:P.underlying e=some (.int .u8)) (q:P.underlying t=some .string)
  (hx:qr x=some y) (hs:SR N T g w st a) (B:(sem tb (.b2s y) st).ob):y9 P g w st a oper (sem tb (.b2s y) st).v:=by
 simp only[sem,h1,u]at B⊢;obtain⟨hok,A,l,O⟩:=B;have M:=xh hs hx hok;cases hy:y.get st.fr with
 |d p=>
  cases p with
  |ref id off es n=>
   rw[hy]at u M;simp only[qcc]at u;split at u
   ·rename_i hes;subst hes;cases u;obtain⟨c1,c2,us,c3,c4⟩:=q83 hs (ws M) A;simp only at O;rw[O]at c2 c3⊢;rw[qco];refine⟨.string ⟨l.toArray⟩,?_,.str l⟩;have i:=qbi l;have I:l.length=n:=by simpa[qd]using c2
    have F:us=l.map λc=>Value.int .u8 c.toNat:=by
     refine jC5 λj=> ?_;rcases jB9 j l.length with z|z
     ·have C:j<us.length:=by rw[c3.1,i];simpa using z
      rw[jAa C,jAn,jAa z];have:=c3.2.2 j us[j] (D.int .u8 l[j].toNat) (jAa C) (by rw[i];simp[z]);rw[vn this];rfl
     ·rw[jCg (by rw[c3.1,i];simpa using z),jCg (by simpa using z)]
    rcases c4 with⟨h0,ad,E⟩|⟨b,cap,E,hc⟩
    ·have:l= []:=jAy (by omega);subst this;cases ad with
     |none=>
      simp[execOp,G,E,run_convert_bytes_string w s t e _ _ _ o J q,Conv.bytesToString];rfl
     |some a0=>
      have h:(loadCells a0 0).run P w= .ok (([]:List Int).map (Value.int .u8)).toArray w:=by simpa using run_loadCells_list (P:=P) w a0 [] (by simp)
      have m:=run_bytesToString w a0 0 0 [] h;simp only[execOp,G,E,Sem.run_bind,run_convert_bytes_string w s t e _ _ _ o J q,m];simp[ByteArray.empty,ByteArray.emptyWithCapacity];rfl
    ·have h:(loadCells ⟨b,off,none⟩ n).run P w= .ok ((l.map λc=>(c.toNat:Int)).map (Value.int .u8)).toArray w:=by
      have:=run_loadCells_list (P:=P) w ⟨b,off,none⟩ ((l.map λc=>(c.toNat:Int)).map (Value.int .u8)) (by
       intro j v z;rw[Addr.add_lit];apply hc;rw[F];simpa using z)
      simpa[I]using this
     have m:=run_bytesToString w ⟨b,off,none⟩ n cap (l.map λc=>(c.toNat:Int)) h;rw[qd3]at m;simp only[execOp,G,E,Sem.run_bind,run_convert_bytes_string w s t e _ _ _ o J q,m];simp[ByteArray.empty,ByteArray.emptyWithCapacity];rfl
   ·cases u
  | _=>rw[hy]at u;simp[qcc]at u
 | _=>rw[hy]at u;simp[qcc]at u
def Source (P:Program) (size:Nat) (x:Value) (n:Nat) (w:World) (news:List Value):Prop:=
 (Builtin.lenOf x).run P w= .ok n w∧(Builtin.firstCells size n x).run P w= .ok news.toArray w
theorem yx {t u ty e:TypeId} {i:TypeInfo} (m:P.underlying t=some (.slice e)) (hi:P.info? e=some i) (h:(∃f,P.underlying u=some (.slice f))∨P.underlying u=some .string)
  (l:Addr) (d sCap:Nat) {x:Value} {n:Nat} {news:List Value} (hx:Source P i.size x n w news) (hn:d+n<=sCap):
  (Builtin.append_ #[t,u] ty #[.slice (some l) d sCap,x]).run P w=
   ((storeCells (l.add (d*i.size)) news).run P w).andThen λ_ w'=> .ok (.slice (some l) (d+n) sCap) w':=by
 obtain⟨p,o⟩:=hx;rcases h with⟨f,h⟩|h
 ·simp only[Builtin.append_,Sem.run_bind,run_underlying m,run_underlying h,qy hi,Result.andThen_ok,p,jCv,jCa,jCb,Sem.run_pure,jAw,if_false,hn,if_true,o,jDj]
 ·simp only[Builtin.append_,Sem.run_bind,run_underlying m,run_underlying h,qy hi,Result.andThen_ok,p,jCv,jCa,jCb,Sem.run_pure,jAw,if_false,hn,if_true,o,jDj]
theorem qc8 {t u ty e:TypeId} {i:TypeInfo} (l:P.underlying t=some (.slice e)) (hi:P.info? e=some i) (h:(∃f,P.underlying u=some (.slice f))∨P.underlying u=some .string)
  (d sCap:Nat) {x:Value} {n:Nat} {news:List Value} (hx:Source P i.size x n w news) (hn:d+n<=sCap):
  (Builtin.append_ #[t,u] ty #[.slice none d sCap,x]).run P w= .ok (.slice none (d+n) sCap) w:=by
 obtain⟨o,m⟩:=hx;rcases h with⟨f,h⟩|h
 ·simp only[Builtin.append_,Sem.run_bind,run_underlying l,run_underlying h,qy hi,Result.andThen_ok,o,jCv,jCa,jCb,Sem.run_pure,jAw,if_false,hn,if_true,m,jDj]
 ·simp only[Builtin.append_,Sem.run_bind,run_underlying l,run_underlying h,qy hi,Result.andThen_ok,o,jCv,jCa,jCb,Sem.run_pure,jAw,if_false,hn,if_true,m,jDj]
theorem qcp {t u ty e:TypeId} {i:TypeInfo} {z:Value} (v:P.underlying t=some (.slice e)) (hi:P.info? e=some i) (p:i.zero=some z) (m:(∃f,P.underlying u=some (.slice f))∨P.underlying u=some .string) (l:i.bytes≠0)
  (base:Option Addr) (d sCap:Nat) {x:Value} {n:Nat} {olds news:List Value} (B:(Builtin.lenOf x).run P w= .ok n w) (q:(Builtin.firstCells i.size n x).run P w.drew= .ok news.toArray w.drew)
  (A:(Builtin.firstCells i.size d (.slice base d sCap)).run P w.drew= .ok olds.toArray w.drew)
  (hn:sCap<d+n) (hfit:Builtin.nextslicecap (d+n) sCap*i.bytes<=281474976710656):
  (Builtin.append_ #[t,u] ty #[.slice base d sCap,x]).run P w=
   .ok (.slice (some ⟨w.heap.size,0,none⟩) (d+n) (grownCap w (d+n) sCap e))
    (w.drew.alloc (.cells (olds.toArray++news.toArray++Builtin.zeroCells z.cells (grownCap w (d+n) sCap e-(d+n))) e)):=by
 have o: ¬(d+n<=sCap):=by omega
 have h: ¬(281474976710656<Builtin.nextslicecap (d+n) sCap*i.bytes):=by omega
 have hb: ¬(((d+n:Nat):Int)>IntKind.i64.max∧(false=true∨i.bytes=0)):=by simp[l]
 rcases m with⟨f,m⟩|m
 ·simp[Builtin.append_,run_underlying v,run_underlying m,qy hi,typeInfo,zeroValue,hi,p,B,o,q,A,h,l,Question.forced,newRow,grownCap];congr 2;apply Array.ext';simp
 ·simp[Builtin.append_,run_underlying v,run_underlying m,qy hi,typeInfo,zeroValue,hi,p,B,o,q,A,h,l,Question.forced,newRow,grownCap];congr 2;apply Array.ext';simp
theorem qw7 {v:Value} {es:Nat} {rows:List (List D)} (h:RV g w v (.sl es rows)):
  ∃vs:List Value,RL g w vs rows.flatten∧ ∃cap,((∃p,v= .slice p 0 cap∧(p=none->cap=0))∧rows= [])∨(∃b off,v= .slice (some ⟨b,off,none⟩) rows.length cap∧(∀r∈rows,r.length=es)∧
   ∀(j:Nat) (u:Value),vs[j]? =some u->w.cell? ((⟨b,off,none⟩:Addr).add j)=some u):=by
 rcases qtw h with⟨⟨p,cp,q,z⟩,rfl⟩|⟨b,off,cap,n,o,f,q,hg,hn,hcap,hes,hcl,l,t⟩
 ·exact⟨[],⟨rfl,by simp,by simp⟩,cp,.inl ⟨⟨p,q,z⟩,rfl⟩⟩
 ·refine⟨(List.range rows.flatten.length).map f,⟨by simp,hcl,?_⟩,cap,.inr ⟨b,off,q,hes,?_⟩⟩
  ·intro j u d m A;simp only[jAn,jAb]at m;obtain⟨i,hi,rfl⟩:=m;have e:j<rows.flatten.length:=(jAd.1 A).1;rw[jC4 e]at hi;cases hi;exact t j d A
  ·intro j u m;simp only[jAn,jAb]at m;obtain⟨i,hi,rfl⟩:=m;have e:j<rows.flatten.length:=by have:=(jAd.1 hi).1;simpa using this
   rw[jC4 e]at hi;cases hi;rw[Addr.add_lit];exact l j _ (jAa e)
theorem qqu {live:List Nat} {v:Value} {s:ASlot} {es:Nat} {r:List (List D)} (h:RS g w live v s) (hr:(∃l,s= .d (.str l)∧es=1∧r=qd l)∨ ∃e,s.rows=some (e,r)∧(e=es∨r= [])):
  (∀row∈r,row.length=es)∧ ∃news:List Value,RL g w news r.flatten∧Source P es v r.length w news∧(Builtin.firstCells es r.length v).run P w.drew= .ok news.toArray w.drew∧ ∀k,k<=r.length->(Builtin.firstCells es k v).run P w= .ok (news.take (k*es)).toArray w:=by
 rcases hr with⟨l,rfl,rfl,rfl⟩|hr'
 ·
  ·have hv:=qc5 (ws h)
   subst hv
   have hlen:(qd l).length=l.length:=by simp[qd]
   have hext:(⟨l.toArray⟩:ByteArray).extract 0 l.length=⟨l.toArray⟩:=by
    apply ByteArray.ext
    simp[ByteArray.data_extract]
   have hcells: ∀w0:World,(Builtin.firstCells 1 (qd l).length (.string ⟨l.toArray⟩)).run P w0= .ok (l.map fun b=>Value.int .u8 b.toNat).toArray w0:=by
    intro w0
    rw[hlen]
    simp[Builtin.firstCells,hext]
   have hpre: ∀k,k<=(qd l).length->(Builtin.firstCells 1 k (.string ⟨l.toArray⟩)).run P w= .ok ((l.map fun b=>Value.int .u8 b.toNat).take (k*1)).toArray w:=by
    intro k hk
    rw[hlen]at hk
    simp[Builtin.firstCells,<- List.map_take]
   refine⟨by simp[qd],l.map fun b=>Value.int .u8 b.toNat,?_,⟨?_,hcells w⟩,hcells w.drew,hpre⟩
   ·rw[qbi]
    refine⟨by simp,fun d hd=>by obtain⟨c,_,rfl⟩:=List.mem_map.1 hd;rfl,fun j u d hu hd=> ?_⟩
    simp only[List.getElem?_map,Option.map_eq_some_iff]at hu hd
    obtain⟨c,hc,rfl⟩:=hu
    obtain⟨c',hc',rfl⟩:=hd
    rw[hc]at hc';cases hc'
    exact .int _ _
   ·simp[Builtin.lenOf,hlen,qqn]
 ·obtain⟨e,hrow,hc⟩:=hr'
  obtain⟨vs,hrl,cap,hcase⟩:=qw7 (qkm h hrow)
  rcases hcase with⟨⟨ad,rfl,_⟩,rfl⟩|⟨b,off,rfl,hes,hcell⟩
  ·have:vs= []:=by have:=hrl.1;simpa using this
   subst this
   have hfc: ∀w0:World,(Builtin.firstCells es 0 (.slice ad 0 cap)).run P w0= .ok #[] w0:=by
    intro w0
    cases ad with
    |none=>simp[Builtin.firstCells]
    |some a0=>exact run_firstCells_some (P:=P) w0 es 0 a0 _ _ [] (by simp) (by simp)
   exact⟨by simp,[],hrl,⟨by simp[Builtin.lenOf],hfc w⟩,hfc w.drew,fun k hk=>(by have:k=0:=(by simpa using hk);subst this;simpa using hfc w)⟩
  ·have hes': ∀row∈r,row.length=es:=by
    rcases hc with rfl|rfl
    ·exact hes
    ·simp
   have hl:vs.length=r.length*es:=by rw[hrl.1,xm hes']
   refine⟨hes',vs,hrl,⟨by simp[Builtin.lenOf],?_⟩,?_,fun k hk=> ?_⟩
   ·exact run_firstCells_some (P:=P) w es r.length _ _ _ vs hl hcell
   ·exact run_firstCells_some (P:=P) w.drew es r.length _ _ _ vs hl (by simpa using hcell)
   ·have hke:k*es<=r.length*es:=Nat.mul_le_mul_right _ hk
    refine run_firstCells_some (P:=P) w es k _ _ _ _ (by rw[List.length_take];omega) (fun j u hj=>hcell j u ?_)
    rw[List.getElem?_take]at hj
    split at hj
    ·exact hj
    ·cases hj
theorem qgg (hs:SR N T g w st a) {v:Value} {s:ASlot} {es:Nat} {r:Src} (h:RS g w st.live v s) (d:qar es st.os s=some r) (hok:r.ok):
  (∀row∈r.rows,row.length=es)∧ ∃news:List Value,RL g w news r.rows.flatten∧Source P es v r.rows.length w news∧(Builtin.firstCells es r.rows.length v).run P w.drew= .ok news.toArray w.drew∧ ∀k,k<=r.rows.length->(Builtin.firstCells es k v).run P w= .ok (news.take (k*es)).toArray w:=by
 unfold qar at d;split at d
 ·rename_i l;split at d
  ·rename_i p;cases d;exact qqu h (.inl ⟨l,rfl,p,rfl⟩)
  ·cases d
 ·split at d
  ·rename_i e r' o;split at d
   ·rename_i hc;cases d;exact qqu h (.inr ⟨e,o,hc⟩)
   ·cases d
  ·unfold qcc at d;split at d
   ·rename_i id off e n _ _;split at d
    ·rename_i he;subst he;cases d;obtain⟨c1,c2,us,c3,c4⟩:=q83 hs (ws h) hok;refine⟨c1,us,c3,?_⟩;simp only;rw[c2];rcases c4 with⟨rfl,z,rfl⟩|⟨b,cap,rfl,hc⟩
     ·have:us= []:=by
       have p:=c3.1;rw[xm c1,c2]at p;exact jAy (by simpa using p)
      subst this;have m: ∀w0:World,(Builtin.firstCells e 0 (.slice z 0 0)).run P w0= .ok #[] w0:=by
       intro w0;cases z with
       |none=>simp[Builtin.firstCells]
       |some a0=>exact run_firstCells_some (P:=P) w0 e 0 a0 _ _ [] (by simp) (by simp)
      exact⟨⟨by simp[Builtin.lenOf],m w⟩,m w.drew,λk t=>(by have:k=0:=(by omega);subst this;simpa using m w)⟩
     ·have q:us.length=n*e:=by rw[c3.1,xm c1,c2]
      refine⟨⟨by simp[Builtin.lenOf],?_⟩,?_,λk t=> ?_⟩
      ·exact run_firstCells_some (P:=P) w e n _ _ _ us q (λj u i=>by rw[Addr.add_lit];exact hc j u i)
      ·exact run_firstCells_some (P:=P) w.drew e n _ _ _ us q (λj u i=>by rw[Addr.add_lit];exact hc j u i)
      ·have hke:k*e<=n*e:=jAz _ t;refine run_firstCells_some (P:=P) w e k _ _ _ _ (by rw[jAl];omega) (λj u i=> ?_);rw[jBx]at i;split at i
       ·rw[Addr.add_lit];exact hc j u i
       ·cases i
    ·cases d
   ·cases d
end
section
variable {P:Program} {N tb:Nat} {T:Nat→Prop} {g:Ghost} {w:World} {st:St} {a:Act} {oper:Oper} {live live':List Nat}
theorem xls {v:Value} {e es:Nat} {l:List (List D)} (h:RV g w v (.sl e l)) (he:e=es∨l= []):RV g w v (.sl es l):=by
 rcases he with rfl|rfl
 ·exact h
 ·rcases qtw h with⟨⟨ad,cp,rfl,p⟩,_⟩|⟨b,off,cap,n,o,f,rfl,hg,hn,i,hes,hcl,d,m⟩
  ·exact .nilsl ad cp es p
  ·exact .sl b off cap es n o [] f hg hn i (by simp) hcl d m
theorem xfa {v:Value} {es:Nat} {l:List (List D)} (h:RV g w v (.sl es l)): ∀r∈l,r.length=es:=by
 rcases qtw h with⟨_,rfl⟩|⟨b,off,cap,n,o,f,_,_,_,_,hes,_⟩;all_goals grind
theorem xsx {v:Value} {es:Nat} {l:List (List D)} (h:RV g w v (.sl es l)):
  ∃olds:List Value,RL g w olds l.flatten∧(Builtin.firstCells es l.length v).run P w.drew= .ok olds.toArray w.drew:=by
 obtain⟨vs,d,cap,e⟩:=qw7 h;rcases e with⟨⟨ad,rfl,_⟩,rfl⟩|⟨b,off,rfl,hes,hcell⟩
 ·have:vs= []:=by have:=d.1;grind
  subst this;cases ad with
  |none=>simp_all[Builtin.firstCells]
  |some a0=>grind[run_firstCells_some]
 ·exact⟨vs,d,run_firstCells_some (P:=P) w.drew es l.length _ _ _ vs (by rw[d.1,xm hes]) (by simp_all)⟩
theorem RL.quiet {g':Ghost} {w':World} {vs:List Value} {i:List D} (h:RL g w vs i) (hd:Dom g w) (hq:Qt T g w g' w' live live'):RL g' w' vs i:=
 ⟨h.1,h.2.1,λj v d hv e=>hq.rv hd (h.2.2 j v d hv e)⟩
theorem qgh {g':Ghost} {w':World} {b cap:Nat} {c:Array Value} {e:TypeId} {fz:Nat×Nat} {t:Option Nat} {es:Nat} {rows:List (List D)} {vs:List Value} {n:Nat} (hh:w'.heap[b]? =some (.cells c e fz))
  (hg:g' b= .row n t) (hn:rows.flatten.length<=n) (hes: ∀r∈rows,r.length=es) (l:rows.length<=cap) (h:RL g' w' vs rows.flatten) (hc: ∀(j:Nat) (u:Value),vs[j]? =some u->c[j]? =some u):
  RV g' w' (.slice (some ⟨b,0,none⟩) rows.length cap) (.sl es rows):=by
 refine .sl b 0 cap es n t rows (λj=>vs.getD j undef) hg (by omega) l hes h.2.1 (λj d m=> ?_) (λj d m=> ?_)
 ·have i:j<vs.length:=by rw[h.1];grind
  grind[List.getElem?_eq_getElem,World.cell?,List.getD]
 ·have i:j<vs.length:=by rw[h.1];grind
  have:vs.getD j undef=vs[j]:=by grind
  simp only[this];exact h.2.2 j _ d (List.getElem?_eq_getElem i) m
theorem qes (z:Array Value) (n:Nat):(Builtin.zeroCells z n).size=n*z.size:=size_zeroCells z n
theorem q5s {t u ty e:TypeId} {i:TypeInfo} {z:Value} (U:Dom g w) (ht:P.underlying t=some (.slice e)) (hi:P.info? e=some i) (hz:i.zero=some z) (F:z.cells.size=i.size)
  (hu:(∃f,P.underlying u=some (.slice f))∨P.underlying u=some .string) (O:i.bytes≠0)
  {base:Option Addr} {sCap:Nat} {x:Value} {l r:List (List D)} {news:List Value} (hs:RV g w (.slice base l.length sCap) (.sl i.size l))
  (hl:(Builtin.lenOf x).run P w= .ok r.length w) (hx:(Builtin.firstCells i.size r.length x).run P w.drew= .ok news.toArray w.drew) (A:RL g w news r.flatten) (hes: ∀row∈r,row.length=i.size)
  (hn:sCap<l.length+r.length) (h63:l.length+r.length<=9223372036854775807) (M:(l.length+r.length)*i.bytes<=140737488355328) (E:Nat)
  (m: ∀t,T t->t∈live'->t∈live):
  ∃v w' g',(Builtin.append_ #[t,u] ty #[.slice base l.length sCap,x]).run P w= .ok v w'∧Qt T g w g' w' live live'∧RC g' w' live' v (.own E i.size (l++r)):=by
 obtain⟨olds,B,G⟩:=xsx (P:=P) hs;have hfit:Builtin.nextslicecap (l.length+r.length) sCap*i.bytes<=281474976710656:=growslice_fits (by omega) M;have p:=qcp (P:=P) (w:=w) (ty:=ty) ht hi hz hu O base l.length sCap hl hx G hn hfit;have R:Qt T g w (g.at w.heap.size (.row ((l.length+r.length)*i.size) (some E))) (w.drew.alloc (.cells (olds.toArray++news.toArray++Builtin.zeroCells z.cells (grownCap w (l.length+r.length) sCap e-(l.length+r.length))) e)) live live':=
  Qt.newRow U w.drew rfl rfl rfl rfl _ _ (some E) m
 have hge:=grownCap_ge w (l.length+r.length) sCap e;have I:=grownCap_le_maxLen w (l.length+r.length) sCap e (by grind[maxLen]);have C:=xfa hs;have h: ∀row∈l++r,row.length=i.size:=λrow hr=>by grind
 have J:(l++r).flatten.length=(l.length+r.length)*i.size:=by rw[xm h,List.length_append]
 have d:(w.drew.alloc (.cells (olds.toArray++news.toArray++Builtin.zeroCells z.cells (grownCap w (l.length+r.length) sCap e-(l.length+r.length))) e)).heap[w.heap.size]? =some (.cells (olds.toArray++news.toArray++Builtin.zeroCells z.cells (grownCap w (l.length+r.length) sCap e-(l.length+r.length))) e (0,0)):=heap_alloc_new w.drew _;have q:RL g w (olds++news) (l++r).flatten:=by rw[List.flatten_append];exact B.append A
 have o:=qgh (cap:=grownCap w (l.length+r.length) sCap e) (rows:=l++r) d (Ghost.at_same _ _ _) (Nat.le_of_eq J) h (by grind) (q.quiet U R) (λj u hj=>by
  grind)
 rw[List.length_append]at o;refine⟨_,_,_,p,R,o,λ_=> .inr ⟨w.heap.size,_,_,e,by simp,?_,d,?_,I,?_⟩⟩
 ·rw[Ghost.at_same,List.length_append]
 ·grind
 ·have h1:olds.length=l.length*i.size:=by rw[B.1,xm C]
  have h2:news.length=r.length*i.size:=by rw[A.1,xm hes]
  simp only[Array.size_append,List.size_toArray,qes,F,h1,h2,<- Nat.add_mul];grind
theorem q5t {t u ty e:TypeId} {i:TypeInfo} (hd:Dom g w) (ht:P.underlying t=some (.slice e)) (hi:P.info? e=some i)
  (hu:(∃f,P.underlying u=some (.slice f))∨P.underlying u=some .string)
  {b cap O:Nat} {o:Array Value} {R:TypeId} {x:Value} {l r:List (List D)} {news:List Value} (hs:RV g w (.slice (some ⟨b,0,none⟩) l.length cap) (.sl i.size l))
  (hg:g b= .row (l.length*i.size) (some O)) (hh:w.heap[b]? =some (.cells o R (0,0))) (ah:cap<=maxLen) (hcs:cap*i.size<=o.size)
  (hx:Source P i.size x r.length w news) (A:RL g w news r.flatten) (hes: ∀row∈r,row.length=i.size)
  (hn:l.length+r.length<=cap) (tk:Nat) (G: ∀t,T t->t∈live'->t∈live∧t≠O):
  ∃v w' g',(Builtin.append_ #[t,u] ty #[.slice (some ⟨b,0,none⟩) l.length cap,x]).run P w= .ok v w'∧Qt T g w g' w' live live'∧RC g' w' live' v (.own tk i.size (l++r)):=by
 have p:=yx (P:=P) (w:=w) (ty:=ty) ht hi hu ⟨b,0,none⟩ l.length cap hx hn;have aa:=xfa hs;have C: ∀row∈l++r,row.length=i.size:=λrow hr=>by grind
 have h1:l.flatten.length=l.length*i.size:=xm aa;have h2:news.length=r.length*i.size:=by rw[A.1,xm hes]
 have ag:(l++r).flatten.length=(l.length+r.length)*i.size:=by rw[xm C,List.length_append]
 have Y: ∀v∈news,v.oneCell'=true:=by
  intro v hv;obtain⟨j,Z⟩:=List.getElem?_of_mem hv;have F:j<r.flatten.length:=by grind
  exact(A.2.2 j v _ Z (List.getElem?_eq_getElem F)).oneCell (A.2.1 _ (List.getElem_mem F))
 have ad:(l.length+r.length)*i.size<=cap*i.size:=Nat.mul_le_mul_right _ hn;rw[Nat.add_mul]at ad;have ae:=run_storeCells_at P b (l.length*i.size) R news 0 o w hh (by omega) Y;rw[Addr.add_lit,Nat.zero_add]at p;rw[ae]at p;simp only[Nat.add_zero,Result.andThen_ok]at p;generalize J:(o.toList.take (l.length*i.size)++news++o.toList.drop (l.length*i.size+news.length)).toArray=d at p;have hb:b<w.heap.size:=hd.lt_row hg;have z:(w.setRow b d).heap[b]? =some (.cells d R (0,0)):=setRow_heap w b o d R (0,0) hh;have hother: ∀k,k≠b->(w.setRow b d).heap[k]? =w.heap[k]? :=λk B=>setRow_other w b k d B;have hsize:(w.setRow b d).heap.size=w.heap.size:=by simp
 have I:cap*i.size<=d.size:=by
  grind[List.size_toArray,List.length_append,List.length_take,List.length_drop,Array.length_toList]
 have hkeep: ∀j,j<l.length*i.size->d[j]? =o[j]? :=by
  grind[Array.length_toList,List.append_assoc,List.getElem?_append_left,List.length_take]
 have hput: ∀(j:Nat) (v:Value),news[j]? =some v->d[l.length*i.size+j]? =some v:=by
  intro j v Z;have F:j<news.length:=(List.getElem?_eq_some_iff.1 Z).1;have hle:(o.toList.take (l.length*i.size)).length=l.length*i.size:=by grind
  rw[<- J];simp only[List.getElem?_toArray,List.append_assoc];simp_all[List.getElem?_append_right,Nat.add_sub_cancel_left,List.getElem?_append_left]
 have hq:Qt T g w (g.at b (.row ((l.length+r.length)*i.size) (some tk))) (w.setRow b d) live live':=by
  have af: ∀k,k≠b->g.at b (.row ((l.length+r.length)*i.size) (some tk)) k=g k:=λk B=>Ghost.at_ne g _ B;refine⟨⟨rfl,rfl,rfl,by omega,λk B q=> ?_,λk m B q=> ?_,λk m t' B q=> ?_,λk id B q=> ?_⟩,⟨λk B=> ?_,hd.2.same λk m B q=>by grind⟩,λk id q=> ?_,λk id q=> ?_,λk m t' ac ab q=> ?_,λt' h h'=>(G t' h h').1,λk t' ac ab q=> ?_⟩
  ·grind
  ·grind
  ·grind[Ghost.at_same,Nat.mul_le_mul_right,World.cell?,Option.isSome_none,Bool.false_eq_true]
  ·have:k≠b:=by grind
   grind[Nat.le_of_eq,jl]
  ·have:k≠b:=by omega
   rw[af k this];exact hd.1 k (by omega)
  ·grind
  ·have:k≠b:=by rintro rfl;grind[Ghost.at_same]
   grind
  all_goals grind
 obtain⟨vs,E,c0,M⟩:=qw7 hs;have hvs': ∀(j:Nat) (u:Value),vs[j]? =some u->o[j]? =some u:=by
  rcases M with⟨_,hnil⟩|⟨b',off',h,_,hcell⟩
  ·intro j u Z;have hv0:vs= []:=by have:=E.1;grind
   grind
  ·cases h;simp_all[Addr.add_lit,Nat.zero_add,World.cell?]
 have X:RL g w (vs++news) (l++r).flatten:=by rw[List.flatten_append];exact E.append A
 have hvl:vs.length=l.length*i.size:=by rw[E.1,h1]
 have U:=qgh (cap:=cap) (rows:=l++r) z (Ghost.at_same _ _ _) (Nat.le_of_eq ag) C (by grind) (X.quiet hd hq) (λj u Z=>by
  grind)
 rw[List.length_append]at U;refine⟨_,_,_,p,hq,U,λ_=> .inr ⟨b,cap,d,R,by simp,?_,z,?_,ah,I⟩⟩;all_goals grind[Ghost.at_same,List.length_append]
theorem q84 {t es:Nat} {l:List (List D)} {v:Value} (h:UniOk g w t es l v):
  ∃base cap olds,v= .slice base l.length cap∧l.length<=cap∧(∀r∈l,r.length=es)∧RL g w olds l.flatten∧(Builtin.firstCells es l.length v).run P w.drew= .ok olds.toArray w.drew:=by
 rcases h with⟨z,rfl,rfl⟩|⟨b,cap,i,e,rfl,h2,h3,q,h5,h6,p,h8⟩
 ·refine⟨z,0,[],rfl,Nat.le_refl _,by simp,⟨by simp,by simp,by simp⟩,?_⟩;cases z with
  |none=>rfl
  |some a0=>grind[run_firstCells_some]
 ·have hfl:l.flatten.length=l.length*es:=xm p;have hrow:l.length*es<=cap*es:=Nat.mul_le_mul_right _ q;have m:(i.toList.take (l.length*es)).length=l.length*es:=by grind
  refine⟨_,cap,i.toList.take (l.length*es),rfl,q,p,⟨by omega,λd hd=> ?_,λj v d hv hd=> ?_⟩,?_⟩
  ·grind[List.getElem?_of_mem]
  ·grind
  ·refine run_firstCells_some (P:=P) w.drew es l.length _ _ _ _ m (λj u o=> ?_);rw[List.getElem?_take]at o;split at o
   ·rw[Addr.add_lit,Nat.zero_add];have h3':w.drew.heap[b]? =some (.cells i e (0,0)):=h3;grind[World.cell?]
   grind
theorem qic {t u ty e:TypeId} {i:TypeInfo} {z:Value} (Y:Dom g w) (ht:P.underlying t=some (.slice e)) (hi:P.info? e=some i) (hz:i.zero=some z) (G:z.cells.size=i.size)
  (hu:(∃f,P.underlying u=some (.slice f))∨P.underlying u=some .string) (R:i.bytes≠0)
  {base:Option Addr} {sCap:Nat} {x:Value} {l r:List (List D)} {olds news:List Value} (C: ∀row∈l,row.length=i.size) (A:RL g w olds l.flatten)
  (I:(Builtin.firstCells i.size l.length (.slice base l.length sCap)).run P w.drew= .ok olds.toArray w.drew)
  (hl:(Builtin.lenOf x).run P w= .ok r.length w) (hx:(Builtin.firstCells i.size r.length x).run P w.drew= .ok news.toArray w.drew) (q:RL g w news r.flatten) (hes: ∀row∈r,row.length=i.size)
  (hn:sCap<l.length+r.length) (h63:l.length+r.length<=9223372036854775807) (O:(l.length+r.length)*i.bytes<=140737488355328) (F:Nat)
  (o: ∀t,T t->t∈live'->t∈live):
  ∃v w' g',(Builtin.append_ #[t,u] ty #[.slice base l.length sCap,x]).run P w= .ok v w'∧Qt T g w g' w' live live'∧RC g' w' live' v (.uni F i.size (l++r)):=by
 have hfit:Builtin.nextslicecap (l.length+r.length) sCap*i.bytes<=281474976710656:=growslice_fits (by omega) O;have p:=qcp (P:=P) (w:=w) (ty:=ty) ht hi hz hu R base l.length sCap hl hx I hn hfit;have U:Qt T g w (g.at w.heap.size (.uni F)) (w.drew.alloc (.cells (olds.toArray++news.toArray++Builtin.zeroCells z.cells (grownCap w (l.length+r.length) sCap e-(l.length+r.length))) e)) live live':=
  Qt.newUni Y w.drew rfl rfl rfl rfl _ F o
 have hge:=grownCap_ge w (l.length+r.length) sCap e;have M:=grownCap_le_maxLen w (l.length+r.length) sCap e (by grind[maxLen]);have E: ∀row∈l++r,row.length=i.size:=λrow hr=>by grind
 have B:(w.drew.alloc (.cells (olds.toArray++news.toArray++Builtin.zeroCells z.cells (grownCap w (l.length+r.length) sCap e-(l.length+r.length))) e)).heap[w.heap.size]? =some (.cells (olds.toArray++news.toArray++Builtin.zeroCells z.cells (grownCap w (l.length+r.length) sCap e-(l.length+r.length))) e (0,0)):=heap_alloc_new w.drew _;have m:RL g w (olds++news) (l++r).flatten:=by rw[List.flatten_append];exact A.append q
 have h:=m.quiet Y U;refine⟨_,_,_,p,U,⟨_,_,by rw[List.length_append]⟩,λ_=> .inr ⟨w.heap.size,_,_,e,by simp,Ghost.at_same _ _ _,B,?_,M,?_,E,λj d X=> ?_⟩⟩
 ·grind
 ·have h1:olds.length=l.length*i.size:=by rw[A.1,xm C]
  have h2:news.length=r.length*i.size:=by rw[q.1,xm hes]
  simp only[Array.size_append,List.size_toArray,qes,G,h1,h2,<- Nat.add_mul];grind
 ·have J:j<(olds++news).length:=by rw[m.1];grind
  refine⟨h.2.1 d (List.mem_of_getElem? X),(olds++news)[j],?_,h.2.2 j _ d (List.getElem?_eq_getElem J) X⟩;grind
theorem qoh {t u ty e:TypeId} {i:TypeInfo} (hd:Dom g w) (ht:P.underlying t=some (.slice e)) (hi:P.info? e=some i)
  (hu:(∃f,P.underlying u=some (.slice f))∨P.underlying u=some .string)
  {b cap O:Nat} {p:Array Value} {R:TypeId} {x:Value} {l r:List (List D)} {news:List Value} (Y: ∀row∈l,row.length=i.size)
  (M: ∀(j:Nat) (d:D),l.flatten[j]? =some d->d.isCell=true∧ ∃u,p[j]? =some u∧RV g w u d)
  (hg:g b= .uni O) (hh:w.heap[b]? =some (.cells p R (0,0))) (ag:cap<=maxLen) (hcs:cap*i.size<=p.size)
  (hx:Source P i.size x r.length w news) (A:RL g w news r.flatten) (hes: ∀row∈r,row.length=i.size)
  (hn:l.length+r.length<=cap) (tk:Nat) (F: ∀t,T t->t∈live'->t∈live∧t≠O):
  ∃v w' g',(Builtin.append_ #[t,u] ty #[.slice (some ⟨b,0,none⟩) l.length cap,x]).run P w= .ok v w'∧Qt T g w g' w' live live'∧RC g' w' live' v (.uni tk i.size (l++r)):=by
 have q:=yx (P:=P) (w:=w) (ty:=ty) ht hi hu ⟨b,0,none⟩ l.length cap hx hn;have Z: ∀row∈l++r,row.length=i.size:=λrow hr=>by grind
 have h1:l.flatten.length=l.length*i.size:=xm Y;have h2:news.length=r.length*i.size:=by rw[A.1,xm hes]
 have X: ∀v∈news,v.oneCell'=true:=by
  intro v hv;obtain⟨j,C⟩:=List.getElem?_of_mem hv;have B:j<r.flatten.length:=by rw[<- A.1];grind
  exact(A.2.2 j v _ C (List.getElem?_eq_getElem B)).oneCell (A.2.1 _ (List.getElem_mem B))
 have ac:(l.length+r.length)*i.size<=cap*i.size:=Nat.mul_le_mul_right _ hn;rw[Nat.add_mul]at ac;have ad:=run_storeCells_at P b (l.length*i.size) R news 0 p w hh (by omega) X;rw[Addr.add_lit,Nat.zero_add]at q;rw[ad]at q;simp only[Nat.add_zero,Result.andThen_ok]at q;generalize J:(p.toList.take (l.length*i.size)++news++p.toList.drop (l.length*i.size+news.length)).toArray=o at q;have hb:b<w.heap.size:=hd.lt_uni hg;have I:(w.setRow b o).heap[b]? =some (.cells o R (0,0)):=setRow_heap w b p o R (0,0) hh;have hother: ∀k,k≠b->(w.setRow b o).heap[k]? =w.heap[k]? :=λk E=>setRow_other w b k o E;have hsize:(w.setRow b o).heap.size=w.heap.size:=by simp
 have G:cap*i.size<=o.size:=by
  grind
 have hkeep: ∀j,j<l.length*i.size->o[j]? =p[j]? :=by
  grind
 have U: ∀(j:Nat) (v:Value),news[j]? =some v->o[l.length*i.size+j]? =some v:=by
  intro j v C;have B:j<news.length:=(List.getElem?_eq_some_iff.1 C).1;have hle:(p.toList.take (l.length*i.size)).length=l.length*i.size:=by grind
  rw[<- J];simp only[List.getElem?_toArray,List.append_assoc];simp_all[List.getElem?_append_right,Nat.add_sub_cancel_left,List.getElem?_append_left]
 have hq:Qt T g w (g.at b (.uni tk)) (w.setRow b o) live live':=by
  have af: ∀k,k≠b->g.at b (.uni tk) k=g k:=λk E=>Ghost.at_ne g _ E;refine⟨⟨rfl,rfl,rfl,by omega,λk E z=> ?_,λk m E z=> ?_,λk m t' E z=> ?_,λk id E z=> ?_⟩,⟨λk E=> ?_,hd.2.same λk m E z=>by grind⟩,λk id z=> ?_,λk id z=> ?_,λk m t' ab aa z=> ?_,λt' h h'=>(F t' h h').1,λk t' ab aa z=> ?_⟩
  ·grind
  ·grind
  ·have hkb:k≠b:=by grind
   exact⟨m,some t',by grind,Nat.le_refl _,λj v _ hv=>by grind[kj]⟩
  ·have:k≠b:=by grind
   grind[Nat.le_of_eq,jl]
  ·have:k≠b:=by omega
   rw[af k this];exact hd.1 k (by omega)
  ·grind
  ·have:k≠b:=by rintro rfl;grind[Ghost.at_same]
   grind
  all_goals grind
 refine⟨_,_,_,q,hq,⟨_,_,by rw[List.length_append]⟩,λ_=> .inr ⟨b,cap,o,R,by simp,Ghost.at_same _ _ _,I,by grind,ag,G,Z,λj d C=> ?_⟩⟩;rw[List.flatten_append]at C;by_cases ae:j<l.flatten.length
 ·rw[List.getElem?_append_left ae]at C;obtain⟨c1,u,c2,c3⟩:=M j d C;exact⟨c1,u,by grind,hq.rv hd c3⟩
 ·rw[List.getElem?_append_right (by omega)]at C;have B:j-l.flatten.length<news.length:=by rw[A.1];grind
  have:=U (j-l.flatten.length) _ (List.getElem?_eq_getElem B);rw[show l.length*i.size+(j-l.flatten.length)=j by omega]at this;exact⟨A.2.1 d (List.mem_of_getElem? C),_,this,hq.rv hd (A.2.2 _ _ d (List.getElem?_eq_getElem B) C)⟩
def qp (live:List Nat) (o:Out):List Nat:=(live.filter λt=> !o.cons.contains t)++o.iss
theorem jr {live:List Nat} {o:Out} {t:Nat}:t∈qp live o↔(t∈live∧t∉o.cons)∨t∈o.iss:=by
 simp[qp]
theorem qqv {t u e:TypeId} {s x:Operand} {s' x':Opd} {i:TypeInfo} {z:List D} (ho:oper.op= .call {callee:= .builtin .append,args:= #[s,x],argTypes:= #[t,u]})
  (ht:P.underlying t=some (.slice e)) (hi:P.info? e=some i) (hz:jm P e=some z) (hsz:i.size=z.length) (hb:0<i.bytes)
  (hu:(∃f,P.underlying u=some (.slice f))∨P.underlying u=some .string) (an:qr s=some s') (am:qr x=some x') (hs:SR N T g w st a) (ag:Fresh T tb)
  (F:(sem tb (.append false i.size i.bytes s' x') st).ob) (M: ∀t∈(sem tb (.append false i.size i.bytes s' x') st).cons,t∈st.live):
  ∃v w' g',(execOp a.eval oper).run P w= .ok (.value v) w'∧Qt T g w g' w' st.live (qp st.live (sem tb (.append false i.size i.bytes s' x') st))∧
   RS g' w' (qp st.live (sem tb (.append false i.size i.bytes s' x') st)) v (sem tb (.append false i.size i.bytes s' x') st).v:=by
 simp only[sem]at F M⊢;obtain⟨o1,o2,F⟩:=F;have rs:=xh hs an o1;have rx:=xh hs am o2;obtain⟨i',zv,ai,aj,al⟩:=vi hz;rw[hi]at ai;cases ai;have ak:zv.cells.size=i.size:=by have:=(kr al).1;grind
 unfold km at F M⊢;cases hsrc:qar i.size st.os (x'.get st.fr)with
 |none=>grind[Out.bad]
 |some rr=>
  obtain⟨r,Z,rok⟩:=rr;cases hrow:(s'.get st.fr).rows with
  |none=>grind[Out.bad]
  |some p=>
   obtain⟨e0,l⟩:=p;simp only[hsrc,hrow]at F M⊢;obtain⟨ac,he,B,av,aw⟩:=F;obtain⟨hes,news,ae,m,R,_⟩:=qgg (P:=P) hs rx hsrc ac;have A:=xls (qkm rs hrow) he;obtain⟨base,cap,hv⟩:=qll A;have hcap:l.length<=cap:=by
    rcases qtw A with⟨h,rfl⟩|⟨b,off,c,n,o,f,h,_,_,hc,_⟩;all_goals grind
   rw[hv]at A rs;have O: ∀v w',(Builtin.append_ #[t,u] oper.type #[.slice base l.length cap,a.eval x]).run P w= .ok v w'->(execOp a.eval oper).run P w= .ok (.value v) w':=by
    simp_all[execOp,resolve,invoke,builtin]
   have more: ∀(live':List Nat),(∀t,T t->t∈live'->t∈st.live) ->cap<l.length+r.length->
     ∃v w' g',(execOp a.eval oper).run P w= .ok (.value v) w'∧Qt T g w g' w' st.live live'∧RS g' w' live' v (.own tb i.size (l++r)):=by
    intro live' E hn;obtain⟨v,w',g',h1,h2,h3⟩:=q5s (P:=P) (ty:=oper.type) hs.dom ht hi aj ak hu (by omega) A m.1 R ae hes hn aw av tb E;exact⟨v,w',g',O v w' h1,h2,h3⟩
   have q: ∀(live':List Nat),(∀t,T t->t∈live'->t∈st.live) ->cap=l.length-> ¬cap<l.length+r.length->
     ∃v w' g',(execOp a.eval oper).run P w= .ok (.value v) w'∧Qt T g w g' w' st.live live'∧RS g' w' live' v (.own tb i.size (l++r)):=by
    intro live' E au hn;have ao:r= []:=List.eq_nil_of_length_eq_zero (by omega);subst ao;have aa:news= []:=by have:=ae.1;grind
    subst aa;refine⟨.slice base l.length cap,w,g,O _ _ ?_,⟨G.refl g w,hs.dom,λ_ _ _=>rfl,λ_ _ h=>h,λ_ _ _ _ _ h=>⟨h,rfl⟩,E,λ_ _ _ _ h=>⟨h,rfl⟩⟩,?_⟩
    ·cases base with
     |none=>
      have:=qc8 (P:=P) (ty:=oper.type) ht hi hu l.length cap m (by omega);omega
     |some ad=>
      have:=yx (P:=P) (ty:=oper.type) ht hi hu ad l.length cap m (by omega);simp_all[storeCells]
    ·rw[List.append_nil];exact⟨A,λ_=> .inl ⟨base,by rw[au]⟩⟩
   cases hk:s'.get st.fr with
   |own t0 e1 l1=>
    rw[hk]at hrow B rs M;have af:t0∈st.live:=M t0 (by simp[qch]);simp only[ASlot.rows,Option.some.injEq,Prod.mk.injEq]at hrow;obtain⟨rfl,rfl⟩:=hrow;simp only[qch];have E: ∀(U:ASlot) (X:Prop),∀t,T t->t∈qp st.live {v:=U,ob:=X,rd:=Z,cons:= [t0],iss:= [tb]} ->t∈st.live∧t≠t0:=by
     intro U X t J I;rcases jr.1 I with⟨h1,h2⟩|h
     ·grind
     ·simp at h;exact(ag.ne J h).elim
    rcases rs.2 af with⟨ad,C⟩|⟨b,c,cur,te,ab,hg,hh,hle,ar,aq⟩
    ·cases C;by_cases hn:l1.length<l1.length+r.length
     ·exact more _ (λt h h'=>(E _ _ t h h').1) hn
     ·exact q _ (λt h h'=>(E _ _ t h h').1) rfl hn
    ·cases ab;by_cases hn:cap<l1.length+r.length
     ·exact more _ (λt h h'=>(E _ _ t h h').1) hn
     ·have ah:=B;subst ah;obtain⟨v,w',g',q1,q2,q3⟩:=q5t (P:=P) (ty:=oper.type) hs.dom ht hi hu A hg hh ar aq m ae hes (by grind) tb (E _ _);exact⟨v,w',g',O v w' q1,q2,q3⟩
   |full e1 l1=>
    rw[hk]at hrow B rs;simp only[ASlot.rows,Option.some.injEq,Prod.mk.injEq]at hrow;obtain⟨rfl,rfl⟩:=hrow;simp only[qch];obtain⟨ad,C⟩:=rs.2;cases C;have E: ∀(U:ASlot) (X:Prop),∀t,T t->t∈qp st.live {v:=U,ob:=X,rd:=Z,cons:= [],iss:= [tb]} ->t∈st.live:=by
     intro U X t J I;rcases jr.1 I with⟨h1,h2⟩|h
     ·exact h1
     ·simp at h;exact(ag.ne J h).elim
    by_cases hn:l1.length<l1.length+r.length
    ·exact more _ (E _ _) hn
    ·exact q _ (E _ _) rfl hn
   |d x=>
    rw[hk]at hrow B rs;cases x<;>first|grind|skip
    simp only[ASlot.rows,Option.some.injEq,Prod.mk.injEq]at hrow;obtain⟨rfl,rfl⟩:=hrow;simp only[qch];have E: ∀(U:ASlot) (X:Prop),∀t,T t->t∈qp st.live {v:=U,ob:=X,rd:=Z,cons:= [],iss:= [tb]} ->t∈st.live:=by
     intro U X t J I;rcases jr.1 I with⟨h1,h2⟩|h
     ·exact h1
     ·simp at h;exact(ag.ne J h).elim
    have hcap0:cap=0:=by
     have Y:RV g w (.slice base 0 cap) .nilsl:=rs;generalize hx0:Value.slice base 0 cap=u0 at Y;generalize hy0:D.nilsl=y0 at Y;cases Y<;>first|grind|grind
    by_cases hn:cap<([]:List (List D)).length+r.length
    ·exact more _ (E _ _) hn
    ·exact q _ (E _ _) (by omega) hn
   | _=>grind
theorem qqw {t u e:TypeId} {s x:Operand} {s' x':Opd} {i:TypeInfo} {z:List D} (ho:oper.op= .call {callee:= .builtin .append,args:= #[s,x],argTypes:= #[t,u]})
  (ht:P.underlying t=some (.slice e)) (hi:P.info? e=some i) (hz:jm P e=some z) (hsz:i.size=z.length) (hb:0<i.bytes)
  (hu:(∃f,P.underlying u=some (.slice f))∨P.underlying u=some .string) (au:qr s=some s') (ar:qr x=some x') (hs:SR N T g w st a) (af:Fresh T tb)
  (p:(sem tb (.append true i.size i.bytes s' x') st).ob) (A: ∀t∈(sem tb (.append true i.size i.bytes s' x') st).cons,t∈st.live):
  ∃v w' g',(execOp a.eval oper).run P w= .ok (.value v) w'∧Qt T g w g' w' st.live (qp st.live (sem tb (.append true i.size i.bytes s' x') st))∧
   RS g' w' (qp st.live (sem tb (.append true i.size i.bytes s' x') st)) v (sem tb (.append true i.size i.bytes s' x') st).v:=by
 simp only[sem]at p A⊢;obtain⟨o1,o2,p⟩:=p;have rs:=xh hs au o1;have rx:=xh hs ar o2;obtain⟨i',zv,am,ah,aq⟩:=vi hz;rw[hi]at am;cases am;have ai:zv.cells.size=i.size:=by have:=(kr aq).1;grind
 unfold km at p A⊢;cases hsrc:qar i.size st.os (x'.get st.fr)with
 |none=>grind[Out.bad]
 |some rr=>
  obtain⟨r,ao,an⟩:=rr;simp only[hsrc]at p A⊢;have C: ∀(base:Option Addr) (n cap:Nat) v w',a.eval s= .slice base n cap->(Builtin.append_ #[t,u] oper.type #[.slice base n cap,a.eval x]).run P w= .ok v w'->(execOp a.eval oper).run P w= .ok (.value v) w':=by
   simp_all[execOp,resolve,invoke,builtin]
  have B: ∀(I:Option Addr) (live':List Nat),a.eval s= .slice I 0 0->an->r.length*i.bytes<=140737488355328->r.length<=9223372036854775807->(∀t,T t->t∈live'->t∈st.live) ->
    ∃v w' g',(execOp a.eval oper).run P w= .ok (.value v) w'∧Qt T g w g' w' st.live live'∧RS g' w' live' v (.uni tb i.size r):=by
   intro I live' J o E F hl;obtain⟨hes,news,R,m,q,_⟩:=qgg (P:=P) hs rx hsrc o;have aw:(Builtin.firstCells i.size 0 (.slice I 0 0)).run P w.drew= .ok #[] w.drew:=by
    cases I with
    |none=>rfl
    |some a0=>grind[run_firstCells_some]
   by_cases hn:0<r.length
   ·obtain⟨v,w',g',Y,h2,h3⟩:=qic (P:=P) (ty:=oper.type) (l:= []) (olds:= []) hs.dom ht hi ah ai hu (by omega) (by simp) ⟨by simp,by simp,by simp⟩ aw m.1 q R hes (by grind) (by grind) (by grind) tb hl;exact⟨v,w',g',C _ _ _ v w' J Y,h2,h3⟩
   ·have Z:r= []:=List.eq_nil_of_length_eq_zero (by omega);subst Z;refine⟨.slice I 0 0,w,g,C _ _ _ _ _ J ?_,⟨G.refl g w,hs.dom,λ_ _ _=>rfl,λ_ _ h=>h,λ_ _ _ _ _ h=>⟨h,rfl⟩,hl,λ_ _ _ _ h=>⟨h,rfl⟩⟩,⟨I,0,rfl⟩,λ_=> .inl ⟨I,rfl,rfl⟩⟩;have aa:news= []:=by have:=R.1;grind
    subst aa;cases I with
    |none=>
     have:=qc8 (P:=P) (ty:=oper.type) ht hi hu 0 0 m (by simp);omega
    |some I=>
     have:=yx (P:=P) (ty:=oper.type) ht hi hu I 0 0 m (by simp);simp_all[storeCells]
  cases hk:s'.get st.fr with
  |uni t0 e1 l=>
   rw[hk]at rs;simp only[hk,qa3]at p A⊢;obtain⟨o,rfl,E,F⟩:=p;have ae:t0∈st.live:=A t0 (by simp);have hl: ∀(vv:ASlot) (oo:Prop),∀t,T t->t∈qp st.live {v:=vv,ob:=oo,rd:=ao,cons:= [t0],iss:= [tb]} ->t∈st.live∧t≠t0:=by
    intro vv oo t O M;rcases jr.1 M with⟨Y,h2⟩|h
    ·grind
    ·simp at h;exact(af.ne O h).elim
   obtain⟨hes,news,R,m,q,_⟩:=qgg (P:=P) hs rx hsrc o;have ak:=rs.2 ae;obtain⟨base,cap,olds,J,hcap,X,av,al⟩:=q84 (P:=P) ak;rw[J]at al;by_cases hn:cap<l.length+r.length
   ·obtain⟨v,w',g',Y,h2,h3⟩:=qic (P:=P) (ty:=oper.type) hs.dom ht hi ah ai hu (by omega) X av al m.1 q R hes hn F E tb (λt h h'=>(hl _ _ t h h').1);exact⟨v,w',g',C _ _ _ v w' J Y,h2,h3⟩
   ·rcases ak with⟨I,aj,rfl⟩|⟨b,c,cur,te,U,hg,hh,hle,ay,ax,hes1,ac⟩
    ·rw[J]at aj;cases aj;have Z:r= []:=List.eq_nil_of_length_eq_zero (by omega);subst Z;exact B base _ J o (by simp) (by simp) (λt h h'=>(hl _ _ t h h').1)
    ·rw[U]at J;cases J;obtain⟨v,w',g',q1,q2,q3⟩:=qoh (P:=P) (ty:=oper.type) hs.dom ht hi hu X ac hg hh ay ax m R hes (by grind) tb (hl _ _);exact⟨v,w',g',C _ _ _ v w' U q1,q2,q3⟩
  |full e1 l=>
   rw[hk]at rs;simp only[hk,qa3]at p A⊢;obtain⟨o,rfl,E,F⟩:=p;obtain⟨I,ab⟩:=rs.2;exact B I _ ab o E F (λt O M=>by
    rcases jr.1 M with⟨Y,h2⟩|h
    ·exact Y
    ·simp at h;exact(af.ne O h).elim)
  |d y=>
   rw[hk]at rs;cases y with
   |nilsl=>
    simp only[hk,qa3]at p A⊢;obtain⟨o,E,F⟩:=p;have J:a.eval s= .slice none 0 0:=by
     have ag:RV g w (a.eval s) .nilsl:=rs;generalize a.eval s=u0 at ag;cases ag;rfl
    exact B none _ J o E F (λt O M=>by
     rcases jr.1 M with⟨Y,h2⟩|h
     ·exact Y
     ·simp at h;exact(af.ne O h).elim)
   | _=>grind[qa3,Out.bad]
  | _=>grind[qa3,Out.bad]
end
section
variable {P:Program} {N tb:Nat} {T:Nat→Prop} {g:Ghost} {w:World} {st:St} {a:Act} {oper:Oper} {live live':List Nat}
theorem qoi: ∀(ps:List (Nat×List D)) (z:List D),(∀p∈ps,p.1+p.2.length<=z.length) ->(qqg z ps).length=z.length
 | [],z,_=>rfl
 |(off,cs)::ps,z,h=>by
  have h0:=h (off,cs) (by simp);have d:(z.take off++cs++z.drop (off+cs.length)).length=z.length:=by simp at h0⊢;omega
  simp only[qqg];rw[qoi ps _ (λp hp=>by rw[d];exact h p (by simp[hp])),d]
theorem qm5 {zv:Value} {z:List D} (hm:zv.cells.toList.mapM qc4=some z): ∀(n k:Nat),k=zv.cells.size->0<k->
  RL g w ((Array.range (n*k)).map (zv.cells[· %zv.cells.size]!)).toList (List.replicate n z).flatten:=by
 intro n k B C;have m:RL g w zv.cells.toList z:=RL.consts hm;have l:z.length=k:=by have:=m.1;simp at this;omega
 have q:(List.replicate n z).flatten.length=n*k:=by simp[l]
 have i: ∀j,j<n*k->(List.replicate n z).flatten[j]? =z[j%k]? :=by
  intro j p;have hes: ∀r∈List.replicate n z,r.length=k:=by intro r hr;rw[jEu hr,l]
  have t:j/k<n:=Nat.div_lt_of_lt_mul (by rw[jDx];exact p);have e:j%k<k:=jC6 _ C;have o:(List.replicate n z).getD (j/k) []=z:=by simp[List.getD,t]
  have:=qqm hes (j/k) (j%k) z[j%k] (by rw[o];exact jAa (by omega));rw[show j/k*k+j%k=j by rw[jDx];exact Nat.div_add_mod j k]at this;rw[this,jAa (by omega)]
 refine⟨by simp[l],?_,?_⟩
 ·intro d u;obtain⟨j,p⟩:=jBh u;have h:j<n*k:=by rw[<- q];exact(jAd.1 p).1
  rw[i j h]at p;exact m.2.1 d (jAe p)
 ·intro j v d A u;have h:j<n*k:=by rw[<- q];exact(jAd.1 u).1
  rw[i j h]at u;have e:j%k<zv.cells.size:=by rw[<- B];exact jC6 _ C
  simp[h,<- B]at A;have:zv.cells[j%k]! =zv.cells[j%k]'e:=by simp[e]
  rw[this]at A;exact m.2.2 (j%k) v d (by subst A;simp) u
theorem qlr {t e:TypeId} {l c:Operand} {i:TypeInfo} {zv:Value} {k1 k2:IntKind} {n m:Int} (F:oper.op= .makeSlice t l c) (E:P.underlying t=some (.slice e)) (hi:P.info? e=some i) (q:i.zero=some zv) (h0:0<i.size)
  (I:a.eval l= .int k1 n) (G:a.eval c= .int k2 m) (o3:0<=n) (o4:n<=m) (o5:m<=9223372036854775807) (o6:m*i.bytes<=281474976710656):
  (execOp a.eval oper).run P w= .ok (.value (.slice (some ⟨w.heap.size,0,none⟩) n.toNat m.toNat)) (w.alloc (.cells ((Array.range (m.toNat*i.size)).map (zv.cells[· %zv.cells.size]!)) e)):=by
 have w1:IntKind.i64.wrap n=n:=by rw[IntKind.wrap_i64];omega
 have v:IntKind.i64.wrap m=m:=by rw[IntKind.wrap_i64];omega
 have hmul:((m.toNat*i.bytes:Nat):Int)=m*i.bytes:=by rw[Int.natCast_mul];congr 1;omega
 generalize d:(Array.range (m.toNat*i.size)).map (zv.cells[· %zv.cells.size]!)=cells;have o:m.toNat*i.size=0->cells= #[]:=by intro h;rw[<- d,h];simp[Array.range_zero']
 have C: ¬(281474976710656<(i.bytes:Int)*m):=by rw[Int.mul_comm];omega
 have B: ¬(m<0):=by omega
 have A: ¬(n<0):=by omega
 have t4: ¬(n>m):=by omega
 have z: ¬(m<n):=by omega
 by_cases p:m.toNat*i.size=0
 ·have u:m.toNat=0:=by rcases Nat.mul_eq_zero.1 p with h|h;exact h;omega
  simp[execOp,F,Instr.makeSlice,run_underlying E,I,G,asInt,asIntOf,typeInfo,hi,w1,v,C,B,A,z,qy hi,u,newRow,o p,Array.range_zero']
 ·simp[execOp,F,Instr.makeSlice,run_underlying E,I,G,asInt,asIntOf,typeInfo,hi,w1,v,C,B,A,z,qy hi,newRow,zeroValue,q,d];exact λh=>(p h).elim
theorem qup {zv:Value} {n m:Int} {k:Nat} (o4:n<=m): ∀(j:Nat) (v:Value),((Array.range (n.toNat*k)).map (zv.cells[· %zv.cells.size]!)).toList[j]? =some v->((Array.range (m.toNat*k)).map (zv.cells[· %zv.cells.size]!))[j]? =some v:=λj v h=>by
 have e:j<n.toNat*k:=by have:=(jAd.1 h).1;simpa using this
 have d:j<m.toNat*k:=by
  have:n.toNat*k<=m.toNat*k:=jAz _ (by omega);omega
 simp[e]at h;simp[d,h]
theorem qtz {u:Bool} {t e:TypeId} {l c:Operand} {l' c':Opd} {i:TypeInfo} {z:List D} (ho:oper.op= .makeSlice t l c) (ht:P.underlying t=some (.slice e)) (hi:P.info? e=some i) (hz:jm P e=some z)
  (M:i.size=z.length) (h0:0<i.size) (ab:qr l=some l') (ae:qr c=some c') (hs:SR N T g w st a) (ac:Fresh T tb)
  (o:(sem tb (.makeSlice u i.size i.bytes z l' c') st).ob):
  ∃v w' g',(execOp a.eval oper).run P w= .ok (.value v) w'∧Qt T g w g' w' st.live (qp st.live (sem tb (.makeSlice u i.size i.bytes z l' c') st))∧
   RS g' w' (qp st.live (sem tb (.makeSlice u i.size i.bytes z l' c') st)) v (sem tb (.makeSlice u i.size i.bytes z l' c') st).v:=by
 simp only[sem]at o⊢;obtain⟨i',zv,X,Z,J⟩:=vi hz;rw[hi]at X;cases X;have aa:i.size=zv.cells.size:=by have:=(kr J).1;rw[M];simpa using this.symm
 cases E:l'.get st.fr with
 |d p=>
  cases p with
  |int k1 n=>
   cases h2:c'.get st.fr with
   |d q=>
    cases q with
    |int k2 m=>
     simp only[E,h2]at o⊢;obtain⟨o1,o2,o3,o4,o5,o6⟩:=o;have r1:=xh hs ab o1;have r2:=xh hs ae o2;rw[E]at r1;rw[h2]at r2;have e1:=vn (ws r1);have e2:=vn (ws r2);have A:=qlr (P:=P) (w:=w) ho ht hi Z h0 e1 e2 o3 o4 o5 o6;have C:=qup (zv:=zv) (k:=i.size) o4;have G:((Array.range (m.toNat*i.size)).map (zv.cells[· %zv.cells.size]!)).size=m.toNat*i.size:=by simp
     generalize (Array.range (m.toNat*i.size)).map (zv.cells[· %zv.cells.size]!)=cells at A C G;have B:(w.alloc (.cells cells e)).heap[w.heap.size]? =some (.cells cells e (0,0)):=heap_alloc_new w _;have Y:cells.size=m.toNat*i.size:=G;have I:=qm5 (g:=g) (w:=w) J n.toNat i.size aa h0;have hes: ∀r∈List.replicate n.toNat z,r.length=i.size:=by intro r hr;rw[jEu hr,M]
     have ad:(List.replicate n.toNat z).flatten.length=n.toNat*i.size:=by rw[xm hes];simp
     have hl: ∀(vv:ASlot) (oo:Prop),∀t,T t->t∈qp st.live {v:=vv,ob:=oo,iss:= [tb]} ->t∈st.live:=λvv oo t h h'=>by
      rcases jr.1 h' with⟨E,_⟩|E
      ·exact E
      ·simp at E;exact(ac.ne h E).elim
     cases u with
     |false=>
      have R:=Qt.newRow hs.dom w rfl rfl rfl rfl (.cells cells e) (n.toNat*i.size) (some tb) (hl (ASlot.own tb i.size (List.replicate n.toNat z)) (l'.ok st.fr=true∧c'.ok st.fr=true∧0<=n∧n<=m∧m<=9223372036854775807∧m*i.bytes<=281474976710656));have O:=qgh (cap:=m.toNat) (rows:=List.replicate n.toNat z) B (Ghost.at_same _ _ _) (jBt ad) hes (by simp;omega) (I.quiet hs.dom R) C;rw[jBp]at O;refine⟨_,_,_,A,R,O,λ_=> .inr ⟨w.heap.size,_,_,e,by rw[jBp],?_,B,?_,?_,jBt Y.symm⟩⟩
      ·rw[Ghost.at_same,jBp]
      ·rw[jBp];omega
      ·unfold maxLen;omega
     |true=>
      have R:=Qt.newUni hs.dom w rfl rfl rfl rfl (.cells cells e) tb (hl (ASlot.uni tb i.size (List.replicate n.toNat z)) (l'.ok st.fr=true∧c'.ok st.fr=true∧0<=n∧n<=m∧m<=9223372036854775807∧m*i.bytes<=281474976710656));have F:=I.quiet hs.dom R;refine⟨_,_,_,A,R,⟨_,_,by rw[jBp]⟩,λ_=> .inr ⟨w.heap.size,_,_,e,by rw[jBp],Ghost.at_same _ _ _,B,?_,?_,jBt Y.symm,hes,λj d hj=> ?_⟩⟩
      ·rw[jBp];omega
      ·unfold maxLen;omega
      ·have U:j<((Array.range (n.toNat*i.size)).map (zv.cells[· %zv.cells.size]!)).toList.length:=by rw[I.1];exact(jAd.1 hj).1
       exact⟨F.2.1 d (jAe hj),_,C j _ (jAa U),F.2.2 j _ d (jAa U) hj⟩
    | _=>simp[E,h2,Out.bad]at o
   | _=>simp[E,h2,Out.bad]at o
  | _=>simp[E,Out.bad]at o
 | _=>simp[E,Out.bad]at o
theorem xlt {s t e:TypeId} {x:Operand} {y:Opd} (ho:oper.op= .convert s t x) (B:P.underlying s=some .string) (G:P.underlying t=some (.slice e)) (he:P.underlying e=some (.int .u8)) (hx:qr x=some y) (hs:SR N T g w st a)
  (m:(sem tb (.s2b y) st).ob):
  ∃v w' g',(execOp a.eval oper).run P w= .ok (.value v) w'∧Qt T g w g' w' st.live (qp st.live (sem tb (.s2b y) st))∧RS g' w' (qp st.live (sem tb (.s2b y) st)) v (sem tb (.s2b y) st).v:=by
 simp only[sem]at m⊢;cases J:y.get st.fr with
 |d p=>
  cases p with
  |str l=>
   simp only[J]at m⊢;have r1:=xh hs hx m;rw[J]at r1;have hv:=qc5 (ws r1);generalize hc:(Question.appendCap l.length 0 e).cut (w.tape w.drawn (.appendCap l.length 0 e))=cap;have hge:l.length<=cap:=by rw[<- hc];simp[Question.cut]
   generalize i:(l.map λb=>Value.int .u8 b.toNat).toArray++Array.replicate (cap-l.length) (Value.int .u8 0)=cells;have aa:cells.size=cap:=by rw[<- i];simp;omega
   have z: ∀(h:Array Obj),(h.push (.cells cells e)).modify h.size (fun| .cells c elem (lo,hi)=> .cells c elem (if lo==hi then(cap,cap+1)else(min lo cap,max hi (cap+1)))|o=>o)=h.push (.cells cells e (cap,cap+1)):=by
    intro h;apply Array.ext
    ·simp
    ·intro j J h2;simp only[Array.getElem_modify,Array.getElem_push];by_cases M:j<h.size
     ·have:h.size≠j:=by omega
      simp[M,this]
     ·have:h.size=j:=by simp at h2;omega
      subst this;simp
   have E:(execOp a.eval oper).run P w= .ok (.value (.slice (some ⟨w.heap.size,0,none⟩) l.length cap)) (w.drew.alloc (.cells cells e (cap,cap+1))):=by
    have q:(markStringish ⟨w.heap.size,0,none⟩).run P (w.drew.alloc (.cells cells e))= .ok () (w.drew.alloc (.cells cells e (cap,cap+1))):=by
     have R:(w.drew.alloc (.cells cells e)).shape? w.heap.size=some (e,cap):=by
      have:(w.drew.alloc (.cells cells e)).heap[w.heap.size]? =some (.cells cells e (0,0)):=heap_alloc_new w.drew _;unfold World.shape?;rw[this];simp[aa]
     have Y:(w.drew.alloc (.cells cells e)).freeze ⟨w.heap.size,cap,none⟩ 1=w.drew.alloc (.cells cells e (cap,cap+1)):=by
      unfold World.freeze;rw[if_neg (by omega)];have:=z w.heap;simp only[World.alloc,World.drew]at this⊢;rw[<- this];rfl
     simp only[markStringish,Sem.run_bind,run_shape,R,Result.andThen_ok,run_freeze,Y]
    have A:Array.map (λb:UInt8=>Value.int IntKind.u8 (b.toNat:Int)) (⟨l.toArray⟩:ByteArray).data=(l.map λb=>Value.int .u8 b.toNat).toArray:=by simp
    have O:(⟨l.toArray⟩:ByteArray).size=l.length:=qqn l;simp only[execOp,ho,hv,convert,Sem.run_bind,run_underlying B,run_underlying G,run_underlying he,Result.andThen_ok,Conv.stringToBytes,O,A,newRow];rw[run_choose];simp[Question.forced,hc,i,q]
   have F:(w.drew.alloc (.cells cells e (cap,cap+1))).heap[w.heap.size]? =some (.cells cells e (cap,cap+1)):=heap_alloc_new w.drew _;have hl:qp st.live {v:=ASlot.d (.sl 1 (qd l)),ob:=y.ok st.fr=true}=st.live:=by simp[qp]
   have hq:Qt T g w (g.at w.heap.size (.row l.length none)) (w.drew.alloc (.cells cells e (cap,cap+1))) st.live
     (qp st.live {v:=ASlot.d (.sl 1 (qd l)),ob:=y.ok st.fr=true}):=by
    rw[hl];exact Qt.newRow hs.dom w.drew rfl rfl rfl rfl _ _ _ (λ_ _ h=>h)
   have hes: ∀r∈qd l,r.length=1:=by simp[qd]
   have ab:(qd l).length=l.length:=by simp[qd]
   have Z:(qd l).flatten.length=l.length:=by rw[qbi];simp
   have U:RL g w (l.map λb=>Value.int .u8 b.toNat) (qd l).flatten:=by
    rw[qbi];refine⟨by simp,λd A=>by obtain⟨c,_,rfl⟩:=jAo.1 A;rfl,λj u d hu A=> ?_⟩;simp only[jAn,jAb]at hu A;obtain⟨c,hc,rfl⟩:=hu;obtain⟨c',I,rfl⟩:=A;rw[hc]at I;cases I;exact .int _ _
   have C:=qgh (cap:=cap) (rows:=qd l) F (Ghost.at_same _ _ _) (jBt Z) hes (by omega) (U.quiet hs.dom hq) (λj u M=>by
    have X:j<(l.map λb=>Value.int .u8 b.toNat).length:=(jAd.1 M).1;rw[<- i,Array.getElem?_append_left (by simpa using X)];simpa using M)
   rw[ab]at C;exact⟨_,_,_,E,hq,C⟩
  | _=>simp[J,Out.bad]at m
 | _=>simp[J,Out.bad]at m
end
section
variable {P:Program} {N tb:Nat} {T:Nat→Prop} {g:Ghost} {w:World} {st:St} {a:Act} {oper:Oper} {live live':List Nat}
theorem qqx {u:Bool} {t e:TypeId} {len:Nat} {m:Array (Nat×Operand)} {i:TypeInfo} {z:List D} {ps:List (Nat×Nat×Opd)} (ho:oper.op= .buildSlice t len m) (ht:P.underlying t=some (.slice e)) (hi:P.info? e=some i)
  (hz:jm P e=some z) (hp:partsOf P t m.toList=some ps) (ah:i.size=z.length) (h0:0<i.size) (hlim:len*i.size<=16777216) (hs:SR N T g w st a) (ak:Fresh T tb)
  (o:(sem tb (.buildSlice u i.size len z ps) st).ob):
  ∃v w' g',(execOp a.eval oper).run P w= .ok (.value v) w'∧Qt T g w g' w' st.live (qp st.live (sem tb (.buildSlice u i.size len z ps) st))∧
   RS g' w' (qp st.live (sem tb (.buildSlice u i.size len z ps) st)) v (sem tb (.buildSlice u i.size len z ps) st).v:=by
 simp only[sem]at o⊢;obtain⟨o,aa⟩:=o;obtain⟨i',zv,ad,af,Z⟩:=vi hz;rw[hi]at ad;cases ad;have ag:i.size=zv.cells.size:=by have:=(kr Z).1;rw[ah];simpa using this.symm
 obtain⟨l1,l2⟩:=q0z (P:=P) hs hp (len*i.size) o;have E:=qm5 (g:=g) (w:=w) Z len i.size ag h0;have I:(List.replicate len z).flatten.length=len*i.size:=by have:=E.1;simpa using this.symm
 obtain⟨l,f1,f2⟩:=qpv (g:=g) (w:=w) (λj=>some (j*i.size,i.size)) _ _ _ _ E l1 (λk p q hk A=>by
  obtain⟨a1,a2,a3⟩:=l2 k p q hk A;refine⟨?_,a2,by rw[I];exact a3⟩;simp only[qm2,ht,hi,Option.map_some]at a1;exact a1)
 generalize al:qqg (List.replicate len z).flatten (ps.map λp=>(p.1,(p.2.2.get st.fr).dCells))=U at f2⊢;have ae:U.length=len*i.size:=by
  rw[<- al,qoi,I];intro p ai;obtain⟨q,A,rfl⟩:=jAo.1 ai;obtain⟨_,_,o3,o4⟩:=o q A;simp only;rw[I,o3];exact o4
 have G:(m.toList.map λ(i,x)=>(i,a.eval x))=m.toList.map λx=>(x.1,a.eval x.2):=rfl;have B:(execOp a.eval oper).run P w= .ok (.value (.slice (some ⟨w.heap.size,0,none⟩) len len)) (w.alloc (.cells l e)):=by
  have J: ¬(len*i.size>2^24):=by omega
  by_cases ac:len*i.size=0
  ·have M:len=0:=by rcases Nat.mul_eq_zero.1 ac with h|h;exact h;omega
   subst M;have R:=f1;simp only[jEi,Array.range_zero',Array.map_empty]at R;rw[G]at R;simp only[execOp,ho,Instr.buildSlice,Sem.run_bind,run_underlying ht,qy hi,Result.andThen_ok,jEi,if_true];simp[Array.range_zero',R,newRow]
  ·rw[G]at f1;simp[execOp,ho,Instr.buildSlice,run_underlying ht,qy hi,J,zeroValue,typeInfo,hi,af,f1,newRow];exact λh=>(ac h).elim
 have F:(w.alloc (.cells l e)).heap[w.heap.size]? =some (.cells l e (0,0)):=heap_alloc_new w _;obtain⟨c1,c2,c3⟩:=getElem?_chunks len i.size U (by omega);have O:(qcl i.size len U).flatten=U:=by rw[c1,<- ae,jAr]
 cases u with
 |false=>
  have hl: ∀Y,qp st.live {v:=ASlot.full i.size (qcl i.size len U),ob:=Y}=st.live:=λY=>by simp[qp]
  simp only[hl];have A:Qt T g w (g.at w.heap.size (.row (len*i.size) none)) (w.alloc (.cells l e)) st.live st.live:=Qt.newRow hs.dom w rfl rfl rfl rfl _ _ _ (λ_ _ h=>h);have ab:=qgh (cap:=len) (rows:=qcl i.size len U) (vs:=l.toList) F (Ghost.at_same _ _ _) (by rw[O,ae];exact jAi _) c2 (by omega) (by rw[O];exact f2.quiet hs.dom A) (λj u X=>by simpa using X);rw[c3]at ab;exact⟨_,_,_,B,A,ab,some ⟨w.heap.size,0,none⟩,by rw[c3]⟩
 |true=>
  have hlen:=aa rfl;have hl: ∀(vv:ASlot) (Y:Prop),∀t,T t->t∈qp st.live {v:=vv,ob:=Y,iss:= [tb]} ->t∈st.live:=λvv Y t h h'=>by
   rcases jr.1 h' with⟨h1,_⟩|h1
   ·exact h1
   ·simp at h1;exact(ak.ne h h1).elim
  have A:=Qt.newUni hs.dom w rfl rfl rfl rfl (.cells l e) tb (hl (ASlot.uni tb i.size (qcl i.size len U)) ((∀p∈ps,p.2.2.ok st.fr=true∧(p.2.2.get st.fr).dCellsOk=true∧(p.2.2.get st.fr).dCells.length=p.2.1∧p.1+p.2.1<=len*i.size)∧(true=true->len<=1000)));have C:=f2.quiet hs.dom A;refine⟨_,_,_,B,A,⟨_,_,by rw[c3]⟩,λ_=> .inr ⟨w.heap.size,len,l,e,by rw[c3],Ghost.at_same _ _ _,F,by rw[c3];exact jAi _,by unfold maxLen;omega,?_,c2,λj d X=> ?_⟩⟩
  ·have:=f2.1;simp at this;omega
  ·rw[O]at X;have aj:j<l.toList.length:=by rw[f2.1];exact(jAd.1 X).1
   exact⟨C.2.1 d (jAe X),l.toList[j],by simp,C.2.2 j _ d (jAa aj) X⟩
theorem RC.keepR {g':Ghost} {w':World} (q:RowsKept g w g' w') (m: ∀k i,g k= .obj i->g' k= .obj i∧qdm w k<=qdm w' k) (z: ∀k n o,g k= .row n o->g' k= .row n o∧w'.heap[k]? =w.heap[k]?) (u: ∀k t,g k= .uni t->g' k= .uni t∧w'.heap[k]? =w.heap[k]?) {v:Value} {s:ASlot} (h:RC g w live v s):RC g' w' live v s:=by
 cases s with
 |d x=>exact h.mono q m
 |own t es rows=>
  refine⟨h.1.mono q m,λA=> ?_⟩;rcases h.2 A with hf|⟨c,cap,C,e,h1,h2,h3,h4⟩
  ·exact .inl hf
  ·obtain⟨r1,r2⟩:=z c _ _ h2;exact .inr ⟨c,cap,C,e,h1,r1,by rw[r2];exact h3,h4⟩
 |uni t es rows=>exact⟨h.1,λA=>(h.2 A).mono (λb hb=>u b _ hb) (λ_ _ hv=>hv.mono q m)⟩
 |full es rows=>exact⟨h.1.mono q m,h.2⟩
 |rd cells=>
  obtain⟨c,off,n,o,f,rfl,hg,hn,hc⟩:=h;obtain⟨n',o',B,hnn,p⟩:=q c n o hg;refine⟨c,off,n',o',f,rfl,B,by omega,λj d E=> ?_⟩;obtain⟨c1,c2,c3⟩:=hc j d E;have:j<cells.length:=(jAd.1 E).1;exact⟨c1,p _ _ (by omega) c2,c3.mono q m⟩
 |tup l=>exact h.elim
 |bad=>trivial
theorem RC.keep {g':Ghost} {w':World} (d:G g w g' w') (m:Dom g w) (l: ∀k n o,g k= .row n o->g' k= .row n o∧w'.heap[k]? =w.heap[k]?) (e: ∀k t,g k= .uni t->g' k= .uni t∧w'.heap[k]? =w.heap[k]?) {v:Value} {s:ASlot} (h:RC g w live v s):RC g' w' live v s:=
 RC.keepR (d.rowsKept m) (λk i h=>d.obj k i (m.lt_obj h) h) l e h
theorem SR.still {w':World} {st:St} {a:Act} (hs:SR N T g w st a) (q: ∀k,g k≠ .out->w'.heap[k]? =w.heap[k]?) (hsz:w.heap.size<=w'.heap.size):SR N T g w' st a:=by
 have E:RowsKept g w g w':=λk n o d=>⟨n,o,d,jAi _,λi u _ B=>by rw[kj (q k (by rw[d];simp))];exact B⟩;have rc: ∀{v:Value} {s:ASlot},RC g w st.live v s->RC g w' st.live v s:=λh=>
  RC.keepR E (λk i d=>⟨d,jBt (jl (q k (by rw[d];simp))).symm⟩) (λk n o d=>⟨d,q k (by rw[d];simp)⟩) (λk t d=>⟨d,q k (by rw[d];simp)⟩) h
 have rs: ∀{v:Value} {s:ASlot},RS g w st.live v s->RS g w' st.live v s:=by
  intro v s h;cases s with
  |tup l=>
   obtain⟨vs,rfl,hl,hc⟩:=h;exact⟨vs,rfl,hl,λi u s B C=>rc (hc i u s B C)⟩
  | _=>exact jq (rc (qax h (by simp)))
 refine⟨⟨λk h=>hs.dom.1 k (by omega),hs.dom.2.same λk m _ d=>⟨q k (by rw[d];simp),d⟩⟩,hs.defers,hs.size,λk v s h=> ?_,λi o ho hn=> ?_,hs.inj,hs.ids,hs.wf⟩
 ·obtain⟨h1,h2⟩:=hs.slots k v s h;exact⟨λA=>rs (h1 A),h2⟩
 ·rcases hs.objs i o ho hn with⟨c,hc,z⟩|h
  ·have p:=q c (by rw[hc];simp);refine .inl ⟨c,hc,?_⟩;cases o with
   |none=>exact z.elim
   |row cells=>
    obtain⟨cc,e,q1,q2,q3⟩:=z;exact⟨cc,e,by rw[p];exact q1,q2,λj s hj=>by obtain⟨v,v1,v2,v3⟩:=q3 j s hj;exact⟨v,v1,v2,rc v3⟩⟩
   |map es clock=>exact MapIs.mono z E p
   |iter m since seen last=>exact IterIs.mono (R:=λv=>RC g w st.live v m) (R':=λv=>RC g w' st.live v m) z p (λo A=>rc A)
  ·exact .inr h
theorem SR.dead {w':World} {st:St} {a:Act} {b:Nat} (hs:SR N T g w st a) (hb:g b= .out) (z: ∀k,k≠b->w'.heap[k]? =w.heap[k]?) (hsz:w'.heap.size=w.heap.size):SR N T g w' st a:=by
 have p: ∀k,g k≠ .out->k≠b:=λk h he=>h (he▸hb);have F:RowsKept g w g w':=λk n o d=>⟨n,o,d,jAi _,λi u _ C=>by rw[kj (z k (p k (by rw[d];simp)))];exact C⟩;have rc: ∀{v:Value} {s:ASlot},RC g w st.live v s->RC g w' st.live v s:=λh=>
  RC.keepR F (λk i d=>⟨d,jBt (jl (z k (p k (by rw[d];simp)))).symm⟩) (λk n o d=>⟨d,z k (p k (by rw[d];simp))⟩) (λk t d=>⟨d,z k (p k (by rw[d];simp))⟩) h
 have rs: ∀{v:Value} {s:ASlot},RS g w st.live v s->RS g w' st.live v s:=by
  intro v s h;cases s with
  |tup l=>
   obtain⟨vs,rfl,hl,hc⟩:=h;exact⟨vs,rfl,hl,λi u s C E=>rc (hc i u s C E)⟩
  | _=>exact jq (rc (qax h (by simp)))
 refine⟨⟨λk h=>hs.dom.1 k (by omega),hs.dom.2.same λk m _ d=>⟨z k (p k (by rw[d];simp)),d⟩⟩,hs.defers,hs.size,λk v s h=> ?_,λi o ho hn=> ?_,hs.inj,hs.ids,hs.wf⟩
 ·obtain⟨h1,h2⟩:=hs.slots k v s h;exact⟨λB=>rs (h1 B),h2⟩
 ·rcases hs.objs i o ho hn with⟨c,hc,A⟩|h
  ·have q:=z c (p c (by rw[hc];simp));refine .inl ⟨c,hc,?_⟩;cases o with
   |none=>exact A.elim
   |row cells=>
    obtain⟨cc,e,q1,q2,q3⟩:=A;exact⟨cc,e,by rw[q];exact q1,q2,λj s hj=>by obtain⟨v,v1,v2,v3⟩:=q3 j s hj;exact⟨v,v1,v2,rc v3⟩⟩
   |map es clock=>exact MapIs.mono A F q
   |iter m since seen last=>exact IterIs.mono (R:=λv=>RC g w st.live v m) (R':=λv=>RC g w' st.live v m) A q (λo B=>rc B)
  ·exact .inr h
theorem SR.setObjA {g':Ghost} {w':World} {st:St} {a:Act} {id b:Nat} {new:AObj} (hs:SR N T g w st a) (U:id<st.os.length) (C:G g w g' w') (ab:Dom g' w')
  (Y:g' b= .obj id) (d: ∀k,k≠b->g' k=g k) (p: ∀k,k≠b->k<w.heap.size->w'.heap[k]? =w.heap[k]?) (ad:(st.os[id]? =some .none∧w.heap.size<=b)∨g b= .obj id)
  (F: ∀k,g k= .obj id->k=b) (ag:RO g' w' st.live b new) (ai:new≠ .none) (aa: ∀s∈new.cells,∀t∈s.toks,T t):
  SR N T g' w' {st with os:=st.os.set id new} a:=by
 have J: ∀k i,g k= .obj i->g' k= .obj i:=λk i h=>(C.obj k i (hs.dom.lt_obj h) h).1;have O: ∀k n o,g k= .row n o->g' k= .row n o∧w'.heap[k]? =w.heap[k]? :=by
  intro k n o h;have q:k≠b:=by
   rintro rfl;rcases ad with⟨_,A⟩|A
   ·have:=hs.dom.lt_row h;omega
   ·rw[h]at A;cases A
  exact⟨by rw[d k q];exact h,p k q (hs.dom.lt_row h)⟩
 have M: ∀k t,g k= .uni t->g' k= .uni t∧w'.heap[k]? =w.heap[k]? :=by
  intro k t h;have q:k≠b:=by
   rintro rfl;rcases ad with⟨_,A⟩|A
   ·have:=hs.dom.lt_uni h;omega
   ·rw[h]at A;cases A
  exact⟨by rw[d k q];exact h,p k q (hs.dom.lt_uni h)⟩
 have I: ∀{v:Value} {s:ASlot},RC g w st.live v s->RC g' w' st.live v s:=λh=>RC.keep C hs.dom O M h;have af: ∀{v:Value} {s:ASlot},RS g w st.live v s->RS g' w' st.live v s:=by
  intro v s h;cases s with
  |tup l=>
   obtain⟨vs,rfl,hl,hc⟩:=h;exact⟨vs,rfl,hl,λi u s hu ae=>I (hc i u s hu ae)⟩
  | _=>exact jq (I (qax h (by simp)))
 refine⟨ab,hs.defers,hs.size,λk v s z=> ?_,λi o E hn=> ?_,λk k' i z B=> ?_,λk i z=> ?_,⟨hs.wf.live,hs.wf.fr,λi o E s ac t ht=> ?_⟩⟩
 ·obtain⟨A,X⟩:=hs.slots k v s z;exact⟨λZ=>af (A Z),X⟩
 ·by_cases hi:i=id
  ·subst hi;simp only[jBv U]at E;cases E;exact .inl ⟨b,Y,ag⟩
  ·rw[jBj (Ne.symm hi)]at E;rcases hs.objs i o E hn with⟨c,hc,hr⟩|⟨Z,ah⟩;case inr=>
    refine .inr ⟨Z,λk z=> ?_⟩;have aj:k≠b:=by rintro rfl;rw[Y]at z;cases z;exact hi rfl
    rw[d k aj]at z;exact ah k z
   have q:c≠b:=by
    rintro rfl;have:=J c i hc;rw[Y]at this;cases this;exact hi rfl
   refine .inl ⟨c,J c i hc,?_⟩;cases o with
   |none=>exact hr.elim
   |row cells=>
    obtain⟨cc,e,q1,q2,q3⟩:=hr;refine⟨cc,e,by rw[p c q (hs.dom.lt_obj hc)];exact q1,q2,λj s hj=> ?_⟩;obtain⟨v,v1,v2,v3⟩:=q3 j s hj;exact⟨v,v1,v2,I v3⟩
   |map es clock=>exact MapIs.mono hr (C.rowsKept hs.dom) (p c q (hs.dom.lt_obj hc))
   |iter m since seen last=>exact IterIs.mono (R:=λv=>RC g w st.live v m) (R':=λv=>RC g' w' st.live v m) hr (p c q (hs.dom.lt_obj hc)) (λv Z=>I Z)
 ·by_cases A:k=b<;>by_cases X:k'=b
  ·rw[A,X]
  ·rw[A,Y]at z;cases z;rw[d k' X]at B;exact(X (F k' B)).elim
  ·rw[X,Y]at B;cases B;rw[d k A]at z;exact(A (F k z)).elim
  ·rw[d k A]at z;rw[d k' X]at B;exact hs.inj k k' i z B
 ·by_cases A:k=b
  ·rw[A,Y]at z;cases z;exact⟨new,jBv U,ai⟩
  ·rw[d k A]at z;obtain⟨o,E,hn⟩:=hs.ids k i z;by_cases hi:i=id
   ·subst hi;exact(A (F k z)).elim
   ·exact⟨o,by rw[jBj (Ne.symm hi)];exact E,hn⟩
 ·by_cases hi:i=id
  ·subst hi;simp only[jBv U]at E;cases E;exact aa s ac t ht
  ·rw[jBj (Ne.symm hi)]at E;exact hs.wf.os i o E s ac t ht
theorem SR.setObj {g':Ghost} {w':World} {st:St} {a:Act} {id b:Nat} {new:List ASlot} (hs:SR N T g w st a) (p:id<st.os.length) (h:G g w g' w') (m:Dom g' w')
  (hb:g' b= .obj id) (i: ∀k,k≠b->g' k=g k) (d: ∀k,k≠b->k<w.heap.size->w'.heap[k]? =w.heap[k]?) (q:(st.os[id]? =some .none∧w.heap.size<=b)∨g b= .obj id)
  (l: ∀k,g k= .obj id->k=b) (o:RO g' w' st.live b (.row new)) (e: ∀s∈new,∀t∈s.toks,T t):
  SR N T g' w' {st with os:=st.os.set id (.row new)} a:=hs.setObjA p h m hb i d q l o (by simp) e
theorem SR.newObjA {st:St} {a:Act} {id:Nat} {o:AObj} {blk:Obj} (hs:SR N T g w st a) (q:st.os[id]? =some .none) (I:o≠ .none)
  (F:G g w (g.at w.heap.size (.obj id)) (w.alloc blk) ->RowsKept g w (g.at w.heap.size (.obj id)) (w.alloc blk) ->(∀{v:Value} {s:ASlot},RC g w st.live v s->RC (g.at w.heap.size (.obj id)) (w.alloc blk) st.live v s) ->RO (g.at w.heap.size (.obj id)) (w.alloc blk) st.live w.heap.size o)
  (B: ∀s∈o.cells,∀t∈s.toks,T t):
  G g w (g.at w.heap.size (.obj id)) (w.alloc blk)∧SR N T (g.at w.heap.size (.obj id)) (w.alloc blk) {st with os:=st.os.set id o} a:=by
 have J:id<st.os.length:=(jAd.1 q).1;have E:(w.alloc blk).heap.size=w.heap.size+1:=by show(w.heap.push _).size=_;simp
 have hold: ∀b,b<w.heap.size->(w.alloc blk).heap[b]? =w.heap[b]? :=λb d=>heap_alloc_old w _ b d;have z: ∀b,b<w.heap.size->g.at w.heap.size (.obj id) b=g b:=λb d=>Ghost.at_ne g _ (by omega);have A:G g w (g.at w.heap.size (.obj id)) (w.alloc blk):=
  ⟨rfl,rfl,rfl,by omega,λb d l=>⟨hold b d,by rw[z b d];exact l⟩,λb m d l=>⟨hold b d,by rw[z b d];exact l⟩,
   λb m u d l=>⟨m,some u,by rw[z b d];exact l,jAi _,λi v _ hv=>by rw[kj (hold b d)];exact hv⟩,λb i d l=>⟨by rw[z b d];exact l,jBt (jl (hold b d)).symm⟩⟩
 have C:Dom (g.at w.heap.size (.obj id)) (w.alloc blk):=hs.dom.of A λb d=>by
  rw[E]at d;rw[Ghost.at_ne g _ (by omega)];exact hs.dom.1 b (by omega)
 have p: ∀k,g k≠ .obj id:=by
  intro k e;obtain⟨o,M,hn⟩:=hs.ids k id e;rw[q]at M;cases M;exact hn rfl
 exact⟨A,hs.setObjA J A C (Ghost.at_same _ _ _) (λk e=>Ghost.at_ne g _ e) (λk _ e=>hold k e) (.inl ⟨q,jAi _⟩) (λk e=>(p k e).elim)
  (F A (A.rowsKept hs.dom) (λh=>RC.keep A hs.dom (λk n o e=>⟨by rw[z k (hs.dom.lt_row e)];exact e,hold k (hs.dom.lt_row e)⟩) (λk t e=>⟨by rw[z k (hs.dom.lt_uni e)];exact e,hold k (hs.dom.lt_uni e)⟩) h)) I B⟩
theorem SR.newObj {st:St} {a:Act} {id:Nat} {new:List ASlot} {vs:List Value} {e:TypeId} (hs:SR N T g w st a) (h:st.os[id]? =some .none) (hl:new.length<=vs.length)
  (hv: ∀(i:Nat) (s:ASlot),new[i]? =some s-> ∃v,vs[i]? =some v∧v.oneCell'=true∧RC g w st.live v s) (d: ∀s∈new,∀t∈s.toks,T t):
  G g w (g.at w.heap.size (.obj id)) (w.alloc (.cells vs.toArray e))∧SR N T (g.at w.heap.size (.obj id)) (w.alloc (.cells vs.toArray e)) {st with os:=st.os.set id (.row new)} a:=by
 refine hs.newObjA h (by simp) (λ_ _ keep=>⟨vs.toArray,e,heap_alloc_new w _,by simpa using hl,λi s hi=> ?_⟩) d;obtain⟨v,v1,v2,v3⟩:=hv i s hi;exact⟨v,by simpa using v1,v2,keep v3⟩
end
section
variable {P:Program} {N tb:Nat} {T:Nat→Prop} {g:Ghost} {w:World} {st:St} {a:Act} {oper:Oper} {live live':List Nat}
theorem xfb {v:Value} {s:ASlot} (h:RC g w live v s) (ho:s.isOne=true):v.oneCell'=true:=by
 cases s with
 |d x=>exact RV.oneCell h ho
 |own t es rows=>exact h.1.oneCell rfl
 |uni t es rows=>obtain⟨⟨a,c,rfl⟩,_⟩:=h;rfl
 |full es rows=>exact h.1.oneCell rfl
 |rd cells=>obtain⟨b,off,n,o,f,rfl,_⟩:=h;rfl
 | _=>grind[ASlot.isOne]
theorem xbk {v:Value} {s:ASlot} (h:RS g w live v s) (ho:s.toCells.all ASlot.isOne=true):
  v.cells.toList.length=s.toCells.length∧ ∀(i:Nat) (x:ASlot),s.toCells[i]? =some x-> ∃u,v.cells.toList[i]? =some u∧u.oneCell'=true∧RC g w live u x:=by
 have one:s.toCells= [s] ->RC g w live v s->s.isOne=true->v.cells.toList.length=s.toCells.length∧ ∀(i:Nat) (x:ASlot),s.toCells[i]? =some x-> ∃u,v.cells.toList[i]? =some u∧u.oneCell'=true∧RC g w live u x:=by
  intro hc e o;have hv:=xfb e o;have hcells:v.cells= #[v]:=by cases v<;>first|rfl|grind[Value.oneCell']
  grind
 cases s with
 |d x=>
  cases x with
  |agg cs=>
   obtain⟨vs,rfl,o,h2,h3⟩:=qee (ws h);refine⟨by simp[Value.cells,ASlot.toCells,o],λi x hi=> ?_⟩;simp only[ASlot.toCells,List.getElem?_map,Option.map_eq_some_iff]at hi;obtain⟨d,p,rfl⟩:=hi;have m:i<vs.length:=by grind
   have e:=h3 i vs[i] d (List.getElem?_eq_getElem m) p;exact⟨vs[i],by simp[Value.cells],e.oneCell (h2 d (List.mem_of_getElem? p)),e⟩
  | _=>exact one rfl h (by rfl)
 |tup l=>grind[ASlot.toCells,ASlot.isOne]
 |bad=>grind[ASlot.toCells,ASlot.isOne]
 | _=>exact one rfl h (by rfl)
theorem q01 {s:ASlot} {p:Nat->Prop} (h: ∀t∈s.toks,p t): ∀x∈s.toCells,∀t∈x.toks,p t:=by
 intro x e t ht;cases s with
 |d y=>
  cases y with
  |agg cs=>simp only[ASlot.toCells,List.mem_map]at e;obtain⟨d,_,rfl⟩:=e;grind[ASlot.toks]
  | _=>grind[ASlot.toCells,List.mem_singleton]
 | _=>grind[ASlot.toCells,List.mem_singleton]
def jf (st:St):Option (Nat×AObj) ->St
 |some (id,o)=>{st with os:=st.os.set id o}
 |none=>st
theorem xlu {t:TypeId} {x:Operand} {y:Opd} {back:Nat} (ho:oper.op= .box t x) (i:qr x=some y) (hs:SR N T g w st a) (d:(sem tb (.box back y) st).ob):
  ∃v w' g',(execOp a.eval oper).run P w= .ok (.value v) w'∧G g w g' w'∧SR N T g' w' (jf st (sem tb (.box back y) st).wr) a∧RS g' w' st.live v (sem tb (.box back y) st).v:=by
 simp only[sem]at d⊢;obtain⟨h,o2,o3,o4,o5⟩:=d;have r1:=xh hs i h;obtain⟨h1,h2⟩:=xbk r1 o2;obtain⟨q1,q2⟩:=hs.newObj (e:=t) o5 (jBt h1.symm) h2 (q01 (qfv hs i h));refine⟨.pointer (some ⟨w.heap.size,0,none⟩),_,_,?_,q1,q2,.ptr _ 0 _ (Ghost.at_same _ _ _)⟩;simp[execOp,ho,Instr.box,newVar,newRow]
theorem SR.touch (hs:SR N T g w st a) (id:Nat) (hrow:qg4 st.os id=true):SR N T g w {st with os:=st.os.set id (.row (ql st.os id))} a:=by
 have key: ∀(i:Nat) (o:AObj),(st.os.set id (.row (ql st.os id)))[i]? =some o->st.os[i]? =some o∨(i=id∧o= .row (ql st.os id)):=by
  grind
 have e: ∀s∈ql st.os id,∃o,st.os[id]? =some o∧s∈o.cells:=by
  grind[ql]
 refine⟨hs.dom,hs.defers,hs.size,hs.slots,λi o l hn=> ?_,hs.inj,λb i p=> ?_,⟨hs.wf.live,hs.wf.fr,λi o l s d t q=> ?_⟩⟩
 ·rcases key i o l with h|⟨rfl,rfl⟩
  ·exact hs.objs i o h hn
  ·unfold ql;cases hq:st.os[i]?with
   |none=>grind
   |some o'=>
    cases o' with
    |none=>exact .inr ⟨rfl,λb p=>by obtain⟨o',h1,h2⟩:=hs.ids b i p;grind⟩
    |row cs=>exact hs.objs i _ hq (by simp)
    |map _ _=>grind[qg4]
    |iter _ _ _ _=>grind[qg4]
 ·obtain⟨o,l,hne⟩:=hs.ids b i p;grind
 ·rcases key i o l with h|⟨rfl,rfl⟩
  ·exact hs.wf.os i o h s d t q
  ·obtain⟨o',m,hm⟩:=e s d;exact hs.wf.os i o' m s hm t q
theorem SR.drew (hs:SR N T g w st a):SR N T g {w with drawn:=w.drawn+1} st a:=by
 have hq:Qt T g w g {w with drawn:=w.drawn+1} st.live st.live:=
  ⟨⟨rfl,rfl,rfl,jAi _,fun _ _ h=>⟨rfl,h⟩,fun _ _ _ h=>⟨rfl,h⟩,fun _ n t _ h=>⟨n,some t,h,jAi _,fun _ _ _ h=>h⟩,fun _ _ _ h=>⟨h,jAi _⟩⟩,
   hs.dom,fun _ _ _=>rfl,fun _ _ h=>h,fun _ _ _ _ _ h=>⟨h,rfl⟩,fun _ _ h=>h,fun _ _ _ _ h=>⟨h,rfl⟩⟩
 exact hs.quiet hq (fun _ h=>h) hs.wf.live
theorem qoj {t u e:TypeId} {s x:Operand} {s' x':Opd} {i:TypeInfo} {z:List D} {back:Nat} (ho:oper.op= .call {callee:= .builtin .append,args:= #[s,x],argTypes:= #[t,u]})
  (ht:P.underlying t=some (.slice e)) (hi:P.info? e=some i) (hz:jm P e=some z) (hsz:i.size=z.length) (hb:0<i.bytes)
  (hu:(∃f,P.underlying u=some (.slice f))∨P.underlying u=some .string) (hs':qr s=some s') (hx':qr x=some x') (hs:SR N T g w st a)
  (hob:(sem tb (.appendO back i.size i.bytes s' x') st).ob):
  ∃v w' g',(execOp a.eval oper).run P w= .ok (.value v) w'∧G g w g' w'∧SR N T g' w' (jf st (sem tb (.appendO back i.size i.bytes s' x') st).wr) a∧RS g' w' st.live v (sem tb (.appendO back i.size i.bytes s' x') st).v:=by
 simp only[sem]at hob⊢
 obtain⟨o1,o2,hob⟩:=hob
 have rs:=xh hs hs' o1
 have rx:=xh hs hx' o2
 obtain⟨i',zv,hi',hzv,hzm⟩:=vi hz
 rw[hi]at hi';cases hi'
 have hzs:zv.cells.size=i.size:=by have:=(kr hzm).1;grind
 unfold jt at hob⊢
 cases hsrc:qar i.size st.os (x'.get st.fr)with
 |none=>grind[Out.bad]
 |some rr=>
  obtain⟨r,rdd,rok⟩:=rr
  simp only[hsrc]at hob⊢
  obtain⟨hrok,hvoid,⟨hby,h63⟩,_,_,hnone⟩:=hob
  obtain⟨ad,hv⟩: ∃ad,a.eval s= .slice ad 0 0:=by
   cases hk:s'.get st.fr with
   |full e1 l=>
    rw[hk]at rs hvoid
    cases l with
    |nil=>exact rs.2
    |cons _ _=>grind[ASlot.void]
   |d y=>
    rw[hk]at rs hvoid
    cases y<;>simp[ASlot.void]at hvoid
    have rs':RV g w (a.eval s) .nilsl:=rs
    generalize a.eval s=u0 at rs'
    cases rs'
    simp
   | _=>grind[ASlot.void]
  have exec: ∀v w',(Builtin.append_ #[t,u] oper.type #[.slice ad 0 0,a.eval x]).run P w= .ok v w'->(execOp a.eval oper).run P w= .ok (.value v) w':=by
   simp_all[execOp,resolve,invoke,builtin]
  obtain⟨hes,news,hrl,hsource,hfirst,_⟩:=qgg (P:=P) hs rx hsrc hrok
  by_cases hn:0<r.length
  ·have hfc:(Builtin.firstCells i.size 0 (.slice ad 0 0)).run P w.drew= .ok #[] w.drew:=by
    cases ad with
    |none=>rfl
    |some a0=>grind[run_firstCells_some]
   have hfit:Builtin.nextslicecap (0+r.length) 0*i.bytes<=281474976710656:=growslice_fits (by omega) (by grind)
   have hrun:=qcp (P:=P) (w:=w) (ty:=oper.type) ht hi hzv hu (by omega) ad 0 0 (olds:= []) hsource.1 hfirst hfc (show 0<0+r.length by omega) hfit
   have hge:=grownCap_ge w (0+r.length) 0 e
   have hle:=grownCap_le_maxLen w (0+r.length) 0 e (by grind[maxLen])
   generalize hzz:Builtin.zeroCells zv.cells (grownCap w (0+r.length) 0 e-(0+r.length))=zz at hrun
   have hzzs:zz.size=(grownCap w (0+r.length) 0 e-(0+r.length))*i.size:=by grind[qes]
   have hwd:w.drew={w with drawn:=w.drawn+1}:=rfl
   have hsd:SR N T g w.drew st a:=by rw[hwd];exact hs.drew
   have hGd:G g w g w.drew:=⟨rfl,rfl,rfl,Nat.le_refl _,fun _ _ h=>⟨rfl,h⟩,fun _ _ _ h=>⟨rfl,h⟩,fun _ n t _ h=>⟨n,some t,h,Nat.le_refl _,fun _ _ _ h=>h⟩,fun _ _ _ h=>⟨h,Nat.le_refl _⟩⟩
   have harr:(([]:List Value).toArray++news.toArray++zz)=(news++zz.toList).toArray:=by simp
   rw[harr]at hrun
   have hnl:news.length=r.flatten.length:=hrl.1
   obtain⟨q1,q2⟩:=hsd.newObj (e:=e) (vs:=news++zz.toList) (new:=r.flatten.map .d) hnone (by grind) (fun j s hj=>by
    simp only[List.getElem?_map,Option.map_eq_some_iff]at hj
    obtain⟨d,hd,rfl⟩:=hj
    have hlt:j<news.length:=by grind
    have hr:=hrl.2.2 j _ d (List.getElem?_eq_getElem hlt) hd
    have hr':RV g w.drew news[j] d:=hGd.rv hs.dom hr
    exact⟨news[j],by grind,hr.oneCell (hrl.2.1 d (List.mem_of_getElem? hd)),hr'⟩) (fun s hsm t ht=>by
    obtain⟨d,_,rfl⟩:=List.mem_map.1 hsm
    grind[ASlot.toks])
   refine⟨_,_,_,exec _ _ hrun,hGd.trans q1,q2,?_⟩
   rw[show 0+r.length=r.length by omega]
   rw[show 0+r.length=r.length by omega]at hge hle hzzs
   refine .ref _ 0 _ _ _ _ (Ghost.at_same _ _ _) hge hle ?_
   have hnew:(w.drew.alloc (.cells (news++zz.toList).toArray e)).heap[w.heap.size]? =some (.cells (news++zz.toList).toArray e (0,0)):=heap_alloc_new w.drew _
   rw[vq hnew]
   have h2:news.length=r.length*i.size:=by grind[xm]
   have h3:(news++zz.toList).toArray.size=news.length+zz.size:=by simp
   rw[h3,h2,hzzs,<- Nat.add_mul,Nat.zero_add]
   grind
  ·have hr0:r= []:=List.eq_nil_of_length_eq_zero (by omega)
   subst hr0
   have hnews:news= []:=by have:=hrl.1;grind
   subst hnews
   have hoc:ql st.os (st.os.length-back)= []:=by grind[ql,AObj.cells]
   refine⟨.slice ad 0 0,w,g,exec _ _ ?_,G.refl g w,?_,.refnil _ _ _ _⟩
   ·cases ad with
    |none=>
     have:=qc8 (P:=P) (ty:=oper.type) ht hi hu 0 0 hsource (by simp)
     omega
    |some ad=>
     have:=yx (P:=P) (ty:=oper.type) ht hi hu ad 0 0 hsource (by simp)
     simp_all[storeCells]
   ·have:=hs.touch (st.os.length-back) (by grind[qg4])
    rw[hoc]at this
    exact this
theorem qqy {v:Value} {s:ASlot} (h:xe1 v=some s):s.isOne=true∧RC g w live v s∧s.toks= []:=by
 unfold xe1 at h;cases hc:qc4 v with
 |none=>grind
 |some d=>simp[hc]at h;subst h;exact⟨qkl hc,qlj hc,rfl⟩
theorem xbl {t:TypeId} {z:List ASlot} {back:Nat} (ho:oper.op= .alloc t) (h:qm1 P t=some z) (hs:SR N T g w st a) (d:(sem tb (.alloc back z) st).ob):
  ∃v w' g',(execOp a.eval oper).run P w= .ok (.value v) w'∧G g w g' w'∧SR N T g' w' (jf st (sem tb (.alloc back z) st).wr) a∧RS g' w' st.live v (sem tb (.alloc back z) st).v:=by
 simp only[sem]at d⊢;obtain⟨o3,o4,o5⟩:=d;unfold qm1 at h;split at h
 ·rename_i i hi;split at h
  ·rename_i zv l;obtain⟨m1,m2⟩:=kr h;obtain⟨q1,q2⟩:=hs.newObj (e:=t) (vs:=zv.cells.toList) (new:=z) o5 (Nat.le_of_eq m1.symm) (λj s p=>by
    grind[List.getElem?_eq_some_iff,qqy,List.getElem?_eq_getElem,xfb]) (λs m t ht=>by
    obtain⟨j,p⟩:=List.getElem?_of_mem m;have o:j<zv.cells.toList.length:=by grind
    obtain⟨_,_,c3⟩:=qqy (g:=g) (w:=w) (live:=st.live) (m2 j _ s (List.getElem?_eq_getElem o) p);grind)
   refine⟨.pointer (some ⟨w.heap.size,0,none⟩),_,_,?_,q1,q2,.ptr _ 0 _ (Ghost.at_same _ _ _)⟩;simp[execOp,ho,Instr.alloc,zeroValue,typeInfo,hi,l,newVar,newRow]
  grind
 grind
theorem qqz {t e:TypeId} {l c:Operand} {l' c':Opd} {i:TypeInfo} {z:List D} {back:Nat} (ho:oper.op= .makeSlice t l c) (O:P.underlying t=some (.slice e)) (hi:P.info? e=some i) (hz:jm P e=some z)
  (C:i.size=z.length) (h0:0<i.size) (U:qr l=some l') (Y:qr c=some c') (hs:SR N T g w st a) (h:(sem tb (.makeSliceO back i.size i.bytes z l' c') st).ob):
  ∃v w' g',(execOp a.eval oper).run P w= .ok (.value v) w'∧G g w g' w'∧SR N T g' w' (jf st (sem tb (.makeSliceO back i.size i.bytes z l' c') st).wr) a∧RS g' w' st.live v (sem tb (.makeSliceO back i.size i.bytes z l' c') st).v:=by
 simp only[sem]at h⊢;obtain⟨i',zv,F,J,B⟩:=vi hz;rw[hi]at F;cases F;have M:i.size=zv.cells.size:=by have:=(kr B).1;rw[C];simpa using this.symm
 cases h1:l'.get st.fr with
 |d p=>
  cases p with
  |int k1 n=>
   cases h2:c'.get st.fr with
   |d q=>
    cases q with
    |int k2 m=>
     simp only[h1,h2]at h⊢;obtain⟨⟨o1,o2,o3,o4,o5,o6⟩,o7,o8,o9⟩:=h;have r1:=xh hs U o1;have Z:=xh hs Y o2;rw[h1]at r1;rw[h2]at Z;have o:=qlr (P:=P) (w:=w) ho O hi J h0 (vn (ws r1)) (vn (ws Z)) o3 o4 (by omega) o6;have u:=qup (zv:=zv) (k:=i.size) o4;have I:((Array.range (m.toNat*i.size)).map (zv.cells[· %zv.cells.size]!)).size=m.toNat*i.size:=by simp
     generalize (Array.range (m.toNat*i.size)).map (zv.cells[· %zv.cells.size]!)=cells at o u I;have A:=qm5 (g:=g) (w:=w) B n.toNat i.size M h0;have hes: ∀r∈List.replicate n.toNat z,r.length=i.size:=by intro r hr;rw[jEu hr,C]
     have hfl:(List.replicate n.toNat z).flatten.length=n.toNat*i.size:=by rw[xm hes];simp
     have hle:n.toNat*i.size<=m.toNat*i.size:=jAz _ (by omega);obtain⟨q1,q2⟩:=hs.newObj (e:=e) (vs:=cells.toList) (new:=(List.replicate n.toNat z).flatten.map .d) o9 (by simp only[jAm,jBr];omega) (λj s hj=>by
      simp only[jAn,jAb]at hj;obtain⟨d,X,rfl⟩:=hj;have E:j<((Array.range (n.toNat*i.size)).map (zv.cells[· %zv.cells.size]!)).toList.length:=by rw[A.1];exact(jAd.1 X).1
      have hv:=A.2.2 j _ d (jAa E) X;refine⟨_,by simpa using u j _ (jAa E),?_,hv⟩;exact hv.oneCell (A.2.1 d (jAe X))) (λs R t O=>by
      obtain⟨d,_,rfl⟩:=jAo.1 R;cases O)
     refine⟨_,_,_,o,q1,q2,.ref _ 0 _ _ _ _ (Ghost.at_same _ _ _) (by omega) (by unfold maxLen;omega) ?_⟩;rw[vq (heap_alloc_new w _),Nat.zero_add,I];exact jAi _
    | _=>simp[h1,h2,Out.bad]at h
   | _=>simp[h1,h2,Out.bad]at h
  | _=>simp[h1,Out.bad]at h
 | _=>simp[h1,Out.bad]at h
theorem qid: ∀(cs:List ASlot) (off:Nat) (new:List ASlot),(qb1 cs off new).length=cs.length
 |cs,off,[]=>rfl
 |cs,off,s::r=>by rw[qb1,qid,jCh]
theorem qfw: ∀(new:List ASlot) (cs:List ASlot) (off i:Nat),off+new.length<=cs.length->
  (qb1 cs off new)[i]? =if off<=i∧i<off+new.length then new[i-off]?else cs[i]?
 | [],cs,off,i,_=>by
  simp_all[List.length_nil,if_neg,qb1]
 |s::r,cs,off,i,h=>by
  have ih:=qfw r (cs.set off s) (off+1) i (by grind);simp only[qb1];grind
theorem SR.stored {id off b:Nat} {new:List ASlot} {us:List Value} (hs:SR N T g w st a) (E:g b= .obj id) (h0:0<(ql st.os id).length) (B:off+new.length<=(ql st.os id).length)
  (hl:us.length=new.length) (hu: ∀(i:Nat) (x:ASlot),new[i]? =some x-> ∃u,us[i]? =some u∧u.oneCell'=true∧RC g w st.live u x) (htok: ∀s∈new,∀t∈s.toks,T t):
  ∃w',(storeCells ⟨b,off,none⟩ us).run P w= .ok () w'∧G g w g w'∧SR N T g w' {st with os:=st.os.set id (.row (qb1 (ql st.os id) off new))} a:=by
 obtain⟨c,e,z,hsize,hcells⟩:=qum hs E h0;have F: ∀v∈us,v.oneCell'=true:=by
  intro v U;obtain⟨i,hi⟩:=List.getElem?_of_mem U;have C:i<new.length:=by grind
  obtain⟨u,u1,u2,_⟩:=hu i new[i] (List.getElem?_eq_getElem C);grind
 have q:=run_storeCells_at P b off e us 0 c w z (by omega) F;simp only[Nat.add_zero]at q;generalize hc':(c.toList.take off++us++c.toList.drop (off+us.length)).toArray=c' at q;have I:(w.setRow b c').heap[b]? =some (.cells c' e (0,0)):=setRow_heap w b c c' e (0,0) z;have d: ∀k,k≠b->(w.setRow b c').heap[k]? =w.heap[k]? :=λk p=>setRow_other w b k c' p;have hsz:(w.setRow b c').heap.size=w.heap.size:=by simp
 have hlen':c'.size=c.size:=by
  grind
 have J: ∀i,c'[i]? =if off<=i∧i<off+us.length then us[i-off]?else c[i]? :=by
  grind
 have R: ∀k,qdm w k<=qdm (w.setRow b c') k:=λk=>by
  grind[vq,Nat.le_of_eq,jl]
 have A: ∀k n o,g k= .row n o->k≠b:=by grind
 have M:G g w g (w.setRow b c'):=
  ⟨rfl,rfl,rfl,by omega,λk p l=>⟨d k (by grind),l⟩,λk m p l=>⟨d k (A k _ _ l),l⟩,
   λk m t p l=>⟨m,some t,l,Nat.le_refl _,λi v _ U=>by grind[kj]⟩,λk id p l=>⟨l,R k⟩⟩
 have C:id<st.os.length:=by
  obtain⟨o,X,_⟩:=hs.ids b id E;grind
 refine⟨_,q,M,hs.setObj C M (hs.dom.of M λk p=>hs.dom.1 k (by omega)) E (λ_ _=>rfl) (λk p _=>d k p) (.inr E) (λk p=>hs.inj k b id p E) ?_ ?_⟩
 ·refine⟨c',e,I,by grind[qid],λi s hi=> ?_⟩;rw[qfw new _ off i B]at hi;rw[J i,hl];have keep: ∀{v:Value} {x:ASlot},RC g w st.live v x->RC g (w.setRow b c') st.live v x:=λh=>RC.keep M hs.dom (λk n o p=>⟨p,d k (A k n o p)⟩) (λk t p=>⟨p,d k (by grind)⟩) h;grind
 ·intro s O t ht;obtain⟨i,hi⟩:=List.getElem?_of_mem O;rw[qfw new _ off i B]at hi;split at hi
  ·grind
  ·obtain⟨o,X,hn⟩:=hs.ids b id E;refine hs.wf.os id o X s ?_ t ht;grind[ql,id,List.mem_of_getElem?]
theorem xbm {t:TypeId} {x v:Operand} {x' v':Opd} {n:Option Nat} (ho:oper.op= .store t x v) (hn:aggN P t=some n) (hx:qr x=some x') (O:qr v=some v') (hs:SR N T g w st a) (e:(sem tb (.store n x' v') st).ob):
  ∃w',(execOp a.eval oper).run P w= .ok .skip w'∧G g w g w'∧SR N T g w' (jf st (sem tb (.store n x' v') st).wr) a:=by
 simp only[sem]at e⊢;obtain⟨o1,M,e⟩:=e;have I:=xh hs hx o1;have z:=xh hs O M;have tk:=qfv hs O M;cases hp:x'.get st.fr with
 |d p=>
  cases p with
  |ptr id off=>
   rw[hp]at I;simp only[hp,yu]at e⊢;have o:=ws I;generalize l:a.eval x=vx at o;cases o with
   |ptr b _ _ hg=>
   cases n with
   |none=>
    obtain⟨h1,X⟩:=e;obtain⟨ti,d,hi,m,_⟩:=q0p hn;have F:RC g w st.live (a.eval v) (v'.get st.fr):=qax z (by grind[ASlot.isOne]);have hone:=xfb F X;have hcells:(a.eval v).cells= #[a.eval v]:=by cases hvv:a.eval v<;>first|rfl|grind[Value.oneCell']
    obtain⟨w',J,B,A⟩:=SR.stored (P:=P) (id:=id) (off:=off) (new:= [v'.get st.fr]) (us:= [a.eval v]) hs hg (by omega) (by grind) rfl (λi s h=>by
     grind) (by grind)
    refine⟨w',?_,B,A⟩;simp_all[execOp,Instr.storeAt,Instr.sureAddr,storeVar,qy]
   |some k=>
    obtain⟨ti,hi,m,_⟩:=qlm hn;cases hq:v'.get st.fr with
    |d q=>
     cases q with
     |agg cs=>
      simp only[hq]at e⊢;obtain⟨h1,h0,X,h3⟩:=e;rw[hq]at z;obtain⟨us,C,hl,hcl,hc⟩:=qee (ws z);obtain⟨w',J,B,A⟩:=SR.stored (P:=P) (id:=id) (off:=off) (new:=cs.map .d) (us:=us) hs hg h0 (by grind) (by simp[hl]) (λi s h=>by
       simp only[List.getElem?_map,Option.map_eq_some_iff]at h;obtain⟨d,U,rfl⟩:=h;have u:i<us.length:=by grind
       have R:=hc i us[i] d (List.getElem?_eq_getElem u) U;exact⟨_,List.getElem?_eq_getElem u,R.oneCell (hcl d (List.mem_of_getElem? U)),R⟩) (by
       intro s h t ht;obtain⟨d,_,rfl⟩:=List.mem_map.1 h;grind[ASlot.toks])
      refine⟨w',?_,B,A⟩;have E:us.length=k:=by omega
      simp[execOp,ho,l,C,Instr.storeAt,Instr.sureAddr,storeVar,qy hi,m,Value.cells,E,J]
     | _=>grind[Out.bad]
    | _=>grind[Out.bad]
  | _=>grind[yu,Out.bad]
 | _=>grind[yu,Out.bad]
theorem q02 {neg:Bool} {t u e:TypeId} {x y:Operand} {x':Opd} {es:Nat} {rows:List (List D)} (ho:oper.op= .binOp (if neg then .neq else .eql) t x y u) (ht:P.underlying t=some (.slice e)) (hx:qr x=some x')
  (l:qjj y=true) (hs:SR N T g w st a) (hok:x'.ok st.fr=true) (hr:(x'.get st.fr).rows=some (es,rows)):
  ∃b:Bool,(b=true->rows= [])∧y9 P g w st a oper (.d (.bool (if neg then !b else b))):=by
 have r1:=qkm (xh hs hx hok) hr;have hyv:a.eval y= .slice none 0 0:=by
  unfold qjj at l;split at l
  ·rfl
  grind
 have key: ∀(b:Bool),(∃h n c,a.eval x= .slice h n c∧h.isNone=b) ->y9 P g w st a oper (.d (.bool (if neg then !b else b))):=by
  rintro b ⟨h,n,c,i,hb⟩;have heq:(Op.equal t (.slice h n c) (.slice none 0 0)).run P w= .ok b w:=qa6 (by
   subst hb;rw[Op.equalIn];cases h<;>simp[run_underlying ht])
  refine⟨.bool (if neg then !b else b),?_,.bool _⟩;cases neg with
  |false=>simp_all[execOp,eqGuard_at_slice,binOp]
  |true=>simp_all[execOp,eqGuard_at_slice,binOp]
 rcases qtw r1 with⟨⟨h,cp,i,_⟩,rfl⟩|⟨b,off,cap,n,o,f,i,_⟩
 ·exact⟨h.isNone,λ_=>rfl,key h.isNone ⟨_,_,_,i,rfl⟩⟩
 simp_all
theorem q85 {t u ty e:TypeId} {i:TypeInfo} (ht:P.underlying t=some (.slice e)) (hi:P.info? e=some i) {base:Option Addr} {n cap k:Nat} {x:Value} {news:List Value} {w1:World}
  (hl:(Builtin.lenOf x).run P w= .ok k w) (hf:(Builtin.firstCells i.size (Nat.min k n) x).run P w= .ok news.toArray w) (h: ∀d,base=some d->(storeCells d news).run P w= .ok () w1) (hn:base=none->w1=w):
  (Builtin.copy_ #[t,u] ty #[.slice base n cap,x]).run P w= .ok (.int .i64 (Nat.min k n)) w1:=by
 cases base with
 |none=>
  have:=hn rfl;simp_all[Builtin.copy_,run_underlying,qy,goInt]
 |some d=>simp[Builtin.copy_,run_underlying ht,qy hi,hl,hf,h d rfl,goInt]
theorem q03 {t u e:TypeId} {s x:Operand} {s' x':Opd} {i:TypeInfo} (ho:oper.op= .call {callee:= .builtin .copy,args:= #[s,x],argTypes:= #[t,u]})
  (ht:P.underlying t=some (.slice e)) (hi:P.info? e=some i) (Y:qr s=some s') (E:qr x=some x') (hs:SR N T g w st a) (l:(sem tb (.copy i.size s' x') st).ob):
  ∃v w' g',(execOp a.eval oper).run P w= .ok (.value v) w'∧G g w g' w'∧SR N T g' w' (jf st (sem tb (.copy i.size s' x') st).wr) a∧RS g' w' st.live v (sem tb (.copy i.size s' x') st).v:=by
 simp only[sem]at l⊢;obtain⟨o1,o2,l⟩:=l;have rs:=xh hs Y o1;have rx:=xh hs E o2;have tkx:=qfv hs E o2;unfold yw at l⊢;cases hsrc:qar i.size st.os (x'.get st.fr)with
 |none=>grind[Out.bad]
 |some r=>
  simp only[hsrc]at l⊢;cases hk:s'.get st.fr with
  |d p=>
   cases p with
   |ref id off es n=>
    simp only[hk]at l⊢;obtain⟨J,rfl,I,ac⟩:=l;rw[hk]at rs;have o:=ws rs;obtain⟨hes,news,B,m,_,M⟩:=qgg (P:=P) hs rx hsrc J;have U:Nat.min r.rows.length n<=r.rows.length:=Nat.min_le_left _ _;have hf:=M _ U;have z: ∀base cap w1,a.eval s= .slice base n cap->(∀C,base=some C->(storeCells C (news.take (Nat.min r.rows.length n*i.size))).run P w= .ok () w1) ->(base=none->w1=w) ->
      (execOp a.eval oper).run P w= .ok (.value (.int .i64 (Nat.min r.rows.length n))) w1:=by
     intro base cap w1 hv h1 h2;have:=q85 (P:=P) (t:=t) (u:=u) (ty:=oper.type) (cap:=cap) ht hi m.1 hf h1 h2;simp_all[execOp,resolve,invoke,builtin]
    have htk:(r.rows.take n).flatten.length=Nat.min r.rows.length n*i.size:=by
     grind[xm,List.mem_of_mem_take,List.length_take,Nat.min_comm]
    have hnl:(news.take (Nat.min r.rows.length n*i.size)).length=Nat.min r.rows.length n*i.size:=by
     have h1:=B.1;grind[xm,Nat.mul_le_mul_right,List.length_take]
    have hle:Nat.min r.rows.length n*i.size<=n*i.size:=Nat.mul_le_mul_right _ (Nat.min_le_right _ _);have ae:(r.rows.take n).flatten=r.rows.flatten.take (n*i.size):=flat_take hes n;have q: ∀(j:Nat) (y:ASlot),((r.rows.take n).flatten.map ASlot.d)[j]? =some y-> ∃u,(news.take (Nat.min r.rows.length n*i.size))[j]? =some u∧u.oneCell'=true∧RC g w st.live u y:=by
     intro j y hj;simp only[List.getElem?_map,Option.map_eq_some_iff]at hj;obtain⟨d,X,rfl⟩:=hj;have ab:j<Nat.min r.rows.length n*i.size:=by grind
     have aa:j<(news.take (Nat.min r.rows.length n*i.size)).length:=by omega
     rw[ae,List.getElem?_take]at X;split at X
     ·have R:=List.getElem?_eq_getElem aa;have O:=R;rw[List.getElem?_take,if_pos ab]at O;have hr:=B.2.2 j _ d O X;exact⟨_,R,hr.oneCell (B.2.1 d (List.mem_of_getElem? X)),hr⟩
     omega
    have A: ∀s∈(r.rows.take n).flatten.map ASlot.d,∀t∈s.toks,T t:=by
     intro s hs t ht;obtain⟨d,_,rfl⟩:=List.mem_map.1 hs;grind[ASlot.toks]
    have nothing:(r.rows.take n).flatten= [] -> ∀base cap,a.eval s= .slice base n cap->
      ∃v w' g',(execOp a.eval oper).run P w= .ok (.value v) w'∧G g w g' w'∧SR N T g' w' (jf st (some (storeAt st.os id off ((r.rows.take n).flatten.map .d)))) a∧RS g' w' st.live v (.d (.int .i64 (Nat.min r.rows.length n))):=by
     intro h0 base cap hv;have hz:news.take (Nat.min r.rows.length n*i.size)= []:=List.eq_nil_of_length_eq_zero (by grind);refine⟨_,w,g,z _ _ w hv (λC _=>by rw[hz];rfl) (λ_=>rfl),G.refl g w,?_,.int _ _⟩;rw[h0];exact hs.touch id I
    by_cases hnil:(r.rows.take n).flatten= []
    ·generalize F:a.eval s=v at o;cases o with
     |ref b _ _ _ _ cap=>grind
     |refnil C=>grind
    ·have hpos:0<(r.rows.take n).flatten.length:=by
      grind
     generalize F:a.eval s=v at o;cases o with
     |refnil C=>omega
     |ref b _ _ _ _ cap hg hcap hmx hsz=>
      have Z:n≠0:=by grind
      have hin':=ac.resolve_left Z;obtain⟨w',q1,q2,q3⟩:=SR.stored (P:=P) (id:=id) (off:=off) (new:=(r.rows.take n).flatten.map .d) (us:=news.take (Nat.min r.rows.length n*i.size)) hs hg (by omega) (by grind)
       (by grind) q A
      exact⟨_,w',g,z _ _ w' F (λC had=>by grind) (λh=>by cases h),q2,q3,.int _ _⟩
   | _=>grind[Out.bad]
  | _=>grind[Out.bad]
end
end Go.Abs
