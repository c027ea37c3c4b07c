/- Texts Aj, Ak, Al, Am, An. -/
import Derived.Test.YtkcdbcbpbolgkaaGreatDoorMrd
import Derived.Laws.CopyRow
set_option linter.unusedSimpArgs false
set_option linter.unusedVariables false
set_option linter.defProp false
set_option maxRecDepth 100000
noncomputable section
namespace Go.Abs
section
variable {P:Program} {N tb:Nat} {T:Nat→Prop} {g:Ghost} {w:World} {st:St} {a:Act} {oper:Oper}
theorem getElem?_chunks: ∀(n es:Nat) (l:List D),n*es<=l.length->(qby es n l).flatten=l.take (n*es)∧(∀r∈qby es n l,r.length=es)∧(qby es n l).length=n
 |0,es,l,_=>by simp[qby]
 |n+1,es,l,h=>by
  rw[jCz]at h;obtain⟨h1,h2,h3⟩:=getElem?_chunks n es (l.drop es) (by simp;omega);refine⟨?_,?_,by simp[qby,h3]⟩
  ·simp only[qby,List.flatten_cons,h1];rw[jCz,Nat.add_comm,jFp]
  ·intro r d;simp only[qby,jAv]at d;rcases d with rfl|d
   ·simp;omega
   ·exact h2 r d
theorem q59 (hs:SR N T g w st a) {v:Value} {id off es n:Nat} (h:RV g w v (.ref id off es n)) (hok:qsj st.os id off es n):
  (∀row∈qa5 st.os id off es n,row.length=es)∧(qa5 st.os id off es n).length=n∧ ∃us:List Value,RL g w us (qa5 st.os id off es n).flatten∧
   ((n=0∧ ∃F,v= .slice F 0 0)∨ ∃b cap,v= .slice (some ⟨b,off,none⟩) n cap∧ ∀(j:Nat) (u:Value),us[j]? =some u->w.cell? ⟨b,off+j,none⟩=some u):=by
 obtain⟨h1,G⟩:=hok;obtain⟨c1,c2,c3⟩:=getElem?_chunks n es (((qi st.os id).drop off).map ASlot.cellD) (by simp;omega);refine⟨c2,c3,?_⟩;show∃us:List Value,RL g w us (qby es n (((qi st.os id).drop off).map ASlot.cellD)).flatten∧_;rw[c1];generalize t:D.ref id off es n=y at h;cases h with
 |ref b off' id' es' len cap hg hcap hmx hsz=>
  cases t;by_cases h0:n*es=0
  ·refine⟨[],?_,.inr ⟨b,cap,rfl,by simp⟩⟩;rw[h0];exact⟨by simp,by simp,by simp⟩
  ·obtain⟨c,e,q1,q2,q3⟩:=qta hs hg (by omega);have o:((c.toList.drop off).take (n*es)).length=n*es:=by simp;omega
   refine⟨(c.toList.drop off).take (n*es),⟨by rw[o];simp;omega,?_,?_⟩,.inr ⟨b,cap,rfl,?_⟩⟩
   ·intro d p;rw[<- jDh,jAo]at p;obtain⟨s,i,rfl⟩:=p;have:=jAx.1 G s i;cases s<;>simp_all[ASlot.isCellD,ASlot.cellD]<;>rfl
   ·intro j u d l p;rw[<- jDh,jAn,jAb]at p;obtain⟨s,i,rfl⟩:=p;have q:=jAx.1 G s (jAe i);have E:(qi st.os id)[off+j]? =some s:=by rw[jBx]at i;split at i<;>simp_all
    have C:c[off+j]? =some u:=by rw[jBx]at l;split at l<;>simp_all
    obtain⟨v,m,_,z⟩:=q3 (off+j) s E;rw[C]at m;cases m;exact(qvo (st:=st) z q).1
   ·intro j u l;rw[jBx]at l;split at l
    ·simpa[World.cell?,q1]using l
    ·cases l
 |refnil F id' off' es'=>
  cases t;refine⟨[],?_,.inl ⟨rfl,F,rfl⟩⟩;rw[jEk];exact⟨by simp,by simp,by simp⟩
 | _=>cases t
theorem qvr {s t e:TypeId} {x:Operand} {y:Opd} {r:Src} (h1:(y.get st.fr).rows=none) (u:qbm 1 st.os (y.get st.fr)=some r) (J:oper.op= .convert s t x) (o:P.underlying s=some (.slice e)) (O:P.underlying e=some (.int .u8)) (q:P.underlying t=some .string)
  (hx:qt x=some y) (hs:SR N T g w st a) (E:(sem tb (.b2s y) st).ob):yk P g w st a oper (sem tb (.b2s y) st).v:=by
 simp only[sem,h1,u]at E⊢;obtain⟨hok,C,l,U⟩:=E;have R:=xe hs hx hok;cases hy:y.get st.fr with
 |d p=>
  cases p with
  |ref id off es n=>
   rw[hy]at u R;simp only[qbm]at u;split at u
   ·rename_i hes;subst hes;cases u;obtain⟨c1,c2,us,c3,c4⟩:=q59 hs (wg R) C;simp only at U;rw[U]at c2 c3⊢;rw[qb1];refine⟨.string ⟨l.toArray⟩,?_,.str l⟩;have i:=qar l;have M:l.length=n:=by simpa[qe]using c2
    have I:us=l.map λc=>Value.int .u8 c.toNat:=by
     refine jC6 λj=> ?_;rcases jB9 j l.length with z|z
     ·have F:j<us.length:=by rw[c3.1,i];simpa using z
      rw[jAa F,jAn,jAa z];have:=c3.2.2 j us[j] (D.int .u8 l[j].toNat) (jAa F) (by rw[i];simp[z]);rw[ky this];rfl
     ·rw[jCg (by rw[c3.1,i];simpa using z),jCg (by simpa using z)]
    rcases c4 with⟨h0,ad,G⟩|⟨b,cap,G,hc⟩
    ·have:l= []:=jAz (by omega);subst this;cases ad with
     |none=>
      simp[execOp,J,G,run_convert_bytes_string w s t e _ _ _ o O q,Conv.bytesToString];rfl
     |some a0=>
      have h:(loadCells a0 0).run P w= .ok (([]:List Int).map (Value.int .u8)).toArray w:=by simpa using run_loadCells_list (P:=P) w a0 [] (by simp)
      have m:=run_bytesToString w a0 0 0 [] h;simp only[execOp,J,G,Sem.run_bind,run_convert_bytes_string w s t e _ _ _ o O q,m];simp[ByteArray.empty,ByteArray.emptyWithCapacity];rfl
    ·have h:(loadCells ⟨b,off,none⟩ n).run P w= .ok ((l.map λc=>(c.toNat:Int)).map (Value.int .u8)).toArray w:=by
      have:=run_loadCells_list (P:=P) w ⟨b,off,none⟩ ((l.map λc=>(c.toNat:Int)).map (Value.int .u8)) (by
       intro j v z;rw[Addr.add_lit];apply hc;rw[I];simpa using z)
      simpa[M]using this
     have m:=run_bytesToString w ⟨b,off,none⟩ n cap (l.map λc=>(c.toNat:Int)) h;rw[qc7]at m;simp only[execOp,J,G,Sem.run_bind,run_convert_bytes_string w s t e _ _ _ o O q,m];simp[ByteArray.empty,ByteArray.emptyWithCapacity];rfl
   ·cases u
  | _=>rw[hy]at u;simp[qbm]at u
 | _=>rw[hy]at u;simp[qbm]at u
def Source (P:Program) (size:Nat) (x:Value) (n:Nat) (w:World) (news:List Value):Prop:=
 (Builtin.lenOf x).run P w= .ok n w∧(Builtin.firstCells size n x).run P w= .ok news.toArray w
theorem ya {t u ty e:TypeId} {i:TypeInfo} (m:P.underlying t=some (.slice e)) (hi:P.info? e=some i) (h:(∃f,P.underlying u=some (.slice f))∨P.underlying u=some .string)
  (l:Addr) (d sCap:Nat) {x:Value} {n:Nat} {news:List Value} (hx:Source P i.size x n w news) (hn:d+n<=sCap):
  (Builtin.append_ #[t,u] ty #[.slice (some l) d sCap,x]).run P w=
   ((storeCells (l.add (d*i.size)) news).run P w).andThen λ_ w'=> .ok (.slice (some l) (d+n) sCap) w':=by
 obtain⟨p,o⟩:=hx;rcases h with⟨f,h⟩|h
 ·simp only[Builtin.append_,Sem.run_bind,run_underlying m,run_underlying h,qz hi,Result.andThen_ok,p,jCw,jCa,jCb,Sem.run_pure,jAw,if_false,hn,if_true,o,jDm]
 ·simp only[Builtin.append_,Sem.run_bind,run_underlying m,run_underlying h,qz hi,Result.andThen_ok,p,jCw,jCa,jCb,Sem.run_pure,jAw,if_false,hn,if_true,o,jDm]
theorem qcj {t u ty e:TypeId} {i:TypeInfo} (l:P.underlying t=some (.slice e)) (hi:P.info? e=some i) (h:(∃f,P.underlying u=some (.slice f))∨P.underlying u=some .string)
  (d sCap:Nat) {x:Value} {n:Nat} {news:List Value} (hx:Source P i.size x n w news) (hn:d+n<=sCap):
  (Builtin.append_ #[t,u] ty #[.slice none d sCap,x]).run P w= .ok (.slice none (d+n) sCap) w:=by
 obtain⟨o,m⟩:=hx;rcases h with⟨f,h⟩|h
 ·simp only[Builtin.append_,Sem.run_bind,run_underlying l,run_underlying h,qz hi,Result.andThen_ok,o,jCw,jCa,jCb,Sem.run_pure,jAw,if_false,hn,if_true,m,jDm]
 ·simp only[Builtin.append_,Sem.run_bind,run_underlying l,run_underlying h,qz hi,Result.andThen_ok,o,jCw,jCa,jCb,Sem.run_pure,jAw,if_false,hn,if_true,m,jDm]
theorem qb2 {t u ty e:TypeId} {i:TypeInfo} {z:Value} (v:P.underlying t=some (.slice e)) (hi:P.info? e=some i) (p:i.zero=some z) (m:(∃f,P.underlying u=some (.slice f))∨P.underlying u=some .string) (l:i.bytes≠0)
  (base:Option Addr) (d sCap:Nat) {x:Value} {n:Nat} {olds news:List Value} (E:(Builtin.lenOf x).run P w= .ok n w) (q:(Builtin.firstCells i.size n x).run P w.drew= .ok news.toArray w.drew)
  (C:(Builtin.firstCells i.size d (.slice base d sCap)).run P w.drew= .ok olds.toArray w.drew)
  (hn:sCap<d+n) (hfit:Builtin.nextslicecap (d+n) sCap*i.bytes<=281474976710656):
  (Builtin.append_ #[t,u] ty #[.slice base d sCap,x]).run P w=
   .ok (.slice (some ⟨w.heap.size,0,none⟩) (d+n) (grownCap w (d+n) sCap e))
    (w.drew.alloc (.cells (olds.toArray++news.toArray++Builtin.zeroCells z.cells (grownCap w (d+n) sCap e-(d+n))) e)):=by
 have o: ¬(d+n<=sCap):=by omega
 have h: ¬(281474976710656<Builtin.nextslicecap (d+n) sCap*i.bytes):=by omega
 have hb: ¬(((d+n:Nat):Int)>IntKind.i64.max∧(false=true∨i.bytes=0)):=by simp[l]
 rcases m with⟨f,m⟩|m
 ·simp[Builtin.append_,run_underlying v,run_underlying m,qz hi,typeInfo,zeroValue,hi,p,E,o,q,C,h,l,Question.forced,newRow,grownCap];congr 2;apply Array.ext';simp
 ·simp[Builtin.append_,run_underlying v,run_underlying m,qz hi,typeInfo,zeroValue,hi,p,E,o,q,C,h,l,Question.forced,newRow,grownCap];congr 2;apply Array.ext';simp
theorem qvs {v:Value} {es:Nat} {rows:List (List D)} (h:RV g w v (.sl es rows)):
  ∃vs:List Value,RL g w vs rows.flatten∧ ∃cap,((∃p,v= .slice p 0 cap∧(p=none->cap=0))∧rows= [])∨(∃b off,v= .slice (some ⟨b,off,none⟩) rows.length cap∧(∀r∈rows,r.length=es)∧
   ∀(j:Nat) (u:Value),vs[j]? =some u->w.cell? ((⟨b,off,none⟩:Addr).add j)=some u):=by
 rcases qsk h with⟨⟨p,cp,q,z⟩,rfl⟩|⟨b,off,cap,n,o,f,q,hg,hn,hcap,hes,hcl,l,t⟩
 ·exact⟨[],⟨rfl,by simp,by simp⟩,cp,.inl ⟨⟨p,q,z⟩,rfl⟩⟩
 ·refine⟨(List.range rows.flatten.length).map f,⟨by simp,hcl,?_⟩,cap,.inr ⟨b,off,q,hes,?_⟩⟩
  ·intro j u d m C;simp only[jAn,jAb]at m;obtain⟨i,hi,rfl⟩:=m;have e:j<rows.flatten.length:=(jAd.1 C).1;rw[jC5 e]at hi;cases hi;exact t j d C
  ·intro j u m;simp only[jAn,jAb]at m;obtain⟨i,hi,rfl⟩:=m;have e:j<rows.flatten.length:=by have:=(jAd.1 hi).1;simpa using this
   rw[jC5 e]at hi;cases hi;rw[Addr.add_lit];exact l j _ (jAa e)
theorem qpi {live:List Nat} {v:Value} {s:ASlot} {es:Nat} {r:List (List D)} (h:RS g w live v s) (hr:(∃l,s= .d (.str l)∧es=1∧r=qe l)∨ ∃e,s.rows=some (e,r)∧(e=es∨r= [])):
  (∀row∈r,row.length=es)∧ ∃news:List Value,RL g w news r.flatten∧Source P es v r.length w news∧(Builtin.firstCells es r.length v).run P w.drew= .ok news.toArray w.drew∧ ∀k,k<=r.length->(Builtin.firstCells es k v).run P w= .ok (news.take (k*es)).toArray w:=by
 rcases hr with⟨l,rfl,rfl,rfl⟩|hr'
 ·
  ·have hv:=qcg (wg h)
   subst hv
   have hlen:(qe l).length=l.length:=by simp[qe]
   have hext:(⟨l.toArray⟩:ByteArray).extract 0 l.length=⟨l.toArray⟩:=by
    apply ByteArray.ext
    simp[ByteArray.data_extract]
   have hcells: ∀w0:World,(Builtin.firstCells 1 (qe l).length (.string ⟨l.toArray⟩)).run P w0= .ok (l.map fun b=>Value.int .u8 b.toNat).toArray w0:=by
    intro w0
    rw[hlen]
    simp[Builtin.firstCells,hext]
   have hpre: ∀k,k<=(qe l).length->(Builtin.firstCells 1 k (.string ⟨l.toArray⟩)).run P w= .ok ((l.map fun b=>Value.int .u8 b.toNat).take (k*1)).toArray w:=by
    intro k hk
    rw[hlen]at hk
    simp[Builtin.firstCells,<- List.map_take]
   refine⟨by simp[qe],l.map fun b=>Value.int .u8 b.toNat,?_,⟨?_,hcells w⟩,hcells w.drew,hpre⟩
   ·rw[qar]
    refine⟨by simp,fun d hd=>by obtain⟨c,_,rfl⟩:=List.mem_map.1 hd;rfl,fun j u d hu hd=> ?_⟩
    simp only[List.getElem?_map,Option.map_eq_some_iff]at hu hd
    obtain⟨c,hc,rfl⟩:=hu
    obtain⟨c',hc',rfl⟩:=hd
    rw[hc]at hc';cases hc'
    exact .int _ _
   ·simp[Builtin.lenOf,hlen,qpb]
 ·obtain⟨e,hrow,hc⟩:=hr'
  obtain⟨vs,hrl,cap,hcase⟩:=qvs (qjd h hrow)
  rcases hcase with⟨⟨ad,rfl,_⟩,rfl⟩|⟨b,off,rfl,hes,hcell⟩
  ·have:vs= []:=by have:=hrl.1;simpa using this
   subst this
   have hfc: ∀w0:World,(Builtin.firstCells es 0 (.slice ad 0 cap)).run P w0= .ok #[] w0:=by
    intro w0
    cases ad with
    |none=>simp[Builtin.firstCells]
    |some a0=>exact run_firstCells_some (P:=P) w0 es 0 a0 _ _ [] (by simp) (by simp)
   exact⟨by simp,[],hrl,⟨by simp[Builtin.lenOf],hfc w⟩,hfc w.drew,fun k hk=>(by have:k=0:=(by simpa using hk);subst this;simpa using hfc w)⟩
  ·have hes': ∀row∈r,row.length=es:=by
    rcases hc with rfl|rfl
    ·exact hes
    ·simp
   have hl:vs.length=r.length*es:=by rw[hrl.1,xi hes']
   refine⟨hes',vs,hrl,⟨by simp[Builtin.lenOf],?_⟩,?_,fun k hk=> ?_⟩
   ·exact run_firstCells_some (P:=P) w es r.length _ _ _ vs hl hcell
   ·exact run_firstCells_some (P:=P) w.drew es r.length _ _ _ vs hl (by simpa using hcell)
   ·have hke:k*es<=r.length*es:=Nat.mul_le_mul_right _ hk
    refine run_firstCells_some (P:=P) w es k _ _ _ _ (by rw[List.length_take];omega) (fun j u hj=>hcell j u ?_)
    rw[List.getElem?_take]at hj
    split at hj
    ·exact hj
    ·cases hj
theorem qfl (hs:SR N T g w st a) {v:Value} {s:ASlot} {es:Nat} {r:Src} (h:RS g w st.live v s) (d:y7 es st.os s=some r) (hok:r.ok):
  (∀row∈r.rows,row.length=es)∧ ∃news:List Value,RL g w news r.rows.flatten∧Source P es v r.rows.length w news∧(Builtin.firstCells es r.rows.length v).run P w.drew= .ok news.toArray w.drew∧ ∀k,k<=r.rows.length->(Builtin.firstCells es k v).run P w= .ok (news.take (k*es)).toArray w:=by
 unfold y7 at d;split at d
 ·rename_i l;split at d
  ·rename_i p;cases d;exact qpi h (.inl ⟨l,rfl,p,rfl⟩)
  ·cases d
 ·split at d
  ·rename_i e r' o;split at d
   ·rename_i hc;cases d;exact qpi h (.inr ⟨e,o,hc⟩)
   ·cases d
  ·unfold qbm at d;split at d
   ·rename_i id off e n _ _;split at d
    ·rename_i he;subst he;cases d;obtain⟨c1,c2,us,c3,c4⟩:=q59 hs (wg h) hok;refine⟨c1,us,c3,?_⟩;simp only;rw[c2];rcases c4 with⟨rfl,z,rfl⟩|⟨b,cap,rfl,hc⟩
     ·have:us= []:=by
       have p:=c3.1;rw[xi c1,c2]at p;exact jAz (by simpa using p)
      subst this;have m: ∀w0:World,(Builtin.firstCells e 0 (.slice z 0 0)).run P w0= .ok #[] w0:=by
       intro w0;cases z with
       |none=>simp[Builtin.firstCells]
       |some a0=>exact run_firstCells_some (P:=P) w0 e 0 a0 _ _ [] (by simp) (by simp)
      exact⟨⟨by simp[Builtin.lenOf],m w⟩,m w.drew,λk t=>(by have:k=0:=(by omega);subst this;simpa using m w)⟩
     ·have q:us.length=n*e:=by rw[c3.1,xi c1,c2]
      refine⟨⟨by simp[Builtin.lenOf],?_⟩,?_,λk t=> ?_⟩
      ·exact run_firstCells_some (P:=P) w e n _ _ _ us q (λj u i=>by rw[Addr.add_lit];exact hc j u i)
      ·exact run_firstCells_some (P:=P) w.drew e n _ _ _ us q (λj u i=>by rw[Addr.add_lit];exact hc j u i)
      ·have hke:k*e<=n*e:=jAy _ t;refine run_firstCells_some (P:=P) w e k _ _ _ _ (by rw[jAl];omega) (λj u i=> ?_);rw[jBx]at i;split at i
       ·rw[Addr.add_lit];exact hc j u i
       ·cases i
    ·cases d
   ·cases d
end
section
variable {P:Program} {N tb:Nat} {T:Nat→Prop} {g:Ghost} {w:World} {st:St} {a:Act} {oper:Oper} {live live':List Nat}
theorem xho {v:Value} {e es:Nat} {l:List (List D)} (h:RV g w v (.sl e l)) (he:e=es∨l= []):RV g w v (.sl es l):=by
 rcases he with rfl|rfl
 ·exact h
 ·rcases qsk h with⟨⟨ad,cp,rfl,p⟩,_⟩|⟨b,off,cap,n,o,f,rfl,hg,hn,i,hes,hcl,d,m⟩
  ·exact .nilsl ad cp es p
  ·exact .sl b off cap es n o [] f hg hn i (by simp) hcl d m
theorem xbx {v:Value} {es:Nat} {l:List (List D)} (h:RV g w v (.sl es l)): ∀r∈l,r.length=es:=by
 rcases qsk h with⟨_,rfl⟩|⟨b,off,cap,n,o,f,_,_,_,_,hes,_⟩;all_goals grind
theorem xn0 {v:Value} {es:Nat} {l:List (List D)} (h:RV g w v (.sl es l)):
  ∃olds:List Value,RL g w olds l.flatten∧(Builtin.firstCells es l.length v).run P w.drew= .ok olds.toArray w.drew:=by
 obtain⟨vs,d,cap,e⟩:=qvs h;rcases e with⟨⟨ad,rfl,_⟩,rfl⟩|⟨b,off,rfl,hes,hcell⟩
 ·have:vs= []:=by have:=d.1;grind
  subst this;cases ad with
  |none=>simp_all[Builtin.firstCells]
  |some a0=>grind[run_firstCells_some]
 ·exact⟨vs,d,run_firstCells_some (P:=P) w.drew es l.length _ _ _ vs (by rw[d.1,xi hes]) (by simp_all)⟩
theorem RL.quiet {g':Ghost} {w':World} {vs:List Value} {i:List D} (h:RL g w vs i) (hd:Dom g w) (hq:Qt T g w g' w' live live'):RL g' w' vs i:=
 ⟨h.1,h.2.1,λj v d hv e=>hq.rv hd (h.2.2 j v d hv e)⟩
theorem qfm {g':Ghost} {w':World} {b cap:Nat} {c:Array Value} {e:TypeId} {fz:Nat×Nat} {t:Option Nat} {es:Nat} {rows:List (List D)} {vs:List Value} {n:Nat} (hh:w'.heap[b]? =some (.cells c e fz))
  (hg:g' b= .row n t) (hn:rows.flatten.length<=n) (hes: ∀r∈rows,r.length=es) (l:rows.length<=cap) (h:RL g' w' vs rows.flatten) (hc: ∀(j:Nat) (u:Value),vs[j]? =some u->c[j]? =some u):
  RV g' w' (.slice (some ⟨b,0,none⟩) rows.length cap) (.sl es rows):=by
 refine .sl b 0 cap es n t rows (λj=>vs.getD j undef) hg (by omega) l hes h.2.1 (λj d m=> ?_) (λj d m=> ?_)
 ·have i:j<vs.length:=by rw[h.1];grind
  grind[List.getElem?_eq_getElem,World.cell?,List.getD]
 ·have i:j<vs.length:=by rw[h.1];grind
  have:vs.getD j undef=vs[j]:=by grind
  simp only[this];exact h.2.2 j _ d (List.getElem?_eq_getElem i) m
theorem qd0 (z:Array Value) (n:Nat):(Builtin.zeroCells z n).size=n*z.size:=size_zeroCells z n
theorem q29 {t u ty e:TypeId} {i:TypeInfo} {z:Value} (Y:Dom g w) (ht:P.underlying t=some (.slice e)) (hi:P.info? e=some i) (hz:i.zero=some z) (I:z.cells.size=i.size)
  (hu:(∃f,P.underlying u=some (.slice f))∨P.underlying u=some .string) (U:i.bytes≠0)
  {base:Option Addr} {sCap:Nat} {x:Value} {l r:List (List D)} {news:List Value} (hs:RV g w (.slice base l.length sCap) (.sl i.size l))
  (hl:(Builtin.lenOf x).run P w= .ok r.length w) (hx:(Builtin.firstCells i.size r.length x).run P w.drew= .ok news.toArray w.drew) (C:RL g w news r.flatten) (hes: ∀row∈r,row.length=i.size)
  (hn:sCap<l.length+r.length) (h63:l.length+r.length<=9223372036854775807) (R:(l.length+r.length)*i.bytes<=140737488355328) (G:Nat)
  (m: ∀t,T t->t∈live'->t∈live):
  ∃v w' g',(Builtin.append_ #[t,u] ty #[.slice base l.length sCap,x]).run P w= .ok v w'∧Qt T g w g' w' live live'∧RC g' w' live' v (.own G i.size (l++r)):=by
 obtain⟨olds,E,J⟩:=xn0 (P:=P) hs;have hfit:Builtin.nextslicecap (l.length+r.length) sCap*i.bytes<=281474976710656:=growslice_fits (by omega) R;have p:=qb2 (P:=P) (w:=w) (ty:=ty) ht hi hz hu U base l.length sCap hl hx J hn hfit;have X:Qt T g w (g.at w.heap.size (.row ((l.length+r.length)*i.size) (some G))) (w.drew.alloc (.cells (olds.toArray++news.toArray++Builtin.zeroCells z.cells (grownCap w (l.length+r.length) sCap e-(l.length+r.length))) e)) live live':=
  Qt.newRow Y w.drew rfl rfl rfl rfl _ _ (some G) m
 have hge:=grownCap_ge w (l.length+r.length) sCap e;have M:=grownCap_le_maxLen w (l.length+r.length) sCap e (by grind[maxLen]);have F:=xbx hs;have h: ∀row∈l++r,row.length=i.size:=λrow hr=>by grind
 have O:(l++r).flatten.length=(l.length+r.length)*i.size:=by rw[xi h,List.length_append]
 have d:(w.drew.alloc (.cells (olds.toArray++news.toArray++Builtin.zeroCells z.cells (grownCap w (l.length+r.length) sCap e-(l.length+r.length))) e)).heap[w.heap.size]? =some (.cells (olds.toArray++news.toArray++Builtin.zeroCells z.cells (grownCap w (l.length+r.length) sCap e-(l.length+r.length))) e (0,0)):=heap_alloc_new w.drew _;have q:RL g w (olds++news) (l++r).flatten:=by rw[List.flatten_append];exact E.append C
 have o:=qfm (cap:=grownCap w (l.length+r.length) sCap e) (rows:=l++r) d (Ghost.at_same _ _ _) (Nat.le_of_eq O) h (by grind) (q.quiet Y X) (λj u hj=>by
  grind)
 rw[List.length_append]at o;refine⟨_,_,_,p,X,o,λ_=> .inr ⟨w.heap.size,_,_,e,by simp,?_,d,?_,M,?_⟩⟩
 ·rw[Ghost.at_same,List.length_append]
 ·grind
 ·have h1:olds.length=l.length*i.size:=by rw[E.1,xi F]
  have h2:news.length=r.length*i.size:=by rw[C.1,xi hes]
  simp only[Array.size_append,List.size_toArray,qd0,I,h1,h2,<- Nat.add_mul];grind
theorem q3a {t u ty e:TypeId} {i:TypeInfo} (hd:Dom g w) (ht:P.underlying t=some (.slice e)) (hi:P.info? e=some i)
  (hu:(∃f,P.underlying u=some (.slice f))∨P.underlying u=some .string)
  {b cap U:Nat} {o:Array Value} {X:TypeId} {x:Value} {l r:List (List D)} {news:List Value} (hs:RV g w (.slice (some ⟨b,0,none⟩) l.length cap) (.sl i.size l))
  (hg:g b= .row (l.length*i.size) (some U)) (hh:w.heap[b]? =some (.cells o X (0,0))) (hcm:cap<=maxLen) (hcs:cap*i.size<=o.size)
  (hx:Source P i.size x r.length w news) (C:RL g w news r.flatten) (hes: ∀row∈r,row.length=i.size)
  (hn:l.length+r.length<=cap) (tk:Nat) (J: ∀t,T t->t∈live'->t∈live∧t≠U):
  ∃v w' g',(Builtin.append_ #[t,u] ty #[.slice (some ⟨b,0,none⟩) l.length cap,x]).run P w= .ok v w'∧Qt T g w g' w' live live'∧RC g' w' live' v (.own tk i.size (l++r)):=by
 have p:=ya (P:=P) (w:=w) (ty:=ty) ht hi hu ⟨b,0,none⟩ l.length cap hx hn;have hesl:=xbx hs;have F: ∀row∈l++r,row.length=i.size:=λrow hr=>by grind
 have h1:l.flatten.length=l.length*i.size:=xi hesl;have h2:news.length=r.length*i.size:=by rw[C.1,xi hes]
 have hfl:(l++r).flatten.length=(l.length+r.length)*i.size:=by rw[xi F,List.length_append]
 have hone: ∀v∈news,v.oneCell'=true:=by
  intro v hv;obtain⟨j,hj⟩:=List.getElem?_of_mem hv;have I:j<r.flatten.length:=by grind
  exact(C.2.2 j v _ hj (List.getElem?_eq_getElem I)).oneCell (C.2.1 _ (List.getElem_mem I))
 have hsz:(l.length+r.length)*i.size<=cap*i.size:=Nat.mul_le_mul_right _ hn;rw[Nat.add_mul]at hsz;have hst:=run_storeCells_at P b (l.length*i.size) X news 0 o w hh (by omega) hone;rw[Addr.add_lit,Nat.zero_add]at p;rw[hst]at p;simp only[Nat.add_zero,Result.andThen_ok]at p;generalize O:(o.toList.take (l.length*i.size)++news++o.toList.drop (l.length*i.size+news.length)).toArray=d at p;have hb:b<w.heap.size:=hd.lt_row hg;have z:(w.setRow b d).heap[b]? =some (.cells d X (0,0)):=setRow_heap w b o d X (0,0) hh;have hother: ∀k,k≠b->(w.setRow b d).heap[k]? =w.heap[k]? :=λk E=>setRow_other w b k d E;have hsize:(w.setRow b d).heap.size=w.heap.size:=by simp
 have M:cap*i.size<=d.size:=by
  grind[List.size_toArray,List.length_append,List.length_take,List.length_drop,Array.length_toList]
 have hkeep: ∀j,j<l.length*i.size->d[j]? =o[j]? :=by
  grind[Array.length_toList,List.append_assoc,List.getElem?_append_left,List.length_take]
 have hput: ∀(j:Nat) (v:Value),news[j]? =some v->d[l.length*i.size+j]? =some v:=by
  intro j v hj;have I:j<news.length:=(List.getElem?_eq_some_iff.1 hj).1;have hle:(o.toList.take (l.length*i.size)).length=l.length*i.size:=by grind
  rw[<- O];simp only[List.getElem?_toArray,List.append_assoc];simp_all[List.getElem?_append_right,Nat.add_sub_cancel_left,List.getElem?_append_left]
 have hq:Qt T g w (g.at b (.row ((l.length+r.length)*i.size) (some tk))) (w.setRow b d) live live':=by
  have hgo: ∀k,k≠b->g.at b (.row ((l.length+r.length)*i.size) (some tk)) k=g k:=λk E=>Ghost.at_ne g _ E;refine⟨⟨rfl,rfl,rfl,by omega,λk E q=> ?_,λk m E q=> ?_,λk m t' E q=> ?_,λk id E q=> ?_⟩,⟨λk E=> ?_,hd.2.same λk m E q=>by grind⟩,λk id q=> ?_,λk id q=> ?_,λk m t' htb htl q=> ?_,λt' h h'=>(J t' h h').1,λk t' htb htl q=> ?_⟩
  ·grind
  ·grind
  ·grind[Ghost.at_same,Nat.mul_le_mul_right,World.cell?,Option.isSome_none,Bool.false_eq_true]
  ·have:k≠b:=by grind
   grind[Nat.le_of_eq,jf]
  ·have:k≠b:=by omega
   rw[hgo k this];exact hd.1 k (by omega)
  ·grind
  ·have:k≠b:=by rintro rfl;grind[Ghost.at_same]
   grind
  all_goals grind
 obtain⟨vs,G,c0,R⟩:=qvs hs;have hvs': ∀(j:Nat) (u:Value),vs[j]? =some u->o[j]? =some u:=by
  rcases R with⟨_,hnil⟩|⟨b',off',h,_,hcell⟩
  ·intro j u hj;have hv0:vs= []:=by have:=G.1;grind
   grind
  ·cases h;simp_all[Addr.add_lit,Nat.zero_add,World.cell?]
 have Z:RL g w (vs++news) (l++r).flatten:=by rw[List.flatten_append];exact G.append C
 have hvl:vs.length=l.length*i.size:=by rw[G.1,h1]
 have Y:=qfm (cap:=cap) (rows:=l++r) z (Ghost.at_same _ _ _) (Nat.le_of_eq hfl) F (by grind) (Z.quiet hd hq) (λj u hj=>by
  grind)
 rw[List.length_append]at Y;refine⟨_,_,_,p,hq,Y,λ_=> .inr ⟨b,cap,d,X,by simp,?_,z,?_,hcm,M⟩⟩;all_goals grind[Ghost.at_same,List.length_append]
theorem q6a {t es:Nat} {l:List (List D)} {v:Value} (h:UniOk g w t es l v):
  ∃base cap olds,v= .slice base l.length cap∧l.length<=cap∧(∀r∈l,r.length=es)∧RL g w olds l.flatten∧(Builtin.firstCells es l.length v).run P w.drew= .ok olds.toArray w.drew:=by
 rcases h with⟨z,rfl,rfl⟩|⟨b,cap,i,e,rfl,h2,h3,q,h5,h6,p,h8⟩
 ·refine⟨z,0,[],rfl,Nat.le_refl _,by simp,⟨by simp,by simp,by simp⟩,?_⟩;cases z with
  |none=>rfl
  |some a0=>grind[run_firstCells_some]
 ·have hfl:l.flatten.length=l.length*es:=xi p;have hrow:l.length*es<=cap*es:=Nat.mul_le_mul_right _ q;have m:(i.toList.take (l.length*es)).length=l.length*es:=by grind
  refine⟨_,cap,i.toList.take (l.length*es),rfl,q,p,⟨by omega,λd hd=> ?_,λj v d hv hd=> ?_⟩,?_⟩
  ·grind[List.getElem?_of_mem]
  ·grind
  ·refine run_firstCells_some (P:=P) w.drew es l.length _ _ _ _ m (λj u o=> ?_);rw[List.getElem?_take]at o;split at o
   ·rw[Addr.add_lit,Nat.zero_add];have h3':w.drew.heap[b]? =some (.cells i e (0,0)):=h3;grind[World.cell?]
   grind
theorem qhc {t u ty e:TypeId} {i:TypeInfo} {z:Value} (hd:Dom g w) (ht:P.underlying t=some (.slice e)) (hi:P.info? e=some i) (hz:i.zero=some z) (J:z.cells.size=i.size)
  (hu:(∃f,P.underlying u=some (.slice f))∨P.underlying u=some .string) (X:i.bytes≠0)
  {base:Option Addr} {sCap:Nat} {x:Value} {l r:List (List D)} {olds news:List Value} (F: ∀row∈l,row.length=i.size) (C:RL g w olds l.flatten)
  (M:(Builtin.firstCells i.size l.length (.slice base l.length sCap)).run P w.drew= .ok olds.toArray w.drew)
  (hl:(Builtin.lenOf x).run P w= .ok r.length w) (hx:(Builtin.firstCells i.size r.length x).run P w.drew= .ok news.toArray w.drew) (q:RL g w news r.flatten) (hes: ∀row∈r,row.length=i.size)
  (hn:sCap<l.length+r.length) (h63:l.length+r.length<=9223372036854775807) (U:(l.length+r.length)*i.bytes<=140737488355328) (I:Nat)
  (o: ∀t,T t->t∈live'->t∈live):
  ∃v w' g',(Builtin.append_ #[t,u] ty #[.slice base l.length sCap,x]).run P w= .ok v w'∧Qt T g w g' w' live live'∧RC g' w' live' v (.uni I i.size (l++r)):=by
 have hfit:Builtin.nextslicecap (l.length+r.length) sCap*i.bytes<=281474976710656:=growslice_fits (by omega) U;have p:=qb2 (P:=P) (w:=w) (ty:=ty) ht hi hz hu X base l.length sCap hl hx M hn hfit;have Y:Qt T g w (g.at w.heap.size (.uni I)) (w.drew.alloc (.cells (olds.toArray++news.toArray++Builtin.zeroCells z.cells (grownCap w (l.length+r.length) sCap e-(l.length+r.length))) e)) live live':=
  Qt.newUni hd w.drew rfl rfl rfl rfl _ I o
 have hge:=grownCap_ge w (l.length+r.length) sCap e;have R:=grownCap_le_maxLen w (l.length+r.length) sCap e (by grind[maxLen]);have G: ∀row∈l++r,row.length=i.size:=λrow hr=>by grind
 have E:(w.drew.alloc (.cells (olds.toArray++news.toArray++Builtin.zeroCells z.cells (grownCap w (l.length+r.length) sCap e-(l.length+r.length))) e)).heap[w.heap.size]? =some (.cells (olds.toArray++news.toArray++Builtin.zeroCells z.cells (grownCap w (l.length+r.length) sCap e-(l.length+r.length))) e (0,0)):=heap_alloc_new w.drew _;have m:RL g w (olds++news) (l++r).flatten:=by rw[List.flatten_append];exact C.append q
 have h:=m.quiet hd Y;refine⟨_,_,_,p,Y,⟨_,_,by rw[List.length_append]⟩,λ_=> .inr ⟨w.heap.size,_,_,e,by simp,Ghost.at_same _ _ _,E,?_,R,?_,G,λj d Z=> ?_⟩⟩
 ·grind
 ·have h1:olds.length=l.length*i.size:=by rw[C.1,xi F]
  have h2:news.length=r.length*i.size:=by rw[q.1,xi hes]
  simp only[Array.size_append,List.size_toArray,qd0,J,h1,h2,<- Nat.add_mul];grind
 ·have O:j<(olds++news).length:=by rw[m.1];grind
  refine⟨h.2.1 d (List.mem_of_getElem? Z),(olds++news)[j],?_,h.2.2 j _ d (List.getElem?_eq_getElem O) Z⟩;grind
theorem qm9 {t u ty e:TypeId} {i:TypeInfo} (hd:Dom g w) (ht:P.underlying t=some (.slice e)) (hi:P.info? e=some i)
  (hu:(∃f,P.underlying u=some (.slice f))∨P.underlying u=some .string)
  {b cap U:Nat} {p:Array Value} {X:TypeId} {x:Value} {l r:List (List D)} {news:List Value} (hesl: ∀row∈l,row.length=i.size)
  (R: ∀(j:Nat) (d:D),l.flatten[j]? =some d->d.isCell=true∧ ∃u,p[j]? =some u∧RV g w u d)
  (hg:g b= .uni U) (hh:w.heap[b]? =some (.cells p X (0,0))) (hcm:cap<=maxLen) (hcs:cap*i.size<=p.size)
  (hx:Source P i.size x r.length w news) (C:RL g w news r.flatten) (hes: ∀row∈r,row.length=i.size)
  (hn:l.length+r.length<=cap) (tk:Nat) (I: ∀t,T t->t∈live'->t∈live∧t≠U):
  ∃v w' g',(Builtin.append_ #[t,u] ty #[.slice (some ⟨b,0,none⟩) l.length cap,x]).run P w= .ok v w'∧Qt T g w g' w' live live'∧RC g' w' live' v (.uni tk i.size (l++r)):=by
 have q:=ya (P:=P) (w:=w) (ty:=ty) ht hi hu ⟨b,0,none⟩ l.length cap hx hn;have hesa: ∀row∈l++r,row.length=i.size:=λrow hr=>by grind
 have h1:l.flatten.length=l.length*i.size:=xi hesl;have h2:news.length=r.length*i.size:=by rw[C.1,xi hes]
 have Z: ∀v∈news,v.oneCell'=true:=by
  intro v hv;obtain⟨j,F⟩:=List.getElem?_of_mem hv;have E:j<r.flatten.length:=by rw[<- C.1];grind
  exact(C.2.2 j v _ F (List.getElem?_eq_getElem E)).oneCell (C.2.1 _ (List.getElem_mem E))
 have hsz:(l.length+r.length)*i.size<=cap*i.size:=Nat.mul_le_mul_right _ hn;rw[Nat.add_mul]at hsz;have hst:=run_storeCells_at P b (l.length*i.size) X news 0 p w hh (by omega) Z;rw[Addr.add_lit,Nat.zero_add]at q;rw[hst]at q;simp only[Nat.add_zero,Result.andThen_ok]at q;generalize O:(p.toList.take (l.length*i.size)++news++p.toList.drop (l.length*i.size+news.length)).toArray=o at q;have hb:b<w.heap.size:=hd.lt_uni hg;have M:(w.setRow b o).heap[b]? =some (.cells o X (0,0)):=setRow_heap w b p o X (0,0) hh;have hother: ∀k,k≠b->(w.setRow b o).heap[k]? =w.heap[k]? :=λk G=>setRow_other w b k o G;have hsize:(w.setRow b o).heap.size=w.heap.size:=by simp
 have J:cap*i.size<=o.size:=by
  grind
 have hkeep: ∀j,j<l.length*i.size->o[j]? =p[j]? :=by
  grind
 have Y: ∀(j:Nat) (v:Value),news[j]? =some v->o[l.length*i.size+j]? =some v:=by
  intro j v F;have E:j<news.length:=(List.getElem?_eq_some_iff.1 F).1;have hle:(p.toList.take (l.length*i.size)).length=l.length*i.size:=by grind
  rw[<- O];simp only[List.getElem?_toArray,List.append_assoc];simp_all[List.getElem?_append_right,Nat.add_sub_cancel_left,List.getElem?_append_left]
 have hq:Qt T g w (g.at b (.uni tk)) (w.setRow b o) live live':=by
  have hgo: ∀k,k≠b->g.at b (.uni tk) k=g k:=λk G=>Ghost.at_ne g _ G;refine⟨⟨rfl,rfl,rfl,by omega,λk G z=> ?_,λk m G z=> ?_,λk m t' G z=> ?_,λk id G z=> ?_⟩,⟨λk G=> ?_,hd.2.same λk m G z=>by grind⟩,λk id z=> ?_,λk id z=> ?_,λk m t' htb htl z=> ?_,λt' h h'=>(I t' h h').1,λk t' htb htl z=> ?_⟩
  ·grind
  ·grind
  ·have hkb:k≠b:=by grind
   exact⟨m,some t',by grind,Nat.le_refl _,λj v _ hv=>by grind[jw]⟩
  ·have:k≠b:=by grind
   grind[Nat.le_of_eq,jf]
  ·have:k≠b:=by omega
   rw[hgo k this];exact hd.1 k (by omega)
  ·grind
  ·have:k≠b:=by rintro rfl;grind[Ghost.at_same]
   grind
  all_goals grind
 refine⟨_,_,_,q,hq,⟨_,_,by rw[List.length_append]⟩,λ_=> .inr ⟨b,cap,o,X,by simp,Ghost.at_same _ _ _,M,by grind,hcm,J,hesa,λj d F=> ?_⟩⟩;rw[List.flatten_append]at F;by_cases hjl:j<l.flatten.length
 ·rw[List.getElem?_append_left hjl]at F;obtain⟨c1,u,c2,c3⟩:=R j d F;exact⟨c1,u,by grind,hq.rv hd c3⟩
 ·rw[List.getElem?_append_right (by omega)]at F;have E:j-l.flatten.length<news.length:=by rw[C.1];grind
  have:=Y (j-l.flatten.length) _ (List.getElem?_eq_getElem E);rw[show l.length*i.size+(j-l.flatten.length)=j by omega]at this;exact⟨C.2.1 d (List.mem_of_getElem? F),_,this,hq.rv hd (C.2.2 _ _ d (List.getElem?_eq_getElem E) F)⟩
def qs (live:List Nat) (o:Out):List Nat:=(live.filter λt=> !o.cons.contains t)++o.iss
theorem jl {live:List Nat} {o:Out} {t:Nat}:t∈qs live o↔(t∈live∧t∉o.cons)∨t∈o.iss:=by
 simp[qs]
theorem qpj {t u e:TypeId} {s x:Operand} {s' x':Opd} {i:TypeInfo} {z:List D} (ho:oper.op= .call {callee:= .builtin .append,args:= #[s,x],argTypes:= #[t,u]})
  (ht:P.underlying t=some (.slice e)) (hi:P.info? e=some i) (hz:jg P e=some z) (hsz:i.size=z.length) (hb:0<i.bytes)
  (hu:(∃f,P.underlying u=some (.slice f))∨P.underlying u=some .string) (hs':qt s=some s') (hx':qt x=some x') (hs:SR N T g w st a) (hfr:Fresh T tb)
  (J:(sem tb (.append false i.size i.bytes s' x') st).ob) (R: ∀t∈(sem tb (.append false i.size i.bytes s' x') st).cons,t∈st.live):
  ∃v w' g',(execOp a.eval oper).run P w= .ok (.value v) w'∧Qt T g w g' w' st.live (qs st.live (sem tb (.append false i.size i.bytes s' x') st))∧
   RS g' w' (qs st.live (sem tb (.append false i.size i.bytes s' x') st)) v (sem tb (.append false i.size i.bytes s' x') st).v:=by
 simp only[sem]at J R⊢;obtain⟨o1,o2,J⟩:=J;have rs:=xe hs hs' o1;have rx:=xe hs hx' o2;obtain⟨i',zv,hi',hzv,hzm⟩:=ko hz;rw[hi]at hi';cases hi';have hzs:zv.cells.size=i.size:=by have:=(jz hzm).1;grind
 unfold jx at J R⊢;cases hsrc:y7 i.size st.os (x'.get st.fr)with
 |none=>grind[Out.bad]
 |some rr=>
  obtain⟨r,rdd,rok⟩:=rr;cases hrow:(s'.get st.fr).rows with
  |none=>grind[Out.bad]
  |some p=>
   obtain⟨e0,l⟩:=p;simp only[hsrc,hrow]at J R⊢;obtain⟨hrok,he,E,hby,h63⟩:=J;obtain⟨hes,news,hrl,m,X,_⟩:=qfl (P:=P) hs rx hsrc hrok;have C:=xho (qjd rs hrow) he;obtain⟨base,cap,hv⟩:=qj9 C;have hcap:l.length<=cap:=by
    rcases qsk C with⟨h,rfl⟩|⟨b,off,c,n,o,f,h,_,_,hc,_⟩;all_goals grind
   rw[hv]at C rs;have U: ∀v w',(Builtin.append_ #[t,u] oper.type #[.slice base l.length cap,a.eval x]).run P w= .ok v w'->(execOp a.eval oper).run P w= .ok (.value v) w':=by
    simp_all[execOp,resolve,invoke,builtin]
   have more: ∀(live':List Nat),(∀t,T t->t∈live'->t∈st.live) ->cap<l.length+r.length->
     ∃v w' g',(execOp a.eval oper).run P w= .ok (.value v) w'∧Qt T g w g' w' st.live live'∧RS g' w' live' v (.own tb i.size (l++r)):=by
    intro live' I hn;obtain⟨v,w',g',h1,h2,h3⟩:=q29 (P:=P) (ty:=oper.type) hs.dom ht hi hzv hzs hu (by omega) C m.1 X hrl hes hn h63 hby tb I;exact⟨v,w',g',U v w' h1,h2,h3⟩
   have q: ∀(live':List Nat),(∀t,T t->t∈live'->t∈st.live) ->cap=l.length-> ¬cap<l.length+r.length->
     ∃v w' g',(execOp a.eval oper).run P w= .ok (.value v) w'∧Qt T g w g' w' st.live live'∧RS g' w' live' v (.own tb i.size (l++r)):=by
    intro live' I hce hn;have hr0:r= []:=List.eq_nil_of_length_eq_zero (by omega);subst hr0;have hnews:news= []:=by have:=hrl.1;grind
    subst hnews;refine⟨.slice base l.length cap,w,g,U _ _ ?_,⟨G.refl g w,hs.dom,λ_ _ _=>rfl,λ_ _ h=>h,λ_ _ _ _ _ h=>⟨h,rfl⟩,I,λ_ _ _ _ h=>⟨h,rfl⟩⟩,?_⟩
    ·cases base with
     |none=>
      have:=qcj (P:=P) (ty:=oper.type) ht hi hu l.length cap m (by omega);omega
     |some ad=>
      have:=ya (P:=P) (ty:=oper.type) ht hi hu ad l.length cap m (by omega);simp_all[storeCells]
    ·rw[List.append_nil];exact⟨C,λ_=> .inl ⟨base,by rw[hce]⟩⟩
   cases hk:s'.get st.fr with
   |own t0 e1 l1=>
    rw[hk]at hrow E rs R;have hlv0:t0∈st.live:=R t0 (by simp[qbt]);simp only[ASlot.rows,Option.some.injEq,Prod.mk.injEq]at hrow;obtain⟨rfl,rfl⟩:=hrow;simp only[qbt];have I: ∀(Y:ASlot) (Z:Prop),∀t,T t->t∈qs st.live {v:=Y,ob:=Z,rd:=rdd,cons:= [t0],iss:= [tb]} ->t∈st.live∧t≠t0:=by
     intro Y Z t O M;rcases jl.1 M with⟨h1,h2⟩|h
     ·grind
     ·simp at h;exact(hfr.ne O h).elim
    rcases rs.2 hlv0 with⟨ad,F⟩|⟨b,c,cur,te,hval,hg,hh,hle,hcm,hcs⟩
    ·cases F;by_cases hn:l1.length<l1.length+r.length
     ·exact more _ (λt h h'=>(I _ _ t h h').1) hn
     ·exact q _ (λt h h'=>(I _ _ t h h').1) rfl hn
    ·cases hval;by_cases hn:cap<l1.length+r.length
     ·exact more _ (λt h h'=>(I _ _ t h h').1) hn
     ·have hes1:=E;subst hes1;obtain⟨v,w',g',q1,q2,q3⟩:=q3a (P:=P) (ty:=oper.type) hs.dom ht hi hu C hg hh hcm hcs m hrl hes (by grind) tb (I _ _);exact⟨v,w',g',U v w' q1,q2,q3⟩
   |full e1 l1=>
    rw[hk]at hrow E rs;simp only[ASlot.rows,Option.some.injEq,Prod.mk.injEq]at hrow;obtain⟨rfl,rfl⟩:=hrow;simp only[qbt];obtain⟨ad,F⟩:=rs.2;cases F;have I: ∀(Y:ASlot) (Z:Prop),∀t,T t->t∈qs st.live {v:=Y,ob:=Z,rd:=rdd,cons:= [],iss:= [tb]} ->t∈st.live:=by
     intro Y Z t O M;rcases jl.1 M with⟨h1,h2⟩|h
     ·exact h1
     ·simp at h;exact(hfr.ne O h).elim
    by_cases hn:l1.length<l1.length+r.length
    ·exact more _ (I _ _) hn
    ·exact q _ (I _ _) rfl hn
   |d x=>
    rw[hk]at hrow E rs;cases x<;>first|grind|skip
    simp only[ASlot.rows,Option.some.injEq,Prod.mk.injEq]at hrow;obtain⟨rfl,rfl⟩:=hrow;simp only[qbt];have I: ∀(Y:ASlot) (Z:Prop),∀t,T t->t∈qs st.live {v:=Y,ob:=Z,rd:=rdd,cons:= [],iss:= [tb]} ->t∈st.live:=by
     intro Y Z t O M;rcases jl.1 M with⟨h1,h2⟩|h
     ·exact h1
     ·simp at h;exact(hfr.ne O h).elim
    have hcap0:cap=0:=by
     have rs':RV g w (.slice base 0 cap) .nilsl:=rs;generalize hx0:Value.slice base 0 cap=u0 at rs';generalize hy0:D.nilsl=y0 at rs';cases rs'<;>first|grind|grind
    by_cases hn:cap<([]:List (List D)).length+r.length
    ·exact more _ (I _ _) hn
    ·exact q _ (I _ _) (by omega) hn
   | _=>grind
theorem qpk {t u e:TypeId} {s x:Operand} {s' x':Opd} {i:TypeInfo} {z:List D} (ho:oper.op= .call {callee:= .builtin .append,args:= #[s,x],argTypes:= #[t,u]})
  (ht:P.underlying t=some (.slice e)) (hi:P.info? e=some i) (hz:jg P e=some z) (hsz:i.size=z.length) (hb:0<i.bytes)
  (hu:(∃f,P.underlying u=some (.slice f))∨P.underlying u=some .string) (hs':qt s=some s') (hx':qt x=some x') (hs:SR N T g w st a) (hfr:Fresh T tb)
  (p:(sem tb (.append true i.size i.bytes s' x') st).ob) (C: ∀t∈(sem tb (.append true i.size i.bytes s' x') st).cons,t∈st.live):
  ∃v w' g',(execOp a.eval oper).run P w= .ok (.value v) w'∧Qt T g w g' w' st.live (qs st.live (sem tb (.append true i.size i.bytes s' x') st))∧
   RS g' w' (qs st.live (sem tb (.append true i.size i.bytes s' x') st)) v (sem tb (.append true i.size i.bytes s' x') st).v:=by
 simp only[sem]at p C⊢;obtain⟨o1,o2,p⟩:=p;have rs:=xe hs hs' o1;have rx:=xe hs hx' o2;obtain⟨i',zv,hi',hzv,hzm⟩:=ko hz;rw[hi]at hi';cases hi';have hzs:zv.cells.size=i.size:=by have:=(jz hzm).1;grind
 unfold jx at p C⊢;cases hsrc:y7 i.size st.os (x'.get st.fr)with
 |none=>grind[Out.bad]
 |some rr=>
  obtain⟨r,rdd,rok⟩:=rr;simp only[hsrc]at p C⊢;have F: ∀(base:Option Addr) (n cap:Nat) v w',a.eval s= .slice base n cap->(Builtin.append_ #[t,u] oper.type #[.slice base n cap,a.eval x]).run P w= .ok v w'->(execOp a.eval oper).run P w= .ok (.value v) w':=by
   simp_all[execOp,resolve,invoke,builtin]
  have E: ∀(M:Option Addr) (live':List Nat),a.eval s= .slice M 0 0->rok->r.length*i.bytes<=140737488355328->r.length<=9223372036854775807->(∀t,T t->t∈live'->t∈st.live) ->
    ∃v w' g',(execOp a.eval oper).run P w= .ok (.value v) w'∧Qt T g w g' w' st.live live'∧RS g' w' live' v (.uni tb i.size r):=by
   intro M live' O o I J hl;obtain⟨hes,news,X,m,q,_⟩:=qfl (P:=P) hs rx hsrc o;have hfc:(Builtin.firstCells i.size 0 (.slice M 0 0)).run P w.drew= .ok #[] w.drew:=by
    cases M with
    |none=>rfl
    |some a0=>grind[run_firstCells_some]
   by_cases hn:0<r.length
   ·obtain⟨v,w',g',h1,h2,h3⟩:=qhc (P:=P) (ty:=oper.type) (l:= []) (olds:= []) hs.dom ht hi hzv hzs hu (by omega) (by simp) ⟨by simp,by simp,by simp⟩ hfc m.1 q X hes (by grind) (by grind) (by grind) tb hl;exact⟨v,w',g',F _ _ _ v w' O h1,h2,h3⟩
   ·have hr0:r= []:=List.eq_nil_of_length_eq_zero (by omega);subst hr0;refine⟨.slice M 0 0,w,g,F _ _ _ _ _ O ?_,⟨G.refl g w,hs.dom,λ_ _ _=>rfl,λ_ _ h=>h,λ_ _ _ _ _ h=>⟨h,rfl⟩,hl,λ_ _ _ _ h=>⟨h,rfl⟩⟩,⟨M,0,rfl⟩,λ_=> .inl ⟨M,rfl,rfl⟩⟩;have hnews:news= []:=by have:=X.1;grind
    subst hnews;cases M with
    |none=>
     have:=qcj (P:=P) (ty:=oper.type) ht hi hu 0 0 m (by simp);omega
    |some M=>
     have:=ya (P:=P) (ty:=oper.type) ht hi hu M 0 0 m (by simp);simp_all[storeCells]
  cases hk:s'.get st.fr with
  |uni t0 e1 l=>
   rw[hk]at rs;simp only[hk,qah]at p C⊢;obtain⟨o,rfl,I,J⟩:=p;have hlv0:t0∈st.live:=C t0 (by simp);have hl: ∀(vv:ASlot) (oo:Prop),∀t,T t->t∈qs st.live {v:=vv,ob:=oo,rd:=rdd,cons:= [t0],iss:= [tb]} ->t∈st.live∧t≠t0:=by
    intro vv oo t U R;rcases jl.1 R with⟨h1,h2⟩|h
    ·grind
    ·simp at h;exact(hfr.ne U h).elim
   obtain⟨hes,news,X,m,q,_⟩:=qfl (P:=P) hs rx hsrc o;have hu0:=rs.2 hlv0;obtain⟨base,cap,olds,O,hcap,Z,ho1,ho2⟩:=q6a (P:=P) hu0;rw[O]at ho2;by_cases hn:cap<l.length+r.length
   ·obtain⟨v,w',g',h1,h2,h3⟩:=qhc (P:=P) (ty:=oper.type) hs.dom ht hi hzv hzs hu (by omega) Z ho1 ho2 m.1 q X hes hn J I tb (λt h h'=>(hl _ _ t h h').1);exact⟨v,w',g',F _ _ _ v w' O h1,h2,h3⟩
   ·rcases hu0 with⟨M,hv2,rfl⟩|⟨b,c,cur,te,Y,hg,hh,hle,hcm,hcs,hes1,hcell⟩
    ·rw[O]at hv2;cases hv2;have hr0:r= []:=List.eq_nil_of_length_eq_zero (by omega);subst hr0;exact E base _ O o (by simp) (by simp) (λt h h'=>(hl _ _ t h h').1)
    ·rw[Y]at O;cases O;obtain⟨v,w',g',q1,q2,q3⟩:=qm9 (P:=P) (ty:=oper.type) hs.dom ht hi hu Z hcell hg hh hcm hcs m X hes (by grind) tb (hl _ _);exact⟨v,w',g',F _ _ _ v w' Y q1,q2,q3⟩
  |full e1 l=>
   rw[hk]at rs;simp only[hk,qah]at p C⊢;obtain⟨o,rfl,I,J⟩:=p;obtain⟨M,hfull⟩:=rs.2;exact E M _ hfull o I J (λt U R=>by
    rcases jl.1 R with⟨h1,h2⟩|h
    ·exact h1
    ·simp at h;exact(hfr.ne U h).elim)
  |d y=>
   rw[hk]at rs;cases y with
   |nilsl=>
    simp only[hk,qah]at p C⊢;obtain⟨o,I,J⟩:=p;have O:a.eval s= .slice none 0 0:=by
     have rs':RV g w (a.eval s) .nilsl:=rs;generalize a.eval s=u0 at rs';cases rs';rfl
    exact E none _ O o I J (λt U R=>by
     rcases jl.1 R with⟨h1,h2⟩|h
     ·exact h1
     ·simp at h;exact(hfr.ne U h).elim)
   | _=>grind[qah,Out.bad]
  | _=>grind[qah,Out.bad]
end
section
variable {P:Program} {N tb:Nat} {T:Nat→Prop} {g:Ghost} {w:World} {st:St} {a:Act} {oper:Oper} {live live':List Nat}
theorem qna: ∀(ps:List (Nat×List D)) (z:List D),(∀p∈ps,p.1+p.2.length<=z.length) ->(qo4 z ps).length=z.length
 | [],z,_=>rfl
 |(off,cs)::ps,z,h=>by
  have h0:=h (off,cs) (by simp);have d:(z.take off++cs++z.drop (off+cs.length)).length=z.length:=by simp at h0⊢;omega
  simp only[qo4];rw[qna ps _ (λp hp=>by rw[d];exact h p (by simp[hp])),d]
theorem qlw {zv:Value} {z:List D} (hm:zv.cells.toList.mapM qcf=some z): ∀(n k:Nat),k=zv.cells.size->0<k->
  RL g w ((Array.range (n*k)).map (zv.cells[· %zv.cells.size]!)).toList (List.replicate n z).flatten:=by
 intro n k E F;have m:RL g w zv.cells.toList z:=RL.consts hm;have l:z.length=k:=by have:=m.1;simp at this;omega
 have q:(List.replicate n z).flatten.length=n*k:=by simp[l]
 have i: ∀j,j<n*k->(List.replicate n z).flatten[j]? =z[j%k]? :=by
  intro j p;have hes: ∀r∈List.replicate n z,r.length=k:=by intro r hr;rw[jEw hr,l]
  have t:j/k<n:=Nat.div_lt_of_lt_mul (by rw[jDx];exact p);have e:j%k<k:=jC3 _ F;have o:(List.replicate n z).getD (j/k) []=z:=by simp[List.getD,t]
  have:=qpa hes (j/k) (j%k) z[j%k] (by rw[o];exact jAa (by omega));rw[show j/k*k+j%k=j by rw[jDx];exact Nat.div_add_mod j k]at this;rw[this,jAa (by omega)]
 refine⟨by simp[l],?_,?_⟩
 ·intro d u;obtain⟨j,p⟩:=jBh u;have h:j<n*k:=by rw[<- q];exact(jAd.1 p).1
  rw[i j h]at p;exact m.2.1 d (jAe p)
 ·intro j v d C u;have h:j<n*k:=by rw[<- q];exact(jAd.1 u).1
  rw[i j h]at u;have e:j%k<zv.cells.size:=by rw[<- E];exact jC3 _ F
  simp[h,<- E]at C;have:zv.cells[j%k]! =zv.cells[j%k]'e:=by simp[e]
  rw[this]at C;exact m.2.2 (j%k) v d (by subst C;simp) u
theorem qkf {t e:TypeId} {l c:Operand} {i:TypeInfo} {zv:Value} {k1 k2:IntKind} {n m:Int} (I:oper.op= .makeSlice t l c) (G:P.underlying t=some (.slice e)) (hi:P.info? e=some i) (q:i.zero=some zv) (h0:0<i.size)
  (M:a.eval l= .int k1 n) (J:a.eval c= .int k2 m) (o3:0<=n) (o4:n<=m) (o5:m<=9223372036854775807) (o6:m*i.bytes<=281474976710656):
  (execOp a.eval oper).run P w= .ok (.value (.slice (some ⟨w.heap.size,0,none⟩) n.toNat m.toNat)) (w.alloc (.cells ((Array.range (m.toNat*i.size)).map (zv.cells[· %zv.cells.size]!)) e)):=by
 have w1:IntKind.i64.wrap n=n:=by rw[IntKind.wrap_i64];omega
 have v:IntKind.i64.wrap m=m:=by rw[IntKind.wrap_i64];omega
 have hmul:((m.toNat*i.bytes:Nat):Int)=m*i.bytes:=by rw[Int.natCast_mul];congr 1;omega
 generalize d:(Array.range (m.toNat*i.size)).map (zv.cells[· %zv.cells.size]!)=cells;have o:m.toNat*i.size=0->cells= #[]:=by intro h;rw[<- d,h];simp[Array.range_zero']
 have F: ¬(281474976710656<(i.bytes:Int)*m):=by rw[Int.mul_comm];omega
 have E: ¬(m<0):=by omega
 have C: ¬(n<0):=by omega
 have t4: ¬(n>m):=by omega
 have z: ¬(m<n):=by omega
 by_cases p:m.toNat*i.size=0
 ·have u:m.toNat=0:=by rcases Nat.mul_eq_zero.1 p with h|h;exact h;omega
  simp[execOp,I,Instr.makeSlice,run_underlying G,M,J,asInt,asIntOf,typeInfo,hi,w1,v,F,E,C,z,qz hi,u,newRow,o p,Array.range_zero']
 ·simp[execOp,I,Instr.makeSlice,run_underlying G,M,J,asInt,asIntOf,typeInfo,hi,w1,v,F,E,C,z,qz hi,newRow,zeroValue,q,d];exact λh=>(p h).elim
theorem qtc {zv:Value} {n m:Int} {k:Nat} (o4:n<=m): ∀(j:Nat) (v:Value),((Array.range (n.toNat*k)).map (zv.cells[· %zv.cells.size]!)).toList[j]? =some v->((Array.range (m.toNat*k)).map (zv.cells[· %zv.cells.size]!))[j]? =some v:=λj v h=>by
 have e:j<n.toNat*k:=by have:=(jAd.1 h).1;simpa using this
 have d:j<m.toNat*k:=by
  have:n.toNat*k<=m.toNat*k:=jAy _ (by omega);omega
 simp[e]at h;simp[d,h]
theorem qso {u:Bool} {t e:TypeId} {l c:Operand} {l' c':Opd} {i:TypeInfo} {z:List D} (ho:oper.op= .makeSlice t l c) (ht:P.underlying t=some (.slice e)) (hi:P.info? e=some i) (hz:jg P e=some z)
  (R:i.size=z.length) (h0:0<i.size) (hl':qt l=some l') (hc':qt c=some c') (hs:SR N T g w st a) (hfr:Fresh T tb)
  (o:(sem tb (.makeSlice u i.size i.bytes z l' c') st).ob):
  ∃v w' g',(execOp a.eval oper).run P w= .ok (.value v) w'∧Qt T g w g' w' st.live (qs st.live (sem tb (.makeSlice u i.size i.bytes z l' c') st))∧
   RS g' w' (qs st.live (sem tb (.makeSlice u i.size i.bytes z l' c') st)) v (sem tb (.makeSlice u i.size i.bytes z l' c') st).v:=by
 simp only[sem]at o⊢;obtain⟨i',zv,Z,hzv,O⟩:=ko hz;rw[hi]at Z;cases Z;have hzs:i.size=zv.cells.size:=by have:=(jz O).1;rw[R];simpa using this.symm
 cases G:l'.get st.fr with
 |d p=>
  cases p with
  |int k1 n=>
   cases h2:c'.get st.fr with
   |d q=>
    cases q with
    |int k2 m=>
     simp only[G,h2]at o⊢;obtain⟨o1,o2,o3,o4,o5,o6⟩:=o;have r1:=xe hs hl' o1;have r2:=xe hs hc' o2;rw[G]at r1;rw[h2]at r2;have e1:=ky (wg r1);have e2:=ky (wg r2);have C:=qkf (P:=P) (w:=w) ho ht hi hzv h0 e1 e2 o3 o4 o5 o6;have F:=qtc (zv:=zv) (k:=i.size) o4;have J:((Array.range (m.toNat*i.size)).map (zv.cells[· %zv.cells.size]!)).size=m.toNat*i.size:=by simp
     generalize (Array.range (m.toNat*i.size)).map (zv.cells[· %zv.cells.size]!)=cells at C F J;have E:(w.alloc (.cells cells e)).heap[w.heap.size]? =some (.cells cells e (0,0)):=heap_alloc_new w _;have hcs:cells.size=m.toNat*i.size:=J;have M:=qlw (g:=g) (w:=w) O n.toNat i.size hzs h0;have hes: ∀r∈List.replicate n.toNat z,r.length=i.size:=by intro r hr;rw[jEw hr,R]
     have hfl:(List.replicate n.toNat z).flatten.length=n.toNat*i.size:=by rw[xi hes];simp
     have hl: ∀(vv:ASlot) (oo:Prop),∀t,T t->t∈qs st.live {v:=vv,ob:=oo,iss:= [tb]} ->t∈st.live:=λvv oo t h h'=>by
      rcases jl.1 h' with⟨G,_⟩|G
      ·exact G
      ·simp at G;exact(hfr.ne h G).elim
     cases u with
     |false=>
      have X:=Qt.newRow hs.dom w rfl rfl rfl rfl (.cells cells e) (n.toNat*i.size) (some tb) (hl (ASlot.own tb i.size (List.replicate n.toNat z)) (l'.ok st.fr=true∧c'.ok st.fr=true∧0<=n∧n<=m∧m<=9223372036854775807∧m*i.bytes<=281474976710656));have U:=qfm (cap:=m.toNat) (rows:=List.replicate n.toNat z) E (Ghost.at_same _ _ _) (jBt hfl) hes (by simp;omega) (M.quiet hs.dom X) F;rw[jBp]at U;refine⟨_,_,_,C,X,U,λ_=> .inr ⟨w.heap.size,_,_,e,by rw[jBp],?_,E,?_,?_,jBt hcs.symm⟩⟩
      ·rw[Ghost.at_same,jBp]
      ·rw[jBp];omega
      ·unfold maxLen;omega
     |true=>
      have X:=Qt.newUni hs.dom w rfl rfl rfl rfl (.cells cells e) tb (hl (ASlot.uni tb i.size (List.replicate n.toNat z)) (l'.ok st.fr=true∧c'.ok st.fr=true∧0<=n∧n<=m∧m<=9223372036854775807∧m*i.bytes<=281474976710656));have I:=M.quiet hs.dom X;refine⟨_,_,_,C,X,⟨_,_,by rw[jBp]⟩,λ_=> .inr ⟨w.heap.size,_,_,e,by rw[jBp],Ghost.at_same _ _ _,E,?_,?_,jBt hcs.symm,hes,λj d hj=> ?_⟩⟩
      ·rw[jBp];omega
      ·unfold maxLen;omega
      ·have Y:j<((Array.range (n.toNat*i.size)).map (zv.cells[· %zv.cells.size]!)).toList.length:=by rw[M.1];exact(jAd.1 hj).1
       exact⟨I.2.1 d (jAe hj),_,F j _ (jAa Y),I.2.2 j _ d (jAa Y) hj⟩
    | _=>simp[G,h2,Out.bad]at o
   | _=>simp[G,h2,Out.bad]at o
  | _=>simp[G,Out.bad]at o
 | _=>simp[G,Out.bad]at o
theorem xhp {s t e:TypeId} {x:Operand} {y:Opd} (ho:oper.op= .convert s t x) (E:P.underlying s=some .string) (J:P.underlying t=some (.slice e)) (he:P.underlying e=some (.int .u8)) (hx:qt x=some y) (hs:SR N T g w st a)
  (m:(sem tb (.s2b y) st).ob):
  ∃v w' g',(execOp a.eval oper).run P w= .ok (.value v) w'∧Qt T g w g' w' st.live (qs st.live (sem tb (.s2b y) st))∧RS g' w' (qs st.live (sem tb (.s2b y) st)) v (sem tb (.s2b y) st).v:=by
 simp only[sem]at m⊢;cases O:y.get st.fr with
 |d p=>
  cases p with
  |str l=>
   simp only[O]at m⊢;have r1:=xe hs hx m;rw[O]at r1;have hv:=qcg (wg r1);generalize hc:(Question.appendCap l.length 0 e).cut (w.tape w.drawn (.appendCap l.length 0 e))=cap;have hge:l.length<=cap:=by rw[<- hc];simp[Question.cut]
   generalize i:(l.map λb=>Value.int .u8 b.toNat).toArray++Array.replicate (cap-l.length) (Value.int .u8 0)=cells;have hcs:cells.size=cap:=by rw[<- i];simp;omega
   have z: ∀(h:Array Obj),(h.push (.cells cells e)).modify h.size (fun| .cells c R (lo,hi)=> .cells c R (if lo==hi then(cap,cap+1)else(min lo cap,max hi (cap+1)))|o=>o)=h.push (.cells cells e (cap,cap+1)):=by
    intro h;apply Array.ext
    ·simp
    ·intro j O h2;simp only[Array.getElem_modify,Array.getElem_push];by_cases U:j<h.size
     ·have:h.size≠j:=by omega
      simp[U,this]
     ·have:h.size=j:=by simp at h2;omega
      subst this;simp
   have G:(execOp a.eval oper).run P w= .ok (.value (.slice (some ⟨w.heap.size,0,none⟩) l.length cap)) (w.drew.alloc (.cells cells e (cap,cap+1))):=by
    have q:(markStringish ⟨w.heap.size,0,none⟩).run P (w.drew.alloc (.cells cells e))= .ok () (w.drew.alloc (.cells cells e (cap,cap+1))):=by
     have Y:(w.drew.alloc (.cells cells e)).shape? w.heap.size=some (e,cap):=by
      have:(w.drew.alloc (.cells cells e)).heap[w.heap.size]? =some (.cells cells e (0,0)):=heap_alloc_new w.drew _;unfold World.shape?;rw[this];simp[hcs]
     have hfr:(w.drew.alloc (.cells cells e)).freeze ⟨w.heap.size,cap,none⟩ 1=w.drew.alloc (.cells cells e (cap,cap+1)):=by
      unfold World.freeze;rw[if_neg (by omega)];have:=z w.heap;simp only[World.alloc,World.drew]at this⊢;rw[<- this];rfl
     simp only[markStringish,Sem.run_bind,run_shape,Y,Result.andThen_ok,run_freeze,hfr]
    have C:Array.map (λb:UInt8=>Value.int IntKind.u8 (b.toNat:Int)) (⟨l.toArray⟩:ByteArray).data=(l.map λb=>Value.int .u8 b.toNat).toArray:=by simp
    have X:(⟨l.toArray⟩:ByteArray).size=l.length:=qpb l;simp only[execOp,ho,hv,convert,Sem.run_bind,run_underlying E,run_underlying J,run_underlying he,Result.andThen_ok,Conv.stringToBytes,X,C,newRow];rw[run_choose];simp[Question.forced,hc,i,q]
   have I:(w.drew.alloc (.cells cells e (cap,cap+1))).heap[w.heap.size]? =some (.cells cells e (cap,cap+1)):=heap_alloc_new w.drew _;have hl:qs st.live {v:=ASlot.d (.sl 1 (qe l)),ob:=y.ok st.fr=true}=st.live:=by simp[qs]
   have hq:Qt T g w (g.at w.heap.size (.row l.length none)) (w.drew.alloc (.cells cells e (cap,cap+1))) st.live
     (qs st.live {v:=ASlot.d (.sl 1 (qe l)),ob:=y.ok st.fr=true}):=by
    rw[hl];exact Qt.newRow hs.dom w.drew rfl rfl rfl rfl _ _ _ (λ_ _ h=>h)
   have hes: ∀r∈qe l,r.length=1:=by simp[qe]
   have hbl:(qe l).length=l.length:=by simp[qe]
   have hfl:(qe l).flatten.length=l.length:=by rw[qar];simp
   have Z:RL g w (l.map λb=>Value.int .u8 b.toNat) (qe l).flatten:=by
    rw[qar];refine⟨by simp,λd C=>by obtain⟨c,_,rfl⟩:=jAo.1 C;rfl,λj u d hu C=> ?_⟩;simp only[jAn,jAb]at hu C;obtain⟨c,hc,rfl⟩:=hu;obtain⟨c',M,rfl⟩:=C;rw[hc]at M;cases M;exact .int _ _
   have F:=qfm (cap:=cap) (rows:=qe l) I (Ghost.at_same _ _ _) (jBt hfl) hes (by omega) (Z.quiet hs.dom hq) (λj u U=>by
    have hlt:j<(l.map λb=>Value.int .u8 b.toNat).length:=(jAd.1 U).1;rw[<- i,Array.getElem?_append_left (by simpa using hlt)];simpa using U)
   rw[hbl]at F;exact⟨_,_,_,G,hq,F⟩
  | _=>simp[O,Out.bad]at m
 | _=>simp[O,Out.bad]at m
end
section
variable {P:Program} {N tb:Nat} {T:Nat→Prop} {g:Ghost} {w:World} {st:St} {a:Act} {oper:Oper} {live live':List Nat}
theorem qpl {u:Bool} {t e:TypeId} {len:Nat} {m:Array (Nat×Operand)} {i:TypeInfo} {z:List D} {ps:List (Nat×Nat×Opd)} (ho:oper.op= .buildSlice t len m) (ht:P.underlying t=some (.slice e)) (hi:P.info? e=some i)
  (hz:jg P e=some z) (hp:partsOf P t m.toList=some ps) (hsz:i.size=z.length) (h0:0<i.size) (hlim:len*i.size<=16777216) (hs:SR N T g w st a) (hfr:Fresh T tb)
  (o:(sem tb (.buildSlice u i.size len z ps) st).ob):
  ∃v w' g',(execOp a.eval oper).run P w= .ok (.value v) w'∧Qt T g w g' w' st.live (qs st.live (sem tb (.buildSlice u i.size len z ps) st))∧
   RS g' w' (qs st.live (sem tb (.buildSlice u i.size len z ps) st)) v (sem tb (.buildSlice u i.size len z ps) st).v:=by
 simp only[sem]at o⊢;obtain⟨o,hob1⟩:=o;obtain⟨i',zv,hi',hzv,hzm⟩:=ko hz;rw[hi]at hi';cases hi';have hzs:i.size=zv.cells.size:=by have:=(jz hzm).1;rw[hsz];simpa using this.symm
 obtain⟨l1,l2⟩:=qyz (P:=P) hs hp (len*i.size) o;have G:=qlw (g:=g) (w:=w) hzm len i.size hzs h0;have M:(List.replicate len z).flatten.length=len*i.size:=by have:=G.1;simpa using this.symm
 obtain⟨l,f1,f2⟩:=qok (g:=g) (w:=w) (λj=>some (j*i.size,i.size)) _ _ _ _ G l1 (λk p q hk C=>by
  obtain⟨a1,a2,a3⟩:=l2 k p q hk C;refine⟨?_,a2,by rw[M];exact a3⟩;simp only[qlt,ht,hi,Option.map_some]at a1;exact a1)
 generalize hds:qo4 (List.replicate len z).flatten (ps.map λp=>(p.1,(p.2.2.get st.fr).dCells))=Y at f2⊢;have hdl:Y.length=len*i.size:=by
  rw[<- hds,qna,M];intro p hp';obtain⟨q,C,rfl⟩:=jAo.1 hp';obtain⟨_,_,o3,o4⟩:=o q C;simp only;rw[M,o3];exact o4
 have J:(m.toList.map λ(i,x)=>(i,a.eval x))=m.toList.map λx=>(x.1,a.eval x.2):=rfl;have E:(execOp a.eval oper).run P w= .ok (.value (.slice (some ⟨w.heap.size,0,none⟩) len len)) (w.alloc (.cells l e)):=by
  have O: ¬(len*i.size>2^24):=by omega
  by_cases hl0:len*i.size=0
  ·have R:len=0:=by rcases Nat.mul_eq_zero.1 hl0 with h|h;exact h;omega
   subst R;have X:=f1;simp only[jEk,Array.range_zero',Array.map_empty]at X;rw[J]at X;simp only[execOp,ho,Instr.buildSlice,Sem.run_bind,run_underlying ht,qz hi,Result.andThen_ok,jEk,if_true];simp[Array.range_zero',X,newRow]
  ·rw[J]at f1;simp[execOp,ho,Instr.buildSlice,run_underlying ht,qz hi,O,zeroValue,typeInfo,hi,hzv,f1,newRow];exact λh=>(hl0 h).elim
 have I:(w.alloc (.cells l e)).heap[w.heap.size]? =some (.cells l e (0,0)):=heap_alloc_new w _;obtain⟨c1,c2,c3⟩:=getElem?_chunks len i.size Y (by omega);have U:(qby i.size len Y).flatten=Y:=by rw[c1,<- hdl,jAs]
 cases u with
 |false=>
  have hl: ∀oo,qs st.live {v:=ASlot.full i.size (qby i.size len Y),ob:=oo}=st.live:=λoo=>by simp[qs]
  simp only[hl];have C:Qt T g w (g.at w.heap.size (.row (len*i.size) none)) (w.alloc (.cells l e)) st.live st.live:=Qt.newRow hs.dom w rfl rfl rfl rfl _ _ _ (λ_ _ h=>h);have hrv:=qfm (cap:=len) (rows:=qby i.size len Y) (vs:=l.toList) I (Ghost.at_same _ _ _) (by rw[U,hdl];exact jAh _) c2 (by omega) (by rw[U];exact f2.quiet hs.dom C) (λj u Z=>by simpa using Z);rw[c3]at hrv;exact⟨_,_,_,E,C,hrv,some ⟨w.heap.size,0,none⟩,by rw[c3]⟩
 |true=>
  have hlen:=hob1 rfl;have hl: ∀(vv:ASlot) (oo:Prop),∀t,T t->t∈qs st.live {v:=vv,ob:=oo,iss:= [tb]} ->t∈st.live:=λvv oo t h h'=>by
   rcases jl.1 h' with⟨h1,_⟩|h1
   ·exact h1
   ·simp at h1;exact(hfr.ne h h1).elim
  have C:=Qt.newUni hs.dom w rfl rfl rfl rfl (.cells l e) tb (hl (ASlot.uni tb i.size (qby i.size len Y)) ((∀p∈ps,p.2.2.ok st.fr=true∧(p.2.2.get st.fr).dCellsOk=true∧(p.2.2.get st.fr).dCells.length=p.2.1∧p.1+p.2.1<=len*i.size)∧(true=true->len<=1000)));have F:=f2.quiet hs.dom C;refine⟨_,_,_,E,C,⟨_,_,by rw[c3]⟩,λ_=> .inr ⟨w.heap.size,len,l,e,by rw[c3],Ghost.at_same _ _ _,I,by rw[c3];exact jAh _,by unfold maxLen;omega,?_,c2,λj d Z=> ?_⟩⟩
  ·have:=f2.1;simp at this;omega
  ·rw[U]at Z;have hlt:j<l.toList.length:=by rw[f2.1];exact(jAd.1 Z).1
   exact⟨F.2.1 d (jAe Z),l.toList[j],by simp,F.2.2 j _ d (jAa hlt) Z⟩
theorem RC.keepR {g':Ghost} {w':World} (q:RowsKept g w g' w') (m: ∀k i,g k= .obj i->g' k= .obj i∧qcw w k<=qcw w' k) (z: ∀k n o,g k= .row n o->g' k= .row n o∧w'.heap[k]? =w.heap[k]?) (u: ∀k t,g k= .uni t->g' k= .uni t∧w'.heap[k]? =w.heap[k]?) {v:Value} {s:ASlot} (h:RC g w live v s):RC g' w' live v s:=by
 cases s with
 |d x=>exact h.mono q m
 |own t es rows=>
  refine⟨h.1.mono q m,λC=> ?_⟩;rcases h.2 C with hf|⟨c,cap,F,e,h1,h2,h3,h4⟩
  ·exact .inl hf
  ·obtain⟨r1,r2⟩:=z c _ _ h2;exact .inr ⟨c,cap,F,e,h1,r1,by rw[r2];exact h3,h4⟩
 |uni t es rows=>exact⟨h.1,λC=>(h.2 C).mono (λb hb=>u b _ hb) (λ_ _ hv=>hv.mono q m)⟩
 |full es rows=>exact⟨h.1.mono q m,h.2⟩
 |rd cells=>
  obtain⟨c,off,n,o,f,rfl,hg,hn,hc⟩:=h;obtain⟨n',o',E,hnn,p⟩:=q c n o hg;refine⟨c,off,n',o',f,rfl,E,by omega,λj d G=> ?_⟩;obtain⟨c1,c2,c3⟩:=hc j d G;have:j<cells.length:=(jAd.1 G).1;exact⟨c1,p _ _ (by omega) c2,c3.mono q m⟩
 |tup l=>exact h.elim
 |bad=>trivial
theorem RC.keep {g':Ghost} {w':World} (d:G g w g' w') (m:Dom g w) (l: ∀k n o,g k= .row n o->g' k= .row n o∧w'.heap[k]? =w.heap[k]?) (e: ∀k t,g k= .uni t->g' k= .uni t∧w'.heap[k]? =w.heap[k]?) {v:Value} {s:ASlot} (h:RC g w live v s):RC g' w' live v s:=
 RC.keepR (d.rowsKept m) (λk i h=>d.obj k i (m.lt_obj h) h) l e h
theorem SR.still {w':World} {st:St} {a:Act} (hs:SR N T g w st a) (q: ∀k,g k≠ .out->w'.heap[k]? =w.heap[k]?) (hsz:w.heap.size<=w'.heap.size):SR N T g w' st a:=by
 have G:RowsKept g w g w':=λk n o d=>⟨n,o,d,jAh _,λi u _ E=>by rw[jw (q k (by rw[d];simp))];exact E⟩;have rc: ∀{v:Value} {s:ASlot},RC g w st.live v s->RC g w' st.live v s:=λh=>
  RC.keepR G (λk i d=>⟨d,jBt (jf (q k (by rw[d];simp))).symm⟩) (λk n o d=>⟨d,q k (by rw[d];simp)⟩) (λk t d=>⟨d,q k (by rw[d];simp)⟩) h
 have rs: ∀{v:Value} {s:ASlot},RS g w st.live v s->RS g w' st.live v s:=by
  intro v s h;cases s with
  |tup l=>
   obtain⟨vs,rfl,hl,hc⟩:=h;exact⟨vs,rfl,hl,λi u s E F=>rc (hc i u s E F)⟩
  | _=>exact jk (rc (qac h (by simp)))
 refine⟨⟨λk h=>hs.dom.1 k (by omega),hs.dom.2.same λk m _ d=>⟨q k (by rw[d];simp),d⟩⟩,hs.defers,hs.size,λk v s h=> ?_,λi o ho hn=> ?_,hs.inj,hs.ids,hs.wf⟩
 ·obtain⟨h1,h2⟩:=hs.slots k v s h;exact⟨λC=>rs (h1 C),h2⟩
 ·rcases hs.objs i o ho hn with⟨c,hc,z⟩|h
  ·have p:=q c (by rw[hc];simp);refine .inl ⟨c,hc,?_⟩;cases o with
   |none=>exact z.elim
   |row cells=>
    obtain⟨cc,e,q1,q2,q3⟩:=z;exact⟨cc,e,by rw[p];exact q1,q2,λj s hj=>by obtain⟨v,v1,v2,v3⟩:=q3 j s hj;exact⟨v,v1,v2,rc v3⟩⟩
   |map es clock=>exact MapIs.mono z G p
   |iter m since seen last=>exact IterIs.mono (R:=λv=>RC g w st.live v m) (R':=λv=>RC g w' st.live v m) z p (λo C=>rc C)
  ·exact .inr h
theorem SR.dead {w':World} {st:St} {a:Act} {b:Nat} (hs:SR N T g w st a) (hb:g b= .out) (z: ∀k,k≠b->w'.heap[k]? =w.heap[k]?) (hsz:w'.heap.size=w.heap.size):SR N T g w' st a:=by
 have p: ∀k,g k≠ .out->k≠b:=λk h he=>h (he▸hb);have I:RowsKept g w g w':=λk n o d=>⟨n,o,d,jAh _,λi u _ F=>by rw[jw (z k (p k (by rw[d];simp)))];exact F⟩;have rc: ∀{v:Value} {s:ASlot},RC g w st.live v s->RC g w' st.live v s:=λh=>
  RC.keepR I (λk i d=>⟨d,jBt (jf (z k (p k (by rw[d];simp)))).symm⟩) (λk n o d=>⟨d,z k (p k (by rw[d];simp))⟩) (λk t d=>⟨d,z k (p k (by rw[d];simp))⟩) h
 have rs: ∀{v:Value} {s:ASlot},RS g w st.live v s->RS g w' st.live v s:=by
  intro v s h;cases s with
  |tup l=>
   obtain⟨vs,rfl,hl,hc⟩:=h;exact⟨vs,rfl,hl,λi u s F G=>rc (hc i u s F G)⟩
  | _=>exact jk (rc (qac h (by simp)))
 refine⟨⟨λk h=>hs.dom.1 k (by omega),hs.dom.2.same λk m _ d=>⟨z k (p k (by rw[d];simp)),d⟩⟩,hs.defers,hs.size,λk v s h=> ?_,λi o ho hn=> ?_,hs.inj,hs.ids,hs.wf⟩
 ·obtain⟨h1,h2⟩:=hs.slots k v s h;exact⟨λE=>rs (h1 E),h2⟩
 ·rcases hs.objs i o ho hn with⟨c,hc,C⟩|h
  ·have q:=z c (p c (by rw[hc];simp));refine .inl ⟨c,hc,?_⟩;cases o with
   |none=>exact C.elim
   |row cells=>
    obtain⟨cc,e,q1,q2,q3⟩:=C;exact⟨cc,e,by rw[q];exact q1,q2,λj s hj=>by obtain⟨v,v1,v2,v3⟩:=q3 j s hj;exact⟨v,v1,v2,rc v3⟩⟩
   |map es clock=>exact MapIs.mono C I q
   |iter m since seen last=>exact IterIs.mono (R:=λv=>RC g w st.live v m) (R':=λv=>RC g w' st.live v m) C q (λo E=>rc E)
  ·exact .inr h
theorem SR.setObjA {g':Ghost} {w':World} {st:St} {a:Act} {id b:Nat} {new:AObj} (hs:SR N T g w st a) (Y:id<st.os.length) (F:G g w g' w') (hdom:Dom g' w')
  (hb:g' b= .obj id) (d: ∀k,k≠b->g' k=g k) (p: ∀k,k≠b->k<w.heap.size->w'.heap[k]? =w.heap[k]?) (hgb:(st.os[id]? =some .none∧w.heap.size<=b)∨g b= .obj id)
  (J: ∀k,g k= .obj id->k=b) (hro:RO g' w' st.live b new) (hnn:new≠ .none) (htok: ∀s∈new.cells,∀t∈s.toks,T t):
  SR N T g' w' {st with os:=st.os.set id new} a:=by
 have O: ∀k i,g k= .obj i->g' k= .obj i:=λk i h=>(F.obj k i (hs.dom.lt_obj h) h).1;have X: ∀k n o,g k= .row n o->g' k= .row n o∧w'.heap[k]? =w.heap[k]? :=by
  intro k n o h;have q:k≠b:=by
   rintro rfl;rcases hgb with⟨_,C⟩|C
   ·have:=hs.dom.lt_row h;omega
   ·rw[h]at C;cases C
  exact⟨by rw[d k q];exact h,p k q (hs.dom.lt_row h)⟩
 have U: ∀k t,g k= .uni t->g' k= .uni t∧w'.heap[k]? =w.heap[k]? :=by
  intro k t h;have q:k≠b:=by
   rintro rfl;rcases hgb with⟨_,C⟩|C
   ·have:=hs.dom.lt_uni h;omega
   ·rw[h]at C;cases C
  exact⟨by rw[d k q];exact h,p k q (hs.dom.lt_uni h)⟩
 have M: ∀{v:Value} {s:ASlot},RC g w st.live v s->RC g' w' st.live v s:=λh=>RC.keep F hs.dom X U h;have hrs: ∀{v:Value} {s:ASlot},RS g w st.live v s->RS g' w' st.live v s:=by
  intro v s h;cases s with
  |tup l=>
   obtain⟨vs,rfl,hl,hc⟩:=h;exact⟨vs,rfl,hl,λi u s hu hsl=>M (hc i u s hu hsl)⟩
  | _=>exact jk (M (qac h (by simp)))
 refine⟨hdom,hs.defers,hs.size,λk v s z=> ?_,λi o I hn=> ?_,λk k' i z E=> ?_,λk i z=> ?_,⟨hs.wf.live,hs.wf.fr,λi o I s hsm t ht=> ?_⟩⟩
 ·obtain⟨C,Z⟩:=hs.slots k v s z;exact⟨λhv=>hrs (C hv),Z⟩
 ·by_cases hi:i=id
  ·subst hi;simp only[jBv Y]at I;cases I;exact .inl ⟨b,hb,hro⟩
  ·rw[jBk (Ne.symm hi)]at I;rcases hs.objs i o I hn with⟨c,hc,hr⟩|⟨hv,hno⟩;case inr=>
    refine .inr ⟨hv,λk z=> ?_⟩;have hkb:k≠b:=by rintro rfl;rw[hb]at z;cases z;exact hi rfl
    rw[d k hkb]at z;exact hno k z
   have q:c≠b:=by
    rintro rfl;have:=O c i hc;rw[hb]at this;cases this;exact hi rfl
   refine .inl ⟨c,O c i hc,?_⟩;cases o with
   |none=>exact hr.elim
   |row cells=>
    obtain⟨cc,e,q1,q2,q3⟩:=hr;refine⟨cc,e,by rw[p c q (hs.dom.lt_obj hc)];exact q1,q2,λj s hj=> ?_⟩;obtain⟨v,v1,v2,v3⟩:=q3 j s hj;exact⟨v,v1,v2,M v3⟩
   |map es clock=>exact MapIs.mono hr (F.rowsKept hs.dom) (p c q (hs.dom.lt_obj hc))
   |iter m since seen last=>exact IterIs.mono (R:=λv=>RC g w st.live v m) (R':=λv=>RC g' w' st.live v m) hr (p c q (hs.dom.lt_obj hc)) (λv hv=>M hv)
 ·by_cases C:k=b<;>by_cases Z:k'=b
  ·rw[C,Z]
  ·rw[C,hb]at z;cases z;rw[d k' Z]at E;exact(Z (J k' E)).elim
  ·rw[Z,hb]at E;cases E;rw[d k C]at z;exact(C (J k z)).elim
  ·rw[d k C]at z;rw[d k' Z]at E;exact hs.inj k k' i z E
 ·by_cases C:k=b
  ·rw[C,hb]at z;cases z;exact⟨new,jBv Y,hnn⟩
  ·rw[d k C]at z;obtain⟨o,I,hn⟩:=hs.ids k i z;by_cases hi:i=id
   ·subst hi;exact(C (J k z)).elim
   ·exact⟨o,by rw[jBk (Ne.symm hi)];exact I,hn⟩
 ·by_cases hi:i=id
  ·subst hi;simp only[jBv Y]at I;cases I;exact htok s hsm t ht
  ·rw[jBk (Ne.symm hi)]at I;exact hs.wf.os i o I s hsm t ht
theorem SR.setObj {g':Ghost} {w':World} {st:St} {a:Act} {id b:Nat} {new:List ASlot} (hs:SR N T g w st a) (p:id<st.os.length) (h:G g w g' w') (m:Dom g' w')
  (hb:g' b= .obj id) (i: ∀k,k≠b->g' k=g k) (d: ∀k,k≠b->k<w.heap.size->w'.heap[k]? =w.heap[k]?) (q:(st.os[id]? =some .none∧w.heap.size<=b)∨g b= .obj id)
  (l: ∀k,g k= .obj id->k=b) (o:RO g' w' st.live b (.row new)) (e: ∀s∈new,∀t∈s.toks,T t):
  SR N T g' w' {st with os:=st.os.set id (.row new)} a:=hs.setObjA p h m hb i d q l o (by simp) e
theorem SR.newObjA {st:St} {a:Act} {id:Nat} {o:AObj} {blk:Obj} (hs:SR N T g w st a) (q:st.os[id]? =some .none) (M:o≠ .none)
  (J:G g w (g.at w.heap.size (.obj id)) (w.alloc blk) ->RowsKept g w (g.at w.heap.size (.obj id)) (w.alloc blk) ->(∀{v:Value} {s:ASlot},RC g w st.live v s->RC (g.at w.heap.size (.obj id)) (w.alloc blk) st.live v s) ->RO (g.at w.heap.size (.obj id)) (w.alloc blk) st.live w.heap.size o)
  (E: ∀s∈o.cells,∀t∈s.toks,T t):
  G g w (g.at w.heap.size (.obj id)) (w.alloc blk)∧SR N T (g.at w.heap.size (.obj id)) (w.alloc blk) {st with os:=st.os.set id o} a:=by
 have O:id<st.os.length:=(jAd.1 q).1;have I:(w.alloc blk).heap.size=w.heap.size+1:=by show(w.heap.push _).size=_;simp
 have hold: ∀b,b<w.heap.size->(w.alloc blk).heap[b]? =w.heap[b]? :=λb d=>heap_alloc_old w _ b d;have z: ∀b,b<w.heap.size->g.at w.heap.size (.obj id) b=g b:=λb d=>Ghost.at_ne g _ (by omega);have C:G g w (g.at w.heap.size (.obj id)) (w.alloc blk):=
  ⟨rfl,rfl,rfl,by omega,λb d l=>⟨hold b d,by rw[z b d];exact l⟩,λb m d l=>⟨hold b d,by rw[z b d];exact l⟩,
   λb m u d l=>⟨m,some u,by rw[z b d];exact l,jAh _,λi v _ hv=>by rw[jw (hold b d)];exact hv⟩,λb i d l=>⟨by rw[z b d];exact l,jBt (jf (hold b d)).symm⟩⟩
 have F:Dom (g.at w.heap.size (.obj id)) (w.alloc blk):=hs.dom.of C λb d=>by
  rw[I]at d;rw[Ghost.at_ne g _ (by omega)];exact hs.dom.1 b (by omega)
 have p: ∀k,g k≠ .obj id:=by
  intro k e;obtain⟨o,R,hn⟩:=hs.ids k id e;rw[q]at R;cases R;exact hn rfl
 exact⟨C,hs.setObjA O C F (Ghost.at_same _ _ _) (λk e=>Ghost.at_ne g _ e) (λk _ e=>hold k e) (.inl ⟨q,jAh _⟩) (λk e=>(p k e).elim)
  (J C (C.rowsKept hs.dom) (λh=>RC.keep C hs.dom (λk n o e=>⟨by rw[z k (hs.dom.lt_row e)];exact e,hold k (hs.dom.lt_row e)⟩) (λk t e=>⟨by rw[z k (hs.dom.lt_uni e)];exact e,hold k (hs.dom.lt_uni e)⟩) h)) M E⟩
theorem SR.newObj {st:St} {a:Act} {id:Nat} {new:List ASlot} {vs:List Value} {e:TypeId} (hs:SR N T g w st a) (h:st.os[id]? =some .none) (hl:new.length<=vs.length)
  (hv: ∀(i:Nat) (s:ASlot),new[i]? =some s-> ∃v,vs[i]? =some v∧v.oneCell'=true∧RC g w st.live v s) (d: ∀s∈new,∀t∈s.toks,T t):
  G g w (g.at w.heap.size (.obj id)) (w.alloc (.cells vs.toArray e))∧SR N T (g.at w.heap.size (.obj id)) (w.alloc (.cells vs.toArray e)) {st with os:=st.os.set id (.row new)} a:=by
 refine hs.newObjA h (by simp) (λ_ _ keep=>⟨vs.toArray,e,heap_alloc_new w _,by simpa using hl,λi s hi=> ?_⟩) d;obtain⟨v,v1,v2,v3⟩:=hv i s hi;exact⟨v,by simpa using v1,v2,keep v3⟩
end
section
variable {P:Program} {N tb:Nat} {T:Nat→Prop} {g:Ghost} {w:World} {st:St} {a:Act} {oper:Oper} {live live':List Nat}
theorem xby {v:Value} {s:ASlot} (h:RC g w live v s) (ho:s.isOne=true):v.oneCell'=true:=by
 cases s with
 |d x=>exact RV.oneCell h ho
 |own t es rows=>exact h.1.oneCell rfl
 |uni t es rows=>obtain⟨⟨a,c,rfl⟩,_⟩:=h;rfl
 |full es rows=>exact h.1.oneCell rfl
 |rd cells=>obtain⟨b,off,n,o,f,rfl,_⟩:=h;rfl
 | _=>grind[ASlot.isOne]
theorem q8r {v:Value} {s:ASlot} (h:RS g w live v s) (ho:s.toCells.all ASlot.isOne=true):
  v.cells.toList.length=s.toCells.length∧ ∀(i:Nat) (x:ASlot),s.toCells[i]? =some x-> ∃u,v.cells.toList[i]? =some u∧u.oneCell'=true∧RC g w live u x:=by
 have one:s.toCells= [s] ->RC g w live v s->s.isOne=true->v.cells.toList.length=s.toCells.length∧ ∀(i:Nat) (x:ASlot),s.toCells[i]? =some x-> ∃u,v.cells.toList[i]? =some u∧u.oneCell'=true∧RC g w live u x:=by
  intro hc e o;have hv:=xby e o;have hcells:v.cells= #[v]:=by cases v<;>first|rfl|grind[Value.oneCell']
  grind
 cases s with
 |d x=>
  cases x with
  |agg cs=>
   obtain⟨vs,rfl,o,h2,h3⟩:=qdh (wg h);refine⟨by simp[Value.cells,ASlot.toCells,o],λi x hi=> ?_⟩;simp only[ASlot.toCells,List.getElem?_map,Option.map_eq_some_iff]at hi;obtain⟨d,p,rfl⟩:=hi;have m:i<vs.length:=by grind
   have e:=h3 i vs[i] d (List.getElem?_eq_getElem m) p;exact⟨vs[i],by simp[Value.cells],e.oneCell (h2 d (List.mem_of_getElem? p)),e⟩
  | _=>exact one rfl h (by rfl)
 |tup l=>grind[ASlot.toCells,ASlot.isOne]
 |bad=>grind[ASlot.toCells,ASlot.isOne]
 | _=>exact one rfl h (by rfl)
theorem qy1 {s:ASlot} {p:Nat->Prop} (h: ∀t∈s.toks,p t): ∀x∈s.toCells,∀t∈x.toks,p t:=by
 intro x e t ht;cases s with
 |d y=>
  cases y with
  |agg cs=>simp only[ASlot.toCells,List.mem_map]at e;obtain⟨d,_,rfl⟩:=e;grind[ASlot.toks]
  | _=>grind[ASlot.toCells,List.mem_singleton]
 | _=>grind[ASlot.toCells,List.mem_singleton]
def zx (st:St):Option (Nat×AObj) ->St
 |some (id,o)=>{st with os:=st.os.set id o}
 |none=>st
theorem xhq {t:TypeId} {x:Operand} {y:Opd} {back:Nat} (ho:oper.op= .box t x) (i:qt x=some y) (hs:SR N T g w st a) (d:(sem tb (.box back y) st).ob):
  ∃v w' g',(execOp a.eval oper).run P w= .ok (.value v) w'∧G g w g' w'∧SR N T g' w' (zx st (sem tb (.box back y) st).wr) a∧RS g' w' st.live v (sem tb (.box back y) st).v:=by
 simp only[sem]at d⊢;obtain⟨h,o2,o3,o4,o5⟩:=d;have r1:=xe hs i h;obtain⟨h1,h2⟩:=q8r r1 o2;obtain⟨q1,q2⟩:=hs.newObj (e:=t) o5 (jBt h1.symm) h2 (qy1 (qey hs i h));refine⟨.pointer (some ⟨w.heap.size,0,none⟩),_,_,?_,q1,q2,.ptr _ 0 _ (Ghost.at_same _ _ _)⟩;simp[execOp,ho,Instr.box,newVar,newRow]
theorem SR.touch (hs:SR N T g w st a) (id:Nat) (hrow:qf8 st.os id=true):SR N T g w {st with os:=st.os.set id (.row (qi st.os id))} a:=by
 have key: ∀(i:Nat) (o:AObj),(st.os.set id (.row (qi st.os id)))[i]? =some o->st.os[i]? =some o∨(i=id∧o= .row (qi st.os id)):=by
  grind
 have e: ∀s∈qi st.os id,∃o,st.os[id]? =some o∧s∈o.cells:=by
  grind[qi]
 refine⟨hs.dom,hs.defers,hs.size,hs.slots,λi o l hn=> ?_,hs.inj,λb i p=> ?_,⟨hs.wf.live,hs.wf.fr,λi o l s d t q=> ?_⟩⟩
 ·rcases key i o l with h|⟨rfl,rfl⟩
  ·exact hs.objs i o h hn
  ·unfold qi;cases hq:st.os[i]?with
   |none=>grind
   |some o'=>
    cases o' with
    |none=>exact .inr ⟨rfl,λb p=>by obtain⟨o',h1,h2⟩:=hs.ids b i p;grind⟩
    |row cs=>exact hs.objs i _ hq (by simp)
    |map _ _=>grind[qf8]
    |iter _ _ _ _=>grind[qf8]
 ·obtain⟨o,l,hne⟩:=hs.ids b i p;grind
 ·rcases key i o l with h|⟨rfl,rfl⟩
  ·exact hs.wf.os i o h s d t q
  ·obtain⟨o',m,hm⟩:=e s d;exact hs.wf.os i o' m s hm t q
theorem SR.drew (hs:SR N T g w st a):SR N T g {w with drawn:=w.drawn+1} st a:=by
 have hq:Qt T g w g {w with drawn:=w.drawn+1} st.live st.live:=
  ⟨⟨rfl,rfl,rfl,jAh _,fun _ _ h=>⟨rfl,h⟩,fun _ _ _ h=>⟨rfl,h⟩,fun _ n t _ h=>⟨n,some t,h,jAh _,fun _ _ _ h=>h⟩,fun _ _ _ h=>⟨h,jAh _⟩⟩,
   hs.dom,fun _ _ _=>rfl,fun _ _ h=>h,fun _ _ _ _ _ h=>⟨h,rfl⟩,fun _ _ h=>h,fun _ _ _ _ h=>⟨h,rfl⟩⟩
 exact hs.quiet hq (fun _ h=>h) hs.wf.live
theorem qnb {t u e:TypeId} {s x:Operand} {s' x':Opd} {i:TypeInfo} {z:List D} {back:Nat} (ho:oper.op= .call {callee:= .builtin .append,args:= #[s,x],argTypes:= #[t,u]})
  (ht:P.underlying t=some (.slice e)) (hi:P.info? e=some i) (hz:jg P e=some z) (hsz:i.size=z.length) (hb:0<i.bytes)
  (hu:(∃f,P.underlying u=some (.slice f))∨P.underlying u=some .string) (hs':qt s=some s') (hx':qt x=some x') (hs:SR N T g w st a)
  (hob:(sem tb (.appendO back i.size i.bytes s' x') st).ob):
  ∃v w' g',(execOp a.eval oper).run P w= .ok (.value v) w'∧G g w g' w'∧SR N T g' w' (zx st (sem tb (.appendO back i.size i.bytes s' x') st).wr) a∧RS g' w' st.live v (sem tb (.appendO back i.size i.bytes s' x') st).v:=by
 simp only[sem]at hob⊢
 obtain⟨o1,o2,hob⟩:=hob
 have rs:=xe hs hs' o1
 have rx:=xe hs hx' o2
 obtain⟨i',zv,hi',hzv,hzm⟩:=ko hz
 rw[hi]at hi';cases hi'
 have hzs:zv.cells.size=i.size:=by have:=(jz hzm).1;grind
 unfold jn at hob⊢
 cases hsrc:y7 i.size st.os (x'.get st.fr)with
 |none=>grind[Out.bad]
 |some rr=>
  obtain⟨r,rdd,rok⟩:=rr
  simp only[hsrc]at hob⊢
  obtain⟨hrok,hvoid,⟨hby,h63⟩,_,_,hnone⟩:=hob
  obtain⟨ad,hv⟩: ∃ad,a.eval s= .slice ad 0 0:=by
   cases hk:s'.get st.fr with
   |full e1 l=>
    rw[hk]at rs hvoid
    cases l with
    |nil=>exact rs.2
    |cons _ _=>grind[ASlot.void]
   |d y=>
    rw[hk]at rs hvoid
    cases y<;>simp[ASlot.void]at hvoid
    have rs':RV g w (a.eval s) .nilsl:=rs
    generalize a.eval s=u0 at rs'
    cases rs'
    simp
   | _=>grind[ASlot.void]
  have exec: ∀v w',(Builtin.append_ #[t,u] oper.type #[.slice ad 0 0,a.eval x]).run P w= .ok v w'->(execOp a.eval oper).run P w= .ok (.value v) w':=by
   simp_all[execOp,resolve,invoke,builtin]
  obtain⟨hes,news,hrl,hsource,hfirst,_⟩:=qfl (P:=P) hs rx hsrc hrok
  by_cases hn:0<r.length
  ·have hfc:(Builtin.firstCells i.size 0 (.slice ad 0 0)).run P w.drew= .ok #[] w.drew:=by
    cases ad with
    |none=>rfl
    |some a0=>grind[run_firstCells_some]
   have hfit:Builtin.nextslicecap (0+r.length) 0*i.bytes<=281474976710656:=growslice_fits (by omega) (by grind)
   have hrun:=qb2 (P:=P) (w:=w) (ty:=oper.type) ht hi hzv hu (by omega) ad 0 0 (olds:= []) hsource.1 hfirst hfc (show 0<0+r.length by omega) hfit
   have hge:=grownCap_ge w (0+r.length) 0 e
   have hle:=grownCap_le_maxLen w (0+r.length) 0 e (by grind[maxLen])
   generalize hzz:Builtin.zeroCells zv.cells (grownCap w (0+r.length) 0 e-(0+r.length))=zz at hrun
   have hzzs:zz.size=(grownCap w (0+r.length) 0 e-(0+r.length))*i.size:=by grind[qd0]
   have hwd:w.drew={w with drawn:=w.drawn+1}:=rfl
   have hsd:SR N T g w.drew st a:=by rw[hwd];exact hs.drew
   have hGd:G g w g w.drew:=⟨rfl,rfl,rfl,Nat.le_refl _,fun _ _ h=>⟨rfl,h⟩,fun _ _ _ h=>⟨rfl,h⟩,fun _ n t _ h=>⟨n,some t,h,Nat.le_refl _,fun _ _ _ h=>h⟩,fun _ _ _ h=>⟨h,Nat.le_refl _⟩⟩
   have harr:(([]:List Value).toArray++news.toArray++zz)=(news++zz.toList).toArray:=by simp
   rw[harr]at hrun
   have hnl:news.length=r.flatten.length:=hrl.1
   obtain⟨q1,q2⟩:=hsd.newObj (e:=e) (vs:=news++zz.toList) (new:=r.flatten.map .d) hnone (by grind) (fun j s hj=>by
    simp only[List.getElem?_map,Option.map_eq_some_iff]at hj
    obtain⟨d,hd,rfl⟩:=hj
    have hlt:j<news.length:=by grind
    have hr:=hrl.2.2 j _ d (List.getElem?_eq_getElem hlt) hd
    have hr':RV g w.drew news[j] d:=hGd.rv hs.dom hr
    exact⟨news[j],by grind,hr.oneCell (hrl.2.1 d (List.mem_of_getElem? hd)),hr'⟩) (fun s hsm t ht=>by
    obtain⟨d,_,rfl⟩:=List.mem_map.1 hsm
    grind[ASlot.toks])
   refine⟨_,_,_,exec _ _ hrun,hGd.trans q1,q2,?_⟩
   rw[show 0+r.length=r.length by omega]
   rw[show 0+r.length=r.length by omega]at hge hle hzzs
   refine .ref _ 0 _ _ _ _ (Ghost.at_same _ _ _) hge hle ?_
   have hnew:(w.drew.alloc (.cells (news++zz.toList).toArray e)).heap[w.heap.size]? =some (.cells (news++zz.toList).toArray e (0,0)):=heap_alloc_new w.drew _
   rw[k7 hnew]
   have h2:news.length=r.length*i.size:=by grind[xi]
   have h3:(news++zz.toList).toArray.size=news.length+zz.size:=by simp
   rw[h3,h2,hzzs,<- Nat.add_mul,Nat.zero_add]
   grind
  ·have hr0:r= []:=List.eq_nil_of_length_eq_zero (by omega)
   subst hr0
   have hnews:news= []:=by have:=hrl.1;grind
   subst hnews
   have hoc:qi st.os (st.os.length-back)= []:=by grind[qi,AObj.cells]
   refine⟨.slice ad 0 0,w,g,exec _ _ ?_,G.refl g w,?_,.refnil _ _ _ _⟩
   ·cases ad with
    |none=>
     have:=qcj (P:=P) (ty:=oper.type) ht hi hu 0 0 hsource (by simp)
     omega
    |some ad=>
     have:=ya (P:=P) (ty:=oper.type) ht hi hu ad 0 0 hsource (by simp)
     simp_all[storeCells]
   ·have:=hs.touch (st.os.length-back) (by grind[qf8])
    rw[hoc]at this
    exact this
theorem qpm {v:Value} {s:ASlot} (h:xbo v=some s):s.isOne=true∧RC g w live v s∧s.toks= []:=by
 unfold xbo at h;cases hc:qcf v with
 |none=>grind
 |some d=>simp[hc]at h;subst h;exact⟨qjc hc,qj7 hc,rfl⟩
theorem q8s {t:TypeId} {z:List ASlot} {back:Nat} (ho:oper.op= .alloc t) (h:qls P t=some z) (hs:SR N T g w st a) (d:(sem tb (.alloc back z) st).ob):
  ∃v w' g',(execOp a.eval oper).run P w= .ok (.value v) w'∧G g w g' w'∧SR N T g' w' (zx st (sem tb (.alloc back z) st).wr) a∧RS g' w' st.live v (sem tb (.alloc back z) st).v:=by
 simp only[sem]at d⊢;obtain⟨o3,o4,o5⟩:=d;unfold qls at h;split at h
 ·rename_i i hi;split at h
  ·rename_i zv l;obtain⟨m1,m2⟩:=jz h;obtain⟨q1,q2⟩:=hs.newObj (e:=t) (vs:=zv.cells.toList) (new:=z) o5 (Nat.le_of_eq m1.symm) (λj s p=>by
    grind[List.getElem?_eq_some_iff,qpm,List.getElem?_eq_getElem,xby]) (λs m t ht=>by
    obtain⟨j,p⟩:=List.getElem?_of_mem m;have o:j<zv.cells.toList.length:=by grind
    obtain⟨_,_,c3⟩:=qpm (g:=g) (w:=w) (live:=st.live) (m2 j _ s (List.getElem?_eq_getElem o) p);grind)
   refine⟨.pointer (some ⟨w.heap.size,0,none⟩),_,_,?_,q1,q2,.ptr _ 0 _ (Ghost.at_same _ _ _)⟩;simp[execOp,ho,Instr.alloc,zeroValue,typeInfo,hi,l,newVar,newRow]
  grind
 grind
theorem qpn {t e:TypeId} {l c:Operand} {l' c':Opd} {i:TypeInfo} {z:List D} {back:Nat} (ho:oper.op= .makeSlice t l c) (U:P.underlying t=some (.slice e)) (hi:P.info? e=some i) (hz:jg P e=some z)
  (F:i.size=z.length) (h0:0<i.size) (Y:qt l=some l') (hc':qt c=some c') (hs:SR N T g w st a) (h:(sem tb (.makeSliceO back i.size i.bytes z l' c') st).ob):
  ∃v w' g',(execOp a.eval oper).run P w= .ok (.value v) w'∧G g w g' w'∧SR N T g' w' (zx st (sem tb (.makeSliceO back i.size i.bytes z l' c') st).wr) a∧RS g' w' st.live v (sem tb (.makeSliceO back i.size i.bytes z l' c') st).v:=by
 simp only[sem]at h⊢;obtain⟨i',zv,J,O,E⟩:=ko hz;rw[hi]at J;cases J;have R:i.size=zv.cells.size:=by have:=(jz E).1;rw[F];simpa using this.symm
 cases h1:l'.get st.fr with
 |d p=>
  cases p with
  |int k1 n=>
   cases h2:c'.get st.fr with
   |d q=>
    cases q with
    |int k2 m=>
     simp only[h1,h2]at h⊢;obtain⟨⟨o1,o2,o3,o4,o5,o6⟩,o7,o8,o9⟩:=h;have r1:=xe hs Y o1;have r2:=xe hs hc' o2;rw[h1]at r1;rw[h2]at r2;have o:=qkf (P:=P) (w:=w) ho U hi O h0 (ky (wg r1)) (ky (wg r2)) o3 o4 (by omega) o6;have u:=qtc (zv:=zv) (k:=i.size) o4;have M:((Array.range (m.toNat*i.size)).map (zv.cells[· %zv.cells.size]!)).size=m.toNat*i.size:=by simp
     generalize (Array.range (m.toNat*i.size)).map (zv.cells[· %zv.cells.size]!)=cells at o u M;have C:=qlw (g:=g) (w:=w) E n.toNat i.size R h0;have hes: ∀r∈List.replicate n.toNat z,r.length=i.size:=by intro r hr;rw[jEw hr,F]
     have hfl:(List.replicate n.toNat z).flatten.length=n.toNat*i.size:=by rw[xi hes];simp
     have hle:n.toNat*i.size<=m.toNat*i.size:=jAy _ (by omega);obtain⟨q1,q2⟩:=hs.newObj (e:=e) (vs:=cells.toList) (new:=(List.replicate n.toNat z).flatten.map .d) o9 (by simp only[jAm,jBr];omega) (λj s hj=>by
      simp only[jAn,jAb]at hj;obtain⟨d,Z,rfl⟩:=hj;have I:j<((Array.range (n.toNat*i.size)).map (zv.cells[· %zv.cells.size]!)).toList.length:=by rw[C.1];exact(jAd.1 Z).1
      have hv:=C.2.2 j _ d (jAa I) Z;refine⟨_,by simpa using u j _ (jAa I),?_,hv⟩;exact hv.oneCell (C.2.1 d (jAe Z))) (λs X t U=>by
      obtain⟨d,_,rfl⟩:=jAo.1 X;cases U)
     refine⟨_,_,_,o,q1,q2,.ref _ 0 _ _ _ _ (Ghost.at_same _ _ _) (by omega) (by unfold maxLen;omega) ?_⟩;rw[k7 (heap_alloc_new w _),Nat.zero_add,M];exact jAh _
    | _=>simp[h1,h2,Out.bad]at h
   | _=>simp[h1,h2,Out.bad]at h
  | _=>simp[h1,Out.bad]at h
 | _=>simp[h1,Out.bad]at h
theorem qhd: ∀(cs:List ASlot) (off:Nat) (new:List ASlot),(qbf cs off new).length=cs.length
 |cs,off,[]=>rfl
 |cs,off,s::r=>by rw[qbf,qhd,jCh]
theorem qez: ∀(new:List ASlot) (cs:List ASlot) (off i:Nat),off+new.length<=cs.length->
  (qbf cs off new)[i]? =if off<=i∧i<off+new.length then new[i-off]?else cs[i]?
 | [],cs,off,i,_=>by
  simp_all[List.length_nil,if_neg,qbf]
 |s::r,cs,off,i,h=>by
  have ih:=qez r (cs.set off s) (off+1) i (by grind);simp only[qbf];grind
theorem SR.stored {id off b:Nat} {new:List ASlot} {us:List Value} (hs:SR N T g w st a) (I:g b= .obj id) (h0:0<(qi st.os id).length) (E:off+new.length<=(qi st.os id).length)
  (hl:us.length=new.length) (hu: ∀(i:Nat) (x:ASlot),new[i]? =some x-> ∃u,us[i]? =some u∧u.oneCell'=true∧RC g w st.live u x) (htok: ∀s∈new,∀t∈s.toks,T t):
  ∃w',(storeCells ⟨b,off,none⟩ us).run P w= .ok () w'∧G g w g w'∧SR N T g w' {st with os:=st.os.set id (.row (qbf (qi st.os id) off new))} a:=by
 obtain⟨c,e,z,hsize,hcells⟩:=qta hs I h0;have J: ∀v∈us,v.oneCell'=true:=by
  intro v Y;obtain⟨i,hi⟩:=List.getElem?_of_mem Y;have F:i<new.length:=by grind
  obtain⟨u,u1,u2,_⟩:=hu i new[i] (List.getElem?_eq_getElem F);grind
 have q:=run_storeCells_at P b off e us 0 c w z (by omega) J;simp only[Nat.add_zero]at q;generalize hc':(c.toList.take off++us++c.toList.drop (off+us.length)).toArray=c' at q;have M:(w.setRow b c').heap[b]? =some (.cells c' e (0,0)):=setRow_heap w b c c' e (0,0) z;have d: ∀k,k≠b->(w.setRow b c').heap[k]? =w.heap[k]? :=λk p=>setRow_other w b k c' p;have hsz:(w.setRow b c').heap.size=w.heap.size:=by simp
 have hlen':c'.size=c.size:=by
  grind
 have O: ∀i,c'[i]? =if off<=i∧i<off+us.length then us[i-off]?else c[i]? :=by
  grind
 have X: ∀k,qcw w k<=qcw (w.setRow b c') k:=λk=>by
  grind[k7,Nat.le_of_eq,jf]
 have C: ∀k n o,g k= .row n o->k≠b:=by grind
 have R:G g w g (w.setRow b c'):=
  ⟨rfl,rfl,rfl,by omega,λk p l=>⟨d k (by grind),l⟩,λk m p l=>⟨d k (C k _ _ l),l⟩,
   λk m t p l=>⟨m,some t,l,Nat.le_refl _,λi v _ Y=>by grind[jw]⟩,λk id p l=>⟨l,X k⟩⟩
 have F:id<st.os.length:=by
  obtain⟨o,Z,_⟩:=hs.ids b id I;grind
 refine⟨_,q,R,hs.setObj F R (hs.dom.of R λk p=>hs.dom.1 k (by omega)) I (λ_ _=>rfl) (λk p _=>d k p) (.inr I) (λk p=>hs.inj k b id p I) ?_ ?_⟩
 ·refine⟨c',e,M,by grind[qhd],λi s hi=> ?_⟩;rw[qez new _ off i E]at hi;rw[O i,hl];have keep: ∀{v:Value} {x:ASlot},RC g w st.live v x->RC g (w.setRow b c') st.live v x:=λh=>RC.keep R hs.dom (λk n o p=>⟨p,d k (C k n o p)⟩) (λk t p=>⟨p,d k (by grind)⟩) h;grind
 ·intro s U t ht;obtain⟨i,hi⟩:=List.getElem?_of_mem U;rw[qez new _ off i E]at hi;split at hi
  ·grind
  ·obtain⟨o,Z,hn⟩:=hs.ids b id I;refine hs.wf.os id o Z s ?_ t ht;grind[qi,id,List.mem_of_getElem?]
theorem q8t {t:TypeId} {x v:Operand} {x' v':Opd} {n:Option Nat} (ho:oper.op= .store t x v) (hn:aggN P t=some n) (hx:qt x=some x') (U:qt v=some v') (hs:SR N T g w st a) (e:(sem tb (.store n x' v') st).ob):
  ∃w',(execOp a.eval oper).run P w= .ok .skip w'∧G g w g w'∧SR N T g w' (zx st (sem tb (.store n x' v') st).wr) a:=by
 simp only[sem]at e⊢;obtain⟨o1,R,e⟩:=e;have M:=xe hs hx o1;have z:=xe hs U R;have tk:=qey hs U R;cases hp:x'.get st.fr with
 |d p=>
  cases p with
  |ptr id off=>
   rw[hp]at M;simp only[hp,w6]at e⊢;have o:=wg M;generalize l:a.eval x=vx at o;cases o with
   |ptr b _ _ hg=>
   cases n with
   |none=>
    obtain⟨h1,Z⟩:=e;obtain⟨ti,d,hi,m,_⟩:=qyp hn;have J:RC g w st.live (a.eval v) (v'.get st.fr):=qac z (by grind[ASlot.isOne]);have hone:=xby J Z;have hcells:(a.eval v).cells= #[a.eval v]:=by cases hvv:a.eval v<;>first|rfl|grind[Value.oneCell']
    obtain⟨w',O,E,C⟩:=SR.stored (P:=P) (id:=id) (off:=off) (new:= [v'.get st.fr]) (us:= [a.eval v]) hs hg (by omega) (by grind) rfl (λi s h=>by
     grind) (by grind)
    refine⟨w',?_,E,C⟩;simp_all[execOp,Instr.storeAt,Instr.sureAddr,storeVar,qz]
   |some k=>
    obtain⟨ti,hi,m,_⟩:=qka hn;cases hq:v'.get st.fr with
    |d q=>
     cases q with
     |agg cs=>
      simp only[hq]at e⊢;obtain⟨h1,h0,Z,h3⟩:=e;rw[hq]at z;obtain⟨us,F,hl,hcl,hc⟩:=qdh (wg z);obtain⟨w',O,E,C⟩:=SR.stored (P:=P) (id:=id) (off:=off) (new:=cs.map .d) (us:=us) hs hg h0 (by grind) (by simp[hl]) (λi s h=>by
       simp only[List.getElem?_map,Option.map_eq_some_iff]at h;obtain⟨d,Y,rfl⟩:=h;have u:i<us.length:=by grind
       have X:=hc i us[i] d (List.getElem?_eq_getElem u) Y;exact⟨_,List.getElem?_eq_getElem u,X.oneCell (hcl d (List.mem_of_getElem? Y)),X⟩) (by
       intro s h t ht;obtain⟨d,_,rfl⟩:=List.mem_map.1 h;grind[ASlot.toks])
      refine⟨w',?_,E,C⟩;have I:us.length=k:=by omega
      simp[execOp,ho,l,F,Instr.storeAt,Instr.sureAddr,storeVar,qz hi,m,Value.cells,I,O]
     | _=>grind[Out.bad]
    | _=>grind[Out.bad]
  | _=>grind[w6,Out.bad]
 | _=>grind[w6,Out.bad]
theorem qy2 {h:Bool} {t u e:TypeId} {x y:Operand} {x':Opd} {es:Nat} {rows:List (List D)} (ho:oper.op= .binOp (if h then .neq else .eql) t x y u) (ht:P.underlying t=some (.slice e)) (hx:qt x=some x')
  (m:qh7 y=true) (hs:SR N T g w st a) (hok:x'.ok st.fr=true) (hr:(x'.get st.fr).rows=some (es,rows)):
  ∃b:Bool,(b=true->rows= [])∧yk P g w st a oper (.d (.bool (if h then !b else b))):=by
 have r1:=qjd (xe hs hx hok) hr;have hyv:a.eval y= .slice none 0 0:=by
  unfold qh7 at m;split at m
  ·rfl
  grind
 have key: ∀(b:Bool),(∃i n c,a.eval x= .slice i n c∧i.isNone=b) ->yk P g w st a oper (.d (.bool (if h then !b else b))):=by
  rintro b ⟨i,n,c,l,hb⟩;have heq:(Op.equal t (.slice i n c) (.slice none 0 0)).run P w= .ok b w:=qak (by
   subst hb;rw[Op.equalIn];cases i<;>simp[run_underlying ht])
  refine⟨.bool (if h then !b else b),?_,.bool _⟩;cases h with
  |false=>simp_all[execOp,eqGuard_at_slice,binOp]
  |true=>simp_all[execOp,eqGuard_at_slice,binOp]
 rcases qsk r1 with⟨⟨i,cp,l,_⟩,rfl⟩|⟨b,off,cap,n,o,f,l,_⟩
 ·exact⟨i.isNone,λ_=>rfl,key i.isNone ⟨_,_,_,l,rfl⟩⟩
 simp_all
theorem q6b {t u ty e:TypeId} {i:TypeInfo} (ht:P.underlying t=some (.slice e)) (hi:P.info? e=some i) {base:Option Addr} {n cap k:Nat} {x:Value} {news:List Value} {w1:World}
  (hl:(Builtin.lenOf x).run P w= .ok k w) (hf:(Builtin.firstCells i.size (Nat.min k n) x).run P w= .ok news.toArray w) (h: ∀d,base=some d->(storeCells d news).run P w= .ok () w1) (hn:base=none->w1=w):
  (Builtin.copy_ #[t,u] ty #[.slice base n cap,x]).run P w= .ok (.int .i64 (Nat.min k n)) w1:=by
 cases base with
 |none=>
  have:=hn rfl;simp_all[Builtin.copy_,run_underlying,qz,goInt]
 |some d=>simp[Builtin.copy_,run_underlying ht,qz hi,hl,hf,h d rfl,goInt]
theorem qy3 {t u e:TypeId} {s x:Operand} {s' x':Opd} {i:TypeInfo} (ho:oper.op= .call {callee:= .builtin .copy,args:= #[s,x],argTypes:= #[t,u]})
  (ht:P.underlying t=some (.slice e)) (hi:P.info? e=some i) (hs':qt s=some s') (I:qt x=some x') (hs:SR N T g w st a) (l:(sem tb (.copy i.size s' x') st).ob):
  ∃v w' g',(execOp a.eval oper).run P w= .ok (.value v) w'∧G g w g' w'∧SR N T g' w' (zx st (sem tb (.copy i.size s' x') st).wr) a∧RS g' w' st.live v (sem tb (.copy i.size s' x') st).v:=by
 simp only[sem]at l⊢;obtain⟨o1,o2,l⟩:=l;have rs:=xe hs hs' o1;have rx:=xe hs I o2;have tkx:=qey hs I o2;unfold w8 at l⊢;cases hsrc:y7 i.size st.os (x'.get st.fr)with
 |none=>grind[Out.bad]
 |some r=>
  simp only[hsrc]at l⊢;cases hk:s'.get st.fr with
  |d p=>
   cases p with
   |ref id off es n=>
    simp only[hk]at l⊢;obtain⟨O,rfl,M,hin⟩:=l;rw[hk]at rs;have o:=wg rs;obtain⟨hes,news,E,m,_,R⟩:=qfl (P:=P) hs rx hsrc O;have Y:Nat.min r.rows.length n<=r.rows.length:=Nat.min_le_left _ _;have hf:=R _ Y;have z: ∀base cap w1,a.eval s= .slice base n cap->(∀F,base=some F->(storeCells F (news.take (Nat.min r.rows.length n*i.size))).run P w= .ok () w1) ->(base=none->w1=w) ->
      (execOp a.eval oper).run P w= .ok (.value (.int .i64 (Nat.min r.rows.length n))) w1:=by
     intro base cap w1 hv h1 h2;have:=q6b (P:=P) (t:=t) (u:=u) (ty:=oper.type) (cap:=cap) ht hi m.1 hf h1 h2;simp_all[execOp,resolve,invoke,builtin]
    have htk:(r.rows.take n).flatten.length=Nat.min r.rows.length n*i.size:=by
     grind[xi,List.mem_of_mem_take,List.length_take,Nat.min_comm]
    have hnl:(news.take (Nat.min r.rows.length n*i.size)).length=Nat.min r.rows.length n*i.size:=by
     have h1:=E.1;grind[xi,Nat.mul_le_mul_right,List.length_take]
    have hle:Nat.min r.rows.length n*i.size<=n*i.size:=Nat.mul_le_mul_right _ (Nat.min_le_right _ _);have hft:(r.rows.take n).flatten=r.rows.flatten.take (n*i.size):=flat_take hes n;have q: ∀(j:Nat) (y:ASlot),((r.rows.take n).flatten.map ASlot.d)[j]? =some y-> ∃u,(news.take (Nat.min r.rows.length n*i.size))[j]? =some u∧u.oneCell'=true∧RC g w st.live u y:=by
     intro j y hj;simp only[List.getElem?_map,Option.map_eq_some_iff]at hj;obtain⟨d,Z,rfl⟩:=hj;have hjl:j<Nat.min r.rows.length n*i.size:=by grind
     have hjn:j<(news.take (Nat.min r.rows.length n*i.size)).length:=by omega
     rw[hft,List.getElem?_take]at Z;split at Z
     ·have X:=List.getElem?_eq_getElem hjn;have U:=X;rw[List.getElem?_take,if_pos hjl]at U;have hr:=E.2.2 j _ d U Z;exact⟨_,X,hr.oneCell (E.2.1 d (List.mem_of_getElem? Z)),hr⟩
     omega
    have C: ∀s∈(r.rows.take n).flatten.map ASlot.d,∀t∈s.toks,T t:=by
     intro s hs t ht;obtain⟨d,_,rfl⟩:=List.mem_map.1 hs;grind[ASlot.toks]
    have nothing:(r.rows.take n).flatten= [] -> ∀base cap,a.eval s= .slice base n cap->
      ∃v w' g',(execOp a.eval oper).run P w= .ok (.value v) w'∧G g w g' w'∧SR N T g' w' (zx st (some (storeAt st.os id off ((r.rows.take n).flatten.map .d)))) a∧RS g' w' st.live v (.d (.int .i64 (Nat.min r.rows.length n))):=by
     intro h0 base cap hv;have hz:news.take (Nat.min r.rows.length n*i.size)= []:=List.eq_nil_of_length_eq_zero (by grind);refine⟨_,w,g,z _ _ w hv (λF _=>by rw[hz];rfl) (λ_=>rfl),G.refl g w,?_,.int _ _⟩;rw[h0];exact hs.touch id M
    by_cases hnil:(r.rows.take n).flatten= []
    ·generalize J:a.eval s=v at o;cases o with
     |ref b _ _ _ _ cap=>grind
     |refnil F=>grind
    ·have hpos:0<(r.rows.take n).flatten.length:=by
      grind
     generalize J:a.eval s=v at o;cases o with
     |refnil F=>omega
     |ref b _ _ _ _ cap hg hcap hmx hsz=>
      have hn0:n≠0:=by grind
      have hin':=hin.resolve_left hn0;obtain⟨w',q1,q2,q3⟩:=SR.stored (P:=P) (id:=id) (off:=off) (new:=(r.rows.take n).flatten.map .d) (us:=news.take (Nat.min r.rows.length n*i.size)) hs hg (by omega) (by grind)
       (by grind) q C
      exact⟨_,w',g,z _ _ w' J (λF had=>by grind) (λh=>by cases h),q2,q3,.int _ _⟩
   | _=>grind[Out.bad]
  | _=>grind[Out.bad]
end
end Go.Abs
