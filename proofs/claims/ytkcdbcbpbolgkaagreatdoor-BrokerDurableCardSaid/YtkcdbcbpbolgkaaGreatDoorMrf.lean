/- Texts Anb, Ao, Ap. -/
import Derived.Test.YtkcdbcbpbolgkaaGreatDoorMre
import Derived.MapKept
import Derived.Maps.RangeRun
set_option linter.unusedSimpArgs false
set_option linter.unusedVariables false
set_option linter.defProp false
set_option maxRecDepth 100000
noncomputable section
namespace Go.Abs
open Go.MapKept
section
variable {P:Program} {N tb:Nat} {T:Nat→Prop} {g:Ghost} {w:World} {st:St} {a:Act} {oper:Oper} {live live':List Nat}
def KD.desc:KD->TypeDesc
 | .int k=> .int k
 | .bool=> .bool
 | _=> .string
theorem qpo {t:TypeId} {kd:KD} (h:kdOf P t=some kd):(P.underlying t=some kd.desc∧ ∀ks,kd≠ .agg ks)∨ ∃d ks,kd= .agg ks∧P.underlying t=some (.struct d)∧P.stoodInHeld t=false∧qh6 P d.toList=some ks:=by
 unfold kdOf at h;split at h
 ·cases h;exact .inl ⟨by assumption,by simp⟩
 ·cases h;exact .inl ⟨by assumption,by simp⟩
 ·cases h;exact .inl ⟨by assumption,by simp⟩
 ·split at h
  ·obtain⟨ks,hk,rfl⟩:=jAb.1 h;exact .inr ⟨_,_,rfl,by assumption,by assumption,hk⟩
  ·cases h
 ·cases h
theorem qkg {kd:KD} {v:Value} {k e:D} (h:RV g w v k) (d:kd.fit e k=true∨kd.fit k e=true) (hn: ∀ks,kd≠ .agg ks):IsKey kd.desc v:=by
 cases kd with
 |agg ks=>exact(hn _ rfl).elim
 |int q=>
  cases k<;>cases e<;>simp[KD.fit]at d
  have:=ky h;grind[KD.desc,IsKey]
 |bool=>
  cases k<;>cases e<;>simp[KD.fit]at d
  have:=y8 h;subst this;trivial
 |str=>
  cases k<;>cases e<;>simp[KD.fit]at d
  have:=qcg h;subst this;trivial
theorem qd1: ∀{ks:List CK} {as bs:List D},eqOk ks as bs=true->as.length=bs.length∧(zf as bs=true↔as=bs)∧ ∀d∈as,d.noPtr=true
 | [],[],[],_=>by simp[zf]
 |k::ks,as,bs,h=>by
  cases k<;>cases as<;>cases bs<;>try(simp[eqOk]at h;done)
  all_goals
   rename_i x l y r;cases x<;>cases y<;>first|(simp[eqOk]at h;done)|skip
  ·simp only[eqOk,jAf,beq_iff_eq]at h;obtain⟨rfl,h⟩:=h;obtain⟨o,m,i⟩:=qd1 h;refine⟨by simp[o],by simp[zf,qg1,m],λd e=> ?_⟩;rcases jAv.1 e with rfl|e
   ·rfl
   ·exact i d e
  ·obtain⟨o,m,i⟩:=qd1 (show eqOk ks l r=true from h);refine⟨by simp[o],by simp[zf,qg1,m],λd e=> ?_⟩;rcases jAv.1 e with rfl|e
   ·rfl
   ·exact i d e
  ·obtain⟨o,m,i⟩:=qd1 (show eqOk ks l r=true from h);refine⟨by simp[o],by simp[zf,qg1,m],λd e=> ?_⟩;rcases jAv.1 e with rfl|e
   ·rfl
   ·exact i d e
theorem q3b: ∀{ks:List CK} {as bs:List D},eqOk ks as bs=true-> ∀{j:Nat} {a b:D},as[j]? =some a->bs[j]? =some b->
  (∃k x y,a= .int k x∧b= .int k y)∨(∃x y,a= .bool x∧b= .bool y)∨ ∃x y,a= .str x∧b= .str y
 | [],as,bs,h,j,a,b,ha,hb=>by cases as<;>cases bs<;>simp[eqOk]at h;simp at ha
 |k::ks,as,bs,h,j,a,b,ha,hb=>by
  cases k<;>cases as<;>cases bs<;>try(simp[eqOk]at h;done)
  all_goals
   rename_i x l y r;cases x<;>cases y<;>first|(simp[eqOk]at h;done)|skip
  all_goals
   cases j with
   |zero=>simp at ha hb;subst ha;subst hb;simp[eqOk]at h;simp_all
   |succ j=>exact q3b (ks:=ks) (as:=l) (bs:=r) (by simp[eqOk]at h;simp_all) (j:=j) (by simpa using ha) (by simpa using hb)
theorem q6c {kd:KD} {v v':Value} {k:D} {e:Nat×D×D} (h:RV g w v k) (h':RV g w v' e.2.1) (d:kd.fit k e.2.1=true):qba k e=true↔v=v':=by
 obtain⟨n,k',x⟩:=e;simp only at h' d⊢;cases kd with
 |agg ks=>
  cases k<;>cases k'<;>simp only[KD.fit,jAw]at d
  rename_i as bs;obtain⟨i1,i2,_⟩:=qd1 d;obtain⟨us,rfl,l1,_,c1⟩:=qdh h;obtain⟨vs,rfl,l2,_,c2⟩:=qdh h';simp only[qba];rw[i2];have at_: ∀(j:Nat) (l:j<us.length) (i:j<vs.length) (C:j<as.length) (z:j<bs.length),us[j]=vs[j]↔as[j]=bs[j]:=by
   intro j l i C z;have u:=c1 j _ _ (jAa l) (jAa C);have t:=c2 j _ _ (jAa i) (jAa z);rcases q3b d (jAa C) (jAa z)with⟨k,x,y,o,m⟩|⟨x,y,o,m⟩|⟨x,y,o,m⟩<;>rw[o]at u⊢ <;>rw[m]at t⊢
   ·rw[ky u,ky t];simp
   ·rw[y8 u,y8 t];simp
   ·rw[qcg u,qcg t];simp
  constructor
  ·intro p;have:us=vs:=jE3 (by omega) λj l i=>(at_ j l i (by omega) (by omega)).2 (by subst p;rfl);rw[this]
  ·intro p;have p:us=vs:=by simpa using p
   exact jE3 (by omega) λj l i=>(at_ j (by omega) (by omega) l i).1 (by subst p;rfl)
 |int q=>
  cases k<;>cases k'<;>simp[KD.fit]at d
  have o:=ky h;have m:=ky h';simp_all[qba]
 |bool=>
  cases k<;>cases k'<;>simp[KD.fit]at d
  have o:=y8 h;have m:=y8 h';simp_all[qba]
 |str=>
  cases k<;>cases k'<;>simp[KD.fit]at d
  have o:=qcg h;have m:=qcg h';simp_all[qba]
theorem qh8 {M:List Field->Option (List CK)} (Y:Bool) (n:Nat) (C: ∀(t:TypeId) (Z:Array Field) (ks:List CK) (us:Array Value) (as:List D),P.underlying t=some (.struct Z) ->M Z.toList=some ks->eqOk ks as as=true->
  (∀(j:Nat) (d:D),as[j]? =some d-> ∃v,us[j]? =some v∧RV g w v d) ->(Instr.checkKey Y (n+1) t (.agg us)).run P w= .ok () w) (xs:Array Value):
  ∀(G:List Field) (i:Nat) (ks:List CK) (as:List D),jr P M i G=some ks->eqOk ks as as=true->(∀(j:Nat) (d:D),as[j]? =some d-> ∃v,xs[i+j]? =some v∧RV g w v d) ->
  ∀f∈G,f.name≠ "_" ∧ ∃v,(part f.type xs f.offset).run P w= .ok v w∧(Instr.checkKey Y (n+1) f.type v).run P w= .ok () w
 | [],i,ks,as,hk,he,hx=>λf hf=>by cases hf
 |f::G,i,ks,as,hk,he,hx=>by
  simp only[jr]at hk;split at hk
  ·rename_i R;obtain⟨I,E⟩:=R;have agg: ∀d,P.underlying f.type=some d->(P.info? f.type).map (·.size)=some 1->(∀G,d≠ .struct G) ->(∀k e,d≠ .array k e) ->aggN P f.type=some none:=by
    intro d h1 h2;obtain⟨ti,hti,hsz⟩:=Option.map_eq_some_iff.1 h2;grind[aggN]
   have step: ∀{u:Value} {d:D} {h:List D} {F:List CK},aggN P f.type=some none->xs[i]? =some u->(Instr.checkKey Y (n+1) f.type u).run P w= .ok () w->jr P M (i+1) G=some F->eqOk F h h=true->
     (∀(j:Nat) (e:D),(d::h)[j]? =some e-> ∃v,xs[i+j]? =some v∧RV g w v e) ->
     ∀f'∈f::G,f'.name≠ "_" ∧ ∃v,(part f'.type xs f'.offset).run P w= .ok v w∧(Instr.checkKey Y (n+1) f'.type v).run P w= .ok () w:=by
    intro u d h F U p hck hk' he' hx' f' o;rcases List.mem_cons.1 o with rfl|o
    ·exact⟨E,u,yp U xs _ u (by rw[I];exact p) w,hck⟩
    ·exact qh8 Y n C xs G (i+1) F h hk' he' (λj e X=>by
      have:=hx' (j+1) e (by simpa using X);rwa [show i+(j+1)=i+1+j by omega]at this) f' o
   split at hk
   ·rename_i k p l;obtain⟨r,O,rfl⟩:=Option.map_eq_some_iff.1 hk;match as,he with
    | .int k1 m1::h,he=>
     simp only[eqOk,Bool.and_eq_true,beq_iff_eq]at he;obtain⟨u,z,q⟩:=hx 0 _ rfl;have J:=ky q;subst J;exact step (agg _ p l (by simp) (by simp)) z (by simp[Instr.checkKey,run_underlying p]) O he.2 hx
   ·rename_i p l;obtain⟨r,O,rfl⟩:=Option.map_eq_some_iff.1 hk;match as,he with
    | .bool m1::h,he=>
     obtain⟨u,z,q⟩:=hx 0 _ rfl;have J:=y8 q;subst J;exact step (agg _ p l (by simp) (by simp)) z (by simp[Instr.checkKey,run_underlying p]) O he hx
   ·rename_i p l;obtain⟨r,O,rfl⟩:=Option.map_eq_some_iff.1 hk;match as,he with
    | .str m1::h,he=>
     obtain⟨u,z,q⟩:=hx 0 _ rfl;have J:=qcg q;subst J;exact step (agg _ p l (by simp) (by simp)) z (by simp[Instr.checkKey,run_underlying p]) O he hx
   ·rename_i Z m p l;split at hk
    ·split at hk
     ·rename_i ka kb h1 h2;split at hk
      ·rename_i hlen;cases hk;obtain⟨a1,a2,b1,b2,J,e2,l1,l2,o1,o2⟩:=qvp he;obtain⟨rfl,rfl⟩:b1=a1∧b2=a2:=by
        rw[J]at e2;have:=List.append_inj e2 (by omega);exact⟨this.1.symm,this.2.symm⟩
       subst J;obtain⟨ti,hti,hsz⟩:=Option.map_eq_some_iff.1 l;have U:aggN P f.type=some (some m):=by grind[aggN]
       intro f' o;rcases List.mem_cons.1 o with rfl|o
       ·refine⟨E,_,qb0 U xs _ w,?_⟩;rw[I];refine C _ Z ka (xs.extract i (i+m)) b1 p h1 o1 (λj e X=> ?_);have hlt:=(List.getElem?_eq_some_iff.1 X).1;obtain⟨v,hv,O⟩:=hx j e (by rw[List.getElem?_append_left hlt];exact X);refine⟨v,?_,O⟩;rw[Array.getElem?_extract];have:=(Array.getElem?_eq_some_iff.1 hv).1;rw[if_pos (by omega)];exact hv
       ·exact qh8 Y n C xs G (i+m) kb b2 h2 o2 (λj e X=>by
         have:=hx (m+j) e (by rw[List.getElem?_append_right (by omega),show m+j-b1.length=j by omega];exact X);rwa [<- Nat.add_assoc]at this) f' o
      ·cases hk
     ·cases hk
    ·cases hk
   ·cases hk
  ·cases hk
theorem qnc {h:Bool} {n:Nat} {t:TypeId} {e:Array Field} {us:Array Value} (hu:P.underlying t=some (.struct e))
  (d: ∀f∈e.toList,f.name≠ "_" ∧ ∃v,(part f.type us f.offset).run P w= .ok v w∧(Instr.checkKey h n f.type v).run P w= .ok () w):(Instr.checkKey h (n+1) t (.agg us)).run P w= .ok () w:=by
 rw[Instr.checkKey];simp only[Sem.run_bind,run_underlying hu,Result.andThen_ok];rw[<- Array.forIn_toList];generalize e.toList=L at d;induction L with
 |nil=>simp
 |cons f L ih=>
  obtain⟨hn,v,p1,p2⟩:=d f (by simp);simp only[List.forIn_cons,Sem.run_bind,hn,ne_eq,not_false_eq_true,if_true,Result.andThen_ok,p1,p2,Sem.run_pure];exact ih (λy hy=>d y (by simp[hy]))
theorem qkh {t:TypeId} {kd:KD} {v:Value} {k:D} (h:kdOf P t=some kd) (p:RV g w v k) (o:kd.fit k k=true) (l:Bool):(Instr.checkKey l 10000 t v).run P w= .ok () w:=by
 rcases qpo h with⟨i,hn⟩|⟨fs,ks,rfl,m,hh,hp⟩
 ·exact run_checkKey i (qkg p (.inl o) hn) l 9999
 ·cases k<;>simp only[KD.fit,jAw]at o
  rename_i as;obtain⟨us,rfl,l1,_,c1⟩:=qdh p;have hc: ∀(j:Nat) (d:D),as[j]? =some d-> ∃v,us.toArray[j]? =some v∧RV g w v d:=λj d i=>by
   have e:j<us.length:=by have:=(jAd.1 i).1;omega
   exact⟨us[j],by simp[e],c1 j _ d (jAa e) i⟩
  refine qnc m (qh8 l 9998 (λt gs ks us as m hs he hx=> ?_) us.toArray fs.toList 0 ks as hp o (by simpa using hc));exact qnc m (qh8 l 9997 (λ_ _ _ _ _ _ h=>by cases h) us gs.toList 0 ks as hs he (by simpa using hx))
theorem qsp: ∀{ks:List CK} {as bs:List D},eqOk ks as bs=true-> ∀(us:List Value),us.length=as.length->(∀(j:Nat) (v:Value) (d:D),us[j]? =some v->as[j]? =some d->RV g w v d) ->((us.zip us).all λ(x,y)=>Instr.sameBits 9999 x y)=true:=by
 intro ks as bs h us hl hc;rw[jAx];intro p hp;obtain⟨j,m,rfl⟩:=jCd hp;simp only[List.length_zip,Nat.min_self]at m;have hb:j<bs.length:=by have:=(qd1 h).1;omega
 simp only[List.getElem_zip];have e:=hc j _ _ (jAa m) (jAa (by omega));rcases q3b h (jAa (i:=j) (by omega)) (jAa hb)with⟨k,x,y,l,_⟩|⟨x,y,l,_⟩|⟨x,y,l,_⟩<;>rw[l]at e
 ·rw[ky e];simp[Instr.sameBits]
 ·rw[y8 e];simp[Instr.sameBits]
 ·rw[qcg e];simp[Instr.sameBits,bytes_beq]
theorem xbz {t:TypeId} {kd:KD} {v:Value} {k:D} (h:kdOf P t=some kd) (e:RV g w v k) (d:kd.fit k k=true):(Instr.keyThatStays v v).run P w= .ok v w:=by
 rcases qpo h with⟨hd,hn⟩|⟨fs,ks,rfl,hu,hh,hp⟩
 ·exact run_keyThatStays (qkg e (.inl d) hn)
 ·cases k<;>simp only[KD.fit,jAw]at d
  obtain⟨us,rfl,l1,_,c1⟩:=qdh e;have:=qsp d us l1 c1;simp[Instr.keyThatStays,Instr.sameBits,this]
theorem qki {t:TypeId} {kd:KD} {v:Value} {k:D} (hkd:kdOf P t=some kd) (hv:RV g w v k) (l:List MapEntry) (es:Ents) (p:l.length=es.length)
  (G: ∀(j:Nat) (e:MapEntry) (x:Nat×D×D),l[j]? =some e->es[j]? =some x->EntIs g w e x) (E:(es.all λe=>kd.fit k e.2.1)=true) (Y:kd.fit k k=true):
  ((Instr.findKey t v l).run P w= .ok none w∧es.find? (qba k)=none∧es.findIdx? (qba k)=none)∨
  ∃(j:Nat) (e:MapEntry) (x:Nat×D×D),(Instr.findKey t v l).run P w= .ok (some (j,e.val)) w∧l[j]? =some e∧es[j]? =some x∧e.key=v∧es.find? (qba k)=some x∧es.findIdx? (qba k)=some j:=by
 rcases qpo hkd with⟨hd,hn⟩|⟨fs,ks,rfl,hu,hh,hp⟩
 ·have O: ∀(l:List MapEntry) (es:Ents) (i:Nat),l.length=es.length->(∀(j:Nat) (e:MapEntry) (x:Nat×D×D),l[j]? =some e->es[j]? =some x->EntIs g w e x) ->(es.all λe=>kd.fit k e.2.1)=true->
    (Instr.findNow kd.desc v l i=some none∧es.find? (qba k)=none∧es.findIdx? (qba k)=none)∨
    ∃(j:Nat) (e:MapEntry) (x:Nat×D×D),Instr.findNow kd.desc v l i=some (some (i+j,e.val))∧l[j]? =some e∧es[j]? =some x∧e.key=v∧es.find? (qba k)=some x∧es.findIdx? (qba k)=some j:=by
   intro l;induction l with
   |nil=>intro es i p _ _;cases es with
    |nil=>exact .inl ⟨rfl,rfl,rfl⟩
    |cons=>simp at p
   |cons e l ih=>
    intro es i p G E;cases es with
    |nil=>simp at p
    |cons x es=>
     simp only[jCy,jAf]at E;have h0:=G 0 e x rfl rfl;have o:=q6c hv h0.key E.1;obtain⟨r,U,Z⟩:=sameNow_of_keys (qkg hv (.inl Y) hn) (qkg h0.key (.inl E.1) hn);cases r with
     |true=>
      have X:=Z.1 rfl;have m:=o.2 X;exact .inr ⟨0,e,x,by simp[Instr.findNow,U],rfl,rfl,X.symm,by grind,by grind⟩
     |false=>
      have C:qba k x=false:=by grind
      rcases ih es (i+1) (by simpa using p) (λj e' x' h1 h2=>G (j+1) e' x' (by simpa using h1) (by simpa using h2)) E.2 with⟨z,q,I⟩|⟨j,e',x',z,q,I,q4,q5,q6⟩
      ·exact .inl ⟨by simp[Instr.findNow,U,z],by simp[List.find?,C,q],by simp[jDi,C,I]⟩
      ·exact .inr ⟨j+1,e',x',by simp[Instr.findNow,U,z];omega,by simpa using q,by simpa using I,q4,by simp[List.find?,C,q5],by simp[jDi,C,q6]⟩
  rcases O l es 0 p G E with⟨z,q⟩|⟨j,e,x,z,q⟩
  ·exact .inl ⟨run_findKey hd z,q⟩
  ·exact .inr ⟨j,e,x,by simpa using run_findKey hd z,q⟩
 ·cases k<;>simp only[KD.fit,jAw]at Y
  rename_i as;have O: ∀(l:List MapEntry) (es:Ents) (i:Nat),l.length=es.length->(∀(j:Nat) (e:MapEntry) (x:Nat×D×D),l[j]? =some e->es[j]? =some x->EntIs g w e x) ->(es.all λe=>(KD.agg ks).fit (.agg as) e.2.1)=true->
    ((Instr.findAsking t v l i).run P w= .ok none w∧es.find? (qba (.agg as))=none∧es.findIdx? (qba (.agg as))=none)∨
    ∃(j:Nat) (e:MapEntry) (x:Nat×D×D),(Instr.findAsking t v l i).run P w= .ok (some (i+j,e.val)) w∧l[j]? =some e∧es[j]? =some x∧e.key=v∧es.find? (qba (.agg as))=some x∧es.findIdx? (qba (.agg as))=some j:=by
   intro l;induction l with
   |nil=>intro es i p _ _;cases es with
    |nil=>exact .inl ⟨rfl,rfl,rfl⟩
    |cons=>simp at p
   |cons e l ih=>
    intro es i p G E;cases es with
    |nil=>simp at p
    |cons x es=>
     simp only[jCy,jAf]at E;have h0:=G 0 e x rfl rfl;have o:=q6c hv h0.key E.1;have M:(Op.equal t v e.key).run P w= .ok (qba (.agg as) x) w:=by
      obtain⟨bn,bk,bv⟩:=x;have hx:=h0.key;have J:=E.1;simp only at hx J;cases bk<;>simp only[KD.fit,jAw]at J
      rename_i bs;obtain⟨us,hus,l1,_,c1⟩:=qdh hv;obtain⟨vs,hvs,l2,_,c2⟩:=qdh hx;have F: ∀{ds:List D} {R:List Value},R.length=ds.length->(∀(j:Nat) (u:Value) (d:D),R[j]? =some u->ds[j]? =some d->RV g w u d) ->
        ∀(j:Nat) (d:D),ds[j]? =some d-> ∃v,R.toArray[0+j]? =some v∧RV g w v d:=by
       intro ds R p U j d hd;have hlt:j<R.length:=by grind
       exact⟨R[j],by simp,U j _ d (jAa hlt) hd⟩
      have hfs:P.fieldsOf t=fs:=by simp[Program.fieldsOf,hu]
      rw[hus,hvs];show(Op.equalIn 10000 t (.agg us.toArray) (.agg vs.toArray)).run P w= .ok (zf as bs) w;rw[show(10000:Nat)=9997+1+1+1 from rfl,run_equalIn_agg w (9997+1+1) t _ _ (by rw[hfs];exact hu) hh,hfs];exact qm8 us.toArray vs.toArray 9997 fs.toList ks as bs hp J (F l1 c1) (F l2 c2)
     cases m:qba (.agg as) x with
     |true=>
      exact .inr ⟨0,e,x,by simp[Instr.findAsking,M,m],rfl,rfl,(o.1 m).symm,by grind,by grind⟩
     |false=>
      rcases ih es (i+1) (by simpa using p) (λj e' x' h1 h2=>G (j+1) e' x' (by simpa using h1) (by simpa using h2)) E.2 with⟨z,q,I⟩|⟨j,e',x',z,q,I,q4,q5,q6⟩
      ·exact .inl ⟨by simp[Instr.findAsking,M,m,z],by simp[List.find?,m,q],by simp[jDi,m,I]⟩
      ·exact .inr ⟨j+1,e',x',by simp[Instr.findAsking,M,m,z];omega,by simpa using q,by simpa using I,q4,by simp[List.find?,m,q5],by simp[jDi,m,q6]⟩
  have hfk:l≠ [] ->(Instr.findKey t v l).run P w=(Instr.findAsking t v l).run P w:=by
   intro C;obtain⟨e,l',rfl⟩:=List.exists_cons_of_ne_nil C;have:Instr.findNow (.struct fs) v (e::l') 0=none:=by simp[Instr.findNow,Instr.sameNow]
   simp[Instr.findKey,run_underlying hu,this]
  cases l with
  |nil=>
   cases es with
   |nil=>exact .inl ⟨by simp[Instr.findKey,run_underlying hu,Instr.findNow],rfl,rfl⟩
   |cons=>simp at p
  |cons e l=>
   rw[hfk (by simp)];rcases O (e::l) es 0 p G E with h|⟨j,e',x,z,q⟩
   ·exact .inl h
   ·exact .inr ⟨j,e',x,by simpa using z,q⟩
theorem qea (hs:SR N T g w st a) {b id:Nat} (i:g b= .obj id) (hm:qo5 st.os id=true):st.os[id]? =some (.map (yl st.os id) (ju st.os id))∧MapIs g w b (yl st.os id) (ju st.os id):=by
 obtain⟨o,d,hn⟩:=hs.ids b id i;obtain⟨b',e,hr⟩:=(hs.objs id o d hn).resolve_right (λh=>h.2 b i);have:b'=b:=hs.inj b' b id e i;subst this;cases o with
 |map es c=>
  have e1:yl st.os id=es:=by simp[yl,d]
  have e2:ju st.os id=c:=by simp[ju,d]
  rw[e1,e2];exact⟨d,hr⟩
 | _=>simp[qo5,d]at hm
theorem qnd {v:Value} {id:Nat} (h:RV g w v (.map id)): ∃b,v= .map (some b)∧g b= .obj id:=by
 cases h with
 |map b _ hg=>grind
theorem qpp {v:Value} (h:RV g w v .nilmap):v= .map none:=by cases h;rfl
theorem qvt {c:Bool} {z:ASlot} {o:Option D} {zv u:Value} (l:RC g w live zv z) (q: ∀d,o=some d->RV g w u d) (hn:o=none->u=zv):
  RS g w live (if c then .tuple #[u,.bool o.isSome]else u) (qfc c z o):=by
 have e: ∀{s:ASlot} {b:Bool},RC g w live u s->RS g w live (.tuple #[u,.bool b]) (.tup [s,.d (.bool b)]):=by
  intro s b h;refine⟨[u,.bool b],rfl,rfl,λi x y p m=> ?_⟩;match i with
  |0=>grind
  |1=>simp at p m;subst p;subst m;exact .bool b
  |i+2=>grind
 cases o with
 |some d=>
  cases c with
  |true=>exact e (q d rfl)
  |false=>exact q d rfl
 |none=>
  have:=hn rfl;subst this;cases c with
  |true=>exact e l
  |false=>exact jk l
theorem qtd {t:TypeId} {z:ASlot} (h:xhk P t=some z): ∃zv,(∀w:World,(zeroValue t).run P w= .ok zv w)∧qj5 zv=some z:=by
 unfold xhk at h;split at h
 ·rename_i i hi;rw[jEc]at h;obtain⟨zv,h1,h2⟩:=h;simp_all[zeroValue,typeInfo]
 grind
theorem qy4 {t X et:TypeId} {x k:Operand} {x' k':Opd} {c:Bool} {kd:KD} {z:ASlot} (Z:oper.op= .lookup t x k c) (Y:P.underlying t=some (.map X et)) (hx:qt x=some x') (hk:qt k=some k')
  (i:kdOf P X=some kd) (hz:xhk P et=some z) (hs:SR N T g w st a) (h:(sem tb (.lookup kd z c x' k') st).ob):yk P g w st a oper (sem tb (.lookup kd z c x' k') st).v:=by
 simp only[sem]at h⊢;obtain⟨o1,o2,h⟩:=h;have M:=xe hs hx o1;have E:=xe hs hk o2;obtain⟨zv,O,m⟩:=qtd hz;cases h1:x'.get st.fr with
 |d p=>
  cases h2:k'.get st.fr with
  |d q=>
   rw[h1]at M;rw[h2]at E;cases p with
   |map id=>
    simp only[h1,h2,km]at h⊢;obtain⟨hm,J⟩:=h;simp only[keyFit,Bool.and_eq_true]at J;obtain⟨b,R,hb⟩:=qnd (wg M);obtain⟨_,l,hh,hl,he⟩:=qea hs hb hm;have C:=λem=>qkh i (wg E) J.1 em;rcases qki i (wg E) l _ hl he J.2 J.1 with⟨I,F,_⟩|⟨j,e,y,I,F,q3,_,U,_⟩
    ·refine⟨_,?_,qvt (u:=zv) (zv:=zv) (o:=qa4 q (yl st.os id)) (qj8 m) (λd G=>by grind[qa4]) (λ_=>rfl)⟩;have:(qa4 q (yl st.os id)).isSome=false:=by simp[qa4,F]
     rw[this];cases c<;>simp[execOp,Z,R,Instr.lookup,run_underlying Y,MapKept.run_getObj_map hh,C,I,O]
    ·have hy:=he j e y F q3;refine⟨_,?_,qvt (u:=e.val) (zv:=zv) (o:=qa4 q (yl st.os id)) (qj8 m) (λd G=>by simp[qa4,U]at G;subst G;exact hy.val) (λhn=>by grind[qa4])⟩;have:(qa4 q (yl st.os id)).isSome=true:=by simp[qa4,U]
     rw[this];cases c<;>simp[execOp,Z,R,Instr.lookup,run_underlying Y,MapKept.run_getObj_map hh,C,I]
   |nilmap=>
    simp only[h1,h2,km]at h⊢;have R:=qpp (wg M);have C:=qkh i (wg E) h true;refine⟨_,?_,qvt (u:=zv) (zv:=zv) (o:=none) (qj8 m) (λd G=>by cases G) (λ_=>rfl)⟩;rcases qki i (wg E) [] [] rfl (by simp) rfl h with⟨I,_⟩|⟨j,e,y,_,F,_⟩
    ·simp_all[execOp,Instr.lookup,run_underlying]
    ·simp at F
   | _=>grind[km,Out.bad]
  | _=>grind[km,Out.bad]
 | _=>grind[km,Out.bad]
theorem q8u {c:Bool} {z:ASlot} {o:Option D} (hz:z.toks= []) (d: ∀l,z≠ .tup l):(qfc c z o).toks= []:=by
 cases c<;>cases o<;>simp only[qfc,ASlot.toks,List.flatMap_cons,List.flatMap_nil,qbt,List.append_nil]
 ·exact hz
 ·cases z<;>first|rfl|grind[ASlot.toks]|exact(d _ rfl).elim
theorem q8v {t kt et:TypeId} {x:Operand} {x':Opd} (o:oper.op= .call {callee:= .builtin .len,args:= #[x],argTypes:= #[t]}) (m:P.underlying t=some (.map kt et)) (hx:qt x=some x')
  (hs:SR N T g w st a) (e:(sem tb (.lenM x') st).ob):yk P g w st a oper (sem tb (.lenM x') st).v:=by
 simp only[sem]at e⊢;obtain⟨o1,e⟩:=e;have h:=xe hs hx o1;cases h1:x'.get st.fr with
 |d p=>
  rw[h1]at h;cases p with
  |map id=>
   simp only[h1,qa6]at e⊢;obtain⟨b,i,hb⟩:=qnd (wg h);obtain⟨_,l,hh,hl,he⟩:=qea hs hb e;exact⟨_,by simp[execOp,o,resolve,invoke,builtin,i,Builtin.len_,run_underlying m,MapKept.run_getObj_map hh,hl,goInt],.int _ _⟩
  |nilmap=>
   simp only[h1,qa6]at e⊢;have i:=qpp (wg h);exact⟨_,by simp[execOp,o,resolve,invoke,builtin,i,Builtin.len_,run_underlying m,goInt],.int _ _⟩
  | _=>grind[qa6,Out.bad]
 | _=>grind[qa6,Out.bad]
theorem qvu {t:TypeId} {x:Operand} {x':Opd} {d:TypeDesc} (ho:oper.op= .makeInterface t x) (ht:P.underlying t=some d) (hni: ∀ms,d≠ .interface ms) (hx:qt x=some x')
  (hs:SR N T g w st a) (e:(sem tb (.mkIface t x') st).ob):yk P g w st a oper (sem tb (.mkIface t x') st).v:=by
 simp only[sem]at e⊢;cases h1:x'.get st.fr with
 |d p=>
  simp only[h1]at e⊢;have h:=xe hs hx e;rw[h1]at h;refine⟨_,?_,.iface t _ _ (wg h)⟩;simp_all[execOp,Instr.makeInterface,Sem.run_bind,run_underlying,Result.andThen_ok]
 | _=>grind[Out.bad]
theorem qvv {t u:TypeId} {x:Operand} {x':Opd} {c:Bool} {d:TypeDesc} (ho:oper.op= .typeAssert x u t c) (ht:P.underlying t=some d) (hni: ∀ms,d≠ .interface ms) (hx:qt x=some x')
  (hs:SR N T g w st a) (e:(sem tb (.assertT t c x') st).ob):yk P g w st a oper (sem tb (.assertT t c x') st).v:=by
 simp only[sem]at e⊢;obtain⟨o1,e⟩:=e;have o:=xe hs hx o1;cases h1:x'.get st.fr with
 |d p=>
  rw[h1]at o;cases p with
  |iface t' y=>
   simp only[h1,qaj]at e⊢;subst e;have l:=wg o;generalize hq:a.eval x=v at l;cases l with
   |iface _ v' _ hv=>
   cases c with
   |true=>
    refine⟨.tuple #[v',.bool true],?_,⟨[v',.bool true],rfl,rfl,λi u s m h=> ?_⟩⟩
    ·simp_all[execOp,Instr.typeAssert,Sem.run_bind,run_underlying,Result.andThen_ok]
    ·match i with
     |0=>simp at m h;subst m;subst h;exact hv
     |1=>simp at m h;subst m;subst h;exact .bool true
     |i+2=>grind
   |false=>
    refine⟨v',?_,hv⟩;simp_all[execOp,Instr.typeAssert,Sem.run_bind,run_underlying,Result.andThen_ok]
  | _=>grind[qaj,Out.bad]
 | _=>grind[qaj,Out.bad]
theorem qy5 {t:TypeId} {back:Nat} (ho:oper.op= .makeMap t none) (hs:SR N T g w st a) (d:(sem tb (.makeMap back) st).ob):
  ∃v w' g',(execOp a.eval oper).run P w= .ok (.value v) w'∧G g w g' w'∧SR N T g' w' (zx st (sem tb (.makeMap back) st).wr) a∧RS g' w' st.live v (sem tb (.makeMap back) st).v:=by
 simp only[sem]at d⊢;obtain⟨_,_,o5⟩:=d;obtain⟨q1,q2⟩:=hs.newObjA (blk:= .map #[] 0) (o:= .map [] 0) o5 (by simp) (λ_ _ _=>⟨[],heap_alloc_new w _,rfl,λi e x he=>by simp⟩) (by simp[AObj.cells]);exact⟨.map (some w.heap.size),_,_,by simp[execOp,ho,Instr.makeMap,newObj,Sem.run],q1,q2,.map _ _ (Ghost.at_same _ _ _)⟩
theorem SR.setBlk {w1:World} {b id:Nat} {o:AObj} {blk0 blk1:Obj} (hs:SR N T g w st a) (hb:g b= .obj id) (h0:w.heap[b]? =some blk0) (hz: ∀c e z,blk0≠ .cells c e z) (hw1:w1=w∨w1=w.drew)
  (hro:RowsKept g w g {w1 with heap:=w1.heap.setIfInBounds b blk1} ->{w1 with heap:=w1.heap.setIfInBounds b blk1}.heap[b]? =some blk1->(∀{v:Value} {s:ASlot},RC g w st.live v s->RC g {w1 with heap:=w1.heap.setIfInBounds b blk1} st.live v s) ->RO g {w1 with heap:=w1.heap.setIfInBounds b blk1} st.live b o)
  (hnn:o≠ .none) (htok: ∀s∈o.cells,∀t∈s.toks,T t):
  G g w g {w1 with heap:=w1.heap.setIfInBounds b blk1}∧SR N T g {w1 with heap:=w1.heap.setIfInBounds b blk1} {st with os:=st.os.set id o} a:=by
 have hh:w1.heap=w.heap:=by rcases hw1 with rfl|rfl<;>rfl
 have hlt:b<w.heap.size:=(Array.getElem?_eq_some_iff.1 h0).1
 have hnew:{w1 with heap:=w1.heap.setIfInBounds b blk1}.heap[b]? =some blk1:=by grind
 have hoth: ∀k,k≠b->{w1 with heap:=w1.heap.setIfInBounds b blk1}.heap[k]? =w.heap[k]? :=fun k hk=>by grind
 have hsz:{w1 with heap:=w1.heap.setIfInBounds b blk1}.heap.size=w.heap.size:=by simp[hh]
 have hb0:qcw w b=0:=by
  unfold qcw
  grind
 have hbs: ∀k,qcw w k<=qcw {w1 with heap:=w1.heap.setIfInBounds b blk1} k:=fun k=>by
  grind[Nat.le_of_eq,jf]
 have nrow: ∀k n o,g k= .row n o->k≠b:=by grind
 have hG:G g w g {w1 with heap:=w1.heap.setIfInBounds b blk1}:=
  ⟨by rcases hw1 with rfl|rfl<;>rfl,by rcases hw1 with rfl|rfl<;>rfl,by rcases hw1 with rfl|rfl<;>rfl,by omega,fun k hk hgk=>⟨hoth k (by grind),hgk⟩,fun k m hk hgk=>⟨hoth k (nrow k _ _ hgk),hgk⟩,
   fun k m t hk hgk=>⟨m,some t,hgk,Nat.le_refl _,fun i v _ hv=>by grind[jw]⟩,fun k id hk hgk=>⟨hgk,hbs k⟩⟩
 have hidlt:id<st.os.length:=by
  obtain⟨o',ho',_⟩:=hs.ids b id hb
  grind
 refine⟨hG,hs.setObjA hidlt hG (hs.dom.of hG fun k hk=>hs.dom.1 k (by omega)) hb (fun _ _=>rfl) (fun k hk _=>hoth k hk) (.inr hb) (fun k hk=>hs.inj k b id hk hb) ?_ hnn htok⟩
 exact hro (hG.rowsKept hs.dom) hnew (fun h=>RC.keep hG hs.dom (fun k n o hk=>⟨hk,hoth k (nrow k n o hk)⟩) (fun k t hk=>⟨hk,hoth k (by grind)⟩) h)
theorem EntIs.mono {g':Ghost} {w':World} {e:MapEntry} {x:Nat×D×D} (h:EntIs g w e x) (d:RowsKept g w g' w'):EntIs g' w' e x:=
 ⟨h.born,h.key.mono_noPtr d h.kp,h.val.mono_noPtr d h.vp,h.kp,h.vp⟩
theorem xb0 {kd:KD} {k:D} (h:kd.fit k k=true):k.noPtr=true:=by
 cases kd with
 |agg ks=>
  cases k<;>simp only[KD.fit,jAw]at h
  exact(D.noPtrL_iff _).2 (qd1 h).2.2
 | _=>cases k<;>simp[KD.fit]at h<;>rfl
theorem qsq {t kt et:TypeId} {x k v:Operand} {x' k' v':Opd} {kd:KD} (ho:oper.op= .mapUpdate t x k v∨oper.op= .insert t x k v) (ht:P.underlying t=some (.map kt et)) (hx:qt x=some x') (hk:qt k=some k') (hv:qt v=some v')
  (hkd:kdOf P kt=some kd) (hs:SR N T g w st a) (hob:(sem tb (.mapUpdate kd x' k' v') st).ob):
  ∃w',(execOp a.eval oper).run P w= .ok .skip w'∧G g w g w'∧SR N T g w' (zx st (sem tb (.mapUpdate kd x' k' v') st).wr) a:=by
 simp only[sem]at hob⊢
 obtain⟨o1,o2,o3,hob⟩:=hob
 have r1:=xe hs hx o1
 have r2:=xe hs hk o2
 have r3:=xe hs hv o3
 cases h1:x'.get st.fr with
 |d p=>
  cases h2:k'.get st.fr with
  |d q=>
   cases h3:v'.get st.fr with
   |d u=>
    rw[h1]at r1;rw[h2]at r2;rw[h3]at r3
    cases p with
    |map id=>
     simp only[h1,h2,h3,zb]at hob⊢
     obtain⟨hm,hf,hup⟩:=hob
     simp only[keyFit,Bool.and_eq_true]at hf
     obtain⟨b,hxv,hb⟩:=qnd (wg r1)
     obtain⟨_,l,hh,hl,he⟩:=qea hs hb hm
     have hck:=fun em=>qkh hkd (wg r2) hf.1 em
     have ent: ∀n,EntIs g w {key:=a.eval k,val:=a.eval v,born:=n} (n,q,u):=fun n=>⟨rfl,wg r2,wg r3,xb0 hf.1,hup⟩
     rcases qki hkd (wg r2) l _ hl he hf.2 hf.1 with⟨q1,_,q3⟩|⟨j,e,y,q1,q2,q3,q4,_,q6⟩
     ·obtain⟨p1,p2⟩:=hs.setBlk (w1:=w) (blk1:= .map (l++ [({key:=a.eval k,val:=a.eval v,born:=ju st.os id}:MapEntry)]).toArray (ju st.os id+1)) (o:= .map (qg9 q u (ju st.os id) (yl st.os id)) (qbz q (ju st.os id) (yl st.os id))) hb hh (by simp) (.inl rfl)
       (fun hr hn _=>by
        simp only[qg9,qbz,q3]
        refine⟨_,hn,by simp[hl],fun i e' y' he' hy'=> ?_⟩
        rcases Nat.lt_or_ge i l.length with hi|hi
        ·rw[List.getElem?_append_left hi]at he'
         rw[List.getElem?_append_left (by omega)]at hy'
         exact(he i e' y' he' hy').mono hr
        ·rw[List.getElem?_append_right hi]at he'
         rw[List.getElem?_append_right (by omega),<- hl]at hy'
         cases hz:i-l.length with
         |zero=>rw[hz]at he' hy';simp at he' hy';subst he';subst hy';exact(ent _).mono hr
         |succ n=>grind) (by simp) (by simp[AObj.cells])
      refine⟨_,?_,p1,p2⟩
      rcases ho with ho|ho<;>simp[execOp,ho,hxv,Instr.mapUpdate,run_underlying ht,MapKept.run_getObj_map hh,hck,q1,run_setObj_map _ hh]
     ·have hjl:j<l.length:=(List.getElem?_eq_some_iff.1 q2).1
      obtain⟨p1,p2⟩:=hs.setBlk (w1:=w) (blk1:= .map (l.toArray.modify j fun e=>{e with key:=a.eval k,val:=a.eval v}) (ju st.os id)) (o:= .map (qg9 q u (ju st.os id) (yl st.os id)) (qbz q (ju st.os id) (yl st.os id))) hb hh (by simp) (.inl rfl)
       (fun hr hn _=>by
        simp only[qg9,qbz,q6]
        refine⟨l.modify j fun e=>{e with key:=a.eval k,val:=a.eval v},by grind,by simp[hl],fun i e' y' he' hy'=> ?_⟩
        rw[List.getElem?_modify]at he' hy'
        by_cases hij:j=i
        ·subst hij
         rw[q2]at he'
         rw[q3]at hy'
         simp at he' hy'
         subst he';subst hy'
         have hb0:=(he j e y q2 q3).born
         exact⟨hb0,(ent 0).key.mono_noPtr hr (ent 0).kp,(ent 0).val.mono_noPtr hr (ent 0).vp,(ent 0).kp,(ent 0).vp⟩
        ·simp[hij]at he' hy'
         exact(he i e' y' he' hy').mono hr) (by simp) (by simp[AObj.cells])
      refine⟨_,?_,p1,p2⟩
      rcases ho with ho|ho<;>simp[execOp,ho,hxv,Instr.mapUpdate,run_underlying ht,MapKept.run_getObj_map hh,hck,q1,q2,q4,xbz hkd (wg r2) hf.1,run_setObj_map _ hh]
    | _=>grind[zb,Out.bad]
   | _=>grind[zb,Out.bad]
  | _=>grind[zb,Out.bad]
 | _=>grind[zb,Out.bad]
theorem q3c {t kt et:TypeId} {x k:Operand} {x' k':Opd} {kd:KD} {ts:Array TypeId} (ho:oper.op= .call {callee:= .builtin .delete,args:= #[x,k],argTypes:=ts}) (I:ts[0]? =some t) (ht:P.underlying t=some (.map kt et)) (hx:qt x=some x') (hk:qt k=some k')
  (J:kdOf P kt=some kd) (hs:SR N T g w st a) (z:(sem tb (.delete kd x' k') st).ob):
  ∃v w' g',(execOp a.eval oper).run P w= .ok (.value v) w'∧G g w g' w'∧SR N T g' w' (zx st (sem tb (.delete kd x' k') st).wr) a∧RS g' w' st.live v (sem tb (.delete kd x' k') st).v:=by
 simp only[sem]at z⊢;obtain⟨o1,o2,z⟩:=z;have r1:=xe hs hx o1;have X:=xe hs hk o2;cases h1:x'.get st.fr with
 |d p=>
  cases h2:k'.get st.fr with
  |d q=>
   rw[h1]at r1;rw[h2]at X;cases p with
   |map id=>
    simp only[h1,h2,vd]at z⊢;obtain⟨hm,R⟩:=z;simp only[keyFit,Bool.and_eq_true]at R;obtain⟨b,F,hb⟩:=qnd (wg r1);obtain⟨_,l,E,hl,U⟩:=qea hs hb hm;have M:=λem=>qkh J (wg X) R.1 em;have C: ∀{w':World},RS g w' st.live (.tuple #[]) (.tup []):=⟨[],rfl,rfl,λi u s hu=>by simp⟩;rcases qki J (wg X) l _ hl U R.2 R.1 with⟨Y,_,q3⟩|⟨j,e,y,Y,q2,q3,q4,_,q6⟩
    ·obtain⟨p1,Z⟩:=hs.setBlk (w1:=w) (blk1:= .map l.toArray (ju st.os id)) (o:= .map (qo6 q (yl st.os id)) (ju st.os id)) hb E (by simp) (.inl rfl)
      (λO hn _=>by
       simp only[qo6,q3];exact⟨l,hn,hl,λi e' y' m h=>(U i e' y' m h).mono O⟩) (by simp) (by simp[AObj.cells])
     refine⟨_,_,_,?_,p1,Z,C⟩;simp[execOp,ho,resolve,invoke,builtin,F,Builtin.delete_,I,run_underlying ht,MapKept.run_getObj_map E,M,Y,run_setObj_map _ E]
    ·obtain⟨p1,Z⟩:=hs.setBlk (w1:=w) (blk1:= .map (l.toArray.eraseIdxIfInBounds j) (ju st.os id)) (o:= .map (qo6 q (yl st.os id)) (ju st.os id)) hb E (by simp) (.inl rfl)
      (λO hn _=>by
       simp only[qo6,q6];have hjl:j<l.length:=(List.getElem?_eq_some_iff.1 q2).1;refine⟨l.eraseIdx j,by grind,by grind,λi e' y' m h=> ?_⟩;rw[List.getElem?_eraseIdx]at m h;split at m
       ·rename_i hi;rw[if_pos hi]at h;exact(U i e' y' m h).mono O
       ·rename_i hi;rw[if_neg hi]at h;exact(U (i+1) e' y' m h).mono O) (by simp) (by simp[AObj.cells])
     refine⟨_,_,_,?_,p1,Z,C⟩;simp[execOp,ho,resolve,invoke,builtin,F,Builtin.delete_,I,run_underlying ht,MapKept.run_getObj_map E,M,Y,run_setObj_map _ E]
   | _=>grind[vd,Out.bad]
  | _=>grind[vd,Out.bad]
 | _=>grind[vd,Out.bad]
theorem q3d {t z C:TypeId} {x:Operand} {x':Opd} {back:Nat} (F:oper.op= .range t x) (E:P.underlying t=some (.map z C)) (hx:qt x=some x') (hs:SR N T g w st a) (e:(sem tb (.rangeM back x') st).ob):
  ∃v w' g',(execOp a.eval oper).run P w= .ok (.value v) w'∧G g w g' w'∧SR N T g' w' (zx st (sem tb (.rangeM back x') st).wr) a∧RS g' w' st.live v (sem tb (.rangeM back x') st).v:=by
 simp only[sem]at e⊢;obtain⟨o1,e⟩:=e;have i:=xe hs hx o1;cases h1:x'.get st.fr with
 |d p=>
  rw[h1]at i;cases p with
  |map id=>
   simp only[h1,jy]at e⊢;obtain⟨hm,_,_,u⟩:=e;obtain⟨b,h,I⟩:=qnd (wg i);obtain⟨_,l,hh,hl,he⟩:=qea hs I hm;obtain⟨q,m⟩:=hs.newObjA (blk:= .mapIter (some b) (ju st.os id) #[] (ju st.os id)) (o:= .iter (.d (.map id)) (ju st.os id) [] (ju st.os id)) u (by simp)
    (λhG _ keep=>⟨some b,heap_alloc_new w _,keep (s:= .d (.map id)) (RV.map b id I)⟩) (by simp[AObj.cells])
   exact⟨_,_,_,by simp[execOp,F,h,run_range_map w t z C b l.toArray _ E hh],q,m,.ptr _ _ _ (Ghost.at_same _ _ _)⟩
  |nilmap=>
   simp only[h1,jy]at e⊢;obtain⟨_,_,u⟩:=e;have h:=qpp (wg i);obtain⟨q,m⟩:=hs.newObjA (blk:= .mapIter none 0 #[] 0) (o:= .iter (.d .nilmap) 0 [] 0) u (by simp)
    (λhG _ keep=>⟨none,heap_alloc_new w _,keep (s:= .d .nilmap) RV.nilmap⟩) (by simp[AObj.cells])
   exact⟨_,_,_,by simp[execOp,F,h,run_range_nilMap w t z C E],q,m,.ptr _ _ _ (Ghost.at_same _ _ _)⟩
  | _=>grind[jy,Out.bad]
 | _=>grind[jy,Out.bad]
def qpq:ASlot:= .tup [.d (.bool false)]
def entV (e:Nat×D×D):ASlot:= .tup [.d (.bool true),.d e.2.1,.d e.2.2]
structure IterOn (os:List AObj) (iid mid since:Nat) (seen:List Nat) (last:Nat) (es:Ents) (clock:Nat):Prop where
 iter:os[iid]? =some (.iter (.d (.map mid)) since seen last)
 map:os[mid]? =some (.map es clock)
 old: ∀e∈es,e.1<since
 le:since<=last
theorem q8w {x:Operand} {x':Opd} {p mid since last clock:Nat} {seen:List Nat} {es:Ents} (ho:oper.op= .next x false) (hx:qt x=some x') (hs:SR N T g w st a) (hok:x'.ok st.fr=true) (hg:x'.get st.fr= .d (.ptr p 0)) (h:IterOn st.os p mid since seen last es clock):
  (qf7 es seen= []∧ ∃v,(execOp a.eval oper).run P w= .ok (.value v) w∧RS g w st.live v qpq)∨
  ∃e∈qf7 es seen,∃v w',(execOp a.eval oper).run P w= .ok (.value v) w'∧G g w g w'∧SR N T g w' {st with os:=st.os.set p (.iter (.d (.map mid)) since (seen++ [e.1]) clock)} a∧RS g w' st.live v (entV e):=by
 have r1:=xe hs hx hok;rw[hg]at r1;have E:=wg r1;generalize hq:a.eval x=xv at E;cases E with
 |ptr r _ _ hgr=>
 obtain⟨r',hr',hri⟩:=(hs.objs p _ h.iter (by simp)).resolve_right (λh=>by cases h.1);have:r'=r:=hs.inj r' r p hr' hgr;subst this;obtain⟨o,F,J⟩:=hri;have I:RV g w (.map o) (.map mid):=J;obtain⟨bm,hbm,hgm⟩:=qnd I;cases hbm;obtain⟨q,U,hmi⟩:=(hs.objs mid _ h.map (by simp)).resolve_right (λh=>by cases h.1);have:q=bm:=hs.inj q bm mid U hgm;subst this;obtain⟨l,hh,hl,R⟩:=hmi;have hold: ∀x∈l.toArray.toList,x.born<since:=by
  intro y hy;obtain⟨i,hi⟩:=List.mem_iff_getElem?.1 (by omega);have M:i<es.length:=by grind
  have:=R i y es[i] hi (List.getElem?_eq_getElem M);rw[this.born];exact h.old _ (List.getElem_mem M)
 have C: ∀(l:List MapEntry) (es:Ents),l.length=es.length->(∀(i:Nat) (e:MapEntry) (x:Nat×D×D),l[i]? =some e->es[i]? =some x->EntIs g w e x) ->
   ((l.filter λe=> !seen.toArray.contains e.born)= []↔qf7 es seen= [])∧ ∀e∈l.filter (λe=> !seen.toArray.contains e.born),∃x∈qf7 es seen,EntIs g w e x:=by
  intro l;induction l with
  |nil=>grind[qf7]
  |cons e l ih=>
   intro es hl R;cases es with
   |nil=>grind
   |cons y es=>
    obtain⟨k1,k2⟩:=ih es (by grind) (λi e' x' h1 h2=>R (i+1) e' x' (by grind) (by grind));have h0:=R 0 e y rfl rfl;have hb:seen.toArray.contains e.born=seen.contains y.1:=by rw[h0.born];simp
    cases hc:seen.contains y.1 with
    |true=>
     have e1:(!seen.toArray.contains e.born)=false:=by grind
     have e2:qf7 (y::es) seen=qf7 es seen:=by grind[qf7]
     grind
    |false=>
     have e1:(!seen.toArray.contains e.born)=true:=by grind
     have e2:qf7 (y::es) seen=y::qf7 es seen:=by grind[qf7]
     grind
 obtain⟨Y,X⟩:=C l es hl R;have hlo:(leftOf l.toArray seen.toArray).toList=l.filter λe=> !seen.toArray.contains e.born:=by simp[leftOf]
 rcases run_next_at (P:=P) w oper.type r' q since last seen.toArray l.toArray clock F hh hold h.le with⟨q1,q2⟩|⟨e,O,w1,Z,q2⟩
 ·refine .inl ⟨Y.1 ?_,.tuple #[.bool false],by simp_all[execOp],[.bool false],rfl,rfl,λi u s z m=> ?_⟩
  ·grind
  ·match i with
   |0=>simp at z m;subst z;subst m;exact .bool false
   |i+1=>grind
 ·rw[hlo]at O;obtain⟨y,hy,t⟩:=X e O;refine .inr ⟨y,hy,.tuple #[.bool true,e.key,e.val],ChangeMaps.setBlock w1 r' (.mapIter (some q) since (seen.toArray.push e.born) clock),by grind[execOp,Sem.run_bind,Result.andThen_ok,Sem.run_pure],?_⟩;obtain⟨p1,p2⟩:=hs.setBlk (w1:=w1) (id:=p) (blk1:= .mapIter (some q) since (seen.toArray.push e.born) clock) (o:= .iter (.d (.map mid)) since (seen++ [y.1]) clock) hgr F (by simp) Z
   (λ_ hn keep=>⟨some q,by rw[hn,t.born];simp,keep (s:= .d (.map mid)) J⟩) (by simp) (by simp[AObj.cells])
  refine⟨p1,p2,[.bool true,e.key,e.val],rfl,rfl,λi u s z m=> ?_⟩;have hk:=p1.rowsKept hs.dom;match i with
  |0=>simp at z m;subst z;subst m;exact .bool true
  |1=>simp at z m;subst z;subst m;exact t.key.mono_noPtr hk t.kp
  |2=>simp at z m;subst z;subst m;exact t.val.mono_noPtr hk t.vp
  |i+3=>grind
structure EntryOn (os:List AObj) (iid mid since:Nat) (seen:List Nat) (clock:Nat) (es:Ents) (e:Nat×D×D):Prop where
 iter:os[iid]? =some (.iter (.d (.map mid)) since seen clock)
 map:os[mid]? =some (.map es clock)
 last:seen.getLast?=some e.1
 ent:es.find? (λx=>x.1==e.1)=some e
theorem q3e {x:Operand} {x':Opd} {m mid since clock:Nat} {seen:List Nat} {es:Ents} {e:Nat×D×D} (ho:oper.op= .entry x) (hx:qt x=some x') (hs:SR N T g w st a) (hok:x'.ok st.fr=true) (hg:x'.get st.fr= .d (.ptr m 0))
  (h:EntryOn st.os m mid since seen clock es e): ∃v,(execOp a.eval oper).run P w= .ok (.value v) w∧RS g w st.live v (.tup [.d e.2.1,.d e.2.2]):=by
 have Z:=xe hs hx hok;rw[hg]at Z;have t:=wg Z;generalize hq:a.eval x=xv at t;cases t with
 |ptr r _ _ hgr=>
 obtain⟨r',M,J⟩:=(hs.objs m _ h.iter (by simp)).resolve_right (λh=>by cases h.1);have:r'=r:=hs.inj r' r m M hgr;subst this;obtain⟨o,hro,O⟩:=J;have C:RV g w (.map o) (.map mid):=O;obtain⟨bm,Y,U⟩:=qnd C;cases Y;obtain⟨F,E,R⟩:=(hs.objs mid _ h.map (by simp)).resolve_right (λh=>by cases h.1);have:F=bm:=hs.inj F bm mid E U;subst this;obtain⟨l,hh,hl,I⟩:=R;have find: ∀(l:List MapEntry) (es:Ents),l.length=es.length->(∀(i:Nat) (e:MapEntry) (x:Nat×D×D),l[i]? =some e->es[i]? =some x->EntIs g w e x) ->es.find? (λx=>x.1==e.1)=some e->
   ∃y,l.find? (λx=>x.born==e.1)=some y∧EntIs g w y e:=by
  intro l;induction l with
  |nil=>grind
  |cons y l ih=>
   intro es hl I X;cases es with
   |nil=>grind
   |cons z es=>
    have h0:=I 0 y z rfl rfl;rw[jB7]at X⊢;rw[h0.born];cases hc:(z.1==e.1)with
    |true=>grind
    |false=>rw[hc]at X;exact ih es (by grind) (λi e' x' h1 h2=>I (i+1) e' x' (by grind) (by grind)) X
 obtain⟨y,hy,q⟩:=find l es hl I h.ent;have hback:seen.toArray.back?=some e.1:=by simpa using h.last
 refine⟨.tuple #[y.key,y.val],?_,[y.key,y.val],rfl,rfl,λi u s G p=> ?_⟩
 ·simp_all[execOp,Instr.entry,getObj,Sem.run]
 ·match i with
  |0=>simp at G p;subst G;subst p;exact q.key
  |1=>simp at G p;subst G;subst p;exact q.val
  |i+2=>grind
theorem qy6 {x:Operand} {x':Opd} {e since last:Nat} {seen:List Nat} (ho:oper.op= .next x false) (hx:qt x=some x') (hs:SR N T g w st a) (hok:x'.ok st.fr=true) (hg:x'.get st.fr= .d (.ptr e 0)) (h:st.os[e]? =some (.iter (.d .nilmap) since seen last)):
  ∃v,(execOp a.eval oper).run P w= .ok (.value v) w∧RS g w st.live v qpq:=by
 have E:=xe hs hx hok;rw[hg]at E;have m:=wg E;generalize hq:a.eval x=xv at m;cases m with
 |ptr r _ _ hgr=>
 obtain⟨r',z,t⟩:=(hs.objs e _ h (by simp)).resolve_right (λh=>by cases h.1);have:r'=r:=hs.inj r' r e z hgr;subst this;obtain⟨o,q,C⟩:=t;have p:RV g w (.map o) .nilmap:=C;cases p;refine⟨.tuple #[.bool false],?_,[.bool false],rfl,rfl,λi u s F l=> ?_⟩
 ·simp[execOp,ho,hq,Instr.next,getObj,Sem.run,q]
 ·match i with
  |0=>simp at F l;subst F;subst l;exact .bool false
  |i+1=>grind
def yq (os:List AObj) (id es n:Nat) (r:Src):List ASlot:=(qi os id).take (n*es)++r.rows.flatten.map .d
structure AppR (os:List AObj) (es bytes back:Nat) (id n:Nat) (r:Src):Prop where
 ok:r.ok
 row:qf8 os id=true
 len:n*es<=(qi os id).length
 pos:0<r.rows.length
 by48:(n+r.rows.length)*bytes<=140737488355328
 i63:n+r.rows.length<=9223372036854775807
 none:os[os.length-back]? =some .none
theorem qy7 {t u e:TypeId} {s x:Operand} {s' x':Opd} {i:TypeInfo} {z:List D} {back id n:Nat} {r:Src} (ho:oper.op= .call {callee:= .builtin .append,args:= #[s,x],argTypes:= #[t,u]})
  (ht:P.underlying t=some (.slice e)) (hi:P.info? e=some i) (hz:jg P e=some z) (hsz:i.size=z.length) (hb:0<i.bytes)
  (hu:(∃f,P.underlying u=some (.slice f))∨P.underlying u=some .string) (hs':qt s=some s') (hx':qt x=some x') (hs:SR N T g w st a)
  (o1:s'.ok st.fr=true) (o2:x'.ok st.fr=true) (F:s'.get st.fr= .d (.ref id 0 i.size n)) (hsrc:y7 i.size st.os (x'.get st.fr)=some r) (hA:AppR st.os i.size i.bytes back id n r):
  ∃v w' g',(execOp a.eval oper).run P w= .ok (.value v) w'∧G g w g' w'∧
   ((SR N T g' w' {st with os:=st.os.set id (.row (yq st.os id i.size n r))} a∧RS g' w' st.live v (.d (.ref id 0 i.size (n+r.rows.length))))∨
    (SR N T g' w' {st with os:=st.os.set (st.os.length-back) (.row (yq st.os id i.size n r))} a∧RS g' w' st.live v (.d (.ref (st.os.length-back) 0 i.size (n+r.rows.length))))):=by
 obtain⟨hrok,hrow,hlen,hpos,hby,h63,hnone⟩:=hA;have rs:=xe hs hs' o1;have rx:=xe hs hx' o2;rw[F]at rs;obtain⟨i',zv,hi',hzv,hzm⟩:=ko hz;rw[hi]at hi';cases hi';have hzs:zv.cells.size=i.size:=by have:=(jz hzm).1;grind
 obtain⟨hes,news,hrl,E,X,_⟩:=qfl (P:=P) hs rx hsrc hrok;have h2:news.length=r.rows.length*i.size:=by rw[hrl.1,xi hes]
 have hfl:r.rows.flatten.length=r.rows.length*i.size:=xi hes;have exec: ∀base cap v w',a.eval s= .slice base n cap->(Builtin.append_ #[t,u] oper.type #[.slice base n cap,a.eval x]).run P w= .ok v w'->(execOp a.eval oper).run P w= .ok (.value v) w':=by
  simp_all[execOp,resolve,invoke,builtin]
 have Z: ∀s∈yq st.os id i.size n r,∀t∈s.toks,T t:=by
  intro s hsm t ht;rcases List.mem_append.1 hsm with h|h
  ·have hm:=List.mem_of_mem_take h;unfold qi at hm;split at hm
   ·rename_i o ho;exact hs.wf.os id o ho s hm t ht
   grind
  ·obtain⟨d,_,rfl⟩:=List.mem_map.1 h;grind[ASlot.toks]
 have hcl:(yq st.os id i.size n r).length=n*i.size+r.rows.length*i.size:=by
  grind[yq,List.length_append,List.length_take,List.length_map]
 have M: ∀(j:Nat) (d:D),r.rows.flatten[j]? =some d-> ∃u,news[j]? =some u∧u.oneCell'=true∧RV g w u d:=by
  intro j d hd;have q:j<news.length:=by grind
  have hr:=hrl.2.2 j _ d (List.getElem?_eq_getElem q) hd;exact⟨news[j],List.getElem?_eq_getElem q,hr.oneCell (hrl.2.1 d (List.mem_of_getElem? hd)),hr⟩
 have J: ∀(j:Nat) (s:ASlot),(yq st.os id i.size n r)[j]? =some s->(j<n*i.size∧(qi st.os id)[j]? =some s)∨(n*i.size<=j∧ ∃d,s= .d d∧r.rows.flatten[j-n*i.size]? =some d):=by
  grind[yq,qi,id,List.length_take,List.getElem?_append_left]
 have U: ∀base cap (olds:List Value),a.eval s= .slice base n cap->cap<n+r.rows.length->cap<=maxLen->olds.length=n*i.size->(Builtin.firstCells i.size n (.slice base n cap)).run P w.drew= .ok olds.toArray w.drew->
   (∀(j:Nat) (s:ASlot),j<n*i.size->(qi st.os id)[j]? =some s-> ∃v,olds[j]? =some v∧v.oneCell'=true∧RC g w st.live v s) ->
   ∃v w' g',(execOp a.eval oper).run P w= .ok (.value v) w'∧G g w g' w'∧SR N T g' w' {st with os:=st.os.set (st.os.length-back) (.row (yq st.os id i.size n r))} a∧RS g' w' st.live v (.d (.ref (st.os.length-back) 0 i.size (n+r.rows.length))):=by
  intro base cap olds hv hn hcm hol hfc hold;have hfit:Builtin.nextslicecap (n+r.rows.length) cap*i.bytes<=281474976710656:=growslice_fits (by omega) hby;have l:=qb2 (P:=P) (w:=w) (ty:=oper.type) ht hi hzv hu (by omega) base n cap E.1 X hfc hn hfit;have hge:=grownCap_ge w (n+r.rows.length) cap e;have hle:=grownCap_le_maxLen w (n+r.rows.length) cap e (by grind[maxLen]);generalize hzz:Builtin.zeroCells zv.cells (grownCap w (n+r.rows.length) cap e-(n+r.rows.length))=zz at l;have hzzs:zz.size=(grownCap w (n+r.rows.length) cap e-(n+r.rows.length))*i.size:=by grind[qd0]
  have hwd:w.drew={w with drawn:=w.drawn+1}:=rfl;have hsd:SR N T g w.drew st a:=by rw[hwd];exact hs.drew
  have hGd:G g w g w.drew:=⟨rfl,rfl,rfl,Nat.le_refl _,λ_ _ h=>⟨rfl,h⟩,λ_ _ _ h=>⟨rfl,h⟩,λ_ n t _ h=>⟨n,some t,h,Nat.le_refl _,λ_ _ _ h=>h⟩,λ_ _ _ h=>⟨h,Nat.le_refl _⟩⟩;have keepd: ∀{v:Value} {y:ASlot},RC g w st.live v y->RC g w.drew st.live v y:=λh=>RC.keep hGd hs.dom (λ_ _ _ h=>⟨h,rfl⟩) (λ_ _ h=>⟨h,rfl⟩) h;have harr:(olds.toArray++news.toArray++zz)=(olds++news++zz.toList).toArray:=by simp
  rw[harr]at l;obtain⟨q1,q2⟩:=hsd.newObj (e:=e) (vs:=olds++news++zz.toList) (new:=yq st.os id i.size n r) hnone (by grind) (λj y R=>by
   rcases J j y R with⟨h,hc⟩|⟨h,d,rfl,hd⟩
   ·grind
   ·obtain⟨v,v1,v2,v3⟩:=M _ d hd;have q:j-n*i.size<news.length:=(List.getElem?_eq_some_iff.1 v1).1;exact⟨v,by grind,v2,keepd v3⟩) Z
  refine⟨_,_,_,exec _ _ _ _ hv l,hGd.trans q1,q2,?_⟩;refine .ref _ 0 _ _ _ _ (Ghost.at_same _ _ _) hge hle ?_;have O:(w.drew.alloc (.cells (olds++news++zz.toList).toArray e)).heap[w.heap.size]? =some (.cells (olds++news++zz.toList).toArray e (0,0)):=heap_alloc_new w.drew _;rw[k7 O];have h3:(olds++news++zz.toList).toArray.size=olds.length+news.length+zz.size:=by grind
  rw[h3,hol,h2,hzzs,<- Nat.add_mul,<- Nat.add_mul,Nat.zero_add];grind
 have hrv:=wg rs;generalize hvv:a.eval s=v0 at hrv;cases hrv with
 |refnil ad=>
  have hfc:(Builtin.firstCells i.size 0 (.slice ad 0 0)).run P w.drew= .ok #[] w.drew:=by
   cases ad with
   |none=>rfl
   |some a0=>grind[run_firstCells_some]
  obtain⟨v,w',g',k1,k2,k3,k4⟩:=U ad 0 [] hvv (by omega) (by simp) (by simp) hfc (λj y R _=>by omega);grind
 |ref b _ _ _ _ cap hg hcap hmx hbs=>
  obtain⟨c,e0,C,hsize,hcells⟩:=qoj hs hg hrow;rw[k7 C,Nat.zero_add]at hbs;have hnc:n*i.size<=cap*i.size:=Nat.mul_le_mul_right _ hcap;have hq:c.toList.length=c.size:=Array.length_toList;by_cases hn:n+r.rows.length<=cap
  ·have l:=ya (P:=P) (w:=w) (ty:=oper.type) ht hi hu ⟨b,0,none⟩ n cap E hn;have hsz2:(n+r.rows.length)*i.size<=cap*i.size:=Nat.mul_le_mul_right _ hn;rw[Nat.add_mul]at hsz2;have hone: ∀v∈news,v.oneCell'=true:=by
    intro v hv;obtain⟨j,R⟩:=List.getElem?_of_mem hv;have q:j<r.rows.flatten.length:=by grind
    obtain⟨u,u1,u2,_⟩:=M j _ (List.getElem?_eq_getElem q);grind
   have hst:=run_storeCells_at P b (n*i.size) e0 news 0 c w C (by omega) hone;rw[Addr.add_lit,Nat.zero_add]at l;rw[hst]at l;simp only[Nat.add_zero,Result.andThen_ok]at l;generalize hc':(c.toList.take (n*i.size)++news++c.toList.drop (n*i.size+news.length)).toArray=c' at l;have O:(w.setRow b c').heap[b]? =some (.cells c' e0 (0,0)):=setRow_heap w b c c' e0 (0,0) C;have p: ∀k,k≠b->(w.setRow b c').heap[k]? =w.heap[k]? :=λk F=>setRow_other w b k c' F;have hwsz:(w.setRow b c').heap.size=w.heap.size:=by simp
   have hlen':c'.size=c.size:=by
    grind
   have hlow: ∀j,j<n*i.size->c'[j]? =c[j]? :=by
    grind
   have hput: ∀(j:Nat) (v:Value),news[j]? =some v->c'[n*i.size+j]? =some v:=by
    intro j v R;have q:j<news.length:=(List.getElem?_eq_some_iff.1 R).1;have hle:(c.toList.take (n*i.size)).length=n*i.size:=by grind
    rw[<- hc'];simp only[List.getElem?_toArray,List.append_assoc];rw[List.getElem?_append_right (by omega),hle,Nat.add_sub_cancel_left,List.getElem?_append_left q];exact R
   have Y: ∀k n o,g k= .row n o->k≠b:=by grind
   have hbsz: ∀k,qcw w k<=qcw (w.setRow b c') k:=λk=>by
    grind[k7,Nat.le_of_eq,jf]
   have hG:G g w g (w.setRow b c'):=
    ⟨rfl,rfl,rfl,by omega,λk F I=>⟨p k (by grind),I⟩,λk m F I=>⟨p k (Y k _ _ I),I⟩,
     λk m t F I=>⟨m,some t,I,Nat.le_refl _,λi v _ hv=>by grind[jw]⟩,λk id F I=>⟨I,hbsz k⟩⟩
   have keep: ∀{v:Value} {x:ASlot},RC g w st.live v x->RC g (w.setRow b c') st.live v x:=λh=>RC.keep hG hs.dom (λk n o F=>⟨F,p k (Y k n o F)⟩) (λk t F=>⟨F,p k (by grind)⟩) h;have q:id<st.os.length:=by
    obtain⟨o,ho,_⟩:=hs.ids b id hg;grind
   refine⟨_,_,g,exec _ _ _ _ hvv l,hG,.inl ⟨?_,?_⟩⟩
   ·refine hs.setObj q hG (hs.dom.of hG λk F=>hs.dom.1 k (by omega)) hg (λ_ _=>rfl) (λk F _=>p k F) (.inr hg) (λk F=>hs.inj k b id F hg) ⟨c',e0,O,by omega,λj y R=> ?_⟩ Z;rcases J j y R with⟨h,hc⟩|⟨h,d,rfl,hd⟩
    ·grind
    ·obtain⟨v,v1,v2,v3⟩:=M _ d hd;refine⟨v,?_,v2,keep v3⟩;grind
   ·refine .ref b 0 id _ _ cap hg hn hmx ?_;rw[k7 O,Nat.zero_add,hlen'];exact hbs
  ·obtain⟨v,w',g',k1,k2,k3,k4⟩:=U (some ⟨b,0,none⟩) cap (c.toList.take (n*i.size)) hvv (by omega) hmx (by grind)
    (run_firstCells_some (P:=P) w.drew i.size n ⟨b,0,none⟩ _ _ (c.toList.take (n*i.size)) (by grind) (λj v R=>by
     rw[List.getElem?_take]at R;split at R
     ·rw[Addr.add_lit,Nat.zero_add];have hd:w.drew.heap[b]? =some (.cells c e0 (0,0)):=C;grind[World.cell?]
     grind))
    (λj y R hc=>by
     grind)
   grind
end
end Go.Abs
namespace Go.Abs
structure ObjsOk (g:Ghost) (w:World) (live:List Nat) (os:List AObj):Prop where
 objs: ∀(id:Nat) (o:AObj),os[id]? =some o->o≠ .none->ObjIs g w live id o
 inj: ∀(b b' id:Nat),g b= .obj id->g b'= .obj id->b=b'
 ids: ∀(b id:Nat),g b= .obj id-> ∃o,os[id]? =some o∧o≠ .none
def ve (l:List ASlot):List Nat:=l.flatMap ASlot.toks
def xf:List AObj->List Nat
 | []=> []
 |o::l=>o.cells.flatMap ASlot.toks++xf l
theorem qfn: ∀{os:List AObj} {id:Nat} {o:AObj},os[id]? =some o-> ∀s∈o.cells,∀t∈s.toks,t∈xf os
 | [],id,o,h,s,hs,t,ht=>by simp at h
 |o'::l,id,o,h,s,hs,t,ht=>by
  simp only[xf,jAt,jBi];cases id with
  |zero=>simp at h;subst h;exact .inl ⟨s,hs,ht⟩
  |succ id=>exact .inr (qfn (by simpa using h) s hs t ht)
def qh (P:Program) (f:FuncId) (args:List ASlot) (objs:List AObj) (r:ASlot) (objs':List AObj):Prop:=
 ∀(g:Ghost) (w:World) (vs:List Value),Dom g w->vs.length=args.length->
  (∀(i:Nat) (v:Value) (s:ASlot),vs[i]? =some v->args[i]? =some s->RC g w (ve args++xf objs) v s) ->ObjsOk g w (ve args++xf objs) objs->
  Calls P f vs.toArray w λe w'=> ∃v g' live',e= .returned v∧G g w g' w'∧Dom g' w'∧(∀t∈r.toks++xf objs',t∈live')∧RS g' w' live' v r∧ObjsOk g' w' live' objs'
def qb3:ASlot->ASlot->Prop
 |s,.d x=>s.eqvD x
 | .own _ es rows,.own _ es' rows'=>es=es'∧D.eqvR rows rows'
 | .uni _ es rows,.uni _ es' rows'=>es=es'∧rows=rows'
 | .d .nilsl,.uni _ _ rows'=>rows'= []
 | .full es rows,.own _ es' rows'=>qag es rows es' rows'
 | .full es rows,.full es' rows'=>qag es rows es' rows'
 | .d .nilsl,.own _ _ rows'=>rows'= []
 | .d .nilsl,.full _ rows'=>rows'= []
 | .rd cs,.rd cs'=>D.eqvL cs cs'
 | _,_=>False
def yr:List ASlot->List ASlot->Prop
 | [],[]=>True
 |s::l,f::r=>qb3 s f∧yr l r
 | _,_=>False
def x8:List ASlot->List ASlot->List (Nat×Nat)
 | .own t _ _::l,.own t' _ _::r=>(t,t')::x8 l r
 | .uni t _ _::l,.uni t' _ _::r=>(t,t')::x8 l r
 | _::l,_::r=>x8 l r
 | _,_=> []
def ASlot.noPtr:ASlot->Bool
 | .d x=>x.noPtr
 | .own _ _ rows=>D.noPtrR rows
 | .uni _ _ rows=>D.noPtrR rows
 | .full _ rows=>D.noPtrR rows
 | .rd cs=>D.noPtrL cs
 | _=>false
def renT (toks:List Nat) (base:Nat):ASlot->ASlot
 | .own t es rows=> .own (base+toks.idxOf t) es rows
 | .uni t es rows=> .uni (base+toks.idxOf t) es rows
 |s=>s
def wm (R:List Nat) (base:Nat) (r:ASlot):ASlot:=
 match r with
 | .tup l=> .tup (l.map (renT R base))
 |s=>renT R base s
def qeb (base:Nat) (r:ASlot):ASlot:=wm r.toks base r
def renC (R:List Nat) (base:Nat) (s:ASlot):ASlot:=if s.toks= []then s else match s with
 | .tup _=> .bad
 |s=>renT R base s
theorem xn1 {R:List Nat} {base:Nat} {s:ASlot} (h: ∀l,s≠ .tup l):renC R base s=renT R base s:=by
 cases s<;>first|(simp[renC,ASlot.toks,renT];done)|exact(h _ rfl).elim
def AObj.rt (R:List Nat) (base:Nat):AObj->AObj
 | .row cs=> .row (cs.map (renC R base))
 |o=>o
theorem xb1 {R:List Nat} {base:Nat} {s:ASlot} (h:s.toks= []):renC R base s=s:=if_pos h
theorem xn2 {R:List Nat} {base:Nat} {o:AObj} (h: ∀s∈o.cells,s.toks= []):o.rt R base=o:=by
 cases o with
 |row cs=>
  simp only[AObj.rt,AObj.row.injEq];exact(jC4 λs hs=>xb1 (h s hs)).trans (List.map_id _)
 | _=>rfl
theorem q3f {os:List AObj} (h:xf os= []): ∀o∈os,∀s∈o.cells,s.toks= []:=by
 intro o d s hs;induction os with
 |nil=>cases d
 |cons x l ih=>
  simp only[xf,jC2,jCn]at h;rcases jAv.1 d with rfl|d
  ·exact h.1 s hs
  ·exact ih h.2 d
theorem xhr {R:List Nat} {base:Nat} {os:List AObj} (h:xf os= []):os.map (AObj.rt R base)=os:=
 (jC4 λo ho=>xn2 (q3f h o ho)).trans (List.map_id _)
theorem qpr {toks:List Nat} {base t:Nat} {s:ASlot} (hn: ∀l,s≠ .tup l) (h:t∈(renT toks base s).toks): ∃u∈s.toks,t=base+toks.idxOf u:=by
 cases s with
 |own u es rows=>grind[renT,ASlot.toks]
 |uni u es rows=>grind[renT,ASlot.toks]
 |tup l=>grind
 | _=>simp[renT,ASlot.toks]at h
theorem qkj {s:ASlot} {t:Nat} (h:t∈qbt s):t∈s.toks∧ ∀l,s≠ .tup l:=by
 cases s<;>simp[qbt]at h<;>subst h<;>exact⟨by simp[ASlot.toks],by simp⟩
theorem qps {R:List Nat} {base t:Nat} {r:ASlot} (q: ∀u∈r.toks,u∈R) (h:t∈(wm R base r).toks):base<=t∧t<base+R.length:=by
 have d: ∀u,u∈R->t=base+R.idxOf u->base<=t∧t<base+R.length:=by
  grind
 by_cases p: ∃l,r= .tup l
 ·obtain⟨l,rfl⟩:=p;simp only[wm,ASlot.toks,List.mem_flatMap,List.mem_map]at h;obtain⟨s,⟨s',o,rfl⟩,i⟩:=h;obtain⟨h1,h2⟩:=qkj i;have hn: ∀l,s'≠ .tup l:=by intro l' hl;subst hl;exact h2 _ rfl
  obtain⟨u,e,m⟩:=qpr hn h1;refine d u (q u ?_) m;simp only[ASlot.toks,List.mem_flatMap];refine⟨s',o,?_⟩;cases s'<;>simp[ASlot.toks]at e
  ·grind[qbt]
  ·grind[qbt]
  grind
 ·have hn: ∀l,r≠ .tup l:=λl h=>p ⟨l,h⟩;have he:wm R base r=renT R base r:=by cases r<;>first|rfl|grind
  rw[he]at h;obtain⟨u,e,m⟩:=qpr hn h;exact d u (q u e) m
theorem qte {base t:Nat} {r:ASlot} (h:t∈(qeb base r).toks):base<=t∧t<base+r.toks.length:=qps (λ_ h=>h) h
theorem q8x {os:List AObj} {t:Nat} (h:t∈xf os): ∃o∈os,∃s∈o.cells,t∈s.toks:=by
 induction os with
 |nil=>cases h
 |cons o l ih=>
  simp only[xf,jAt,jBi]at h;rcases h with⟨s,hs,ht⟩|h
  ·exact⟨o,jA7,s,hs,ht⟩
  ·obtain⟨o',h1,h2⟩:=ih h;exact⟨o',jA9 _ h1,h2⟩
theorem qpt {os:List AObj} {o:AObj} {s:ASlot} {t:Nat} (h:o∈os) (hs:s∈o.cells) (ht:t∈s.toks):t∈xf os:=by
 obtain⟨i,hi⟩:=jBh h;exact qfn hi s hs t ht
theorem qlx {R:List Nat} {base t:Nat} {r:ASlot} {fo':List AObj} (C:R=r.toks++xf fo') (h:t∈(wm R base r).toks++xf (fo'.map (AObj.rt R base))):base<=t∧t<base+R.length:=by
 have p: ∀u∈r.toks,u∈R:=λu h=>C▸jBb _ h;have q: ∀u∈xf fo',u∈R:=λu h=>C▸jBe _ h;rcases jAt.1 h with h|h
 ·exact qps p h
 ·obtain⟨o,ho,s,hs,d⟩:=q8x h;obtain⟨z,m,rfl⟩:=jAo.1 ho;have v: ∀i∈z.cells,t∈(renC R base i).toks->base<=t∧t<base+R.length:=by
   intro i e d;unfold renC at d;split at d
   ·rename_i h0;rw[h0]at d;cases d
   ·split at d
    ·simp[ASlot.toks]at d
    ·rename_i hn;obtain⟨u,hu,rfl⟩:=qpr (λl hl=>hn l hl) d;have:=q u (qpt m e hu);grind
  cases z with
  |row cs=>
   obtain⟨i,e,rfl⟩:=jAo.1 hs;exact v i e d
  | _=>cases hs
def kv (l:List (Nat×Nat)) (t:Nat):Option Nat:=(l.find? (·.1==t)).map (·.2)
theorem qly {l:List (Nat×Nat)} {t t':Nat} (h:kv l t=some t'):(t,t')∈l:=by
 unfold kv at h;cases hf:l.find? (·.1==t)with
 |none=>grind
 |some p=>
  grind
theorem q3g {l:List (Nat×Nat)} {t:Nat} (h:kv l t=none):t∉l.map (·.1):=by
 intro hm;obtain⟨p,hp,rfl⟩:=List.mem_map.1 hm;grind[kv,Option.map_eq_none_iff,List.find?_eq_none]
theorem qb4 {l:List (Nat×Nat)} (hn:(l.map (·.1)).Nodup) {t t':Nat} (h:(t,t')∈l):kv l t=some t':=by
 cases hp:kv l t with
 |none=>exact(q3g hp (List.mem_map.2 ⟨(t,t'),h,rfl⟩)).elim
 |some u=>
  have:=qly hp;congr 1;induction l with
  |nil=>cases h
  |cons q l ih=>
   grind[List.nodup_cons,kv]
mutual
def D.ren (ι:List Nat):D->D
 | .ptr id off=> .ptr (ι.getD id 0) off
 | .ref id off es len=> .ref (ι.getD id 0) off es len
 | .map id=> .map (ι.getD id 0)
 | .sl es rows=> .sl es (D.renR ι rows)
 | .agg cs=> .agg (D.renL ι cs)
 | .func fn a b=> .func fn (D.renL ι a) (D.renL ι b)
 | .iface t d=> .iface t (D.ren ι d)
 | .int k n=> .int k n
 | .bool b=> .bool b
 | .str s=> .str s
 | .nilptr=> .nilptr
 | .nilfunc=> .nilfunc
 | .niliface=> .niliface
 | .nilmap=> .nilmap
 | .nilsl=> .nilsl
 | .any=> .any
def D.renL (ι:List Nat):List D->List D
 | []=> []
 |d::l=>D.ren ι d::D.renL ι l
def D.renR (ι:List Nat):List (List D) ->List (List D)
 | []=> []
 |r::l=>D.renL ι r::D.renR ι l
end
mutual
def D.inK (k:Nat):D->Bool
 | .ptr id _=>decide (id<k)
 | .ref id _ _ _=>decide (id<k)
 | .map id=>decide (id<k)
 | .sl _ rows=>D.inKR k rows
 | .agg cs=>D.inKL k cs
 | .func _ a b=>D.inKL k a&&D.inKL k b
 | .iface _ d=>D.inK k d
 | .int .. =>true
 | .bool .. =>true
 | .str .. =>true
 | .nilptr=>true
 | .nilfunc=>true
 | .niliface=>true
 | .nilmap=>true
 | .nilsl=>true
 | .any=>true
def D.inKL (k:Nat):List D->Bool
 | []=>true
 |d::l=>D.inK k d&&D.inKL k l
def D.inKR (k:Nat):List (List D) ->Bool
 | []=>true
 |r::l=>D.inKL k r&&D.inKR k l
end
theorem D.renL_map (ι:List Nat): ∀l:List D,D.renL ι l=l.map (D.ren ι)
 | []=>rfl
 |d::l=>by simp only[D.renL,List.map_cons,D.renL_map ι l]
theorem D.renR_map (ι:List Nat): ∀l:List (List D),D.renR ι l=l.map λr=>r.map (D.ren ι)
 | []=>rfl
 |r::l=>by simp only[D.renR,List.map_cons,D.renL_map,D.renR_map ι l]
theorem D.inKL_iff (k:Nat): ∀l:List D,D.inKL k l=true↔ ∀d∈l,d.inK k=true
 | []=>by simp[D.inKL]
 |d::l=>by simp[D.inKL,D.inKL_iff k l]
theorem D.inKR_iff (k:Nat): ∀l:List (List D),D.inKR k l=true↔ ∀d∈l.flatten,d.inK k=true
 | []=>by simp[D.inKR]
 |r::l=>by
  simp only[D.inKR,jAf,D.inKL_iff,D.inKR_iff k l,List.flatten_cons,jAt];grind
mutual
theorem D.ren_noPtr (ι:List Nat): ∀{d:D},d.noPtr=true->d.ren ι=d
 | .sl es rows,h=>by simp only[D.ren,D.renR_noPtr ι (l:=rows) (by simpa only[D.noPtr]using h)]
 | .agg cs,h=>by simp only[D.ren,D.renL_noPtr ι (l:=cs) (by simpa only[D.noPtr]using h)]
 | .ptr ..,h=>by simp[D.noPtr]at h
 | .ref ..,h=>by simp[D.noPtr]at h
 | .map _,h=>by simp[D.noPtr]at h
 | .func fn a b,h=>by
  simp_all[D.noPtr,jAf,D.ren,D.renL_noPtr]
 | .iface t d,h=>by simp only[D.ren,D.ren_noPtr ι (d:=d) (by simpa only[D.noPtr]using h)]
 | .int ..,_=>rfl
 | .bool ..,_=>rfl
 | .str ..,_=>rfl
 | .nilptr,_=>rfl
 | .nilfunc,_=>rfl
 | .niliface,_=>rfl
 | .nilmap,_=>rfl
 | .nilsl,_=>rfl
 | .any,_=>rfl
theorem D.renL_noPtr (ι:List Nat): ∀{l:List D},D.noPtrL l=true->D.renL ι l=l
 | [],_=>rfl
 |d::l,h=>by
  simp_all[D.noPtrL,jAf,D.renL,D.ren_noPtr,D.renL_noPtr]
theorem D.renR_noPtr (ι:List Nat): ∀{l:List (List D)},D.noPtrR l=true->D.renR ι l=l
 | [],_=>rfl
 |r::l,h=>by
  simp_all[D.noPtrR,jAf,D.renR,D.renL_noPtr,D.renR_noPtr]
end
mutual
theorem D.inK_noPtr (k:Nat): ∀{d:D},d.noPtr=true->d.inK k=true
 | .sl es rows,h=>by simp only[D.inK];exact D.inKR_noPtr k (l:=rows) (by simpa only[D.noPtr]using h)
 | .agg cs,h=>by simp only[D.inK];exact D.inKL_noPtr k (l:=cs) (by simpa only[D.noPtr]using h)
 | .ptr ..,h=>by simp[D.noPtr]at h
 | .ref ..,h=>by simp[D.noPtr]at h
 | .map _,h=>by simp[D.noPtr]at h
 | .func fn a b,h=>by
  simp_all[D.noPtr,jAf,D.inK,D.inKL_noPtr,jBu]
 | .iface t d,h=>by simp only[D.inK];exact D.inK_noPtr k (d:=d) (by simpa only[D.noPtr]using h)
 | .int ..,_=>rfl
 | .bool ..,_=>rfl
 | .str ..,_=>rfl
 | .nilptr,_=>rfl
 | .nilfunc,_=>rfl
 | .niliface,_=>rfl
 | .nilmap,_=>rfl
 | .nilsl,_=>rfl
 | .any,_=>rfl
theorem D.inKL_noPtr (k:Nat): ∀{l:List D},D.noPtrL l=true->D.inKL k l=true
 | [],_=>rfl
 |d::l,h=>by
  simp_all[D.noPtrL,jAf,D.inKL,D.inK_noPtr,D.inKL_noPtr]
theorem D.inKR_noPtr (k:Nat): ∀{l:List (List D)},D.noPtrR l=true->D.inKR k l=true
 | [],_=>rfl
 |r::l,h=>by
  simp_all[D.noPtrR,jAf,D.inKR,D.inKL_noPtr,D.inKR_noPtr]
end
def ASlot.ren1 (ι:List Nat):ASlot->ASlot
 | .d x=> .d (x.ren ι)
 | .own t es rows=> .own t es (D.renR ι rows)
 | .uni t es rows=> .uni t es (D.renR ι rows)
 | .full es rows=> .full es (D.renR ι rows)
 | .rd cs=> .rd (D.renL ι cs)
 |s=>s
def ASlot.ren (ι:List Nat) (s:ASlot):ASlot:=
 match ι with
 | []=>s
 | _=>match s with
  | .tup l=> .tup (l.map (ASlot.ren1 ι))
  |s=>s.ren1 ι
def AObj.ren (ι:List Nat):AObj->AObj
 | .none=> .none
 | .row cs=> .row (cs.map (ASlot.ren1 ι))
 | .map es clock=> .map es clock
 | .iter m since seen last=> .iter (m.ren1 ι) since seen last
def ASlot.inK (k:Nat):ASlot->Bool
 | .d x=>x.inK k
 | .own _ _ rows=>D.inKR k rows
 | .uni _ _ rows=>D.inKR k rows
 | .full _ rows=>D.inKR k rows
 | .rd cs=>D.inKL k cs
 | _=>false
theorem qy8 (ι:List Nat) (s:ASlot):(s.ren1 ι).toks=s.toks:=by cases s<;>rfl
theorem qvw (ι:List Nat) (s:ASlot):(s.ren ι).toks=s.toks:=by
 cases ι with
 |nil=>rfl
 |cons x ι=>
  cases s with
  |tup l=>
   simp only[ASlot.ren,ASlot.toks,List.flatMap_map];congr 1;funext s;cases s<;>rfl
  | _=>rfl
def qpu:List Nat->Nat->Option Nat
 | [],_=>none
 |x::l,id=>if x=id then some 0 else(qpu l id).map (· +1)
theorem qfo: ∀{l:List Nat} {id j:Nat},qpu l id=some j->l[j]? =some id
 | [],_,_,h=>by simp[qpu]at h
 |x::l,id,j,h=>by
  simp only[qpu]at h;split at h
  ·grind
  ·rw[jAb]at h;obtain⟨i,hi,rfl⟩:=h;simpa using qfo hi
theorem qcx: ∀{l:List Nat},l.Nodup-> ∀{id j:Nat},l[j]? =some id->qpu l id=some j
 | [],_,_,_,h=>by simp at h
 |x::l,hn,id,j,h=>by
  rw[List.nodup_cons]at hn;cases j with
  |zero=>grind[qpu]
  |succ j=>
   have e:l[j]? =some id:=by grind
   have d:x≠id:=λhe=>hn.1 (he▸List.mem_of_getElem? e);simp only[qpu,if_neg d,qcx hn.2 e,Option.map_some]
theorem q8y {l:List Nat} {id:Nat} (h:id∉l):qpu l id=none:=by
 cases hp:qpu l id with
 |none=>rfl
 |some j=>exact(h (jAe (qfo hp))).elim
def qy9:ASlot->ASlot->Prop
 |s,.d x=>s.eqvD x
 | .own _ es rows,.own _ es' rows'=>es=es'∧D.eqvR rows rows'
 | _,.bad=>True
 | _,_=>False
def qfe:List ASlot->List ASlot->Prop
 |s::l,f::r=>qy9 s f∧qfe l r
 | _,[]=>True
 | [],_::_=>False
def xb2:AObj->AObj->Prop
 | .row cs,.row fs=>qfe cs fs
 | .map es c,.map es' c'=>es=es'∧c=c'
 | _,_=>False
def ASlot.inKC (k:Nat):ASlot->Bool
 | .bad=>true
 |s=>s.inK k
def AObj.inK (k:Nat):AObj->Bool
 | .none=>true
 | .row cs=>cs.all (ASlot.inKC k)
 | .map .. =>true
 | .iter .. =>false
mutual
theorem qlz: ∀{d:D},d.inK 0=true->d.noPtr=true
 | .sl es rows,h=>by simp only[D.noPtr];exact qed (rows:=rows) (by simpa only[D.inK]using h)
 | .agg cs,h=>by simp only[D.noPtr];exact qec (cs:=cs) (by simpa only[D.inK]using h)
 | .ptr ..,h=>by simp[D.inK]at h
 | .ref ..,h=>by simp[D.inK]at h
 | .map _,h=>by simp[D.inK]at h
 | .func fn a b,h=>by
  simp_all[D.inK,jAf,D.noPtr,qec,jBu]
 | .iface t d,h=>by simp only[D.noPtr];exact qlz (d:=d) (by simpa only[D.inK]using h)
 | .int ..,_=>rfl
 | .bool ..,_=>rfl
 | .str ..,_=>rfl
 | .nilptr,_=>rfl
 | .nilfunc,_=>rfl
 | .niliface,_=>rfl
 | .nilmap,_=>rfl
 | .nilsl,_=>rfl
 | .any,_=>rfl
theorem qec: ∀{cs:List D},D.inKL 0 cs=true->D.noPtrL cs=true
 | [],_=>rfl
 |d::l,h=>by
  simp_all[D.inKL,jAf,D.noPtrL,qlz,qec]
theorem qed: ∀{rows:List (List D)},D.inKR 0 rows=true->D.noPtrR rows=true
 | [],_=>rfl
 |r::l,h=>by
  simp_all[D.inKR,jAf,D.noPtrR,qec,qed]
end
def qdi (κ:List Nat) (os:List AObj):List Nat->List AObj->Prop
 | _,[]=>True
 |id::ι,o::fo=>(∃c,os[id]? =some c∧xb2 c (o.ren κ))∧qdi κ os ι fo
 | [],_::_=>False
def xo (hs:List (Nat×Nat)) (ι:List Nat) (g:Ghost):Ghost:=λb=>
 match g b with
 | .row n (some t)=> .row n (kv hs t)
 | .row n none=> .row n none
 | .uni t=>match kv hs t with|some t'=> .uni t'|none=> .out
 | .obj id=>match qpu ι id with|some j=> .obj j|none=> .out
 | .out=> .out
def upR (ι:List Nat) (ren:Nat->Option Nat):Role->Role
 | .row n' o=> .row n' (o.bind ren)
 | .uni u=>match ren u with|some u'=> .uni u'|none=> .out
 | .obj j=>match ι[j]?with|some id=> .obj id|none=> .out
 | .out=> .out
def qkk (hs:List (Nat×Nat)) (ι:List Nat) (size:Nat) (ren:Nat->Option Nat) (g d:Ghost):Ghost:=λb=>
 if b<size then
  match g b with
  | .row n (some t)=>match kv hs t with
   |some _=>match d b with
    | .row n' o=> .row n' (o.bind ren)
    | _=> .row n none
   |none=> .row n (some t)
  | .uni t=>match kv hs t with
   |some _=>upR ι ren (d b)
   |none=> .uni t
  |r=>r
 else upR ι ren (d b)
section
variable {P:Program} {T:Nat→Prop} {g:Ghost} {w:World} {live:List Nat}
theorem qvx {v:Value} {s:ASlot} {x:D} (h:RS g w live v s) (e:s.eqvD x):RV g w v x:=by
 cases s with
 |d y=>exact RV.eqv h e
 |own t es rows=>exact RV.eqv h.1 e
 |full es rows=>exact RV.eqv h.1 e
 | _=>exact e.elim
theorem qbn {v:Value} {es e:Nat} {rows d:List (List D)} (h:RV g w v (.sl es rows)) (he:qag es rows e d):RV g w v (.sl e d):=
 h.eqv (by simp only[D.eqv];exact he)
theorem qol {v:Value} {rows d:List (List D)} (h: ∃a,v= .slice a rows.length rows.length) (he:D.eqvR rows d): ∃a,v= .slice a d.length d.length:=by
 rw[<-(D.eqvR_flat he).2.1];exact h
theorem qpv {t es:Nat} {v:Value} {rows d:List (List D)} (h:qyl g w t es rows v) (he:D.eqvR rows d):qyl g w t es d v:=by
 unfold qyl;rw[<-(D.eqvR_flat he).2.1];exact h
theorem xmv {v:Value} {cs e:List D} (h:RC g w live v (.rd cs)) (he:D.eqvL cs e):RC g w live v (.rd e):=by
 obtain⟨b,off,n,o,f,rfl,hg,hn,hcc⟩:=h;refine⟨b,off,n,o,f,rfl,hg,by grind[D.eqvL_length],λj d' hj=> ?_⟩;obtain⟨d,hd,i⟩:=D.eqvL_get he j d' hj;obtain⟨c1,c2,c3⟩:=hcc j d hd;exact⟨by grind[D.eqv_isCell],c2,c3.eqv i⟩
theorem xn3 {v:Value} {y:D} {t es:Nat} {rows:List (List D)} (h:RS g w live v (.d y)) (e:qb3 (.d y) (.own t es rows)):v= .slice none 0 0∧rows= []:=by
 cases y<;>first|exact e.elim|skip
 have h':RV g w v .nilsl:=h;cases h';exact⟨rfl,e⟩
theorem xn4 {v:Value} {y:D} {t es:Nat} {rows:List (List D)} (h:RS g w live v (.d y)) (e:qb3 (.d y) (.uni t es rows)):v= .slice none 0 0∧rows= []:=by
 cases y<;>first|exact e.elim|skip
 have h':RV g w v .nilsl:=h;cases h';exact⟨rfl,e⟩
theorem xhs {v:Value} {y:D} {es:Nat} {rows:List (List D)} (h:RS g w live v (.d y)) (e:qb3 (.d y) (.full es rows)):v= .slice none 0 0∧rows= []:=by
 cases y<;>first|exact e.elim|skip
 have h':RV g w v .nilsl:=h;cases h';exact⟨rfl,e⟩
theorem qne: ∀{l r:List ASlot},yr l r->l.length=r.length∧ ∀(i:Nat) (s f:ASlot),l[i]? =some s->r[i]? =some f->qb3 s f
 | [],[],_=>by simp
 |s::l,f::r,h=>by
  obtain⟨h1,h2⟩:=h;obtain⟨k1,k2⟩:=qne h2;refine⟨by simp[k1],λi s' f' hs d=> ?_⟩;cases i with
  |zero=>simp at hs d;subst hs d;exact h1
  |succ i=>exact k2 i s' f' (by simpa using hs) (by simpa using d)
 | [],_::_,h=>h.elim
 | _::_,[],h=>h.elim
theorem ql0: ∀{l r:List ASlot} (i t es:Nat) (rows:List (List D)) (t' e:Nat) (d:List (List D)),l[i]? =some (.own t es rows) ->r[i]? =some (.own t' e d) ->(t,t')∈x8 l r
 | [],_,i,t,es,rows,t',e,d,h,_=>by simp at h
 |s::l,[],i,t,es,rows,t',e,d,_,h=>by simp at h
 |s::l,f::r,i,t,es,rows,t',e,d,hs,hf=>by
  cases i with
  |zero=>simp at hs hf;subst hs hf;simp[x8]
  |succ i=>
   have ih:=ql0 (l:=l) (r:=r) i t es rows t' e d (by simpa using hs) (by simpa using hf);cases s<;>cases f<;>simp[x8]<;>first|exact ih|exact .inr ih
theorem qpw: ∀{l r:List ASlot} (i t es:Nat) (rows:List (List D)) (t' e:Nat) (d:List (List D)),l[i]? =some (.uni t es rows) ->r[i]? =some (.uni t' e d) ->(t,t')∈x8 l r
 | [],_,i,t,es,rows,t',e,d,h,_=>by simp at h
 |s::l,[],i,t,es,rows,t',e,d,_,h=>by simp at h
 |s::l,f::r,i,t,es,rows,t',e,d,hs,hf=>by
  cases i with
  |zero=>simp at hs hf;subst hs hf;simp[x8]
  |succ i=>
   have ih:=qpw (l:=l) (r:=r) i t es rows t' e d (by simpa using hs) (by simpa using hf);cases s<;>cases f<;>simp[x8]<;>first|exact ih|exact .inr ih
def wj (os:List AObj):List Nat->List AObj->List (Nat×Nat)
 |id::ι,.row fs::fo=>(match os[id]?with|some (.row cs)=>x8 cs fs| _=> [])++wj os ι fo
 | _::ι,_::fo=>wj os ι fo
 | _,_=> []
theorem qpx {os:List AObj}: ∀{ι:List Nat} {fo:List AObj} (j id:Nat) (cs d:List ASlot) (p:Nat×Nat),ι[j]? =some id->fo[j]? =some (.row d) ->os[id]? =some (.row cs) ->p∈x8 cs d->p∈wj os ι fo
 | [],_,j,id,cs,d,p,h,_,_,_=>by simp at h
 | _::_,[],j,id,cs,d,p,_,h,_,_=>by simp at h
 |x::ι,o::fo,j,id,cs,d,p,h1,h2,h3,h4=>by
  cases j with
  |zero=>
   simp at h1 h2;subst h1 h2;simp only[wj,h3];exact jBb _ h4
  |succ j=>
   have ih:=qpx (ι:=ι) (fo:=fo) j id cs d p (by simpa using h1) (by simpa using h2) h3 h4;cases o with
   |row gs=>simp only[wj];exact jBe _ ih
   | _=>simpa only[wj]using ih
theorem qpy: ∀{l r:List ASlot},(∀s∈r,s.toks= []) ->x8 l r= []
 | [],_,_=>by simp[x8]
 |s::l,[],_=>by cases s<;>simp[x8]
 |s::l,f::r,h=>by
  have ih:=qpy (l:=l) (r:=r) λs hs=>h s (jA9 _ hs);have hf:=h f jA7;cases s<;>cases f<;>first|(simp[ASlot.toks]at hf;done)|(simpa only[x8]using ih)
theorem qnf {os:List AObj}: ∀{ι:List Nat} {fo:List AObj},xf fo= [] ->wj os ι fo= []
 | [],[],_=>by simp[wj]
 | [],_::_,_=>by simp[wj]
 | _::_,[],_=>by simp[wj]
 |x::ι,o::fo,h=>by
  simp only[xf,jC2,jCn]at h;have ih:=qnf (os:=os) (ι:=ι) h.2;cases o with
  |row fs=>
   simp only[wj,ih,jAu];split
   ·exact qpy h.1
   ·rfl
  | _=>simpa only[wj]using ih
structure Fits (live:List Nat) (as fa:List ASlot) (ι:List Nat) (k:Nat) (H:List (Nat×Nat)):Prop where
 all:yr as (fa.map (ASlot.ren ι))
 inK:fa.all (ASlot.inK k)=true
 lv: ∀p∈H,p.1∈live
 nd1:(H.map (·.1)).Nodup
structure ObjFit (os:List AObj) (fo fo':List AObj) (ι:List Nat):Prop where
 nd:ι.Nodup
 len:ι.length=fo'.length
 le:fo.length<=fo'.length
 olds:qdi ι os ι fo
 news: ∀id∈ι.drop fo.length,os[id]? =some .none
 inK:fo.all (AObj.inK fo.length)=true
theorem qd2 {κ:List Nat} {os:List AObj}: ∀{ι:List Nat} {fo:List AObj},qdi κ os ι fo-> ∀(j:Nat) (o:AObj),fo[j]? =some o-> ∃id c,ι[j]? =some id∧os[id]? =some c∧xb2 c (o.ren κ)
 | _,[],_,j,o,h=>by simp at h
 | [],_::_,h,_,_,_=>h.elim
 |id::ι,o'::fo,h,j,o,hj=>by
  obtain⟨⟨c,h1,h2⟩,h3⟩:=h;cases j with
  |zero=>grind
  |succ j=>simpa using qd2 h3 j o (by simpa using hj)
theorem qee (hs:List (Nat×Nat)) (ι:List Nat) (g:Ghost) (w:World):RowsKept g w (xo hs ι g) w:=by
 intro b n o hg;refine⟨n,o.bind (kv hs),?_,Nat.le_refl _,λ_ _ _ h=>h⟩;grind[xo]
theorem y4 (ι:List Nat) (d:D):(d.ren ι).isCell=d.isCell:=by cases d<;>rfl
theorem qkl (ι:List Nat) (rows:List (List D)):(D.renR ι rows).flatten=rows.flatten.map (D.ren ι):=by
 rw[D.renR_map,List.map_flatten]
theorem RV.down {hs:List (Nat×Nat)} {ι:List Nat} {k:Nat} (hn:ι.Nodup) (hk:k<=ι.length) {v:Value} {x:D} (h:RV g w v x): ∀{y:D},x=y.ren ι->y.inK k=true->RV (xo hs (ι.take k) g) w v y:=by
 have hobj: ∀(b i:Nat),i<k->g b= .obj (ι.getD i 0) ->xo hs (ι.take k) g b= .obj i:=by
  intro b i hi z;have E:(ι.take k)[i]? =some (ι.getD i 0):=by
   grind
  unfold xo;rw[z];simp only[qcx (hn.sublist (List.take_sublist _ _)) E]
 have hr:=qee hs (ι.take k) g w;induction h with
 |int k n=>intro y e p;cases y<;>simp[D.ren]at e;obtain⟨rfl,rfl⟩:=e;exact .int _ _
 |bool b=>intro y e p;cases y<;>simp[D.ren]at e;grind[bool]
 |str s=>intro y e p;cases y<;>simp[D.ren]at e;grind[str]
 |nilsl a c es hz=>
  intro y e p;cases y<;>simp only[D.ren,reduceCtorEq]at e
  rename_i G m;simp only[D.sl.injEq]at e;obtain⟨rfl,e⟩:=e;cases m with
  |nil=>grind[nilsl]
  |cons r l=>grind[D.renR]
 |sl b off cap es n o rows f z hnn hcap hes hcl hcell _ ih=>
  intro y e p;cases y<;>simp only[D.ren,reduceCtorEq]at e
  rename_i G m;simp only[D.sl.injEq]at e;obtain⟨rfl,rfl⟩:=e;simp only[D.inK,D.inKR_iff]at p;have hfl:=qkl ι m;have hlen:(D.renR ι m).flatten.length=m.flatten.length:=by grind
  have C:(D.renR ι m).length=m.length:=by rw[D.renR_map,List.length_map]
  obtain⟨n',o',F,h1,h2⟩:=hr b n o z;rw[C];refine .sl b off cap _ n' o' m f F (by omega) (by omega) (λr hrr=> ?_) (λd q=> ?_) (λj d hj=> ?_) (λj d hj=> ?_)
  ·have:=hes (r.map (D.ren ι)) (by rw[D.renR_map];grind);grind
  ·have:=hcl (d.ren ι) (by grind);grind[y4]
  all_goals grind
 |agg vs ds hl hcl _ ih=>
  intro y e p;cases y<;>simp only[D.ren,reduceCtorEq]at e
  rename_i I;simp only[D.agg.injEq,D.renL_map]at e;subst e;simp only[D.inK,D.inKL_iff]at p;refine .agg vs I (by grind) (λd q=> ?_) (λj v d u q=> ?_)
  ·have:=hcl (d.ren ι) (List.mem_map.2 ⟨d,q,rfl⟩);grind[y4]
  grind
 |ptr b off id z=>
  intro y e p;cases y<;>simp only[D.ren,reduceCtorEq]at e
  simp only[D.ptr.injEq]at e;obtain⟨rfl,rfl⟩:=e;simp only[D.inK,decide_eq_true_eq]at p;grind[ptr]
 |refnil a id off es=>
  intro y e p;cases y<;>simp only[D.ren,reduceCtorEq]at e
  simp only[D.ref.injEq]at e;obtain⟨rfl,rfl,rfl,rfl⟩:=e;grind[refnil]
 |ref b off id es len cap z hcap hm hsz=>
  intro y e p;cases y<;>simp only[D.ren,reduceCtorEq]at e
  simp only[D.ref.injEq]at e;obtain⟨rfl,rfl,rfl,rfl⟩:=e;simp only[D.inK,decide_eq_true_eq]at p;grind[ref]
 |nilptr=>intro y e p;cases y<;>simp[D.ren]at e;exact .nilptr
 |func fn vf vc df dc hf hc _ _ i1 i2=>
  intro y e p;cases y<;>simp only[D.ren,reduceCtorEq]at e
  rename_i fn' a b;simp only[D.func.injEq,D.renL_map]at e;obtain⟨rfl,rfl,rfl⟩:=e;simp only[D.inK,Bool.and_eq_true,D.inKL_iff]at p;exact .func _ vf vc a b (by grind) (by grind) (λj v d u q=>i1 j v (d.ren ι) u (by grind) rfl (p.1 d (List.mem_of_getElem? q)))
   (λj v d u q=>i2 j v (d.ren ι) u (by grind) rfl (p.2 d (List.mem_of_getElem? q)))
 |nilfunc=>intro y e p;cases y<;>simp[D.ren]at e;exact .nilfunc
 |iface t v d _ ih=>
  intro y e p;cases y<;>simp only[D.ren,reduceCtorEq]at e
  simp only[D.iface.injEq]at e;obtain⟨rfl,rfl⟩:=e;exact .iface _ v _ (ih rfl (by grind[D.inK]))
 |niliface=>intro y e p;cases y<;>simp[D.ren]at e;exact .niliface
 |map b id z=>
  intro y e p;cases y<;>simp only[D.ren,reduceCtorEq]at e
  simp only[D.map.injEq]at e;subst e;simp only[D.inK,decide_eq_true_eq]at p;grind[map]
 |nilmap=>intro y e p;cases y<;>simp[D.ren]at e;exact .nilmap
 |nils=>intro y e p;cases y<;>simp[D.ren]at e;exact .nils
 |any v u=>intro y e p;cases y<;>simp[D.ren]at e;exact .any v u
theorem RV.up {ι:List Nat} {u g':Ghost} (hr:RowsKept u w g' w) (l: ∀(b j:Nat),u b= .obj j->g' b= .obj (ι.getD j 0)) {v:Value} {y:D} (h:RV u w v y):RV g' w v (y.ren ι):=by
 induction h with
 |int k n=>exact .int _ _
 |bool b=>exact .bool _
 |str s=>exact .str _
 |nilsl a c es hz=>exact .nilsl a c es hz
 |sl b off cap es n o rows f hg hnn hcap hes hcl hcell _ ih=>
  obtain⟨n',o',p,h1,h2⟩:=hr b n o hg;have q:=qkl ι rows;have hlen:(D.renR ι rows).flatten.length=rows.flatten.length:=by grind
  have m:rows.length=(D.renR ι rows).length:=by rw[D.renR_map,List.length_map]
  simp only[D.ren];rw[m];refine .sl b off cap _ n' o' (D.renR ι rows) f p (by omega) (by omega) (λr i=> ?_) (λd e=> ?_) (λj d hj=> ?_) (λj d hj=> ?_)
  ·rw[D.renR_map]at i;grind
  ·rw[q]at e;obtain⟨d0,h0,rfl⟩:=List.mem_map.1 e;grind[y4]
  all_goals grind
 |agg vs ds hl hcl _ ih=>
  simp only[D.ren,D.renL_map];refine .agg vs _ (by grind) (λd e=> ?_) (λj v d z e=> ?_)
  ·obtain⟨d0,h0,rfl⟩:=List.mem_map.1 e;grind[y4]
  grind
 |ptr b off id hg=>exact .ptr b _ _ (l _ _ hg)
 |refnil a id off es=>exact .refnil _ _ _ _
 |ref b off id es len cap hg hcap hm hsz=>exact .ref b _ _ _ _ cap (l _ _ hg) hcap hm hsz
 |nilptr=>exact .nilptr
 |func fn vf vc df dc hf hc _ _ i1 i2=>
  grind[D.ren,D.renL_map,func,Option.map_eq_some_iff]
 |nilfunc=>exact .nilfunc
 |iface t v d _ ih=>exact .iface _ v _ ih
 |niliface=>exact .niliface
 |map b id hg=>exact .map b _ (l _ _ hg)
 |nilmap=>exact .nilmap
 |nils=>exact .nils
 |any v z=>exact .any v z
theorem q8z {ι:List Nat} {k:Nat} (hk:k<=ι.length) {s:ASlot} (h:s.inK k=true):s.ren ι=s.ren1 ι:=by
 cases ι with
 |nil=>
  have e:k=0:=by grind
  subst e;show s=s.ren1 [];have i: ∀d:D,d.inK 0=true->d.ren []=d:=λd i=>D.ren_noPtr [] (qlz i);cases s with
  |d x=>grind[ASlot.ren1,ASlot.inK]
  |own t es rows=>
   grind[ASlot.ren1,D.renR_noPtr,qed,ASlot.inK]
  |uni t es rows=>
   grind[ASlot.ren1,D.renR_noPtr,qed,ASlot.inK]
  |full es rows=>
   grind[ASlot.ren1,D.renR_noPtr,qed,ASlot.inK]
  |rd cs=>
   grind[ASlot.ren1,D.renL_noPtr,qec,ASlot.inK]
  |tup l=>rfl
  |bad=>rfl
 |cons x ι=>
  cases s with
  |tup l=>simp[ASlot.inK]at h
  | _=>rfl
end
structure QtX (T:Nat->Prop) (X:Nat->Prop) (g:Ghost) (w:World) (g':Ghost) (w':World) (live live':List Nat):Prop where
 toG:G g w g' w'
 dom:Dom g' w'
 objH: ∀b id,g b= .obj id-> ¬X id->w'.heap[b]? =w.heap[b]?
 objB: ∀b id,g' b= .obj id-> ¬X id->g b= .obj id
 tok: ∀b n t,T t->t∈live'->g b= .row n (some t) ->g' b= .row n (some t)∧w'.heap[b]? =w.heap[b]?
 liv: ∀t,T t->t∈live'->t∈live
 tokU: ∀b t,T t->t∈live'->g b= .uni t->g' b= .uni t∧w'.heap[b]? =w.heap[b]?
section
variable {P:Program} {N:Nat} {T T':Nat→Prop} {g g':Ghost} {w w':World} {live live':List Nat}
theorem QtX.rc {X:Nat->Prop} (h:QtX T X g w g' w' live live') (p:Dom g w) {v:Value} {s:ASlot} (hs:RC g w live v s) (E: ∀t∈s.toks,T t):RC g' w' live' v s:=by
 cases s with
 |d x=>exact h.toG.rv p hs
 |own t es rows=>
  refine⟨h.toG.rv p hs.1,λq=> ?_⟩;have i:T t:=E t (by simp[ASlot.toks]);rcases hs.2 (h.liv t i q)with hf|⟨b,cap,C,e,rfl,z,hh,h1,h2,h3⟩
  ·exact .inl hf
  ·obtain⟨k1,k2⟩:=h.tok b _ t i q z;exact .inr ⟨b,cap,C,e,rfl,k1,by grind,h1,h2,h3⟩
 |uni t es rows=>
  have i:T t:=E t (by simp[ASlot.toks]);exact⟨hs.1,λq=>(hs.2 (h.liv t i q)).mono (λb hb=>h.tokU b t i q hb) (λ_ _=>h.toG.rv p)⟩
 |full es rows=>exact⟨h.toG.rv p hs.1,hs.2⟩
 |rd cells=>
  obtain⟨b,off,n,o,f,rfl,z,hn,hc⟩:=hs;obtain⟨n',o',u,hnn,m⟩:=h.toG.rowsKept p b n o z;refine⟨b,off,n',o',f,rfl,u,by omega,λj d F=> ?_⟩;obtain⟨c1,c2,c3⟩:=hc j d F;have:j<cells.length:=(jAd.1 F).1;exact⟨c1,m _ _ (by omega) c2,h.toG.rv p c3⟩
 |tup l=>exact hs.elim
 |bad=>trivial
theorem QtX.rs {X:Nat->Prop} (h:QtX T X g w g' w' live live') (p:Dom g w) {v:Value} {s:ASlot} (hs:RS g w live v s) (o: ∀t∈s.toks,T t):RS g' w' live' v s:=by
 cases s with
 |tup l=>
  obtain⟨vs,rfl,hl,hc⟩:=hs;refine⟨vs,rfl,hl,λi u s m e=>h.rc p (hc i u s m e) ?_⟩;intro t d;apply o t;cases s with
  |own t' es rows=>
   simp only[ASlot.toks,List.mem_singleton]at d;subst d;simp only[ASlot.toks,List.mem_flatMap];exact⟨_,List.mem_of_getElem? e,by simp[qbt]⟩
  |uni t' es rows=>
   simp only[ASlot.toks,List.mem_singleton]at d;subst d;simp only[ASlot.toks,List.mem_flatMap];exact⟨_,List.mem_of_getElem? e,by simp[qbt]⟩
  |tup l'=>exact(hc i u _ m e).elim
  | _=>grind[ASlot.toks]
 | _=>exact jk (h.rc p (qac hs (by simp)) o)
theorem qga: ∀(l:List (Nat×AObj)) (os:List AObj),(jh os l).length=os.length
 | [],_=>rfl
 |(id,o)::l,os=>by rw[jh,qga l,jCh]
theorem qal: ∀(l:List (Nat×AObj)) (os:List AObj) (id:Nat),id∉l.map (·.1) ->(jh os l)[id]? =os[id]?
 | [],_,_,_=>rfl
 |(i,o)::l,os,id,h=>by
  simp only[List.map_cons,jAv,not_or]at h;rw[jh,qal l _ id h.2,jBk (λhe=>h.1 he.symm)]
theorem qjf: ∀(l:List (Nat×AObj)) (os d:List AObj) (id:Nat),os.length=d.length->id∈l.map (·.1)∨os[id]? =d[id]? ->(jh os l)[id]? =(jh d l)[id]?
 | [],_,_,_,_,h=>by grind[jh]
 |(i,o)::l,os,d,id,hl,h=>by
  rw[jh,jh];refine qjf l _ _ id (by simp[hl]) ?_;by_cases hi:i=id
  ·subst hi;right;by_cases e:i<os.length
   ·rw[List.getElem?_set_self e,List.getElem?_set_self (by omega)]
   ·rw[List.getElem?_eq_none (by simp;omega),List.getElem?_eq_none (by simp;omega)]
  ·rcases h with h|h
   ·simp only[List.map_cons,List.mem_cons]at h;rcases h with h|h
    ·exact(hi h.symm).elim
    ·exact .inl h
   ·right;rw[List.getElem?_set_ne hi,List.getElem?_set_ne hi,h]
theorem qtf: ∀(ι:List Nat) (l:List AObj) (os:List AObj),ι.Nodup->ι.length=l.length-> ∀(j id:Nat),ι[j]? =some id->id<os.length->(jh os (ι.zip l))[id]? =l[j]?
 | [],_,_,_,_,j,id,h,_=>by simp at h
 |x::ι,[],_,_,hl,_,_,_,_=>by grind
 |x::ι,o::l,os,hn,hl,j,id,hj,hlt=>by
  rw[jCf]at hn;simp only[List.zip_cons_cons,jh];cases j with
  |zero=>
   simp at hj;subst hj;rw[qal]
   ·grind
   ·intro h;obtain⟨p,hp,he⟩:=jAo.1 h;have:=(List.of_mem_zip hp).1;grind
  |succ j=>
   have:=qtf ι l (os.set x o) hn.2 (by simpa using hl) j id (by simpa using hj) (by simpa using hlt);simpa using this
theorem SR.quietX {st:St} {a:Act} {ι:List Nat} {l:List AObj} (hs:SR N T g w st a) (h:QtX T (· ∈ι) g w g' w' st.live live') (hT: ∀t,T t->T' t) (hl: ∀t∈live',T' t) (hn:ι.Nodup) (G:ι.length=l.length)
  (O: ∀id∈ι,id<st.os.length)
  (ho: ∀(j id:Nat) (o:AObj),ι[j]? =some id->l[j]? =some o->o≠ .none->ObjIs g' w' live' id o)
  (hi: ∀b b' id,id∈ι->g' b= .obj id->g' b'= .obj id->b=b')
  (hd: ∀b id,id∈ι->g' b= .obj id-> ∃(j:Nat) (o:AObj),ι[j]? =some id∧l[j]? =some o∧o≠ .none)
  (Z: ∀o∈l,∀s∈o.cells,∀t∈s.toks,T' t):
  SR N T' g' w' {st with os:=jh st.os (ι.zip l),live:=live'} a:=by
 have C: ∀id,id∉ι->id∉(ι.zip l).map (·.1):=by
  intro id d h;obtain⟨p,hp,rfl⟩:=List.mem_map.1 h;exact d (List.of_mem_zip hp).1
 have hget: ∀(j id:Nat),ι[j]? =some id->(jh st.os (ι.zip l))[id]? =l[j]? :=λj id hj=>qtf ι l st.os hn G j id hj (O id (List.mem_of_getElem? hj));refine⟨h.dom,hs.defers,hs.size,λk v s X=> ?_,λid o q F=> ?_,λb b' id u Y=> ?_,λb id u=> ?_,⟨hl,λk s X t Z=> ?_,λid o q s z t I=> ?_⟩⟩
 ·obtain⟨h1,h2⟩:=hs.slots k v s X;exact⟨λE=>h.rs hs.dom (h1 E) (hs.wf.fr k s (by grind)),h2⟩
 ·by_cases d:id∈ι
  ·grind[List.mem_iff_getElem?,id]
  ·simp only[qal _ _ _ (C id d)]at q;rcases hs.objs id o q F with⟨b,u,J⟩|⟨E,M⟩;case inr=>exact .inr ⟨E,λb u=>M b (h.objB b id u d)⟩
   refine .inl ⟨b,(h.toG.obj b id (hs.dom.lt_obj u) u).1,?_⟩;cases o with
   |none=>grind
   |row cells=>
    obtain⟨c,e,hh,U,hc⟩:=J;refine⟨c,e,by rw[h.objH b id u d];exact hh,U,λi s z=> ?_⟩;obtain⟨v,v1,v2,v3⟩:=hc i s z;exact⟨v,v1,v2,h.rc hs.dom v3 (hs.wf.os id _ q s (List.mem_of_getElem? z))⟩
   |map es clock=>exact MapIs.mono J (h.toG.rowsKept hs.dom) (h.objH b id u d)
   |iter m since seen last=>exact IterIs.mono (R:=λv=>RC g w st.live v m) (R':=λv=>RC g' w' live' v m) J (h.objH b id u d) (λo E=>h.rc hs.dom E (by
     grind[qph]))
 ·by_cases d:id∈ι
  ·grind
  ·exact hs.inj b b' id (h.objB b id u d) (h.objB b' id Y d)
 ·by_cases d:id∈ι
  ·grind
  ·obtain⟨o,q,F⟩:=hs.ids b id (h.objB b id u d);grind[qal,id]
 ·exact hT t (hs.wf.fr k s X t Z)
 ·by_cases d:id∈ι
  ·grind[List.mem_iff_getElem?,id,List.mem_of_getElem?]
  ·simp only[qal _ _ _ (C id d)]at q;exact hT t (hs.wf.os id o q s z t I)
end
section
variable {P:Program} {T:Nat→Prop} {g:Ghost} {w:World} {live:List Nat}
set_option maxHeartbeats 2000000 in
theorem xb3 {f:FuncId} {as fa:List ASlot} {r:ASlot} {os fo fo':List AObj} {ι:List Nat} {H:List (Nat×Nat)} {R:List Nat} (hH:H=x8 as fa++wj os ι fo) (hR:R=r.toks++xf fo') (hc:qh P f fa fo r fo') (hd:Dom g w) (hfit:Fits live as fa ι fo.length H) (M:ObjFit os fo fo' ι)
  (base:Nat) (hfr:Fresh T base) (hfew:R.length<=16)
  (hobj: ∀(id:Nat) (o:AObj),os[id]? =some o->o≠ .none->ObjIs g w live id o) (hinj: ∀(b b' id:Nat),g b= .obj id->g b'= .obj id->b=b')
  (hids: ∀(b id:Nat),g b= .obj id-> ∃o,os[id]? =some o∧o≠ .none)
  {vs:List Value} (hvl:vs.length=as.length) (hv: ∀(i:Nat) (v:Value) (s:ASlot),vs[i]? =some v->as[i]? =some s->RS g w live v s):
  Calls P f vs.toArray w λe w'=> ∃v g',e= .returned v∧
   QtX T (· ∈ι) g w g' w' live ((live.filter λt=> !(H.map (·.1)).contains t)++((wm R base r).toks++xf (fo'.map (AObj.rt R base))))∧
   RS g' w' ((live.filter λt=> !(H.map (·.1)).contains t)++((wm R base r).toks++xf (fo'.map (AObj.rt R base)))) v ((wm R base r).ren ι)∧
   (∀(j id:Nat) (o:AObj),ι[j]? =some id->((fo'.map (AObj.rt R base)).map (AObj.ren ι))[j]? =some o->o≠ .none->ObjIs g' w' ((live.filter λt=> !(H.map (·.1)).contains t)++((wm R base r).toks++xf (fo'.map (AObj.rt R base)))) id o)∧
   (∀b b' id,id∈ι->g' b= .obj id->g' b'= .obj id->b=b')∧
   (∀b id,id∈ι->g' b= .obj id-> ∃(j:Nat) (o:AObj),ι[j]? =some id∧((fo'.map (AObj.rt R base)).map (AObj.ren ι))[j]? =some o∧o≠ .none):=by
 have hsub: ∀{p:Nat×Nat},p∈x8 as fa->p∈H:=λh=>hH▸List.mem_append_left _ h;have hRr: ∀u∈r.toks,u∈R:=λu h=>hR▸List.mem_append_left _ h;have hRo: ∀u∈xf fo',u∈R:=λu h=>hR▸List.mem_append_right _ h;have hI: ∀{t:Nat},t∈(wm R base r).toks++xf (fo'.map (AObj.rt R base)) ->base<=t∧t<base+R.length:=λh=>qlx hR h;obtain⟨ml,mg⟩:=qne hfit.all;rw[List.length_map]at ml;have hkl:fo.length<=ι.length:=by rw[M.len];exact M.le
 let κ:=ι.take fo.length
 have hκn:κ.Nodup:=M.nd.sublist (List.take_sublist _ _);have hκl:κ.length=fo.length:=by grind
 have hrk:=qee H κ g w;have hdom:Dom (xo H κ g) w:=⟨λb z=>by unfold xo;rw[hd.1 b z],hd.2.ghost λb n h=>by unfold xo;rw[h]⟩;have hget: ∀(i:Nat) (s:ASlot),fa[i]? =some s->(fa.map (ASlot.ren ι))[i]? =some (s.ren1 ι):=by
  intro i s h;rw[List.getElem?_map,h,Option.map_some,q8z hkl (List.all_eq_true.1 hfit.inK s (List.mem_of_getElem? h))]
 have hargs: ∀(i:Nat) (v:Value) (s:ASlot),vs[i]? =some v->fa[i]? =some s->RC (xo H κ g) w (ve fa++xf fo) v s:=by
  intro i v s hvi hfi;have hlt:i<as.length:=by grind
  have hai:=List.getElem?_eq_getElem hlt;have U:=mg i _ _ hai (hget i s hfi);have X:=hv i v _ hvi hai;have hnp:s.inK fo.length=true:=List.all_eq_true.1 hfit.inK s (List.mem_of_getElem? hfi);have dn: ∀{v:Value} {y:D},RV g w v (y.ren ι) ->y.inK fo.length=true->RV (xo H κ g) w v y:=λF h2=>F.down M.nd hkl rfl h2;generalize hA:as[i]=actual at U X hai;cases s with
  |d x=>exact dn (qvx X U) hnp
  |own t' es' rows'=>
   have hsl: ∀{v:Value},RV g w v (.sl es' (D.renR ι rows')) ->RV (xo H κ g) w v (.sl es' rows'):=λh=>dn (y:= .sl es' rows') h (by simp only[D.inK];exact hnp);have hrl:(D.renR ι rows').length=rows'.length:=by rw[D.renR_map,List.length_map]
   cases actual with
   |own t es rows=>
    obtain⟨rfl,he⟩:=U;have hmem:=hsub (ql0 i t es rows t' es rows' hai hfi);have hpair:=qb4 hfit.nd1 hmem;refine⟨hsl (qbn X.1 ⟨.inl rfl,he⟩),λ_=> ?_⟩;have hoo:=qpv (X.2 (hfit.lv _ hmem)) he;unfold qyl at hoo⊢;rw[hrl]at hoo;rcases hoo with hf|⟨b,cap,cur,e,F,h2,h3⟩
    ·grind
    ·refine .inr ⟨b,cap,cur,e,F,?_,h3⟩;grind[xo]
   |full es rows=>
    refine⟨hsl (qbn X.1 U),λ_=> .inl ?_⟩;have:=qol X.2 U.2;grind
   |d y=>
    obtain⟨rfl,hnil⟩:=xn3 X U;have:rows'= []:=by
     grind
    subst this;exact⟨.nilsl none 0 es' (λ_=>rfl),λ_=> .inl ⟨none,rfl⟩⟩
   | _=>exact U.elim
  |uni t' es' rows'=>
   have hrl:(D.renR ι rows').length=rows'.length:=by rw[D.renR_map,List.length_map]
   cases actual with
   |uni t es rows=>
    obtain⟨rfl,rfl⟩:=U;have hmem:=hsub (qpw i t es _ t' es rows' hai hfi);have hpair:=qb4 hfit.nd1 hmem;refine⟨by rw[<- hrl];exact X.1,λ_=> ?_⟩;have hoo:=X.2 (hfit.lv _ hmem);simp only[D.inKR_iff,ASlot.inK]at hnp;unfold UniOk at hoo⊢;rw[hrl]at hoo;rcases hoo with⟨ad,F,h2⟩|⟨b,cap,cur,e,F,h2,h3,h4,h5,h6,h7,h8⟩
    ·grind
    ·refine .inr ⟨b,cap,cur,e,F,?_,h3,h4,h5,h6,λr hr=> ?_,λj d I=> ?_⟩
     ·grind[xo]
     ·have:=h7 (r.map (D.ren ι)) (by rw[D.renR_map];grind);grind
     ·obtain⟨c1,u,c2,c3⟩:=h8 j (d.ren ι) (by grind[qkl]);grind[y4,List.mem_of_getElem?]
   |d y=>
    obtain⟨rfl,hnil⟩:=xn4 X U;have:rows'= []:=by
     grind
    subst this;exact⟨⟨none,0,rfl⟩,λ_=> .inl ⟨none,rfl,rfl⟩⟩
   | _=>exact U.elim
  |full es' rows'=>
   have hsl: ∀{v:Value},RV g w v (.sl es' (D.renR ι rows')) ->RV (xo H κ g) w v (.sl es' rows'):=λh=>dn (y:= .sl es' rows') h (by simp only[D.inK];exact hnp);have hrl:(D.renR ι rows').length=rows'.length:=by rw[D.renR_map,List.length_map]
   cases actual with
   |full es rows=>
    refine⟨hsl (qbn X.1 U),?_⟩;have:=qol X.2 U.2;grind
   |d y=>
    obtain⟨rfl,hnil⟩:=xhs X U;have:rows'= []:=by
     grind
    subst this;exact⟨.nilsl none 0 es' (λ_=>rfl),none,rfl⟩
   | _=>exact U.elim
  |rd cs'=>
   cases actual with
   |rd cs=>
    obtain⟨b,off,n,o,fn,rfl,J,hn,hcc⟩:=xmv (live:=live) X U;obtain⟨n',o',hg',hnn,hcell⟩:=hrk b n o J;have hll:(D.renL ι cs').length=cs'.length:=by rw[D.renL_map,List.length_map]
    refine⟨b,off,n',o',fn,rfl,hg',by omega,λj d I=> ?_⟩;obtain⟨c1,c2,c3⟩:=hcc j (d.ren ι) (by grind[D.renL_map]);have hjl:j<cs'.length:=(List.getElem?_eq_some_iff.1 I).1;have hnpd:d.inK fo.length=true:=(D.inKL_iff _ cs').1 hnp d (List.mem_of_getElem? I);grind[y4]
   | _=>exact U.elim
  | _=>grind[ASlot.inK]
 have hpos: ∀(b id j:Nat),g b= .obj id->κ[j]? =some id->xo H κ g b= .obj j:=by
  intro b id j z I;unfold xo;rw[z];simp only[qcx hκn I]
 have hposr: ∀(b j:Nat),xo H κ g b= .obj j-> ∃id,g b= .obj id∧κ[j]? =some id:=by
  intro b j h;unfold xo at h;cases z:g b with
  |out=>grind
  |row n o=>grind
  |uni t=>grind
  |obj id=>
   rw[z]at h;simp only at h;split at h
   ·rename_i j' hp;cases h;exact⟨id,rfl,qfo hp⟩
   grind
 have hκι: ∀(j id:Nat),κ[j]? =some id->ι[j]? =some id:=by
  grind
 have hικ: ∀(j id:Nat),j<fo.length->ι[j]? =some id->κ[j]? =some id:=by
  grind
 have hobjs:ObjsOk (xo H κ g) w (ve fa++xf fo) fo:=by
  refine⟨λj o I hne=> ?_,λb b' j h h'=> ?_,λb j h=> ?_⟩
  ·obtain⟨id,c,C,hcs,U⟩:=qd2 M.olds j o I;have hjl:j<fo.length:=(List.getElem?_eq_some_iff.1 I).1;cases o with
   |none=>grind
   |map es' c'=>
    cases c with
    |map es c0=>
     obtain⟨rfl,rfl⟩:es=es'∧c0=c':=U;rcases hobj id _ hcs (by simp)with⟨b,z,hr⟩|⟨hv,_⟩
     ·exact .inl ⟨b,hpos b id j z (hικ j id hjl C),MapIs.mono hr hrk rfl⟩
     grind
    | _=>exact U.elim
   |iter m since seen last=>cases c<;>exact U.elim
   |row fs=>
    cases c with
    |none=>exact U.elim
    |map _ _=>exact U.elim
    |iter _ _ _ _=>exact U.elim
    |row cs=>
     rcases hobj id _ hcs (by simp)with⟨b,z,ca,e,hh,hl,hcc⟩|⟨hv,hno⟩;case inr=>
      have hc0:cs= []:=by grind
      subst hc0;have hf0:fs= []:=by
       cases fs with
       |nil=>rfl
       |cons f fs=>exact(show qfe [] ((f::fs).map (ASlot.ren1 ι))from U).elim
      subst hf0;refine .inr ⟨rfl,λb z=> ?_⟩;grind
     have hkeep:=List.all_eq_true.1 M.inK _ (List.mem_of_getElem? I);simp only[AObj.inK,List.all_eq_true]at hkeep;have key: ∀(cs fs:List ASlot),qfe cs (fs.map (ASlot.ren1 ι)) ->fs.length<=cs.length∧ ∀(i:Nat) (f:ASlot),fs[i]? =some f-> ∃s,cs[i]? =some s∧qy9 s (f.ren1 ι):=by
      intro cs fs;induction fs generalizing cs with
      |nil=>simp
      |cons f fs ih=>
       intro h;cases cs with
       |nil=>exact h.elim
       |cons s cs=>
        obtain⟨F,h2⟩:=h;grind
     obtain⟨k1,k2⟩:=key cs fs U;refine .inl ⟨b,hpos b id j z (hικ j id hjl C),ca,e,hh,by omega,λi f hf=> ?_⟩;obtain⟨s,hs,hms⟩:=k2 i f hf;obtain⟨v,v1,v2,v3⟩:=hcc i s hs;refine⟨v,v1,v2,?_⟩;cases f with
     |d x=>
      have hk:=hkeep _ (List.mem_of_getElem? hf);exact(qvx (jk v3) hms).down M.nd hkl rfl hk
     |bad=>trivial
     |own t' es' rows'=>
      cases s with
      |own t es rows=>
       obtain⟨rfl,he⟩:=hms;have hk:=hkeep _ (List.mem_of_getElem? hf);have hrl:(D.renR ι rows').length=rows'.length:=by rw[D.renR_map,List.length_map]
       have hsl: ∀{v:Value},RV g w v (.sl es (D.renR ι rows')) ->RV (xo H κ g) w v (.sl es rows'):=λh=>h.down (y:= .sl es rows') M.nd hkl rfl (by simp only[D.inK];exact hk);have hmem:(t,t')∈H:=hH▸List.mem_append_right _ (qpx j id cs fs _ C I hcs (ql0 i t es rows t' es rows' hs hf));have hpair:=qb4 hfit.nd1 hmem;refine⟨hsl (qbn v3.1 ⟨.inl rfl,he⟩),λ_=> ?_⟩;have hoo:=qpv (v3.2 (hfit.lv _ hmem)) he;unfold qyl at hoo⊢;rw[hrl]at hoo;rcases hoo with hf|⟨b,cap,cur,e,F,h2,h3⟩
       ·exact .inl hf
       ·exact .inr ⟨b,cap,cur,e,F,by unfold xo;rw[h2];simp only[hpair],h3⟩
      | _=>exact hms.elim
     | _=>cases s<;>exact hms.elim
  ·grind
  ·obtain⟨id,F,h2⟩:=hposr b j h;have hjl:j<fo.length:=by grind
   refine⟨fo[j],List.getElem?_eq_getElem hjl,λhn=> ?_⟩;obtain⟨id',c,C,hcs,U⟩:=qd2 M.olds j _ (List.getElem?_eq_getElem hjl);rw[hn]at U;cases c<;>exact U.elim
 refine(hc _ w vs hdom (by omega) hargs hobjs).mono ?_;rintro e w' ⟨v,g1,live1,rfl,G,hdom1,Z,hrs1,hobjs1⟩;rw[<- hR]at Z;have cOut: ∀b,g b= .out->xo H κ g b= .out:=λb h=>by grind[xo]
 have cObj: ∀b id,g b= .obj id->id∉ι->xo H κ g b= .out:=λb id h C=>by
  grind[qpu,id,q8y,List.mem_of_mem_take,xo]
 have cNone: ∀b n,g b= .row n none->xo H κ g b= .row n none:=λb n h=>by grind[xo]
 have O: ∀b n t,g b= .row n (some t) ->xo H κ g b= .row n (kv H t):=λb n t h=>by grind[xo]
 have cUniN: ∀b t,g b= .uni t->kv H t=none->xo H κ g b= .out:=λb t h hp=>by grind[xo]
 have hfirst: ∀(b id:Nat),g b= .obj id->id∈ι-> ∃j:Nat,κ[j]? =some id:=by
  intro b id z C;obtain⟨j,I⟩:=List.mem_iff_getElem?.1 C;by_cases hjl:j<fo.length
  ·grind
  ·exfalso;have U:id∈ι.drop fo.length:=by
    refine List.mem_iff_getElem?.2 ⟨j-fo.length,?_⟩;grind
   obtain⟨o,F,h2⟩:=hids b id z;rw[M.news id U]at F;grind
 let ren:Nat->Option Nat:=λu=>if u∈R then some (base+R.idxOf u)else none
 let G':=qkk H ι w.heap.size ren g g1
 have bOut: ∀b,b<w.heap.size->g b= .out->G' b= .out:=λb z h=>by simp only[G'];simp_all[qkk,if_pos]
 have bObj: ∀b id,b<w.heap.size->g b= .obj id->G' b= .obj id:=λb id z h=>by simp only[G'];simp_all[qkk,if_pos]
 have bNone: ∀b n,b<w.heap.size->g b= .row n none->G' b= .row n none:=λb n z h=>by simp only[G'];simp_all[qkk,if_pos]
 have bKeep: ∀b n t,b<w.heap.size->g b= .row n (some t) ->kv H t=none->G' b= .row n (some t):=λb n t z h hp=>by simp only[G'];simp_all[qkk,if_pos]
 have bKeepU: ∀b t,b<w.heap.size->g b= .uni t->kv H t=none->G' b= .uni t:=λb t z h hp=>by simp only[G'];simp_all[qkk,if_pos]
 have bUp: ∀b t t',b<w.heap.size->g b= .uni t->kv H t=some t'->G' b=upR ι ren (g1 b):=λb t t' z h hp=>by simp only[G'];simp_all[qkk,if_pos]
 have bNew: ∀b,¬b<w.heap.size->G' b=upR ι ren (g1 b):=λb z=>by simp only[G'];unfold qkk;grind
 have hid1: ∀b j,g1 b= .obj j->j<ι.length:=by
  intro b j h;obtain⟨o,F,_⟩:=hobjs1.ids b j h;rw[M.len];grind
 have oUp: ∀b j,g1 b= .obj j->G' b= .obj (ι.getD j 0):=by
  intro b j h;have I:=hid1 b j h;have hij:ι[j]? =some (ι.getD j 0):=by grind
  by_cases z:b<w.heap.size
  ·cases J:g b with
   |out=>rw[(G.out b z (cOut b J)).2]at h;cases h
   |row n o=>
    cases o with
    |none=>rw[(G.rowN b n z (cNone b n J)).2]at h;cases h
    |some t=>
     have E:=O b n t J;cases hp:kv H t with
     |none=>rw[hp]at E;rw[(G.rowN b n z E).2]at h;cases h
     |some t'=>
      rw[hp]at E;obtain⟨n',o',q1,_⟩:=G.rowS b n t' z E;grind
   |uni t=>
    cases hp:kv H t with
    |none=>rw[(G.out b z (cUniN b t J hp)).2]at h;cases h
    |some t'=>grind[upR]
   |obj id=>
    by_cases C:id∈ι
    ·obtain⟨j',hj'⟩:=hfirst b id J C;have:=(G.obj b j' z (hpos b id j' J hj')).1;grind
    ·rw[(G.out b z (cObj b id J C)).2]at h;cases h
  grind[upR]
 have upObj: ∀(r:Role) (id:Nat),upR ι ren r= .obj id-> ∃j:Nat,ι[j]? =some id∧r= .obj j:=by
  intro r id h;cases r with
  |out=>cases h
  |row n o=>cases h
  |uni u=>grind[upR]
  |obj j=>
   simp only[upR]at h;grind
 have oBack: ∀(b id:Nat),G' b= .obj id->id∈ι-> ∃j:Nat,ι[j]? =some id∧g1 b= .obj j:=by
  intro b id h C;by_cases z:b<w.heap.size
  ·cases hgb:g b with
   |out=>grind
   |row n o=>
    cases o with
    |none=>grind
    |some t=>
     simp only[G']at h;unfold qkk at h;rw[if_pos z,hgb]at h;simp only at h;split at h
     ·split at h<;>cases h
     grind
   |uni t=>
    cases hp:kv H t with
    |none=>grind
    |some t'=>
     grind
   |obj id2=>
    have:=bObj b id2 z hgb;rw[h]at this;cases this;obtain⟨j,I⟩:=hfirst b id hgb C;exact⟨j,hκι j id I,(G.obj b j z (hpos b id j hgb I)).1⟩
  grind
 have Y:RowsKept g1 w' G' w':=by
  intro b n o h;simp only[G'];unfold qkk;by_cases z:b<w.heap.size
  ·rw[if_pos z];cases J:g b with
   |out=>rw[(G.out b z (cOut b J)).2]at h;cases h
   |uni t=>
    cases hp:kv H t with
    |none=>rw[(G.out b z (cUniN b t J hp)).2]at h;cases h
    |some t'=>
     simp only[hp,h];exact⟨_,_,rfl,Nat.le_refl _,λ_ _ _ h=>h⟩
   |obj id=>
    exfalso;by_cases C:id∈ι
    ·obtain⟨j,I⟩:=hfirst b id J C;have:=(G.obj b j z (hpos b id j J I)).1;grind
    ·rw[(G.out b z (cObj b id J C)).2]at h;cases h
   |row m om=>
    cases om with
    |none=>
     rw[(G.rowN b m z (cNone b m J)).2]at h;grind
    |some t=>
     cases hp:kv H t with
     |none=>
      have E:=O b m t J;rw[hp]at E;rw[(G.rowN b m z E).2]at h;grind
     |some t'=>
      grind
  ·rw[if_neg z,h];exact⟨_,_,rfl,Nat.le_refl _,λ_ _ _ h=>h⟩
 have hown: ∀b n u,g1 b= .row n (some u) ->G' b= .row n (ren u):=by
  intro b n u h;simp only[G'];unfold qkk;by_cases z:b<w.heap.size
  ·rw[if_pos z];cases J:g b with
   |out=>rw[(G.out b z (cOut b J)).2]at h;cases h
   |uni t=>
    cases hp:kv H t with
    |none=>rw[(G.out b z (cUniN b t J hp)).2]at h;cases h
    |some t'=>simp only[hp,h];rfl
   |obj id=>
    exfalso;by_cases C:id∈ι
    ·grind
    ·rw[(G.out b z (cObj b id J C)).2]at h;cases h
   |row m om=>
    cases om with
    |none=>rw[(G.rowN b m z (cNone b m J)).2]at h;cases h
    |some t=>
     cases hp:kv H t with
     |none=>
      have E:=O b m t J;rw[hp]at E;rw[(G.rowN b m z E).2]at h;cases h
     |some t'=>grind
  ·rw[if_neg z,h];rfl
 have hownU: ∀b u u',g1 b= .uni u->ren u=some u'->G' b= .uni u':=by
  intro b u u' h hu;by_cases z:b<w.heap.size
  ·cases J:g b with
   |out=>rw[(G.out b z (cOut b J)).2]at h;cases h
   |uni t=>
    cases hp:kv H t with
    |none=>rw[(G.out b z (cUniN b t J hp)).2]at h;cases h
    |some t'=>grind[upR]
   |obj id=>
    exfalso;by_cases C:id∈ι
    ·obtain⟨j,I⟩:=hfirst b id J C;have:=(G.obj b j z (hpos b id j J I)).1;rw[h]at this;cases this
    ·rw[(G.out b z (cObj b id J C)).2]at h;cases h
   |row m om=>
    exfalso;cases om with
    |none=>rw[(G.rowN b m z (cNone b m J)).2]at h;cases h
    |some t=>
     have E:=O b m t J;cases hp:kv H t with
     |none=>
      rw[hp]at E;rw[(G.rowN b m z E).2]at h;cases h
     |some t'=>
      rw[hp]at E;obtain⟨n',o',q1,_⟩:=G.rowS b m t' z E;grind
  ·rw[bNew b z,h];simp only[upR,hu]
 have hup: ∀{u:Value} {x:D},RV g1 w' u x->RV G' w' u (x.ren ι):=λh=>h.up Y oUp;have hrc: ∀{u:Value} {s:ASlot},RC g1 w' live1 u s->(∀t∈s.toks,t∈R) ->RC G' w' ((live.filter λt=> !(H.map (·.1)).contains t)++((wm R base r).toks++xf (fo'.map (AObj.rt R base)))) u ((renT R base s).ren1 ι):=by
  intro u s h ht;have hsl: ∀{es:Nat} {rows:List (List D)},RV g1 w' u (.sl es rows) ->RV G' w' u (.sl es (D.renR ι rows)):=λh=>hup h;have hrl: ∀rows:List (List D),(D.renR ι rows).length=rows.length:=λrows=>by rw[D.renR_map,List.length_map]
  cases s with
  |d x=>exact hup h
  |own t es rows=>
   have htm:t∈R:=ht t (by simp[ASlot.toks]);refine⟨hsl h.1,λ_=> ?_⟩;unfold qyl;rw[hrl];rcases h.2 (Z t htm)with hf|⟨b,cap,cur,e,F,h2,h3⟩
   ·exact .inl hf
   ·refine .inr ⟨b,cap,cur,e,F,?_,h3⟩;rw[hown b _ t h2];simp only[ren,if_pos htm]
  |uni t es rows=>
   have htm:t∈R:=ht t (by simp[ASlot.toks]);refine⟨by simp only[hrl];exact h.1,λ_=> ?_⟩;rcases h.2 (Z t htm)with⟨ad,F,h2⟩|⟨b,cap,cur,e,F,h2,h3,h4,h5,h6,h7,h8⟩
   ·refine .inl ⟨ad,F,by rw[h2];rfl⟩
   ·refine .inr ⟨b,cap,cur,e,by rw[hrl];exact F,?_,h3,by rw[hrl];exact h4,h5,h6,λq hq=> ?_,λj d I=> ?_⟩
    ·exact hownU b t _ h2 (by simp only[ren,if_pos htm])
    ·rw[D.renR_map]at hq;obtain⟨q0,hq0,rfl⟩:=List.mem_map.1 hq;simpa using h7 q0 hq0
    ·rw[qkl,List.getElem?_map,Option.map_eq_some_iff]at I;obtain⟨d0,hj0,rfl⟩:=I;obtain⟨c1,u',c2,c3⟩:=h8 j d0 hj0;exact⟨by rw[y4];exact c1,u',c2,hup c3⟩
  |full es rows=>exact⟨hsl h.1,by simp only[hrl];exact h.2⟩
  |rd cells=>
   obtain⟨b,off,n,o,fn,rfl,J,hn,hcc⟩:=h;obtain⟨n',o',hg',hnn,hcell⟩:=Y b n o J;have hll:(D.renL ι cells).length=cells.length:=by rw[D.renL_map,List.length_map]
   refine⟨b,off,n',o',fn,rfl,hg',by omega,λj d I=> ?_⟩;rw[D.renL_map,List.getElem?_map,Option.map_eq_some_iff]at I;obtain⟨d0,hj0,rfl⟩:=I;obtain⟨c1,c2,c3⟩:=hcc j d0 hj0;have hjl:j<cells.length:=(List.getElem?_eq_some_iff.1 hj0).1;exact⟨by rw[y4];exact c1,hcell _ _ (by omega) c2,hup c3⟩
  |tup l=>exact h.elim
  |bad=>trivial
 have hqx:QtX T (· ∈ι) g w G' w' live ((live.filter λt=> !(H.map (·.1)).contains t)++((wm R base r).toks++xf (fo'.map (AObj.rt R base)))):=by
  refine⟨⟨G.os,G.tape,G.output,G.size,λb z h=>⟨(G.out b z (cOut b h)).1,bOut b z h⟩,λb n z h=>⟨(G.rowN b n z (cNone b n h)).1,bNone b n z h⟩,λb n t z h=> ?_,λb id z h=>⟨bObj b id z h,?_⟩⟩,⟨λb z=> ?_,hd.2.same λb n z h=>⟨(G.rowN b n z (cNone b n h)).1,bNone b n z h⟩⟩,λb id h C=> ?_,λb id h C=> ?_,λb n t htb htl h=> ?_,λt htb htl=> ?_,λb t htb htl h=> ?_⟩
  ·cases hp:kv H t with
   |none=>
    have E:=O b n t h;rw[hp]at E;obtain⟨F,_⟩:=G.rowN b n z E;exact⟨n,some t,bKeep b n t z h hp,Nat.le_refl _,λi u _ hu=>by rw[jw F];exact hu⟩
   |some t'=>
    have E:=O b n t h;rw[hp]at E;obtain⟨n',o',q1,q2,q3⟩:=G.rowS b n t' z E;refine⟨n',o'.bind ren,?_,q2,q3⟩;simp only[G'];unfold qkk;rw[if_pos z,h];simp only[hp,q1]
  ·by_cases C:id∈ι
   ·obtain⟨j,I⟩:=hfirst b id h C;exact(G.obj b j z (hpos b id j h I)).2
   ·exact Nat.le_of_eq (jf (G.out b z (cObj b id h C)).1).symm
  ·simp only[G'];unfold qkk;have:=G.size;rw[if_neg (by omega),hdom1.1 b z];rfl
  ·exact(G.out b (hd.lt_obj h) (cObj b id h C)).1
  ·by_cases z:b<w.heap.size
   ·cases hgb:g b with
    |out=>rw[bOut b z hgb]at h;cases h
    |row n o=>
     cases o with
     |none=>rw[bNone b n z hgb]at h;cases h
     |some t=>
      simp only[G']at h;unfold qkk at h;rw[if_pos z,hgb]at h;simp only at h;split at h
      ·split at h<;>cases h
      omega
    |uni t=>
     cases hp:kv H t with
     |none=>rw[bKeepU b t z hgb hp]at h;cases h
     |some t'=>
      rw[bUp b t t' z hgb hp]at h;obtain⟨j,hij,_⟩:=upObj _ _ h;exact(C (List.mem_of_getElem? hij)).elim
    |obj id2=>
     have:=bObj b id2 z hgb;rw[h]at this;exact this.symm
   ·rw[bNew b z]at h;obtain⟨j,hij,_⟩:=upObj _ _ h;exact(C (List.mem_of_getElem? hij)).elim
  ·have z:=hd.lt_row h;have hnt:t∉H.map (·.1):=by
    rcases List.mem_append.1 htl with F|F
    ·simpa using (List.mem_filter.1 F).2
    ·exfalso;have:=hI F;exact hfr t htb ⟨by omega,by omega⟩
   have hp:kv H t=none:=by
    cases hp:kv H t with
    |none=>rfl
    |some t'=>exact(hnt (List.mem_map.2 ⟨(t,t'),qly hp,rfl⟩)).elim
   have E:=O b n t h;rw[hp]at E;exact⟨bKeep b n t z h hp,(G.rowN b n z E).1⟩
  ·rcases List.mem_append.1 htl with F|F
   ·exact(List.mem_filter.1 F).1
   ·exfalso;have:=hI F;exact hfr t htb ⟨by omega,by omega⟩
  ·have z:=hd.lt_uni h;have hnt:t∉H.map (·.1):=by
    rcases List.mem_append.1 htl with F|F
    ·simpa using (List.mem_filter.1 F).2
    ·exfalso;have:=hI F;exact hfr t htb ⟨by omega,by omega⟩
   have hp:kv H t=none:=by
    cases hp:kv H t with
    |none=>rfl
    |some t'=>exact(hnt (List.mem_map.2 ⟨(t,t'),qly hp,rfl⟩)).elim
   exact⟨bKeepU b t z h hp,(G.out b z (cUniN b t h hp)).1⟩
 refine⟨v,G',rfl,hqx,?_,λj id o I hjo hne=> ?_,λb b' id C h h'=> ?_,λb id C h=> ?_⟩
 ·have hnoι:ι= [] -> ∀b j,g1 b≠ .obj j:=λh0 b j h=>by have:=hid1 b j h;rw[h0]at this;simp at this
  have fin1: ∀{u:Value} {s:ASlot},RC g1 w' live1 u s->(∀l,s≠ .tup l) ->(∀t∈s.toks,t∈R) ->RC G' w' ((live.filter λt=> !(H.map (·.1)).contains t)++((wm R base r).toks++xf (fo'.map (AObj.rt R base)))) u ((renT R base s).ren ι):=by
   intro u s h hnt ht;cases hι:ι with
   |cons x l=>
    have:=hrc h ht;rw[hι]at this;cases s<;>first|exact this|exact(hnt _ rfl).elim
   |nil=>
    show RC G' w' _ u (renT R base s);have hno:=hnoι hι;cases s with
    |d x=>exact RV.mono_noObj h Y hno
    |own t es rows=>
     have htm:t∈R:=ht t (by simp[ASlot.toks]);refine⟨RV.mono_noObj h.1 Y hno,λ_=> ?_⟩;rcases h.2 (Z t htm)with hf|⟨b,cap,cur,e,F,h2,h3⟩
     ·exact .inl hf
     ·refine .inr ⟨b,cap,cur,e,F,?_,h3⟩;rw[hown b _ t h2];simp only[ren,if_pos htm]
    |uni t es rows=>
     have htm:t∈R:=ht t (by simp[ASlot.toks]);refine⟨h.1,λ_=> ?_⟩;rcases h.2 (Z t htm)with F|⟨b,cap,cur,e,F,h2,h3,h4,h5,h6,h7,h8⟩
     ·exact .inl F
     ·refine .inr ⟨b,cap,cur,e,F,?_,h3,h4,h5,h6,h7,λj d I=> ?_⟩
      ·exact hownU b t _ h2 (by simp only[ren,if_pos htm])
      ·obtain⟨c1,u',c2,c3⟩:=h8 j d I;exact⟨c1,u',c2,RV.mono_noObj c3 Y hno⟩
    |full es rows=>exact⟨RV.mono_noObj h.1 Y hno,h.2⟩
    |rd cells=>
     obtain⟨b,off,n,o,fn,rfl,J,hn,hcc⟩:=h;obtain⟨n',o',hg',hnn,hcell⟩:=Y b n o J;refine⟨b,off,n',o',fn,rfl,hg',by omega,λj d I=> ?_⟩;obtain⟨c1,c2,c3⟩:=hcc j d I;have hjl:j<cells.length:=(List.getElem?_eq_some_iff.1 I).1;exact⟨c1,hcell _ _ (by omega) c2,RV.mono_noObj c3 Y hno⟩
    |tup l=>exact(hnt l rfl).elim
    |bad=>trivial
  cases r with
  |tup l=>
   obtain⟨us,rfl,hl,hcs⟩:=hrs1;have htk: ∀(i:Nat) (u:Value) (s0:ASlot),us[i]? =some u->l[i]? =some s0->(∀l',s0≠ .tup l')∧ ∀t∈s0.toks,t∈(ASlot.tup l).toks:=by
    intro i u s0 hu hs0;have hrc0:=hcs i u s0 hu hs0;cases s0 with
    |own t' es rows=>
     refine⟨by simp,λt htt=> ?_⟩;simp only[ASlot.toks,List.mem_singleton]at htt;subst htt;simp only[ASlot.toks,List.mem_flatMap];exact⟨_,List.mem_of_getElem? hs0,by simp[qbt]⟩
    |uni t' es rows=>
     refine⟨by simp,λt htt=> ?_⟩;simp only[ASlot.toks,List.mem_singleton]at htt;subst htt;simp only[ASlot.toks,List.mem_flatMap];exact⟨_,List.mem_of_getElem? hs0,by simp[qbt]⟩
    |tup l'=>exact hrc0.elim
    | _=>exact⟨by simp,λt htt=>by simp[ASlot.toks]at htt⟩
   cases hι:ι with
   |nil=>
    refine⟨us,rfl,by simp[hl],λi u s hu hs'=> ?_⟩;simp only[List.getElem?_map,Option.map_eq_some_iff]at hs';obtain⟨s0,hs0,rfl⟩:=hs';obtain⟨q1,q2⟩:=htk i u s0 hu hs0;have:=fin1 (hcs i u s0 hu hs0) q1 λt ht=>hRr t (q2 t ht);rw[hι]at this;exact this
   |cons x κ'=>
    refine⟨us,rfl,by simp[hl],λi u s hu hs'=> ?_⟩;simp only[List.getElem?_map,Option.map_eq_some_iff]at hs';obtain⟨s1,⟨s0,hs0,rfl⟩,rfl⟩:=hs';obtain⟨q1,q2⟩:=htk i u s0 hu hs0;have:=hrc (hcs i u s0 hu hs0) λt ht=>hRr t (q2 t ht);rw[hι]at this;exact this
  | _=>exact jk (fin1 (qac hrs1 (by simp)) (by simp) (λt h=>hRr t h))
 ·rw[List.getElem?_map,List.getElem?_map,Option.map_eq_some_iff]at hjo;obtain⟨o1,ho1,rfl⟩:=hjo;rw[Option.map_eq_some_iff]at ho1;obtain⟨o0,ho0,rfl⟩:=ho1;have hne0:o0≠ .none:=λh=>hne (by rw[h];rfl);rcases hobjs1.objs j o0 ho0 hne0 with⟨b,z,hro⟩|⟨rfl,hno⟩;case inr=>
   refine .inr ⟨rfl,λb z=> ?_⟩;obtain⟨j',hj',F⟩:=oBack b id z (List.mem_of_getElem? I);have:=qcx M.nd I;rw[qcx M.nd hj']at this;cases this;exact hno b F
  have hij:ι.getD j 0=id:=by rw[List.getD_eq_getElem?_getD,I];rfl
  refine .inl ⟨b,by rw[oUp b j z,hij],?_⟩;cases o0 with
  |none=>exact hro.elim
  |map es clock=>exact MapIs.mono hro Y rfl
  |iter m since seen last=>
   refine IterIs.mono (R:=λv=>RC g1 w' live1 v m) (R':=λv=>RC G' w' ((live.filter λt=> !(H.map (·.1)).contains t)++((wm R base r).toks++xf (fo'.map (AObj.rt R base)))) v (m.ren1 ι)) hro rfl (λo hv=> ?_);cases m with
   |d x=>exact hup hv
   |bad=>trivial
   |own t es rows=>cases hv.1
   |uni t es rows=>obtain⟨⟨_,_,h⟩,_⟩:=hv;cases h
   |full es rows=>cases hv.1
   |rd cs=>obtain⟨_,_,_,_,_,h,_⟩:=hv;cases h
   |tup l=>exact hv.elim
  |row cells=>
   obtain⟨c,e,hh,hl,hcc⟩:=hro;refine⟨c,e,hh,by rw[List.length_map,List.length_map];exact hl,λi s hs=> ?_⟩;rw[List.getElem?_map,List.getElem?_map,Option.map_eq_some_iff]at hs;obtain⟨s1,hs1,rfl⟩:=hs;rw[Option.map_eq_some_iff]at hs1;obtain⟨s0,hs0,rfl⟩:=hs1;obtain⟨u,u1,u2,u3⟩:=hcc i s0 hs0;refine⟨u,u1,u2,?_⟩;have hn: ∀l,s0≠ .tup l:=by rintro l rfl;exact u3.elim
   rw[xn1 hn];exact hrc u3 λt ht=>hRo t (qpt (List.mem_of_getElem? ho0) (List.mem_of_getElem? hs0) ht)
 ·obtain⟨j,I,F⟩:=oBack b id h C;obtain⟨j',hj',h1'⟩:=oBack b' id h' C;have:=qcx M.nd I;rw[qcx M.nd hj']at this;cases this;exact hobjs1.inj b b' j F h1'
 ·obtain⟨j,I,F⟩:=oBack b id h C;obtain⟨o,ho,hne⟩:=hobjs1.ids b j F;refine⟨j,(o.rt R base).ren ι,I,by rw[List.getElem?_map,List.getElem?_map,ho];rfl,λhn=>hne ?_⟩;cases o with
  |none=>rfl
  | _=>simp[AObj.ren,AObj.rt]at hn
end
section
variable {P:Program} {N tb:Nat} {T:Nat→Prop} {g:Ghost} {w:World} {st:St} {a:Act} {oper:Oper}
def Next (T:Nat->Prop) (tb:Nat):Nat->Prop:=λt=>T t∨(tb<=t∧t<tb+16)
def Does (P:Program) (N:Nat) (T:Nat->Prop) (tb:Nat) (g:Ghost) (w:World) (st:St) (a:Act) (oper:Oper) (out:Out):Prop:=
 ∃n v w' g',(execOp a.eval oper).run P w= .ok n w'∧(n= .value v∨(n= .skip∧v=undef))∧G g w g' w'∧
  SR N (Next T tb) g' w' {zx st out.wr with live:=qs st.live out} a∧RS g' w' (qs st.live out) v out.v∧ ∀t∈out.v.toks,Next T tb t
theorem xg {live:List Nat} {o:Out} (h1:o.cons= []) (h2:o.iss= []):qs live o=live:=by
 simp[qs,h1,h2]
theorem xc {out:Out} (hs:SR N T g w st a) (h:yk P g w st a oper out.v) (hw:out.wr=none) (hc:out.cons= []) (hi:out.iss= []) (ht: ∀t∈out.v.toks,T t):Does P N T tb g w st a oper out:=by
 obtain⟨v,h1,h2⟩:=h;refine⟨_,v,w,g,h1,.inl rfl,G.refl g w,?_,?_,λt d=> .inl (ht t d)⟩
 ·rw[hw,xg hc hi];exact hs.quiet (Qt.refl _ hs.dom _) (λ_ h=> .inl h) (λt d=> .inl (hs.wf.live t d))
 grind[xg]
theorem qhe {out:Out} (hs:SR N T g w st a) (h: ∃v w' g',(execOp a.eval oper).run P w= .ok (.value v) w'∧Qt T g w g' w' st.live (qs st.live out)∧RS g' w' (qs st.live out) v out.v)
  (hw:out.wr=none) (hi: ∀t∈out.iss,Next T tb t) (ht: ∀t∈out.v.toks,Next T tb t):Does P N T tb g w st a oper out:=by
 obtain⟨v,w',g',h1,e,h3⟩:=h;refine⟨_,v,w',g',h1,.inl rfl,e.toG,?_,h3,ht⟩;rw[hw];exact hs.quiet e (λ_ h=> .inl h) (λt d=>by
  rcases jl.1 d with⟨h,_⟩|h
  ·exact .inl (hs.wf.live t h)
  grind)
theorem qe0 {out:Out} (h: ∃v w' g',(execOp a.eval oper).run P w= .ok (.value v) w'∧G g w g' w'∧SR N T g' w' (zx st out.wr) a∧RS g' w' st.live v out.v)
  (hc:out.cons= []) (hi:out.iss= []) (ht: ∀t∈out.v.toks,T t):Does P N T tb g w st a oper out:=by
 obtain⟨v,w',g',h1,h2,e,h4⟩:=h;have hl:(zx st out.wr).live=st.live:=by unfold zx;grind
 refine⟨_,v,w',g',h1,.inl rfl,h2,?_,?_,λt d=> .inl (ht t d)⟩
 ·rw[xg hc hi,<- hl];exact e.quiet (live':=(zx st out.wr).live) (Qt.refl _ e.dom _) (λ_ h=> .inl h) (λt d=> .inl (e.wf.live t d))
 grind[xg]
theorem qza (hs:SR N T g w st a) (n:Option Nat) (s:ASlot): ∀t∈(wi n st.os s).v.toks,T t:=by
 intro t d;unfold wi at d;split at d
 ·rename_i id off;split at d
  ·simp only at d;by_cases h:off<(qi st.os id).length
   ·have hg:(qi st.os id).getD off .bad=(qi st.os id)[off]:=by grind
    rw[hg]at d;have e:(qi st.os id)[off]∈qi st.os id:=List.getElem_mem h;unfold qi at h e d;cases ho:st.os[id]?with
    |none=>grind
    |some o=>
     simp only[ho]at e d;exact hs.wf.os id o ho _ e t d
   grind[qi,id,List.getD,ASlot.toks]
  grind[ASlot.toks]
 all_goals grind[ASlot.toks,Out.bad]
theorem qzb {l:List ASlot} {i t:Nat} (h:t∈(l.getD i .bad).toks) (hn: ∀x∈l,∀m,x≠ .tup m):t∈(ASlot.tup l).toks:=by
 by_cases hi:i<l.length
 ·have hg:l.getD i .bad=l[i]:=by grind
  rw[hg]at h;simp only[ASlot.toks,List.mem_flatMap];refine⟨l[i],List.getElem_mem hi,?_⟩;cases hx:l[i]<;>rw[hx]at h<;>simp[ASlot.toks]at h
  all_goals grind[qbt,List.getElem_mem]
 grind[List.getD,ASlot.toks]
theorem qng {mx:Bool} {x y:Operand} {x' y':Opd} {ts:Array TypeId} (h:(oper.op= .call {callee:= .builtin .min,args:= #[x,y],argTypes:=ts}∧mx=false)∨(oper.op= .call {callee:= .builtin .max,args:= #[x,y],argTypes:=ts}∧mx=true))
  (hx:qt x=some x') (hy:qt y=some y') (hs:SR N T g w st a) (e:(sem tb (.minmax mx x' y') st).ob):yk P g w st a oper (sem tb (.minmax mx x' y') st).v:=by
 simp only[sem]at e⊢;cases h1:x'.get st.fr with
 |d p=>
  cases p with
  |int k1 n=>
   cases h2:y'.get st.fr with
   |d q=>
    cases q with
    |int k2 m=>
     simp only[h1,h2]at e⊢;obtain⟨o1,o2,rfl⟩:=e;have l:=xe hs hx o1;have i:=xe hs hy o2;rw[h1]at l;rw[h2]at i;have t:=ky (wg l);have o:=ky (wg i);rcases h with⟨h,rfl⟩|⟨h,rfl⟩
     ·exact⟨_,by simp[execOp,h,resolve,invoke,builtin,Builtin.min_,Builtin.min2,t,o],.int _ _⟩
     ·exact⟨_,by simp[execOp,h,resolve,invoke,builtin,Builtin.max_,Builtin.max2,t,o],.int _ _⟩
    | _=>grind[Out.bad]
   | _=>grind[Out.bad]
  | _=>grind[Out.bad]
 | _=>grind[Out.bad]
theorem qi3 {t o et:TypeId} {x k v:Operand} {x' k' v':Opd} {kd:KD} (ho:oper.op= .mapUpdate t x k v∨oper.op= .insert t x k v) (ht:P.underlying t=some (.map o et)) (hx:qt x=some x') (hk:qt k=some k') (hv:qt v=some v')
  (m:kdOf P o=some kd) (hs:SR N T g w st a) (l:(sem tb (.mapUpdate kd x' k' v') st).ob):Does P N T tb g w st a oper (sem tb (.mapUpdate kd x' k' v') st):=by
 obtain⟨w',q1,q2,e⟩:=qsq ho ht hx hk hv m hs l;have d:(sem tb (.mapUpdate kd x' k' v') st).cons= []∧(sem tb (.mapUpdate kd x' k' v') st).iss= []∧(sem tb (.mapUpdate kd x' k' v') st).v= .bad:=by
  simp only[sem,zb];split<;>exact⟨rfl,rfl,rfl⟩
 have hl:(zx st (sem tb (.mapUpdate kd x' k' v') st).wr).live=st.live:=by unfold zx;grind
 refine⟨_,undef,w',g,q1,.inr ⟨rfl,rfl⟩,q2,?_,?_,?_⟩
 ·rw[xg d.1 d.2.1,<- hl];exact e.quiet (live':=(zx st (sem tb (.mapUpdate kd x' k' v') st).wr).live) (Qt.refl _ e.dom _) (λ_ h=> .inl h) (λt i=> .inl (e.wf.live t i))
 ·rw[d.2.2];trivial
 grind[ASlot.toks]
set_option linter.unusedVariables false in
theorem xb4 {M oo:Bool} {back:Nat} {o:SOp} (hc:xd P M oo back oper.op=some o) (hs:SR N T g w st a) (hfr:Fresh T tb) (q:(sem tb o st).ob) (hlv: ∀t∈(sem tb o st).cons,t∈st.live):Does P N T tb g w st a oper (sem tb o st):=by
 generalize C:oper.op=op at hc;cases op with
 |move x=>
  simp only[xd,Option.map_eq_some_iff]at hc;obtain⟨y,R,rfl⟩:=hc;exact xc hs (qyq (.inl C) R hs q) rfl rfl rfl (qey hs R (by first|exact q|exact q.1))
 |assign x=>
  simp only[xd,Option.map_eq_some_iff]at hc;obtain⟨y,R,rfl⟩:=hc;exact xc hs (qyq (.inr C) R hs q) rfl rfl rfl (qey hs R (by first|exact q|exact q.1))
 |pick c x y=>
  simp only[xd]at hc;grind[q8m,xc,sem,Out.bad,ASlot.toks]
 |box t x=>
  simp only[xd,Option.map_eq_some_iff]at hc;obtain⟨y,R,rfl⟩:=hc;exact qe0 (xhq C R hs q) rfl rfl (by simp[sem,ASlot.toks])
 |alloc t=>
  simp only[xd,Option.map_eq_some_iff]at hc;obtain⟨z,hz,rfl⟩:=hc;exact qe0 (q8s C hz hs q) rfl rfl (by simp[sem,ASlot.toks])
 |build t parts=>
  simp only[xd]at hc;split at hc
  ·rename_i z ps fs F E I;split at hc
   ·rename_i J;cases hc;exact xc hs (qpg C F E (.inl ⟨fs,I,J⟩) hs q) rfl rfl rfl (by simp[sem,ASlot.toks])
   grind
  ·rename_i z ps n e F E I;split at hc
   ·rename_i J;cases hc;exact xc hs (qpg C F E (.inr ⟨n,e,I,J⟩) hs q) rfl rfl rfl (by simp[sem,ASlot.toks])
   grind
  grind
 |buildSlice t len parts=>
  simp only[xd]at hc;split at hc
  ·rename_i e ht;split at hc
   ·rename_i z ps i F E I;split at hc
    ·rename_i J;cases hc;refine qhe hs (qpl C ht I F E J.1 J.2.1 J.2.2 hs hfr q) ?_ ?_ ?_<;>simp only[sem]<;>first|rfl|grind[ASlot.toks,Next]
    grind
   grind
  grind
 |load t x=>
  simp only[xd]at hc;split at hc
  ·rename_i n y F E;cases hc;refine xc hs (qtb C F E hs q) ?_ ?_ ?_ (qza hs n _)<;>simp only[sem,wi]<;>split<;>first|rfl|grind
  grind
 |store t x v=>
  simp only[xd]at hc;split at hc
  ·rename_i n y z F E I;cases hc;obtain⟨w',q1,q2,q3⟩:=q8t C F E I hs q;have O:(sem tb (.store n y z) st).cons= []∧(sem tb (.store n y z) st).iss= []∧(sem tb (.store n y z) st).v= .bad:=by
    simp only[sem,w6];split
    ·split
     ·simp
     ·split<;>exact⟨rfl,rfl,rfl⟩
    ·exact⟨rfl,rfl,rfl⟩
   have hl:(zx st (sem tb (.store n y z) st).wr).live=st.live:=by unfold zx;grind
   refine⟨_,undef,w',g,q1,.inr ⟨rfl,rfl⟩,q2,?_,?_,?_⟩
   ·rw[xg O.1 O.2.1,<- hl];exact q3.quiet (live':=(zx st (sem tb (.store n y z) st).wr).live) (Qt.refl _ q3.dom _) (λ_ h=> .inl h) (λt htm=> .inl (q3.wf.live t htm))
   ·rw[O.2.2];trivial
   grind[ASlot.toks]
  grind
 |nilCheck x=>
  simp only[xd,Option.map_eq_some_iff]at hc;obtain⟨y,R,rfl⟩:=hc;exact xc hs (qsl C R hs q) rfl rfl rfl (qey hs R (by first|exact q|exact q.1))
 |binOp b t x y u=>
  have hbin: ∀s1 s2:ASlot,(binS b s1 s2).wr=none∧(binS b s1 s2).cons= []∧(binS b s1 s2).iss= []∧(binS b s1 s2).v.toks= []:=by
   intro s1 s2;unfold binS;split
   ·split<;>(refine⟨rfl,rfl,rfl,?_⟩)<;>first|rfl|(unfold qj4;split<;>rfl)
   ·refine⟨rfl,rfl,rfl,?_⟩;unfold qm7;split<;>rfl
   ·exact⟨rfl,rfl,rfl,rfl⟩
  simp only[xd]at hc;split at hc
  ·grind[xc,qyr,sem]
  ·grind[xc,qyr,sem]
  ·grind[xc,xbp,sem,Out.bad,ASlot.toks]
  ·grind[sem,Out.bad]
  ·grind[xc,qpf,sem,Out.bad,ASlot.toks]
  ·grind[xc,qpf,sem,Out.bad,ASlot.toks]
  all_goals grind[xc,q23,sem,Out.bad,ASlot.toks]
 |unOp b t x=>
  simp only[xd]at hc;split at hc
  ·grind[xc,xbq,sem,Out.bad,ASlot.toks]
  all_goals grind[xc,xbr,sem,Out.bad,ASlot.toks]
 |convert s t x=>
  simp only[xd]at hc;split at hc
  ·grind[xc,q8n,sem,Out.bad,ASlot.toks]
  ·grind[xc,q22,sem,Out.bad,ASlot.toks]
  ·grind[xc,xbs,sem,Out.bad,ASlot.toks]
  ·rename_i e y F E I;split at hc
   ·rename_i J;cases hc;cases hr:(y.get st.fr).rows with
    |some p=>
     grind[xc,xbv,sem,Out.bad,ASlot.toks]
    |none=>
     cases hr2:qbm 1 st.os (y.get st.fr)with
     |some r=>grind[xc,qvr,sem,Out.bad,ASlot.toks]
     |none=>grind[sem,Out.bad]
   grind
  ·rename_i e y F E I;split at hc
   ·rename_i J;cases hc;grind[qhe,xhp,sem,Out.bad,ASlot.toks]
   grind
  grind
 |makeFunc fn first captured=>
  simp only[xd]at hc;split at hc
  ·rename_i f' c' F E;cases hc;exact xc hs (qyx C F E hs q) rfl rfl rfl (by simp[sem,ASlot.toks])
  grind
 |makeSlice t l c=>
  simp only[xd]at hc;split at hc
  ·rename_i e ht;split at hc
   ·rename_i z i l' c' F E I J;split at hc
    ·rename_i U;unfold mkSl at hc;cases oo with
     |true=>
      simp only[if_true,Option.some.injEq]at hc;subst hc;refine qe0 (qpn C ht E F U.1 U.2 I J hs q) ?_ ?_ ?_<;>simp only[sem]<;>split<;>first|rfl|simp[Out.bad,ASlot.toks]
     |false=>
      simp only[Bool.false_eq_true,if_false,Option.some.injEq]at hc;subst hc;refine qhe hs (qso C ht E F U.1 U.2 I J hs hfr q) ?_ ?_ ?_<;>simp only[sem]<;>split<;>first|rfl|(simp[Out.bad,ASlot.toks];done)|grind[ASlot.toks,Next]
    grind
   grind
  grind
 |slice t x lo hi mx=>
  simp only[xd]at hc;split at hc
  ·rename_i e x' lo' hi' mx' F E I J U;simp only[Option.map_eq_some_iff]at hc;obtain⟨i,hi',rfl⟩:=hc;refine xc hs (q28 C F hi' E I J U hs q) ?_ ?_ ?_ ?_<;>simp only[sem,qdl]<;>split<;>first|rfl|grind|(split<;>first|rfl|simp[Out.bad,ASlot.toks])
  ·rename_i x' lo' hi' F E I J U;cases hc;have hmx:mx=none:=by
    cases mx with
    |none=>rfl
    |some m=>simp_all
   subst hmx;refine xc hs (qy0 C F E I J hs q) ?_ ?_ ?_ ?_<;>simp only[sem,qai]<;>split<;>first|rfl|simp[Out.bad,ASlot.toks]
  ·rename_i n e x' lo' hi' mx' F E I J U;split at hc
   ·rename_i i h7;split at hc
    ·cases hc;refine xc hs (qyy C F h7 E I J U hs q) ?_ ?_ ?_ ?_<;>simp only[sem,wk]<;>split<;>first|rfl|simp[Out.bad,ASlot.toks]
    grind
   grind
  grind
 |fieldAddr t x f=>
  simp only[xd]at hc;split at hc;all_goals grind[xc,q25,sem,Out.bad,ASlot.toks]
 |field t x f=>
  simp only[xd]at hc;split at hc
  ·rename_i fs y F E;split at hc
   ·rename_i fl I;simp only[Option.map_eq_some_iff]at hc;obtain⟨n,hn,rfl⟩:=hc;grind[xc,q26,sem,Out.bad,ASlot.toks]
   grind
  grind
 |indexAddr t x i=>
  simp only[xd]at hc;split at hc
  ·grind[xc,q27,sem,Out.bad,ASlot.toks]
  all_goals grind[xc,qyu,sem,Out.bad,ASlot.toks]
 |index t x i=>
  simp only[xd]at hc;split at hc
  ·grind[xc,qyv,sem,Out.bad,ASlot.toks]
  all_goals grind[xc,qyw,sem,Out.bad,ASlot.toks]
 |extract x i=>
  simp only[xd,Option.map_eq_some_iff]at hc;obtain⟨y,R,rfl⟩:=hc;refine xc hs (qvq C R hs q) ?_ ?_ ?_ ?_
  ·simp only[sem];split<;>rfl
  ·simp only[sem];split<;>rfl
  ·simp only[sem];split<;>rfl
  ·simp only[sem]at q⊢;split
   ·rename_i l hl;simp only[hl]at q;intro t ht;have hrs:=xe hs R q.1;rw[hl]at hrs;obtain⟨vs,_,X,hc⟩:=hrs;have hmem:=qzb ht (λs hsl m hm=>by
     obtain⟨j,hj⟩:=List.getElem?_of_mem hsl;have hlt:j<vs.length:=by grind
     have:=hc j _ s (List.getElem?_eq_getElem hlt) hj;rw[hm]at this;exact this.elim)
    grind[qey]
   ·simp[Out.bad,ASlot.toks]
 |call c=>
  obtain⟨callee,args,argTypes⟩:=c;cases callee with
  |value f=>
   simp only[xd]at hc;split at hc
   ·cases M<;>cases hc<;>exact q.elim
   ·cases hc
  |invoke r m=>simp[xd]at hc
  |builtin b=>
  by_cases X:b= .len
  ·subst X;simp only[xd]at hc;split at hc
   ·rename_i x t ha hty;have Z:args= #[x]:=by grind
    have Y:argTypes= #[t]:=by grind
    subst Z Y;split at hc
    ·grind[xc,q8o,sem,Out.bad,ASlot.toks]
    ·grind[xc,xbt,sem,Out.bad,ASlot.toks]
    ·rename_i y kt Y F E;cases hc;refine xc hs (q8v C E F hs q) ?_ ?_ ?_ ?_<;>simp only[sem,qa6]<;>split<;>first|rfl|simp[Out.bad,ASlot.toks]
    grind
   grind
  by_cases happ:b= .append
  ·subst happ;simp only[xd]at hc;split at hc
   ·rename_i s x t u ha hty;have Z:args= #[s,x]:=by grind
    have Y:argTypes= #[t,u]:=by grind
    subst Z Y;have fin: ∀(es bytes:Nat) (s' x':Opd),(∃v w' g',(execOp a.eval oper).run P w= .ok (.value v) w'∧Qt T g w g' w' st.live (qs st.live (sem tb (.append M es bytes s' x') st))∧
      RS g' w' (qs st.live (sem tb (.append M es bytes s' x') st)) v (sem tb (.append M es bytes s' x') st).v) ->Does P N T tb g w st a oper (sem tb (.append M es bytes s' x') st):=by
     intro es bytes s' x' h;have hU: ∀(r:Src) (s:ASlot),(qah es bytes tb r s).wr=none∧(∀t∈(qah es bytes tb r s).iss,Next T tb t)∧ ∀t∈(qah es bytes tb r s).v.toks,Next T tb t:=by
      intro r s;unfold qah;grind[ASlot.toks,Next,Out.bad]
     cases M with
     |true=>
      grind[qhe,sem,jx,Out.bad,ASlot.toks]
     |false=>refine qhe hs h ?_ ?_ ?_<;>simp only[sem,jx]<;>split<;>first|rfl|grind[Out.bad,ASlot.toks]|grind[Out.bad,ASlot.toks,Next]
    have both: ∀{e:TypeId} {i:TypeInfo} {z:List D} {s' x':Opd},P.underlying t=some (.slice e) ->P.info? e=some i->jg P e=some z->i.size=z.length->0<i.bytes->
      ((∃f,P.underlying u=some (.slice f))∨P.underlying u=some .string) ->qt s=some s'->qt x=some x'->(sem tb (.append M i.size i.bytes s' x') st).ob->
      (∀t∈(sem tb (.append M i.size i.bytes s' x') st).cons,t∈st.live) ->
      ∃v w' g',(execOp a.eval oper).run P w= .ok (.value v) w'∧Qt T g w g' w' st.live (qs st.live (sem tb (.append M i.size i.bytes s' x') st))∧
      RS g' w' (qs st.live (sem tb (.append M i.size i.bytes s' x') st)) v (sem tb (.append M i.size i.bytes s' x') st).v:=by
     intro e i z s' x' q1 q2 q3 q4 q5 q6 q7 q8 q9 q10;cases M with
     |true=>grind[qpk]
     |false=>grind[qpj]
    have all: ∀{e:TypeId} {i:TypeInfo} {z:List D} {s' x':Opd},P.underlying t=some (.slice e) ->P.info? e=some i->jg P e=some z->i.size=z.length->0<i.bytes->
      ((∃f,P.underlying u=some (.slice f))∨P.underlying u=some .string) ->qt s=some s'->qt x=some x'->some (qbg M oo back i.size i.bytes s' x')=some o->Does P N T tb g w st a oper (sem tb o st):=by
     intro e i z s' x' q1 q2 q3 q4 q5 q6 q7 q8 hc;unfold qbg at hc;cases oo with
     |true=>
      simp only[if_true,Option.some.injEq]at hc;cases M with
      |true=>
       simp only[if_true]at hc;subst hc;exact q.elim
      |false=>
      simp only[Bool.false_eq_true,if_false]at hc;subst hc;refine qe0 (qnb C q1 q2 q3 q4 q5 q6 q7 q8 hs q) ?_ ?_ ?_<;>simp only[sem,jn]<;>split<;>first|rfl|simp[Out.bad,ASlot.toks]
     |false=>
      grind
    grind
   grind
  by_cases hcpy:b= .copy
  ·subst hcpy;simp only[xd]at hc;split at hc
   ·rename_i s x t u ha hty;have Z:args= #[s,x]:=by grind
    have Y:argTypes= #[t,u]:=by grind
    subst Z Y;have fin: ∀(es:Nat) (s' x':Opd),(∃v w' g',(execOp a.eval oper).run P w= .ok (.value v) w'∧G g w g' w'∧SR N T g' w' (zx st (sem tb (.copy es s' x') st).wr) a∧RS g' w' st.live v (sem tb (.copy es s' x') st).v) ->
      Does P N T tb g w st a oper (sem tb (.copy es s' x') st):=by
     intro es s' x' h;refine qe0 h ?_ ?_ ?_<;>simp only[sem,w8]<;>split<;>first|rfl|simp[Out.bad,ASlot.toks]
    split at hc
    ·rename_i e f a' b' F E I J;simp only[Option.map_eq_some_iff]at hc;obtain⟨i,U,rfl⟩:=hc;grind[qy3]
    all_goals grind[qy3]
   grind
  by_cases hdel:b= .delete
  ·subst hdel;simp only[xd]at hc;split at hc
   ·rename_i x k t ts ha hty;have Z:args= #[x,k]:=by grind
    subst Z;have ht0:argTypes[0]? =some t:=by rw[<- Array.getElem?_toList,hty];rfl
    split at hc
    ·rename_i kt Y a' b' F E I;simp only[Option.map_eq_some_iff]at hc;obtain⟨kd,hkd,rfl⟩:=hc;refine qe0 (q3c C ht0 F E I hkd hs q) ?_ ?_ ?_<;>simp only[sem,vd]<;>split<;>first|rfl|simp[Out.bad,ASlot.toks]
    grind
   grind
  by_cases hmin:b= .min
  ·subst hmin;simp only[xd]at hc;split at hc
   ·rename_i x y ha;have Z:args= #[x,y]:=by grind
    subst Z;split at hc
    ·rename_i x' y' F E;cases hc;refine xc hs (qng (mx:=false) (.inl ⟨C,rfl⟩) F E hs q) ?_ ?_ ?_ ?_<;>simp only[sem]<;>split<;>first|rfl|simp[Out.bad,ASlot.toks]
    grind
   grind
  by_cases hmax:b= .max
  ·subst hmax;simp only[xd]at hc;split at hc
   ·rename_i x y ha;have Z:args= #[x,y]:=by grind
    subst Z;split at hc
    ·rename_i x' y' F E;cases hc;refine xc hs (qng (mx:=true) (.inr ⟨C,rfl⟩) F E hs q) ?_ ?_ ?_ ?_<;>simp only[sem]<;>split<;>first|rfl|simp[Out.bad,ASlot.toks]
    grind
   grind
  ·cases b<;>first|(exact(X rfl).elim)|grind|(exact(hcpy rfl).elim)|(exact(hdel rfl).elim)|(exact(hmin rfl).elim)|(exact(hmax rfl).elim)|(simp[xd]at hc)
 |makeMap t r=>
  cases r with
  |none=>
   simp only[xd,Option.some.injEq]at hc;subst hc;exact qe0 (qy5 C hs q) rfl rfl (by simp[sem,ASlot.toks])
  |some y=>simp[xd]at hc
 |lookup t x k c=>
  simp only[xd]at hc;split at hc
  ·rename_i kt Y a' b' F E I;split at hc
   ·rename_i kd z J U;cases hc;obtain⟨zv,_,hzc⟩:=qtd U;refine xc hs (qy4 C F E I J U hs q) ?_ ?_ ?_ ?_<;>simp only[sem,km]<;>split<;>first|rfl|grind[q8u,qo8,qvn]|simp[Out.bad,ASlot.toks]
   grind
  grind
 |mapUpdate t x k v=>
  simp only[xd]at hc;split at hc
  ·rename_i kt Y a' b' c' F E I J;simp only[Option.map_eq_some_iff]at hc;obtain⟨kd,hkd,rfl⟩:=hc;grind[qi3]
  grind
 |insert t x k v=>
  simp only[xd]at hc;split at hc
  ·rename_i kt Y a' b' c' F E I J;simp only[Option.map_eq_some_iff]at hc;obtain⟨kd,hkd,rfl⟩:=hc;exact qi3 (.inr C) F E I J hkd hs q
  grind
 |range t x=>
  simp only[xd]at hc;split at hc
  ·rename_i kt Y a' F E;cases hc;refine qe0 (q3d C F E hs q) ?_ ?_ ?_<;>simp only[sem,jy]<;>split<;>first|rfl|simp[Out.bad,ASlot.toks]
  grind
 |next x s=>
  cases s with
  |false=>
   simp only[xd,Option.map_eq_some_iff]at hc;obtain⟨y,_,rfl⟩:=hc;grind[sem,Out.bad]
  |true=>simp[xd]at hc
 |entry x=>
  simp only[xd,Option.map_eq_some_iff]at hc;obtain⟨y,_,rfl⟩:=hc;grind[sem,Out.bad]
 |sliceToArrayPointer t x=>
  simp only[xd]at hc;grind[xc,q8q,sem,Out.bad,ASlot.toks]
 |makeInterface t x=>
  simp only[xd]at hc;grind[xc,qvu,sem,Out.bad,ASlot.toks]
 |typeAssert x u t c=>
  simp only[xd]at hc;split at hc
  ·cases hc
  ·rename_i d a' hni F E;cases hc;refine xc hs (qvv C F (λms h=>hni ms h) E hs q) ?_ ?_ ?_ ?_<;>simp only[sem,qaj]<;>split<;>first|rfl|grind[ASlot.toks,qbt]|simp[Out.bad,ASlot.toks]
  grind
 | _=>simp[xd]at hc
end
end Go.Abs
