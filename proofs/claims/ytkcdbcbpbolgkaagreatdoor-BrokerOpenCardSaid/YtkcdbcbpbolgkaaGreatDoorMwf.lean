/- Texts Anb, Ao, Ap. -/
import Derived.Test.YtkcdbcbpbolgkaaGreatDoorMwe
import Derived.MapKept
import Derived.Maps.RangeRun
set_option linter.unusedSimpArgs false
set_option linter.unusedVariables false
set_option linter.defProp false
set_option maxRecDepth 100000
noncomputable section
namespace Go.Abs
open Go.MapKept
section
variable {P:Program} {N tb:Nat} {T:Nat→Prop} {g:Ghost} {w:World} {st:St} {a:Act} {oper:Oper} {live live':List Nat}
def KD.desc:KD->TypeDesc
 | .int k=> .int k
 | .bool=> .bool
 | _=> .string
theorem qq0 {t:TypeId} {kd:KD} (h:kdOf P t=some kd):(P.underlying t=some kd.desc∧ ∀ks,kd≠ .agg ks)∨ ∃d ks,kd= .agg ks∧P.underlying t=some (.struct d)∧P.stoodInHeld t=false∧qji P d.toList=some ks:=by
 unfold kdOf at h;split at h
 ·cases h;exact .inl ⟨by assumption,by simp⟩
 ·cases h;exact .inl ⟨by assumption,by simp⟩
 ·cases h;exact .inl ⟨by assumption,by simp⟩
 ·split at h
  ·obtain⟨ks,hk,rfl⟩:=jAb.1 h;exact .inr ⟨_,_,rfl,by assumption,by assumption,hk⟩
  ·cases h
 ·cases h
theorem qls {kd:KD} {v:Value} {k e:D} (h:RV g w v k) (d:kd.fit e k=true∨kd.fit k e=true) (hn: ∀ks,kd≠ .agg ks):IsKey kd.desc v:=by
 cases kd with
 |agg ks=>exact(hn _ rfl).elim
 |int q=>
  cases k<;>cases e<;>simp[KD.fit]at d
  have:=vn h;grind[KD.desc,IsKey]
 |bool=>
  cases k<;>cases e<;>simp[KD.fit]at d
  have:=qas h;subst this;trivial
 |str=>
  cases k<;>cases e<;>simp[KD.fit]at d
  have:=qc5 h;subst this;trivial
theorem qet: ∀{ks:List CK} {as bs:List D},eqOk ks as bs=true->as.length=bs.length∧(zq as bs=true↔as=bs)∧ ∀d∈as,d.noPtr=true
 | [],[],[],_=>by simp[zq]
 |k::ks,as,bs,h=>by
  cases k<;>cases as<;>cases bs<;>try(simp[eqOk]at h;done)
  all_goals
   rename_i x l y r;cases x<;>cases y<;>first|(simp[eqOk]at h;done)|skip
  ·simp only[eqOk,jAf,beq_iff_eq]at h;obtain⟨rfl,h⟩:=h;obtain⟨o,m,i⟩:=qet h;refine⟨by simp[o],by simp[zq,qh3,m],λd e=> ?_⟩;rcases jAv.1 e with rfl|e
   ·rfl
   ·exact i d e
  ·obtain⟨o,m,i⟩:=qet (show eqOk ks l r=true from h);refine⟨by simp[o],by simp[zq,qh3,m],λd e=> ?_⟩;rcases jAv.1 e with rfl|e
   ·rfl
   ·exact i d e
  ·obtain⟨o,m,i⟩:=qet (show eqOk ks l r=true from h);refine⟨by simp[o],by simp[zq,qh3,m],λd e=> ?_⟩;rcases jAv.1 e with rfl|e
   ·rfl
   ·exact i d e
theorem q5u: ∀{ks:List CK} {as bs:List D},eqOk ks as bs=true-> ∀{j:Nat} {a b:D},as[j]? =some a->bs[j]? =some b->
  (∃k x y,a= .int k x∧b= .int k y)∨(∃x y,a= .bool x∧b= .bool y)∨ ∃x y,a= .str x∧b= .str y
 | [],as,bs,h,j,a,b,ha,hb=>by cases as<;>cases bs<;>simp[eqOk]at h;simp at ha
 |k::ks,as,bs,h,j,a,b,ha,hb=>by
  cases k<;>cases as<;>cases bs<;>try(simp[eqOk]at h;done)
  all_goals
   rename_i x l y r;cases x<;>cases y<;>first|(simp[eqOk]at h;done)|skip
  all_goals
   cases j with
   |zero=>simp at ha hb;subst ha;subst hb;simp[eqOk]at h;simp_all
   |succ j=>exact q5u (ks:=ks) (as:=l) (bs:=r) (by simp[eqOk]at h;simp_all) (j:=j) (by simpa using ha) (by simpa using hb)
theorem q86 {kd:KD} {v v':Value} {k:D} {e:Nat×D×D} (h:RV g w v k) (h':RV g w v' e.2.1) (d:kd.fit k e.2.1=true):qbx k e=true↔v=v':=by
 obtain⟨n,k',x⟩:=e;simp only at h' d⊢;cases kd with
 |agg ks=>
  cases k<;>cases k'<;>simp only[KD.fit,jAw]at d
  rename_i as bs;obtain⟨i1,i2,_⟩:=qet d;obtain⟨us,rfl,l1,_,c1⟩:=qee h;obtain⟨vs,rfl,l2,_,c2⟩:=qee h';simp only[qbx];rw[i2];have at_: ∀(j:Nat) (l:j<us.length) (i:j<vs.length) (A:j<as.length) (z:j<bs.length),us[j]=vs[j]↔as[j]=bs[j]:=by
   intro j l i A z;have u:=c1 j _ _ (jAa l) (jAa A);have t:=c2 j _ _ (jAa i) (jAa z);rcases q5u d (jAa A) (jAa z)with⟨k,x,y,o,m⟩|⟨x,y,o,m⟩|⟨x,y,o,m⟩<;>rw[o]at u⊢ <;>rw[m]at t⊢
   ·rw[vn u,vn t];simp
   ·rw[qas u,qas t];simp
   ·rw[qc5 u,qc5 t];simp
  constructor
  ·intro p;have:us=vs:=List.ext_getElem (by omega) λj l i=>(at_ j l i (by omega) (by omega)).2 (by subst p;rfl);rw[this]
  ·intro p;have p:us=vs:=by simpa using p
   exact List.ext_getElem (by omega) λj l i=>(at_ j (by omega) (by omega) l i).1 (by subst p;rfl)
 |int q=>
  cases k<;>cases k'<;>simp[KD.fit]at d
  have o:=vn h;have m:=vn h';simp_all[qbx]
 |bool=>
  cases k<;>cases k'<;>simp[KD.fit]at d
  have o:=qas h;have m:=qas h';simp_all[qbx]
 |str=>
  cases k<;>cases k'<;>simp[KD.fit]at d
  have o:=qc5 h;have m:=qc5 h';simp_all[qbx]
theorem qjk {sub:List Field->Option (List CK)} (R:Bool) (n:Nat) (A: ∀(t:TypeId) (U:Array Field) (ks:List CK) (us:Array Value) (as:List D),P.underlying t=some (.struct U) ->sub U.toList=some ks->eqOk ks as as=true->
  (∀(j:Nat) (d:D),as[j]? =some d-> ∃v,us[j]? =some v∧RV g w v d) ->(Instr.checkKey R (n+1) t (.agg us)).run P w= .ok () w) (xs:Array Value):
  ∀(E:List Field) (i:Nat) (ks:List CK) (as:List D),j0 P sub i E=some ks->eqOk ks as as=true->(∀(j:Nat) (d:D),as[j]? =some d-> ∃v,xs[i+j]? =some v∧RV g w v d) ->
  ∀f∈E,f.name≠ "_" ∧ ∃v,(part f.type xs f.offset).run P w= .ok v w∧(Instr.checkKey R (n+1) f.type v).run P w= .ok () w
 | [],i,ks,as,hk,he,hx=>λf hf=>by cases hf
 |f::E,i,ks,as,hk,he,hx=>by
  simp only[j0]at hk;split at hk
  ·rename_i J;obtain⟨F,B⟩:=J;have agg: ∀d,P.underlying f.type=some d->(P.info? f.type).map (·.size)=some 1->(∀E,d≠ .struct E) ->(∀k e,d≠ .array k e) ->aggN P f.type=some none:=by
    intro d h1 h2;obtain⟨ti,Y,Z⟩:=Option.map_eq_some_iff.1 h2;grind[aggN]
   have step: ∀{u:Value} {d:D} {h:List D} {C:List CK},aggN P f.type=some none->xs[i]? =some u->(Instr.checkKey R (n+1) f.type u).run P w= .ok () w->j0 P sub (i+1) E=some C->eqOk C h h=true->
     (∀(j:Nat) (e:D),(d::h)[j]? =some e-> ∃v,xs[i+j]? =some v∧RV g w v e) ->
     ∀f'∈f::E,f'.name≠ "_" ∧ ∃v,(part f'.type xs f'.offset).run P w= .ok v w∧(Instr.checkKey R (n+1) f'.type v).run P w= .ok () w:=by
    intro u d h C M p ad ab ac X f' o;rcases List.mem_cons.1 o with rfl|o
    ·exact⟨B,u,qad M xs _ u (by rw[F];exact p) w,ad⟩
    ·exact qjk R n A xs E (i+1) C h ab ac (λj e O=>by
      have:=X (j+1) e (by simpa using O);rwa [show i+(j+1)=i+1+j by omega]at this) f' o
   split at hk
   ·rename_i k p l;obtain⟨r,I,rfl⟩:=Option.map_eq_some_iff.1 hk;match as,he with
    | .int k1 m1::h,he=>
     simp only[eqOk,Bool.and_eq_true,beq_iff_eq]at he;obtain⟨u,z,q⟩:=hx 0 _ rfl;have G:=vn q;subst G;exact step (agg _ p l (by simp) (by simp)) z (by simp[Instr.checkKey,run_underlying p]) I he.2 hx
   ·rename_i p l;obtain⟨r,I,rfl⟩:=Option.map_eq_some_iff.1 hk;match as,he with
    | .bool m1::h,he=>
     obtain⟨u,z,q⟩:=hx 0 _ rfl;have G:=qas q;subst G;exact step (agg _ p l (by simp) (by simp)) z (by simp[Instr.checkKey,run_underlying p]) I he hx
   ·rename_i p l;obtain⟨r,I,rfl⟩:=Option.map_eq_some_iff.1 hk;match as,he with
    | .str m1::h,he=>
     obtain⟨u,z,q⟩:=hx 0 _ rfl;have G:=qc5 q;subst G;exact step (agg _ p l (by simp) (by simp)) z (by simp[Instr.checkKey,run_underlying p]) I he hx
   ·rename_i U m p l;split at hk
    ·split at hk
     ·rename_i ka kb h1 h2;split at hk
      ·rename_i hlen;cases hk;obtain⟨a1,a2,b1,b2,G,e2,l1,l2,o1,o2⟩:=qw4 he;obtain⟨rfl,rfl⟩:b1=a1∧b2=a2:=by
        rw[G]at e2;have:=List.append_inj e2 (by omega);exact⟨this.1.symm,this.2.symm⟩
       subst G;obtain⟨ti,Y,Z⟩:=Option.map_eq_some_iff.1 l;have M:aggN P f.type=some (some m):=by grind[aggN]
       intro f' o;rcases List.mem_cons.1 o with rfl|o
       ·refine⟨B,_,qcn M xs _ w,?_⟩;rw[F];refine A _ U ka (xs.extract i (i+m)) b1 p h1 o1 (λj e O=> ?_);have aa:=(List.getElem?_eq_some_iff.1 O).1;obtain⟨v,hv,I⟩:=hx j e (by rw[List.getElem?_append_left aa];exact O);refine⟨v,?_,I⟩;rw[Array.getElem?_extract];have:=(Array.getElem?_eq_some_iff.1 hv).1;rw[if_pos (by omega)];exact hv
       ·exact qjk R n A xs E (i+m) kb b2 h2 o2 (λj e O=>by
         have:=hx (m+j) e (by rw[List.getElem?_append_right (by omega),show m+j-b1.length=j by omega];exact O);rwa [<- Nat.add_assoc]at this) f' o
      ·cases hk
     ·cases hk
    ·cases hk
   ·cases hk
  ·cases hk
theorem qok {h:Bool} {n:Nat} {t:TypeId} {e:Array Field} {us:Array Value} (hu:P.underlying t=some (.struct e))
  (d: ∀f∈e.toList,f.name≠ "_" ∧ ∃v,(part f.type us f.offset).run P w= .ok v w∧(Instr.checkKey h n f.type v).run P w= .ok () w):(Instr.checkKey h (n+1) t (.agg us)).run P w= .ok () w:=by
 rw[Instr.checkKey];simp only[Sem.run_bind,run_underlying hu,Result.andThen_ok];rw[<- Array.forIn_toList];generalize e.toList=L at d;induction L with
 |nil=>simp
 |cons f L ih=>
  obtain⟨hn,v,p1,p2⟩:=d f (by simp);simp only[List.forIn_cons,Sem.run_bind,hn,ne_eq,not_false_eq_true,if_true,Result.andThen_ok,p1,p2,Sem.run_pure];exact ih (λy hy=>d y (by simp[hy]))
theorem qlt {t:TypeId} {kd:KD} {v:Value} {k:D} (h:kdOf P t=some kd) (p:RV g w v k) (o:kd.fit k k=true) (l:Bool):(Instr.checkKey l 10000 t v).run P w= .ok () w:=by
 rcases qq0 h with⟨i,hn⟩|⟨fs,ks,rfl,m,hh,hp⟩
 ·exact run_checkKey i (qls p (.inl o) hn) l 9999
 ·cases k<;>simp only[KD.fit,jAw]at o
  rename_i as;obtain⟨us,rfl,l1,_,c1⟩:=qee p;have hc: ∀(j:Nat) (d:D),as[j]? =some d-> ∃v,us.toArray[j]? =some v∧RV g w v d:=λj d i=>by
   have e:j<us.length:=by have:=(jAd.1 i).1;omega
   exact⟨us[j],by simp[e],c1 j _ d (jAa e) i⟩
  refine qok m (qjk l 9998 (λt gs ks us as m hs he hx=> ?_) us.toArray fs.toList 0 ks as hp o (by simpa using hc));exact qok m (qjk l 9997 (λ_ _ _ _ _ _ h=>by cases h) us gs.toList 0 ks as hs he (by simpa using hx))
theorem qt0: ∀{ks:List CK} {as bs:List D},eqOk ks as bs=true-> ∀(us:List Value),us.length=as.length->(∀(j:Nat) (v:Value) (d:D),us[j]? =some v->as[j]? =some d->RV g w v d) ->((us.zip us).all λ(x,y)=>Instr.sameBits 9999 x y)=true:=by
 intro ks as bs h us hl hc;rw[jAx];intro p hp;obtain⟨j,m,rfl⟩:=jCc hp;simp only[List.length_zip,Nat.min_self]at m;have hb:j<bs.length:=by have:=(qet h).1;omega
 simp only[List.getElem_zip];have e:=hc j _ _ (jAa m) (jAa (by omega));rcases q5u h (jAa (i:=j) (by omega)) (jAa hb)with⟨k,x,y,l,_⟩|⟨x,y,l,_⟩|⟨x,y,l,_⟩<;>rw[l]at e
 ·rw[vn e];simp[Instr.sameBits]
 ·rw[qas e];simp[Instr.sameBits]
 ·rw[qc5 e];simp[Instr.sameBits,bytes_beq]
theorem xfc {t:TypeId} {kd:KD} {v:Value} {k:D} (h:kdOf P t=some kd) (e:RV g w v k) (d:kd.fit k k=true):(Instr.keyThatStays v v).run P w= .ok v w:=by
 rcases qq0 h with⟨hd,hn⟩|⟨fs,ks,rfl,hu,hh,hp⟩
 ·exact run_keyThatStays (qls e (.inl d) hn)
 ·cases k<;>simp only[KD.fit,jAw]at d
  obtain⟨us,rfl,l1,_,c1⟩:=qee e;have:=qt0 d us l1 c1;simp[Instr.keyThatStays,Instr.sameBits,this]
theorem qlu {t:TypeId} {kd:KD} {v:Value} {k:D} (ad:kdOf P t=some kd) (hv:RV g w v k) (l:List MapEntry) (es:Ents) (p:l.length=es.length)
  (E: ∀(j:Nat) (e:MapEntry) (x:Nat×D×D),l[j]? =some e->es[j]? =some x->EntIs g w e x) (B:(es.all λe=>kd.fit k e.2.1)=true) (U:kd.fit k k=true):
  ((Instr.findKey t v l).run P w= .ok none w∧es.find? (qbx k)=none∧es.findIdx? (qbx k)=none)∨
  ∃(j:Nat) (e:MapEntry) (x:Nat×D×D),(Instr.findKey t v l).run P w= .ok (some (j,e.val)) w∧l[j]? =some e∧es[j]? =some x∧e.key=v∧es.find? (qbx k)=some x∧es.findIdx? (qbx k)=some j:=by
 rcases qq0 ad with⟨hd,hn⟩|⟨fs,ks,rfl,hu,hh,hp⟩
 ·have J: ∀(l:List MapEntry) (es:Ents) (i:Nat),l.length=es.length->(∀(j:Nat) (e:MapEntry) (x:Nat×D×D),l[j]? =some e->es[j]? =some x->EntIs g w e x) ->(es.all λe=>kd.fit k e.2.1)=true->
    (Instr.findNow kd.desc v l i=some none∧es.find? (qbx k)=none∧es.findIdx? (qbx k)=none)∨
    ∃(j:Nat) (e:MapEntry) (x:Nat×D×D),Instr.findNow kd.desc v l i=some (some (i+j,e.val))∧l[j]? =some e∧es[j]? =some x∧e.key=v∧es.find? (qbx k)=some x∧es.findIdx? (qbx k)=some j:=by
   intro l;induction l with
   |nil=>intro es i p _ _;cases es with
    |nil=>exact .inl ⟨rfl,rfl,rfl⟩
    |cons=>simp at p
   |cons e l ih=>
    intro es i p E B;cases es with
    |nil=>simp at p
    |cons x es=>
     simp only[jCx,jAf]at B;have Z:=E 0 e x rfl rfl;have o:=q86 hv Z.key B.1;obtain⟨r,O,X⟩:=sameNow_of_keys (qls hv (.inl U) hn) (qls Z.key (.inl B.1) hn);cases r with
     |true=>
      have R:=X.1 rfl;have m:=o.2 R;exact .inr ⟨0,e,x,by simp[Instr.findNow,O],rfl,rfl,R.symm,by grind,by grind⟩
     |false=>
      have A:qbx k x=false:=by grind
      rcases ih es (i+1) (by simpa using p) (λj e' x' h1 h2=>E (j+1) e' x' (by simpa using h1) (by simpa using h2)) B.2 with⟨z,q,F⟩|⟨j,e',x',z,q,F,q4,q5,q6⟩
      ·exact .inl ⟨by simp[Instr.findNow,O,z],by simp[List.find?,A,q],by simp[jDf,A,F]⟩
      ·exact .inr ⟨j+1,e',x',by simp[Instr.findNow,O,z];omega,by simpa using q,by simpa using F,q4,by simp[List.find?,A,q5],by simp[jDf,A,q6]⟩
  rcases J l es 0 p E B with⟨z,q⟩|⟨j,e,x,z,q⟩
  ·exact .inl ⟨run_findKey hd z,q⟩
  ·exact .inr ⟨j,e,x,by simpa using run_findKey hd z,q⟩
 ·cases k<;>simp only[KD.fit,jAw]at U
  rename_i as;have J: ∀(l:List MapEntry) (es:Ents) (i:Nat),l.length=es.length->(∀(j:Nat) (e:MapEntry) (x:Nat×D×D),l[j]? =some e->es[j]? =some x->EntIs g w e x) ->(es.all λe=>(KD.agg ks).fit (.agg as) e.2.1)=true->
    ((Instr.findAsking t v l i).run P w= .ok none w∧es.find? (qbx (.agg as))=none∧es.findIdx? (qbx (.agg as))=none)∨
    ∃(j:Nat) (e:MapEntry) (x:Nat×D×D),(Instr.findAsking t v l i).run P w= .ok (some (i+j,e.val)) w∧l[j]? =some e∧es[j]? =some x∧e.key=v∧es.find? (qbx (.agg as))=some x∧es.findIdx? (qbx (.agg as))=some j:=by
   intro l;induction l with
   |nil=>intro es i p _ _;cases es with
    |nil=>exact .inl ⟨rfl,rfl,rfl⟩
    |cons=>simp at p
   |cons e l ih=>
    intro es i p E B;cases es with
    |nil=>simp at p
    |cons x es=>
     simp only[jCx,jAf]at B;have Z:=E 0 e x rfl rfl;have o:=q86 hv Z.key B.1;have I:(Op.equal t v e.key).run P w= .ok (qbx (.agg as) x) w:=by
      obtain⟨bn,bk,bv⟩:=x;have hx:=Z.key;have G:=B.1;simp only at hx G;cases bk<;>simp only[KD.fit,jAw]at G
      rename_i bs;obtain⟨us,ab,l1,_,c1⟩:=qee hv;obtain⟨vs,aa,l2,_,c2⟩:=qee hx;have C: ∀{ds:List D} {M:List Value},M.length=ds.length->(∀(j:Nat) (u:Value) (d:D),M[j]? =some u->ds[j]? =some d->RV g w u d) ->
        ∀(j:Nat) (d:D),ds[j]? =some d-> ∃v,M.toArray[0+j]? =some v∧RV g w v d:=by
       intro ds M p O j d hd;have ac:j<M.length:=by grind
       exact⟨M[j],by simp,O j _ d (jAa ac) hd⟩
      have Y:P.fieldsOf t=fs:=by simp[Program.fieldsOf,hu]
      rw[ab,aa];show(Op.equalIn 10000 t (.agg us.toArray) (.agg vs.toArray)).run P w= .ok (zq as bs) w;rw[show(10000:Nat)=9997+1+1+1 from rfl,run_equalIn_agg w (9997+1+1) t _ _ (by rw[Y];exact hu) hh,Y];exact qog us.toArray vs.toArray 9997 fs.toList ks as bs hp G (C l1 c1) (C l2 c2)
     cases m:qbx (.agg as) x with
     |true=>
      exact .inr ⟨0,e,x,by simp[Instr.findAsking,I,m],rfl,rfl,(o.1 m).symm,by grind,by grind⟩
     |false=>
      rcases ih es (i+1) (by simpa using p) (λj e' x' h1 h2=>E (j+1) e' x' (by simpa using h1) (by simpa using h2)) B.2 with⟨z,q,F⟩|⟨j,e',x',z,q,F,q4,q5,q6⟩
      ·exact .inl ⟨by simp[Instr.findAsking,I,m,z],by simp[List.find?,m,q],by simp[jDf,m,F]⟩
      ·exact .inr ⟨j+1,e',x',by simp[Instr.findAsking,I,m,z];omega,by simpa using q,by simpa using F,q4,by simp[List.find?,m,q5],by simp[jDf,m,q6]⟩
  have ae:l≠ [] ->(Instr.findKey t v l).run P w=(Instr.findAsking t v l).run P w:=by
   intro A;obtain⟨e,l',rfl⟩:=List.exists_cons_of_ne_nil A;have:Instr.findNow (.struct fs) v (e::l') 0=none:=by simp[Instr.findNow,Instr.sameNow]
   simp[Instr.findKey,run_underlying hu,this]
  cases l with
  |nil=>
   cases es with
   |nil=>exact .inl ⟨by simp[Instr.findKey,run_underlying hu,Instr.findNow],rfl,rfl⟩
   |cons=>simp at p
  |cons e l=>
   rw[ae (by simp)];rcases J (e::l) es 0 p E B with h|⟨j,e',x,z,q⟩
   ·exact .inl h
   ·exact .inr ⟨j,e',x,by simpa using z,q⟩
theorem qe2 (hs:SR N T g w st a) {b id:Nat} (i:g b= .obj id) (hm:qqh st.os id=true):st.os[id]? =some (.map (qab st.os id) (ki st.os id))∧MapIs g w b (qab st.os id) (ki st.os id):=by
 obtain⟨o,d,hn⟩:=hs.ids b id i;obtain⟨b',e,hr⟩:=(hs.objs id o d hn).resolve_right (λh=>h.2 b i);have:b'=b:=hs.inj b' b id e i;subst this;cases o with
 |map es c=>
  have e1:qab st.os id=es:=by simp[qab,d]
  have e2:ki st.os id=c:=by simp[ki,d]
  rw[e1,e2];exact⟨d,hr⟩
 | _=>simp[qqh,d]at hm
theorem qol {v:Value} {id:Nat} (h:RV g w v (.map id)): ∃b,v= .map (some b)∧g b= .obj id:=by
 cases h with
 |map b _ hg=>grind
theorem qq1 {v:Value} (h:RV g w v .nilmap):v= .map none:=by cases h;rfl
theorem qw8 {c:Bool} {z:ASlot} {o:Option D} {zv u:Value} (l:RC g w live zv z) (q: ∀d,o=some d->RV g w u d) (hn:o=none->u=zv):
  RS g w live (if c then .tuple #[u,.bool o.isSome]else u) (qfp c z o):=by
 have e: ∀{s:ASlot} {b:Bool},RC g w live u s->RS g w live (.tuple #[u,.bool b]) (.tup [s,.d (.bool b)]):=by
  intro s b h;refine⟨[u,.bool b],rfl,rfl,λi x y p m=> ?_⟩;match i with
  |0=>grind
  |1=>simp at p m;subst p;subst m;exact .bool b
  |i+2=>grind
 cases o with
 |some d=>
  cases c with
  |true=>exact e (q d rfl)
  |false=>exact q d rfl
 |none=>
  have:=hn rfl;subst this;cases c with
  |true=>exact e l
  |false=>exact jq l
theorem quq {t:TypeId} {z:ASlot} (h:xlo P t=some z): ∃zv,(∀w:World,(zeroValue t).run P w= .ok zv w)∧qlh zv=some z:=by
 unfold xlo at h;split at h
 ·rename_i i hi;rw[jEb]at h;obtain⟨zv,h1,h2⟩:=h;simp_all[zeroValue,typeInfo]
 grind
theorem q04 {t R et:TypeId} {x k:Operand} {x' k':Opd} {c:Bool} {kd:KD} {z:ASlot} (X:oper.op= .lookup t x k c) (U:P.underlying t=some (.map R et)) (hx:qr x=some x') (hk:qr k=some k')
  (i:kdOf P R=some kd) (hz:xlo P et=some z) (hs:SR N T g w st a) (h:(sem tb (.lookup kd z c x' k') st).ob):y9 P g w st a oper (sem tb (.lookup kd z c x' k') st).v:=by
 simp only[sem]at h⊢;obtain⟨o1,o2,h⟩:=h;have I:=xh hs hx o1;have B:=xh hs hk o2;obtain⟨zv,J,m⟩:=quq hz;cases h1:x'.get st.fr with
 |d p=>
  cases h2:k'.get st.fr with
  |d q=>
   rw[h1]at I;rw[h2]at B;cases p with
   |map id=>
    simp only[h1,h2,vh]at h⊢;obtain⟨hm,G⟩:=h;simp only[keyFit,Bool.and_eq_true]at G;obtain⟨b,M,hb⟩:=qol (ws I);obtain⟨_,l,Y,hl,Z⟩:=qe2 hs hb hm;have A:=λem=>qlt i (ws B) G.1 em;rcases qlu i (ws B) l _ hl Z G.2 G.1 with⟨F,C,_⟩|⟨j,e,y,F,C,q3,_,O,_⟩
    ·refine⟨_,?_,qw8 (u:=zv) (zv:=zv) (o:=qbs q (qab st.os id)) (qlk m) (λd E=>by grind[qbs]) (λ_=>rfl)⟩;have:(qbs q (qab st.os id)).isSome=false:=by simp[qbs,C]
     rw[this];cases c<;>simp[execOp,X,M,Instr.lookup,run_underlying U,MapKept.run_getObj_map Y,A,F,J]
    ·have hy:=Z j e y C q3;refine⟨_,?_,qw8 (u:=e.val) (zv:=zv) (o:=qbs q (qab st.os id)) (qlk m) (λd E=>by simp[qbs,O]at E;subst E;exact hy.val) (λhn=>by grind[qbs])⟩;have:(qbs q (qab st.os id)).isSome=true:=by simp[qbs,O]
     rw[this];cases c<;>simp[execOp,X,M,Instr.lookup,run_underlying U,MapKept.run_getObj_map Y,A,F]
   |nilmap=>
    simp only[h1,h2,vh]at h⊢;have M:=qq1 (ws I);have A:=qlt i (ws B) h true;refine⟨_,?_,qw8 (u:=zv) (zv:=zv) (o:=none) (qlk m) (λd E=>by cases E) (λ_=>rfl)⟩;rcases qlu i (ws B) [] [] rfl (by simp) rfl h with⟨F,_⟩|⟨j,e,y,_,C,_⟩
    ·simp_all[execOp,Instr.lookup,run_underlying]
    ·simp at C
   | _=>grind[vh,Out.bad]
  | _=>grind[vh,Out.bad]
 | _=>grind[vh,Out.bad]
theorem xbn {c:Bool} {z:ASlot} {o:Option D} (hz:z.toks= []) (d: ∀l,z≠ .tup l):(qfp c z o).toks= []:=by
 cases c<;>cases o<;>simp only[qfp,ASlot.toks,List.flatMap_cons,List.flatMap_nil,qch,List.append_nil]
 ·exact hz
 ·cases z<;>first|rfl|grind[ASlot.toks]|exact(d _ rfl).elim
theorem xbo {t kt et:TypeId} {x:Operand} {x':Opd} (o:oper.op= .call {callee:= .builtin .len,args:= #[x],argTypes:= #[t]}) (m:P.underlying t=some (.map kt et)) (hx:qr x=some x')
  (hs:SR N T g w st a) (e:(sem tb (.lenM x') st).ob):y9 P g w st a oper (sem tb (.lenM x') st).v:=by
 simp only[sem]at e⊢;obtain⟨o1,e⟩:=e;have h:=xh hs hx o1;cases h1:x'.get st.fr with
 |d p=>
  rw[h1]at h;cases p with
  |map id=>
   simp only[h1,qbu]at e⊢;obtain⟨b,i,hb⟩:=qol (ws h);obtain⟨_,l,hh,hl,he⟩:=qe2 hs hb e;exact⟨_,by simp[execOp,o,resolve,invoke,builtin,i,Builtin.len_,run_underlying m,MapKept.run_getObj_map hh,hl,goInt],.int _ _⟩
  |nilmap=>
   simp only[h1,qbu]at e⊢;have i:=qq1 (ws h);exact⟨_,by simp[execOp,o,resolve,invoke,builtin,i,Builtin.len_,run_underlying m,goInt],.int _ _⟩
  | _=>grind[qbu,Out.bad]
 | _=>grind[qbu,Out.bad]
theorem qw9 {t:TypeId} {x:Operand} {x':Opd} {d:TypeDesc} (ho:oper.op= .makeInterface t x) (ht:P.underlying t=some d) (hni: ∀ms,d≠ .interface ms) (hx:qr x=some x')
  (hs:SR N T g w st a) (e:(sem tb (.mkIface t x') st).ob):y9 P g w st a oper (sem tb (.mkIface t x') st).v:=by
 simp only[sem]at e⊢;cases h1:x'.get st.fr with
 |d p=>
  simp only[h1]at e⊢;have h:=xh hs hx e;rw[h1]at h;refine⟨_,?_,.iface t _ _ (ws h)⟩;simp_all[execOp,Instr.makeInterface,Sem.run_bind,run_underlying,Result.andThen_ok]
 | _=>grind[Out.bad]
theorem qxa {t u:TypeId} {x:Operand} {x':Opd} {c:Bool} {d:TypeDesc} (ho:oper.op= .typeAssert x u t c) (ht:P.underlying t=some d) (hni: ∀ms,d≠ .interface ms) (hx:qr x=some x')
  (hs:SR N T g w st a) (e:(sem tb (.assertT t c x') st).ob):y9 P g w st a oper (sem tb (.assertT t c x') st).v:=by
 simp only[sem]at e⊢;obtain⟨o1,e⟩:=e;have o:=xh hs hx o1;cases h1:x'.get st.fr with
 |d p=>
  rw[h1]at o;cases p with
  |iface t' y=>
   simp only[h1,qa5]at e⊢;subst e;have l:=ws o;generalize hq:a.eval x=v at l;cases l with
   |iface _ v' _ hv=>
   cases c with
   |true=>
    refine⟨.tuple #[v',.bool true],?_,⟨[v',.bool true],rfl,rfl,λi u s m h=> ?_⟩⟩
    ·simp_all[execOp,Instr.typeAssert,Sem.run_bind,run_underlying,Result.andThen_ok]
    ·match i with
     |0=>simp at m h;subst m;subst h;exact hv
     |1=>simp at m h;subst m;subst h;exact .bool true
     |i+2=>grind
   |false=>
    refine⟨v',?_,hv⟩;simp_all[execOp,Instr.typeAssert,Sem.run_bind,run_underlying,Result.andThen_ok]
  | _=>grind[qa5,Out.bad]
 | _=>grind[qa5,Out.bad]
theorem q05 {t:TypeId} {back:Nat} (ho:oper.op= .makeMap t none) (hs:SR N T g w st a) (d:(sem tb (.makeMap back) st).ob):
  ∃v w' g',(execOp a.eval oper).run P w= .ok (.value v) w'∧G g w g' w'∧SR N T g' w' (jf st (sem tb (.makeMap back) st).wr) a∧RS g' w' st.live v (sem tb (.makeMap back) st).v:=by
 simp only[sem]at d⊢;obtain⟨_,_,o5⟩:=d;obtain⟨q1,q2⟩:=hs.newObjA (blk:= .map #[] 0) (o:= .map [] 0) o5 (by simp) (λ_ _ _=>⟨[],heap_alloc_new w _,rfl,λi e x he=>by simp⟩) (by simp[AObj.cells]);exact⟨.map (some w.heap.size),_,_,by simp[execOp,ho,Instr.makeMap,newObj,Sem.run],q1,q2,.map _ _ (Ghost.at_same _ _ _)⟩
theorem SR.setBlk {w1:World} {b id:Nat} {o:AObj} {blk0 blk1:Obj} (hs:SR N T g w st a) (hb:g b= .obj id) (h0:w.heap[b]? =some blk0) (hz: ∀c e z,blk0≠ .cells c e z) (hw1:w1=w∨w1=w.drew)
  (hro:RowsKept g w g {w1 with heap:=w1.heap.setIfInBounds b blk1} ->{w1 with heap:=w1.heap.setIfInBounds b blk1}.heap[b]? =some blk1->(∀{v:Value} {s:ASlot},RC g w st.live v s->RC g {w1 with heap:=w1.heap.setIfInBounds b blk1} st.live v s) ->RO g {w1 with heap:=w1.heap.setIfInBounds b blk1} st.live b o)
  (hnn:o≠ .none) (htok: ∀s∈o.cells,∀t∈s.toks,T t):
  G g w g {w1 with heap:=w1.heap.setIfInBounds b blk1}∧SR N T g {w1 with heap:=w1.heap.setIfInBounds b blk1} {st with os:=st.os.set id o} a:=by
 have hh:w1.heap=w.heap:=by rcases hw1 with rfl|rfl<;>rfl
 have hlt:b<w.heap.size:=(Array.getElem?_eq_some_iff.1 h0).1
 have hnew:{w1 with heap:=w1.heap.setIfInBounds b blk1}.heap[b]? =some blk1:=by grind
 have hoth: ∀k,k≠b->{w1 with heap:=w1.heap.setIfInBounds b blk1}.heap[k]? =w.heap[k]? :=fun k hk=>by grind
 have hsz:{w1 with heap:=w1.heap.setIfInBounds b blk1}.heap.size=w.heap.size:=by simp[hh]
 have hb0:qdm w b=0:=by
  unfold qdm
  grind
 have hbs: ∀k,qdm w k<=qdm {w1 with heap:=w1.heap.setIfInBounds b blk1} k:=fun k=>by
  grind[Nat.le_of_eq,jl]
 have nrow: ∀k n o,g k= .row n o->k≠b:=by grind
 have hG:G g w g {w1 with heap:=w1.heap.setIfInBounds b blk1}:=
  ⟨by rcases hw1 with rfl|rfl<;>rfl,by rcases hw1 with rfl|rfl<;>rfl,by rcases hw1 with rfl|rfl<;>rfl,by omega,fun k hk hgk=>⟨hoth k (by grind),hgk⟩,fun k m hk hgk=>⟨hoth k (nrow k _ _ hgk),hgk⟩,
   fun k m t hk hgk=>⟨m,some t,hgk,Nat.le_refl _,fun i v _ hv=>by grind[kj]⟩,fun k id hk hgk=>⟨hgk,hbs k⟩⟩
 have hidlt:id<st.os.length:=by
  obtain⟨o',ho',_⟩:=hs.ids b id hb
  grind
 refine⟨hG,hs.setObjA hidlt hG (hs.dom.of hG fun k hk=>hs.dom.1 k (by omega)) hb (fun _ _=>rfl) (fun k hk _=>hoth k hk) (.inr hb) (fun k hk=>hs.inj k b id hk hb) ?_ hnn htok⟩
 exact hro (hG.rowsKept hs.dom) hnew (fun h=>RC.keep hG hs.dom (fun k n o hk=>⟨hk,hoth k (nrow k n o hk)⟩) (fun k t hk=>⟨hk,hoth k (by grind)⟩) h)
theorem EntIs.mono {g':Ghost} {w':World} {e:MapEntry} {x:Nat×D×D} (h:EntIs g w e x) (d:RowsKept g w g' w'):EntIs g' w' e x:=
 ⟨h.born,h.key.mono_noPtr d h.kp,h.val.mono_noPtr d h.vp,h.kp,h.vp⟩
theorem xfd {kd:KD} {k:D} (h:kd.fit k k=true):k.noPtr=true:=by
 cases kd with
 |agg ks=>
  cases k<;>simp only[KD.fit,jAw]at h
  exact(D.noPtrL_iff _).2 (qet h).2.2
 | _=>cases k<;>simp[KD.fit]at h<;>rfl
theorem qt1 {t kt et:TypeId} {x k v:Operand} {x' k' v':Opd} {kd:KD} (ho:oper.op= .mapUpdate t x k v∨oper.op= .insert t x k v) (ht:P.underlying t=some (.map kt et)) (hx:qr x=some x') (hk:qr k=some k') (hv:qr v=some v')
  (hkd:kdOf P kt=some kd) (hs:SR N T g w st a) (hob:(sem tb (.mapUpdate kd x' k' v') st).ob):
  ∃w',(execOp a.eval oper).run P w= .ok .skip w'∧G g w g w'∧SR N T g w' (jf st (sem tb (.mapUpdate kd x' k' v') st).wr) a:=by
 simp only[sem]at hob⊢
 obtain⟨o1,o2,o3,hob⟩:=hob
 have r1:=xh hs hx o1
 have r2:=xh hs hk o2
 have r3:=xh hs hv o3
 cases h1:x'.get st.fr with
 |d p=>
  cases h2:k'.get st.fr with
  |d q=>
   cases h3:v'.get st.fr with
   |d u=>
    rw[h1]at r1;rw[h2]at r2;rw[h3]at r3
    cases p with
    |map id=>
     simp only[h1,h2,h3,zn]at hob⊢
     obtain⟨hm,hf,hup⟩:=hob
     simp only[keyFit,Bool.and_eq_true]at hf
     obtain⟨b,hxv,hb⟩:=qol (ws r1)
     obtain⟨_,l,hh,hl,he⟩:=qe2 hs hb hm
     have hck:=fun em=>qlt hkd (ws r2) hf.1 em
     have ent: ∀n,EntIs g w {key:=a.eval k,val:=a.eval v,born:=n} (n,q,u):=fun n=>⟨rfl,ws r2,ws r3,xfd hf.1,hup⟩
     rcases qlu hkd (ws r2) l _ hl he hf.2 hf.1 with⟨q1,_,q3⟩|⟨j,e,y,q1,q2,q3,q4,_,q6⟩
     ·obtain⟨p1,p2⟩:=hs.setBlk (w1:=w) (blk1:= .map (l++ [({key:=a.eval k,val:=a.eval v,born:=ki st.os id}:MapEntry)]).toArray (ki st.os id+1)) (o:= .map (qh9 q u (ki st.os id) (qab st.os id)) (qcm q (ki st.os id) (qab st.os id))) hb hh (by simp) (.inl rfl)
       (fun hr hn _=>by
        simp only[qh9,qcm,q3]
        refine⟨_,hn,by simp[hl],fun i e' y' he' hy'=> ?_⟩
        rcases Nat.lt_or_ge i l.length with hi|hi
        ·rw[List.getElem?_append_left hi]at he'
         rw[List.getElem?_append_left (by omega)]at hy'
         exact(he i e' y' he' hy').mono hr
        ·rw[List.getElem?_append_right hi]at he'
         rw[List.getElem?_append_right (by omega),<- hl]at hy'
         cases hz:i-l.length with
         |zero=>rw[hz]at he' hy';simp at he' hy';subst he';subst hy';exact(ent _).mono hr
         |succ n=>grind) (by simp) (by simp[AObj.cells])
      refine⟨_,?_,p1,p2⟩
      rcases ho with ho|ho<;>simp[execOp,ho,hxv,Instr.mapUpdate,run_underlying ht,MapKept.run_getObj_map hh,hck,q1,run_setObj_map _ hh]
     ·have hjl:j<l.length:=(List.getElem?_eq_some_iff.1 q2).1
      obtain⟨p1,p2⟩:=hs.setBlk (w1:=w) (blk1:= .map (l.toArray.modify j fun e=>{e with key:=a.eval k,val:=a.eval v}) (ki st.os id)) (o:= .map (qh9 q u (ki st.os id) (qab st.os id)) (qcm q (ki st.os id) (qab st.os id))) hb hh (by simp) (.inl rfl)
       (fun hr hn _=>by
        simp only[qh9,qcm,q6]
        refine⟨l.modify j fun e=>{e with key:=a.eval k,val:=a.eval v},by grind,by simp[hl],fun i e' y' he' hy'=> ?_⟩
        rw[List.getElem?_modify]at he' hy'
        by_cases hij:j=i
        ·subst hij
         rw[q2]at he'
         rw[q3]at hy'
         simp at he' hy'
         subst he';subst hy'
         have hb0:=(he j e y q2 q3).born
         exact⟨hb0,(ent 0).key.mono_noPtr hr (ent 0).kp,(ent 0).val.mono_noPtr hr (ent 0).vp,(ent 0).kp,(ent 0).vp⟩
        ·simp[hij]at he' hy'
         exact(he i e' y' he' hy').mono hr) (by simp) (by simp[AObj.cells])
      refine⟨_,?_,p1,p2⟩
      rcases ho with ho|ho<;>simp[execOp,ho,hxv,Instr.mapUpdate,run_underlying ht,MapKept.run_getObj_map hh,hck,q1,q2,q4,xfc hkd (ws r2) hf.1,run_setObj_map _ hh]
    | _=>grind[zn,Out.bad]
   | _=>grind[zn,Out.bad]
  | _=>grind[zn,Out.bad]
 | _=>grind[zn,Out.bad]
theorem q5v {t kt et:TypeId} {x k:Operand} {x' k':Opd} {kd:KD} {ts:Array TypeId} (ho:oper.op= .call {callee:= .builtin .delete,args:= #[x,k],argTypes:=ts}) (E:ts[0]? =some t) (ht:P.underlying t=some (.map kt et)) (hx:qr x=some x') (hk:qr k=some k')
  (F:kdOf P kt=some kd) (hs:SR N T g w st a) (z:(sem tb (.delete kd x' k') st).ob):
  ∃v w' g',(execOp a.eval oper).run P w= .ok (.value v) w'∧G g w g' w'∧SR N T g' w' (jf st (sem tb (.delete kd x' k') st).wr) a∧RS g' w' st.live v (sem tb (.delete kd x' k') st).v:=by
 simp only[sem]at z⊢;obtain⟨o1,o2,z⟩:=z;have r1:=xh hs hx o1;have R:=xh hs hk o2;cases h1:x'.get st.fr with
 |d p=>
  cases h2:k'.get st.fr with
  |d q=>
   rw[h1]at r1;rw[h2]at R;cases p with
   |map id=>
    simp only[h1,h2,vw]at z⊢;obtain⟨hm,M⟩:=z;simp only[keyFit,Bool.and_eq_true]at M;obtain⟨b,C,Z⟩:=qol (ws r1);obtain⟨_,l,B,hl,O⟩:=qe2 hs Z hm;have I:=λem=>qlt F (ws R) M.1 em;have A: ∀{w':World},RS g w' st.live (.tuple #[]) (.tup []):=⟨[],rfl,rfl,λi u s hu=>by simp⟩;rcases qlu F (ws R) l _ hl O M.2 M.1 with⟨U,_,q3⟩|⟨j,e,y,U,q2,q3,q4,_,q6⟩
    ·obtain⟨Y,X⟩:=hs.setBlk (w1:=w) (blk1:= .map l.toArray (ki st.os id)) (o:= .map (qqi q (qab st.os id)) (ki st.os id)) Z B (by simp) (.inl rfl)
      (λJ hn _=>by
       simp only[qqi,q3];exact⟨l,hn,hl,λi e' y' m h=>(O i e' y' m h).mono J⟩) (by simp) (by simp[AObj.cells])
     refine⟨_,_,_,?_,Y,X,A⟩;simp[execOp,ho,resolve,invoke,builtin,C,Builtin.delete_,E,run_underlying ht,MapKept.run_getObj_map B,I,U,run_setObj_map _ B]
    ·obtain⟨Y,X⟩:=hs.setBlk (w1:=w) (blk1:= .map (l.toArray.eraseIdxIfInBounds j) (ki st.os id)) (o:= .map (qqi q (qab st.os id)) (ki st.os id)) Z B (by simp) (.inl rfl)
      (λJ hn _=>by
       simp only[qqi,q6];have hjl:j<l.length:=(List.getElem?_eq_some_iff.1 q2).1;refine⟨l.eraseIdx j,by grind,by grind,λi e' y' m h=> ?_⟩;rw[List.getElem?_eraseIdx]at m h;split at m
       ·rename_i hi;rw[if_pos hi]at h;exact(O i e' y' m h).mono J
       ·rename_i hi;rw[if_neg hi]at h;exact(O (i+1) e' y' m h).mono J) (by simp) (by simp[AObj.cells])
     refine⟨_,_,_,?_,Y,X,A⟩;simp[execOp,ho,resolve,invoke,builtin,C,Builtin.delete_,E,run_underlying ht,MapKept.run_getObj_map B,I,U,run_setObj_map _ B]
   | _=>grind[vw,Out.bad]
  | _=>grind[vw,Out.bad]
 | _=>grind[vw,Out.bad]
theorem q5w {t z A:TypeId} {x:Operand} {x':Opd} {back:Nat} (C:oper.op= .range t x) (B:P.underlying t=some (.map z A)) (hx:qr x=some x') (hs:SR N T g w st a) (e:(sem tb (.rangeM back x') st).ob):
  ∃v w' g',(execOp a.eval oper).run P w= .ok (.value v) w'∧G g w g' w'∧SR N T g' w' (jf st (sem tb (.rangeM back x') st).wr) a∧RS g' w' st.live v (sem tb (.rangeM back x') st).v:=by
 simp only[sem]at e⊢;obtain⟨o1,e⟩:=e;have i:=xh hs hx o1;cases h1:x'.get st.fr with
 |d p=>
  rw[h1]at i;cases p with
  |map id=>
   simp only[h1,ko]at e⊢;obtain⟨hm,_,_,u⟩:=e;obtain⟨b,h,E⟩:=qol (ws i);obtain⟨_,l,hh,hl,he⟩:=qe2 hs E hm;obtain⟨q,m⟩:=hs.newObjA (blk:= .mapIter (some b) (ki st.os id) #[] (ki st.os id)) (o:= .iter (.d (.map id)) (ki st.os id) [] (ki st.os id)) u (by simp)
    (λhG _ keep=>⟨some b,heap_alloc_new w _,keep (s:= .d (.map id)) (RV.map b id E)⟩) (by simp[AObj.cells])
   exact⟨_,_,_,by simp[execOp,C,h,run_range_map w t z A b l.toArray _ B hh],q,m,.ptr _ _ _ (Ghost.at_same _ _ _)⟩
  |nilmap=>
   simp only[h1,ko]at e⊢;obtain⟨_,_,u⟩:=e;have h:=qq1 (ws i);obtain⟨q,m⟩:=hs.newObjA (blk:= .mapIter none 0 #[] 0) (o:= .iter (.d .nilmap) 0 [] 0) u (by simp)
    (λhG _ keep=>⟨none,heap_alloc_new w _,keep (s:= .d .nilmap) RV.nilmap⟩) (by simp[AObj.cells])
   exact⟨_,_,_,by simp[execOp,C,h,run_range_nilMap w t z A B],q,m,.ptr _ _ _ (Ghost.at_same _ _ _)⟩
  | _=>grind[ko,Out.bad]
 | _=>grind[ko,Out.bad]
def qph:ASlot:= .tup [.d (.bool false)]
def entV (e:Nat×D×D):ASlot:= .tup [.d (.bool true),.d e.2.1,.d e.2.2]
structure IterOn (os:List AObj) (iid mid since:Nat) (seen:List Nat) (last:Nat) (es:Ents) (clock:Nat):Prop where
 iter:os[iid]? =some (.iter (.d (.map mid)) since seen last)
 map:os[mid]? =some (.map es clock)
 old: ∀e∈es,e.1<since
 le:since<=last
theorem xbp {x:Operand} {x':Opd} {p mid since last clock:Nat} {seen:List Nat} {es:Ents} (ho:oper.op= .next x false) (hx:qr x=some x') (hs:SR N T g w st a) (hok:x'.ok st.fr=true) (hg:x'.get st.fr= .d (.ptr p 0)) (h:IterOn st.os p mid since seen last es clock):
  (qf8 es seen= []∧ ∃v,(execOp a.eval oper).run P w= .ok (.value v) w∧RS g w st.live v qph)∨
  ∃e∈qf8 es seen,∃v w',(execOp a.eval oper).run P w= .ok (.value v) w'∧G g w g w'∧SR N T g w' {st with os:=st.os.set p (.iter (.d (.map mid)) since (seen++ [e.1]) clock)} a∧RS g w' st.live v (entV e):=by
 have r1:=xh hs hx hok;rw[hg]at r1;have B:=ws r1;generalize hq:a.eval x=xv at B;cases B with
 |ptr r _ _ hgr=>
 obtain⟨r',Z,Y⟩:=(hs.objs p _ h.iter (by simp)).resolve_right (λh=>by cases h.1);have:r'=r:=hs.inj r' r p Z hgr;subst this;obtain⟨o,C,F⟩:=Y;have E:RV g w (.map o) (.map mid):=F;obtain⟨bm,ad,ac⟩:=qol E;cases ad;obtain⟨q,O,aa⟩:=(hs.objs mid _ h.map (by simp)).resolve_right (λh=>by cases h.1);have:q=bm:=hs.inj q bm mid O ac;subst this;obtain⟨l,hh,hl,M⟩:=aa;have hold: ∀x∈l.toArray.toList,x.born<since:=by
  intro y hy;obtain⟨i,hi⟩:=List.mem_iff_getElem?.1 (by omega);have I:i<es.length:=by grind
  have:=M i y es[i] hi (List.getElem?_eq_getElem I);rw[this.born];exact h.old _ (List.getElem_mem I)
 have A: ∀(l:List MapEntry) (es:Ents),l.length=es.length->(∀(i:Nat) (e:MapEntry) (x:Nat×D×D),l[i]? =some e->es[i]? =some x->EntIs g w e x) ->
   ((l.filter λe=> !seen.toArray.contains e.born)= []↔qf8 es seen= [])∧ ∀e∈l.filter (λe=> !seen.toArray.contains e.born),∃x∈qf8 es seen,EntIs g w e x:=by
  intro l;induction l with
  |nil=>grind[qf8]
  |cons e l ih=>
   intro es hl M;cases es with
   |nil=>grind
   |cons y es=>
    obtain⟨k1,k2⟩:=ih es (by grind) (λi e' x' h1 h2=>M (i+1) e' x' (by grind) (by grind));have h0:=M 0 e y rfl rfl;have hb:seen.toArray.contains e.born=seen.contains y.1:=by rw[h0.born];simp
    cases hc:seen.contains y.1 with
    |true=>
     have e1:(!seen.toArray.contains e.born)=false:=by grind
     have e2:qf8 (y::es) seen=qf8 es seen:=by grind[qf8]
     grind
    |false=>
     have e1:(!seen.toArray.contains e.born)=true:=by grind
     have e2:qf8 (y::es) seen=y::qf8 es seen:=by grind[qf8]
     grind
 obtain⟨U,R⟩:=A l es hl M;have ab:(leftOf l.toArray seen.toArray).toList=l.filter λe=> !seen.toArray.contains e.born:=by simp[leftOf]
 rcases run_next_at (P:=P) w oper.type r' q since last seen.toArray l.toArray clock C hh hold h.le with⟨q1,q2⟩|⟨e,J,w1,X,q2⟩
 ·refine .inl ⟨U.1 ?_,.tuple #[.bool false],by simp_all[execOp],[.bool false],rfl,rfl,λi u s z m=> ?_⟩
  ·grind
  ·match i with
   |0=>simp at z m;subst z;subst m;exact .bool false
   |i+1=>grind
 ·rw[ab]at J;obtain⟨y,hy,t⟩:=R e J;refine .inr ⟨y,hy,.tuple #[.bool true,e.key,e.val],ChangeMaps.setBlock w1 r' (.mapIter (some q) since (seen.toArray.push e.born) clock),by grind[execOp,Sem.run_bind,Result.andThen_ok,Sem.run_pure],?_⟩;obtain⟨p1,p2⟩:=hs.setBlk (w1:=w1) (id:=p) (blk1:= .mapIter (some q) since (seen.toArray.push e.born) clock) (o:= .iter (.d (.map mid)) since (seen++ [y.1]) clock) hgr C (by simp) X
   (λ_ hn keep=>⟨some q,by rw[hn,t.born];simp,keep (s:= .d (.map mid)) F⟩) (by simp) (by simp[AObj.cells])
  refine⟨p1,p2,[.bool true,e.key,e.val],rfl,rfl,λi u s z m=> ?_⟩;have hk:=p1.rowsKept hs.dom;match i with
  |0=>simp at z m;subst z;subst m;exact .bool true
  |1=>simp at z m;subst z;subst m;exact t.key.mono_noPtr hk t.kp
  |2=>simp at z m;subst z;subst m;exact t.val.mono_noPtr hk t.vp
  |i+3=>grind
structure EntryOn (os:List AObj) (iid mid since:Nat) (seen:List Nat) (clock:Nat) (es:Ents) (e:Nat×D×D):Prop where
 iter:os[iid]? =some (.iter (.d (.map mid)) since seen clock)
 map:os[mid]? =some (.map es clock)
 last:seen.getLast?=some e.1
 ent:es.find? (λx=>x.1==e.1)=some e
theorem q5x {x:Operand} {x':Opd} {m mid since clock:Nat} {seen:List Nat} {es:Ents} {e:Nat×D×D} (ho:oper.op= .entry x) (hx:qr x=some x') (hs:SR N T g w st a) (hok:x'.ok st.fr=true) (hg:x'.get st.fr= .d (.ptr m 0))
  (h:EntryOn st.os m mid since seen clock es e): ∃v,(execOp a.eval oper).run P w= .ok (.value v) w∧RS g w st.live v (.tup [.d e.2.1,.d e.2.2]):=by
 have X:=xh hs hx hok;rw[hg]at X;have t:=ws X;generalize hq:a.eval x=xv at t;cases t with
 |ptr r _ _ hgr=>
 obtain⟨r',I,G⟩:=(hs.objs m _ h.iter (by simp)).resolve_right (λh=>by cases h.1);have:r'=r:=hs.inj r' r m I hgr;subst this;obtain⟨o,hro,J⟩:=G;have A:RV g w (.map o) (.map mid):=J;obtain⟨Z,U,O⟩:=qol A;cases U;obtain⟨C,B,M⟩:=(hs.objs mid _ h.map (by simp)).resolve_right (λh=>by cases h.1);have:C=Z:=hs.inj C Z mid B O;subst this;obtain⟨l,hh,Y,F⟩:=M;have find: ∀(l:List MapEntry) (es:Ents),l.length=es.length->(∀(i:Nat) (e:MapEntry) (x:Nat×D×D),l[i]? =some e->es[i]? =some x->EntIs g w e x) ->es.find? (λx=>x.1==e.1)=some e->
   ∃y,l.find? (λx=>x.born==e.1)=some y∧EntIs g w y e:=by
  intro l;induction l with
  |nil=>grind
  |cons y l ih=>
   intro es Y F R;cases es with
   |nil=>grind
   |cons z es=>
    have h0:=F 0 y z rfl rfl;rw[jB7]at R⊢;rw[h0.born];cases hc:(z.1==e.1)with
    |true=>grind
    |false=>rw[hc]at R;exact ih es (by grind) (λi e' x' h1 h2=>F (i+1) e' x' (by grind) (by grind)) R
 obtain⟨y,hy,q⟩:=find l es Y F h.ent;have hback:seen.toArray.back?=some e.1:=by simpa using h.last
 refine⟨.tuple #[y.key,y.val],?_,[y.key,y.val],rfl,rfl,λi u s E p=> ?_⟩
 ·simp_all[execOp,Instr.entry,getObj,Sem.run]
 ·match i with
  |0=>simp at E p;subst E;subst p;exact q.key
  |1=>simp at E p;subst E;subst p;exact q.val
  |i+2=>grind
theorem q06 {x:Operand} {x':Opd} {e since last:Nat} {seen:List Nat} (ho:oper.op= .next x false) (hx:qr x=some x') (hs:SR N T g w st a) (hok:x'.ok st.fr=true) (hg:x'.get st.fr= .d (.ptr e 0)) (h:st.os[e]? =some (.iter (.d .nilmap) since seen last)):
  ∃v,(execOp a.eval oper).run P w= .ok (.value v) w∧RS g w st.live v qph:=by
 have B:=xh hs hx hok;rw[hg]at B;have m:=ws B;generalize hq:a.eval x=xv at m;cases m with
 |ptr r _ _ hgr=>
 obtain⟨r',z,t⟩:=(hs.objs e _ h (by simp)).resolve_right (λh=>by cases h.1);have:r'=r:=hs.inj r' r e z hgr;subst this;obtain⟨o,q,A⟩:=t;have p:RV g w (.map o) .nilmap:=A;cases p;refine⟨.tuple #[.bool false],?_,[.bool false],rfl,rfl,λi u s C l=> ?_⟩
 ·simp[execOp,ho,hq,Instr.next,getObj,Sem.run,q]
 ·match i with
  |0=>simp at C l;subst C;subst l;exact .bool false
  |i+1=>grind
def qae (os:List AObj) (id es n:Nat) (r:Src):List ASlot:=(ql os id).take (n*es)++r.rows.flatten.map .d
structure AppR (os:List AObj) (es bytes back:Nat) (id n:Nat) (r:Src):Prop where
 ok:r.ok
 row:qg4 os id=true
 len:n*es<=(ql os id).length
 pos:0<r.rows.length
 by48:(n+r.rows.length)*bytes<=140737488355328
 i63:n+r.rows.length<=9223372036854775807
 none:os[os.length-back]? =some .none
theorem q07 {t u e:TypeId} {s x:Operand} {s' x':Opd} {i:TypeInfo} {z:List D} {back id n:Nat} {r:Src} (ho:oper.op= .call {callee:= .builtin .append,args:= #[s,x],argTypes:= #[t,u]})
  (ht:P.underlying t=some (.slice e)) (hi:P.info? e=some i) (hz:jm P e=some z) (hsz:i.size=z.length) (hb:0<i.bytes)
  (hu:(∃f,P.underlying u=some (.slice f))∨P.underlying u=some .string) (a3:qr s=some s') (ax:qr x=some x') (hs:SR N T g w st a)
  (o1:s'.ok st.fr=true) (o2:x'.ok st.fr=true) (C:s'.get st.fr= .d (.ref id 0 i.size n)) (ag:qar i.size st.os (x'.get st.fr)=some r) (hA:AppR st.os i.size i.bytes back id n r):
  ∃v w' g',(execOp a.eval oper).run P w= .ok (.value v) w'∧G g w g' w'∧
   ((SR N T g' w' {st with os:=st.os.set id (.row (qae st.os id i.size n r))} a∧RS g' w' st.live v (.d (.ref id 0 i.size (n+r.rows.length))))∨
    (SR N T g' w' {st with os:=st.os.set (st.os.length-back) (.row (qae st.os id i.size n r))} a∧RS g' w' st.live v (.d (.ref (st.os.length-back) 0 i.size (n+r.rows.length))))):=by
 obtain⟨ai,ah,hlen,hpos,a7,h63,aa⟩:=hA;have rs:=xh hs a3 o1;have rx:=xh hs ax o2;rw[C]at rs;obtain⟨i',zv,ar,av,aw⟩:=vi hz;rw[hi]at ar;cases ar;have hzs:zv.cells.size=i.size:=by have:=(kr aw).1;grind
 obtain⟨hes,news,aj,B,R,_⟩:=qgg (P:=P) hs rx ag ai;have h2:news.length=r.rows.length*i.size:=by rw[aj.1,xm hes]
 have hfl:r.rows.flatten.length=r.rows.length*i.size:=xm hes;have Y: ∀base cap v w',a.eval s= .slice base n cap->(Builtin.append_ #[t,u] oper.type #[.slice base n cap,a.eval x]).run P w= .ok v w'->(execOp a.eval oper).run P w= .ok (.value v) w':=by
  simp_all[execOp,resolve,invoke,builtin]
 have X: ∀s∈qae st.os id i.size n r,∀t∈s.toks,T t:=by
  intro s a1 t ht;rcases List.mem_append.1 a1 with h|h
  ·have hm:=List.mem_of_mem_take h;unfold ql at hm;split at hm
   ·rename_i o ho;exact hs.wf.os id o ho s hm t ht
   grind
  ·obtain⟨d,_,rfl⟩:=List.mem_map.1 h;grind[ASlot.toks]
 have hcl:(qae st.os id i.size n r).length=n*i.size+r.rows.length*i.size:=by
  grind[qae,List.length_append,List.length_take,List.length_map]
 have I: ∀(j:Nat) (d:D),r.rows.flatten[j]? =some d-> ∃u,news[j]? =some u∧u.oneCell'=true∧RV g w u d:=by
  intro j d hd;have q:j<news.length:=by grind
  have hr:=aj.2.2 j _ d (List.getElem?_eq_getElem q) hd;exact⟨news[j],List.getElem?_eq_getElem q,hr.oneCell (aj.2.1 d (List.mem_of_getElem? hd)),hr⟩
 have F: ∀(j:Nat) (s:ASlot),(qae st.os id i.size n r)[j]? =some s->(j<n*i.size∧(ql st.os id)[j]? =some s)∨(n*i.size<=j∧ ∃d,s= .d d∧r.rows.flatten[j-n*i.size]? =some d):=by
  grind[qae,ql,id,List.length_take,List.getElem?_append_left]
 have O: ∀base cap (olds:List Value),a.eval s= .slice base n cap->cap<n+r.rows.length->cap<=maxLen->olds.length=n*i.size->(Builtin.firstCells i.size n (.slice base n cap)).run P w.drew= .ok olds.toArray w.drew->
   (∀(j:Nat) (s:ASlot),j<n*i.size->(ql st.os id)[j]? =some s-> ∃v,olds[j]? =some v∧v.oneCell'=true∧RC g w st.live v s) ->
   ∃v w' g',(execOp a.eval oper).run P w= .ok (.value v) w'∧G g w g' w'∧SR N T g' w' {st with os:=st.os.set (st.os.length-back) (.row (qae st.os id i.size n r))} a∧RS g' w' st.live v (.d (.ref (st.os.length-back) 0 i.size (n+r.rows.length))):=by
  intro base cap olds hv hn hcm a4 am hold;have hfit:Builtin.nextslicecap (n+r.rows.length) cap*i.bytes<=281474976710656:=growslice_fits (by omega) a7;have l:=qcp (P:=P) (w:=w) (ty:=oper.type) ht hi av hu (by omega) base n cap B.1 R am hn hfit;have a5:=grownCap_ge w (n+r.rows.length) cap e;have al:=grownCap_le_maxLen w (n+r.rows.length) cap e (by grind[maxLen]);generalize hzz:Builtin.zeroCells zv.cells (grownCap w (n+r.rows.length) cap e-(n+r.rows.length))=zz at l;have ac:zz.size=(grownCap w (n+r.rows.length) cap e-(n+r.rows.length))*i.size:=by grind[qes]
  have ay:w.drew={w with drawn:=w.drawn+1}:=rfl;have a2:SR N T g w.drew st a:=by rw[ay];exact hs.drew
  have au:G g w g w.drew:=⟨rfl,rfl,rfl,Nat.le_refl _,λ_ _ h=>⟨rfl,h⟩,λ_ _ _ h=>⟨rfl,h⟩,λ_ n t _ h=>⟨n,some t,h,Nat.le_refl _,λ_ _ _ h=>h⟩,λ_ _ _ h=>⟨h,Nat.le_refl _⟩⟩;have Z: ∀{v:Value} {y:ASlot},RC g w st.live v y->RC g w.drew st.live v y:=λh=>RC.keep au hs.dom (λ_ _ _ h=>⟨h,rfl⟩) (λ_ _ h=>⟨h,rfl⟩) h;have ao:(olds.toArray++news.toArray++zz)=(olds++news++zz.toList).toArray:=by simp
  rw[ao]at l;obtain⟨q1,q2⟩:=a2.newObj (e:=e) (vs:=olds++news++zz.toList) (new:=qae st.os id i.size n r) aa (by grind) (λj y M=>by
   rcases F j y M with⟨h,hc⟩|⟨h,d,rfl,hd⟩
   ·grind
   ·obtain⟨v,v1,v2,v3⟩:=I _ d hd;have q:j-n*i.size<news.length:=(List.getElem?_eq_some_iff.1 v1).1;exact⟨v,by grind,v2,Z v3⟩) X
  refine⟨_,_,_,Y _ _ _ _ hv l,au.trans q1,q2,?_⟩;refine .ref _ 0 _ _ _ _ (Ghost.at_same _ _ _) a5 al ?_;have J:(w.drew.alloc (.cells (olds++news++zz.toList).toArray e)).heap[w.heap.size]? =some (.cells (olds++news++zz.toList).toArray e (0,0)):=heap_alloc_new w.drew _;rw[vq J];have h3:(olds++news++zz.toList).toArray.size=olds.length+news.length+zz.size:=by grind
  rw[h3,a4,h2,ac,<- Nat.add_mul,<- Nat.add_mul,Nat.zero_add];grind
 have aq:=ws rs;generalize ae:a.eval s=v0 at aq;cases aq with
 |refnil ad=>
  have am:(Builtin.firstCells i.size 0 (.slice ad 0 0)).run P w.drew= .ok #[] w.drew:=by
   cases ad with
   |none=>rfl
   |some a0=>grind[run_firstCells_some]
  obtain⟨v,w',g',k1,k2,k3,k4⟩:=O ad 0 [] ae (by omega) (by simp) (by simp) am (λj y M _=>by omega);grind
 |ref b _ _ _ _ cap hg hcap hmx hbs=>
  obtain⟨c,e0,A,hsize,hcells⟩:=qpu hs hg ah;rw[vq A,Nat.zero_add]at hbs;have hnc:n*i.size<=cap*i.size:=Nat.mul_le_mul_right _ hcap;have hq:c.toList.length=c.size:=Array.length_toList;by_cases hn:n+r.rows.length<=cap
  ·have l:=yx (P:=P) (w:=w) (ty:=oper.type) ht hi hu ⟨b,0,none⟩ n cap B hn;have af:(n+r.rows.length)*i.size<=cap*i.size:=Nat.mul_le_mul_right _ hn;rw[Nat.add_mul]at af;have ak: ∀v∈news,v.oneCell'=true:=by
    intro v hv;obtain⟨j,M⟩:=List.getElem?_of_mem hv;have q:j<r.rows.flatten.length:=by grind
    obtain⟨u,u1,u2,_⟩:=I j _ (List.getElem?_eq_getElem q);grind
   have az:=run_storeCells_at P b (n*i.size) e0 news 0 c w A (by omega) ak;rw[Addr.add_lit,Nat.zero_add]at l;rw[az]at l;simp only[Nat.add_zero,Result.andThen_ok]at l;generalize a6:(c.toList.take (n*i.size)++news++c.toList.drop (n*i.size+news.length)).toArray=c' at l;have J:(w.setRow b c').heap[b]? =some (.cells c' e0 (0,0)):=setRow_heap w b c c' e0 (0,0) A;have p: ∀k,k≠b->(w.setRow b c').heap[k]? =w.heap[k]? :=λk C=>setRow_other w b k c' C;have hwsz:(w.setRow b c').heap.size=w.heap.size:=by simp
   have ab:c'.size=c.size:=by
    grind
   have hlow: ∀j,j<n*i.size->c'[j]? =c[j]? :=by
    grind
   have hput: ∀(j:Nat) (v:Value),news[j]? =some v->c'[n*i.size+j]? =some v:=by
    intro j v M;have q:j<news.length:=(List.getElem?_eq_some_iff.1 M).1;have al:(c.toList.take (n*i.size)).length=n*i.size:=by grind
    rw[<- a6];simp only[List.getElem?_toArray,List.append_assoc];rw[List.getElem?_append_right (by omega),al,Nat.add_sub_cancel_left,List.getElem?_append_left q];exact M
   have U: ∀k n o,g k= .row n o->k≠b:=by grind
   have an: ∀k,qdm w k<=qdm (w.setRow b c') k:=λk=>by
    grind[vq,Nat.le_of_eq,jl]
   have hG:G g w g (w.setRow b c'):=
    ⟨rfl,rfl,rfl,by omega,λk C E=>⟨p k (by grind),E⟩,λk m C E=>⟨p k (U k _ _ E),E⟩,
     λk m t C E=>⟨m,some t,E,Nat.le_refl _,λi v _ hv=>by grind[kj]⟩,λk id C E=>⟨E,an k⟩⟩
   have keep: ∀{v:Value} {x:ASlot},RC g w st.live v x->RC g (w.setRow b c') st.live v x:=λh=>RC.keep hG hs.dom (λk n o C=>⟨C,p k (U k n o C)⟩) (λk t C=>⟨C,p k (by grind)⟩) h;have q:id<st.os.length:=by
    obtain⟨o,ho,_⟩:=hs.ids b id hg;grind
   refine⟨_,_,g,Y _ _ _ _ ae l,hG,.inl ⟨?_,?_⟩⟩
   ·refine hs.setObj q hG (hs.dom.of hG λk C=>hs.dom.1 k (by omega)) hg (λ_ _=>rfl) (λk C _=>p k C) (.inr hg) (λk C=>hs.inj k b id C hg) ⟨c',e0,J,by omega,λj y M=> ?_⟩ X;rcases F j y M with⟨h,hc⟩|⟨h,d,rfl,hd⟩
    ·grind
    ·obtain⟨v,v1,v2,v3⟩:=I _ d hd;refine⟨v,?_,v2,keep v3⟩;grind
   ·refine .ref b 0 id _ _ cap hg hn hmx ?_;rw[vq J,Nat.zero_add,ab];exact hbs
  ·obtain⟨v,w',g',k1,k2,k3,k4⟩:=O (some ⟨b,0,none⟩) cap (c.toList.take (n*i.size)) ae (by omega) hmx (by grind)
    (run_firstCells_some (P:=P) w.drew i.size n ⟨b,0,none⟩ _ _ (c.toList.take (n*i.size)) (by grind) (λj v M=>by
     rw[List.getElem?_take]at M;split at M
     ·rw[Addr.add_lit,Nat.zero_add];have hd:w.drew.heap[b]? =some (.cells c e0 (0,0)):=A;grind[World.cell?]
     grind))
    (λj y M hc=>by
     grind)
   grind
end
end Go.Abs
namespace Go.Abs
structure ObjsOk (g:Ghost) (w:World) (live:List Nat) (os:List AObj):Prop where
 objs: ∀(id:Nat) (o:AObj),os[id]? =some o->o≠ .none->ObjIs g w live id o
 inj: ∀(b b' id:Nat),g b= .obj id->g b'= .obj id->b=b'
 ids: ∀(b id:Nat),g b= .obj id-> ∃o,os[id]? =some o∧o≠ .none
def vy (l:List ASlot):List Nat:=l.flatMap ASlot.toks
def xi:List AObj->List Nat
 | []=> []
 |o::l=>o.cells.flatMap ASlot.toks++xi l
theorem qgi: ∀{os:List AObj} {id:Nat} {o:AObj},os[id]? =some o-> ∀s∈o.cells,∀t∈s.toks,t∈xi os
 | [],id,o,h,s,hs,t,ht=>by simp at h
 |o'::l,id,o,h,s,hs,t,ht=>by
  simp only[xi,jAs,jBi];cases id with
  |zero=>simp at h;subst h;exact .inl ⟨s,hs,ht⟩
  |succ id=>exact .inr (qgi (by simpa using h) s hs t ht)
def qf (P:Program) (f:FuncId) (args:List ASlot) (objs:List AObj) (r:ASlot) (objs':List AObj):Prop:=
 ∀(g:Ghost) (w:World) (vs:List Value),Dom g w->vs.length=args.length->
  (∀(i:Nat) (v:Value) (s:ASlot),vs[i]? =some v->args[i]? =some s->RC g w (vy args++xi objs) v s) ->ObjsOk g w (vy args++xi objs) objs->
  Calls P f vs.toArray w λe w'=> ∃v g' live',e= .returned v∧G g w g' w'∧Dom g' w'∧(∀t∈r.toks++xi objs',t∈live')∧RS g' w' live' v r∧ObjsOk g' w' live' objs'
def qcq:ASlot->ASlot->Prop
 |s,.d x=>s.eqvD x
 | .own _ es rows,.own _ es' rows'=>es=es'∧D.eqvR rows rows'
 | .uni _ es rows,.uni _ es' rows'=>es=es'∧rows=rows'
 | .d .nilsl,.uni _ _ rows'=>rows'= []
 | .full es rows,.own _ es' rows'=>qa2 es rows es' rows'
 | .full es rows,.full es' rows'=>qa2 es rows es' rows'
 | .d .nilsl,.own _ _ rows'=>rows'= []
 | .d .nilsl,.full _ rows'=>rows'= []
 | .rd cs,.rd cs'=>D.eqvL cs cs'
 | _,_=>False
def qaf:List ASlot->List ASlot->Prop
 | [],[]=>True
 |s::l,f::r=>qcq s f∧qaf l r
 | _,_=>False
def zk:List ASlot->List ASlot->List (Nat×Nat)
 | .own t _ _::l,.own t' _ _::r=>(t,t')::zk l r
 | .uni t _ _::l,.uni t' _ _::r=>(t,t')::zk l r
 | _::l,_::r=>zk l r
 | _,_=> []
def ASlot.noPtr:ASlot->Bool
 | .d x=>x.noPtr
 | .own _ _ rows=>D.noPtrR rows
 | .uni _ _ rows=>D.noPtrR rows
 | .full _ rows=>D.noPtrR rows
 | .rd cs=>D.noPtrL cs
 | _=>false
def renT (toks:List Nat) (base:Nat):ASlot->ASlot
 | .own t es rows=> .own (base+toks.idxOf t) es rows
 | .uni t es rows=> .uni (base+toks.idxOf t) es rows
 |s=>s
def yd (R:List Nat) (base:Nat) (r:ASlot):ASlot:=
 match r with
 | .tup l=> .tup (l.map (renT R base))
 |s=>renT R base s
def qe3 (base:Nat) (r:ASlot):ASlot:=yd r.toks base r
def renC (R:List Nat) (base:Nat) (s:ASlot):ASlot:=if s.toks= []then s else match s with
 | .tup _=> .bad
 |s=>renT R base s
theorem xsy {R:List Nat} {base:Nat} {s:ASlot} (h: ∀l,s≠ .tup l):renC R base s=renT R base s:=by
 cases s<;>first|(simp[renC,ASlot.toks,renT];done)|exact(h _ rfl).elim
def AObj.rt (R:List Nat) (base:Nat):AObj->AObj
 | .row cs=> .row (cs.map (renC R base))
 |o=>o
theorem xfe {R:List Nat} {base:Nat} {s:ASlot} (h:s.toks= []):renC R base s=s:=if_pos h
theorem xsz {R:List Nat} {base:Nat} {o:AObj} (h: ∀s∈o.cells,s.toks= []):o.rt R base=o:=by
 cases o with
 |row cs=>
  simp only[AObj.rt,AObj.row.injEq];exact(jC3 λs hs=>xfe (h s hs)).trans (List.map_id _)
 | _=>rfl
theorem q5y {os:List AObj} (h:xi os= []): ∀o∈os,∀s∈o.cells,s.toks= []:=by
 intro o d s hs;induction os with
 |nil=>cases d
 |cons x l ih=>
  simp only[xi,jC2,jCn]at h;rcases jAv.1 d with rfl|d
  ·exact h.1 s hs
  ·exact ih h.2 d
theorem xlv {R:List Nat} {base:Nat} {os:List AObj} (h:xi os= []):os.map (AObj.rt R base)=os:=
 (jC3 λo ho=>xsz (q5y h o ho)).trans (List.map_id _)
theorem qq2 {toks:List Nat} {base t:Nat} {s:ASlot} (hn: ∀l,s≠ .tup l) (h:t∈(renT toks base s).toks): ∃u∈s.toks,t=base+toks.idxOf u:=by
 cases s with
 |own u es rows=>grind[renT,ASlot.toks]
 |uni u es rows=>grind[renT,ASlot.toks]
 |tup l=>grind
 | _=>simp[renT,ASlot.toks]at h
theorem qlv {s:ASlot} {t:Nat} (h:t∈qch s):t∈s.toks∧ ∀l,s≠ .tup l:=by
 cases s<;>simp[qch]at h<;>subst h<;>exact⟨by simp[ASlot.toks],by simp⟩
theorem qq3 {R:List Nat} {base t:Nat} {r:ASlot} (q: ∀u∈r.toks,u∈R) (h:t∈(yd R base r).toks):base<=t∧t<base+R.length:=by
 have d: ∀u,u∈R->t=base+R.idxOf u->base<=t∧t<base+R.length:=by
  grind
 by_cases p: ∃l,r= .tup l
 ·obtain⟨l,rfl⟩:=p;simp only[yd,ASlot.toks,List.mem_flatMap,List.mem_map]at h;obtain⟨s,⟨s',o,rfl⟩,i⟩:=h;obtain⟨h1,h2⟩:=qlv i;have hn: ∀l,s'≠ .tup l:=by intro l' hl;subst hl;exact h2 _ rfl
  obtain⟨u,e,m⟩:=qq2 hn h1;refine d u (q u ?_) m;simp only[ASlot.toks,List.mem_flatMap];refine⟨s',o,?_⟩;cases s'<;>simp[ASlot.toks]at e
  ·grind[qch]
  ·grind[qch]
  grind
 ·have hn: ∀l,r≠ .tup l:=λl h=>p ⟨l,h⟩;have he:yd R base r=renT R base r:=by cases r<;>first|rfl|grind
  rw[he]at h;obtain⟨u,e,m⟩:=qq2 hn h;exact d u (q u e) m
theorem qur {base t:Nat} {r:ASlot} (h:t∈(qe3 base r).toks):base<=t∧t<base+r.toks.length:=qq3 (λ_ h=>h) h
theorem xbq {os:List AObj} {t:Nat} (h:t∈xi os): ∃o∈os,∃s∈o.cells,t∈s.toks:=by
 induction os with
 |nil=>cases h
 |cons o l ih=>
  simp only[xi,jAs,jBi]at h;rcases h with⟨s,hs,ht⟩|h
  ·exact⟨o,jA7,s,hs,ht⟩
  ·obtain⟨o',h1,h2⟩:=ih h;exact⟨o',jA9 _ h1,h2⟩
theorem qq4 {os:List AObj} {o:AObj} {s:ASlot} {t:Nat} (h:o∈os) (hs:s∈o.cells) (ht:t∈s.toks):t∈xi os:=by
 obtain⟨i,hi⟩:=jBh h;exact qgi hi s hs t ht
theorem qm6 {R:List Nat} {base t:Nat} {r:ASlot} {fo':List AObj} (A:R=r.toks++xi fo') (h:t∈(yd R base r).toks++xi (fo'.map (AObj.rt R base))):base<=t∧t<base+R.length:=by
 have p: ∀u∈r.toks,u∈R:=λu h=>A▸jBa _ h;have q: ∀u∈xi fo',u∈R:=λu h=>A▸jBc _ h;rcases jAs.1 h with h|h
 ·exact qq3 p h
 ·obtain⟨o,ho,s,hs,d⟩:=xbq h;obtain⟨z,m,rfl⟩:=jAo.1 ho;have v: ∀i∈z.cells,t∈(renC R base i).toks->base<=t∧t<base+R.length:=by
   intro i e d;unfold renC at d;split at d
   ·rename_i h0;rw[h0]at d;cases d
   ·split at d
    ·simp[ASlot.toks]at d
    ·rename_i hn;obtain⟨u,hu,rfl⟩:=qq2 (λl hl=>hn l hl) d;have:=q u (qq4 m e hu);grind
  cases z with
  |row cs=>
   obtain⟨i,e,rfl⟩:=jAo.1 hs;exact v i e d
  | _=>cases hs
def vj (l:List (Nat×Nat)) (t:Nat):Option Nat:=(l.find? (·.1==t)).map (·.2)
theorem qm7 {l:List (Nat×Nat)} {t t':Nat} (h:vj l t=some t'):(t,t')∈l:=by
 unfold vj at h;cases hf:l.find? (·.1==t)with
 |none=>grind
 |some p=>
  grind
theorem q5z {l:List (Nat×Nat)} {t:Nat} (h:vj l t=none):t∉l.map (·.1):=by
 intro hm;obtain⟨p,hp,rfl⟩:=List.mem_map.1 hm;grind[vj,Option.map_eq_none_iff,List.find?_eq_none]
theorem qcr {l:List (Nat×Nat)} (hn:(l.map (·.1)).Nodup) {t t':Nat} (h:(t,t')∈l):vj l t=some t':=by
 cases hp:vj l t with
 |none=>exact(q5z hp (List.mem_map.2 ⟨(t,t'),h,rfl⟩)).elim
 |some u=>
  have:=qm7 hp;congr 1;induction l with
  |nil=>cases h
  |cons q l ih=>
   grind[List.nodup_cons,vj]
mutual
def D.ren (ι:List Nat):D->D
 | .ptr id off=> .ptr (ι.getD id 0) off
 | .ref id off es len=> .ref (ι.getD id 0) off es len
 | .map id=> .map (ι.getD id 0)
 | .sl es rows=> .sl es (D.renR ι rows)
 | .agg cs=> .agg (D.renL ι cs)
 | .func fn a b=> .func fn (D.renL ι a) (D.renL ι b)
 | .iface t d=> .iface t (D.ren ι d)
 | .int k n=> .int k n
 | .bool b=> .bool b
 | .str s=> .str s
 | .nilptr=> .nilptr
 | .nilfunc=> .nilfunc
 | .niliface=> .niliface
 | .nilmap=> .nilmap
 | .nilsl=> .nilsl
 | .any=> .any
def D.renL (ι:List Nat):List D->List D
 | []=> []
 |d::l=>D.ren ι d::D.renL ι l
def D.renR (ι:List Nat):List (List D) ->List (List D)
 | []=> []
 |r::l=>D.renL ι r::D.renR ι l
end
mutual
def D.inK (k:Nat):D->Bool
 | .ptr id _=>decide (id<k)
 | .ref id _ _ _=>decide (id<k)
 | .map id=>decide (id<k)
 | .sl _ rows=>D.inKR k rows
 | .agg cs=>D.inKL k cs
 | .func _ a b=>D.inKL k a&&D.inKL k b
 | .iface _ d=>D.inK k d
 | .int .. =>true
 | .bool .. =>true
 | .str .. =>true
 | .nilptr=>true
 | .nilfunc=>true
 | .niliface=>true
 | .nilmap=>true
 | .nilsl=>true
 | .any=>true
def D.inKL (k:Nat):List D->Bool
 | []=>true
 |d::l=>D.inK k d&&D.inKL k l
def D.inKR (k:Nat):List (List D) ->Bool
 | []=>true
 |r::l=>D.inKL k r&&D.inKR k l
end
theorem D.renL_map (ι:List Nat): ∀l:List D,D.renL ι l=l.map (D.ren ι)
 | []=>rfl
 |d::l=>by simp only[D.renL,List.map_cons,D.renL_map ι l]
theorem D.renR_map (ι:List Nat): ∀l:List (List D),D.renR ι l=l.map λr=>r.map (D.ren ι)
 | []=>rfl
 |r::l=>by simp only[D.renR,List.map_cons,D.renL_map,D.renR_map ι l]
theorem D.inKL_iff (k:Nat): ∀l:List D,D.inKL k l=true↔ ∀d∈l,d.inK k=true
 | []=>by simp[D.inKL]
 |d::l=>by simp[D.inKL,D.inKL_iff k l]
theorem D.inKR_iff (k:Nat): ∀l:List (List D),D.inKR k l=true↔ ∀d∈l.flatten,d.inK k=true
 | []=>by simp[D.inKR]
 |r::l=>by
  simp only[D.inKR,jAf,D.inKL_iff,D.inKR_iff k l,List.flatten_cons,jAs];grind
mutual
theorem D.ren_noPtr (ι:List Nat): ∀{d:D},d.noPtr=true->d.ren ι=d
 | .sl es rows,h=>by simp only[D.ren,D.renR_noPtr ι (l:=rows) (by simpa only[D.noPtr]using h)]
 | .agg cs,h=>by simp only[D.ren,D.renL_noPtr ι (l:=cs) (by simpa only[D.noPtr]using h)]
 | .ptr ..,h=>by simp[D.noPtr]at h
 | .ref ..,h=>by simp[D.noPtr]at h
 | .map _,h=>by simp[D.noPtr]at h
 | .func fn a b,h=>by
  simp_all[D.noPtr,jAf,D.ren,D.renL_noPtr]
 | .iface t d,h=>by simp only[D.ren,D.ren_noPtr ι (d:=d) (by simpa only[D.noPtr]using h)]
 | .int ..,_=>rfl
 | .bool ..,_=>rfl
 | .str ..,_=>rfl
 | .nilptr,_=>rfl
 | .nilfunc,_=>rfl
 | .niliface,_=>rfl
 | .nilmap,_=>rfl
 | .nilsl,_=>rfl
 | .any,_=>rfl
theorem D.renL_noPtr (ι:List Nat): ∀{l:List D},D.noPtrL l=true->D.renL ι l=l
 | [],_=>rfl
 |d::l,h=>by
  simp_all[D.noPtrL,jAf,D.renL,D.ren_noPtr,D.renL_noPtr]
theorem D.renR_noPtr (ι:List Nat): ∀{l:List (List D)},D.noPtrR l=true->D.renR ι l=l
 | [],_=>rfl
 |r::l,h=>by
  simp_all[D.noPtrR,jAf,D.renR,D.renL_noPtr,D.renR_noPtr]
end
mutual
theorem D.inK_noPtr (k:Nat): ∀{d:D},d.noPtr=true->d.inK k=true
 | .sl es rows,h=>by simp only[D.inK];exact D.inKR_noPtr k (l:=rows) (by simpa only[D.noPtr]using h)
 | .agg cs,h=>by simp only[D.inK];exact D.inKL_noPtr k (l:=cs) (by simpa only[D.noPtr]using h)
 | .ptr ..,h=>by simp[D.noPtr]at h
 | .ref ..,h=>by simp[D.noPtr]at h
 | .map _,h=>by simp[D.noPtr]at h
 | .func fn a b,h=>by
  simp_all[D.noPtr,jAf,D.inK,D.inKL_noPtr,jBu]
 | .iface t d,h=>by simp only[D.inK];exact D.inK_noPtr k (d:=d) (by simpa only[D.noPtr]using h)
 | .int ..,_=>rfl
 | .bool ..,_=>rfl
 | .str ..,_=>rfl
 | .nilptr,_=>rfl
 | .nilfunc,_=>rfl
 | .niliface,_=>rfl
 | .nilmap,_=>rfl
 | .nilsl,_=>rfl
 | .any,_=>rfl
theorem D.inKL_noPtr (k:Nat): ∀{l:List D},D.noPtrL l=true->D.inKL k l=true
 | [],_=>rfl
 |d::l,h=>by
  simp_all[D.noPtrL,jAf,D.inKL,D.inK_noPtr,D.inKL_noPtr]
theorem D.inKR_noPtr (k:Nat): ∀{l:List (List D)},D.noPtrR l=true->D.inKR k l=true
 | [],_=>rfl
 |r::l,h=>by
  simp_all[D.noPtrR,jAf,D.inKR,D.inKL_noPtr,D.inKR_noPtr]
end
def ASlot.ren1 (ι:List Nat):ASlot->ASlot
 | .d x=> .d (x.ren ι)
 | .own t es rows=> .own t es (D.renR ι rows)
 | .uni t es rows=> .uni t es (D.renR ι rows)
 | .full es rows=> .full es (D.renR ι rows)
 | .rd cs=> .rd (D.renL ι cs)
 |s=>s
def ASlot.ren (ι:List Nat) (s:ASlot):ASlot:=
 match ι with
 | []=>s
 | _=>match s with
  | .tup l=> .tup (l.map (ASlot.ren1 ι))
  |s=>s.ren1 ι
def AObj.ren (ι:List Nat):AObj->AObj
 | .none=> .none
 | .row cs=> .row (cs.map (ASlot.ren1 ι))
 | .map es clock=> .map es clock
 | .iter m since seen last=> .iter (m.ren1 ι) since seen last
def ASlot.inK (k:Nat):ASlot->Bool
 | .d x=>x.inK k
 | .own _ _ rows=>D.inKR k rows
 | .uni _ _ rows=>D.inKR k rows
 | .full _ rows=>D.inKR k rows
 | .rd cs=>D.inKL k cs
 | _=>false
theorem q08 (ι:List Nat) (s:ASlot):(s.ren1 ι).toks=s.toks:=by cases s<;>rfl
theorem qxb (ι:List Nat) (s:ASlot):(s.ren ι).toks=s.toks:=by
 cases ι with
 |nil=>rfl
 |cons x ι=>
  cases s with
  |tup l=>
   simp only[ASlot.ren,ASlot.toks,List.flatMap_map];congr 1;funext s;cases s<;>rfl
  | _=>rfl
def qq5:List Nat->Nat->Option Nat
 | [],_=>none
 |x::l,id=>if x=id then some 0 else(qq5 l id).map (· +1)
theorem qgj: ∀{l:List Nat} {id j:Nat},qq5 l id=some j->l[j]? =some id
 | [],_,_,h=>by simp[qq5]at h
 |x::l,id,j,h=>by
  simp only[qq5]at h;split at h
  ·grind
  ·rw[jAb]at h;obtain⟨i,hi,rfl⟩:=h;simpa using qgj hi
theorem qdn: ∀{l:List Nat},l.Nodup-> ∀{id j:Nat},l[j]? =some id->qq5 l id=some j
 | [],_,_,_,h=>by simp at h
 |x::l,hn,id,j,h=>by
  rw[List.nodup_cons]at hn;cases j with
  |zero=>grind[qq5]
  |succ j=>
   have e:l[j]? =some id:=by grind
   have d:x≠id:=λhe=>hn.1 (he▸List.mem_of_getElem? e);simp only[qq5,if_neg d,qdn hn.2 e,Option.map_some]
theorem xbr {l:List Nat} {id:Nat} (h:id∉l):qq5 l id=none:=by
 cases hp:qq5 l id with
 |none=>rfl
 |some j=>exact(h (jAe (qgj hp))).elim
def q09:ASlot->ASlot->Prop
 |s,.d x=>s.eqvD x
 | .own _ es rows,.own _ es' rows'=>es=es'∧D.eqvR rows rows'
 | _,.bad=>True
 | _,_=>False
def qga:List ASlot->List ASlot->Prop
 |s::l,f::r=>q09 s f∧qga l r
 | _,[]=>True
 | [],_::_=>False
def xff:AObj->AObj->Prop
 | .row cs,.row fs=>qga cs fs
 | .map es c,.map es' c'=>es=es'∧c=c'
 | _,_=>False
def ASlot.inKC (k:Nat):ASlot->Bool
 | .bad=>true
 |s=>s.inK k
def AObj.inK (k:Nat):AObj->Bool
 | .none=>true
 | .row cs=>cs.all (ASlot.inKC k)
 | .map .. =>true
 | .iter .. =>false
mutual
theorem qm8: ∀{d:D},d.inK 0=true->d.noPtr=true
 | .sl es rows,h=>by simp only[D.noPtr];exact qe5 (rows:=rows) (by simpa only[D.inK]using h)
 | .agg cs,h=>by simp only[D.noPtr];exact qe4 (cs:=cs) (by simpa only[D.inK]using h)
 | .ptr ..,h=>by simp[D.inK]at h
 | .ref ..,h=>by simp[D.inK]at h
 | .map _,h=>by simp[D.inK]at h
 | .func fn a b,h=>by
  simp_all[D.inK,jAf,D.noPtr,qe4,jBu]
 | .iface t d,h=>by simp only[D.noPtr];exact qm8 (d:=d) (by simpa only[D.inK]using h)
 | .int ..,_=>rfl
 | .bool ..,_=>rfl
 | .str ..,_=>rfl
 | .nilptr,_=>rfl
 | .nilfunc,_=>rfl
 | .niliface,_=>rfl
 | .nilmap,_=>rfl
 | .nilsl,_=>rfl
 | .any,_=>rfl
theorem qe4: ∀{cs:List D},D.inKL 0 cs=true->D.noPtrL cs=true
 | [],_=>rfl
 |d::l,h=>by
  simp_all[D.inKL,jAf,D.noPtrL,qm8,qe4]
theorem qe5: ∀{rows:List (List D)},D.inKR 0 rows=true->D.noPtrR rows=true
 | [],_=>rfl
 |r::l,h=>by
  simp_all[D.inKR,jAf,D.noPtrR,qe4,qe5]
end
def qef (κ:List Nat) (os:List AObj):List Nat->List AObj->Prop
 | _,[]=>True
 |id::ι,o::fo=>(∃c,os[id]? =some c∧xff c (o.ren κ))∧qef κ os ι fo
 | [],_::_=>False
def xw (hs:List (Nat×Nat)) (ι:List Nat) (g:Ghost):Ghost:=λb=>
 match g b with
 | .row n (some t)=> .row n (vj hs t)
 | .row n none=> .row n none
 | .uni t=>match vj hs t with|some t'=> .uni t'|none=> .out
 | .obj id=>match qq5 ι id with|some j=> .obj j|none=> .out
 | .out=> .out
def upR (ι:List Nat) (ren:Nat->Option Nat):Role->Role
 | .row n' o=> .row n' (o.bind ren)
 | .uni u=>match ren u with|some u'=> .uni u'|none=> .out
 | .obj j=>match ι[j]?with|some id=> .obj id|none=> .out
 | .out=> .out
def qlw (hs:List (Nat×Nat)) (ι:List Nat) (size:Nat) (ren:Nat->Option Nat) (g d:Ghost):Ghost:=λb=>
 if b<size then
  match g b with
  | .row n (some t)=>match vj hs t with
   |some _=>match d b with
    | .row n' o=> .row n' (o.bind ren)
    | _=> .row n none
   |none=> .row n (some t)
  | .uni t=>match vj hs t with
   |some _=>upR ι ren (d b)
   |none=> .uni t
  |r=>r
 else upR ι ren (d b)
section
variable {P:Program} {T:Nat→Prop} {g:Ghost} {w:World} {live:List Nat}
theorem qxc {v:Value} {s:ASlot} {x:D} (h:RS g w live v s) (e:s.eqvD x):RV g w v x:=by
 cases s with
 |d y=>exact RV.eqv h e
 |own t es rows=>exact RV.eqv h.1 e
 |full es rows=>exact RV.eqv h.1 e
 | _=>exact e.elim
theorem qcd {v:Value} {es e:Nat} {rows d:List (List D)} (h:RV g w v (.sl es rows)) (he:qa2 es rows e d):RV g w v (.sl e d):=
 h.eqv (by simp only[D.eqv];exact he)
theorem qpw {v:Value} {rows d:List (List D)} (h: ∃a,v= .slice a rows.length rows.length) (he:D.eqvR rows d): ∃a,v= .slice a d.length d.length:=by
 rw[<-(D.eqvR_flat he).2.1];exact h
theorem qq6 {t es:Nat} {v:Value} {rows d:List (List D)} (h:q0l g w t es rows v) (he:D.eqvR rows d):q0l g w t es d v:=by
 unfold q0l;rw[<-(D.eqvR_flat he).2.1];exact h
theorem xro {v:Value} {cs e:List D} (h:RC g w live v (.rd cs)) (he:D.eqvL cs e):RC g w live v (.rd e):=by
 obtain⟨b,off,n,o,f,rfl,hg,hn,hcc⟩:=h;refine⟨b,off,n,o,f,rfl,hg,by grind[D.eqvL_length],λj d' hj=> ?_⟩;obtain⟨d,hd,i⟩:=D.eqvL_get he j d' hj;obtain⟨c1,c2,c3⟩:=hcc j d hd;exact⟨by grind[D.eqv_isCell],c2,c3.eqv i⟩
theorem xs0 {v:Value} {y:D} {t es:Nat} {rows:List (List D)} (h:RS g w live v (.d y)) (e:qcq (.d y) (.own t es rows)):v= .slice none 0 0∧rows= []:=by
 cases y<;>first|exact e.elim|skip
 have h':RV g w v .nilsl:=h;cases h';exact⟨rfl,e⟩
theorem xs1 {v:Value} {y:D} {t es:Nat} {rows:List (List D)} (h:RS g w live v (.d y)) (e:qcq (.d y) (.uni t es rows)):v= .slice none 0 0∧rows= []:=by
 cases y<;>first|exact e.elim|skip
 have h':RV g w v .nilsl:=h;cases h';exact⟨rfl,e⟩
theorem xlw {v:Value} {y:D} {es:Nat} {rows:List (List D)} (h:RS g w live v (.d y)) (e:qcq (.d y) (.full es rows)):v= .slice none 0 0∧rows= []:=by
 cases y<;>first|exact e.elim|skip
 have h':RV g w v .nilsl:=h;cases h';exact⟨rfl,e⟩
theorem qom: ∀{l r:List ASlot},qaf l r->l.length=r.length∧ ∀(i:Nat) (s f:ASlot),l[i]? =some s->r[i]? =some f->qcq s f
 | [],[],_=>by simp
 |s::l,f::r,h=>by
  obtain⟨h1,h2⟩:=h;obtain⟨k1,k2⟩:=qom h2;refine⟨by simp[k1],λi s' f' hs d=> ?_⟩;cases i with
  |zero=>simp at hs d;subst hs d;exact h1
  |succ i=>exact k2 i s' f' (by simpa using hs) (by simpa using d)
 | [],_::_,h=>h.elim
 | _::_,[],h=>h.elim
theorem qm9: ∀{l r:List ASlot} (i t es:Nat) (rows:List (List D)) (t' e:Nat) (d:List (List D)),l[i]? =some (.own t es rows) ->r[i]? =some (.own t' e d) ->(t,t')∈zk l r
 | [],_,i,t,es,rows,t',e,d,h,_=>by simp at h
 |s::l,[],i,t,es,rows,t',e,d,_,h=>by simp at h
 |s::l,f::r,i,t,es,rows,t',e,d,hs,hf=>by
  cases i with
  |zero=>simp at hs hf;subst hs hf;simp[zk]
  |succ i=>
   have m:=qm9 (l:=l) (r:=r) i t es rows t' e d (by simpa using hs) (by simpa using hf);cases s<;>cases f<;>simp[zk]<;>first|exact m|exact .inr m
theorem qq7: ∀{l r:List ASlot} (i t es:Nat) (rows:List (List D)) (t' e:Nat) (d:List (List D)),l[i]? =some (.uni t es rows) ->r[i]? =some (.uni t' e d) ->(t,t')∈zk l r
 | [],_,i,t,es,rows,t',e,d,h,_=>by simp at h
 |s::l,[],i,t,es,rows,t',e,d,_,h=>by simp at h
 |s::l,f::r,i,t,es,rows,t',e,d,hs,hf=>by
  cases i with
  |zero=>simp at hs hf;subst hs hf;simp[zk]
  |succ i=>
   have m:=qq7 (l:=l) (r:=r) i t es rows t' e d (by simpa using hs) (by simpa using hf);cases s<;>cases f<;>simp[zk]<;>first|exact m|exact .inr m
def wz (os:List AObj):List Nat->List AObj->List (Nat×Nat)
 |id::ι,.row fs::fo=>(match os[id]?with|some (.row cs)=>zk cs fs| _=> [])++wz os ι fo
 | _::ι,_::fo=>wz os ι fo
 | _,_=> []
theorem qq8 {os:List AObj}: ∀{ι:List Nat} {fo:List AObj} (j id:Nat) (cs d:List ASlot) (p:Nat×Nat),ι[j]? =some id->fo[j]? =some (.row d) ->os[id]? =some (.row cs) ->p∈zk cs d->p∈wz os ι fo
 | [],_,j,id,cs,d,p,h,_,_,_=>by simp at h
 | _::_,[],j,id,cs,d,p,_,h,_,_=>by simp at h
 |x::ι,o::fo,j,id,cs,d,p,h1,h2,h3,h4=>by
  cases j with
  |zero=>
   simp at h1 h2;subst h1 h2;simp only[wz,h3];exact jBa _ h4
  |succ j=>
   have e:=qq8 (ι:=ι) (fo:=fo) j id cs d p (by simpa using h1) (by simpa using h2) h3 h4;cases o with
   |row gs=>simp only[wz];exact jBc _ e
   | _=>simpa only[wz]using e
theorem qq9: ∀{l r:List ASlot},(∀s∈r,s.toks= []) ->zk l r= []
 | [],_,_=>by simp[zk]
 |s::l,[],_=>by cases s<;>simp[zk]
 |s::l,f::r,h=>by
  have ih:=qq9 (l:=l) (r:=r) λs hs=>h s (jA9 _ hs);have hf:=h f jA7;cases s<;>cases f<;>first|(simp[ASlot.toks]at hf;done)|(simpa only[zk]using ih)
theorem qon {os:List AObj}: ∀{ι:List Nat} {fo:List AObj},xi fo= [] ->wz os ι fo= []
 | [],[],_=>by simp[wz]
 | [],_::_,_=>by simp[wz]
 | _::_,[],_=>by simp[wz]
 |x::ι,o::fo,h=>by
  simp only[xi,jC2,jCn]at h;have d:=qon (os:=os) (ι:=ι) h.2;cases o with
  |row fs=>
   simp only[wz,d,jAu];split
   ·exact qq9 h.1
   ·rfl
  | _=>simpa only[wz]using d
structure Fits (live:List Nat) (as fa:List ASlot) (ι:List Nat) (k:Nat) (H:List (Nat×Nat)):Prop where
 all:qaf as (fa.map (ASlot.ren ι))
 inK:fa.all (ASlot.inK k)=true
 lv: ∀p∈H,p.1∈live
 nd1:(H.map (·.1)).Nodup
structure ObjFit (os:List AObj) (fo fo':List AObj) (ι:List Nat):Prop where
 nd:ι.Nodup
 len:ι.length=fo'.length
 le:fo.length<=fo'.length
 olds:qef ι os ι fo
 news: ∀id∈ι.drop fo.length,os[id]? =some .none
 inK:fo.all (AObj.inK fo.length)=true
theorem qeu {κ:List Nat} {os:List AObj}: ∀{ι:List Nat} {fo:List AObj},qef κ os ι fo-> ∀(j:Nat) (o:AObj),fo[j]? =some o-> ∃id c,ι[j]? =some id∧os[id]? =some c∧xff c (o.ren κ)
 | _,[],_,j,o,h=>by simp at h
 | [],_::_,h,_,_,_=>h.elim
 |id::ι,o'::fo,h,j,o,hj=>by
  obtain⟨⟨c,h1,h2⟩,h3⟩:=h;cases j with
  |zero=>grind
  |succ j=>simpa using qeu h3 j o (by simpa using hj)
theorem qe6 (hs:List (Nat×Nat)) (ι:List Nat) (g:Ghost) (w:World):RowsKept g w (xw hs ι g) w:=by
 intro b n o hg;refine⟨n,o.bind (vj hs),?_,Nat.le_refl _,λ_ _ _ h=>h⟩;grind[xw]
theorem qap (ι:List Nat) (d:D):(d.ren ι).isCell=d.isCell:=by cases d<;>rfl
theorem qlx (ι:List Nat) (rows:List (List D)):(D.renR ι rows).flatten=rows.flatten.map (D.ren ι):=by
 rw[D.renR_map,List.map_flatten]
theorem RV.down {hs:List (Nat×Nat)} {ι:List Nat} {k:Nat} (hn:ι.Nodup) (hk:k<=ι.length) {v:Value} {x:D} (h:RV g w v x): ∀{y:D},x=y.ren ι->y.inK k=true->RV (xw hs (ι.take k) g) w v y:=by
 have hobj: ∀(b i:Nat),i<k->g b= .obj (ι.getD i 0) ->xw hs (ι.take k) g b= .obj i:=by
  intro b i hi z;have B:(ι.take k)[i]? =some (ι.getD i 0):=by
   grind
  unfold xw;rw[z];simp only[qdn (hn.sublist (List.take_sublist _ _)) B]
 have hr:=qe6 hs (ι.take k) g w;induction h with
 |int k n=>intro y e p;cases y<;>simp[D.ren]at e;obtain⟨rfl,rfl⟩:=e;exact .int _ _
 |bool b=>intro y e p;cases y<;>simp[D.ren]at e;grind[bool]
 |str s=>intro y e p;cases y<;>simp[D.ren]at e;grind[str]
 |nilsl a c es hz=>
  intro y e p;cases y<;>simp only[D.ren,reduceCtorEq]at e
  rename_i E m;simp only[D.sl.injEq]at e;obtain⟨rfl,e⟩:=e;cases m with
  |nil=>grind[nilsl]
  |cons r l=>grind[D.renR]
 |sl b off cap es n o rows f z hnn hcap hes hcl hcell _ ih=>
  intro y e p;cases y<;>simp only[D.ren,reduceCtorEq]at e
  rename_i E m;simp only[D.sl.injEq]at e;obtain⟨rfl,rfl⟩:=e;simp only[D.inK,D.inKR_iff]at p;have hfl:=qlx ι m;have hlen:(D.renR ι m).flatten.length=m.flatten.length:=by grind
  have A:(D.renR ι m).length=m.length:=by rw[D.renR_map,List.length_map]
  obtain⟨n',o',C,h1,h2⟩:=hr b n o z;rw[A];refine .sl b off cap _ n' o' m f C (by omega) (by omega) (λr hrr=> ?_) (λd q=> ?_) (λj d hj=> ?_) (λj d hj=> ?_)
  ·have:=hes (r.map (D.ren ι)) (by rw[D.renR_map];grind);grind
  ·have:=hcl (d.ren ι) (by grind);grind[qap]
  all_goals grind
 |agg vs ds hl hcl _ ih=>
  intro y e p;cases y<;>simp only[D.ren,reduceCtorEq]at e
  rename_i F;simp only[D.agg.injEq,D.renL_map]at e;subst e;simp only[D.inK,D.inKL_iff]at p;refine .agg vs F (by grind) (λd q=> ?_) (λj v d u q=> ?_)
  ·have:=hcl (d.ren ι) (List.mem_map.2 ⟨d,q,rfl⟩);grind[qap]
  grind
 |ptr b off id z=>
  intro y e p;cases y<;>simp only[D.ren,reduceCtorEq]at e
  simp only[D.ptr.injEq]at e;obtain⟨rfl,rfl⟩:=e;simp only[D.inK,decide_eq_true_eq]at p;grind[ptr]
 |refnil a id off es=>
  intro y e p;cases y<;>simp only[D.ren,reduceCtorEq]at e
  simp only[D.ref.injEq]at e;obtain⟨rfl,rfl,rfl,rfl⟩:=e;grind[refnil]
 |ref b off id es len cap z hcap hm hsz=>
  intro y e p;cases y<;>simp only[D.ren,reduceCtorEq]at e
  simp only[D.ref.injEq]at e;obtain⟨rfl,rfl,rfl,rfl⟩:=e;simp only[D.inK,decide_eq_true_eq]at p;grind[ref]
 |nilptr=>intro y e p;cases y<;>simp[D.ren]at e;exact .nilptr
 |func fn vf vc df dc hf hc _ _ i1 i2=>
  intro y e p;cases y<;>simp only[D.ren,reduceCtorEq]at e
  rename_i fn' a b;simp only[D.func.injEq,D.renL_map]at e;obtain⟨rfl,rfl,rfl⟩:=e;simp only[D.inK,Bool.and_eq_true,D.inKL_iff]at p;exact .func _ vf vc a b (by grind) (by grind) (λj v d u q=>i1 j v (d.ren ι) u (by grind) rfl (p.1 d (List.mem_of_getElem? q)))
   (λj v d u q=>i2 j v (d.ren ι) u (by grind) rfl (p.2 d (List.mem_of_getElem? q)))
 |nilfunc=>intro y e p;cases y<;>simp[D.ren]at e;exact .nilfunc
 |iface t v d _ ih=>
  intro y e p;cases y<;>simp only[D.ren,reduceCtorEq]at e
  simp only[D.iface.injEq]at e;obtain⟨rfl,rfl⟩:=e;exact .iface _ v _ (ih rfl (by grind[D.inK]))
 |niliface=>intro y e p;cases y<;>simp[D.ren]at e;exact .niliface
 |map b id z=>
  intro y e p;cases y<;>simp only[D.ren,reduceCtorEq]at e
  simp only[D.map.injEq]at e;subst e;simp only[D.inK,decide_eq_true_eq]at p;grind[map]
 |nilmap=>intro y e p;cases y<;>simp[D.ren]at e;exact .nilmap
 |nils=>intro y e p;cases y<;>simp[D.ren]at e;exact .nils
 |any v u=>intro y e p;cases y<;>simp[D.ren]at e;exact .any v u
theorem RV.up {ι:List Nat} {u g':Ghost} (hr:RowsKept u w g' w) (l: ∀(b j:Nat),u b= .obj j->g' b= .obj (ι.getD j 0)) {v:Value} {y:D} (h:RV u w v y):RV g' w v (y.ren ι):=by
 induction h with
 |int k n=>exact .int _ _
 |bool b=>exact .bool _
 |str s=>exact .str _
 |nilsl a c es hz=>exact .nilsl a c es hz
 |sl b off cap es n o rows f hg hnn hcap hes hcl hcell _ ih=>
  obtain⟨n',o',p,h1,h2⟩:=hr b n o hg;have q:=qlx ι rows;have hlen:(D.renR ι rows).flatten.length=rows.flatten.length:=by grind
  have m:rows.length=(D.renR ι rows).length:=by rw[D.renR_map,List.length_map]
  simp only[D.ren];rw[m];refine .sl b off cap _ n' o' (D.renR ι rows) f p (by omega) (by omega) (λr i=> ?_) (λd e=> ?_) (λj d hj=> ?_) (λj d hj=> ?_)
  ·rw[D.renR_map]at i;grind
  ·rw[q]at e;obtain⟨d0,h0,rfl⟩:=List.mem_map.1 e;grind[qap]
  all_goals grind
 |agg vs ds hl hcl _ ih=>
  simp only[D.ren,D.renL_map];refine .agg vs _ (by grind) (λd e=> ?_) (λj v d z e=> ?_)
  ·obtain⟨d0,h0,rfl⟩:=List.mem_map.1 e;grind[qap]
  grind
 |ptr b off id hg=>exact .ptr b _ _ (l _ _ hg)
 |refnil a id off es=>exact .refnil _ _ _ _
 |ref b off id es len cap hg hcap hm hsz=>exact .ref b _ _ _ _ cap (l _ _ hg) hcap hm hsz
 |nilptr=>exact .nilptr
 |func fn vf vc df dc hf hc _ _ i1 i2=>
  grind[D.ren,D.renL_map,func,Option.map_eq_some_iff]
 |nilfunc=>exact .nilfunc
 |iface t v d _ ih=>exact .iface _ v _ ih
 |niliface=>exact .niliface
 |map b id hg=>exact .map b _ (l _ _ hg)
 |nilmap=>exact .nilmap
 |nils=>exact .nils
 |any v z=>exact .any v z
theorem xbs {ι:List Nat} {k:Nat} (hk:k<=ι.length) {s:ASlot} (h:s.inK k=true):s.ren ι=s.ren1 ι:=by
 cases ι with
 |nil=>
  have e:k=0:=by grind
  subst e;show s=s.ren1 [];have i: ∀d:D,d.inK 0=true->d.ren []=d:=λd i=>D.ren_noPtr [] (qm8 i);cases s with
  |d x=>grind[ASlot.ren1,ASlot.inK]
  |own t es rows=>
   grind[ASlot.ren1,D.renR_noPtr,qe5,ASlot.inK]
  |uni t es rows=>
   grind[ASlot.ren1,D.renR_noPtr,qe5,ASlot.inK]
  |full es rows=>
   grind[ASlot.ren1,D.renR_noPtr,qe5,ASlot.inK]
  |rd cs=>
   grind[ASlot.ren1,D.renL_noPtr,qe4,ASlot.inK]
  |tup l=>rfl
  |bad=>rfl
 |cons x ι=>
  cases s with
  |tup l=>simp[ASlot.inK]at h
  | _=>rfl
end
structure QtX (T:Nat->Prop) (X:Nat->Prop) (g:Ghost) (w:World) (g':Ghost) (w':World) (live live':List Nat):Prop where
 toG:G g w g' w'
 dom:Dom g' w'
 objH: ∀b id,g b= .obj id-> ¬X id->w'.heap[b]? =w.heap[b]?
 objB: ∀b id,g' b= .obj id-> ¬X id->g b= .obj id
 tok: ∀b n t,T t->t∈live'->g b= .row n (some t) ->g' b= .row n (some t)∧w'.heap[b]? =w.heap[b]?
 liv: ∀t,T t->t∈live'->t∈live
 tokU: ∀b t,T t->t∈live'->g b= .uni t->g' b= .uni t∧w'.heap[b]? =w.heap[b]?
section
variable {P:Program} {N:Nat} {T T':Nat→Prop} {g g':Ghost} {w w':World} {live live':List Nat}
theorem QtX.rc {X:Nat->Prop} (h:QtX T X g w g' w' live live') (p:Dom g w) {v:Value} {s:ASlot} (hs:RC g w live v s) (B: ∀t∈s.toks,T t):RC g' w' live' v s:=by
 cases s with
 |d x=>exact h.toG.rv p hs
 |own t es rows=>
  refine⟨h.toG.rv p hs.1,λq=> ?_⟩;have i:T t:=B t (by simp[ASlot.toks]);rcases hs.2 (h.liv t i q)with hf|⟨b,cap,A,e,rfl,z,hh,h1,h2,h3⟩
  ·exact .inl hf
  ·obtain⟨k1,k2⟩:=h.tok b _ t i q z;exact .inr ⟨b,cap,A,e,rfl,k1,by grind,h1,h2,h3⟩
 |uni t es rows=>
  have i:T t:=B t (by simp[ASlot.toks]);exact⟨hs.1,λq=>(hs.2 (h.liv t i q)).mono (λb hb=>h.tokU b t i q hb) (λ_ _=>h.toG.rv p)⟩
 |full es rows=>exact⟨h.toG.rv p hs.1,hs.2⟩
 |rd cells=>
  obtain⟨b,off,n,o,f,rfl,z,hn,hc⟩:=hs;obtain⟨n',o',u,hnn,m⟩:=h.toG.rowsKept p b n o z;refine⟨b,off,n',o',f,rfl,u,by omega,λj d C=> ?_⟩;obtain⟨c1,c2,c3⟩:=hc j d C;have:j<cells.length:=(jAd.1 C).1;exact⟨c1,m _ _ (by omega) c2,h.toG.rv p c3⟩
 |tup l=>exact hs.elim
 |bad=>trivial
theorem QtX.rs {X:Nat->Prop} (h:QtX T X g w g' w' live live') (p:Dom g w) {v:Value} {s:ASlot} (hs:RS g w live v s) (o: ∀t∈s.toks,T t):RS g' w' live' v s:=by
 cases s with
 |tup l=>
  obtain⟨vs,rfl,hl,hc⟩:=hs;refine⟨vs,rfl,hl,λi u s m e=>h.rc p (hc i u s m e) ?_⟩;intro t d;apply o t;cases s with
  |own t' es rows=>
   simp only[ASlot.toks,List.mem_singleton]at d;subst d;simp only[ASlot.toks,List.mem_flatMap];exact⟨_,List.mem_of_getElem? e,by simp[qch]⟩
  |uni t' es rows=>
   simp only[ASlot.toks,List.mem_singleton]at d;subst d;simp only[ASlot.toks,List.mem_flatMap];exact⟨_,List.mem_of_getElem? e,by simp[qch]⟩
  |tup l'=>exact(hc i u _ m e).elim
  | _=>grind[ASlot.toks]
 | _=>exact jq (h.rc p (qax hs (by simp)) o)
theorem qg6: ∀(l:List (Nat×AObj)) (os:List AObj),(jn os l).length=os.length
 | [],_=>rfl
 |(id,o)::l,os=>by rw[jn,qg6 l,jCh]
theorem qa7: ∀(l:List (Nat×AObj)) (os:List AObj) (id:Nat),id∉l.map (·.1) ->(jn os l)[id]? =os[id]?
 | [],_,_,_=>rfl
 |(i,o)::l,os,id,h=>by
  simp only[List.map_cons,jAv,not_or]at h;rw[jn,qa7 l _ id h.2,jBj (λhe=>h.1 he.symm)]
theorem qko: ∀(l:List (Nat×AObj)) (os d:List AObj) (id:Nat),os.length=d.length->id∈l.map (·.1)∨os[id]? =d[id]? ->(jn os l)[id]? =(jn d l)[id]?
 | [],_,_,_,_,h=>by grind[jn]
 |(i,o)::l,os,d,id,hl,h=>by
  rw[jn,jn];refine qko l _ _ id (by simp[hl]) ?_;by_cases hi:i=id
  ·subst hi;right;by_cases e:i<os.length
   ·rw[List.getElem?_set_self e,List.getElem?_set_self (by omega)]
   ·rw[List.getElem?_eq_none (by simp;omega),List.getElem?_eq_none (by simp;omega)]
  ·rcases h with h|h
   ·simp only[List.map_cons,List.mem_cons]at h;rcases h with h|h
    ·exact(hi h.symm).elim
    ·exact .inl h
   ·right;rw[List.getElem?_set_ne hi,List.getElem?_set_ne hi,h]
theorem qus: ∀(ι:List Nat) (l:List AObj) (os:List AObj),ι.Nodup->ι.length=l.length-> ∀(j id:Nat),ι[j]? =some id->id<os.length->(jn os (ι.zip l))[id]? =l[j]?
 | [],_,_,_,_,j,id,h,_=>by simp at h
 |x::ι,[],_,_,hl,_,_,_,_=>by grind
 |x::ι,o::l,os,hn,hl,j,id,hj,hlt=>by
  rw[jCe]at hn;simp only[List.zip_cons_cons,jn];cases j with
  |zero=>
   simp at hj;subst hj;rw[qa7]
   ·grind
   ·intro h;obtain⟨p,hp,he⟩:=jAo.1 h;have:=(List.of_mem_zip hp).1;grind
  |succ j=>
   have:=qus ι l (os.set x o) hn.2 (by simpa using hl) j id (by simpa using hj) (by simpa using hlt);simpa using this
theorem SR.quietX {st:St} {a:Act} {ι:List Nat} {l:List AObj} (hs:SR N T g w st a) (h:QtX T (· ∈ι) g w g' w' st.live live') (Z: ∀t,T t->T' t) (hl: ∀t∈live',T' t) (hn:ι.Nodup) (E:ι.length=l.length)
  (J: ∀id∈ι,id<st.os.length)
  (ho: ∀(j id:Nat) (o:AObj),ι[j]? =some id->l[j]? =some o->o≠ .none->ObjIs g' w' live' id o)
  (hi: ∀b b' id,id∈ι->g' b= .obj id->g' b'= .obj id->b=b')
  (hd: ∀b id,id∈ι->g' b= .obj id-> ∃(j:Nat) (o:AObj),ι[j]? =some id∧l[j]? =some o∧o≠ .none)
  (X: ∀o∈l,∀s∈o.cells,∀t∈s.toks,T' t):
  SR N T' g' w' {st with os:=jn st.os (ι.zip l),live:=live'} a:=by
 have A: ∀id,id∉ι->id∉(ι.zip l).map (·.1):=by
  intro id d h;obtain⟨p,hp,rfl⟩:=List.mem_map.1 h;exact d (List.of_mem_zip hp).1
 have hget: ∀(j id:Nat),ι[j]? =some id->(jn st.os (ι.zip l))[id]? =l[j]? :=λj id Y=>qus ι l st.os hn E j id Y (J id (List.mem_of_getElem? Y));refine⟨h.dom,hs.defers,hs.size,λk v s O=> ?_,λid o q C=> ?_,λb b' id u U=> ?_,λb id u=> ?_,⟨hl,λk s O t X=> ?_,λid o q s z t F=> ?_⟩⟩
 ·obtain⟨h1,h2⟩:=hs.slots k v s O;exact⟨λB=>h.rs hs.dom (h1 B) (hs.wf.fr k s (by grind)),h2⟩
 ·by_cases d:id∈ι
  ·grind[List.mem_iff_getElem?,id]
  ·simp only[qa7 _ _ _ (A id d)]at q;rcases hs.objs id o q C with⟨b,u,G⟩|⟨B,I⟩;case inr=>exact .inr ⟨B,λb u=>I b (h.objB b id u d)⟩
   refine .inl ⟨b,(h.toG.obj b id (hs.dom.lt_obj u) u).1,?_⟩;cases o with
   |none=>grind
   |row cells=>
    obtain⟨c,e,hh,M,hc⟩:=G;refine⟨c,e,by rw[h.objH b id u d];exact hh,M,λi s z=> ?_⟩;obtain⟨v,v1,v2,v3⟩:=hc i s z;exact⟨v,v1,v2,h.rc hs.dom v3 (hs.wf.os id _ q s (List.mem_of_getElem? z))⟩
   |map es clock=>exact MapIs.mono G (h.toG.rowsKept hs.dom) (h.objH b id u d)
   |iter m since seen last=>exact IterIs.mono (R:=λv=>RC g w st.live v m) (R':=λv=>RC g' w' live' v m) G (h.objH b id u d) (λo B=>h.rc hs.dom B (by
     grind[qqt]))
 ·by_cases d:id∈ι
  ·grind
  ·exact hs.inj b b' id (h.objB b id u d) (h.objB b' id U d)
 ·by_cases d:id∈ι
  ·grind
  ·obtain⟨o,q,C⟩:=hs.ids b id (h.objB b id u d);grind[qa7,id]
 ·exact Z t (hs.wf.fr k s O t X)
 ·by_cases d:id∈ι
  ·grind[List.mem_iff_getElem?,id,List.mem_of_getElem?]
  ·simp only[qa7 _ _ _ (A id d)]at q;exact Z t (hs.wf.os id o q s z t F)
end
section
variable {P:Program} {T:Nat→Prop} {g:Ghost} {w:World} {live:List Nat}
set_option maxHeartbeats 2000000 in
theorem xfg {f:FuncId} {as fa:List ASlot} {r:ASlot} {os fo fo':List AObj} {ι:List Nat} {H:List (Nat×Nat)} {R:List Nat} (hH:H=zk as fa++wz os ι fo) (hR:R=r.toks++xi fo') (hc:qf P f fa fo r fo') (hd:Dom g w) (hfit:Fits live as fa ι fo.length H) (I:ObjFit os fo fo' ι)
  (base:Nat) (ce:Fresh T base) (hfew:R.length<=16)
  (bh: ∀(id:Nat) (o:AObj),os[id]? =some o->o≠ .none->ObjIs g w live id o) (hinj: ∀(b b' id:Nat),g b= .obj id->g b'= .obj id->b=b')
  (cc: ∀(b id:Nat),g b= .obj id-> ∃o,os[id]? =some o∧o≠ .none)
  {vs:List Value} (hvl:vs.length=as.length) (hv: ∀(i:Nat) (v:Value) (s:ASlot),vs[i]? =some v->as[i]? =some s->RS g w live v s):
  Calls P f vs.toArray w λe w'=> ∃v g',e= .returned v∧
   QtX T (· ∈ι) g w g' w' live ((live.filter λt=> !(H.map (·.1)).contains t)++((yd R base r).toks++xi (fo'.map (AObj.rt R base))))∧
   RS g' w' ((live.filter λt=> !(H.map (·.1)).contains t)++((yd R base r).toks++xi (fo'.map (AObj.rt R base)))) v ((yd R base r).ren ι)∧
   (∀(j id:Nat) (o:AObj),ι[j]? =some id->((fo'.map (AObj.rt R base)).map (AObj.ren ι))[j]? =some o->o≠ .none->ObjIs g' w' ((live.filter λt=> !(H.map (·.1)).contains t)++((yd R base r).toks++xi (fo'.map (AObj.rt R base)))) id o)∧
   (∀b b' id,id∈ι->g' b= .obj id->g' b'= .obj id->b=b')∧
   (∀b id,id∈ι->g' b= .obj id-> ∃(j:Nat) (o:AObj),ι[j]? =some id∧((fo'.map (AObj.rt R base)).map (AObj.ren ι))[j]? =some o∧o≠ .none):=by
 have bb: ∀{p:Nat×Nat},p∈zk as fa->p∈H:=λh=>hH▸List.mem_append_left _ h;have cg: ∀u∈r.toks,u∈R:=λu h=>hR▸List.mem_append_left _ h;have cx: ∀u∈xi fo',u∈R:=λu h=>hR▸List.mem_append_right _ h;have hI: ∀{t:Nat},t∈(yd R base r).toks++xi (fo'.map (AObj.rt R base)) ->base<=t∧t<base+R.length:=λh=>qm6 hR h;obtain⟨ml,mg⟩:=qom hfit.all;rw[List.length_map]at ml;have bz:fo.length<=ι.length:=by rw[I.len];exact I.le
 let κ:=ι.take fo.length
 have hκn:κ.Nodup:=I.nd.sublist (List.take_sublist _ _);have hκl:κ.length=fo.length:=by grind
 have cj:=qe6 H κ g w;have cf:Dom (xw H κ g) w:=⟨λb z=>by unfold xw;rw[hd.1 b z],hd.2.ghost λb n h=>by unfold xw;rw[h]⟩;have cd: ∀(i:Nat) (s:ASlot),fa[i]? =some s->(fa.map (ASlot.ren ι))[i]? =some (s.ren1 ι):=by
  intro i s h;rw[List.getElem?_map,h,Option.map_some,xbs bz (List.all_eq_true.1 hfit.inK s (List.mem_of_getElem? h))]
 have bo: ∀(i:Nat) (v:Value) (s:ASlot),vs[i]? =some v->fa[i]? =some s->RC (xw H κ g) w (vy fa++xi fo) v s:=by
  intro i v s cp b7;have ct:i<as.length:=by grind
  have bp:=List.getElem?_eq_getElem ct;have M:=mg i _ _ bp (cd i s b7);have O:=hv i v _ cp bp;have bi:s.inK fo.length=true:=List.all_eq_true.1 hfit.inK s (List.mem_of_getElem? b7);have dn: ∀{v:Value} {y:D},RV g w v (y.ren ι) ->y.inK fo.length=true->RV (xw H κ g) w v y:=λC h2=>C.down I.nd bz rfl h2;generalize hA:as[i]=ac at M O bp;cases s with
  |d x=>exact dn (qxc O M) bi
  |own t' es' rows'=>
   have ax: ∀{v:Value},RV g w v (.sl es' (D.renR ι rows')) ->RV (xw H κ g) w v (.sl es' rows'):=λh=>dn (y:= .sl es' rows') h (by simp only[D.inK];exact bi);have Z:(D.renR ι rows').length=rows'.length:=by rw[D.renR_map,List.length_map]
   cases ac with
   |own t es rows=>
    obtain⟨rfl,he⟩:=M;have ae:=bb (qm9 i t es rows t' es rows' bp b7);have ao:=qcr hfit.nd1 ae;refine⟨ax (qcd O.1 ⟨.inl rfl,he⟩),λ_=> ?_⟩;have aq:=qq6 (O.2 (hfit.lv _ ae)) he;unfold q0l at aq⊢;rw[Z]at aq;rcases aq with hf|⟨b,cap,aj,e,C,h2,h3⟩
    ·grind
    ·refine .inr ⟨b,cap,aj,e,C,?_,h3⟩;grind[xw]
   |full es rows=>
    refine⟨ax (qcd O.1 M),λ_=> .inl ?_⟩;have:=qpw O.2 M.2;grind
   |d y=>
    obtain⟨rfl,bj⟩:=xs0 O M;have:rows'= []:=by
     grind
    subst this;exact⟨.nilsl none 0 es' (λ_=>rfl),λ_=> .inl ⟨none,rfl⟩⟩
   | _=>exact M.elim
  |uni t' es' rows'=>
   have Z:(D.renR ι rows').length=rows'.length:=by rw[D.renR_map,List.length_map]
   cases ac with
   |uni t es rows=>
    obtain⟨rfl,rfl⟩:=M;have ae:=bb (qq7 i t es _ t' es rows' bp b7);have ao:=qcr hfit.nd1 ae;refine⟨by rw[<- Z];exact O.1,λ_=> ?_⟩;have aq:=O.2 (hfit.lv _ ae);simp only[D.inKR_iff,ASlot.inK]at bi;unfold UniOk at aq⊢;rw[Z]at aq;rcases aq with⟨ad,C,h2⟩|⟨b,cap,aj,e,C,h2,h3,h4,h5,h6,h7,h8⟩
    ·grind
    ·refine .inr ⟨b,cap,aj,e,C,?_,h3,h4,h5,h6,λr hr=> ?_,λj d F=> ?_⟩
     ·grind[xw]
     ·have:=h7 (r.map (D.ren ι)) (by rw[D.renR_map];grind);grind
     ·obtain⟨c1,u,c2,c3⟩:=h8 j (d.ren ι) (by grind[qlx]);grind[qap,List.mem_of_getElem?]
   |d y=>
    obtain⟨rfl,bj⟩:=xs1 O M;have:rows'= []:=by
     grind
    subst this;exact⟨⟨none,0,rfl⟩,λ_=> .inl ⟨none,rfl,rfl⟩⟩
   | _=>exact M.elim
  |full es' rows'=>
   have ax: ∀{v:Value},RV g w v (.sl es' (D.renR ι rows')) ->RV (xw H κ g) w v (.sl es' rows'):=λh=>dn (y:= .sl es' rows') h (by simp only[D.inK];exact bi);have Z:(D.renR ι rows').length=rows'.length:=by rw[D.renR_map,List.length_map]
   cases ac with
   |full es rows=>
    refine⟨ax (qcd O.1 M),?_⟩;have:=qpw O.2 M.2;grind
   |d y=>
    obtain⟨rfl,bj⟩:=xlw O M;have:rows'= []:=by
     grind
    subst this;exact⟨.nilsl none 0 es' (λ_=>rfl),none,rfl⟩
   | _=>exact M.elim
  |rd cs'=>
   cases ac with
   |rd cs=>
    obtain⟨b,off,n,o,fn,rfl,G,hn,hcc⟩:=xro (live:=live) O M;obtain⟨n',o',bm,cn,ai⟩:=cj b n o G;have cu:(D.renL ι cs').length=cs'.length:=by rw[D.renL_map,List.length_map]
    refine⟨b,off,n',o',fn,rfl,bm,by omega,λj d F=> ?_⟩;obtain⟨c1,c2,c3⟩:=hcc j (d.ren ι) (by grind[D.renL_map]);have ay:j<cs'.length:=(List.getElem?_eq_some_iff.1 F).1;have hnpd:d.inK fo.length=true:=(D.inKL_iff _ cs').1 bi d (List.mem_of_getElem? F);grind[qap]
   | _=>exact M.elim
  | _=>grind[ASlot.inK]
 have ag: ∀(b id j:Nat),g b= .obj id->κ[j]? =some id->xw H κ g b= .obj j:=by
  intro b id j z F;unfold xw;rw[z];simp only[qdn hκn F]
 have be: ∀(b j:Nat),xw H κ g b= .obj j-> ∃id,g b= .obj id∧κ[j]? =some id:=by
  intro b j h;unfold xw at h;cases z:g b with
  |out=>grind
  |row n o=>grind
  |uni t=>grind
  |obj id=>
   rw[z]at h;simp only at h;split at h
   ·rename_i j' hp;cases h;exact⟨id,rfl,qgj hp⟩
   grind
 have hκι: ∀(j id:Nat),κ[j]? =some id->ι[j]? =some id:=by
  grind
 have hικ: ∀(j id:Nat),j<fo.length->ι[j]? =some id->κ[j]? =some id:=by
  grind
 have bg:ObjsOk (xw H κ g) w (vy fa++xi fo) fo:=by
  refine⟨λj o F bv=> ?_,λb b' j h h'=> ?_,λb j h=> ?_⟩
  ·obtain⟨id,c,A,a2,M⟩:=qeu I.olds j o F;have ay:j<fo.length:=(List.getElem?_eq_some_iff.1 F).1;cases o with
   |none=>grind
   |map es' c'=>
    cases c with
    |map es c0=>
     obtain⟨rfl,rfl⟩:es=es'∧c0=c':=M;rcases bh id _ a2 (by simp)with⟨b,z,hr⟩|⟨hv,_⟩
     ·exact .inl ⟨b,ag b id j z (hικ j id ay A),MapIs.mono hr cj rfl⟩
     grind
    | _=>exact M.elim
   |iter m since seen last=>cases c<;>exact M.elim
   |row fs=>
    cases c with
    |none=>exact M.elim
    |map _ _=>exact M.elim
    |iter _ _ _ _=>exact M.elim
    |row cs=>
     rcases bh id _ a2 (by simp)with⟨b,z,ca,e,hh,hl,hcc⟩|⟨hv,a1⟩;case inr=>
      have cw:cs= []:=by grind
      subst cw;have cv:fs= []:=by
       cases fs with
       |nil=>rfl
       |cons f fs=>exact(show qga [] ((f::fs).map (ASlot.ren1 ι))from M).elim
      subst cv;refine .inr ⟨rfl,λb z=> ?_⟩;grind
     have ar:=List.all_eq_true.1 I.inK _ (List.mem_of_getElem? F);simp only[AObj.inK,List.all_eq_true]at ar;have key: ∀(cs fs:List ASlot),qga cs (fs.map (ASlot.ren1 ι)) ->fs.length<=cs.length∧ ∀(i:Nat) (f:ASlot),fs[i]? =some f-> ∃s,cs[i]? =some s∧q09 s (f.ren1 ι):=by
      intro cs fs;induction fs generalizing cs with
      |nil=>simp
      |cons f fs ih=>
       intro h;cases cs with
       |nil=>exact h.elim
       |cons s cs=>
        obtain⟨C,h2⟩:=h;grind
     obtain⟨k1,k2⟩:=key cs fs M;refine .inl ⟨b,ag b id j z (hικ j id ay A),ca,e,hh,by omega,λi f hf=> ?_⟩;obtain⟨s,hs,bw⟩:=k2 i f hf;obtain⟨v,v1,v2,v3⟩:=hcc i s hs;refine⟨v,v1,v2,?_⟩;cases f with
     |d x=>
      have hk:=ar _ (List.mem_of_getElem? hf);exact(qxc (jq v3) bw).down I.nd bz rfl hk
     |bad=>trivial
     |own t' es' rows'=>
      cases s with
      |own t es rows=>
       obtain⟨rfl,he⟩:=bw;have hk:=ar _ (List.mem_of_getElem? hf);have Z:(D.renR ι rows').length=rows'.length:=by rw[D.renR_map,List.length_map]
       have ax: ∀{v:Value},RV g w v (.sl es (D.renR ι rows')) ->RV (xw H κ g) w v (.sl es rows'):=λh=>h.down (y:= .sl es rows') I.nd bz rfl (by simp only[D.inK];exact hk);have ae:(t,t')∈H:=hH▸List.mem_append_right _ (qq8 j id cs fs _ A F a2 (qm9 i t es rows t' es rows' hs hf));have ao:=qcr hfit.nd1 ae;refine⟨ax (qcd v3.1 ⟨.inl rfl,he⟩),λ_=> ?_⟩;have aq:=qq6 (v3.2 (hfit.lv _ ae)) he;unfold q0l at aq⊢;rw[Z]at aq;rcases aq with hf|⟨b,cap,aj,e,C,h2,h3⟩
       ·exact .inl hf
       ·exact .inr ⟨b,cap,aj,e,C,by unfold xw;rw[h2];simp only[ao],h3⟩
      | _=>exact bw.elim
     | _=>cases s<;>exact bw.elim
  ·grind
  ·obtain⟨id,C,h2⟩:=be b j h;have ay:j<fo.length:=by grind
   refine⟨fo[j],List.getElem?_eq_getElem ay,λhn=> ?_⟩;obtain⟨id',c,A,a2,M⟩:=qeu I.olds j _ (List.getElem?_eq_getElem ay);rw[hn]at M;cases c<;>exact M.elim
 refine(hc _ w vs cf (by omega) bo bg).mono ?_;rintro e w' ⟨v,g1,am,rfl,E,bn,X,bd,ab⟩;rw[<- hR]at X;have au: ∀b,g b= .out->xw H κ g b= .out:=λb h=>by grind[xw]
 have ak: ∀b id,g b= .obj id->id∉ι->xw H κ g b= .out:=λb id h A=>by
  grind[qq5,id,xbr,List.mem_of_mem_take,xw]
 have aa: ∀b n,g b= .row n none->xw H κ g b= .row n none:=λb n h=>by grind[xw]
 have J: ∀b n t,g b= .row n (some t) ->xw H κ g b= .row n (vj H t):=λb n t h=>by grind[xw]
 have af: ∀b t,g b= .uni t->vj H t=none->xw H κ g b= .out:=λb t h hp=>by grind[xw]
 have Y: ∀(b id:Nat),g b= .obj id->id∈ι-> ∃j:Nat,κ[j]? =some id:=by
  intro b id z A;obtain⟨j,F⟩:=List.mem_iff_getElem?.1 A;by_cases ay:j<fo.length
  ·grind
  ·exfalso;have M:id∈ι.drop fo.length:=by
    refine List.mem_iff_getElem?.2 ⟨j-fo.length,?_⟩;grind
   obtain⟨o,C,h2⟩:=cc b id z;rw[I.news id M]at C;grind
 let ren:Nat->Option Nat:=λu=>if u∈R then some (base+R.idxOf u)else none
 let G':=qlw H ι w.heap.size ren g g1
 have br: ∀b,b<w.heap.size->g b= .out->G' b= .out:=λb z h=>by simp only[G'];simp_all[qlw,if_pos]
 have a5: ∀b id,b<w.heap.size->g b= .obj id->G' b= .obj id:=λb id z h=>by simp only[G'];simp_all[qlw,if_pos]
 have av: ∀b n,b<w.heap.size->g b= .row n none->G' b= .row n none:=λb n z h=>by simp only[G'];simp_all[qlw,if_pos]
 have a3: ∀b n t,b<w.heap.size->g b= .row n (some t) ->vj H t=none->G' b= .row n (some t):=λb n t z h hp=>by simp only[G'];simp_all[qlw,if_pos]
 have aw: ∀b t,b<w.heap.size->g b= .uni t->vj H t=none->G' b= .uni t:=λb t z h hp=>by simp only[G'];simp_all[qlw,if_pos]
 have cz: ∀b t t',b<w.heap.size->g b= .uni t->vj H t=some t'->G' b=upR ι ren (g1 b):=λb t t' z h hp=>by simp only[G'];simp_all[qlw,if_pos]
 have bt: ∀b,¬b<w.heap.size->G' b=upR ι ren (g1 b):=λb z=>by simp only[G'];unfold qlw;grind
 have bl: ∀b j,g1 b= .obj j->j<ι.length:=by
  intro b j h;obtain⟨o,C,_⟩:=ab.ids b j h;rw[I.len];grind
 have ch: ∀b j,g1 b= .obj j->G' b= .obj (ι.getD j 0):=by
  intro b j h;have F:=bl b j h;have a7:ι[j]? =some (ι.getD j 0):=by grind
  by_cases z:b<w.heap.size
  ·cases G:g b with
   |out=>rw[(E.out b z (au b G)).2]at h;cases h
   |row n o=>
    cases o with
    |none=>rw[(E.rowN b n z (aa b n G)).2]at h;cases h
    |some t=>
     have B:=J b n t G;cases hp:vj H t with
     |none=>rw[hp]at B;rw[(E.rowN b n z B).2]at h;cases h
     |some t'=>
      rw[hp]at B;obtain⟨n',o',q1,_⟩:=E.rowS b n t' z B;grind
   |uni t=>
    cases hp:vj H t with
    |none=>rw[(E.out b z (af b t G hp)).2]at h;cases h
    |some t'=>grind[upR]
   |obj id=>
    by_cases A:id∈ι
    ·obtain⟨j',bk⟩:=Y b id G A;have:=(E.obj b j' z (ag b id j' G bk)).1;grind
    ·rw[(E.out b z (ak b id G A)).2]at h;cases h
  grind[upR]
 have az: ∀(r:Role) (id:Nat),upR ι ren r= .obj id-> ∃j:Nat,ι[j]? =some id∧r= .obj j:=by
  intro r id h;cases r with
  |out=>cases h
  |row n o=>cases h
  |uni u=>grind[upR]
  |obj j=>
   simp only[upR]at h;grind
 have ah: ∀(b id:Nat),G' b= .obj id->id∈ι-> ∃j:Nat,ι[j]? =some id∧g1 b= .obj j:=by
  intro b id h A;by_cases z:b<w.heap.size
  ·cases hgb:g b with
   |out=>grind
   |row n o=>
    cases o with
    |none=>grind
    |some t=>
     simp only[G']at h;unfold qlw at h;rw[if_pos z,hgb]at h;simp only at h;split at h
     ·split at h<;>cases h
     grind
   |uni t=>
    cases hp:vj H t with
    |none=>grind
    |some t'=>
     grind
   |obj id2=>
    have:=a5 b id2 z hgb;rw[h]at this;cases this;obtain⟨j,F⟩:=Y b id hgb A;exact⟨j,hκι j id F,(E.obj b j z (ag b id j hgb F)).1⟩
  grind
 have U:RowsKept g1 w' G' w':=by
  intro b n o h;simp only[G'];unfold qlw;by_cases z:b<w.heap.size
  ·rw[if_pos z];cases G:g b with
   |out=>rw[(E.out b z (au b G)).2]at h;cases h
   |uni t=>
    cases hp:vj H t with
    |none=>rw[(E.out b z (af b t G hp)).2]at h;cases h
    |some t'=>
     simp only[hp,h];exact⟨_,_,rfl,Nat.le_refl _,λ_ _ _ h=>h⟩
   |obj id=>
    exfalso;by_cases A:id∈ι
    ·obtain⟨j,F⟩:=Y b id G A;have:=(E.obj b j z (ag b id j G F)).1;grind
    ·rw[(E.out b z (ak b id G A)).2]at h;cases h
   |row m om=>
    cases om with
    |none=>
     rw[(E.rowN b m z (aa b m G)).2]at h;grind
    |some t=>
     cases hp:vj H t with
     |none=>
      have B:=J b m t G;rw[hp]at B;rw[(E.rowN b m z B).2]at h;grind
     |some t'=>
      grind
  ·rw[if_neg z,h];exact⟨_,_,rfl,Nat.le_refl _,λ_ _ _ h=>h⟩
 have bf: ∀b n u,g1 b= .row n (some u) ->G' b= .row n (ren u):=by
  intro b n u h;simp only[G'];unfold qlw;by_cases z:b<w.heap.size
  ·rw[if_pos z];cases G:g b with
   |out=>rw[(E.out b z (au b G)).2]at h;cases h
   |uni t=>
    cases hp:vj H t with
    |none=>rw[(E.out b z (af b t G hp)).2]at h;cases h
    |some t'=>simp only[hp,h];rfl
   |obj id=>
    exfalso;by_cases A:id∈ι
    ·grind
    ·rw[(E.out b z (ak b id G A)).2]at h;cases h
   |row m om=>
    cases om with
    |none=>rw[(E.rowN b m z (aa b m G)).2]at h;cases h
    |some t=>
     cases hp:vj H t with
     |none=>
      have B:=J b m t G;rw[hp]at B;rw[(E.rowN b m z B).2]at h;cases h
     |some t'=>grind
  ·rw[if_neg z,h];rfl
 have a0: ∀b u u',g1 b= .uni u->ren u=some u'->G' b= .uni u':=by
  intro b u u' h hu;by_cases z:b<w.heap.size
  ·cases G:g b with
   |out=>rw[(E.out b z (au b G)).2]at h;cases h
   |uni t=>
    cases hp:vj H t with
    |none=>rw[(E.out b z (af b t G hp)).2]at h;cases h
    |some t'=>grind[upR]
   |obj id=>
    exfalso;by_cases A:id∈ι
    ·obtain⟨j,F⟩:=Y b id G A;have:=(E.obj b j z (ag b id j G F)).1;rw[h]at this;cases this
    ·rw[(E.out b z (ak b id G A)).2]at h;cases h
   |row m om=>
    exfalso;cases om with
    |none=>rw[(E.rowN b m z (aa b m G)).2]at h;cases h
    |some t=>
     have B:=J b m t G;cases hp:vj H t with
     |none=>
      rw[hp]at B;rw[(E.rowN b m z B).2]at h;cases h
     |some t'=>
      rw[hp]at B;obtain⟨n',o',q1,_⟩:=E.rowS b m t' z B;grind
  ·rw[bt b z,h];simp only[upR,hu]
 have a8: ∀{u:Value} {x:D},RV g1 w' u x->RV G' w' u (x.ren ι):=λh=>h.up U ch;have b9: ∀{u:Value} {s:ASlot},RC g1 w' am u s->(∀t∈s.toks,t∈R) ->RC G' w' ((live.filter λt=> !(H.map (·.1)).contains t)++((yd R base r).toks++xi (fo'.map (AObj.rt R base)))) u ((renT R base s).ren1 ι):=by
  intro u s h ht;have ax: ∀{es:Nat} {rows:List (List D)},RV g1 w' u (.sl es rows) ->RV G' w' u (.sl es (D.renR ι rows)):=λh=>a8 h;have Z: ∀rows:List (List D),(D.renR ι rows).length=rows.length:=λrows=>by rw[D.renR_map,List.length_map]
  cases s with
  |d x=>exact a8 h
  |own t es rows=>
   have an:t∈R:=ht t (by simp[ASlot.toks]);refine⟨ax h.1,λ_=> ?_⟩;unfold q0l;rw[Z];rcases h.2 (X t an)with hf|⟨b,cap,aj,e,C,h2,h3⟩
   ·exact .inl hf
   ·refine .inr ⟨b,cap,aj,e,C,?_,h3⟩;rw[bf b _ t h2];simp only[ren,if_pos an]
  |uni t es rows=>
   have an:t∈R:=ht t (by simp[ASlot.toks]);refine⟨by simp only[Z];exact h.1,λ_=> ?_⟩;rcases h.2 (X t an)with⟨ad,C,h2⟩|⟨b,cap,aj,e,C,h2,h3,h4,h5,h6,h7,h8⟩
   ·refine .inl ⟨ad,C,by rw[h2];rfl⟩
   ·refine .inr ⟨b,cap,aj,e,by rw[Z];exact C,?_,h3,by rw[Z];exact h4,h5,h6,λq hq=> ?_,λj d F=> ?_⟩
    ·exact a0 b t _ h2 (by simp only[ren,if_pos an])
    ·rw[D.renR_map]at hq;obtain⟨q0,cr,rfl⟩:=List.mem_map.1 hq;simpa using h7 q0 cr
    ·rw[qlx,List.getElem?_map,Option.map_eq_some_iff]at F;obtain⟨d0,b0,rfl⟩:=F;obtain⟨c1,u',c2,c3⟩:=h8 j d0 b0;exact⟨by rw[qap];exact c1,u',c2,a8 c3⟩
  |full es rows=>exact⟨ax h.1,by simp only[Z];exact h.2⟩
  |rd cells=>
   obtain⟨b,off,n,o,fn,rfl,G,hn,hcc⟩:=h;obtain⟨n',o',bm,cn,ai⟩:=U b n o G;have cu:(D.renL ι cells).length=cells.length:=by rw[D.renL_map,List.length_map]
   refine⟨b,off,n',o',fn,rfl,bm,by omega,λj d F=> ?_⟩;rw[D.renL_map,List.getElem?_map,Option.map_eq_some_iff]at F;obtain⟨d0,b0,rfl⟩:=F;obtain⟨c1,c2,c3⟩:=hcc j d0 b0;have ay:j<cells.length:=(List.getElem?_eq_some_iff.1 b0).1;exact⟨by rw[qap];exact c1,ai _ _ (by omega) c2,a8 c3⟩
  |tup l=>exact h.elim
  |bad=>trivial
 have cq:QtX T (· ∈ι) g w G' w' live ((live.filter λt=> !(H.map (·.1)).contains t)++((yd R base r).toks++xi (fo'.map (AObj.rt R base)))):=by
  refine⟨⟨E.os,E.tape,E.output,E.size,λb z h=>⟨(E.out b z (au b h)).1,br b z h⟩,λb n z h=>⟨(E.rowN b n z (aa b n h)).1,av b n z h⟩,λb n t z h=> ?_,λb id z h=>⟨a5 b id z h,?_⟩⟩,⟨λb z=> ?_,hd.2.same λb n z h=>⟨(E.rowN b n z (aa b n h)).1,av b n z h⟩⟩,λb id h A=> ?_,λb id h A=> ?_,λb n t ba a9 h=> ?_,λt ba a9=> ?_,λb t ba a9 h=> ?_⟩
  ·cases hp:vj H t with
   |none=>
    have B:=J b n t h;rw[hp]at B;obtain⟨C,_⟩:=E.rowN b n z B;exact⟨n,some t,a3 b n t z h hp,Nat.le_refl _,λi u _ hu=>by rw[kj C];exact hu⟩
   |some t'=>
    have B:=J b n t h;rw[hp]at B;obtain⟨n',o',q1,q2,q3⟩:=E.rowS b n t' z B;refine⟨n',o'.bind ren,?_,q2,q3⟩;simp only[G'];unfold qlw;rw[if_pos z,h];simp only[hp,q1]
  ·by_cases A:id∈ι
   ·obtain⟨j,F⟩:=Y b id h A;exact(E.obj b j z (ag b id j h F)).2
   ·exact Nat.le_of_eq (jl (E.out b z (ak b id h A)).1).symm
  ·simp only[G'];unfold qlw;have:=E.size;rw[if_neg (by omega),bn.1 b z];rfl
  ·exact(E.out b (hd.lt_obj h) (ak b id h A)).1
  ·by_cases z:b<w.heap.size
   ·cases hgb:g b with
    |out=>rw[br b z hgb]at h;cases h
    |row n o=>
     cases o with
     |none=>rw[av b n z hgb]at h;cases h
     |some t=>
      simp only[G']at h;unfold qlw at h;rw[if_pos z,hgb]at h;simp only at h;split at h
      ·split at h<;>cases h
      omega
    |uni t=>
     cases hp:vj H t with
     |none=>rw[aw b t z hgb hp]at h;cases h
     |some t'=>
      rw[cz b t t' z hgb hp]at h;obtain⟨j,a7,_⟩:=az _ _ h;exact(A (List.mem_of_getElem? a7)).elim
    |obj id2=>
     have:=a5 b id2 z hgb;rw[h]at this;exact this.symm
   ·rw[bt b z]at h;obtain⟨j,a7,_⟩:=az _ _ h;exact(A (List.mem_of_getElem? a7)).elim
  ·have z:=hd.lt_row h;have a6:t∉H.map (·.1):=by
    rcases List.mem_append.1 a9 with C|C
    ·simpa using (List.mem_filter.1 C).2
    ·exfalso;have:=hI C;exact ce t ba ⟨by omega,by omega⟩
   have hp:vj H t=none:=by
    cases hp:vj H t with
    |none=>rfl
    |some t'=>exact(a6 (List.mem_map.2 ⟨(t,t'),qm7 hp,rfl⟩)).elim
   have B:=J b n t h;rw[hp]at B;exact⟨a3 b n t z h hp,(E.rowN b n z B).1⟩
  ·rcases List.mem_append.1 a9 with C|C
   ·exact(List.mem_filter.1 C).1
   ·exfalso;have:=hI C;exact ce t ba ⟨by omega,by omega⟩
  ·have z:=hd.lt_uni h;have a6:t∉H.map (·.1):=by
    rcases List.mem_append.1 a9 with C|C
    ·simpa using (List.mem_filter.1 C).2
    ·exfalso;have:=hI C;exact ce t ba ⟨by omega,by omega⟩
   have hp:vj H t=none:=by
    cases hp:vj H t with
    |none=>rfl
    |some t'=>exact(a6 (List.mem_map.2 ⟨(t,t'),qm7 hp,rfl⟩)).elim
   exact⟨aw b t z h hp,(E.out b z (af b t h hp)).1⟩
 refine⟨v,G',rfl,cq,?_,λj id o F co bv=> ?_,λb b' id A h h'=> ?_,λb id A h=> ?_⟩
 ·have hnoι:ι= [] -> ∀b j,g1 b≠ .obj j:=λh0 b j h=>by have:=bl b j h;rw[h0]at this;simp at this
  have bq: ∀{u:Value} {s:ASlot},RC g1 w' am u s->(∀l,s≠ .tup l) ->(∀t∈s.toks,t∈R) ->RC G' w' ((live.filter λt=> !(H.map (·.1)).contains t)++((yd R base r).toks++xi (fo'.map (AObj.rt R base)))) u ((renT R base s).ren ι):=by
   intro u s h a6 ht;cases hι:ι with
   |cons x l=>
    have:=b9 h ht;rw[hι]at this;cases s<;>first|exact this|exact(a6 _ rfl).elim
   |nil=>
    show RC G' w' _ u (renT R base s);have a1:=hnoι hι;cases s with
    |d x=>exact RV.mono_noObj h U a1
    |own t es rows=>
     have an:t∈R:=ht t (by simp[ASlot.toks]);refine⟨RV.mono_noObj h.1 U a1,λ_=> ?_⟩;rcases h.2 (X t an)with hf|⟨b,cap,aj,e,C,h2,h3⟩
     ·exact .inl hf
     ·refine .inr ⟨b,cap,aj,e,C,?_,h3⟩;rw[bf b _ t h2];simp only[ren,if_pos an]
    |uni t es rows=>
     have an:t∈R:=ht t (by simp[ASlot.toks]);refine⟨h.1,λ_=> ?_⟩;rcases h.2 (X t an)with C|⟨b,cap,aj,e,C,h2,h3,h4,h5,h6,h7,h8⟩
     ·exact .inl C
     ·refine .inr ⟨b,cap,aj,e,C,?_,h3,h4,h5,h6,h7,λj d F=> ?_⟩
      ·exact a0 b t _ h2 (by simp only[ren,if_pos an])
      ·obtain⟨c1,u',c2,c3⟩:=h8 j d F;exact⟨c1,u',c2,RV.mono_noObj c3 U a1⟩
    |full es rows=>exact⟨RV.mono_noObj h.1 U a1,h.2⟩
    |rd cells=>
     obtain⟨b,off,n,o,fn,rfl,G,hn,hcc⟩:=h;obtain⟨n',o',bm,cn,ai⟩:=U b n o G;refine⟨b,off,n',o',fn,rfl,bm,by omega,λj d F=> ?_⟩;obtain⟨c1,c2,c3⟩:=hcc j d F;have ay:j<cells.length:=(List.getElem?_eq_some_iff.1 F).1;exact⟨c1,ai _ _ (by omega) c2,RV.mono_noObj c3 U a1⟩
    |tup l=>exact(a6 l rfl).elim
    |bad=>trivial
  cases r with
  |tup l=>
   obtain⟨us,rfl,hl,a2⟩:=bd;have htk: ∀(i:Nat) (u:Value) (s0:ASlot),us[i]? =some u->l[i]? =some s0->(∀l',s0≠ .tup l')∧ ∀t∈s0.toks,t∈(ASlot.tup l).toks:=by
    intro i u s0 hu al;have b8:=a2 i u s0 hu al;cases s0 with
    |own t' es rows=>
     refine⟨by simp,λt a4=> ?_⟩;simp only[ASlot.toks,List.mem_singleton]at a4;subst a4;simp only[ASlot.toks,List.mem_flatMap];exact⟨_,List.mem_of_getElem? al,by simp[qch]⟩
    |uni t' es rows=>
     refine⟨by simp,λt a4=> ?_⟩;simp only[ASlot.toks,List.mem_singleton]at a4;subst a4;simp only[ASlot.toks,List.mem_flatMap];exact⟨_,List.mem_of_getElem? al,by simp[qch]⟩
    |tup l'=>exact b8.elim
    | _=>exact⟨by simp,λt a4=>by simp[ASlot.toks]at a4⟩
   cases hι:ι with
   |nil=>
    refine⟨us,rfl,by simp[hl],λi u s hu bc=> ?_⟩;simp only[List.getElem?_map,Option.map_eq_some_iff]at bc;obtain⟨s0,al,rfl⟩:=bc;obtain⟨q1,q2⟩:=htk i u s0 hu al;have:=bq (a2 i u s0 hu al) q1 λt ht=>cg t (q2 t ht);rw[hι]at this;exact this
   |cons x κ'=>
    refine⟨us,rfl,by simp[hl],λi u s hu bc=> ?_⟩;simp only[List.getElem?_map,Option.map_eq_some_iff]at bc;obtain⟨s1,⟨s0,al,rfl⟩,rfl⟩:=bc;obtain⟨q1,q2⟩:=htk i u s0 hu al;have:=b9 (a2 i u s0 hu al) λt ht=>cg t (q2 t ht);rw[hι]at this;exact this
  | _=>exact jq (bq (qax bd (by simp)) (by simp) (λt h=>cg t h))
 ·rw[List.getElem?_map,List.getElem?_map,Option.map_eq_some_iff]at co;obtain⟨o1,ck,rfl⟩:=co;rw[Option.map_eq_some_iff]at ck;obtain⟨o0,cm,rfl⟩:=ck;have cb:o0≠ .none:=λh=>bv (by rw[h];rfl);rcases ab.objs j o0 cm cb with⟨b,z,bu⟩|⟨rfl,a1⟩;case inr=>
   refine .inr ⟨rfl,λb z=> ?_⟩;obtain⟨j',bk,C⟩:=ah b id z (List.mem_of_getElem? F);have:=qdn I.nd F;rw[qdn I.nd bk]at this;cases this;exact a1 b C
  have a7:ι.getD j 0=id:=by rw[List.getD_eq_getElem?_getD,F];rfl
  refine .inl ⟨b,by rw[ch b j z,a7],?_⟩;cases o0 with
  |none=>exact bu.elim
  |map es clock=>exact MapIs.mono bu U rfl
  |iter m since seen last=>
   refine IterIs.mono (R:=λv=>RC g1 w' am v m) (R':=λv=>RC G' w' ((live.filter λt=> !(H.map (·.1)).contains t)++((yd R base r).toks++xi (fo'.map (AObj.rt R base)))) v (m.ren1 ι)) bu rfl (λo hv=> ?_);cases m with
   |d x=>exact a8 hv
   |bad=>trivial
   |own t es rows=>cases hv.1
   |uni t es rows=>obtain⟨⟨_,_,h⟩,_⟩:=hv;cases h
   |full es rows=>cases hv.1
   |rd cs=>obtain⟨_,_,_,_,_,h,_⟩:=hv;cases h
   |tup l=>exact hv.elim
  |row cells=>
   obtain⟨c,e,hh,hl,hcc⟩:=bu;refine⟨c,e,hh,by rw[List.length_map,List.length_map];exact hl,λi s hs=> ?_⟩;rw[List.getElem?_map,List.getElem?_map,Option.map_eq_some_iff]at hs;obtain⟨s1,ci,rfl⟩:=hs;rw[Option.map_eq_some_iff]at ci;obtain⟨s0,al,rfl⟩:=ci;obtain⟨u,u1,u2,u3⟩:=hcc i s0 al;refine⟨u,u1,u2,?_⟩;have hn: ∀l,s0≠ .tup l:=by rintro l rfl;exact u3.elim
   rw[xsy hn];exact b9 u3 λt ht=>cx t (qq4 (List.mem_of_getElem? cm) (List.mem_of_getElem? al) ht)
 ·obtain⟨j,F,C⟩:=ah b id h A;obtain⟨j',bk,cy⟩:=ah b' id h' A;have:=qdn I.nd F;rw[qdn I.nd bk]at this;cases this;exact ab.inj b b' j C cy
 ·obtain⟨j,F,C⟩:=ah b id h A;obtain⟨o,ho,bv⟩:=ab.ids b j C;refine⟨j,(o.rt R base).ren ι,F,by rw[List.getElem?_map,List.getElem?_map,ho];rfl,λhn=>bv ?_⟩;cases o with
  |none=>rfl
  | _=>simp[AObj.ren,AObj.rt]at hn
end
section
variable {P:Program} {N tb:Nat} {T:Nat→Prop} {g:Ghost} {w:World} {st:St} {a:Act} {oper:Oper}
def Next (T:Nat->Prop) (tb:Nat):Nat->Prop:=λt=>T t∨(tb<=t∧t<tb+16)
def Does (P:Program) (N:Nat) (T:Nat->Prop) (tb:Nat) (g:Ghost) (w:World) (st:St) (a:Act) (oper:Oper) (out:Out):Prop:=
 ∃n v w' g',(execOp a.eval oper).run P w= .ok n w'∧(n= .value v∨(n= .skip∧v=undef))∧G g w g' w'∧
  SR N (Next T tb) g' w' {jf st out.wr with live:=qp st.live out} a∧RS g' w' (qp st.live out) v out.v∧ ∀t∈out.v.toks,Next T tb t
theorem xk {live:List Nat} {o:Out} (h1:o.cons= []) (h2:o.iss= []):qp live o=live:=by
 simp[qp,h1,h2]
theorem xd {out:Out} (hs:SR N T g w st a) (h:y9 P g w st a oper out.v) (hw:out.wr=none) (hc:out.cons= []) (hi:out.iss= []) (ht: ∀t∈out.v.toks,T t):Does P N T tb g w st a oper out:=by
 obtain⟨v,h1,h2⟩:=h;refine⟨_,v,w,g,h1,.inl rfl,G.refl g w,?_,?_,λt d=> .inl (ht t d)⟩
 ·rw[hw,xk hc hi];exact hs.quiet (Qt.refl _ hs.dom _) (λ_ h=> .inl h) (λt d=> .inl (hs.wf.live t d))
 grind[xk]
theorem qie {out:Out} (hs:SR N T g w st a) (h: ∃v w' g',(execOp a.eval oper).run P w= .ok (.value v) w'∧Qt T g w g' w' st.live (qp st.live out)∧RS g' w' (qp st.live out) v out.v)
  (hw:out.wr=none) (hi: ∀t∈out.iss,Next T tb t) (ht: ∀t∈out.v.toks,Next T tb t):Does P N T tb g w st a oper out:=by
 obtain⟨v,w',g',h1,e,h3⟩:=h;refine⟨_,v,w',g',h1,.inl rfl,e.toG,?_,h3,ht⟩;rw[hw];exact hs.quiet e (λ_ h=> .inl h) (λt d=>by
  rcases jr.1 d with⟨h,_⟩|h
  ·exact .inl (hs.wf.live t h)
  grind)
theorem qfx {out:Out} (h: ∃v w' g',(execOp a.eval oper).run P w= .ok (.value v) w'∧G g w g' w'∧SR N T g' w' (jf st out.wr) a∧RS g' w' st.live v out.v)
  (hc:out.cons= []) (hi:out.iss= []) (ht: ∀t∈out.v.toks,T t):Does P N T tb g w st a oper out:=by
 obtain⟨v,w',g',h1,h2,e,h4⟩:=h;have hl:(jf st out.wr).live=st.live:=by unfold jf;grind
 refine⟨_,v,w',g',h1,.inl rfl,h2,?_,?_,λt d=> .inl (ht t d)⟩
 ·rw[xk hc hi,<- hl];exact e.quiet (live':=(jf st out.wr).live) (Qt.refl _ e.dom _) (λ_ h=> .inl h) (λt d=> .inl (e.wf.live t d))
 grind[xk]
theorem q1a (hs:SR N T g w st a) (n:Option Nat) (s:ASlot): ∀t∈(wy n st.os s).v.toks,T t:=by
 intro t d;unfold wy at d;split at d
 ·rename_i id off;split at d
  ·simp only at d;by_cases h:off<(ql st.os id).length
   ·have hg:(ql st.os id).getD off .bad=(ql st.os id)[off]:=by grind
    rw[hg]at d;have e:(ql st.os id)[off]∈ql st.os id:=List.getElem_mem h;unfold ql at h e d;cases ho:st.os[id]?with
    |none=>grind
    |some o=>
     simp only[ho]at e d;exact hs.wf.os id o ho _ e t d
   grind[ql,id,List.getD,ASlot.toks]
  grind[ASlot.toks]
 all_goals grind[ASlot.toks,Out.bad]
theorem q1b {l:List ASlot} {i t:Nat} (h:t∈(l.getD i .bad).toks) (hn: ∀x∈l,∀m,x≠ .tup m):t∈(ASlot.tup l).toks:=by
 by_cases hi:i<l.length
 ·have hg:l.getD i .bad=l[i]:=by grind
  rw[hg]at h;simp only[ASlot.toks,List.mem_flatMap];refine⟨l[i],List.getElem_mem hi,?_⟩;cases hx:l[i]<;>rw[hx]at h<;>simp[ASlot.toks]at h
  all_goals grind[qch,List.getElem_mem]
 grind[List.getD,ASlot.toks]
theorem qoo {mx:Bool} {x y:Operand} {x' y':Opd} {ts:Array TypeId} (h:(oper.op= .call {callee:= .builtin .min,args:= #[x,y],argTypes:=ts}∧mx=false)∨(oper.op= .call {callee:= .builtin .max,args:= #[x,y],argTypes:=ts}∧mx=true))
  (hx:qr x=some x') (hy:qr y=some y') (hs:SR N T g w st a) (e:(sem tb (.minmax mx x' y') st).ob):y9 P g w st a oper (sem tb (.minmax mx x' y') st).v:=by
 simp only[sem]at e⊢;cases h1:x'.get st.fr with
 |d p=>
  cases p with
  |int k1 n=>
   cases h2:y'.get st.fr with
   |d q=>
    cases q with
    |int k2 m=>
     simp only[h1,h2]at e⊢;obtain⟨o1,o2,rfl⟩:=e;have l:=xh hs hx o1;have i:=xh hs hy o2;rw[h1]at l;rw[h2]at i;have t:=vn (ws l);have o:=vn (ws i);rcases h with⟨h,rfl⟩|⟨h,rfl⟩
     ·exact⟨_,by simp[execOp,h,resolve,invoke,builtin,Builtin.min_,Builtin.min2,t,o],.int _ _⟩
     ·exact⟨_,by simp[execOp,h,resolve,invoke,builtin,Builtin.max_,Builtin.max2,t,o],.int _ _⟩
    | _=>grind[Out.bad]
   | _=>grind[Out.bad]
  | _=>grind[Out.bad]
 | _=>grind[Out.bad]
theorem qke {t o et:TypeId} {x k v:Operand} {x' k' v':Opd} {kd:KD} (ho:oper.op= .mapUpdate t x k v∨oper.op= .insert t x k v) (ht:P.underlying t=some (.map o et)) (hx:qr x=some x') (hk:qr k=some k') (hv:qr v=some v')
  (m:kdOf P o=some kd) (hs:SR N T g w st a) (l:(sem tb (.mapUpdate kd x' k' v') st).ob):Does P N T tb g w st a oper (sem tb (.mapUpdate kd x' k' v') st):=by
 obtain⟨w',q1,q2,e⟩:=qt1 ho ht hx hk hv m hs l;have d:(sem tb (.mapUpdate kd x' k' v') st).cons= []∧(sem tb (.mapUpdate kd x' k' v') st).iss= []∧(sem tb (.mapUpdate kd x' k' v') st).v= .bad:=by
  simp only[sem,zn];split<;>exact⟨rfl,rfl,rfl⟩
 have hl:(jf st (sem tb (.mapUpdate kd x' k' v') st).wr).live=st.live:=by unfold jf;grind
 refine⟨_,undef,w',g,q1,.inr ⟨rfl,rfl⟩,q2,?_,?_,?_⟩
 ·rw[xk d.1 d.2.1,<- hl];exact e.quiet (live':=(jf st (sem tb (.mapUpdate kd x' k' v') st).wr).live) (Qt.refl _ e.dom _) (λ_ h=> .inl h) (λt i=> .inl (e.wf.live t i))
 ·rw[d.2.2];trivial
 grind[ASlot.toks]
set_option linter.unusedVariables false in
theorem xfh {I oo:Bool} {back:Nat} {o:SOp} (hc:xe P I oo back oper.op=some o) (hs:SR N T g w st a) (ai:Fresh T tb) (q:(sem tb o st).ob) (hlv: ∀t∈(sem tb o st).cons,t∈st.live):Does P N T tb g w st a oper (sem tb o st):=by
 generalize A:oper.op=op at hc;cases op with
 |move x=>
  simp only[xe,Option.map_eq_some_iff]at hc;obtain⟨y,M,rfl⟩:=hc;exact xd hs (q0q (.inl A) M hs q) rfl rfl rfl (qfv hs M (by first|exact q|exact q.1))
 |assign x=>
  simp only[xe,Option.map_eq_some_iff]at hc;obtain⟨y,M,rfl⟩:=hc;exact xd hs (q0q (.inr A) M hs q) rfl rfl rfl (qfv hs M (by first|exact q|exact q.1))
 |pick c x y=>
  simp only[xe]at hc;grind[xbf,xd,sem,Out.bad,ASlot.toks]
 |box t x=>
  simp only[xe,Option.map_eq_some_iff]at hc;obtain⟨y,M,rfl⟩:=hc;exact qfx (xlu A M hs q) rfl rfl (by simp[sem,ASlot.toks])
 |alloc t=>
  simp only[xe,Option.map_eq_some_iff]at hc;obtain⟨z,hz,rfl⟩:=hc;exact qfx (xbl A hz hs q) rfl rfl (by simp[sem,ASlot.toks])
 |build t parts=>
  simp only[xe]at hc;split at hc
  ·rename_i z ps fs C B E;split at hc
   ·rename_i F;cases hc;exact xd hs (qqs A C B (.inl ⟨fs,E,F⟩) hs q) rfl rfl rfl (by simp[sem,ASlot.toks])
   grind
  ·rename_i z ps n e C B E;split at hc
   ·rename_i F;cases hc;exact xd hs (qqs A C B (.inr ⟨n,e,E,F⟩) hs q) rfl rfl rfl (by simp[sem,ASlot.toks])
   grind
  grind
 |buildSlice t len parts=>
  simp only[xe]at hc;split at hc
  ·rename_i e ht;split at hc
   ·rename_i z ps i C B E;split at hc
    ·rename_i F;cases hc;refine qie hs (qqx A ht E C B F.1 F.2.1 F.2.2 hs ai q) ?_ ?_ ?_<;>simp only[sem]<;>first|rfl|grind[ASlot.toks,Next]
    grind
   grind
  grind
 |load t x=>
  simp only[xe]at hc;split at hc
  ·rename_i n y C B;cases hc;refine xd hs (qun A C B hs q) ?_ ?_ ?_ (q1a hs n _)<;>simp only[sem,wy]<;>split<;>first|rfl|grind
  grind
 |store t x v=>
  simp only[xe]at hc;split at hc
  ·rename_i n y z C B E;cases hc;obtain⟨w',q1,q2,q3⟩:=xbm A C B E hs q;have J:(sem tb (.store n y z) st).cons= []∧(sem tb (.store n y z) st).iss= []∧(sem tb (.store n y z) st).v= .bad:=by
    simp only[sem,yu];split
    ·split
     ·simp
     ·split<;>exact⟨rfl,rfl,rfl⟩
    ·exact⟨rfl,rfl,rfl⟩
   have hl:(jf st (sem tb (.store n y z) st).wr).live=st.live:=by unfold jf;grind
   refine⟨_,undef,w',g,q1,.inr ⟨rfl,rfl⟩,q2,?_,?_,?_⟩
   ·rw[xk J.1 J.2.1,<- hl];exact q3.quiet (live':=(jf st (sem tb (.store n y z) st).wr).live) (Qt.refl _ q3.dom _) (λ_ h=> .inl h) (λt ak=> .inl (q3.wf.live t ak))
   ·rw[J.2.2];trivial
   grind[ASlot.toks]
  grind
 |nilCheck x=>
  simp only[xe,Option.map_eq_some_iff]at hc;obtain⟨y,M,rfl⟩:=hc;exact xd hs (qtx A M hs q) rfl rfl rfl (qfv hs M (by first|exact q|exact q.1))
 |binOp b t x y u=>
  have hbin: ∀s1 s2:ASlot,(binS b s1 s2).wr=none∧(binS b s1 s2).cons= []∧(binS b s1 s2).iss= []∧(binS b s1 s2).v.toks= []:=by
   intro s1 s2;unfold binS;split
   ·split<;>(refine⟨rfl,rfl,rfl,?_⟩)<;>first|rfl|(unfold qlg;split<;>rfl)
   ·refine⟨rfl,rfl,rfl,?_⟩;unfold qof;split<;>rfl
   ·exact⟨rfl,rfl,rfl,rfl⟩
  simp only[xe]at hc;split at hc
  ·grind[xd,q0r,sem]
  ·grind[xd,q0r,sem]
  ·grind[xd,xe2,sem,Out.bad,ASlot.toks]
  ·grind[sem,Out.bad]
  ·grind[xd,qqr,sem,Out.bad,ASlot.toks]
  ·grind[xd,qqr,sem,Out.bad,ASlot.toks]
  all_goals grind[xd,q5m,sem,Out.bad,ASlot.toks]
 |unOp b t x=>
  simp only[xe]at hc;split at hc
  ·grind[xd,xe3,sem,Out.bad,ASlot.toks]
  all_goals grind[xd,xe4,sem,Out.bad,ASlot.toks]
 |convert s t x=>
  simp only[xe]at hc;split at hc
  ·grind[xd,xbg,sem,Out.bad,ASlot.toks]
  ·grind[xd,q5l,sem,Out.bad,ASlot.toks]
  ·grind[xd,xe5,sem,Out.bad,ASlot.toks]
  ·rename_i e y C B E;split at hc
   ·rename_i F;cases hc;cases hr:(y.get st.fr).rows with
    |some p=>
     grind[xd,xe8,sem,Out.bad,ASlot.toks]
    |none=>
     cases hr2:qcc 1 st.os (y.get st.fr)with
     |some r=>grind[xd,qw6,sem,Out.bad,ASlot.toks]
     |none=>grind[sem,Out.bad]
   grind
  ·rename_i e y C B E;split at hc
   ·rename_i F;cases hc;grind[qie,xlt,sem,Out.bad,ASlot.toks]
   grind
  grind
 |makeFunc fn first captured=>
  simp only[xe]at hc;split at hc
  ·rename_i f' c' C B;cases hc;exact xd hs (q0x A C B hs q) rfl rfl rfl (by simp[sem,ASlot.toks])
  grind
 |makeSlice t l c=>
  simp only[xe]at hc;split at hc
  ·rename_i e ht;split at hc
   ·rename_i z i l' c' C B E F;split at hc
    ·rename_i O;unfold mkSl at hc;cases oo with
     |true=>
      simp only[if_true,Option.some.injEq]at hc;subst hc;refine qfx (qqz A ht B C O.1 O.2 E F hs q) ?_ ?_ ?_<;>simp only[sem]<;>split<;>first|rfl|simp[Out.bad,ASlot.toks]
     |false=>
      simp only[Bool.false_eq_true,if_false,Option.some.injEq]at hc;subst hc;refine qie hs (qtz A ht B C O.1 O.2 E F hs ai q) ?_ ?_ ?_<;>simp only[sem]<;>split<;>first|rfl|(simp[Out.bad,ASlot.toks];done)|grind[ASlot.toks,Next]
    grind
   grind
  grind
 |slice t x lo hi mx=>
  simp only[xe]at hc;split at hc
  ·rename_i e x' ag ae aj C B E F O;simp only[Option.map_eq_some_iff]at hc;obtain⟨i,ae,rfl⟩:=hc;refine xd hs (q5r A C ae B E F O hs q) ?_ ?_ ?_ ?_<;>simp only[sem,qeh]<;>split<;>first|rfl|grind|(split<;>first|rfl|simp[Out.bad,ASlot.toks])
  ·rename_i x' ag ae C B E F O;cases hc;have ao:mx=none:=by
    cases mx with
    |none=>rfl
    |some m=>simp_all
   subst ao;refine xd hs (q00 A C B E F hs q) ?_ ?_ ?_ ?_<;>simp only[sem,qa4]<;>split<;>first|rfl|simp[Out.bad,ASlot.toks]
  ·rename_i n e x' ag ae aj C B E F O;split at hc
   ·rename_i i h7;split at hc
    ·cases hc;refine xd hs (q0y A C h7 B E F O hs q) ?_ ?_ ?_ ?_<;>simp only[sem,yb]<;>split<;>first|rfl|simp[Out.bad,ASlot.toks]
    grind
   grind
  grind
 |fieldAddr t x f=>
  simp only[xe]at hc;split at hc;all_goals grind[xd,q5o,sem,Out.bad,ASlot.toks]
 |field t x f=>
  simp only[xe]at hc;split at hc
  ·rename_i fs y C B;split at hc
   ·rename_i fl E;simp only[Option.map_eq_some_iff]at hc;obtain⟨n,hn,rfl⟩:=hc;grind[xd,q5p,sem,Out.bad,ASlot.toks]
   grind
  grind
 |indexAddr t x i=>
  simp only[xe]at hc;split at hc
  ·grind[xd,q5q,sem,Out.bad,ASlot.toks]
  all_goals grind[xd,q0u,sem,Out.bad,ASlot.toks]
 |index t x i=>
  simp only[xe]at hc;split at hc
  ·grind[xd,q0v,sem,Out.bad,ASlot.toks]
  all_goals grind[xd,q0w,sem,Out.bad,ASlot.toks]
 |extract x i=>
  simp only[xe,Option.map_eq_some_iff]at hc;obtain⟨y,M,rfl⟩:=hc;refine xd hs (qw5 A M hs q) ?_ ?_ ?_ ?_
  ·simp only[sem];split<;>rfl
  ·simp only[sem];split<;>rfl
  ·simp only[sem];split<;>rfl
  ·simp only[sem]at q⊢;split
   ·rename_i l hl;simp only[hl]at q;intro t ht;have ah:=xh hs M q.1;rw[hl]at ah;obtain⟨vs,_,R,hc⟩:=ah;have hmem:=q1b ht (λs am m hm=>by
     obtain⟨j,hj⟩:=List.getElem?_of_mem am;have aq:j<vs.length:=by grind
     have:=hc j _ s (List.getElem?_eq_getElem aq) hj;rw[hm]at this;exact this.elim)
    grind[qfv]
   ·simp[Out.bad,ASlot.toks]
 |call c=>
  obtain⟨callee,args,argTypes⟩:=c;cases callee with
  |value f=>
   simp only[xe]at hc;split at hc
   ·cases I<;>cases hc<;>exact q.elim
   ·cases hc
  |invoke r m=>simp[xe]at hc
  |builtin b=>
  by_cases R:b= .len
  ·subst R;simp only[xe]at hc;split at hc
   ·rename_i x t ha Y;have X:args= #[x]:=by grind
    have U:argTypes= #[t]:=by grind
    subst X U;split at hc
    ·grind[xd,xbh,sem,Out.bad,ASlot.toks]
    ·grind[xd,xe6,sem,Out.bad,ASlot.toks]
    ·rename_i y kt U C B;cases hc;refine xd hs (xbo A B C hs q) ?_ ?_ ?_ ?_<;>simp only[sem,qbu]<;>split<;>first|rfl|simp[Out.bad,ASlot.toks]
    grind
   grind
  by_cases af:b= .append
  ·subst af;simp only[xe]at hc;split at hc
   ·rename_i s x t u ha Y;have X:args= #[s,x]:=by grind
    have U:argTypes= #[t,u]:=by grind
    subst X U;have ar: ∀(es bytes:Nat) (s' x':Opd),(∃v w' g',(execOp a.eval oper).run P w= .ok (.value v) w'∧Qt T g w g' w' st.live (qp st.live (sem tb (.append I es bytes s' x') st))∧
      RS g' w' (qp st.live (sem tb (.append I es bytes s' x') st)) v (sem tb (.append I es bytes s' x') st).v) ->Does P N T tb g w st a oper (sem tb (.append I es bytes s' x') st):=by
     intro es bytes s' x' h;have hU: ∀(r:Src) (s:ASlot),(qa3 es bytes tb r s).wr=none∧(∀t∈(qa3 es bytes tb r s).iss,Next T tb t)∧ ∀t∈(qa3 es bytes tb r s).v.toks,Next T tb t:=by
      intro r s;unfold qa3;grind[ASlot.toks,Next,Out.bad]
     cases I with
     |true=>
      grind[qie,sem,km,Out.bad,ASlot.toks]
     |false=>refine qie hs h ?_ ?_ ?_<;>simp only[sem,km]<;>split<;>first|rfl|grind[Out.bad,ASlot.toks]|grind[Out.bad,ASlot.toks,Next]
    have both: ∀{e:TypeId} {i:TypeInfo} {z:List D} {s' x':Opd},P.underlying t=some (.slice e) ->P.info? e=some i->jm P e=some z->i.size=z.length->0<i.bytes->
      ((∃f,P.underlying u=some (.slice f))∨P.underlying u=some .string) ->qr s=some s'->qr x=some x'->(sem tb (.append I i.size i.bytes s' x') st).ob->
      (∀t∈(sem tb (.append I i.size i.bytes s' x') st).cons,t∈st.live) ->
      ∃v w' g',(execOp a.eval oper).run P w= .ok (.value v) w'∧Qt T g w g' w' st.live (qp st.live (sem tb (.append I i.size i.bytes s' x') st))∧
      RS g' w' (qp st.live (sem tb (.append I i.size i.bytes s' x') st)) v (sem tb (.append I i.size i.bytes s' x') st).v:=by
     intro e i z s' x' q1 q2 q3 q4 q5 q6 q7 q8 q9 q10;cases I with
     |true=>grind[qqw]
     |false=>grind[qqv]
    have all: ∀{e:TypeId} {i:TypeInfo} {z:List D} {s' x':Opd},P.underlying t=some (.slice e) ->P.info? e=some i->jm P e=some z->i.size=z.length->0<i.bytes->
      ((∃f,P.underlying u=some (.slice f))∨P.underlying u=some .string) ->qr s=some s'->qr x=some x'->some (qb2 I oo back i.size i.bytes s' x')=some o->Does P N T tb g w st a oper (sem tb o st):=by
     intro e i z s' x' q1 q2 q3 q4 q5 q6 q7 q8 hc;unfold qb2 at hc;cases oo with
     |true=>
      simp only[if_true,Option.some.injEq]at hc;cases I with
      |true=>
       simp only[if_true]at hc;subst hc;exact q.elim
      |false=>
      simp only[Bool.false_eq_true,if_false]at hc;subst hc;refine qfx (qoj A q1 q2 q3 q4 q5 q6 q7 q8 hs q) ?_ ?_ ?_<;>simp only[sem,jt]<;>split<;>first|rfl|simp[Out.bad,ASlot.toks]
     |false=>
      grind
    grind
   grind
  by_cases ad:b= .copy
  ·subst ad;simp only[xe]at hc;split at hc
   ·rename_i s x t u ha Y;have X:args= #[s,x]:=by grind
    have U:argTypes= #[t,u]:=by grind
    subst X U;have ar: ∀(es:Nat) (s' x':Opd),(∃v w' g',(execOp a.eval oper).run P w= .ok (.value v) w'∧G g w g' w'∧SR N T g' w' (jf st (sem tb (.copy es s' x') st).wr) a∧RS g' w' st.live v (sem tb (.copy es s' x') st).v) ->
      Does P N T tb g w st a oper (sem tb (.copy es s' x') st):=by
     intro es s' x' h;refine qfx h ?_ ?_ ?_<;>simp only[sem,yw]<;>split<;>first|rfl|simp[Out.bad,ASlot.toks]
    split at hc
    ·rename_i e f a' b' C B E F;simp only[Option.map_eq_some_iff]at hc;obtain⟨i,O,rfl⟩:=hc;grind[q03]
    all_goals grind[q03]
   grind
  by_cases ac:b= .delete
  ·subst ac;simp only[xe]at hc;split at hc
   ·rename_i x k t ts ha Y;have X:args= #[x,k]:=by grind
    subst X;have al:argTypes[0]? =some t:=by rw[<- Array.getElem?_toList,Y];rfl
    split at hc
    ·rename_i kt U a' b' C B E;simp only[Option.map_eq_some_iff]at hc;obtain⟨kd,Z,rfl⟩:=hc;refine qfx (q5v A al C B E Z hs q) ?_ ?_ ?_<;>simp only[sem,vw]<;>split<;>first|rfl|simp[Out.bad,ASlot.toks]
    grind
   grind
  by_cases aa:b= .min
  ·subst aa;simp only[xe]at hc;split at hc
   ·rename_i x y ha;have X:args= #[x,y]:=by grind
    subst X;split at hc
    ·rename_i x' y' C B;cases hc;refine xd hs (qoo (mx:=false) (.inl ⟨A,rfl⟩) C B hs q) ?_ ?_ ?_ ?_<;>simp only[sem]<;>split<;>first|rfl|simp[Out.bad,ASlot.toks]
    grind
   grind
  by_cases ab:b= .max
  ·subst ab;simp only[xe]at hc;split at hc
   ·rename_i x y ha;have X:args= #[x,y]:=by grind
    subst X;split at hc
    ·rename_i x' y' C B;cases hc;refine xd hs (qoo (mx:=true) (.inr ⟨A,rfl⟩) C B hs q) ?_ ?_ ?_ ?_<;>simp only[sem]<;>split<;>first|rfl|simp[Out.bad,ASlot.toks]
    grind
   grind
  ·cases b<;>first|(exact(R rfl).elim)|grind|(exact(ad rfl).elim)|(exact(ac rfl).elim)|(exact(aa rfl).elim)|(exact(ab rfl).elim)|(simp[xe]at hc)
 |makeMap t r=>
  cases r with
  |none=>
   simp only[xe,Option.some.injEq]at hc;subst hc;exact qfx (q05 A hs q) rfl rfl (by simp[sem,ASlot.toks])
  |some y=>simp[xe]at hc
 |lookup t x k c=>
  simp only[xe]at hc;split at hc
  ·rename_i kt U a' b' C B E;split at hc
   ·rename_i kd z F O;cases hc;obtain⟨zv,_,hzc⟩:=quq O;refine xd hs (q04 A C B E F O hs q) ?_ ?_ ?_ ?_<;>simp only[sem,vh]<;>split<;>first|rfl|grind[xbn,qqk,qw2]|simp[Out.bad,ASlot.toks]
   grind
  grind
 |mapUpdate t x k v=>
  simp only[xe]at hc;split at hc
  ·rename_i kt U a' b' c' C B E F;simp only[Option.map_eq_some_iff]at hc;obtain⟨kd,Z,rfl⟩:=hc;grind[qke]
  grind
 |insert t x k v=>
  simp only[xe]at hc;split at hc
  ·rename_i kt U a' b' c' C B E F;simp only[Option.map_eq_some_iff]at hc;obtain⟨kd,Z,rfl⟩:=hc;exact qke (.inr A) C B E F Z hs q
  grind
 |range t x=>
  simp only[xe]at hc;split at hc
  ·rename_i kt U a' C B;cases hc;refine qfx (q5w A C B hs q) ?_ ?_ ?_<;>simp only[sem,ko]<;>split<;>first|rfl|simp[Out.bad,ASlot.toks]
  grind
 |next x s=>
  cases s with
  |false=>
   simp only[xe,Option.map_eq_some_iff]at hc;obtain⟨y,_,rfl⟩:=hc;grind[sem,Out.bad]
  |true=>simp[xe]at hc
 |entry x=>
  simp only[xe,Option.map_eq_some_iff]at hc;obtain⟨y,_,rfl⟩:=hc;grind[sem,Out.bad]
 |sliceToArrayPointer t x=>
  simp only[xe]at hc;grind[xd,xbj,sem,Out.bad,ASlot.toks]
 |makeInterface t x=>
  simp only[xe]at hc;grind[xd,qw9,sem,Out.bad,ASlot.toks]
 |typeAssert x u t c=>
  simp only[xe]at hc;split at hc
  ·cases hc
  ·rename_i d a' an C B;cases hc;refine xd hs (qxa A C (λms h=>an ms h) B hs q) ?_ ?_ ?_ ?_<;>simp only[sem,qa5]<;>split<;>first|rfl|grind[ASlot.toks,qch]|simp[Out.bad,ASlot.toks]
  grind
 | _=>simp[xe]at hc
end
end Go.Abs
