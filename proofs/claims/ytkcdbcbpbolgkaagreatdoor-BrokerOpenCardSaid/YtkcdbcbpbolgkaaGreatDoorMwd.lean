/- Texts Af, Ag, Ah, Ai. -/
import Derived.Test.YtkcdbcbpbolgkaaGreatDoorMwc
import Derived.Laws.StructEq
import Derived.Laws.BytesString
set_option linter.unusedSimpArgs false
set_option linter.unusedVariables false
set_option linter.defProp false
set_option maxRecDepth 100000
noncomputable section
namespace Go.Abs
section
variable {P:Program} {N tb:Nat} {T:Nat→Prop} {g:Ghost} {w:World} {st:St} {a:Act} {oper:Oper}
theorem qa6 {t:TypeId} {u v:Value} {b:Bool} (h:(Op.equalIn (9999+1) t u v).run P w= .ok b w):(Op.equal t u v).run P w= .ok b w:=h
theorem qln {t e:TypeId} (ht:P.underlying t=some (.pointer e)) (x:Option Addr) (w:World):(Op.equal t (.pointer x) (.pointer none)).run P w= .ok x.isNone w:=
 qa6 (by rw[Op.equalIn];cases x<;>simp[run_underlying ht])
theorem qty {t:TypeId} {p r:Array TypeId} {v:Bool} (ht:P.underlying t=some (.func p r v)) (fn:Fn) (f c:Array Value) (w:World):(Op.equal t (.func fn f c) .nilFunc).run P w= .ok false w:=
 qa6 (by rw[Op.equalIn];simp[run_underlying ht])
theorem qm4 {t:TypeId} {p r:Array TypeId} {v:Bool} (ht:P.underlying t=some (.func p r v)) (w:World):(Op.equal t .nilFunc .nilFunc).run P w= .ok true w:=
 qa6 (by rw[Op.equalIn];simp[run_underlying ht])
theorem qqo {t:TypeId} {m:Array (String×TypeId)} (ht:P.underlying t=some (.interface m)) (s:TypeId) (u:Value) (w:World):(Op.equal t (.iface s u) .nilIface).run P w= .ok false w:=
 qa6 (by rw[Op.equalIn];simp[run_underlying ht])
theorem qlo {t:TypeId} {m:Array (String×TypeId)} (ht:P.underlying t=some (.interface m)) (w:World):(Op.equal t .nilIface .nilIface).run P w= .ok true w:=
 qa6 (by rw[Op.equalIn];simp[run_underlying ht])
theorem qlp {t k e:TypeId} (ht:P.underlying t=some (.map k e)) (x:Option Nat) (w:World):(Op.equal t (.map x) (.map none)).run P w= .ok x.isNone w:=
 qa6 (by rw[Op.equalIn];cases x<;>simp[run_underlying ht])
theorem q5m {neg:Bool} {t u:TypeId} {x y:Operand} {x':Opd} {d:TypeDesc} {k:NK} (ho:oper.op= .binOp (if neg then .neq else .eql) t x y u) (i:qr x=some x')
  (m:P.underlying t=some d) (o:q5k d y=some k) (hs:SR N T g w st a)
  (l:(sem tb (.eqnil neg k x') st).ob):y9 P g w st a oper (sem tb (.eqnil neg k x') st).v:=by
 simp only[sem]at l⊢;cases hn:qpf k (x'.get st.fr)with
 |none=>grind[Out.bad]
 |some b=>
  simp only[hn]at l⊢;have e:=xh hs i l;have q:(do eqGuard (if neg then .neq else .eql) t x y (a.eval x) (a.eval y);binOp (if neg then .neq else .eql) t (a.eval x) (a.eval y):Sem Value).run P w= .ok (.bool (if neg then !b else b)) w->
    y9 P g w st a oper (.d (.bool (if neg then !b else b))):=λh=>⟨_,by simp only[execOp,ho];rw[Sem.run_bind,h];simp,.bool _⟩
  apply q;unfold q5k at o;split at o<;>simp at o<;>subst o
  ·cases i:x'.get st.fr with
   |d p=>
    rw[i]at hn e;cases p<;>simp[qpf]at hn<;>subst hn<;>generalize a.eval x=v at e<;>cases ws e<;>cases neg<;>
     simp[Act.eval,eqGuard_at_pointer,binOp,qln m]
   |rd cs=>
    rw[i]at hn e;simp[qpf]at hn;subst hn;obtain⟨b,off,vs,hv,_⟩:=xsv e;rw[hv];cases neg<;>simp[Act.eval,eqGuard_at_pointer,binOp,qln m]
   | _=>grind[qpf]
  ·cases i:x'.get st.fr with
   |d p=>
    rw[i]at hn e;cases p<;>simp[qpf]at hn<;>subst hn<;>generalize a.eval x=v at e<;>cases ws e<;>cases neg<;>
     simp[Act.eval,eqGuard_at_func,eqGuard_at_nilFunc,binOp,qty m,qm4 m]
   | _=>grind[qpf]
  ·cases i:x'.get st.fr with
   |d p=>
    rw[i]at hn e;cases p<;>simp[qpf]at hn<;>subst hn<;>generalize a.eval x=v at e<;>cases ws e<;>cases neg<;>
     simp[Act.eval,eqGuard_at_iface,eqGuard_nil_constR,binOp,qqo m,qlo m]
   | _=>grind[qpf]
  ·cases i:x'.get st.fr with
   |d p=>
    rw[i]at hn e;cases p<;>simp[qpf]at hn<;>subst hn<;>generalize a.eval x=v at e<;>cases ws e<;>cases neg<;>
     simp[Act.eval,eqGuard_at_map,binOp,qlp m]
   | _=>grind[qpf]
theorem qw4: ∀{d m:List CK} {as bs:List D},eqOk (d++m) as bs=true-> ∃e i b1 b2,as=e++i∧bs=b1++b2∧e.length=d.length∧b1.length=d.length∧eqOk d e b1=true∧eqOk m i b2=true
 | [],m,as,bs,h=>⟨[],as,[],bs,rfl,rfl,rfl,rfl,rfl,h⟩
 |k::d,m,as,bs,h=>by
  have st: ∀{x y:D} {l r:List D},eqOk (d++m) l r=true->(∀l r,eqOk d l r=true->eqOk (k::d) (x::l) (y::r)=true) -> ∃e i b1 b2,x::l=e++i∧y::r=b1++b2∧e.length=(k::d).length∧b1.length=(k::d).length∧eqOk (k::d) e b1=true∧eqOk m i b2=true:=by
   intro x y l r h1 h2;obtain⟨e,i,b1,b2,rfl,rfl,e3,e4,e5,e6⟩:=qw4 h1;exact⟨x::e,i,y::b1,b2,rfl,rfl,by simp[e3],by simp[e4],h2 _ _ e5,e6⟩
  cases k<;>cases as<;>cases bs<;>try(simp[eqOk]at h;done)
  all_goals
   rename_i x l y r;cases x<;>cases y<;>first|(simp[eqOk]at h;done)|skip
  ·simp only[List.cons_append,eqOk,jAf]at h;exact st h.2 λl r o=>by simp only[eqOk,jAf];exact⟨h.1,o⟩
  ·exact st h λl r o=>o
  ·exact st h λl r o=>o
theorem qqp: ∀{e d b1 b2:List D},e.length=b1.length->zq (e++d) (b1++b2)=(zq e b1&&zq d b2)
 | [],d,[],b2,_=>by simp[zq]
 |x::e,d,y::b1,b2,h=>by
  rw[List.cons_append,List.cons_append,zq,zq,qqp (by simpa using h),jFk]
def xsw (P:Program) (g:Ghost) (w:World) (n:Nat) (sub:List Field->Option (List CK)):Prop:=
 ∀(t:TypeId) (e:Array Field) (ks:List CK) (us vs:Array Value) (as bs:List D),P.underlying t=some (.struct e) ->P.stoodInHeld t=false->sub e.toList=some ks->eqOk ks as bs=true->
  (∀(j:Nat) (d:D),as[j]? =some d-> ∃v,us[j]? =some v∧RV g w v d) ->(∀(j:Nat) (d:D),bs[j]? =some d-> ∃v,vs[j]? =some v∧RV g w v d) ->
  (Op.equalIn (n+1) t (.agg us) (.agg vs)).run P w= .ok (zq as bs) w
theorem qej {sub:List Field->Option (List CK)} (xs X:Array Value) (n:Nat) (M:xsw P g w n sub): ∀(fs:List Field) (i:Nat) (ks:List CK) (as bs:List D),j0 P sub i fs=some ks->eqOk ks as bs=true->
  (∀(j:Nat) (d:D),as[j]? =some d-> ∃v,xs[i+j]? =some v∧RV g w v d) ->(∀(j:Nat) (d:D),bs[j]? =some d-> ∃v,X[i+j]? =some v∧RV g w v d) ->
  (Op.eqFields (n+1) xs X fs).run P w= .ok (zq as bs) w
 | [],i,ks,as,bs,hk,t,hx,hy=>by
  simp[j0]at hk;subst hk;cases as<;>cases bs<;>simp[eqOk]at t
  rfl
 |f::fs,i,ks,as,bs,hk,t,hx,hy=>by
  simp only[j0]at hk;split at hk
  ·rename_i ac;obtain⟨aa,O⟩:=ac;have agg: ∀d,P.underlying f.type=some d->(P.info? f.type).map (·.size)=some 1->(∀fs,d≠ .struct fs) ->(∀k e,d≠ .array k e) ->aggN P f.type=some none:=by
    intro d h1 h2;obtain⟨ti,af,ag⟩:=Option.map_eq_some_iff.1 h2;grind[aggN]
   have step: ∀(u v:Value) (r:Bool) (q p:List D) (Z:List CK),aggN P f.type=some none->xs[i]? =some u->X[i]? =some v->(Op.equalIn (n+1) f.type u v).run P w= .ok r w->
     j0 P sub (i+1) fs=some Z->eqOk Z q p=true->
     (∀(j:Nat) (d:D),q[j]? =some d-> ∃v,xs[i+1+j]? =some v∧RV g w v d) ->(∀(j:Nat) (d:D),p[j]? =some d-> ∃v,X[i+1+j]? =some v∧RV g w v d) ->
     (Op.eqFields (n+1) xs X (f::fs)).run P w= .ok (r&&zq q p) w:=by
    intro u v r q p Z R B hv hr ai aj ae ad;have ih:=qej xs X n M fs (i+1) Z q p ai aj ae ad;rw[<- aa]at B hv;simp only[Op.eqFields,O,ne_eq,not_false_eq_true,if_true,Sem.run_bind,qad R xs f.offset u B,qad R X f.offset v hv,Result.andThen_ok,hr];cases r<;>simp[ih]
   have o: ∀{l:List D} {d:D} {C:Array Value},(∀(j:Nat) (e:D),(d::l)[j]? =some e-> ∃v,C[i+j]? =some v∧RV g w v e) ->(∀(j:Nat) (e:D),l[j]? =some e-> ∃v,C[i+1+j]? =some v∧RV g w v e):=by
    intro l d C h j e hj;have:=h (j+1) e (by grind);grind
   split at hk
   ·rename_i k B z;obtain⟨r,hr,rfl⟩:=Option.map_eq_some_iff.1 hk;match as,bs,t with
    | .int k1 m1::q,.int k2 m2::p,t=>
     simp only[eqOk,Bool.and_eq_true,beq_iff_eq]at t;obtain⟨rfl,t⟩:=t;obtain⟨u,J,I⟩:=hx 0 _ rfl;obtain⟨v,G,F⟩:=hy 0 _ rfl;have e1:=vn I;have e2:=vn F;subst e1 e2;exact step _ _ (m1==m2) q p r (agg _ B z (by simp) (by simp)) J G (run_equalIn_int w n f.type k1 k m1 m2 B) hr t (o hx) (o hy)
   ·rename_i B z;obtain⟨r,hr,rfl⟩:=Option.map_eq_some_iff.1 hk;match as,bs,t with
    | .bool m1::q,.bool m2::p,t=>
     simp only[eqOk]at t;obtain⟨u,J,I⟩:=hx 0 _ rfl;obtain⟨v,G,F⟩:=hy 0 _ rfl;have e1:=qas I;have e2:=qas F;subst e1 e2;exact step _ _ (m1==m2) q p r (agg _ B z (by simp) (by simp)) J G (run_equalIn_bool' w n f.type m1 m2 B) hr t (o hx) (o hy)
   ·rename_i B z;obtain⟨r,hr,rfl⟩:=Option.map_eq_some_iff.1 hk;match as,bs,t with
    | .str m1::q,.str m2::p,t=>
     simp only[eqOk]at t;obtain⟨u,J,I⟩:=hx 0 _ rfl;obtain⟨v,G,F⟩:=hy 0 _ rfl;have e1:=qc5 I;have e2:=qc5 F;subst e1 e2;have:=run_equalIn_string w n f.type ⟨m1.toArray⟩ ⟨m2.toArray⟩ B;rw[qql,qql]at this;exact step _ _ (m1==m2) q p r (agg _ B z (by simp) (by simp)) J G this hr t (o hx) (o hy)
   ·rename_i gs m B z;split at hk
    ·rename_i ab;split at hk
     ·rename_i ka kb h1 h2;split at hk
      ·rename_i A;cases hk;obtain⟨a1,a2,b1,b2,rfl,rfl,E,Y,o1,o2⟩:=qw4 t;obtain⟨ti,af,ag⟩:=Option.map_eq_some_iff.1 z;have R:aggN P f.type=some (some m):=by grind[aggN]
       have U: ∀{E Y:List D} {C:Array Value},E.length=m->(∀(j:Nat) (e:D),(E++Y)[j]? =some e-> ∃v,C[i+j]? =some v∧RV g w v e) ->(∀(j:Nat) (e:D),E[j]? =some e-> ∃v,(C.extract i (i+m))[j]? =some v∧RV g w v e):=by
        intro E Y C hl h j e hj;have ah:=(List.getElem?_eq_some_iff.1 hj).1;obtain⟨v,hv,hr⟩:=h j e (by rw[List.getElem?_append_left ah];exact hj);refine⟨v,?_,hr⟩;rw[Array.getElem?_extract];have:=(Array.getElem?_eq_some_iff.1 hv).1;rw[if_pos (by omega)];exact hv
       have back: ∀{E Y:List D} {C:Array Value},E.length=m->(∀(j:Nat) (e:D),(E++Y)[j]? =some e-> ∃v,C[i+j]? =some v∧RV g w v e) ->(∀(j:Nat) (e:D),Y[j]? =some e-> ∃v,C[i+m+j]? =some v∧RV g w v e):=by
        intro E Y C hl h j e hj;have:=h (m+j) e (by rw[List.getElem?_append_right (by omega),hl,Nat.add_sub_cancel_left];exact hj);rwa [<- Nat.add_assoc]at this
       have ih:=qej xs X n M fs (i+m) kb a2 b2 h2 o2 (back (E.trans A) hx) (back (Y.trans A) hy);have hq:=M f.type gs ka _ _ a1 b1 B ab h1 o1 (U (E.trans A) hx) (U (Y.trans A) hy);rw[<- aa]at hq;simp only[Op.eqFields,O,ne_eq,not_false_eq_true,if_true,Sem.run_bind,qcn R xs,qcn R X,Result.andThen_ok,hq];rw[qqp (by omega)];cases zq a1 b1<;>simp[ih]
      ·cases hk
     ·cases hk
    ·cases hk
   ·cases hk
  ·cases hk
theorem xbi {n:Nat}:xsw P g w n (λ_=>none):=λ_ _ _ _ _ _ _ _ _ h=>by cases h
theorem q5n {n:Nat}:xsw P g w (n+1) (j0 P (λ_=>none) 0):=by
 intro t h ks us vs as bs e hh hk he hx hy;have d:P.fieldsOf t=h:=by simp[Program.fieldsOf,e]
 rw[run_equalIn_agg w (n+1) t _ _ (by rw[d];exact e) hh,d];exact qej us vs n xbi h.toList 0 ks as bs hk he (by simpa using hx) (by simpa using hy)
theorem qog (xs e:Array Value) (n:Nat) (h:List Field) (ks:List CK) (as bs:List D) (hk:qji P h=some ks) (he:eqOk ks as bs=true)
  (hx: ∀(j:Nat) (d:D),as[j]? =some d-> ∃v,xs[0+j]? =some v∧RV g w v d) (hy: ∀(j:Nat) (d:D),bs[j]? =some d-> ∃v,e[0+j]? =some v∧RV g w v d):
  (Op.eqFields (n+1+1) xs e h).run P w= .ok (zq as bs) w:=qej xs e (n+1) q5n h 0 ks as bs hk he hx hy
theorem q0s {f:Nat->(Option Bool×Unit) ->Sem (ForInStep (Option Bool×Unit))} {c:Nat->Bool}: ∀(n i:Nat),(∀j r,i<=j->j<i+n->(f j r).run P w= .ok (if c j then .yield (none,())else .done (some false,())) w) ->
  (forIn (List.range' i n) ((none:Option Bool),()) f).run P w= .ok (if(List.range' i n).all c then(none,())else(some false,())) w
 |0,i,_=>by simp
 |n+1,i,h=>by
  have h0:=h i (none,()) (jAi _) (by omega);have ih:=q0s n (i+1) (λj r h1 h2=>h j r (by omega) (by omega));rw[List.range'_succ,List.forIn_cons,Sem.run_bind,h0];cases hc:c i with
  |true=>simp only[if_true,Result.andThen_ok,ih,jCx,hc,jCr]
  |false=>simp[hc]
theorem qqq: ∀(n i:Nat) (as bs:List D) (c:Nat->Bool),eqOk (List.replicate n .int) as bs=true->(∀j a b,as[j]? =some a->bs[j]? =some b->c (i+j)=qh3 a b) ->(List.range' i n).all c=zq as bs
 |0,i,as,bs,c,h,_=>by grind[eqOk,zq]
 |n+1,i,as,bs,c,h,hc=>by
  rw[List.replicate_succ]at h;match as,bs,h with
  | .int k a::as,.int k' b::bs,h=>
   simp only[eqOk,Bool.and_eq_true]at h;rw[List.range'_succ,List.all_cons,qqq n (i+1) as bs c h.2 (λj x y hx hy=>by rw[show i+1+j=i+(j+1) by omega];simp_all),zq];have:=hc 0 _ _ rfl rfl;grind
theorem q0t: ∀(n:Nat) (as bs:List D),eqOk (List.replicate n .int) as bs=true->as.length=n∧bs.length=n∧ ∀(j:Nat) (a b:D),as[j]? =some a->bs[j]? =some b-> ∃(k:IntKind) (x y:Int),a=D.int k x∧b=D.int k y
 |0,as,bs,h=>by grind[eqOk]
 |n+1,as,bs,h=>by
  rw[List.replicate_succ]at h;match as,bs,h with
  | .int k a::as,.int k' b::bs,h=>
   simp only[eqOk,Bool.and_eq_true,beq_iff_eq]at h;obtain⟨rfl,h⟩:=h;obtain⟨h1,h2,h3⟩:=q0t n as bs h;grind
theorem xe7 (xs i:Array Value) (d n:Nat) {t e:TypeId} {k:IntKind} {p:TypeInfo} (ht:P.underlying t=some (.array n e)) (he:P.underlying e=some (.int k)) (hi:P.info? e=some p) (h1:p.size=1) (as bs:List D)
  (hok:eqOk (List.replicate n .int) as bs=true) (hx: ∀(j:Nat) (d:D),as[j]? =some d-> ∃v,xs[0+j]? =some v∧RV g w v d) (hy: ∀(j:Nat) (d:D),bs[j]? =some d-> ∃v,i[0+j]? =some v∧RV g w v d):
  (Op.equalIn (d+1+1) t (.agg xs) (.agg i)).run P w= .ok (zq as bs) w:=by
 rw[Op.equalIn];obtain⟨la,lb,hk⟩:=q0t n as bs hok;have h:aggN P e=some none:=by grind[aggN]
 let c:Nat->Bool:=λj=>match as[j]?,bs[j]?with|some a,some b=>qh3 a b| _,_=>true
 simp[run_underlying ht,qy hi,h1];rw[q0s (c:=c) n 0 (λj r _ hj=>by
  have o:as[j]? =some as[j]:=List.getElem?_eq_getElem (by omega);have m:bs[j]? =some bs[j]:=List.getElem?_eq_getElem (by omega);obtain⟨k',x,y,e1,e2⟩:=hk j _ _ o m;obtain⟨u,A,q⟩:=hx j _ o;obtain⟨v,z,rv⟩:=hy j _ m;rw[Nat.zero_add]at A z;rw[e1]at q;rw[e2]at rv;have f1:=vn q;have f2:=vn rv;subst f1;subst f2;have l:c j=(x==y):=by grind[qh3]
  simp only[Sem.run_bind,qad h xs j _ A,qad h i j _ z,Result.andThen_ok,run_equalIn_int w d e k' k x y he,l];cases (x==y)<;>simp)]
 rw[qqq n 0 as bs c hok (λj a b o m=>by grind)];cases zq as bs<;>simp
theorem qqr {neg:Bool} {t u:TypeId} {x y:Operand} {x' y':Opd} {ks:List CK} (ho:oper.op= .binOp (if neg then .neq else .eql) t x y u) (hx:qr x=some x') (hy:qr y=some y')
  (m:qg5 P t=some ks) (hs:SR N T g w st a)
  (o:(sem tb (.eqAgg neg ks x' y') st).ob):y9 P g w st a oper (sem tb (.eqAgg neg ks x' y') st).v:=by
 simp only[sem]at o⊢;cases h1:x'.get st.fr with
 |d p=>
  cases p with
  |agg as=>
   cases h2:y'.get st.fr with
   |d q=>
    cases q with
    |agg bs=>
     simp only[h1,h2]at o⊢;obtain⟨o1,o2,O⟩:=o;have M:=xh hs hx o1;have J:=xh hs hy o2;rw[h1]at M;rw[h2]at J;obtain⟨us,e1,U,_,c1⟩:=qee (ws M);obtain⟨vs,e2,R,_,c2⟩:=qee (ws J);unfold qg5 at m;split at m
     ·rename_i Y X;split at m
      ·rename_i hc;have B:P.underlying t=some (.struct (P.fieldsOf t)):=by grind[Program.fieldsOf]
       have F:P.fieldsOf t=Y:=by grind
       have h: ∀{l:List D} {i:List Value},i.length=l.length->(∀(j:Nat) (u:Value) (d:D),i[j]? =some u->l[j]? =some d->RV g w u d) ->
         ∀(j:Nat) (d:D),l[j]? =some d-> ∃v,i.toArray[0+j]? =some v∧RV g w v d:=by
        intro l i hl E j d I;have z:j<i.length:=by grind
        exact⟨i[j],by simp,E j _ d (List.getElem?_eq_getElem z) I⟩
       have G:(Op.equalIn 10000 t (.agg us.toArray) (.agg vs.toArray)).run P w= .ok (zq as bs) w:=by
        rw[show(10000:Nat)=9997+1+1+1 from rfl,run_equalIn_agg w (9997+1+1) t _ _ B hc.1,F];exact qog us.toArray vs.toArray 9997 Y.toList ks as bs m O (h U c1) (h R c2)
       have A:(Op.equal t (.agg us.toArray) (.agg vs.toArray)).run P w= .ok (zq as bs) w:=G;cases neg with
       |false=>exact⟨.bool (zq as bs),by simp_all[execOp,run_eqGuard_agg,binOp],.bool _⟩
       |true=>exact⟨.bool !(zq as bs),by simp_all[execOp,run_eqGuard_agg,binOp],.bool _⟩
      grind
     ·rename_i n e X;split at m
      ·rename_i hc;split at m
       ·rename_i k he;simp only[Option.some.injEq]at m;subst m;obtain⟨ti,hi,C⟩:=Option.map_eq_some_iff.1 hc.2;have h: ∀{l:List D} {i:List Value},i.length=l.length->(∀(j:Nat) (u:Value) (d:D),i[j]? =some u->l[j]? =some d->RV g w u d) ->
          ∀(j:Nat) (d:D),l[j]? =some d-> ∃v,i.toArray[0+j]? =some v∧RV g w v d:=by
         intro l i hl E j d I;have z:j<i.length:=by grind
         exact⟨i[j],by simp,E j _ d (List.getElem?_eq_getElem z) I⟩
        have A:(Op.equal t (.agg us.toArray) (.agg vs.toArray)).run P w= .ok (zq as bs) w:=xe7 us.toArray vs.toArray 9998 n X he hi C as bs O (h U c1) (h R c2);cases neg with
        |false=>exact⟨.bool (zq as bs),by simp_all[execOp,run_eqGuard_agg,binOp],.bool _⟩
        |true=>exact⟨.bool !(zq as bs),by simp_all[execOp,run_eqGuard_agg,binOp],.bool _⟩
       grind
      grind
     grind
    | _=>grind[Out.bad]
   | _=>grind[Out.bad]
  | _=>grind[Out.bad]
 | _=>grind[Out.bad]
theorem q5o {t:TypeId} {x:Operand} {y:Opd} {A:Array Field} {i:Nat} {f:Field} {u:TypeInfo} (ho:oper.op= .fieldAddr t x i) (ht:P.underlying t=some (.struct A)) (hf:A[i]? =some f)
  (hi:P.info? f.type=some u) (h0:u.size≠0) (z:qr x=some y) (hs:SR N T g w st a)
  (e:(sem tb (.faddr f.offset y) st).ob):y9 P g w st a oper (sem tb (.faddr f.offset y) st).v:=by
 simp only[sem]at e⊢;have run: ∀b off,a.eval x= .pointer (some ⟨b,off,none⟩) ->(execOp a.eval oper).run P w= .ok (.value (.pointer (some ⟨b,off+f.offset,none⟩))) w:=by
  intro b off l;simp[execOp,ho,Instr.fieldAt,run_underlying ht,hf,l,Instr.sureAddr,fieldPlace,qy hi,h0,Addr.add_lit]
 cases h1:y.get st.fr with
 |d p=>
  cases p with
  |ptr id off=>
   simp only[h1]at e⊢;have h:=xh hs z e;rw[h1]at h;have m:=ws h;generalize l:a.eval x=v at m;cases m with
   |ptr b _ _ q=>exact⟨_,run b off l,.ptr b _ id q⟩
  | _=>grind[Out.bad]
 |rd cs=>
  simp only[h1]at e⊢;have h:=xh hs z e.1;rw[h1]at h;obtain⟨b,off,n,o,fn,l,q,hn,hc⟩:=h;refine⟨_,run b off l,b,off+f.offset,n,o,λj=>fn (f.offset+j),rfl,q,by grind,λj d hj=> ?_⟩;grind
 | _=>grind[Out.bad]
theorem q5p {t:TypeId} {x:Operand} {y:Opd} {u:Array Field} {i:Nat} {f:Field} {n:Option Nat} (ho:oper.op= .field t x i) (ht:P.underlying t=some (.struct u)) (hf:u[i]? =some f)
  (hn:aggN P f.type=some n) (o:qr x=some y) (hs:SR N T g w st a)
  (e:(sem tb (.field n f.offset y) st).ob):y9 P g w st a oper (sem tb (.field n f.offset y) st).v:=by
 simp only[sem]at e⊢;cases h1:y.get st.fr with
 |d p=>
  cases p with
  |agg cs=>
   simp only[h1]at e⊢;cases n with
   |none=>
    have h:=xh hs o e.1;rw[h1]at h;obtain⟨vs,hv,q,hcl,hc⟩:=qee (ws h);have m:f.offset<vs.length:=by omega
    have l:f.offset<cs.length:=e.2;refine⟨vs[f.offset],?_,?_⟩
    ·simp_all[qad,execOp,Instr.field,run_underlying,asAgg]
    ·have:cs.getD f.offset default=cs[f.offset]:=by grind
     simp only[this];exact hc f.offset _ _ (List.getElem?_eq_getElem m) (List.getElem?_eq_getElem l)
   |some k=>
    have h:=xh hs o e.1;rw[h1]at h;obtain⟨vs,hv,q,hcl,hc⟩:=qee (ws h);refine⟨.agg ((vs.drop f.offset).take k).toArray,?_,qkn q hcl hc f.offset k⟩;have:=qcn hn vs.toArray f.offset w;have he:vs.toArray.extract f.offset (f.offset+k)=((vs.drop f.offset).take k).toArray:=by
     simp
    simp_all[execOp,Instr.field,run_underlying,asAgg]
  | _=>grind[Out.bad]
 | _=>grind[Out.bad]
theorem q5q {t e:TypeId} {x i:Operand} {x' i':Opd} {u:TypeInfo} (ho:oper.op= .indexAddr t x i) (Z:P.underlying t=some (.slice e)) (hi:P.info? e=some u) (Y:qr x=some x') (X:qr i=some i')
  (hs:SR N T g w st a) (h:(sem tb (.iaddr u.size x' i') st).ob):y9 P g w st a oper (sem tb (.iaddr u.size x' i') st).v:=by
 simp only[sem]at h⊢;cases h1:(x'.get st.fr).rows with
 |none=>
  cases h2:i'.get st.fr with
  |d q=>
   cases q with
   |int k n=>
    simp only[h1,h2]at h⊢;cases h3:x'.get st.fr with
    |d p=>
     cases p with
     |ref id off es m=>
      simp only[h3]at h⊢;obtain⟨J,I,rfl,G,F⟩:=h;have E:=xh hs Y J;have A:=xh hs X I;rw[h2]at A;rw[h3]at E;have U:=vn (ws A);have z:=ws E;generalize M:a.eval x=v at z;cases z with
      |ref b _ _ _ _ cap R C hmx hsz=>
       refine⟨.pointer (some ⟨b,off+n.toNat*u.size,none⟩),?_,.ptr b _ id R⟩;simp[execOp,ho,Instr.indexAt,run_underlying Z,M,U,asIntOf,G,F,qy hi,Addr.add_lit]
      |refnil ad=>omega
     | _=>grind[Out.bad]
    | _=>grind[Out.bad]
   | _=>grind[Out.bad]
  | _=>grind[Out.bad]
 |some p=>
  obtain⟨es,l⟩:=p;cases h2:i'.get st.fr with
  |d q=>
   cases q with
   |int k n=>
    simp only[h1,h2]at h⊢;obtain⟨J,I,rfl,G,F⟩:=h;have E:=qkm (xh hs Y J) h1;have A:=xh hs X I;rw[h2]at A;have U:=vn (ws A);have O:n.toNat<l.length:=by omega
    rcases qtw E with⟨_,rfl⟩|⟨b,off,cap,m,o,f,M,R,hn,C,hes,hcl,hcell,z⟩
    ·grind
    ·refine⟨.pointer (some ⟨b,off+n.toNat*u.size,none⟩),?_,?_⟩
     ·simp[execOp,ho,Instr.indexAt,run_underlying Z,M,U,asIntOf,G,F,qy hi,Addr.add_lit]
     ·have B:(l.getD n.toNat []).length=u.size:=hes _ (by grind);have hfl:=xm hes;refine⟨b,off+n.toNat*u.size,m,o,λj=>f (n.toNat*u.size+j),rfl,R,?_,λj d hj=> ?_⟩
      ·rw[B];have:(n.toNat+1)*u.size<=l.length*u.size:=Nat.mul_le_mul_right _ O;grind
      grind[qqm,List.mem_of_getElem?,Nat.add_assoc]
   | _=>grind[Out.bad]
  | _=>grind[Out.bad]
theorem xbj {t e:TypeId} {x:Operand} {x':Opd} {n:Nat} (ho:oper.op= .sliceToArrayPointer t x) (ht:P.underlying t=some (.array n e)) (hx:qr x=some x')
  (hs:SR N T g w st a) (h:(sem tb (.s2ap n x') st).ob):y9 P g w st a oper (sem tb (.s2ap n x') st).v:=by
 simp only[sem]at h⊢;cases h1:(x'.get st.fr).rows with
 |none=>grind[Out.bad]
 |some p=>
  obtain⟨es,l⟩:=p;simp only[h1]at h⊢;obtain⟨o1,o2,o3⟩:=h;have r1:=qkm (xh hs hx o1) h1;rcases qtw r1 with⟨_,rfl⟩|⟨b,off,cap,m,o,f,hv,hg,hn,hcap,hes,hcl,hcell,hrv⟩
  ·grind
  ·have i: ¬l.length<n:=by omega
   have hsub: ∀(j:Nat) (d:D),(l.take n).flatten[j]? =some d->l.flatten[j]? =some d:=by
    grind[List.getElem?_eq_some_iff,List.flatten_append,List.take_append_drop,List.getElem?_append_left]
   have hle:(l.take n).flatten.length<=l.flatten.length:=by
    grind[List.flatten_append,List.take_append_drop,List.length_append]
   refine⟨.pointer (some ⟨b,off,none⟩),?_,b,off,m,o,f,rfl,hg,by omega,λj d hj=> ?_⟩
   ·simp[execOp,ho,Instr.arrayAt,run_underlying ht,hv,i]
   grind
theorem q0u {t e:TypeId} {x i:Operand} {x' i':Opd} {l:TypeInfo} {len:Nat} (ho:oper.op= .indexAddr t x i) (ht:P.underlying t=some (.array len e)) (hi:P.info? e=some l) (R:qr x=some x') (O:qr i=some i')
  (hs:SR N T g w st a) (h:(sem tb (.iaddrA len l.size x' i') st).ob):y9 P g w st a oper (sem tb (.iaddrA len l.size x' i') st).v:=by
 simp only[sem]at h⊢;have run: ∀b off k (n:Int),a.eval x= .pointer (some ⟨b,off,none⟩) ->a.eval i= .int k n->0<=n->n<len->
   (execOp a.eval oper).run P w= .ok (.value (.pointer (some ⟨b,off+n.toNat*l.size,none⟩))) w:=by
  intro b off k n B hn h0 u;simp[execOp,ho,Instr.indexAt,run_underlying ht,B,hn,asIntOf,h0,u,qy hi,Addr.add_lit,Instr.sureAddr]
 cases h2:i'.get st.fr with
 |d q=>
  cases q with
  |int k n=>
   cases u:x'.get st.fr with
   |d p=>
    cases p with
    |ptr id off=>
     simp only[u,h2]at h⊢;obtain⟨I,G,F,E⟩:=h;have A:=xh hs R I;have z:=xh hs O G;rw[u]at A;rw[h2]at z;have M:=vn (ws z);have C:=ws A;generalize B:a.eval x=v at C;cases C with
     |ptr b _ _ J=>exact⟨_,run b off k n B M F E,.ptr b _ id J⟩
    | _=>grind[Out.bad]
   |rd cs=>
    simp only[u,h2]at h⊢;obtain⟨I,G,F,E,o5⟩:=h;have A:=xh hs R I;have z:=xh hs O G;rw[u]at A;rw[h2]at z;have M:=vn (ws z);obtain⟨b,off,m,o,fn,B,J,hn,hc⟩:=A;have hle:n.toNat*l.size<=cs.length:=by
     have:n.toNat*l.size<=len*l.size:=Nat.mul_le_mul_right _ (by omega);omega
    refine⟨_,run b off k n B M F E,b,off+n.toNat*l.size,m,o,λj=>fn (n.toNat*l.size+j),rfl,J,by grind,λj d hj=> ?_⟩;grind
   | _=>grind[Out.bad]
  | _=>grind[Out.bad]
 | _=>grind[Out.bad]
theorem q0v {t:TypeId} {x i:Operand} {x' i':Opd} (ho:oper.op= .index t x i) (ht:P.underlying t=some .string) (hx:qr x=some x') (hy:qr i=some i')
  (hs:SR N T g w st a) (e:(sem tb (.indexS x' i') st).ob):y9 P g w st a oper (sem tb (.indexS x' i') st).v:=by
 simp only[sem]at e⊢;cases h1:x'.get st.fr with
 |d p=>
  cases p with
  |str l=>
   cases h2:i'.get st.fr with
   |d q=>
    cases q with
    |int k n=>
     simp only[h1,h2]at e⊢;obtain⟨o1,o2,o3,o4⟩:=e;have u:=xh hs hx o1;have o:=xh hs hy o2;rw[h1]at u;rw[h2]at o;have e1:=qc5 (ws u);have e2:=vn (ws o);have m:n.toNat<l.length:=by omega
     refine⟨.int .u8 (l.getD n.toNat 0).toNat,?_,.int _ _⟩;have hb:(⟨l.toArray⟩:ByteArray)[n.toNat]? =some (l.getD n.toNat 0):=by
      show(if h:n.toNat<(⟨l.toArray⟩:ByteArray).size then some _ else none)=_;rw[dif_pos (by grind[qqn])];simp[List.getD,m];rfl
     simp_all[execOp,Instr.index,run_underlying,asIntOf]
    | _=>grind[Out.bad]
   | _=>grind[Out.bad]
  | _=>grind[Out.bad]
 | _=>grind[Out.bad]
theorem q0w {t e:TypeId} {x i:Operand} {x' i':Opd} {h:TypeInfo} {len:Nat} {n:Option Nat} (ho:oper.op= .index t x i) (ht:P.underlying t=some (.array len e)) (hi:P.info? e=some h) (hn:aggN P e=some n)
  (F:qr x=some x') (E:qr i=some i') (hs:SR N T g w st a) (l:(sem tb (.indexA len h.size n x' i') st).ob):y9 P g w st a oper (sem tb (.indexA len h.size n x' i') st).v:=by
 simp only[sem]at l⊢;cases h1:x'.get st.fr with
 |d p=>
  cases p with
  |agg cs=>
   cases h2:i'.get st.fr with
   |d q=>
    cases q with
    |int k j=>
     simp only[h1,h2]at l⊢;cases n with
     |none=>
      obtain⟨A,z,o3,o4,C⟩:=l;have u:=xh hs F A;have o:=xh hs E z;rw[h1]at u;rw[h2]at o;have e2:=vn (ws o);obtain⟨vs,hv,G,hcl,hc⟩:=qee (ws u);have B:j.toNat*h.size<vs.length:=by omega
      refine⟨vs[j.toNat*h.size],?_,?_⟩
      ·have:=qad hn vs.toArray (j.toNat*h.size) vs[j.toNat*h.size] (by simp) w;simp_all[execOp,Instr.index,run_underlying,asIntOf,qy]
      ·have:cs.getD (j.toNat*h.size) default=cs[j.toNat*h.size]:=by grind
       simp only[this];exact hc _ _ _ (List.getElem?_eq_getElem B) (List.getElem?_eq_getElem C)
     |some m=>
      obtain⟨A,z,o3,o4,C⟩:=l;have u:=xh hs F A;have o:=xh hs E z;rw[h1]at u;rw[h2]at o;have e2:=vn (ws o);obtain⟨vs,hv,G,hcl,hc⟩:=qee (ws u);refine⟨.agg ((vs.drop (j.toNat*h.size)).take m).toArray,?_,qkn G hcl hc _ m⟩;have:=qcn hn vs.toArray (j.toNat*h.size) w;simp_all[execOp,Instr.index,run_underlying,asIntOf,qy]
    | _=>grind[Out.bad]
   | _=>grind[Out.bad]
  | _=>grind[Out.bad]
 | _=>grind[Out.bad]
theorem qw5 {x:Operand} {y:Opd} {i:Nat} (ho:oper.op= .extract x i) (hx:qr x=some y) (hs:SR N T g w st a)
  (d:(sem tb (.extract i y) st).ob):y9 P g w st a oper (sem tb (.extract i y) st).v:=by
 simp only[sem]at d⊢;cases h1:y.get st.fr with
 |tup l=>
  simp only[h1]at d⊢;have e:=xh hs hx d.1;rw[h1]at e;obtain⟨vs,hv,hl,hc⟩:=e;have hlt:i<l.length:=d.2;have hlt':i<vs.length:=by omega
  refine⟨vs[i],?_,?_⟩
  ·simp_all[execOp,Instr.extract]
  grind[List.getD,jq,List.getElem?_eq_getElem]
 | _=>grind[Out.bad]
theorem qco: ∀l:List UInt8,qcj (qd l)=l
 | []=>rfl
 |c::l=>by
  have d:=qco l;simp only[qd,List.map_cons,qcj]at d⊢;rw[d];simp
theorem qd3: ∀(l:List UInt8) (d:ByteArray),(l.map λc=>(c.toNat:Int)).foldl (λr n=>r.push (UInt8.ofNat n.toNat)) d=⟨(d.data.toList++l).toArray⟩
 | [],d=>by simp
 |c::l,d=>by
  simp only[List.map_cons,List.foldl_cons];rw[qd3 l];simp
theorem qbi: ∀l:List UInt8,(qd l).flatten=l.map λc=>D.int .u8 c.toNat
 | []=>rfl
 |c::l=>by
  have d:=qbi l;simp only[qd,List.map_cons,List.flatten_cons]at d⊢;rw[d];rfl
theorem xe8 {s t e:TypeId} {x:Operand} {y:Opd} {es:Nat} {r:List (List D)} (B:(y.get st.fr).rows=some (es,r)) (u:oper.op= .convert s t x) (i:P.underlying s=some (.slice e)) (z:P.underlying e=some (.int .u8)) (m:P.underlying t=some .string)
  (hx:qr x=some y) (hs:SR N T g w st a) (p:(sem tb (.b2s y) st).ob):y9 P g w st a oper (sem tb (.b2s y) st).v:=by
 simp only[sem]at p⊢
 ·simp only[B]at p⊢;obtain⟨hok,l,rfl⟩:=p;have r1:=qkm (xh hs hx hok) B;rw[qco];refine⟨.string ⟨l.toArray⟩,?_,.str l⟩;have hflat:=qbi l;rcases qtw r1 with⟨⟨ad,cp,q,hn0⟩,hl⟩|⟨b,off,cap,n,o,f,q,hg,hn,hcap,hes,hcl,hcell,hrv⟩
  ·have:l= []:=by simp_all
   subst this;cases ad with
   |none=>
    simp[execOp,u,q,run_convert_bytes_string w s t e _ _ _ i z m,Conv.bytesToString];rfl
   |some a0=>
    have d:(loadCells a0 0).run P w= .ok (([]:List Int).map (Value.int .u8)).toArray w:=by rfl
    have h:=run_bytesToString w a0 0 cp [] d;simp only[execOp,u,q,Sem.run_bind,run_convert_bytes_string w s t e _ _ _ i z m,h];rfl
  ·have d:(loadCells ⟨b,off,none⟩ (qd l).length).run P w= .ok ((l.map λc=>(c.toNat:Int)).map (Value.int .u8)).toArray w:=by
    have:=run_loadCells_list (P:=P) w ⟨b,off,none⟩ ((l.map λc=>(c.toNat:Int)).map (Value.int .u8)) (by
     intro j v A;simp only[List.map_map,List.getElem?_map,Option.map_eq_some_iff]at A;obtain⟨c,hc,rfl⟩:=A;have hd:(qd l).flatten[j]? =some (D.int .u8 c.toNat):=by grind
     grind[vn,Addr.add_lit])
    grind[qd]
   have h:=run_bytesToString w ⟨b,off,none⟩ (qd l).length cap (l.map λc=>(c.toNat:Int)) d;rw[qd3]at h;simp only[execOp,u,q,Sem.run_bind,run_convert_bytes_string w s t e _ _ _ i z m,h];rfl
theorem xe9: ∀{l:List Operand} {r:List Opd},l.mapM qr=some r->(∀x∈r,x.ok st.fr=true∧ ∃d,x.get st.fr= .d d) ->SR N T g w st a->
  (l.map a.eval).length=(r.map λx=>(x.get st.fr).cellD).length∧ ∀(j:Nat) (v:Value) (d:D),(l.map a.eval)[j]? =some v->(r.map λx=>(x.get st.fr).cellD)[j]? =some d->RV g w v d:=by
 intro l r h hok hs;obtain⟨h1,h2⟩:=kr h;refine⟨by simp[h1],λj v d i m=> ?_⟩;simp only[jAn,jAb]at i m;obtain⟨y,hy,rfl⟩:=i;obtain⟨x,e,rfl⟩:=m;obtain⟨o1,d,o2⟩:=hok x (jAe e);have:=xh hs (h2 j y x hy e) o1;rw[o2]at this⊢;exact this
theorem q0x {fn:Fn} {e d:Array Operand} {f' c':List Opd} (ho:oper.op= .makeFunc fn e d) (hf:e.toList.mapM qr=some f') (hc:d.toList.mapM qr=some c')
  (hs:SR N T g w st a) (h:(sem tb (.mkFunc fn f' c') st).ob):y9 P g w st a oper (sem tb (.mkFunc fn f' c') st).v:=by
 simp only[sem]at h⊢;obtain⟨h1,h2⟩:=xe9 hf h.1 hs;obtain⟨h3,h4⟩:=xe9 hc h.2 hs;have:=RV.func (g:=g) (w:=w) fn _ _ _ _ h1 h3 h2 h4;refine⟨_,?_,this⟩;have ha: ∀(xs:Array Operand),xs.map a.eval=(xs.toList.map a.eval).toArray:=λxs=>by grind
 simp_all[execOp,Instr.makeFunc]
end
section
variable {P:Program} {N tb:Nat} {T:Nat→Prop} {g:Ghost} {w:World} {st:St} {a:Act} {oper:Oper}
theorem xwc {v:Value} {es:Nat} {rows:List (List D)} (h:RV g w v (.sl es rows)) (l h' size:Nat) (hl:l<=h') (hh:h'<=rows.length) (hsz:size=es∨rows= []):
  ∃u cap,v= .slice u rows.length cap∧rows.length<=cap∧
   ∀m,h'<=m->m<=cap->RV g w (sliced u l h' m size) (.sl es ((rows.drop l).take (h'-l)))∧((rows.drop l).take (h'-l)).length=h'-l:=by
 have i:((rows.drop l).take (h'-l)).length=h'-l:=by grind
 rcases qtw h with⟨⟨u,cp,rfl,hn0⟩,rfl⟩|⟨b,off,cap,n,o,f,rfl,C,hn,t,hes,hcl,hcell,z⟩
 ·refine⟨u,cp,rfl,by simp,λm hm hm0=>⟨?_,i⟩⟩;have h0:h'=0:=by grind
  have l0:l=0:=by omega
  subst h0 l0;have key: ∀x,(x=none->m=0) ->RV g w (.slice x 0 m) (.sl es []):=λx hx=> .nilsl x m es hx;have hnm:u=none->m=0:=λh=>by grind
  simp only[List.drop_nil,List.take_nil];unfold sliced;split;all_goals simp_all
 ·refine⟨_,cap,rfl,t,λm hm hmc=>⟨?_,i⟩⟩;have hfl:((rows.drop l).take (h'-l)).flatten=(rows.flatten.drop (l*es)).take ((h'-l)*es):=by
   grind[flat_take,List.mem_of_mem_drop,flat_drop]
  have hflen:((rows.drop l).take (h'-l)).flatten.length=(h'-l)*es:=by
   grind[xm,List.mem_of_mem_drop,List.mem_of_mem_take]
  have q: ∀(j:Nat) (d:D),((rows.drop l).take (h'-l)).flatten[j]? =some d->rows.flatten[l*es+j]? =some d:=by
   grind
  have htot:=xm hes;have hbound:l*es+(h'-l)*es<=rows.length*es:=by rw[<- Nat.add_mul];simp_all[Nat.mul_le_mul_right]
  have base: ∀e,e=off+l*es∨h'=l->(e=off∨e=off+l*es) ->RV g w (.slice (some ⟨b,e,none⟩) (h'-l) (m-l)) (.sl es ((rows.drop l).take (h'-l))):=by
   intro e ho ho';have hle:((rows.drop l).take (h'-l)).length=h'-l:=i;have key:RV g w (.slice (some ⟨b,e,none⟩) ((rows.drop l).take (h'-l)).length (m-l)) (.sl es ((rows.drop l).take (h'-l))):=by
    by_cases he:h'=l
    ·have hnil:(rows.drop l).take (h'-l)= []:=by simp[he]
     refine .sl b e (m-l) es n o _ f C ?_ (by omega) (by grind) (by grind) (by grind) (by grind);omega
    ·have p:e=off+l*es:=by omega
     subst p;refine .sl b _ (m-l) es n o _ (λj=>f (l*es+j)) C (by omega) (by omega)
      (λr hr=>hes r (List.mem_of_mem_drop (List.mem_of_mem_take hr)))
      (λd hd=>by grind)
      (λj d B=>by grind) (λj d B=>z _ d (q j d B))
   grind
  unfold sliced;have hsz':h'≠l->size=es:=by
   grind
  by_cases A:m=l
  ·grind
  ·rw[if_neg A,Option.map_some,Addr.add_lit];grind
theorem qia {live:List Nat} {s:Option ASlot} {x:Option Value} {n:Int} (hm: ∀y,s=some y-> ∃v,x=some v∧RS g w live v y) (h:qck s=some n): ∃k,x=some (.int k n):=by
 cases s with
 |none=>simp[qck]at h
 |some y=>
  cases y with
  |d q=>
   cases q with
   |int k m=>
    simp[qck]at h;subst h;obtain⟨v,rfl,hr⟩:=hm _ rfl;exact⟨k,by rw[vn (ws hr)]⟩
   | _=>simp[qck]at h
  | _=>simp[qck]at h
theorem qgf (hs:SR N T g w st a) {x:Option Operand} {y:Option Opd} (h:x.mapM qr=some y) (hok: ∀z∈y,z.ok st.fr=true):
  (y=none->x=none)∧ ∀s,y.map (·.get st.fr)=some s-> ∃v,x.map a.eval=some v∧RS g w st.live v s:=by
 cases x with
 |none=>grind
 |some o=>
  cases hz:qr o with
  |none=>grind
  |some z=>
  simp[hz]at h;subst h;refine⟨by simp,λs d=> ?_⟩;simp at d;subst d;exact⟨_,rfl,xh hs hz (hok z (by simp))⟩
theorem qlq (d:Bool) {lo hi mx:Option Operand} {l e i:Option Opd} (J:lo.mapM qr=some l) (M:hi.mapM qr=some e) (F:mx.mapM qr=some i) (hs:SR N T g w st a)
  (o2: ∀z∈l,z.ok st.fr=true) (o3: ∀z∈e,z.ok st.fr=true) (o4: ∀z∈i,z.ok st.fr=true) {n cap:Nat} (hcap:n<=cap) {h b:Int} (A:hiB n (e.map (·.get st.fr))=h) (B:loB (l.map (·.get st.fr))=b)
  (E:0<=b) (k3:b<=h) (k4:h<=n) (I:i=none∨(qck (i.map (·.get st.fr))=some h∧e.isSome=true)):
  (Instr.sliceBounds d n cap (lo.map a.eval) (hi.map a.eval) (mx.map a.eval)).run P w= .ok (b.toNat,h.toNat,if mx=none then cap else h.toNat) w:=by
 obtain⟨n2,r2⟩:=qgf hs J o2;obtain⟨n3,r3⟩:=qgf hs M o3;obtain⟨n4,r4⟩:=qgf hs F o4;have v:(hi=none∧h=n)∨ ∃k,hi.map a.eval=some (.int k h):=by
  cases hq:e with
  |none=>grind[hiB]
  |some z=>
   rw[hq]at A;simp only[Option.map_some,hiB]at A;cases hv:qck (some (z.get st.fr))with
   |none=>grind
   |some n=>
    rw[hv]at A;simp at A;subst A;exact .inr (qia (x:=hi.map a.eval) (λy hy=>r3 y (by grind)) hv)
 have q:(lo=none∧b=0)∨ ∃k,lo.map a.eval=some (.int k b):=by
  cases hq:l with
  |none=>grind[loB]
  |some z=>
   rw[hq]at B;simp only[Option.map_some,loB]at B;cases hv:qck (some (z.get st.fr))with
   |none=>grind
   |some n=>
    rw[hv]at B;simp at B;subst B;exact .inr (qia (x:=lo.map a.eval) (λy hy=>r2 y (by grind)) hv)
 have hk3:(b.toNat:Int)=b:=by omega
 have hk4:(h.toNat:Int)=h:=by omega
 rcases I with I|⟨hz,hh'⟩
 ·have G:mx=none:=n4 I;subst G;rcases v with⟨rfl,o⟩|⟨t,o⟩<;>rcases q with⟨rfl,m⟩|⟨C,m⟩
  ·simp[Instr.sliceBounds,m,o]
  ·simp[Instr.sliceBounds,m,run_sliceBound (P:=P) w C b n .sliceB E (by omega),o]
  ·cases d<;>simp[Instr.sliceBounds,o,m,run_sliceBound (P:=P) w t h cap _ (by omega) (by omega)]
  ·cases d<;>simp[Instr.sliceBounds,o,m,run_sliceBound (P:=P) w t h cap _ (by omega) (by omega),run_sliceBound (P:=P) w C b h.toNat .sliceB E (by omega)]
 ·obtain⟨O,u⟩:=qia (x:=mx.map a.eval) r4 hz;have p:mx≠none:=by grind
  rcases v with⟨rfl,o⟩|⟨t,o⟩
  ·grind
  ·rcases q with⟨rfl,m⟩|⟨C,m⟩
   ·cases d<;>simp[Instr.sliceBounds,o,m,u,p,run_sliceBound (P:=P) w O h cap _ (by omega) (by omega),run_sliceBound (P:=P) w t h h.toNat .slice3B (by omega) (by omega)]
   ·cases d<;>simp[Instr.sliceBounds,o,m,u,p,run_sliceBound (P:=P) w O h cap _ (by omega) (by omega),run_sliceBound (P:=P) w t h h.toNat .slice3B (by omega) (by omega),run_sliceBound (P:=P) w C b h.toNat .slice3C E (by omega)]
theorem q5r {t e:TypeId} {x:Operand} {lo hi mx:Option Operand} {x':Opd} {B q o:Option Opd} {A:TypeInfo} (ho:oper.op= .slice t x lo hi mx) (ht:P.underlying t=some (.slice e)) (hti:P.info? e=some A)
  (hx:qr x=some x') (G:lo.mapM qr=some B) (I:hi.mapM qr=some q) (E:mx.mapM qr=some o) (hs:SR N T g w st a)
  (i:(sem tb (.slice A.size x' B q o) st).ob):y9 P g w st a oper (sem tb (.slice A.size x' B q o) st).v:=by
 simp only[sem]at i⊢;obtain⟨o1,o2,o3,o4,i⟩:=i;have r1:=xh hs hx o1;have n4:=(qgf hs E o4).1;have hP:P.elem t=e:=by simp[Program.elem,ht]
 have ht':P.underlying t=some (.slice (P.elem t)):=by grind
 have hsz:(sizeOf (P.elem t)).run P w= .ok A.size w:=by grind[qy]
 have run: ∀(u:Option Addr) (n cap:Nat) (l h m:Nat),a.eval x= .slice u n cap->(Instr.sliceBounds true n cap (lo.map a.eval) (hi.map a.eval) (mx.map a.eval)).run P w= .ok (l,h,m) w->
   (execOp a.eval oper).run P w= .ok (.value (sliced u l h m A.size)) w:=by
  simp_all[execOp,Sem.run_bind,run_sliceAt_slice,run_slice_any]
 unfold qeh at i⊢;cases h1:(x'.get st.fr).rows with
 |none=>
  simp only[h1]at i⊢;cases h2:x'.get st.fr with
  |d p=>
   cases p with
   |ref id off es n=>
    simp only[h2]at i⊢;obtain⟨rfl,k2,k3,k4,M⟩:=i;rw[h2]at r1;have U:=ws r1;have Z:o=none∨(qck (o.map (·.get st.fr))=some (hiB n (q.map (·.get st.fr)))∧q.isSome=true):=by
     cases hq:o with
     |none=>simp
     |some z=>grind
    generalize hh:hiB n (q.map (·.get st.fr))=h at*;generalize hb:loB (B.map (·.get st.fr))=b at*;generalize R:a.eval x=v at U;cases U with
    |ref bk _ _ _ _ cap hg C hmx2 hsz2=>
     have J:=qlq (P:=P) true G I E hs o2 o3 o4 C hh hb k2 k3 k4 Z;refine⟨_,run _ _ _ _ _ _ R J,?_⟩;have X:h.toNat<=(if mx=none then cap else h.toNat)∧(if mx=none then cap else h.toNat)<=cap:=by grind
     generalize (if mx=none then cap else h.toNat)=m at X;unfold sliced;by_cases Y:m=b.toNat
     ·rw[if_pos Y];have e1:h.toNat-b.toNat=0:=by omega
      have e2:m-b.toNat=0:=by omega
      rw[e1,e2];exact .refnil _ _ _ _
     ·rw[if_neg Y,Option.map_some,Addr.add_lit];refine .ref bk _ _ _ _ _ hg (by omega) (by omega) ?_;have:b.toNat*A.size+(m-b.toNat)*A.size<=cap*A.size:=by rw[<- Nat.add_mul];exact Nat.mul_le_mul_right _ (by omega)
      omega
    |refnil u=>
     have J:=qlq (P:=P) true G I E hs o2 o3 o4 (Nat.le_refl 0) hh hb k2 k3 k4 Z;refine⟨_,run _ _ _ _ _ _ R J,?_⟩;have b0:b.toNat=0:=by omega
     have h0:h.toNat=0:=by omega
     simp only[b0,h0,ite_self,sliced,Nat.zero_mul,Nat.add_zero,if_true,Nat.sub_self];grind
   | _=>grind[Out.bad]
  | _=>grind[Out.bad]
 |some p=>
  obtain⟨es,rows⟩:=p;have rv:=qkm r1 h1;simp only[h1]at i⊢;generalize hH:hiB rows.length (q.map (·.get st.fr))=h at i⊢;generalize hB:loB (B.map (·.get st.fr))=b at i⊢;have F:(ok:(A.size=es∨rows= [])∧0<=b∧b<=h∧h<=rows.length) ->(o=none∨(qck (o.map (·.get st.fr))=some h∧q.isSome=true)) ->
    ∃u O,(execOp a.eval oper).run P w= .ok (.value (.slice u (h.toNat-b.toNat) (O-b.toNat))) w∧RV g w (.slice u (h.toNat-b.toNat) (O-b.toNat)) (.sl es ((rows.drop b.toNat).take (h.toNat-b.toNat)))∧
     ((rows.drop b.toNat).take (h.toNat-b.toNat)).length=h.toNat-b.toNat∧(mx≠none->O=h.toNat):=by
   intro ok M;obtain⟨k1,k2,k3,k4⟩:=ok;obtain⟨u,cap,hv,C,aa⟩:=xwc rv b.toNat h.toNat A.size (by omega) (by omega) k1;obtain⟨c1,c2⟩:=aa (if mx=none then cap else h.toNat) (by grind) (by grind);have hb:sliced u b.toNat h.toNat (if mx=none then cap else h.toNat) A.size= .slice (if(if mx=none then cap else h.toNat)=b.toNat then u else u.map (·.add (b.toNat*A.size))) (h.toNat-b.toNat) ((if mx=none then cap else h.toNat) -b.toNat):=rfl;rw[hb]at c1;refine⟨_,_,?_,c1,c2,?_⟩
   ·rw[<- hb];exact run _ _ _ _ _ _ hv (qlq (P:=P) true G I E hs o2 o3 o4 C hH hB k2 k3 k4 M)
   grind
  cases M:o with
  |none=>
   rw[M]at i;simp only[Option.map_none]at i⊢;obtain⟨u,O,m1,m2,m3,_⟩:=F ⟨i.1.imp Eq.symm id,i.2⟩ (.inl M);exact⟨_,m1,m2⟩
  |some z=>
   rw[M]at i;simp only[Option.map_some]at i⊢;obtain⟨ok,hz,hh⟩:=i;obtain⟨u,O,m1,m2,m3,m4⟩:=F ⟨ok.1.imp Eq.symm id,ok.2⟩ (.inr ⟨by grind,by grind⟩);refine⟨_,m1,m2,u,?_⟩;have:mx≠none:=by grind
   grind
theorem q0y {t e:TypeId} {n:Nat} {x:Operand} {lo hi mx:Option Operand} {x':Opd} {p o i:Option Opd} {u:TypeInfo} (ho:oper.op= .slice t x lo hi mx) (ht:P.underlying t=some (.array n e)) (G:P.info? e=some u)
  (hx:qr x=some x') (M:lo.mapM qr=some p) (O:hi.mapM qr=some o) (I:mx.mapM qr=some i) (hs:SR N T g w st a)
  (l:(sem tb (.sliceA n u.size x' p o i) st).ob):y9 P g w st a oper (sem tb (.sliceA n u.size x' p o i) st).v:=by
 simp only[sem]at l⊢;obtain⟨o1,o2,o3,o4,l⟩:=l;have X:=xh hs hx o1;unfold yb at l⊢;cases h2:x'.get st.fr with
 |d q=>
  cases q with
  |ptr id off=>
   simp only[h2]at l⊢;obtain⟨k2,k3,k4,k5,k6,hm⟩:=l;rw[h2]at X;have A:=ws X;have J:i=none∨(qck (i.map (·.get st.fr))=some (hiB n (o.map (·.get st.fr)))∧o.isSome=true):=by
    cases hq:i with
    |none=>simp
    |some z=>grind
   generalize hh:hiB n (o.map (·.get st.fr))=h at*;generalize hb:loB (p.map (·.get st.fr))=b at*;generalize F:a.eval x=v at A;cases A with
   |ptr bk _ _ hg=>
    have U:=qlq (P:=P) false M O I hs o2 o3 o4 (Nat.le_refl n) hh hb k2 k3 k4 J;have B:(execOp a.eval oper).run P w= .ok (.value (sliced (some ⟨bk,off,none⟩) b.toNat h.toNat (if mx=none then n else h.toNat) u.size)) w:=by
     simp only[execOp,ho,F];simp[Instr.sliceAt,Instr.sureAddr,run_underlying ht,U,qy G,sliced];grind
    refine⟨_,B,?_⟩;have C:h.toNat<=(if mx=none then n else h.toNat)∧(if mx=none then n else h.toNat)<=n:=by grind
    generalize (if mx=none then n else h.toNat)=m at C;unfold sliced;by_cases E:m=b.toNat
    ·rw[if_pos E];have e1:h.toNat-b.toNat=0:=by omega
     have e2:m-b.toNat=0:=by omega
     rw[e1,e2];exact .refnil _ _ _ _
    ·rw[if_neg E,Option.map_some,Addr.add_lit];have hle:b.toNat*u.size+(m-b.toNat)*u.size<=n*u.size:=by rw[<- Nat.add_mul];exact Nat.mul_le_mul_right _ (by omega)
     refine .ref bk _ _ _ _ _ hg (by omega) (by grind[maxLen]) ?_;by_cases R:0<(ql st.os id).length
     ·obtain⟨c,ce,q1,q2,_⟩:=qum hs hg R;grind[vq]
     ·omega
  | _=>grind[Out.bad]
 | _=>grind[Out.bad]
end
section
variable {P:Program} {N tb:Nat} {T:Nat→Prop} {g:Ghost} {w:World} {st:St} {a:Act} {oper:Oper}
def RL (g:Ghost) (w:World) (vs:List Value) (e:List D):Prop:=
 vs.length=e.length∧(∀d∈e,d.isCell=true)∧ ∀(j:Nat) (v:Value) (d:D),vs[j]? =some v->e[j]? =some d->RV g w v d
theorem RL.agg {vs:List Value} {d:List D} (h:RL g w vs d):RV g w (.agg vs.toArray) (.agg d):= .agg vs d h.1 h.2.1 h.2.2
theorem RL.take {vs:List Value} {l:List D} (h:RL g w vs l) (n:Nat):RL g w (vs.take n) (l.take n):=
 ⟨by simp[h.1],λd e=>h.2.1 d (jBe e),λj v d i e=>by
  rw[jBx]at i e;split at i
  ·simp_all;exact h.2.2 j v d i e
  grind⟩
theorem RL.drop {vs:List Value} {i:List D} (h:RL g w vs i) (n:Nat):RL g w (vs.drop n) (i.drop n):=
 ⟨by simp[h.1],λd e=>h.2.1 d (jCd e),λj v d hv e=>h.2.2 (n+j) v d (by grind) (by grind)⟩
theorem RL.append {vs us:List Value} {m es:List D} (h:RL g w vs m) (k:RL g w us es):RL g w (vs++us) (m++es):=
 ⟨by simp[h.1,k.1],λd e=>by rcases jAs.1 e with e|e;exact h.2.1 d e;exact k.2.1 d e,λj v d i e=>by
  by_cases l:j<vs.length
  ·rw[jA3 l]at i;rw[jA3 (by rw[<- h.1];exact l)]at e;exact h.2.2 j v d i e
  ·rw[jBb (by omega)]at i;rw[jBb (by rw[<- h.1];omega)]at e;rw[<- h.1]at e;exact k.2.2 _ v d i e⟩
theorem RL.consts {vs:List Value} {o:List D} (h:vs.mapM qc4=some o):RL g w vs o:=by
 obtain⟨h1,m⟩:=kr h;refine⟨h1,λd l=> ?_,λj v d hv l=>qlj (m j v d hv l)⟩;obtain⟨i,hi⟩:=jBh l;have e:i<vs.length:=by grind
 exact qkl (m i vs[i] d (jAa e) hi)
theorem xlr {live:List Nat} {v:Value} {s:ASlot} (h:RS g w live v s) (hok:s.dCellsOk=true):RL g w v.cells.toList s.dCells:=by
 have one: ∀d:D,RV g w v d->d.isCell=true->RL g w v.cells.toList [d]:=by
  intro d hd hc;have hv:=hd.oneCell hc;have:v.cells= #[v]:=by cases v<;>first|rfl|grind[Value.oneCell']
  rw[this];refine⟨rfl,by grind,λj u e hu he=> ?_⟩;grind
 cases s with
 |d x=>
  cases x with
  |agg cs=>
   obtain⟨vs,rfl,h1,h2,h3⟩:=qee (ws h);grind[Value.cells,ASlot.dCells,RL]
  | _=>exact one _ h rfl
 |own t es rows=>exact one _ h.1 rfl
 |full es rows=>exact one _ h.1 rfl
 | _=>grind[ASlot.dCellsOk]
theorem qib: ∀(vs:List Value) (off k:Nat) (cells:Array Value),off+k+vs.length<=cells.size->
  ((vs.zipIdx k).foldl (λcs (c,j)=>cs.setIfInBounds (off+j) c) cells).toList=cells.toList.take (off+k)++vs++cells.toList.drop (off+k+vs.length)
 | [],off,k,cells,h=>by simp
 |v::vs,off,k,cells,h=>by
  simp only[List.zipIdx_cons,List.foldl_cons];rw[qib vs off (k+1) _ (by simp at h⊢;omega)];simp only[Array.toList_setIfInBounds,List.length_cons];have d:off+k<cells.toList.length:=by simp at h⊢;omega
  have h1:(cells.toList.set (off+k) v).take (off+(k+1))=cells.toList.take (off+k)++ [v]:=by
   have e:(cells.toList.take (off+k)).length=off+k:=by simp at d⊢;omega
   rw[show off+(k+1)=off+k+1 by omega,List.take_set,jAk d,jEj _ _ (by omega),e];simp
  have h2:(cells.toList.set (off+k) v).drop (off+(k+1)+vs.length)=cells.toList.drop (off+k+(vs.length+1)):=by
   rw[List.drop_set_of_lt (by omega)];congr 1;omega
  rw[h1,h2];simp
theorem qpv (l:Nat->Option (Nat×Nat)): ∀(h:List (Nat×Value)) (d:List (Nat×List D)) (cells:Array Value) (z:List D),RL g w cells.toList z->
  h.length=d.length->(∀(k:Nat) (p:Nat×Value) (q:Nat×List D),h[k]? =some p->d[k]? =some q->l p.1=some (q.1,q.2.length)∧RL g w p.2.cells.toList q.2∧q.1+q.2.length<=z.length) ->
  ∃e,Instr.fill l cells h=some e∧RL g w e.toList (qqg z d)
 | [],d,cells,z,hz,hl,_=>by
  cases d with
  |nil=>exact⟨cells,rfl,hz⟩
  |cons=>grind
 |(i,v)::h,d,cells,z,hz,hl,hp=>by
  cases d with
  |nil=>grind
  |cons q d=>
   obtain⟨off,cs⟩:=q;obtain⟨h1,t,h3⟩:=hp 0 (i,v) (off,cs) rfl rfl;have hsz:v.cells.size=cs.length:=by have:=t.1;omega
   have hcz:cells.size=z.length:=by have:=hz.1;omega
   simp only at h1 h3;have hno: ¬(v.cells.size≠cs.length∨off+v.cells.size>cells.size):=by omega
   have m:((v.cells.zipIdx.foldl (λcs (c,j)=>cs.setIfInBounds (off+j) c) cells)).toList=cells.toList.take off++v.cells.toList++cells.toList.drop (off+v.cells.toList.length):=by
    have:=qib v.cells.toList off 0 cells (by grind);rw[Nat.add_zero]at this;rw[<- this,<- jFt];simp
   have o:RL g w (v.cells.zipIdx.foldl (λcs (c,j)=>cs.setIfInBounds (off+j) c) cells).toList (z.take off++cs++z.drop (off+cs.length)):=by
    rw[m];have:v.cells.toList.length=cs.length:=t.1;rw[this];exact((hz.take off).append t).append (hz.drop _)
   obtain⟨e,f1,f2⟩:=qpv l h d _ _ o (by grind) (λk p q hk hq=>by
    obtain⟨a1,a2,a3⟩:=hp (k+1) p q (by grind) (by grind);grind)
   refine⟨e,?_,f2⟩;simp_all[Instr.fill,if_neg]
theorem q0z (hs:SR N T g w st a) {t:TypeId}: ∀{d:List (Nat×Operand)} {ps:List (Nat×Nat×Opd)},partsOf P t d=some ps->
  ∀(e:Nat),(∀p∈ps,p.2.2.ok st.fr=true∧(p.2.2.get st.fr).dCellsOk=true∧(p.2.2.get st.fr).dCells.length=p.2.1∧p.1+p.2.1<=e) ->
  (d.map λ(i,x)=>(i,a.eval x)).length=(ps.map λp=>(p.1,(p.2.2.get st.fr).dCells)).length∧
  ∀(k:Nat) (p:Nat×Value) (q:Nat×List D),(d.map λ(i,x)=>(i,a.eval x))[k]? =some p->(ps.map λp=>(p.1,(p.2.2.get st.fr).dCells))[k]? =some q->
   qm2 P t p.1=some (q.1,q.2.length)∧RL g w p.2.cells.toList q.2∧q.1+q.2.length<=e:=by
 intro d ps h e hok;obtain⟨h1,h2⟩:=kr h;refine⟨by simp[h1],λk p q hp A=> ?_⟩;simp only[jAn,jAb]at hp A;obtain⟨⟨i,x⟩,hi,rfl⟩:=hp;obtain⟨⟨off,size,y⟩,v,rfl⟩:=A;have l:=h2 k _ _ hi v;obtain⟨u,o,m,o4⟩:=hok _ (jAe v);simp only at l u o m o4⊢;cases hpl:qm2 P t i with
 |none=>grind
 |some os=>
  cases hop:qr x with
  |none=>grind
  |some z=>
   simp[hpl,hop]at l;obtain⟨C,B,e3⟩:=l;subst e3;obtain⟨po,psz⟩:=os;simp only at C B;subst C B;exact⟨by rw[m],xlr (xh hs hop u) o,by omega⟩
theorem vi {t:TypeId} {z:List D} (h:jm P t=some z): ∃i v,P.info? t=some i∧i.zero=some v∧v.cells.toList.mapM qc4=some z:=by
 grind[jm]
theorem qqs {t:TypeId} {l:Array (Nat×Operand)} {z:List D} {ps:List (Nat×Nat×Opd)} (ho:oper.op= .build t l) (hz:jm P t=some z) (hp:partsOf P t l.toList=some ps)
  (B:(∃E,P.underlying t=some (.struct E)∧(E.toList.mapM λf=>(P.info? f.type).map λi=>(f.offset,i.size)).isSome=true)∨ ∃n e,P.underlying t=some (.array n e)∧(P.info? e).isSome=true) (hs:SR N T g w st a)
  (A:(sem tb (.build z ps) st).ob):y9 P g w st a oper (sem tb (.build z ps) st).v:=by
 simp only[sem]at A⊢;obtain⟨i,v,hi,hv,hm⟩:=vi hz;obtain⟨F,l2⟩:=q0z (P:=P) hs hp z.length A;have u:RL g w v.cells.toList z:=RL.consts hm;have hparts:(l.map λ(i,x)=>(i,a.eval x)).toList=l.toList.map λ(i,x)=>(i,a.eval x):=by simp
 have fin: ∀h,P.built t (l.map λ(i,x)=>(i,a.eval x)).toList=some h->RL g w h.toList (qqg z (ps.map λp=>(p.1,(p.2.2.get st.fr).dCells))) ->
   y9 P g w st a oper (.d (.agg (qqg z (ps.map λp=>(p.1,(p.2.2.get st.fr).dCells))))):=by
  intro h h1 h2;have hrun:=run_build (P:=P) w t (l.map λ(i,x)=>(i,a.eval x)) h h1;refine⟨.agg h,?_,?_⟩
  ·simp_all[execOp,Sem.run_bind]
  ·have:=h2.agg;simp_all[RS,RC]
 rcases B with⟨E,B,m⟩|⟨n,e,B,m⟩
 ·obtain⟨o,C⟩:=Option.isSome_iff_exists.1 m;obtain⟨h,f1,f2⟩:=qpv (g:=g) (w:=w) (o.toArray[·]?) _ _ v.cells z u F (λk p q J I=>by
   obtain⟨a1,a2,a3⟩:=l2 k p q J I;refine⟨?_,a2,a3⟩;obtain⟨m1,m2⟩:=kr C;grind[qm2,Array.getElem?_eq_some_iff,List.getElem?_eq_getElem])
  grind[Program.built]
 ·obtain⟨G,hie⟩:=Option.isSome_iff_exists.1 m;obtain⟨h,f1,f2⟩:=qpv (g:=g) (w:=w) (λi=>some (i*G.size,G.size)) _ _ v.cells z u F (λk p q J I=>by
   grind[qm2])
  grind[Program.built]
theorem q00 {t:TypeId} {x:Operand} {lo hi:Option Operand} {x':Opd} {i m:Option Opd} (ho:oper.op= .slice t x lo hi none) (ht:P.underlying t=some .string)
  (hx:qr x=some x') (E:lo.mapM qr=some i) (G:hi.mapM qr=some m) (hs:SR N T g w st a)
  (e:(sem tb (.sliceS x' i m) st).ob):y9 P g w st a oper (sem tb (.sliceS x' i m) st).v:=by
 simp only[sem]at e⊢;obtain⟨o1,o2,o3,e⟩:=e;obtain⟨n2,r2⟩:=qgf hs E o2;obtain⟨n3,r3⟩:=qgf hs G o3;have I:=xh hs hx o1;cases h1:x'.get st.fr with
 |d p=>
  cases p with
  |str l=>
   rw[h1]at I;have o:=qc5 (ws I);simp only[h1,qa4]at e⊢;generalize A:hiB l.length (m.map (·.get st.fr))=h at e⊢;generalize B:loB (i.map (·.get st.fr))=b at e⊢;obtain⟨O,k3,k4⟩:=e;have F:(hi=none∧h=l.length)∨ ∃k,hi.map a.eval=some (.int k h):=by
    cases hq:m with
    |none=>grind[hiB]
    |some z=>
     rw[hq]at A;simp only[Option.map_some,hiB]at A;cases o:qck (some (z.get st.fr))with
     |none=>grind
     |some n=>
      rw[o]at A;simp at A;subst A;exact .inr (qia (x:=hi.map a.eval) (λy hy=>r3 y (by grind)) o)
   have C:(lo=none∧b=0)∨ ∃k,lo.map a.eval=some (.int k b):=by
    cases hq:i with
    |none=>grind[loB]
    |some z=>
     rw[hq]at B;simp only[Option.map_some,loB]at B;cases o:qck (some (z.get st.fr))with
     |none=>grind
     |some n=>
      rw[o]at B;simp at B;subst B;exact .inr (qia (x:=lo.map a.eval) (λy hy=>r2 y (by grind)) o)
   have hbo:(Instr.sliceBounds false l.length l.length (lo.map a.eval) (hi.map a.eval) none).run P w= .ok (b.toNat,h.toNat,l.length) w:=by
    have hk3:(b.toNat:Int)=b:=by omega
    have hk4:(h.toNat:Int)=h:=by omega
    rcases F with⟨rfl,u⟩|⟨M,u⟩<;>rcases C with⟨rfl,q⟩|⟨J,q⟩
    ·simp[Instr.sliceBounds,q,u]
    ·simp[Instr.sliceBounds,q,run_sliceBound (P:=P) w J b l.length .sliceB O (by omega),u]
    ·simp[Instr.sliceBounds,u,q,run_sliceBound (P:=P) w M h l.length .sliceAlen (by omega) (by omega)]
    ·simp[Instr.sliceBounds,u,q,run_sliceBound (P:=P) w M h l.length .sliceAlen (by omega) (by omega),run_sliceBound (P:=P) w J b h.toNat .sliceB O (by omega)]
   have hext:(⟨l.toArray⟩:ByteArray).extract b.toNat h.toNat=⟨((l.drop b.toNat).take (h.toNat-b.toNat)).toArray⟩:=by
    apply ByteArray.ext;simp
   refine⟨.string ⟨((l.drop b.toNat).take (h.toNat-b.toNat)).toArray⟩,?_,.str _⟩;simp only[execOp,ho,o];rw[Sem.run_bind,Option.map_none,run_sliceAt_string w t _ _ _ _ ht];simp_all[Instr.slice,run_underlying,qqn]
  | _=>grind[qa4,Out.bad]
 | _=>grind[qa4,Out.bad]
end
structure Qt (T:Nat->Prop) (g:Ghost) (w:World) (g':Ghost) (w':World) (live live':List Nat):Prop where
 toG:G g w g' w'
 dom:Dom g' w'
 objH: ∀b id,g b= .obj id->w'.heap[b]? =w.heap[b]?
 objB: ∀b id,g' b= .obj id->g b= .obj id
 tok: ∀b n t,T t->t∈live'->g b= .row n (some t) ->g' b= .row n (some t)∧w'.heap[b]? =w.heap[b]?
 liv: ∀t,T t->t∈live'->t∈live
 tokU: ∀b t,T t->t∈live'->g b= .uni t->g' b= .uni t∧w'.heap[b]? =w.heap[b]?
section
variable {N:Nat} {T T':Nat→Prop} {g g':Ghost} {w w':World} {live live':List Nat}
theorem Qt.rv (h:Qt T g w g' w' live live') (hd:Dom g w) {v:Value} {d:D} (hv:RV g w v d):RV g' w' v d:=h.toG.rv hd hv
theorem Qt.rc (h:Qt T g w g' w' live live') (p:Dom g w) {v:Value} {s:ASlot} (hs:RC g w live v s) (B: ∀t∈s.toks,T t):RC g' w' live' v s:=by
 cases s with
 |d x=>exact h.rv p hs
 |own t es rows=>
  refine⟨h.rv p hs.1,λq=> ?_⟩;have i:T t:=B t (by simp[ASlot.toks]);rcases hs.2 (h.liv t i q)with hf|⟨b,cap,A,e,rfl,z,hh,h1,h2,h3⟩
  ·exact .inl hf
  ·obtain⟨k1,k2⟩:=h.tok b _ t i q z;exact .inr ⟨b,cap,A,e,rfl,k1,by grind,h1,h2,h3⟩
 |uni t es rows=>
  have i:T t:=B t (by simp[ASlot.toks]);exact⟨hs.1,λq=>(hs.2 (h.liv t i q)).mono (λb hb=>h.tokU b t i q hb) (λ_ _=>h.rv p)⟩
 |full es rows=>exact⟨h.rv p hs.1,hs.2⟩
 |rd cells=>
  obtain⟨b,off,n,o,f,rfl,z,hn,hc⟩:=hs;obtain⟨n',o',u,hnn,m⟩:=h.toG.rowsKept p b n o z;refine⟨b,off,n',o',f,rfl,u,by omega,λj d C=> ?_⟩;obtain⟨c1,c2,c3⟩:=hc j d C;have:j<cells.length:=(jAd.1 C).1;exact⟨c1,m _ _ (by omega) c2,h.rv p c3⟩
 |tup l=>exact hs.elim
 |bad=>trivial
theorem Qt.rs (h:Qt T g w g' w' live live') (p:Dom g w) {v:Value} {s:ASlot} (hs:RS g w live v s) (o: ∀t∈s.toks,T t):RS g' w' live' v s:=by
 cases s with
 |tup l=>
  obtain⟨vs,rfl,hl,hc⟩:=hs;refine⟨vs,rfl,hl,λi u s m e=>h.rc p (hc i u s m e) ?_⟩;intro t d;apply o t;cases s with
  |own t' es rows=>
   simp only[ASlot.toks,List.mem_singleton]at d;subst d;simp only[ASlot.toks,List.mem_flatMap];exact⟨_,List.mem_of_getElem? e,by simp[qch]⟩
  |uni t' es rows=>
   simp only[ASlot.toks,List.mem_singleton]at d;subst d;simp only[ASlot.toks,List.mem_flatMap];exact⟨_,List.mem_of_getElem? e,by simp[qch]⟩
  |tup l'=>exact(hc i u _ m e).elim
  | _=>grind[ASlot.toks]
 | _=>exact jq (h.rc p (qax hs (by simp)) o)
theorem qqt {g:Ghost} {w:World} {live:List Nat} {o:Option Nat} {m:ASlot} (h:RC g w live (.map o) m):m.toks= []:=by
 cases m with
 |own t es rows=>cases h.1
 |uni t es rows=>obtain⟨⟨_,_,h⟩,_⟩:=h;cases h
 |tup l=>exact h.elim
 | _=>rfl
theorem Qt.ro (h:Qt T g w g' w' live live') (l:Dom g w) {b id:Nat} {o:AObj} (p:g b= .obj id) (d:RO g w live b o) (ht: ∀s∈o.cells,∀t∈s.toks,T t):RO g' w' live' b o:=by
 cases o with
 |none=>exact d.elim
 |row cells=>
  obtain⟨c,e,hh,hl,hc⟩:=d;refine⟨c,e,by rw[h.objH b id p];exact hh,hl,λi s hs=> ?_⟩;obtain⟨v,v1,v2,v3⟩:=hc i s hs;exact⟨v,v1,v2,h.rc l v3 (ht s (List.mem_of_getElem? hs))⟩
 |map es clock=>exact MapIs.mono d (h.toG.rowsKept l) (h.objH b id p)
 |iter m since seen last=>exact IterIs.mono (R:=λv=>RC g w live v m) (R':=λv=>RC g' w' live' v m) d (h.objH b id p) (λo hv=>h.rc l hv (by
   grind[qqt]))
theorem SR.quiet {st:St} {a:Act} (hs:SR N T g w st a) (h:Qt T g w g' w' st.live live') (z: ∀t,T t->T' t) (hl: ∀t∈live',T' t):
  SR N T' g' w' {st with live:=live'} a:=by
 refine⟨h.dom,hs.defers,hs.size,λk v s q=> ?_,λid o e hn=> ?_,λb b' id d u=> ?_,λb id d=> ?_,⟨hl,λk s q t l=> ?_,λid o e s m t l=> ?_⟩⟩
 ·obtain⟨h1,h2⟩:=hs.slots k v s q;exact⟨λi=>h.rs hs.dom (h1 i) (hs.wf.fr k s (by grind)),h2⟩
 ·rcases hs.objs id o e hn with⟨b,d,hr⟩|⟨i,p⟩
  ·exact .inl ⟨b,(h.toG.obj b id (hs.dom.lt_obj d) d).1,h.ro hs.dom d hr (hs.wf.os id o e)⟩
  ·exact .inr ⟨i,λb d=>p b (h.objB b id d)⟩
 ·exact hs.inj b b' id (h.objB b id d) (h.objB b' id u)
 ·exact hs.ids b id (h.objB b id d)
 ·exact z t (hs.wf.fr k s q t l)
 ·exact z t (hs.wf.os id o e s m t l)
theorem Fr.get_cons (j k:Nat) (s:Bool×ASlot) (r:Fr):Fr.get ((j,s)::r) k=if j=k then some s else Fr.get r k:=rfl
theorem SR.put {st:St} {a:Act} (hs:SR N T g w st a) {d:Nat} (hd:d<N) {v:Value} {s:ASlot} (hv:RS g w st.live v s) (ht: ∀t∈s.toks,T t):
  SR N T g w {st with fr:=(d,true,s)::st.fr} (a.put (some d) v):=by
 refine⟨hs.dom,hs.defers,by simp[Act.put,hs.size],λk v' s' e=> ?_,hs.objs,hs.inj,hs.ids,⟨hs.wf.live,λk s' e=> ?_,hs.wf.os⟩⟩
 ·simp only[Fr.get_cons]at e;split at e
  ·rename_i h;subst h;cases e;refine⟨λ_=> ?_,by simp⟩;have:(a.put (some d) v).tmps.getD d undef=v:=by simp[Act.put,hs.size,hd]
   grind
  ·rename_i h;obtain⟨h1,h2⟩:=hs.slots k v' s' e;simp_all[undef,Act.put,jEg]
 ·simp only[Fr.get_cons]at e;split at e
  ·grind
  ·exact hs.wf.fr k s' e
theorem SR.putUndef {st:St} {a:Act} (hs:SR N T g w st a) {d:Nat} (hd:d<N) {s:ASlot}:
  SR N T g w {st with fr:=(d,false,s)::st.fr} (a.put (some d) undef):=by
 refine⟨hs.dom,hs.defers,by simp[Act.put,hs.size],λk v' s' e=> ?_,hs.objs,hs.inj,hs.ids,⟨hs.wf.live,λk s' e=> ?_,hs.wf.os⟩⟩
 ·simp only[Fr.get_cons]at e;split at e
  ·simp_all[Act.put]
  ·rename_i hdk;obtain⟨h1,h2⟩:=hs.slots k v' s' e;simp_all[undef,Act.put,jEg]
 ·simp only[Fr.get_cons]at e;split at e
  ·cases e
  ·exact hs.wf.fr k s' e
def Fresh (T:Nat->Prop) (tb:Nat):Prop:= ∀t,T t-> ¬(tb<=t∧t<tb+16)
theorem Fresh.ne {T:Nat->Prop} {tb t:Nat} (h:Fresh T tb) (ht:T t):t≠tb:=by
 rintro rfl;exact h t ht ⟨jAi _,by omega⟩
theorem Qt.refl (T:Nat->Prop) {g:Ghost} {w:World} (hd:Dom g w) (live:List Nat):Qt T g w g w live live:=
 ⟨G.refl g w,hd,λ_ _ _=>rfl,λ_ _ h=>h,λ_ _ _ _ _ h=>⟨h,rfl⟩,λ_ _ h=>h,λ_ _ _ _ h=>⟨h,rfl⟩⟩
def Ghost.at (g:Ghost) (b:Nat) (r:Role):Ghost:=λx=>if x=b then r else g x
theorem Ghost.at_same (g:Ghost) (b:Nat) (r:Role):g.at b r b=r:=by simp[Ghost.at]
theorem Ghost.at_ne (g:Ghost) {b x:Nat} (r:Role) (h:x≠b):g.at b r x=g x:=by simp[Ghost.at,h]
theorem Qt.newRole (q:Dom g w) (w1:World) (h1:w1.heap=w.heap) (z:w1.os=w.os) (h:w1.tape=w.tape) (p:w1.output=w.output) (o:Obj) (r:Role) (hr: ∀id,r≠ .obj id)
  (l: ∀u,T u->u∈live'->u∈live):
  Qt T g w (g.at w.heap.size r) (w1.alloc o) live live':=by
 have t:(w1.alloc o).heap.size=w.heap.size+1:=by simp_all
 have hold: ∀b,b<w.heap.size->(w1.alloc o).heap[b]? =w.heap[b]? :=λb e=>by
  grind[heap_alloc_old]
 have hg: ∀b,b<w.heap.size->g.at w.heap.size r b=g b:=λb e=>Ghost.at_ne g _ (by omega);refine⟨⟨z,h,p,by omega,λb e d=>⟨hold b e,by grind⟩,λb m e d=>⟨hold b e,by grind⟩,
  λb m u e d=>⟨m,some u,by grind,Nat.le_refl _,λi v _ hv=>by grind[kj]⟩,λb id e d=>⟨by grind,Nat.le_of_eq (jl (hold b e)).symm⟩⟩,⟨?_,q.2.same λb m e d=>⟨hold b e,by grind⟩⟩,?_,?_,?_,l,?_⟩
 ·intro b e;rw[t]at e;rw[Ghost.at_ne g _ (by omega)];exact q.1 b (by omega)
 ·intro b id d;exact hold b (q.lt_obj d)
 ·grind[id,Ghost.at_same,Ghost.at_ne]
 ·intro b m u _ _ d;have e:=q.lt_row d;grind
 ·intro b u _ _ d;have e:=q.lt_uni d;grind
theorem Qt.newRow (hd:Dom g w) (w1:World) (h1:w1.heap=w.heap) (i:w1.os=w.os) (d:w1.tape=w.tape) (h:w1.output=w.output) (o:Obj) (n:Nat) (t:Option Nat)
  (e: ∀u,T u->u∈live'->u∈live):
  Qt T g w (g.at w.heap.size (.row n t)) (w1.alloc o) live live':=Qt.newRole hd w1 h1 i d h o (.row n t) (by simp) e
theorem Qt.newUni (hd:Dom g w) (w1:World) (h1:w1.heap=w.heap) (i:w1.os=w.os) (d:w1.tape=w.tape) (h:w1.output=w.output) (o:Obj) (t:Nat)
  (e: ∀u,T u->u∈live'->u∈live):
  Qt T g w (g.at w.heap.size (.uni t)) (w1.alloc o) live live':=Qt.newRole hd w1 h1 i d h o (.uni t) (by simp) e
end
end Go.Abs
