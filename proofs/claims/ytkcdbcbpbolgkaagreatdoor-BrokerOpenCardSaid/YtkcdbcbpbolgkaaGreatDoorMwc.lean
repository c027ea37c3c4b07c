/- Texts Ad, Ae. -/
import Derived.Test.YtkcdbcbpbolgkaaGreatDoorMwb
import Derived.Laws.Slices
import Derived.Laws.Closers25
set_option linter.unusedSimpArgs false
set_option linter.unusedVariables false
set_option linter.defProp false
set_option maxRecDepth 100000
noncomputable section
namespace Go.Abs
def ASlot.toks:ASlot->List Nat
 | .own t _ _=> [t]
 | .uni t _ _=> [t]
 | .tup l=>l.flatMap qch
 | _=> []
structure St.Wf (T:Nat->Prop) (st:St):Prop where
 live: ∀t∈st.live,T t
 fr: ∀(k:Nat) (s:ASlot),st.fr.get k=some (true,s) -> ∀t∈s.toks,T t
 os: ∀(id:Nat) (o:AObj),st.os[id]? =some o-> ∀s∈o.cells,∀t∈s.toks,T t
def ObjIs (g:Ghost) (w:World) (live:List Nat) (id:Nat) (o:AObj):Prop:=(∃b,g b= .obj id∧RO g w live b o)∨(o= .row []∧ ∀b,g b≠ .obj id)
theorem ObjIs.block {g:Ghost} {w:World} {live:List Nat} {id:Nat} {o:AObj} (h:ObjIs g w live id o) (hn:o.cells≠ []): ∃b,g b= .obj id∧RO g w live b o:=
 h.resolve_right λh=>hn (by rw[h.1];rfl)
structure SR (N:Nat) (T:Nat->Prop) (g:Ghost) (w:World) (st:St) (a:Act):Prop where
 dom:Dom g w
 defers:True
 size:a.tmps.size=N
 slots: ∀(k:Nat) (v:Bool) (s:ASlot),st.fr.get k=some (v,s) ->
  (v=true->RS g w st.live (a.tmps.getD k undef) s)∧(v=false->a.tmps.getD k undef=undef)
 objs: ∀(id:Nat) (o:AObj),st.os[id]? =some o->o≠ .none->ObjIs g w st.live id o
 inj: ∀(b b' id:Nat),g b= .obj id->g b'= .obj id->b=b'
 ids: ∀(b id:Nat),g b= .obj id-> ∃o,st.os[id]? =some o∧o≠ .none
 wf:st.Wf T
theorem qlj {g:Ghost} {w:World} {v:Value} {d:D} (h:qc4 v=some d):RV g w v d:=by
 unfold qc4 at h;split at h<;>simp at h<;>subst h
 ·exact .int _ _
 ·exact .bool _
 ·rename_i s;have:=RV.str (g:=g) (w:=w) s.data.toList;omega
 ·exact .nilptr
 ·exact .nilfunc
 ·exact .niliface
 ·exact .nilmap
 ·exact .nils
theorem qkl {v:Value} {d:D} (h:qc4 v=some d):d.isCell=true:=by
 unfold qc4 at h;split at h<;>simp at h<;>subst h<;>rfl
theorem kr {α β:Type} {f:α->Option β}: ∀{l:List α} {r:List β},l.mapM f=some r->l.length=r.length∧ ∀(i:Nat) (x:α) (y:β),l[i]? =some x->r[i]? =some y->f x=some y
 | [],r,h=>by grind
 |x::l,r,h=>by
  simp only[List.mapM_cons,Option.bind_eq_bind,Option.pure_def]at h;cases hx:f x with
  |none=>simp[hx]at h
  |some y=>
   cases hl:l.mapM f with
   |none=>simp[hx,hl]at h
   |some r'=>
    simp[hx,hl]at h;subst h;obtain⟨h1,h2⟩:=kr hl;refine⟨by simp[h1],λi u v e d=> ?_⟩;cases i with
    |zero=>simp at e d;subst e d;exact hx
    |succ i=>exact h2 i u v (by simpa using e) (by simpa using d)
theorem qlk {g:Ghost} {w:World} {live:List Nat} {v:Value} {s:ASlot} (h:qlh v=some s):RC g w live v s:=by
 unfold qlh at h;split at h
 ·rename_i cs;cases hm:cs.toList.mapM qc4 with
  |none=>grind
  |some l=>
   simp[hm]at h;subst h;obtain⟨h1,o⟩:=kr hm;have:RV g w (.agg cs.toList.toArray) (.agg l):= .agg _ _ h1
    (λd m=>by
     obtain⟨i,hi⟩:=jBh m;have e:i<cs.toList.length:=by grind
     exact qkl (o i cs.toList[i] d (jAa e) hi))
    (λj v d hv m=>qlj (o j v d hv m))
   simp_all[RC]
 ·cases hc:qc4 v with
  |none=>grind
  |some d=>simp[hc]at h;subst h;exact qlj hc
theorem qw2 {v:Value} {s:ASlot} (h:qlh v=some s): ∀l,s≠ .tup l:=by
 unfold qlh at h;split at h
 ·rename_i cs;cases hm:cs.toList.mapM qc4 with
  |none=>grind
  |some l=>grind
 ·cases hc:qc4 v with
  |none=>grind
  |some d=>grind
theorem qqk {v:Value} {s:ASlot} (h:qlh v=some s):s.toks= []:=by
 unfold qlh at h;split at h
 ·rename_i cs;cases hm:cs.toList.mapM qc4 with
  |none=>grind
  |some l=>simp[hm]at h;subst h;rfl
 ·cases hc:qc4 v with
  |none=>grind
  |some d=>simp[hc]at h;subst h;rfl
theorem jq {g:Ghost} {w:World} {live:List Nat} {v:Value} {s:ASlot} (h:RC g w live v s):RS g w live v s:=by
 cases s<;>first|exact h|exact h.elim
theorem qax {g:Ghost} {w:World} {live:List Nat} {v:Value} {s:ASlot} (h:RS g w live v s) (hn: ∀l,s≠ .tup l):RC g w live v s:=by
 cases s<;>first|exact h|grind
theorem xh {N:Nat} {T:Nat->Prop} {g:Ghost} {w:World} {st:St} {a:Act} (hs:SR N T g w st a) {y:Operand} {x:Opd} (h:qr y=some x) (hok:x.ok st.fr=true):
  RS g w st.live (a.eval y) (x.get st.fr):=by
 cases y with
 |tmp t=>
  simp[qr]at h;subst h;simp only[Opd.ok,Opd.get]at hok⊢;cases hg:st.fr.get t with
  |none=>grind
  |some p=>
   obtain⟨v,s⟩:=p;simp[hg]at hok;exact(hs.slots t v s hg).1 hok
 |const v=>
  simp only[qr,jAb]at h;obtain⟨s,i,rfl⟩:=h;exact jq (qlk i)
 |func f=>
  simp[qr]at h;subst h;show RV g w (.func (.func f) #[] #[]) (.func (.func f) [] []);exact .func (.func f) [] [] [] [] rfl rfl (by simp) (by simp)
 |global k=>
  simp only[qr]at h;split at h
  ·rename_i hk;simp only[jA8]at h;subst h;obtain⟨n,v,i,h2,h3⟩:=hs.dom.2 k (by simpa using hk);refine⟨k,0,n+1,none,λ_=>v,rfl,i,by simp,λj d e=> ?_⟩;cases j with
   |zero=>simp at e;subst e;exact⟨rfl,h2,.any v (xe0 h3)⟩
   |succ j=>simp at e
  ·cases h
theorem qfv {N:Nat} {T:Nat->Prop} {g:Ghost} {w:World} {st:St} {a:Act} (hs:SR N T g w st a) {y:Operand} {x:Opd} (h:qr y=some x) (hok:x.ok st.fr=true):
  ∀t∈(x.get st.fr).toks,T t:=by
 cases y with
 |tmp t=>
  simp[qr]at h;subst h;simp only[Opd.get,Opd.ok]at hok⊢;cases hg:st.fr.get t with
  |none=>grind
  |some p=>
   obtain⟨v,s⟩:=p;simp[hg]at hok;subst hok;exact hs.wf.fr t s hg
 |const v=>
  simp only[qr,Option.map_eq_some_iff]at h;obtain⟨s,h1,rfl⟩:=h;simp[Opd.get,qqk h1]
 |func f=>grind[qr,Opd.get,ASlot.toks]
 |global k=>
  simp only[qr]at h;split at h
  ·simp only[Option.some.injEq]at h;subst h;simp[Opd.get,ASlot.toks]
  ·cases h
theorem ws {g:Ghost} {w:World} {live:List Nat} {v:Value} {x:D} (h:RS g w live v (.d x)):RV g w v x:=h
theorem vn {g:Ghost} {w:World} {v:Value} {k:IntKind} {n:Int} (h:RV g w v (.int k n)):v= .int k n:=by cases h;rfl
theorem qas {g:Ghost} {w:World} {v:Value} {b:Bool} (h:RV g w v (.bool b)):v= .bool b:=by cases h;rfl
theorem qc5 {g:Ghost} {w:World} {v:Value} {s:List UInt8} (h:RV g w v (.str s)):v= .string ⟨s.toArray⟩:=by cases h;rfl
theorem qkm {g:Ghost} {w:World} {live:List Nat} {v:Value} {s:ASlot} {es:Nat} {rows:List (List D)} (h:RS g w live v s) (i:s.rows=some (es,rows)):RV g w v (.sl es rows):=by
 cases s with
 |d x=>
  cases x<;>simp[ASlot.rows]at i
  ·obtain⟨rfl,rfl⟩:=i;exact h
  ·obtain⟨rfl,rfl⟩:=i;cases h;exact .nilsl none 0 0 (λ_=>rfl)
 |own t e r=>simp[ASlot.rows]at i;obtain⟨rfl,rfl⟩:=i;exact h.1
 |full e r=>simp[ASlot.rows]at i;obtain⟨rfl,rfl⟩:=i;exact h.1
 | _=>grind[ASlot.rows]
theorem qtw {g:Ghost} {w:World} {v:Value} {es:Nat} {rows:List (List D)} (h:RV g w v (.sl es rows)):
  ((∃a c,v= .slice a 0 c∧(a=none->c=0))∧rows= [])∨
  ∃b off cap n o,∃f:Nat->Value,v= .slice (some ⟨b,off,none⟩) rows.length cap∧g b= .row n o∧off+rows.flatten.length<=n∧rows.length<=cap∧
   (∀r∈rows,r.length=es)∧(∀d∈rows.flatten,d.isCell=true)∧
   (∀(j:Nat) (d:D),rows.flatten[j]? =some d->w.cell? ⟨b,off+j,none⟩=some (f j))∧(∀(j:Nat) (d:D),rows.flatten[j]? =some d->RV g w (f j) d):=by
 cases h with
 |nilsl a c _ hn=>grind
 |sl b off cap _ n o _ f hg hn hcap hes hcl hcell hrv=>exact .inr ⟨b,off,cap,n,o,f,rfl,hg,hn,hcap,hes,hcl,hcell,hrv⟩
theorem qll {g:Ghost} {w:World} {v:Value} {es:Nat} {rows:List (List D)} (h:RV g w v (.sl es rows)): ∃a c,v= .slice a rows.length c:=by
 rcases qtw h with⟨⟨a,c,rfl,_⟩,rfl⟩|⟨b,off,cap,n,o,f,rfl,_⟩;all_goals simp
theorem qee {g:Ghost} {w:World} {v:Value} {e:List D} (h:RV g w v (.agg e)):
  ∃vs:List Value,v= .agg vs.toArray∧vs.length=e.length∧(∀d∈e,d.isCell=true)∧ ∀(j:Nat) (u:Value) (d:D),vs[j]? =some u->e[j]? =some d->RV g w u d:=by
 cases h with
 |agg vs _ hl hcl h=>grind
theorem qkn {g:Ghost} {w:World} {vs:List Value} {e:List D} (hl:vs.length=e.length) (hcl: ∀d∈e,d.isCell=true)
  (h: ∀(j:Nat) (u:Value) (d:D),vs[j]? =some u->e[j]? =some d->RV g w u d) (off k:Nat):
  RV g w (.agg ((vs.drop off).take k).toArray) (.agg ((e.drop off).take k)):=
 .agg _ _ (by simp[hl]) (λd i=>hcl d (jCd (jBe i)))
  (λj u d hu i=>h (off+j) u d (by grind) (by grind))
section pure
variable {P:Program} {g:Ghost} {w:World} {live:List Nat}
theorem xbd {op:BinOp} {t:TypeId} {k:IntKind} {a b:Int} (h:(qlg op k a b).2) (d:op≠ .shl∧op≠ .shr):
  ∃v,(binOp op t (.int k a) (.int k b)).run P w= .ok v w∧RS g w live v (qlg op k a b).1:=by
 cases op<;>simp only[qlg]at h⊢ <;>first
  |(exact(d.1 rfl).elim)
  |(exact(d.2 rfl).elim)
  |(refine⟨_,by simp[binOp,Op.intArith];rfl,?_⟩;exact .int _ _)
  |(refine⟨_,by simp[binOp,Op.intDiv,h];rfl,?_⟩;exact .int _ _)
  |(refine⟨_,by simp[binOp];rfl,?_⟩;exact .int _ _)
  |(refine⟨_,by simp[binOp,Op.intCmp];rfl,?_⟩;exact .bool _)
theorem qql (l:List UInt8):(⟨l.toArray⟩:ByteArray).toList=l:=by
 simp
theorem xbe {op:BinOp} {t:TypeId} {a b:List UInt8} (h:(qof op a b).2):
  ∃v,(binOp op t (.string ⟨a.toArray⟩) (.string ⟨b.toArray⟩)).run P w= .ok v w∧RS g w live v (qof op a b).1:=by
 by_cases d:op= .add;case neg=>
  cases op<;>simp only[qof]at h⊢ <;>first
   |exact h.elim
   |grind
   |(refine⟨_,by simp only[binOp,Op.stringOp,qql];rfl,?_⟩;exact .bool _)
 subst d;simp only[qof]at h⊢;refine⟨.string ⟨(a++b).toArray⟩,?_,.str _⟩;have hsz: ∀l:List UInt8,(⟨l.toArray⟩:ByteArray).size=l.length:=λl=>by rfl
 have h': ¬((9223372036854775807:Int)<(a.length:Int)+(b.length:Int)):=by omega
 have hap:(⟨a.toArray⟩:ByteArray)++⟨b.toArray⟩=⟨(a++b).toArray⟩:=by
  rfl
 simp_all[binOp,Op.stringOp]
theorem xlq {op:BinOp} {t:TypeId} {x y:ASlot} {u v:Value} (h:(binS op x y).ob) (i:RS g w live u x) (e:RS g w live v y) (ex ey:Operand):
  ∃r,(do eqGuard op t ex ey u v;binOp op t u v:Sem Value).run P w= .ok r w∧RS g w live r (binS op x y).v:=by
 cases x with
 |d x=>
  cases y with
  |d y=>
   cases x with
   |int k a=>
    cases y with
    |int k' b=>
     have m:=vn (ws i);have l:=vn (ws e);subst m l;by_cases hl:op= .shl
     ·subst hl;simp only[binS]at h⊢;refine⟨.int k (k.wrap (a*2^(min b.toNat k.bits))),?_,.int _ _⟩;have: ¬(b<0):=by omega
      simp[eqGuard_at_int,binOp,Op.shift,this]
     ·by_cases hr:op= .shr
      ·subst hr;simp only[binS]at h⊢;refine⟨.int k (a.fdiv (2^(min b.toNat k.bits))),?_,.int _ _⟩;have: ¬(b<0):=by omega
       simp[eqGuard_at_int,binOp,Op.shift,this]
      ·have hb:(binS op (.d (.int k a)) (.d (.int k' b)))={v:=(qlg op k a b).1,ob:=k=k'∧(qlg op k a b).2}:=by
        cases op<;>first|rfl|grind|grind
       rw[hb]at h⊢;obtain⟨rfl,h2⟩:=h;simp_all[xbd,eqGuard_at_int]
    | _=>simp[binS,Out.bad]at h
   |str a=>
    cases y with
    |str b=>
     have m:=qc5 (ws i);have l:=qc5 (ws e);simp_all[binS,xbe,eqGuard_at_string]
    | _=>simp[binS,Out.bad]at h
   | _=>simp[binS,Out.bad]at h
  | _=>grind[binS,Out.bad]
 | _=>simp[binS,Out.bad]at h
theorem xsv {v:Value} {cells:List D} (h:RS g w live v (.rd cells)):
  ∃b off,∃vs:List Value,v= .pointer (some ⟨b,off,none⟩)∧vs.length=cells.length∧(∀(j:Nat) (u:Value),vs[j]? =some u->w.cell? ((⟨b,off,none⟩:Addr).add j)=some u)∧
   (∀d∈cells,d.isCell=true)∧ ∀(j:Nat) (u:Value) (d:D),vs[j]? =some u->cells[j]? =some d->RV g w u d:=by
 obtain⟨b,off,n,o,f,rfl,hg,hn,hc⟩:=h;refine⟨b,off,(List.range cells.length).map f,rfl,by simp,?_,?_,?_⟩
 ·intro j u e;simp only[List.getElem?_map,Option.map_eq_some_iff]at e;obtain⟨i,hi,rfl⟩:=e;have hlt:j<cells.length:=by grind
  simp_all[List.getElem?_range,Option.some.inj,Addr.add_lit,List.getElem?_eq_getElem]
 ·grind[List.getElem?_of_mem]
 grind
theorem qlm {t:TypeId} {n:Nat} (h:aggN P t=some (some n)): ∃i,P.info? t=some i∧i.size=n∧((∃fs,P.underlying t=some (.struct fs))∨ ∃k e,P.underlying t=some (.array k e)):=by
 grind[aggN]
theorem q0p {t:TypeId} (h:aggN P t=some none): ∃i d,P.info? t=some i∧i.size=1∧P.underlying t=some d∧(∀fs,d≠ .struct fs)∧ ∀k e,d≠ .array k e:=by
 unfold aggN at h;grind
theorem qkb {t:TypeId} {n:Nat} (h:aggN P t=some (some n)) (w:World):(isAgg t).run P w= .ok true w:=by
 obtain⟨i,_,_,d|d⟩:=qlm h
 ·obtain⟨fs,d⟩:=d;simp[isAgg,run_underlying d]
 ·obtain⟨k,e,d⟩:=d;simp[isAgg,run_underlying d]
theorem qkc {t:TypeId} (h:aggN P t=some none) (w:World):(isAgg t).run P w= .ok false w:=by
 obtain⟨i,d,_,_,hu,h1,h2⟩:=q0p h;simp_all[isAgg,Sem.run_bind,run_underlying]
theorem qy {t:TypeId} {i:TypeInfo} (h:P.info? t=some i) (w:World):(sizeOf t).run P w= .ok i.size w:=by
 simp[sizeOf,typeInfo,h]
theorem qcn {t:TypeId} {n:Nat} (h:aggN P t=some (some n)) (cs:Array Value) (off:Nat) (w:World):(part t cs off).run P w= .ok (.agg (cs.extract off (off+n))) w:=by
 obtain⟨i,hi,rfl,_⟩:=qlm h;simp[part,qkb h,qy hi]
theorem qad {t:TypeId} (h:aggN P t=some none) (cs:Array Value) (off:Nat) (v:Value) (hv:cs[off]? =some v) (w:World):(part t cs off).run P w= .ok v w:=by
 simp[part,qkc h,hv]
theorem qh4 {t:TypeId} {n:Nat} (h:aggN P t=some (some n)) (a:Addr) (cs:List Value) (hl:cs.length=n) (hc: ∀(j:Nat) (u:Value),cs[j]? =some u->w.cell? (a.add j)=some u):
  (loadVar t a).run P w= .ok (.agg cs.toArray) w:=by
 obtain⟨i,hi,hin,_⟩:=qlm h;have hl':=run_loadCells_list (P:=P) w a cs hc;simp_all[loadVar,qkb,qy]
theorem qh5 {t:TypeId} (h:aggN P t=some none) (a:Addr) (v:Value) (hc:w.cell? a=some v):(loadVar t a).run P w= .ok v w:=by
 simp[loadVar,qkc h,hc]
end pure
section
variable {P:Program} {N tb:Nat} {T:Nat→Prop} {g:Ghost} {w:World} {st:St} {a:Act} {oper:Oper}
def y9 (P:Program) (g:Ghost) (w:World) (st:St) (a:Act) (oper:Oper) (s:ASlot):Prop:=
 ∃v,(execOp a.eval oper).run P w= .ok (.value v) w∧RS g w st.live v s
theorem qqm {es:Nat}: ∀{rows:List (List D)} (_: ∀r∈rows,r.length=es) (i j:Nat) (d:D),(rows.getD i [])[j]? =some d->rows.flatten[i*es+j]? =some d
 | [],_,i,j,d,h=>by simp at h
 |r::rows,hes,i,j,d,h=>by
  have e:r.length=es:=hes r (by simp);cases i with
  |zero=>
   simp at h;have hj:j<r.length:=(jAd.1 h).1;simp[jA3 hj,h]
  |succ i=>
   have ih:=qqm (rows:=rows) (λr e=>hes r (by simp[e])) i j d (by simpa using h);rw[List.flatten_cons,jBb (by rw[e,jCy];omega)];rw[e,jCy,show i*es+es+j-es=i*es+j by omega];exact ih
theorem xm {es:Nat}: ∀{rows:List (List D)} (_: ∀r∈rows,r.length=es),rows.flatten.length=rows.length*es
 | [],_=>by simp
 |r::rows,h=>by
  have h1:r.length=es:=h r (by simp);have h2:=xm (rows:=rows) (λr hr=>h r (by simp[hr]));simp only[List.flatten_cons,jAc,h1,h2,List.length_cons,jCy];omega
theorem flat_drop {es:Nat}: ∀{rows:List (List D)} (_: ∀r∈rows,r.length=es) (k:Nat),(rows.drop k).flatten=rows.flatten.drop (k*es)
 | [],_,k=>by simp
 |r::rows,h,0=>by simp
 |r::rows,h,k+1=>by
  have d:r.length=es:=h r (by simp);have h2:=flat_drop (rows:=rows) (λr hr=>h r (by simp[hr])) k;simp only[jCs,List.flatten_cons,h2];rw[List.drop_append,d,jCy];have:r.drop (k*es+es)= []:=List.drop_eq_nil_of_le (by rw[d];omega);rw[this,List.nil_append];congr 1;omega
theorem flat_take {es:Nat}: ∀{rows:List (List D)} (_: ∀r∈rows,r.length=es) (k:Nat),(rows.take k).flatten=rows.flatten.take (k*es)
 | [],_,k=>by simp
 |r::rows,h,0=>by simp
 |r::rows,h,k+1=>by
  have d:r.length=es:=h r (by simp);have h2:=flat_take (rows:=rows) (λr hr=>h r (by simp[hr])) k;simp only[jDp,List.flatten_cons,h2];rw[jEz,d,jCy];have:r.take (k*es+es)=r:=jAq (by rw[d];omega);rw[this];congr 2;omega
theorem q0q {x:Operand} {y:Opd} (d:oper.op= .move x∨oper.op= .assign x) (hx:qr x=some y) (hs:SR N T g w st a) (hok:y.ok st.fr=true):
  y9 P g w st a oper (y.get st.fr):=by
 refine⟨a.eval x,?_,xh hs hx hok⟩;rcases d with d|d<;>simp[execOp,d]
theorem xbf {c x y:Operand} {c' x' y':Opd} (p:oper.op= .pick c x y) (hc:qr c=some c') (hx:qr x=some x') (hy:qr y=some y') (hs:SR N T g w st a)
  (h:(sem tb (.pick c' x' y') st).ob):y9 P g w st a oper (sem tb (.pick c' x' y') st).v:=by
 simp only[sem]at h⊢;generalize h1:c'.get st.fr=s1 at h⊢;generalize h2:x'.get st.fr=s2 at h⊢;generalize h3:y'.get st.fr=s3 at h⊢;have l: ∀{q:Bool},s1= .d (.bool q) ->c'.ok st.fr=true->a.eval c= .bool q:=λe o=>by
  have i:=xh hs hc o;rw[h1,e]at i;exact qas (ws i)
 have C: ∀{b:Bool},s2= .d (.bool b) ->x'.ok st.fr=true->a.eval x= .bool b:=λe o=>by
  have i:=xh hs hx o;rw[h2,e]at i;exact qas (ws i)
 have B: ∀{b:Bool},s3= .d (.bool b) ->y'.ok st.fr=true->a.eval y= .bool b:=λe o=>by
  have i:=xh hs hy o;rw[h3,e]at i;exact qas (ws i)
 split at h
 ·rename_i q u t;obtain⟨m,A,z⟩:=h;have E:=l rfl m;cases q with
  |true=>exact⟨.bool u,by simp[execOp,p,E,C rfl (A rfl),asBool],.bool _⟩
  |false=>exact⟨.bool t,by simp[execOp,p,E,B rfl (z rfl),asBool],.bool _⟩
 ·rename_i t;obtain⟨m,z⟩:=h;exact⟨.bool t,by simp[execOp,p,l rfl m,B rfl z,asBool],.bool _⟩
 ·rename_i u;obtain⟨m,A⟩:=h;exact⟨.bool u,by simp[execOp,p,l rfl m,C rfl A,asBool],.bool _⟩
 ·exact h.elim
theorem qpu (hs:SR N T g w st a) {b id:Nat} (l:g b= .obj id) (hrow:qg4 st.os id=true):
  ∃(c:Array Value) (e:TypeId),w.heap[b]? =some (.cells c e (0,0))∧(ql st.os id).length<=c.size∧
   ∀(i:Nat) (s:ASlot),(ql st.os id)[i]? =some s-> ∃v,c[i]? =some v∧v.oneCell'=true∧RC g w st.live v s:=by
 obtain⟨o,ho,hn⟩:=hs.ids b id l;obtain⟨b',d,hr⟩:=(hs.objs id o ho hn).resolve_right (λh=>h.2 b l);have:b'=b:=hs.inj b' b id d l;subst this;cases o with
 |none=>grind
 |row cells=>grind[ql,AObj.cells,RO]
 |map es clock=>grind[qg4]
 |iter m since seen last=>grind[qg4]
theorem q82 {os:List AObj} {id:Nat} (h:0<(ql os id).length):qg4 os id=true:=by
 grind[ql,qg4,AObj.cells]
theorem qum (hs:SR N T g w st a) {b id:Nat} (hb:g b= .obj id) (d:0<(ql st.os id).length):
  ∃(c:Array Value) (e:TypeId),w.heap[b]? =some (.cells c e (0,0))∧(ql st.os id).length<=c.size∧
   ∀(i:Nat) (s:ASlot),(ql st.os id)[i]? =some s-> ∃v,c[i]? =some v∧v.oneCell'=true∧RC g w st.live v s:=qpu hs hb (q82 d)
theorem qw3 {v:Value} {s:ASlot} (h:RC g w st.live v s) (hd:s.isCellD=true):RV g w v s.cellD∧s.cellD.isCell=true:=by
 cases s with
 |d x=>exact⟨h,hd⟩
 |own t es rows=>exact⟨h.1,rfl⟩
 |full es rows=>exact⟨h.1,rfl⟩
 | _=>grind[ASlot.isCellD]
theorem qun {t:TypeId} {x:Operand} {y:Opd} {n:Option Nat} (I:oper.op= .load t x) (hn:aggN P t=some n) (hx:qr x=some y) (hs:SR N T g w st a)
  (h:(sem tb (.load n y) st).ob):y9 P g w st a oper (sem tb (.load n y) st).v:=by
 simp only[sem]at h⊢;obtain⟨hok,h⟩:=h;have E:=xh hs hx hok;cases hy:y.get st.fr with
 |d p=>
  cases p with
  |ptr id off=>
   rw[hy]at E;simp only[hy,wy]at h⊢;have l:=ws E;generalize G:a.eval x=v at l;cases l with
   |ptr b _ _ hg=>
   cases n with
   |none=>
    obtain⟨c,e,z,q,i⟩:=qum hs hg (by omega);obtain⟨v,hv1,_,hv2⟩:=i off _ (List.getElem?_eq_getElem h);refine⟨v,?_,?_⟩
    ·simp_all[World.cell?,execOp,Instr.loadAt,Instr.sureAddr,qh5]
    grind[ql,id,List.getD,jq]
   |some k=>
    obtain⟨h0,h1,h2⟩:=h;obtain⟨c,e,z,q,i⟩:=qum hs hg h0;have m:((c.toList.drop off).take k).length=k:=by grind
    refine⟨.agg ((c.toList.drop off).take k).toArray,?_,?_⟩
    ·have hc: ∀(j:Nat) (u:Value),((c.toList.drop off).take k)[j]? =some u->w.cell? ((⟨b,off,none⟩:Addr).add j)=some u:=by
      grind[Addr.add_lit,World.cell?]
     simp[execOp,I,G,Instr.loadAt,Instr.sureAddr,qh4 hn _ _ m hc]
    ·have C: ∀s∈((ql st.os id).drop off).take k,s.isCellD=true:=List.all_eq_true.1 h2;refine RV.agg _ _ (by grind) (λd F=> ?_) (λj u d hu F=> ?_)
     ·obtain⟨s,A,rfl⟩:=List.mem_map.1 F;have:=C s A;cases s<;>simp_all[ASlot.isCellD,ASlot.cellD]<;>rfl
     ·simp only[List.getElem?_map,Option.map_eq_some_iff]at F;obtain⟨s,A,rfl⟩:=F;grind[ql,id,qw3,List.mem_of_getElem?]
  | _=>grind[wy,Out.bad]
 |rd cs=>
  rw[hy]at E;simp only[hy,wy]at h⊢;obtain⟨b,off,vs,G,hl,hc,hcl,l⟩:=xsv E;cases n with
  |none=>
   have B:0<vs.length:=by omega
   refine⟨vs[0],?_,?_⟩
   ·have o:=hc 0 vs[0] (List.getElem?_eq_getElem B);simp_all[Addr.add_zero',execOp,Instr.loadAt,Instr.sureAddr,qh5]
   ·have hob':0<cs.length:=h;have:cs.getD 0 default=cs[0]:=by grind
    simp only[this];exact l 0 vs[0] cs[0] (List.getElem?_eq_getElem B) (List.getElem?_eq_getElem h)
  |some k=>
   refine⟨.agg (vs.take k).toArray,?_,?_⟩
   ·have m:(vs.take k).length=k:=by grind
    have o: ∀(j:Nat) (u:Value),(vs.take k)[j]? =some u->w.cell? ((⟨b,off,none⟩:Addr).add j)=some u:=by
     grind
    simp[execOp,I,G,Instr.loadAt,Instr.sureAddr,qh4 hn _ _ m o]
   ·have:=qkn hl hcl l 0 k;simp only[List.drop_zero]at this;exact this
 | _=>grind[wy,Out.bad]
theorem qtx {x:Operand} {y:Opd} (m:oper.op= .nilCheck x) (hx:qr x=some y) (hs:SR N T g w st a)
  (h:(sem tb (.nilCheck y) st).ob):y9 P g w st a oper (sem tb (.nilCheck y) st).v:=by
 simp only[sem]at h⊢;obtain⟨hok,h⟩:=h;have l:=xh hs hx hok;refine⟨a.eval x,?_,l⟩;cases hy:y.get st.fr with
 |d p=>
  rw[hy]at l;have e:=ws l;cases p with
  |ptr id off=>generalize i:a.eval x=v at e;cases e;simp[execOp,m,i]
  |func fn f c=>
   cases fn with
   |func f=>generalize i:a.eval x=v at e;cases e;simp[execOp,m,i]
   | _=>grind
  | _=>grind
 |rd cs=>
  rw[hy]at l;obtain⟨b,off,vs,i,_⟩:=xsv l;simp[execOp,m,i]
 | _=>grind
theorem q0r {op:BinOp} {t u:TypeId} {x y:Operand} {x' y':Opd} (ho:oper.op= .binOp op t x y u) (hx:qr x=some x') (hy:qr y=some y') (hs:SR N T g w st a)
  (d:(sem tb (.bin op x' y') st).ob):y9 P g w st a oper (sem tb (.bin op x' y') st).v:=by
 simp only[sem]at d⊢;obtain⟨h1,h2,h3⟩:=d;obtain⟨r,h,e⟩:=xlq (P:=P) (t:=t) h3 (xh hs hx h1) (xh hs hy h2) x y;refine⟨r,?_,e⟩;simp only[execOp,ho];rw[Sem.run_bind,h];simp
theorem qkd {t:TypeId} (ht:P.underlying t=some .bool) (b c:Bool) (w:World):(Op.equal t (.bool b) (.bool c)).run P w= .ok (b==c) w:=by
 show(Op.equalIn (9999+1) t (.bool b) (.bool c)).run P w=_;rw[Op.equalIn];simp[run_underlying ht]
theorem qqn (l:List UInt8):(⟨l.toArray⟩:ByteArray).size=l.length:=rfl
theorem xe2 {neg:Bool} {t u:TypeId} {x y:Operand} {x' y':Opd} (ho:oper.op= .binOp (if neg then .neq else .eql) t x y u) (ht:P.underlying t=some .bool) (hx:qr x=some x') (hy:qr y=some y')
  (hs:SR N T g w st a) (e:(sem tb (.eqb neg x' y') st).ob):y9 P g w st a oper (sem tb (.eqb neg x' y') st).v:=by
 simp only[sem]at e⊢;cases h1:x'.get st.fr with
 |d p=>
  cases p with
  |bool b=>
   cases h2:y'.get st.fr with
   |d q=>
    cases q with
    |bool c=>
     simp only[h1,h2]at e⊢;have i:=xh hs hx e.1;have h:=xh hs hy e.2;rw[h1]at i;rw[h2]at h;have e1:=qas (ws i);have e2:=qas (ws h);cases neg with
     |false=>exact⟨.bool (b==c),by simp_all[execOp,eqGuard_at_bool,binOp,qkd],.bool _⟩
     |true=>exact⟨.bool !(b==c),by simp_all[execOp,eqGuard_at_bool,binOp,qkd],.bool _⟩
    | _=>grind[Out.bad]
   | _=>grind[Out.bad]
  | _=>grind[Out.bad]
 | _=>grind[Out.bad]
theorem xe3 {t:TypeId} {x:Operand} {y:Opd} (ho:oper.op= .unOp .not t x) (hx:qr x=some y) (hs:SR N T g w st a)
  (e:(sem tb (.not y) st).ob):y9 P g w st a oper (sem tb (.not y) st).v:=by
 simp only[sem]at e⊢;cases h1:y.get st.fr with
 |d p=>
  cases p with
  |bool b=>
   simp only[h1]at e⊢;have h:=xh hs hx e;rw[h1]at h;exact⟨.bool !b,by simp[execOp,ho,qas (ws h),Op.unary],.bool _⟩
  | _=>grind[Out.bad]
 | _=>grind[Out.bad]
theorem xe4 {t:TypeId} {x:Operand} {y:Opd} (ho:oper.op= .unOp .neg t x) (hx:qr x=some y) (hs:SR N T g w st a)
  (e:(sem tb (.neg y) st).ob):y9 P g w st a oper (sem tb (.neg y) st).v:=by
 simp only[sem]at e⊢;cases h1:y.get st.fr with
 |d p=>
  cases p with
  |int k n=>
   simp only[h1]at e⊢;have h:=xh hs hx e;rw[h1]at h;exact⟨.int k (k.wrap (0-n)),by simp[execOp,ho,vn (ws h),Op.unary,Op.intArith],.int _ _⟩
  | _=>grind[Out.bad]
 | _=>grind[Out.bad]
theorem xbg {s t:TypeId} {k j:IntKind} {x:Operand} {y:Opd} (ho:oper.op= .convert s t x) (h:P.underlying s=some (.int j)) (i:P.underlying t=some (.int k)) (hx:qr x=some y) (hs:SR N T g w st a)
  (e:(sem tb (.conv k y) st).ob):y9 P g w st a oper (sem tb (.conv k y) st).v:=by
 simp only[sem]at e⊢;cases h1:y.get st.fr with
 |d p=>
  cases p with
  |int k' n=>
   simp only[h1]at e⊢;have l:=xh hs hx e;rw[h1]at l;exact⟨.int k (k.wrap n),by simp[execOp,ho,vn (ws l),convert,run_underlying h,run_underlying i,Conv.intToInt],.int _ _⟩
  | _=>grind[Out.bad]
 | _=>grind[Out.bad]
theorem q5l {s t:TypeId} {x:Operand} {y:Opd} (ho:oper.op= .convert s t x) (h:P.underlying s=some .string) (i:P.underlying t=some .string) (hx:qr x=some y) (hs:SR N T g w st a)
  (e:(sem tb (.asStr y) st).ob):y9 P g w st a oper (sem tb (.asStr y) st).v:=by
 simp only[sem]at e⊢;cases h1:y.get st.fr with
 |d p=>
  cases p with
  |str l=>
   simp only[h1]at e⊢;have m:=xh hs hx e;rw[h1]at m;exact⟨_,by simp[execOp,ho,qc5 (ws m),convert,run_underlying h,run_underlying i],.str l⟩
  | _=>grind[Out.bad]
 | _=>grind[Out.bad]
theorem xe5 {s t:TypeId} {j:IntKind} {x:Operand} {y:Opd} (ho:oper.op= .convert s t x) (h:P.underlying s=some (.int j)) (i:P.underlying t=some .string) (hx:qr x=some y) (hs:SR N T g w st a)
  (e:(sem tb (.i2s y) st).ob):y9 P g w st a oper (sem tb (.i2s y) st).v:=by
 simp only[sem]at e⊢;cases h1:y.get st.fr with
 |d p=>
  cases p with
  |int k' n=>
   simp only[h1]at e⊢;have l:=xh hs hx e;rw[h1]at l;refine⟨.string (Utf8.encode n),by simp[execOp,ho,vn (ws l),convert,run_underlying h,run_underlying i,Conv.intToString],?_⟩;have:=RV.str (g:=g) (w:=w) (Utf8.encode n).data.toList;exact this
  | _=>grind[Out.bad]
 | _=>grind[Out.bad]
theorem xbh {t:TypeId} {x:Operand} {y:Opd} (ho:oper.op= .call {callee:= .builtin .len,args:= #[x],argTypes:= #[t]})
  (ht:P.underlying t=some .string) (hx:qr x=some y) (hs:SR N T g w st a)
  (e:(sem tb (.lenS y) st).ob):y9 P g w st a oper (sem tb (.lenS y) st).v:=by
 simp only[sem]at e⊢;cases h1:y.get st.fr with
 |d p=>
  cases p with
  |str l=>
   simp only[h1]at e⊢;have h:=xh hs hx e;rw[h1]at h;refine⟨.int .i64 l.length,?_,.int _ _⟩;simp[execOp,ho,resolve,invoke,builtin,Builtin.len_,run_underlying ht,qc5 (ws h),goInt,qqn]
  | _=>grind[Out.bad]
 | _=>grind[Out.bad]
theorem xwb {live:List Nat} {v:Value} {s:ASlot} {n:Nat} (h:RS g w live v s) (hn:s.len?=some n): ∃a c,v= .slice a n c:=by
 cases s with
 |d x=>
  have h':RV g w v x:=h;cases x<;>simp[ASlot.len?]at hn<;>subst hn
  ·exact qll h'
  ·generalize e:D.ref _ _ _ _=y at h';cases h'<;>cases e
   all_goals simp
  ·generalize e:D.nilsl=y at h';cases h'<;>cases e
   simp
 |own t es rows=>simp[ASlot.len?]at hn;subst hn;exact qll h.1
 |uni t es rows=>simp[ASlot.len?]at hn;subst hn;exact h.1
 |full es rows=>simp[ASlot.len?]at hn;subst hn;exact qll h.1
 | _=>grind[ASlot.len?]
theorem xe6 {t e:TypeId} {x:Operand} {y:Opd} (ho:oper.op= .call {callee:= .builtin .len,args:= #[x],argTypes:= #[t]})
  (ht:P.underlying t=some (.slice e)) (hx:qr x=some y) (hs:SR N T g w st a)
  (d:(sem tb (.len y) st).ob):y9 P g w st a oper (sem tb (.len y) st).v:=by
 simp only[sem]at d⊢;cases h1:(y.get st.fr).len? with
 |none=>grind[Out.bad]
 |some n=>
  simp only[h1]at d⊢;obtain⟨ad,c,hv⟩:=xwb (xh hs hx d) h1;refine⟨.int .i64 n,?_,.int _ _⟩;simp[execOp,ho,resolve,invoke,builtin,Builtin.len_,run_underlying ht,hv,goInt]
end
end Go.Abs
