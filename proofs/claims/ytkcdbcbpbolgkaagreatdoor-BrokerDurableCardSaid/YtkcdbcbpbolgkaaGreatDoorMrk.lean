/- Texts Bb. -/
import Derived.Test.YtkcdbcbpbolgkaaGreatDoorMrj
import Derived.ProofKit
import Derived.OpenShut
set_option linter.unusedSimpArgs false
set_option linter.unusedVariables false
set_option linter.defProp false
set_option maxRecDepth 100000
noncomputable section
namespace Go.Abs
def qz0 (P:Program):Nat->List Field->Option Nat
 |off,[]=>some off
 |off,f::fs=>if f.offset=off then qz0 P (off+P.cellsOf f.type) fs else none
def qku (P:Program):Nat->TypeId->Bool
 |0,_=>false
 |n+1,t=>match P.underlying t with
  |some .bool=>true
  |some (.int _)=>true
  |some .string=>true
  |some (.slice e)=>qku P n e&&decide (0<P.cellsOf e)
  |some (.struct fs)=>(fs.toList.all λf=>qku P n f.type)&&qz0 P 0 fs.toList==some (P.cellsOf t)
  |some (.array m e)=>qku P n e&&P.cellsOf t==m*P.cellsOf e
  | _=>false
def qz1 (S:TypeId->List D->Prop):List Field->List D->Prop
 | [],ds=>ds= []
 |f::fs,ds=> ∃x y,ds=x++y∧S f.type x∧qz1 S fs y
def ShpA (S:List D->Prop):Nat->List D->Prop
 |0,ds=>ds= []
 |m+1,ds=> ∃x y,ds=x++y∧S x∧ShpA S m y
def Shp (P:Program):Nat->TypeId->List D->Prop
 |0,_,_=>False
 |n+1,t,ds=>match P.underlying t with
  |some .bool=> ∃b,ds= [.bool b]
  |some (.int k)=> ∃x,ds= [.int k x]∧(Lit.int k x).wf=true
  |some .string=> ∃s:List UInt8,ds= [.str s]∧s.length<=maxLen
  |some (.slice e)=> ∃rows,ds= [.sl (P.cellsOf e) rows]∧rows.length<=maxLen∧ ∀r∈rows,Shp P n e r
  |some (.struct fs)=>qz1 (Shp P n) fs.toList ds
  |some (.array m e)=>ShpA (Shp P n e) m ds
  | _=>False
def outG (W:World):Ghost:=λb=>match W.heap[b]?with
 |some (.cells c _ _)=> .row c.size none
 | _=> .out
def q6r (W:World):Prop:= ∀k∈q8j,∃v,W.cell? ⟨k,0,none⟩=some v∧xhi v=true
theorem q9q {W:World} (h:q8j= []:=by rfl):q6r W:=λk d=>by rw[h]at d;cases d
theorem xi9 (W:World) (hg:q6r W):Dom (outG W) W:=⟨λb hb=>by
 unfold outG;rw[jEf hb],λk hk=>by
 obtain⟨v,d,h2⟩:=hg k hk;have h:=d;unfold World.cell? at d;cases hh:W.heap[k]?with
 |none=>simp[hh]at d
 |some o=>
  cases o<;>simp[hh]at d
  rename_i c e f;refine⟨c.size-1,v,?_,h,h2⟩;have:0<c.size:=by
   rcases jC8 c.size with i|i
   ·simp[Array.eq_empty_of_size_eq_zero i]at d
   ·exact i
  simp only[outG,hh];rw[Nat.sub_add_cancel this]⟩
section
variable {H:Type} {enc:TypeId×Value→H} {P:Program} {W:World} {spare:Nat→Bool} {held:Bool}
theorem RL.one {g:Ghost} {w:World} {v:Value} {d:D} (h:RV g w v d) (hd:d.isCell=true):RL g w [v] [d]:=by
 refine⟨rfl,by simpa using hd,λj u e i l=> ?_⟩;cases j with
 |zero=>simp at i l;subst i l;exact h
 |succ j=>simp at i
theorem xc8 {a:Addr} {n:Nat} {l:List Value} (h:W.cells? 0 a n=some l):l.length=n∧ ∀(j:Nat) (u:Value),l[j]? =some u->W.cell? (a.add j)=some u:=by
 unfold World.cells? at h;rw[if_pos (jAi _)]at h;obtain⟨d,h2⟩:=jz h;simp at d;refine⟨d.symm,λj u e=> ?_⟩;have hj:j<n:=by rw[d];exact(jAd.1 e).1
 exact h2 j j u (by simp[hj]) e
theorem xja (a:Addr) (i j:Nat) (h:a.spot=none):(a.add i).add j=a.add (i+j):=by
 obtain⟨b,o,s⟩:=a;simp only at h;subst h;rw[Addr.add_lit,Addr.add_lit,Addr.add_lit,jDq]
theorem xjb {n:Nat} {e:TypeId} (l:Nat) (hpos:0<l) (a:Addr) (len:Nat)
  (h: ∀i,i<len-> ∃cs,W.cells? 0 (a.add (i*l)) l=some cs∧ ∃q,RL (outG W) W cs q∧Shp P n e q):
  ∀m,m<=len-> ∃(cs:List Value) (rows:List (List D)),rows.length=m∧RL (outG W) W cs rows.flatten∧cs.length=m*l∧(∀r∈rows,r.length=l∧Shp P n e r)∧
   (0<m->a.spot=none)∧ ∀(j:Nat) (u:Value),cs[j]? =some u->W.cell? (a.add j)=some u:=by
 intro m;induction m with
 |zero=>intro _;exact⟨[],[],rfl,⟨rfl,by simp,by simp⟩,by simp,by simp,λh=>by omega,by simp⟩
 |succ m ih=>
  intro hm;obtain⟨cs,rows,h1,h2,G,h4,h5,h6⟩:=ih (by omega);obtain⟨z,hc,q,C,q2⟩:=h m (by omega);obtain⟨F,E⟩:=xc8 hc;have d:a.spot=none:=by
   by_cases t:0<m
   ·exact h5 t
   ·have hz:m=0:=by omega
    subst hz;have hu:z[0]? =some (z[0]'(by omega)):=jAa (by omega);have:=E 0 _ hu;simp only[jEk,Addr.add_zero']at this;unfold World.cell? at this;split at this
    ·split at this
     ·cases this
     ·rename_i hs;simpa using hs
    ·cases this
  refine⟨cs++z,rows++ [q],by simp[h1],?_,by rw[jAc,G,F,jCz],λr o=> ?_,λ_=>d,λj u p=> ?_⟩
  ·rw[jDb,List.flatten_cons,List.flatten_nil,jAu];exact h2.append C
  ·rcases jAt.1 o with o|o
   ·exact h4 r o
   ·simp at o;subst o;exact⟨by rw[<- C.1,F],q2⟩
  ·by_cases v:j<cs.length
   ·rw[jA3 v]at p;exact h6 j u p
   ·rw[jBc (by omega),G]at p;have:=E _ u p;rw[xja _ _ _ d]at this;rwa [show m*l+(j-m*l)=j by omega]at this
theorem qz2 {S:TypeId->List D->Prop} {cs:List Value}: ∀(i:List Field) (off d:Nat),qz0 P off i=some d->d<=cs.length->
  (∀f∈i,∃e,RL (outG W) W ((cs.drop f.offset).take (P.cellsOf f.type)) e∧S f.type e) -> ∃e,RL (outG W) W ((cs.drop off).take (d-off)) e∧qz1 S i e∧off<=d
 | [],off,d,h,_,_=>by
  simp only[qz0,jA8]at h;subst h;exact⟨[],by simp[RL],rfl,jAh _⟩
 |f::i,off,d,h,hs,hf=>by
  simp only[qz0]at h;split at h
  ·rename_i ho;obtain⟨e,q1,q2,q3⟩:=qz2 i _ d h hs (λg hg=>hf g (jA9 _ hg));obtain⟨m,l,r2⟩:=hf f jA7;rw[ho]at l;refine⟨m++e,?_,⟨m,e,rfl,r2,q2⟩,by omega⟩;have:(cs.drop off).take (d-off)=(cs.drop off).take (P.cellsOf f.type)++(cs.drop (off+P.cellsOf f.type)).take (d-(off+P.cellsOf f.type)):=by
    rw[show d-off=P.cellsOf f.type+(d-(off+P.cellsOf f.type)) by omega,jFp,jCq]
   rw[this];exact l.append q1
  ·cases h
theorem q6s {S:List D->Prop} {cs:List Value} (d:Nat): ∀(m off:Nat),off+m*d<=cs.length->
  (∀i,i<m-> ∃e,RL (outG W) W ((cs.drop (off+i*d)).take d) e∧S e) -> ∃e,RL (outG W) W ((cs.drop off).take (m*d)) e∧ShpA S m e
 |0,off,_,_=>⟨[],by simp[RL],rfl⟩
 |m+1,off,hs,h=>by
  rw[jCz]at hs;obtain⟨e,q1,q2⟩:=q6s (S:=S) (cs:=cs) d m (off+d) (by omega) (λi hi=>by
   have:=h (i+1) (by omega);rwa [jCz,show off+(i*d+d)=off+d+i*d by omega]at this)
  obtain⟨o,l,r2⟩:=h 0 (by omega);rw[jEk,Nat.add_zero]at l;refine⟨o++e,?_,⟨o,e,rfl,r2,q2⟩⟩;have:(cs.drop off).take ((m+1)*d)=(cs.drop off).take d++(cs.drop (off+d)).take (m*d):=by
   rw[jCz,Nat.add_comm (m*d) d,jFp,jCq]
  rw[this];exact l.append q1
theorem qwg: ∀(n v:Nat) (t:TypeId) (cs:List Value) (x:DataW H×List MemPlace),qku P n t=true->DataW.trod enc P W 0 spare held v t cs=some x->
  ∃E,RL (outG W) W cs E∧Shp P n t E
 |0,_,_,_,_,h,_=>by simp[qku]at h
 |n+1,v,t,cs,x,hp,h=>by
  unfold qku at hp;unfold Shp;cases hu:P.underlying t with
  |none=>rw[hu]at hp;cases hp
  |some d=>
   rw[hu]at hp;cases d with
   |bool=>
    obtain⟨b,rfl,_⟩:=DataW.trod_bool hu h;exact⟨[.bool b],RL.one (.bool b) rfl,b,rfl⟩
   |int k=>
    obtain⟨i,rfl,_,X⟩:=DataW.trod_int hu h;exact⟨[.int k i],RL.one (.int k i) rfl,i,rfl,X⟩
   |string=>
    obtain⟨s,rfl,_,X⟩:=DataW.trod_string hu h;refine⟨[.str s.data.toList],RL.one ?_ rfl,s.data.toList,rfl,by rw[jBr];exact X⟩;have:=RV.str (g:=outG W) (w:=W) s.data.toList;simpa using this
   |slice e=>
    simp only[jAf,decide_eq_true_eq]at hp;rcases DataW.trod_slice hu h with⟨rfl,_⟩|⟨a,len,cap,q,rest,k,_,rfl,_,hb,I,hc,hel,hi,_,_⟩
    ·exact⟨[.sl (P.cellsOf e) []],RL.one (.nilsl none 0 _ (λ_=>rfl)) rfl,[],rfl,by simp,by simp⟩
    ·obtain⟨cs,rows,h1,h2,h3,h4,h5,h6⟩:=xjb (W:=W) (P:=P) (n:=n) (e:=e) (P.cellsOf e) hp.2 a len (λi C=>by
      have u:=hi i C;have h8:q[i]? =some (q[i]'(by omega)):=jAa (by omega);rw[h8,jEc]at u;obtain⟨cs,Z,hx⟩:=u;exact⟨cs,Z,qwg n k e cs _ hp.1 hx⟩) len (jAh _)
     refine⟨[.sl (P.cellsOf e) rows],RL.one ?_ rfl,rows,rfl,by omega,λr G=>(h4 r G).2⟩;by_cases hz:len=0
     ·subst hz;have:rows= []:=jAz h1;subst this;exact .nilsl (some a) cap _ (by simp)
     ·have o:=h5 (by omega);obtain⟨b,off,sp⟩:=a;simp only at o;subst o;subst h1;have hflat:rows.flatten.length=rows.length*P.cellsOf e:=xi (λr G=>(h4 r G).1);have hcl:cs.length=rows.flatten.length:=h2.1;have z:cs[cs.length-1]? =some (cs[cs.length-1]'(by have:=Nat.mul_pos (show 0<rows.length by omega) hp.2;omega)):=jAa _;have l:=h6 _ _ z;rw[Addr.add_lit]at l;unfold World.cell? at l;split at l
      ·rename_i c te fr p;simp only at p;have hlt:off+(cs.length-1)<c.size:=by
        simp only[jDf,jAw,if_false]at l;exact(jA5.1 l).1
       refine .sl b off cap _ c.size none rows (λj=>(cs[j]?).getD undef) (by unfold outG;rw[p]) (by omega) I (λr G=>(h4 r G).1) h2.2.1 (λj d O=> ?_) (λj d O=> ?_)
       ·have J:j<cs.length:=by rw[hcl];exact(jAd.1 O).1
        have:=h6 j _ (jAa J);rw[Addr.add_lit]at this;rw[this,jAa J];rfl
       ·have J:j<cs.length:=by rw[hcl];exact(jAd.1 O).1
        have:=h2.2.2 j _ d (jAa J) O;rw[jAa J];exact this
      ·cases l
   |struct fs=>
    simp only[jAf,beq_iff_eq,jAx]at hp;obtain⟨xs,k,_,_,I,F,Y⟩:=DataW.trod_struct hu h;obtain⟨E,U,R,_⟩:=qz2 (W:=W) (P:=P) (S:=Shp P n) (cs:=cs) fs.toList 0 _ hp.2 (by omega) (λf M=>by
     obtain⟨i,hi⟩:=jBh M;have u:=Y i f (by simpa using hi);have C:i<xs.length:=by rw[F];have:=(jAd.1 hi).1;simpa using this
     rw[jAa C]at u;exact qwg n k f.type _ _ (hp.1 f M) u)
    refine⟨E,?_,R⟩;rwa [jCt,List.drop_zero,<- I,jAs]at U
   |array m e=>
    simp only[jAf,beq_iff_eq]at hp;obtain⟨xs,k,_,_,I,F,Y⟩:=DataW.trod_array hu h;obtain⟨E,U,R⟩:=q6s (W:=W) (S:=Shp P n e) (cs:=cs) (P.cellsOf e) m 0 (by omega) (λi hi=>by
     have u:=Y i hi;rw[jAa (by omega)]at u;rw[Nat.zero_add];exact qwg n k e _ _ hp.1 u)
    refine⟨E,?_,R⟩;rwa [List.drop_zero,<- hp.2,<- I,jAs]at U
   | _=>cases hp
end
end Go.Abs
