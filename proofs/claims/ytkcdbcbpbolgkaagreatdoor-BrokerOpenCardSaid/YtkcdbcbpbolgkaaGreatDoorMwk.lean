/- Texts Bb. -/
import Derived.Test.YtkcdbcbpbolgkaaGreatDoorMwj
import Derived.ProofKit
import Derived.OpenShut
set_option linter.unusedSimpArgs false
set_option linter.unusedVariables false
set_option linter.defProp false
set_option maxRecDepth 100000
noncomputable section
namespace Go.Abs
def q11 (P:Program):Nat->List Field->Option Nat
 |off,[]=>some off
 |off,f::fs=>if f.offset=off then q11 P (off+P.cellsOf f.type) fs else none
def ql6 (P:Program):Nat->TypeId->Bool
 |0,_=>false
 |n+1,t=>match P.underlying t with
  |some .bool=>true
  |some (.int _)=>true
  |some .string=>true
  |some (.slice e)=>ql6 P n e&&decide (0<P.cellsOf e)
  |some (.struct fs)=>(fs.toList.all λf=>ql6 P n f.type)&&q11 P 0 fs.toList==some (P.cellsOf t)
  |some (.array m e)=>ql6 P n e&&P.cellsOf t==m*P.cellsOf e
  | _=>false
def q12 (S:TypeId->List D->Prop):List Field->List D->Prop
 | [],ds=>ds= []
 |f::fs,ds=> ∃x y,ds=x++y∧S f.type x∧q12 S fs y
def ShpA (S:List D->Prop):Nat->List D->Prop
 |0,ds=>ds= []
 |m+1,ds=> ∃x y,ds=x++y∧S x∧ShpA S m y
def Shp (P:Program):Nat->TypeId->List D->Prop
 |0,_,_=>False
 |n+1,t,ds=>match P.underlying t with
  |some .bool=> ∃b,ds= [.bool b]
  |some (.int k)=> ∃x,ds= [.int k x]∧(Lit.int k x).wf=true
  |some .string=> ∃s:List UInt8,ds= [.str s]∧s.length<=maxLen
  |some (.slice e)=> ∃rows,ds= [.sl (P.cellsOf e) rows]∧rows.length<=maxLen∧ ∀r∈rows,Shp P n e r
  |some (.struct fs)=>q12 (Shp P n) fs.toList ds
  |some (.array m e)=>ShpA (Shp P n e) m ds
  | _=>False
def outG (W:World):Ghost:=λb=>match W.heap[b]?with
 |some (.cells c _ _)=> .row c.size none
 | _=> .out
def q9m (W:World):Prop:= ∀k∈xbc,∃v,W.cell? ⟨k,0,none⟩=some v∧xlm v=true
theorem xcj {W:World} (h:xbc= []:=by rfl):q9m W:=λk d=>by rw[h]at d;cases d
theorem xnc (W:World) (hg:q9m W):Dom (outG W) W:=⟨λb hb=>by
 unfold outG;rw[jEe hb],λk hk=>by
 obtain⟨v,d,h2⟩:=hg k hk;have h:=d;unfold World.cell? at d;cases hh:W.heap[k]?with
 |none=>simp[hh]at d
 |some o=>
  cases o<;>simp[hh]at d
  rename_i c e f;refine⟨c.size-1,v,?_,h,h2⟩;have:0<c.size:=by
   rcases jC7 c.size with i|i
   ·simp[Array.eq_empty_of_size_eq_zero i]at d
   ·exact i
  simp only[outG,hh];rw[Nat.sub_add_cancel this]⟩
section
variable {H:Type} {enc:TypeId×Value→H} {P:Program} {W:World} {spare:Nat→Bool} {held:Bool}
theorem RL.one {g:Ghost} {w:World} {v:Value} {d:D} (h:RV g w v d) (hd:d.isCell=true):RL g w [v] [d]:=by
 refine⟨rfl,by simpa using hd,λj u e i l=> ?_⟩;cases j with
 |zero=>simp at i l;subst i l;exact h
 |succ j=>simp at i
theorem xgj {a:Addr} {n:Nat} {l:List Value} (h:W.cells? 0 a n=some l):l.length=n∧ ∀(j:Nat) (u:Value),l[j]? =some u->W.cell? (a.add j)=some u:=by
 unfold World.cells? at h;rw[if_pos (jAj _)]at h;obtain⟨d,h2⟩:=kr h;simp at d;refine⟨d.symm,λj u e=> ?_⟩;have hj:j<n:=by rw[d];exact(jAd.1 e).1
 exact h2 j j u (by simp[hj]) e
theorem xnd (a:Addr) (i j:Nat) (h:a.spot=none):(a.add i).add j=a.add (i+j):=by
 obtain⟨b,o,s⟩:=a;simp only at h;subst h;rw[Addr.add_lit,Addr.add_lit,Addr.add_lit,jDo]
theorem xne {n:Nat} {e:TypeId} (l:Nat) (hpos:0<l) (a:Addr) (len:Nat)
  (h: ∀i,i<len-> ∃cs,W.cells? 0 (a.add (i*l)) l=some cs∧ ∃q,RL (outG W) W cs q∧Shp P n e q):
  ∀m,m<=len-> ∃(cs:List Value) (rows:List (List D)),rows.length=m∧RL (outG W) W cs rows.flatten∧cs.length=m*l∧(∀r∈rows,r.length=l∧Shp P n e r)∧
   (0<m->a.spot=none)∧ ∀(j:Nat) (u:Value),cs[j]? =some u->W.cell? (a.add j)=some u:=by
 intro m;induction m with
 |zero=>intro _;exact⟨[],[],rfl,⟨rfl,by simp,by simp⟩,by simp,by simp,λh=>by omega,by simp⟩
 |succ m ih=>
  intro hm;obtain⟨cs,rows,h1,h2,E,h4,h5,h6⟩:=ih (by omega);obtain⟨z,hc,q,A,q2⟩:=h m (by omega);obtain⟨C,B⟩:=xgj hc;have d:a.spot=none:=by
   by_cases t:0<m
   ·exact h5 t
   ·have hz:m=0:=by omega
    subst hz;have hu:z[0]? =some (z[0]'(by omega)):=jAa (by omega);have:=B 0 _ hu;simp only[jEi,Addr.add_zero']at this;unfold World.cell? at this;split at this
    ·split at this
     ·cases this
     ·rename_i hs;simpa using hs
    ·cases this
  refine⟨cs++z,rows++ [q],by simp[h1],?_,by rw[jAc,E,C,jCy],λr o=> ?_,λ_=>d,λj u p=> ?_⟩
  ·rw[jDa,List.flatten_cons,List.flatten_nil,jAu];exact h2.append A
  ·rcases jAs.1 o with o|o
   ·exact h4 r o
   ·simp at o;subst o;exact⟨by rw[<- A.1,C],q2⟩
  ·by_cases v:j<cs.length
   ·rw[jA3 v]at p;exact h6 j u p
   ·rw[jBb (by omega),E]at p;have:=B _ u p;rw[xnd _ _ _ d]at this;rwa [show m*l+(j-m*l)=j by omega]at this
theorem q13 {S:TypeId->List D->Prop} {cs:List Value}: ∀(i:List Field) (off d:Nat),q11 P off i=some d->d<=cs.length->
  (∀f∈i,∃e,RL (outG W) W ((cs.drop f.offset).take (P.cellsOf f.type)) e∧S f.type e) -> ∃e,RL (outG W) W ((cs.drop off).take (d-off)) e∧q12 S i e∧off<=d
 | [],off,d,h,_,_=>by
  simp only[q11,jA8]at h;subst h;exact⟨[],by simp[RL],rfl,jAi _⟩
 |f::i,off,d,h,hs,hf=>by
  simp only[q11]at h;split at h
  ·rename_i ho;obtain⟨e,q1,q2,q3⟩:=q13 i _ d h hs (λg hg=>hf g (jA9 _ hg));obtain⟨m,l,r2⟩:=hf f jA7;rw[ho]at l;refine⟨m++e,?_,⟨m,e,rfl,r2,q2⟩,by omega⟩;have:(cs.drop off).take (d-off)=(cs.drop off).take (P.cellsOf f.type)++(cs.drop (off+P.cellsOf f.type)).take (d-(off+P.cellsOf f.type)):=by
    rw[show d-off=P.cellsOf f.type+(d-(off+P.cellsOf f.type)) by omega,jFn,jCq]
   rw[this];exact l.append q1
  ·cases h
theorem q9n {S:List D->Prop} {cs:List Value} (d:Nat): ∀(m off:Nat),off+m*d<=cs.length->
  (∀i,i<m-> ∃e,RL (outG W) W ((cs.drop (off+i*d)).take d) e∧S e) -> ∃e,RL (outG W) W ((cs.drop off).take (m*d)) e∧ShpA S m e
 |0,off,_,_=>⟨[],by simp[RL],rfl⟩
 |m+1,off,hs,h=>by
  rw[jCy]at hs;obtain⟨e,q1,q2⟩:=q9n (S:=S) (cs:=cs) d m (off+d) (by omega) (λi hi=>by
   have:=h (i+1) (by omega);rwa [jCy,show off+(i*d+d)=off+d+i*d by omega]at this)
  obtain⟨o,l,r2⟩:=h 0 (by omega);rw[jEi,Nat.add_zero]at l;refine⟨o++e,?_,⟨o,e,rfl,r2,q2⟩⟩;have:(cs.drop off).take ((m+1)*d)=(cs.drop off).take d++(cs.drop (off+d)).take (m*d):=by
   rw[jCy,Nat.add_comm (m*d) d,jFn,jCq]
  rw[this];exact l.append q1
theorem qxv: ∀(n v:Nat) (t:TypeId) (cs:List Value) (x:DataW H×List MemPlace),ql6 P n t=true->DataW.trod enc P W 0 spare held v t cs=some x->
  ∃B,RL (outG W) W cs B∧Shp P n t B
 |0,_,_,_,_,h,_=>by simp[ql6]at h
 |n+1,v,t,cs,x,hp,h=>by
  unfold ql6 at hp;unfold Shp;cases hu:P.underlying t with
  |none=>rw[hu]at hp;cases hp
  |some d=>
   rw[hu]at hp;cases d with
   |bool=>
    obtain⟨b,rfl,_⟩:=DataW.trod_bool hu h;exact⟨[.bool b],RL.one (.bool b) rfl,b,rfl⟩
   |int k=>
    obtain⟨i,rfl,_,R⟩:=DataW.trod_int hu h;exact⟨[.int k i],RL.one (.int k i) rfl,i,rfl,R⟩
   |string=>
    obtain⟨s,rfl,_,R⟩:=DataW.trod_string hu h;refine⟨[.str s.data.toList],RL.one ?_ rfl,s.data.toList,rfl,by rw[jBr];exact R⟩;have:=RV.str (g:=outG W) (w:=W) s.data.toList;simpa using this
   |slice e=>
    simp only[jAf,decide_eq_true_eq]at hp;rcases DataW.trod_slice hu h with⟨rfl,_⟩|⟨a,len,cap,q,rest,k,_,rfl,_,hb,F,hc,hel,hi,_,_⟩
    ·exact⟨[.sl (P.cellsOf e) []],RL.one (.nilsl none 0 _ (λ_=>rfl)) rfl,[],rfl,by simp,by simp⟩
    ·obtain⟨cs,rows,h1,Z,h3,Y,h5,h6⟩:=xne (W:=W) (P:=P) (n:=n) (e:=e) (P.cellsOf e) hp.2 a len (λi A=>by
      have u:=hi i A;have h8:q[i]? =some (q[i]'(by omega)):=jAa (by omega);rw[h8,jEb]at u;obtain⟨cs,X,hx⟩:=u;exact⟨cs,X,qxv n k e cs _ hp.1 hx⟩) len (jAi _)
     refine⟨[.sl (P.cellsOf e) rows],RL.one ?_ rfl,rows,rfl,by omega,λr E=>(Y r E).2⟩;by_cases hz:len=0
     ·subst hz;have:rows= []:=jAy h1;subst this;exact .nilsl (some a) cap _ (by simp)
     ·have o:=h5 (by omega);obtain⟨b,off,sp⟩:=a;simp only at o;subst o;subst h1;have hflat:rows.flatten.length=rows.length*P.cellsOf e:=xm (λr E=>(Y r E).1);have hcl:cs.length=rows.flatten.length:=Z.1;have z:cs[cs.length-1]? =some (cs[cs.length-1]'(by have:=Nat.mul_pos (show 0<rows.length by omega) hp.2;omega)):=jAa _;have l:=h6 _ _ z;rw[Addr.add_lit]at l;unfold World.cell? at l;split at l
      ·rename_i c te fr p;simp only at p;have hlt:off+(cs.length-1)<c.size:=by
        simp only[jDd,jAw,if_false]at l;exact(jA5.1 l).1
       refine .sl b off cap _ c.size none rows (λj=>(cs[j]?).getD undef) (by unfold outG;rw[p]) (by omega) F (λr E=>(Y r E).1) Z.2.1 (λj d J=> ?_) (λj d J=> ?_)
       ·have G:j<cs.length:=by rw[hcl];exact(jAd.1 J).1
        have:=h6 j _ (jAa G);rw[Addr.add_lit]at this;rw[this,jAa G];rfl
       ·have G:j<cs.length:=by rw[hcl];exact(jAd.1 J).1
        have:=Z.2.2 j _ d (jAa G) J;rw[jAa G];exact this
      ·cases l
   |struct fs=>
    simp only[jAf,beq_iff_eq,jAx]at hp;obtain⟨xs,k,_,_,F,C,U⟩:=DataW.trod_struct hu h;obtain⟨B,O,M,_⟩:=q13 (W:=W) (P:=P) (S:=Shp P n) (cs:=cs) fs.toList 0 _ hp.2 (by omega) (λf I=>by
     obtain⟨i,hi⟩:=jBh I;have u:=U i f (by simpa using hi);have A:i<xs.length:=by rw[C];have:=(jAd.1 hi).1;simpa using this
     rw[jAa A]at u;exact qxv n k f.type _ _ (hp.1 f I) u)
    refine⟨B,?_,M⟩;rwa [jCz,List.drop_zero,<- F,jAr]at O
   |array m e=>
    simp only[jAf,beq_iff_eq]at hp;obtain⟨xs,k,_,_,F,C,U⟩:=DataW.trod_array hu h;obtain⟨B,O,M⟩:=q9n (W:=W) (S:=Shp P n e) (cs:=cs) (P.cellsOf e) m 0 (by omega) (λi hi=>by
     have u:=U i hi;rw[jAa (by omega)]at u;rw[Nat.zero_add];exact qxv n k e _ _ hp.1 u)
    refine⟨B,?_,M⟩;rwa [List.drop_zero,<- hp.2,<- F,jAr]at O
   | _=>cases hp
end
end Go.Abs
