/- Texts Wd, We, Va, Wf, Wg, Wh, Kb. -/
import Derived.Test.YtkcdbcbpbolgkaaGreatDoorMrm
import Derived.OwnWalkIn
import Derived.TacticsInMore
import Derived.LoopIn
import Derived.WalkKit
set_option linter.unusedSimpArgs false
set_option linter.unusedVariables false
set_option linter.defProp false
set_option maxRecDepth 100000
noncomputable section
namespace Go.Proofs.YtkcdbcbpbolgkaaGreatDoor
open Tryz
open Go.Abs Go.RowKit
theorem qwx (ro:Option Nat):(Fw ro).round=ro:=rfl
theorem xo1 (ro:Option Nat) (f:FuncId):(Fw ro).fn f=True:=rfl
theorem qwy (ro:Option Nat):(Fw ro).depth=none:=rfl
attribute [local go_sem] qwx xo1 qwy
def partsOf (r:List UInt8):List (Nat×List UInt8):=if h:r.length>22 then(1,r.take 22)::partsOf (r.drop 22)else [(2,r)]
termination_by r.length
decreasing_by simp;omega
def qda (p:Nat×List UInt8):List D:= [.int .u8 (p.1:Nat),.sl 1 (qe p.2)]
theorem yn {r:List UInt8} (h:r.length>22):partsOf r=(1,r.take 22)::partsOf (r.drop 22):=by rw[partsOf,dif_pos h]
theorem yo {r:List UInt8} (h: ¬r.length>22):partsOf r= [(2,r)]:=by rw[partsOf,dif_neg h]
theorem qmd (r:List UInt8): ∀n,(0<n->22*n<r.length) ->(partsOf r).drop n=partsOf (r.drop (22*n))
 |0,_=>by simp
 |n+1,h=>by
  have h1:=h (by omega);have ih:=qmd r n (λ_=>by omega);rw[<- jCq,ih,yn (by rw[jAq];omega),jCs,List.drop_zero,jCq];rfl
theorem qwz {r:List UInt8} {n:Nat} {p:Nat×List UInt8} {l:List (Nat×List UInt8)} (h:(partsOf r).drop n=p::l):((partsOf r).map qda)[n]? =some (qda p):=by
 have:(partsOf r)[n]? =some p:=by
  have:=congrArg (λl=>l[0]?) h;simpa using this
 rw[jAn,this];rfl
theorem q0f {W:World} {b:Nat} {c:Array Value} {e:TypeId} {z:Nat×Nat} (v:Value) (h:W.heap[b]? =some (.cells c e z)):(W.setCell ⟨b,0,none⟩ v).heap[b]? =some (.cells (c.setIfInBounds 0 v) e z):=by
 simp[World.setCell,jEm,h]
theorem qw0 {W:World} {b k:Nat} (v:Value) (h:k≠b):(W.setCell ⟨b,0,none⟩ v).heap[k]? =W.heap[k]? :=by
 simp[World.setCell,jEm,Ne.symm h]
theorem xdz {g:Ghost} {w:World} {b off cap len:Nat} {r:List UInt8} (h:RV g w (.slice (some ⟨b,off,none⟩) len cap) (.sl 1 (qe r))) (n m c:Nat) (hn:n+m<=r.length) (hc:m<=c) (h0:r≠ []):
  RV g w (.slice (some ⟨b,off+n,none⟩) m c) (.sl 1 (qe ((r.drop n).take m))):=by
 generalize p:qe r=rows at h;have t:rows≠ []:=by rw[<- p];cases r<;>simp[qe]at h0⊢
 cases h with
 |nilsl=>exact(t rfl).elim
 |sl _ _ _ _ n0 o _ f hg hnn hcap hes hcl hcell hrv=>
 subst p;have q:(qe ((r.drop n).take m)).flatten=(((qe r).flatten).drop n).take m:=by simp only[qdq,jDh,jEp]
 have l:(qe ((r.drop n).take m)).length=m:=by rw[js,jAl,jAq];omega
 have e: ∀(j:Nat) (d:D),(qe ((r.drop n).take m)).flatten[j]? =some d->(qe r).flatten[n+j]? =some d:=by
  intro j d i;rw[q,jBx]at i;split at i
  ·rwa [jFs]at i
  ·cases i
 have:=RV.sl (g:=g) (w:=w) b (off+n) c 1 n0 o (qe ((r.drop n).take m)) (λj=>f (n+j)) hg (by
   rw[q,jAl,jAq];have h1:(qe r).flatten.length=r.length:=by simp[qdq]
   rw[h1]at hnn⊢;omega) (by rw[l];exact hc) (by intro x hx;obtain⟨c,_,rfl⟩:=jAo.1 hx;rfl) (by
   intro d hd;obtain⟨j,i⟩:=jBh hd;exact hcl d (jAe (e j d i))) (λj d i=>by rw[jDq];exact hcell _ d (e j d i)) (λj d i=>hrv _ d (e j d i))
 rwa [l]at this
set_option maxHeartbeats 1000000 in
theorem q90 (r:List UInt8) (hl:r.length<=1000000000):ASeq prog 232 [.ptr 0 0] [.row [.d (.sl 1 (qe r))]] ((partsOf r).map qda):=by
 refine⟨by rw[func232];rfl,?_⟩;intro g w lb l J t hlb hrv U hab hY h0;match lb,hlb with
 | [v0],_=>
 have hp:=hrv 0 v0 _ rfl rfl;cases hp with
 |ptr b _ _ hg=>
 obtain⟨b',hb',hro⟩:=(U.objs 0 _ rfl (by simp)).resolve_right (λh=>by cases h.1);have:b'=b:=U.inj b' b 0 hb' hg;subst this;obtain⟨c,e,hh,hsz,hc⟩:=hro;obtain⟨v,X,_,R⟩:=hc 0 _ rfl;have R:RV g w v (.sl 1 (qe r)):=R;refine callsIn_of_wp func232 rfl trivial ?_ rfl;simp only[ntmps232,List.size_toArray,List.length_cons,List.length_nil,Nat.reduceAdd,Nat.reduceSub,jFi,jFh,List.push_toArray,jFo,List.nil_append,List.cons_append];generalize hvd:qe r=rows at R;cases R with
 |nilsl a cc _ hn=>
  have hr0:r= []:=by cases r<;>simp[qe]at hvd⊢
  subst hr0;have q:(partsOf []).drop 0= [(2,[])]:=by rw[List.drop_zero,yo (by simp)]
  refine wpIn_seq (wpIn_block ?_);refine qcl (λm a W=>(∃t3 t4 t5 t6 t7 t8 t9 I G F E C z,a={tmps:= #[.func (.yield l) #[] #[],.pointer (some ⟨b',0,none⟩),undef,t3,t4,t5,t6,t7,t8,t9,I,G,F,E,C,z],defers:= []})∧W.heap[b']? =some (.cells c e (0,0))∧J 0 W) (n0:=0)
   ⟨⟨_,_,_,_,_,_,_,_,_,_,_,_,_,rfl⟩,hh,h0⟩ ?_
  rintro m ac W ⟨⟨t3,t4,t5,t6,t7,t8,t9,I,G,F,E,C,z,rfl⟩,u,hJ⟩;have hcW:W.cell? ⟨b',0,none⟩=some (.slice a 0 cc):=by simp[World.cell?,u,X]
  have hfW:W.frozen? ⟨b',0,none⟩=false:=by simp[World.frozen?,u]
  obtain⟨fn,tmps,assign,body,hy,hR⟩:=hY 0 _ [.int .u8 2,.slice a 0 cc] W (qwz q) hJ rfl (by
   intro i v d hi t;match i with
   |0=>simp[qda]at hi t;subst hi;subst t;exact .int _ _
   |1=>simp[qda]at hi t;subst hi;subst t;exact .nilsl a cc 1 hn
   |i+2=>simp at hi)
  gi_wp2
  refine hR.mono ?_;rintro e1 W1 ⟨rfl,O,hk1⟩;gi_wp2
  go_end0
  have Z:(partsOf []).length=1:=by have:=congrArg List.length q;simpa using this
  exact⟨⟨_,rfl⟩,by rw[jAm,Z];exact O⟩
 |sl bb off cap _ n0 o _ f hgb hnn hcap hes hcl hcell hrvv=>
 subst hvd;have R:RV g w (.slice (some ⟨bb,off,none⟩) (qe r).length cap) (.sl 1 (qe r)):=R;refine wpIn_seq (wpIn_block ?_);refine qcl (λm a W=> ∃n,m=r.length-22*n∧22*n<=r.length∧(0<n->22*n<r.length)∧(∃t3 t4 t5 t6 t7 t8 t9 I G F E C z,a={tmps:= #[.func (.yield l) #[] #[],.pointer (some ⟨b',0,none⟩),undef,t3,t4,t5,t6,t7,t8,t9,I,G,F,E,C,z],defers:= []})∧
  W.heap[b']? =some (.cells (c.setIfInBounds 0 (.slice (some ⟨bb,off+22*n,none⟩) (r.length-22*n) (cap-22*n))) e (0,0))∧J n W) (n0:=r.length) ⟨0,by omega,by omega,by omega,⟨_,_,_,_,_,_,_,_,_,_,_,_,_,rfl⟩,?_,h0⟩ ?_
 ·rw[js]at X;rw[hh,show off+22*0=off by omega,show r.length-22*0=r.length by omega,show cap-22*0=cap by omega];congr 2;apply Array.ext
  ·simp
  ·intro i h1 h2;rw[Array.getElem_setIfInBounds];split
   ·rename_i h;subst h;simpa[jEv h1]using X
   ·rfl
 rintro m a W ⟨n,rfl,hn1,Y,⟨t3,t4,t5,t6,t7,t8,t9,I,G,F,E,C,z,rfl⟩,u,hJ⟩;have hcW:W.cell? ⟨b',0,none⟩=some (.slice (some ⟨bb,off+22*n,none⟩) (r.length-22*n) (cap-22*n)):=by
  have:0<c.size:=by simp at hsz;omega
  simp[World.cell?,u,this]
 have hfW:W.frozen? ⟨b',0,none⟩=false:=by simp[World.frozen?,u]
 by_cases p:r.length-22*n>22
 ·have hmi:((r.length-22*n:Nat):Int)>22:=by omega
  have hlc:r.length<=cap:=by simpa[js]using hcap
  have hci:(22:Int)<=((cap-22*n:Nat):Int):=by omega
  have hci2:(22:Int)<=((r.length-22*n:Nat):Int):=by omega
  have hci3:((r.length-22*n:Nat):Int)<=((cap-22*n:Nat):Int):=by omega
  have q:(partsOf r).drop n=(1,(r.drop (22*n)).take 22)::partsOf ((r.drop (22*n)).drop 22):=by rw[qmd r n Y,yn (by rw[jAq];exact p)]
  obtain⟨fn,tmps,assign,body,hy,hR⟩:=hY n _ [.int .u8 1,.slice (some ⟨bb,off+22*n,none⟩) 22 (cap-22*n)] W (qwz q) hJ rfl (by
   intro i v d hi t;match i with
   |0=>simp[qda]at hi t;subst hi;subst t;exact .int _ _
   |1=>simp[qda]at hi t;subst hi;subst t;exact xdz R (22*n) 22 _ (by omega) (by omega) (by intro h;rw[h]at p;simp at p)
   |i+2=>simp at hi)
  gi_wp2
  refine hR.mono ?_;rintro e1 W1 ⟨rfl,O,hk1⟩;have M:=(hk1 b' 0 hg).trans u;have hcW1:W1.cell? ⟨b',0,none⟩=some (.slice (some ⟨bb,off+22*n,none⟩) (r.length-22*n) (cap-22*n)):=by
   have:0<c.size:=by simp at hsz;omega
   simp[World.cell?,M,this]
  have hfW1:W1.frozen? ⟨b',0,none⟩=false:=by simp[World.frozen?,M]
  gi_wp2
  refine⟨_,?_,n+1,rfl,by omega,by omega,⟨_,_,_,_,_,_,_,_,_,_,_,_,_,rfl⟩,?_,?_⟩
  ·omega
  ·rw[q0f _ M,Array.setIfInBounds_setIfInBounds];have e1:off+22*n+22=off+22*(n+1):=by omega
   have e2:r.length-22*n-22=r.length-22*(n+1):=by omega
   have e3:cap-22*n-22=cap-22*(n+1):=by omega
   rw[e1,e2,e3]
  ·refine hab (n+1) W1 _ O rfl rfl rfl (by simp[World.setCell]) (λk hk=>qw0 _ (λh=>hk 0 (h▸hg)))
 ·have hmi: ¬((r.length-22*n:Nat):Int)>22:=by omega
  have q:(partsOf r).drop n= [(2,r.drop (22*n))]:=by rw[qmd r n Y,yo (by rw[jAq];exact p)]
  have Z:(partsOf r).length=n+1:=by
   have:=congrArg List.length q;simp at this;omega
  obtain⟨fn,tmps,assign,body,hy,hR⟩:=hY n _ [.int .u8 2,.slice (some ⟨bb,off+22*n,none⟩) (r.length-22*n) (cap-22*n)] W (qwz q) hJ rfl (by
   intro i v d hi t;match i with
   |0=>simp[qda]at hi t;subst hi;subst t;exact .int _ _
   |1=>
    simp[qda]at hi t;subst hi;subst t;rcases jC8 n with rfl|hn0
    ·have e1:cap-22*0=cap:=by omega
     rw[e1];simpa[js]using R
    ·have h1:=Y hn0;have:=xdz R (22*n) (r.length-22*n) (cap-22*n) (by omega) (by
      have:r.length<=cap:=by simpa[js]using hcap
      omega) (by intro h;rw[h]at h1;simp at h1)
     rwa [jAr (by rw[jAq];omega)]at this
   |i+2=>simp at hi)
  gi_wp2
  refine hR.mono ?_;rintro e1 W1 ⟨rfl,O,hk1⟩;gi_wp2
  go_end0
  exact⟨⟨_,rfl⟩,by rw[jAm,Z];exact O⟩
end Go.Proofs.YtkcdbcbpbolgkaaGreatDoor
namespace Go.Proofs.YtkcdbcbpbolgkaaGreatDoor
open Tryz
open Go.Abs
def d160:=cut prog f160 news
@[go_sem] def E160:=qm d160
def F160:=fnC d160 follows func160
def d88:=cut prog f88 news
@[go_sem] def E88:=qm d88
def F88:=fnC d88 follows func88
theorem xjx (r:List UInt8):qh prog 160 [.d (.sl 1 (qe r))] [] (.d (.func (.func 232) [] [.ptr 0 0])) [.row [.d (.sl 1 (qe r))]]:=by
 refine F160.go ?_;refine ez ?_;exact⟨_,rfl⟩
def jo (p:Nat×List UInt8):List UInt8:= [UInt8.ofNat p.1,UInt8.ofNat p.2.length]++p.2++List.replicate (22-p.2.length) 0
def qfv (x:List UInt8×Nat) (p:Nat×List UInt8):List UInt8×Nat:=(x.1++jo p++be8 (fnv x.2 (jo p)),fnv x.2 (jo p))
def v6 (x:List UInt8×Nat) (l:List (Nat×List UInt8)):List UInt8×Nat:=l.foldl qfv x
def yu (d r:List UInt8):List UInt8:=(v6 (d,qbu d) (partsOf r)).1
theorem qbk: ∀(n:Nat) (r:List UInt8),r.length<=n-> ∀p∈partsOf r,(p.1=1∨p.1=2)∧p.2.length<=22
 |n,r,hn=>by
  intro p hp;by_cases h:r.length>22
  ·rw[yn h]at hp;rcases jAv.1 hp with rfl|hp
   ·exact⟨.inl rfl,by simp;omega⟩
   ·cases n with
    |zero=>omega
    |succ n=>exact qbk n (r.drop 22) (by rw[jAq];omega) p hp
  ·rw[yo h]at hp;have:p=(2,r):=by simpa using hp
   subst this;exact⟨.inr rfl,by simp only;omega⟩
theorem qqu: ∀(n:Nat) (r:List UInt8),r.length<=n->(partsOf r).length<=r.length+1
 |n,r,hn=>by
  by_cases h:r.length>22
  ·rw[yn h];cases n with
   |zero=>omega
   |succ n=>
    have:=qqu n (r.drop 22) (by rw[jAq];omega);rw[jAq]at this;rw[List.length_cons];omega
  ·rw[yo h];simp
theorem qd4 {p:Nat×List UInt8} (h:p.2.length<=22):(jo p).length=24:=by simp[jo];omega
theorem q0g (x:List UInt8×Nat) (l:List (Nat×List UInt8)) (p:Nat×List UInt8):v6 x (l++ [p])=qfv (v6 x l) p:=by unfold v6;rw[jCm,List.foldl_cons,List.foldl_nil]
theorem qqv (x:List UInt8×Nat): ∀l:List (Nat×List UInt8),(∀p∈l,p.2.length<=22) ->(v6 x l).1.length=x.1.length+32*l.length:=by
 intro l h;induction l generalizing x with
 |nil=>simp[v6]
 |cons p l ih=>
  have:=ih (qfv x p) (λq hq=>h q (jA9 _ hq));have h1:=qd4 (h p jA7);have h2:v6 x (p::l)=v6 (qfv x p) l:=rfl;rw[h2,this,qfv];simp only[jAc,kw,h1,List.length_cons];omega
theorem q6z (d:List UInt8):qbu d<18446744073709551616:=by
 unfold qbu;split
 ·omega
 ·have:=qwt 8 (d.drop (d.length-8)) (by rw[jAq];omega);have e:(256:Nat)^8=18446744073709551616:=by decide
  omega
theorem q91 (x:List UInt8×Nat) (d:x.2<18446744073709551616) (l:List (Nat×List UInt8)):(v6 x l).2<18446744073709551616:=by
 induction l generalizing x with
 |nil=>exact d
 |cons p l ih=>
  have h1:(qfv x p).2=fnv x.2 (jo p):=by rw[qfv]
  have h2:(qfv x p).2<18446744073709551616:=by rw[h1];exact qqr d _
  have h3:v6 x (p::l)=v6 (qfv x p) l:=rfl;rw[h3];exact ih _ h2
theorem q4k {cs new:List ASlot} {off:Nat} (h:off+new.length<=cs.length):qbf cs off new=cs.take off++new++cs.drop (off+new.length):=by
 apply jC6;intro i;rw[qez new cs off i h];split
 ·rename_i hi;rw[jAj,jBc (by rw[jAl];omega),jAl,jDy (by omega),jA3 (by omega)]
 ·rename_i hi;rcases jB9 i off with d|d
  ·rw[jAj,jA3 (by rw[jAl];omega),jBx,if_pos d]
  ·rw[jBc (by simp only[jAc,jAl];omega),jFs];congr 1;simp only[jAc,jAl];omega
theorem q92 (p:Nat×List UInt8) (h1:p.1=1∨p.1=2) (h2:p.2.length<=22):
  qbf [ASlot.d (D.int .u8 (p.1:Nat)),ASlot.d (D.int .u8 (IntKind.u8.wrap (p.2.length:Nat))),ASlot.d (D.int .u8 0),ASlot.d (D.int .u8 0),ASlot.d (D.int .u8 0),ASlot.d (D.int .u8 0),ASlot.d (D.int .u8 0),ASlot.d (D.int .u8 0),ASlot.d (D.int .u8 0),ASlot.d (D.int .u8 0),ASlot.d (D.int .u8 0),ASlot.d (D.int .u8 0),ASlot.d (D.int .u8 0),ASlot.d (D.int .u8 0),ASlot.d (D.int .u8 0),ASlot.d (D.int .u8 0),ASlot.d (D.int .u8 0),ASlot.d (D.int .u8 0),ASlot.d (D.int .u8 0),ASlot.d (D.int .u8 0),ASlot.d (D.int .u8 0),ASlot.d (D.int .u8 0),ASlot.d (D.int .u8 0),ASlot.d (D.int .u8 0)] 2 (List.map ASlot.d (List.take 22 (qe p.2)).flatten)=((jo p).map jv).map ASlot.d:=by
 have e1:(List.take 22 (qe p.2)).flatten=p.2.map jv:=by rw[jAr (by rw[js];exact h2),qdq]
 have e2: [ASlot.d (D.int .u8 (p.1:Nat)),ASlot.d (D.int .u8 (IntKind.u8.wrap (p.2.length:Nat))),ASlot.d (D.int .u8 0),ASlot.d (D.int .u8 0),ASlot.d (D.int .u8 0),ASlot.d (D.int .u8 0),ASlot.d (D.int .u8 0),ASlot.d (D.int .u8 0),ASlot.d (D.int .u8 0),ASlot.d (D.int .u8 0),ASlot.d (D.int .u8 0),ASlot.d (D.int .u8 0),ASlot.d (D.int .u8 0),ASlot.d (D.int .u8 0),ASlot.d (D.int .u8 0),ASlot.d (D.int .u8 0),ASlot.d (D.int .u8 0),ASlot.d (D.int .u8 0),ASlot.d (D.int .u8 0),ASlot.d (D.int .u8 0),ASlot.d (D.int .u8 0),ASlot.d (D.int .u8 0),ASlot.d (D.int .u8 0),ASlot.d (D.int .u8 0)]=([UInt8.ofNat p.1,UInt8.ofNat p.2.length]++List.replicate 22 0).map (λc=>ASlot.d (jv c)):=by
  have a1:((p.1:Nat):Int)=((UInt8.ofNat p.1).toNat:Int):=by rcases h1 with h|h<;>rw[h]<;>rfl
  have a2:=qwq p.2.length;rw[a1,a2];rfl
 rw[e1,e2,q4k (by simp;omega)];have a3:([UInt8.ofNat p.1,UInt8.ofNat p.2.length]++List.replicate 22 (0:UInt8)).drop (2+p.2.length)=List.replicate (22-p.2.length) 0:=by
  rw[List.drop_append,jDu (by simp),List.nil_append,List.drop_replicate];congr 1;simp only[List.length_cons,List.length_nil];omega
 rw[<- jDh,<- jEp,jAm,jAm,a3,jo];simp only[List.cons_append,List.nil_append,jDr,List.take_zero,List.map_cons,List.map_nil,jA2,jEb];rfl
theorem qqw (h:Nat):qbf [ASlot.d (D.int .u8 0),ASlot.d (D.int .u8 0),ASlot.d (D.int .u8 0),ASlot.d (D.int .u8 0),ASlot.d (D.int .u8 0),ASlot.d (D.int .u8 0),ASlot.d (D.int .u8 0),ASlot.d (D.int .u8 0)] 0 (((be8 h).map jv).map ASlot.d)=((be8 h).map jv).map .d:=rfl
theorem qqx (s:List UInt8) (n:Nat):(List.take n (s.map jv)).all D.isCell=true:=by rw[<- jDh];exact qjm _
theorem qic {os:List AObj} {id n:Nat} {s:List UInt8} (h:qi os id=(s.map jv).map .d) (hn:s.length=n):qa5 os id 0 1 n=qe s:=by
 unfold qa5;rw[h,List.drop_zero,qtv,<- hn,q0c]
theorem xd0 (a b c d:AObj) (l:List AObj) (s:List UInt8) (h:s.length=24):qa5 (a::b::c::d:: .row ((s.map jv).map .d)::l) 4 0 1 24=qe s:=qic rfl h
theorem xd1 (a b c d e:AObj) (l:List AObj) (s:List UInt8) (h:s.length=8):qa5 (a::b::c::d::e:: .row ((s.map jv).map .d)::l) 5 0 1 8=qe s:=qic rfl h
def Sapp (e r:List UInt8) (h:Int) (k:Nat):St:=
 ⟨[(2,true,.d (.ptr 0 0)),(4,true,.d (.ptr 1 0)),(5,true,.d (.int .i64 0)),(7,true,.d (.ptr 2 0)),(8,true,.d (.ptr 3 0))],
  [.row [.d (.sl 1 (qe e)),.d (.int .i64 h)],.row [.d .nilsl,.d (.int .i64 0)],.row [.d (.int .u64 ((v6 (e,qbu e) ((partsOf r).take k)).2:Nat))],.row [.own 0 1 (qe (v6 (e,qbu e) ((partsOf r).take k)).1)]],[0],1⟩
def v7 (e:List UInt8) (d:Int):List D:= [.sl 1 (qe e),.int .i64 d]
theorem q0h (e:List UInt8) (d:Int):D.noPtrL (v7 e d)=true:=by simp only[v7,D.noPtrL,D.noPtr,vt,jBu]
attribute [go_sem] q0h
theorem qky (e r:List UInt8) (h:Int) (hf:e.length<=100000000) (hr:r.length<=2000):
  qh prog 88 [.d (.agg (v7 e h)),.d (.sl 1 (qe r))] [] (.tup [.d (.agg (v7 (yu e r) h)),.d (.int .i64 0)]) []:=by
 refine F88.goT ?_;have hr0:decide ((r.length:Int)>2000)=false:=by simp;omega
 refine ez1 @v7.eq_1 ?_;refine eo1 @hr0 ?_;refine no_ ?_;refine eo ?_;refine cl F159 (xo0 e (by omega)) ?_;refine eo ?_;refine clO [4] F160 (xjx r) ?_;refine ez ?_;have hft:List.take (e.length-0) (qe e)=qe e:=jAr (by rw[js];omega);refine ez1 @hft ?_;refine xrq 232 [.ptr 0 0] [4] [.row [.d (.sl 1 (qe r))]] ((partsOf r).map qda) (Sapp e r h) [(2,true,.d (.ptr 0 0)),(4,true,.d (.ptr 1 0)),(5,true,.d (.int .i64 0)),(7,true,.d (.ptr 2 0)),(8,true,.d (.ptr 3 0))]
  (q90 r (by omega)) ?_ ?_ ?_ ?_ ?_ ?_
 ·exact et4 @Sapp.eq_1 @List.take_zero.{0} @v6.eq_1 @List.foldl_nil.{0,0}
 ·intro k vs m;rw[jAn,jAb]at m;obtain⟨p,hp,rfl⟩:=m;obtain⟨p1,z⟩:=qbk _ r (jAh _) p (jAe hp);obtain⟨m,t⟩:=jAd.1 hp;have htk:(partsOf r).take (k+1)=(partsOf r).take k++ [p]:=by rw[jAk m,t]
  have C:=q91 (e,qbu e) (q6z e) ((partsOf r).take k);have u:(v6 (e,qbu e) ((partsOf r).take k)).1.length<=200000000:=by
   rw[qqv _ _ (λq hq=>(qbk _ r (jAh _) q (jBf hq)).2),jAl];have:=qqu _ r (jAh _);simp only;omega
  have i:=qd4 z;generalize hx:v6 (e,qbu e) ((partsOf r).take k)=x at C u;have hx1:v6 (e,qbu e) ((partsOf r).take (k+1))=qfv x p:=by rw[htk,q0g,hx]
  have hc:=q92 p p1 z;have l:=xdt x.2 (jo p) C (by omega);rw[i]at l;refine eo5 @Sapp.eq_1 @qda.eq_1 @hx @hx1 @hc ?_;refine clO [4] F161 l ?_;simp only[qqw,qqx,xd0 _ _ _ _ _ _ i,xd1 _ _ _ _ _ _ _ (kw _),kw,i,zc,go_sem,simprocAttr];refine⟨by omega,by omega,.weak ?_ (.refl _)⟩;exact et1 @qfv.eq_1
 ·have hw:v6 (e,qbu e) (List.take (partsOf r).length (partsOf r))=v6 (e,qbu e) (partsOf r):=by rw[jAs]
  exact et3 @Sapp.eq_1 @hw @yu.eq_1
 ·intro vs o;obtain⟨p,_,rfl⟩:=jAo.1 o;exact⟨rfl,by simp[qda,D.noPtrL,D.noPtr,vt]⟩
 ·exact et
 ·intro k id v;have:id=4:=by simpa using v
  subst this;rfl
def d306:=cut prog f306 news
@[go_sem] def E306:=qm d306
def F306:=fnC d306 follows func306
def d329:=cut prog f329 news
@[go_sem] def E329:=qm d329
def F329:=fnC d329 follows func329
def d307:=cut prog f307 news
@[go_sem] def E307:=qm d307
def F307:=fnC d307 follows func307
def d297:=cut prog f297 news
@[go_sem] def E297:=qm d297
def F297:=fnC d297 follows func297
def d296:=cut prog f296 news
@[go_sem] def E296:=qm d296
def F296:=fnC d296 follows func296
def d305:=cut prog f305 news
@[go_sem] def E305:=qm d305
def F305:=fnC d305 follows func305
def d255:=cut prog f255 news
@[go_sem] def E255:=qm d255
def F255:=fnC d255 follows func255
theorem qb9 {α:Type} (f:α->List UInt8) (k:Nat): ∀l:List α,(∀x∈l,(f x).length<=k) ->(l.flatMap f).length<=l.length*k
 | [],_=>by simp
 |x::l,h=>by
  have h1:=qb9 f k l λy hy=>h y (by simp[hy]);have h2:=h x (by simp);simp only[List.flatMap_cons,jAc,List.length_cons,jCz];omega
def qme (l:List Int):List UInt8:=wInt l.length++l.flatMap wInt
def q60 (b:List UInt8) (l:List Int) (i:Nat):St:=
 ⟨[(0,true,.own 0 1 (qe (b++(wInt l.length++(l.take i).flatMap wInt)))),(11,true,.d (.sl 1 (l.map encI))),(12,true,.d (.int .i64 l.length)),(13,true,.d (.int .i64 (i:Nat)))],[],[0],1⟩
theorem q4l (b:List UInt8) (l:List Int) (hb:b.length<=100000000) (hl:l.length<=1000) (hi: ∀x∈l,I64 x):
  qh prog 306 [.own 0 1 (qe b),.d (.sl 1 (l.map encI))] [] (.own 0 1 (qe (b++qme l))) []:=by
 have hw:=xu (zd (n:=l.length) (by omega));refine F306.go ?_;refine ez ?_;refine clA F147 (kg b l.length (by omega) (zd (by omega))) ?_;refine ez ?_;refine qk (λi:{i:Nat//i<=l.length}=>q60 b l i.val) (λi=>l.length-i.val) ⟨0,jAi _⟩ ?_ (λi=> ?_)
 ·exact et5 @q60.eq_1 @List.take_zero.{0} @List.flatMap_nil.{0,0} @jAu.{0} @jAp
 obtain⟨i,hi2⟩:=i;refine ez1 @q60.eq_1 ?_;refine xp _ (λhc=> ?_) (λhc=> ?_)
 ·have e:i<l.length:=by simpa using hc
  have hfl:=qb9 wInt 10 (l.take i) λx hx=>xu (hi x (jBf hx));have htk:(l.take i).length<=i:=by rw[jAl];omega
  have hfl2:((l.take i).flatMap wInt).length<=10000:=by omega
  have hsn:=qfu wInt l e;refine eo2 (qj encI l e) @encI.eq_1 ?_;refine clA F147 (kg (b++(wInt l.length++(l.take i).flatMap wInt)) l[i] (by simp only[jAc];omega) (hi _ (jAg e))) ?_;refine ez ?_;refine⟨⟨i+1,e⟩,?_,by dsimp only;omega⟩;exact et4 @q60.eq_1 @hsn @jAj.{0} (qg (show i<9223372036854775807 by omega))
 ·have h:i=l.length:=by
   have:l.length<=i:=by simpa using hc
   omega
  subst h;exact et2 @jAs.{0} @qme.eq_1
def wAV (v:AV):List UInt8:=wInt v.kind++(if v.kind=1 then wInt v.n else if v.kind=2 then qa7 v.s else [])
def AV.Sm (v:AV):Prop:=I64 v.kind∧I64 v.n∧v.s.length<=1000000
theorem xd2 {v:AV} (h:v.Sm):(wAV v).length<=1000020:=by
 obtain⟨h1,h2,h3⟩:=h;have a1:=xu h1;have a2:=xu h2;have a3:=qek v.s (by omega);unfold wAV;rw[jAc];split
 ·omega
 ·split
  ·omega
  ·simp only[List.length_nil];omega
theorem q0i (b:List UInt8) (v:AV) (hb:b.length<=100000000) (hv:v.Sm):
  qh prog 329 [.own 0 1 (qe b),.d (.agg (xw v))] [] (.own 0 1 (qe (b++wAV v))) []:=by
 obtain⟨m,h2,h3⟩:=hv;have a1:=xu m;refine F329.go ?_;refine ez1 @xw.eq_1 ?_;refine clA F147 (kg b v.kind (by omega) m) ?_;refine ez ?_;refine xp _ (λhc=> ?_) (λhc=> ?_)
 ·have i:v.kind=1:=by simpa using hc
  have e:wAV v=wInt v.kind++wInt v.n:=by rw[wAV,if_pos i]
  refine ez ?_;refine clA F147 (kg (b++wInt v.kind) v.n (by rw[jAc];omega) h2) ?_;exact et2 @e @jAj.{0}
 ·have i:v.kind≠1:=by simpa using hc
  refine ez ?_;refine xp _ (λl=> ?_) (λl=> ?_)
  ·have h:v.kind=2:=by simpa using l
   have e:wAV v=wInt v.kind++qa7 v.s:=by rw[wAV,if_neg i,if_pos h]
   refine ez ?_;refine clA F157 (qjj (b++wInt v.kind) v.s (by rw[jAc];omega)) ?_;exact et2 @e @jAj.{0}
  ·have h:v.kind≠2:=by simpa using l
   have e:wAV v=wInt v.kind:=by rw[wAV,if_neg i,if_neg h,jAu]
   exact et1 @e
def wAVs (l:List AV):List UInt8:=wInt l.length++l.flatMap wAV
def xjy (b:List UInt8) (l:List AV) (i:Nat):St:=
 ⟨[(0,true,.own 0 1 (qe (b++(wInt l.length++(l.take i).flatMap wAV)))),(11,true,.d (.sl 3 (l.map xw))),(12,true,.d (.int .i64 l.length)),(13,true,.d (.int .i64 (i:Nat)))],[],[0],1⟩
theorem qw1 (b:List UInt8) (l:List AV) (hb:b.length<=10000000) (hl:l.length<=50) (hi: ∀x∈l,x.Sm):
  qh prog 307 [.own 0 1 (qe b),.d (.sl 3 (l.map xw))] [] (.own 0 1 (qe (b++wAVs l))) []:=by
 have hw:=xu (zd (n:=l.length) (by omega));refine F307.go ?_;refine ez ?_;refine clA F147 (kg b l.length (by omega) (zd (by omega))) ?_;refine ez ?_;refine qk (λi:{i:Nat//i<=l.length}=>xjy b l i.val) (λi=>l.length-i.val) ⟨0,jAi _⟩ ?_ (λi=> ?_)
 ·exact et5 @xjy.eq_1 @List.take_zero.{0} @List.flatMap_nil.{0,0} @jAu.{0} @jAp
 obtain⟨i,hi2⟩:=i;refine ez1 @xjy.eq_1 ?_;refine xp _ (λhc=> ?_) (λhc=> ?_)
 ·have e:i<l.length:=by simpa using hc
  have hfl:=qb9 wAV 1000020 (l.take i) λx hx=>xd2 (hi x (jBf hx));have htk:(l.take i).length<=i:=by rw[jAl];omega
  have hfl2:((l.take i).flatMap wAV).length<=60000000:=by omega
  have hsn:=qfu wAV l e;refine eo2 (qj xw l e) @xw.eq_1 ?_;have h:=q0i (b++(wInt l.length++(l.take i).flatMap wAV)) l[i] (by simp only[jAc];omega) (hi _ (jAg e));simp only[xw]at h;refine clA F329 h ?_;refine ez ?_;refine⟨⟨i+1,e⟩,?_,by dsimp only;omega⟩;exact et4 @xjy.eq_1 @hsn @jAj.{0} (qg (show i<9223372036854775807 by omega))
 ·have m:i=l.length:=by
   have:l.length<=i:=by simpa using hc
   omega
  subst m;exact et2 @jAs.{0} @wAVs.eq_1
theorem qon (s:List UInt8) (hl:s.length<=1000000000):qh prog 297 [.d (.sl 1 (qe s))] [] (.d (.int .u64 (fnv 14695981039346656037 s:Nat))) []:=by
 have e:=xds 14695981039346656037 s (by decide) hl;refine F297.go ?_;refine eo ?_;first|refine cl F233 (e) ?_|refine clF F233 (e) (λ_=>by exact et3 @xw.eq_1 @encI.eq_1 @qf.eq_1) ?_
 exact et
def Seig (h:Nat) (i:{i:Nat//i<=8}):St:=
 ⟨[(0,true,.d (.int .u64 (h:Nat))),(2,true,.d (.ptr 0 0)),(3,true,.d (.ptr 1 0)),(5,true,.d (.int .i64 (i.val:Nat)))],[.row ((List.replicate 8 (D.int .u8 0)).map .d),.row ((((be8 h).take i.val++List.replicate (8-i.val) 0).map jv).map .d)],[],1⟩
theorem qoo (h:Nat) (hh:h<18446744073709551616):qh prog 296 [.d (.int .u64 h)] [] (.d (.agg ((be8 h).map jv))) []:=by
 refine F296.go ?_;refine ez ?_;refine qk (Seig h) (λi=>8-i.val) ⟨0,jAi _⟩ ?_ (λi=> ?_)
 ·exact et3 @Seig.eq_1 @List.take_zero.{0} @qmb
 obtain⟨i,hi⟩:=i;refine ez1 @Seig.eq_1 ?_;refine xp _ (λhc=> ?_) (λhc=> ?_)
 ·have e:i<8:=by simp at hc;omega
  have e1:IntKind.i64.wrap (7-(i:Int))=7-i:=x9 (by unfold I64;omega);have e2:IntKind.i64.wrap (8*(7-(i:Int)))=8*(7-i):=x9 (by unfold I64;omega);have hlen:=kw h;simp only[jCo,qws _ _ e,qdr,q4h _ e,e1,e2,jAl,jBp,go_sem,simprocAttr]
  (repeat(with_reducible refine ob ?_))
  refine⟨⟨i+1,e⟩,?_,by dsimp only;omega⟩;exact et2 @Seig.eq_1 (qg (show i<9223372036854775807 by omega))
 ·have l:i=8:=by simp at hc;omega
  subst l;exact et3 @q4i @be8.eq_1 @jv.eq_1
def qhq (s:List UInt8):List UInt8:=s++be8 (fnv 14695981039346656037 s)
theorem xd3 (s:List UInt8) (hl:s.length<=100000000):qh prog 305 [.d (.sl 1 (qe s))] [] (.d (.sl 1 (qe (qhq s)))) []:=by
 have e:=qqr (h:=14695981039346656037) (by decide) s;refine F305.go ?_;refine eo ?_;first|refine cl F297 (qon s (by omega)) ?_|refine clF F297 (qon s (by omega)) (λ_=>by exact et3 @xw.eq_1 @encI.eq_1 @qf.eq_1) ?_
 refine ez ?_;have hw:IntKind.i64.wrap ((s.length:Int)+8)=((s.length+8:Nat):Int):=by rw[x9 (by unfold I64;omega)];omega
 (repeat(with_reducible refine ob ?_));first|refine cl F296 (qoo _ e) ?_|refine clF F296 (qoo _ e) (λ_=>by exact et3 @xw.eq_1 @encI.eq_1 @qf.eq_1) ?_
 generalize hh:fnv 14695981039346656037 s=h;have hr:qa5 [AObj.row (((be8 h).map jv).map ASlot.d)] 0 0 1 8=qe (be8 h):=qic rfl (kw _);have h8:=kw h;have hs:qe s++qe (be8 h)=qe (qhq s):=by rw[zc,qhq,hh]
 refine eo6 @hw @qqw @qqx @kw @hr @hs ?_;omega
def kx (p:Pk):List Int:= [p.kind,p.sess,p.epoch,p.from_,p.to,p.seq,p.label]
def yd (p:Pk):List UInt8:=(kx p).flatMap wInt++wAVs p.values++qme p.clock
def qa8 (p:Pk):List UInt8×Int:=if qo p then(qhq (yd p),0)else([],1)
structure Pk.W (p:Pk):Prop where
 h: ∀x∈kx p,I64 x
 v: ∀x∈p.values,x.Sm
 c: ∀x∈p.clock,I64 x
def xjz (p:Pk) (i:Nat):St:=
 ⟨[(1,true,.d (.ptr 0 0)),(4,true,.own 0 1 (qe (((kx p).take i).flatMap wInt))),(24,true,.d (.sl 1 ((kx p).map encI))),(25,true,.d (.int .i64 7)),(26,true,.d (.int .i64 (i:Nat)))],[.row ((qf p).map .d)],[0],1⟩
theorem qkz {p:Pk} (h:qo p=true):p.values.length<=4∧p.clock.length<=6:=by
 unfold qo data ack order bare at h;grind
theorem q93 (p:Pk) (hp:p.Sm) (m:p.W):qh prog 255 [.d (.agg (qf p))] [] (.tup [.d (.sl 1 (qe (qa8 p).1)),.d (.int .i64 (qa8 p).2)]) []:=by
 refine F255.goT ?_;refine eo1 @qf.eq_1 ?_;first|refine cl F70 (zu p hp.v hp.c) ?_|refine clF F70 (zu p hp.v hp.c) (λ_=>by exact et3 @xw.eq_1 @encI.eq_1 @qf.eq_1) ?_
 refine eo ?_;refine xp _ (λh=> ?_) (λh=> ?_)
 ·have hb:qa8 p=([],1):=by unfold qa8;rw[if_neg];simpa using h
  exact et2 @hb @xa
 have t:qo p=true:=by simpa using h
 have hb:qa8 p=(qhq (yd p),0):=by unfold qa8;rw[if_pos t]
 obtain⟨f1,f2⟩:=qkz t;refine ez ?_;refine qk (λi:{i:Nat//i<=7}=>xjz p i.val) (λi=>7-i.val) ⟨0,jAi _⟩ ?_ (λi=> ?_)
 ·simp only[xjz,List.take_zero,List.flatMap_nil,xa,jAp,qf,kx,List.map_cons,List.map_nil,encI,go_sem,simprocAttr]
 obtain⟨i,hi⟩:=i;refine ez1 @xjz.eq_1 ?_;refine xp _ (λhc=> ?_) (λhc=> ?_)
 ·have l:i<(kx p).length:=by simp[kx]at hc⊢;omega
  have e:=m.h _ (jAg l);have q:=qb9 wInt 10 ((kx p).take i) λx e=>xu (m.h x (jBf e));have htk:((kx p).take i).length<=7:=by rw[jAl];omega
  have hsn:=qfu wInt (kx p) l;have h7:(kx p).length=7:=rfl;refine eo2 (qj encI (kx p) l) @encI.eq_1 ?_;refine clA F147 (kg (((kx p).take i).flatMap wInt) (kx p)[i] (by omega) e) ?_;refine ez ?_;refine⟨⟨i+1,l⟩,?_,by dsimp only;omega⟩;exact et3 @xjz.eq_1 @hsn (qg (show i<9223372036854775807 by omega))
 ·have o:i=7:=by simp at hc;omega
  subst o;have ht:(kx p).take 7=kx p:=rfl;have q:=qb9 wInt 10 (kx p) λx e=>xu (m.h x e);have h7:(kx p).length=7:=rfl;have hwv:(wAVs p.values).length<=5000000:=by
   have h1:=xu (zd (n:=p.values.length) (by omega));have h2:=qb9 wAV 1000020 p.values λx e=>xd2 (m.v x e);simp only[wAVs,jAc];omega
  have hwc:(qme p.clock).length<=5000000:=by
   have h1:=xu (zd (n:=p.clock.length) (by omega));have h2:=qb9 wInt 10 p.clock λx e=>xu (m.c x e);simp only[qme,jAc];omega
  refine ez2 @ht @qf.eq_1 ?_;refine clA F307 (qw1 ((kx p).flatMap wInt) p.values (by omega) (by omega) m.v) ?_;refine ez ?_;refine clA F306 (q4l ((kx p).flatMap wInt++wAVs p.values) p.clock (by rw[jAc];omega) (by omega) m.c) ?_;refine eo ?_;first|refine cl F305 (xd3 (yd p) (by simp only[yd,jAc];omega)) ?_|refine clF F305 (xd3 (yd p) (by simp only[yd,jAc];omega)) (λ_=>by exact et3 @xw.eq_1 @encI.eq_1 @qf.eq_1) ?_
  exact et1 @hb
def d127:=cut prog f127 news
@[go_sem] def E127:=qm d127
def F127:=fnC d127 follows func127
def d86:=cut prog f86 news
@[go_sem] def E86:=qm d86
def F86:=fnC d86 follows func86
theorem wp (s:List UInt8) (hl:s.length<=1000000000):qh prog 127 [.d (.sl 1 (qe s))] [] (.d (.sl 1 (qe s))) []:=by
 refine F127.go ?_;refine ez ?_;refine ql7 rfl rfl (λb hb=> ?_);refine eo ?_;refine xp _ (λh=> ?_) (λh=> ?_)
 ·exact et1 (hb h)
 ·refine ez ?_;omega
theorem q94 (w:World) (t:TypeId) (b:Nat) (es:Array MapEntry) (clock:Nat) (hb:w.heap[b]? =some (.map es clock)):
  (callFunc 158 #[.iface t (.map (some b))]).run prog w= .ok (.value (.iface t (.map (some w.heap.size)))) (w.alloc (.map es clock)):=by
 rw[run_callFunc_extern func158 rfl (by kernel_rfl) (by kernel_rfl) (e:=Extern.MapsClone.clone) (by kernel_rfl)];have e:Extern.MapsClone.clone #[.iface t (.map (some b))]=(getObj b>>=λo=>match o with
   | .map entries clock=>(newObj (.map entries clock)>>=λn=>pure (.iface t (.map (some n))))
   | _=>stuck "maps.clone: a map expected"):=rfl
 rw[e];simp[MapKept.run_getObj_map hb,Result.andThen]
set_option maxHeartbeats 1000000 in
theorem xd4 (es:Ents) (c:Nat):qh prog 86 [.d (.map 0)] [.map es c] (.d (.map 1)) [.map es c,.map es c]:=by
 intro g w vs hd q hv p;match vs,q with
 | [v0],_=>
 have h0:=qnd (wg (jk (hv 0 v0 _ rfl rfl)));obtain⟨b,rfl,hg⟩:=h0;obtain⟨b',E,l,hh,hl,he⟩:=(p.objs 0 _ rfl (by simp)).resolve_right (λh=>by cases h.1);have:b'=b:=p.inj b' b 0 E hg;subst this;go_enter func86,ntmps86
 have hcl:=q94 w 178 b' l.toArray c hh;have t:(binOp .eql 178 (.map (some b')) (.map none)).run prog w= .ok (.bool false) w:=by
  simp[binOp,qkd underlying178]
 have C: ∀W,(Instr.typeAssert (.iface 178 (.map (some w.heap.size))) 20 178 false).run prog W= .ok (.map (some w.heap.size)) W:=λW=>by
  simp[Instr.typeAssert,run_underlying underlying178]
 go_wp2_with (first|simp only[t,Result.andThen_ok]|simp only[hcl]|simp only[C,Result.andThen_ok])
 go_ret
 have hs:SR 0 (λ_=>False) g w ⟨[],[.map es c,.none],[],1⟩ {tmps:= #[],defers:= []}:=by
  refine⟨hd,trivial,rfl,λk v s h=>by simp[Fr.get]at h,λid o m hn=> ?_,p.inj,λb id F=> ?_,⟨by simp,λk s h=>by simp[Fr.get]at h,λid o m s hs=> ?_⟩⟩
  ·match id with
   |0=>exact p.objs 0 o m hn
   |1=>simp at m;exact(hn m.symm).elim
   |i+2=>simp at m
  ·obtain⟨o,z,G⟩:=p.ids b id F;refine⟨o,?_,G⟩;match id with
   |0=>exact z
   |i+1=>simp at z
  ·match id with
   |0=>simp at m;subst m;simp[AObj.cells]at hs
   |1=>simp at m;subst m;simp[AObj.cells]at hs
   |i+2=>simp at m
 obtain⟨q1,u⟩:=hs.newObjA (id:=1) (o:= .map es c) (blk:= .map l.toArray c) rfl (by simp) (λhG hr _=>⟨l,heap_alloc_new w _,hl,λi e x z G=>(he i e x z G).mono hr⟩) (by simp[AObj.cells]);refine⟨_,_,[],rfl,q1,u.dom,by simp[ASlot.toks,xf,AObj.cells],.map _ 1 (Ghost.at_same _ _ _),⟨λid o m hn=>u.objs id o m hn,u.inj,λb id F=>u.ids b id F⟩⟩
abbrev KV:=Nat×List UInt8×List UInt8
structure Cont where
 l:List KV
 c:Nat
 deriving DecidableEq,Inhabited
def qev (x:KV):Nat×D×D:=(x.1,.str x.2.1,.sl 1 (qe x.2.2))
def mapO (m:Cont):AObj:= .map (m.l.map qev) m.c
def zw (k:List UInt8) (x:KV):Bool:=k==x.2.1
def mPut (k v:List UInt8) (m:Cont):Cont:=match m.l.findIdx? (zw k)with
 |some j=>⟨m.l.modify j λe=>(e.1,k,v),m.c⟩
 |none=>⟨m.l++ [(m.c,k,v)],m.c+1⟩
def mDel (k:List UInt8) (m:Cont):Cont:=match m.l.findIdx? (zw k)with
 |some j=>⟨m.l.eraseIdx j,m.c⟩
 |none=>m
def mGet (k:List UInt8) (m:Cont):Option (List UInt8):=(m.l.find? (zw k)).map (·.2.2)
theorem qjn (k:List UInt8) (l:List KV):(l.map qev).findIdx? (qba (.str k))=l.findIdx? (zw k):=by
 rw[List.findIdx?_map];rfl
theorem q95 (k v:List UInt8) (m:Cont):qg9 (.str k) (.sl 1 (qe v)) m.c (m.l.map qev)=(mPut k v m).l.map qev:=by
 unfold qg9 mPut;rw[qjn];cases h:m.l.findIdx? (zw k)with
 |none=>simp[qev]
 |some j=>
  simp only;apply jC6;intro i;rw[jDn,jAn,jAn,jDn];cases m.l[i]?with
  |none=>rfl
  |some x=>
   show some (if j=i then _ else _)=some (qev (if j=i then _ else _));split<;>rfl
theorem q0j (k v:List UInt8) (m:Cont):qbz (.str k) m.c (m.l.map qev)=(mPut k v m).c:=by
 unfold qbz mPut;rw[qjn];cases m.l.findIdx? (zw k)<;>rfl
theorem q96 (k:List UInt8) (m:Cont):qo6 (.str k) (m.l.map qev)=(mDel k m).l.map qev:=by
 unfold qo6 mDel;rw[qjn];cases m.l.findIdx? (zw k)with
 |none=>rfl
 |some j=>
  simp only;apply jC6;intro i;rw[jE5,jAn,jAn,jAn,jE5];split<;>rfl
theorem xm5 (k:List UInt8) (m:Cont):(mDel k m).c=m.c:=by unfold mDel;split<;>rfl
theorem q97 (k:List UInt8) (l:List KV):keyFit .str (.str k) (l.map qev)=true:=by
 simp only[keyFit,KD.fit,jCr,List.all_map];exact jAx.2 λx _=>rfl
theorem q4m (k:List UInt8) (m:Cont):qa4 (.str k) (m.l.map qev)=(mGet k m).map λv=> .sl 1 (qe v):=by
 unfold qa4 mGet;rw[jFk];have:qba (.str k)∘qev=zw k:=rfl;rw[this];cases m.l.find? (zw k)<;>rfl
attribute [go_sem] q97
def jt:Cont->List OpS->Cont×Bool
 |m,[]=>(m,true)
 |m,o::l=>if o.del then jt (mDel o.key m) l else if(mPut o.key o.val m).l.length>400 then(mPut o.key o.val m,false)else jt (mPut o.key o.val m) l
def d87:=cut prog f87 news
@[go_sem] def E87:=qm d87
def F87:=fnC d87 follows func87
def q0k (m:Cont) (l:List OpS) (i:{i:Nat×Cont//i.1<=l.length∧jt i.2 (l.drop i.1)=jt m l}):St:=
 ⟨[(0,true,.d (.map 0)),(7,true,.d (.sl 3 (l.map qr))),(8,true,.d (.int .i64 l.length)),(9,true,.d (.int .i64 (i.val.1:Nat)))],[mapO i.val.2],[],1⟩
theorem q61 (m:Cont) (l:List OpS) (hl:l.length<=100000) (v: ∀o∈l,o.val.length<=1000000):qh prog 87 [.d (.map 0),.d (.sl 3 (l.map qr))] [mapO m] (.d (.bool (jt m l).2)) [mapO (jt m l).1]:=by
 refine F87.go ?_;refine ez1 @mapO.eq_1 ?_;refine qk (q0k m l) (λi=>l.length-i.val.1) ⟨(0,m),jAi _,rfl⟩ ?_ (λi=> ?_)
 ·exact et2 @q0k.eq_1 @mapO.eq_1
 obtain⟨⟨i,u⟩,hi,p⟩:=i;simp only at hi p;refine ez2 @q0k.eq_1 @mapO.eq_1 ?_;refine xp _ (λhc=> ?_) (λhc=> ?_)
 ·have e:i<l.length:=by simpa using hc
  have hd:l.drop i=l[i]::l.drop (i+1):=jBn e;rw[hd,jt]at p;refine eo2 (qj qr l e) @qr.eq_1 ?_
  (repeat(with_reducible refine ob ?_));refine xp _ (λh=> ?_) (λh=> ?_)
  ·rw[if_pos h]at p;refine ez1 @q96 ?_;refine⟨⟨(i+1,mDel l[i].key u),e,p⟩,?_,by dsimp only;omega⟩;exact et4 @q0k.eq_1 @mapO.eq_1 @xm5 (qg (show i<9223372036854775807 by omega))
  ·rw[if_neg (by simp[h])]at p;refine eo ?_;first|refine cl F127 (wp l[i].val (by have:=v l[i] (jAg e);omega)) ?_|refine clF F127 (wp l[i].val (by have:=v l[i] (jAg e);omega)) (λ_=>by exact et1 @qr.eq_1) ?_
   simp only[q95,q0j _ l[i].val,go_sem,simprocAttr];refine xp _ (λt=> ?_) (λt=> ?_)
   ·rw[if_pos (by simp at t;omega)]at p;exact et1 p.symm
   ·rw[if_neg (by simp at t;omega)]at p;refine ez ?_;refine⟨⟨(i+1,mPut l[i].key l[i].val u),e,p⟩,?_,by dsimp only;omega⟩;exact et3 @q0k.eq_1 @mapO.eq_1 (qg (show i<9223372036854775807 by omega))
 ·have q:i=l.length:=by simp at hc;omega
  subst q;rw[jC0,jt]at p;exact et1 p.symm
structure Sto where
 file:List UInt8
 synced:Int
 m:Cont
 deriving DecidableEq,Inhabited
def stoO (s:Sto) (id:Nat):AObj:= .row [.d (.sl 1 (qe s.file)),.d (.int .i64 s.synced),.d (.map id)]
def qch:Cont:=⟨[],0⟩
def newS:Sto:=⟨[],0,qch⟩
def d28:=cut prog f28 news
@[go_sem] def E28:=qm d28
def F28:=fnC d28 follows func28
def d29:=cut prog f29 news
@[go_sem] def E29:=qm d29
def F29:=fnC d29 follows func29
def d184:=cut prog f184 news
@[go_sem] def E184:=qm d184
def F184:=fnC d184 follows func184
def d62:=cut prog f62 news
@[go_sem] def E62:=qm d62
def F62:=fnC d62 follows func62
def d128:=cut prog f128 news
@[go_sem] def E128:=qm d128
def F128:=fnC d128 follows func128
def d61:=cut prog f61 news
@[go_sem] def E61:=qm d61
def F61:=fnC d61 follows func61
theorem xm6:qh prog 28 [] [] (.d (.ptr 1 0)) [mapO qch,stoO newS 0]:=by
 refine F28.go ?_;exact et6 @mapO.eq_1 @stoO.eq_1 @qch.eq_1 @newS.eq_1 @List.map_nil.{0,0} @xa
def xh (s:Sto) (l:List OpS):Sto×Int:=
 if(qx l).2≠0 then(s,(qx l).2)else if(jt s.m l).2=false then(s,28)else(⟨yu s.file (qx l).1,s.synced,(jt s.m l).1⟩,0)
def qc2 (s:Sto) (l:List OpS):List AObj:=if(xh s l).2=0 then [stoO (xh s l).1 2,mapO s.m,mapO (xh s l).1.m]else [stoO s 1,mapO s.m,.none]
theorem qan (l:List OpS):(qx l).1.length<=2000:=by
 unfold qx;split
 ·simp
 ·split
  ·simp
  ·rename_i h;simp only[jA1,decide_eq_true_eq,not_or]at h;simp only;omega
theorem v8 {l:List OpS} (h:(qx l).2=0):l.length<=20∧(∀o∈l,kh o=true)∧qx l=(wOps l,0):=by
 unfold qx at h⊢;split at h
 ·simp at h
 ·rename_i d;split at h
  ·simp at h
  ·rename_i e;rw[if_neg d,if_neg e];simp only[jA1,decide_eq_true_eq,not_or,jB3,not_exists,not_and]at d e;exact⟨by omega,λo ho=>by simpa using d.2 o ho,rfl⟩
theorem qk0 (s:Sto) (l:List OpS) (t:l.length<=100000) (u:s.file.length<=100000000):
  qh prog 29 [.d (.ptr 0 0),.d (.sl 3 (l.map qr))] [stoO s 1,mapO s.m] (.d (.int .i64 (xh s l).2)) (qc2 s l):=by
 refine F29.go ?_;refine eo2 @stoO.eq_1 @mapO.eq_1 ?_;refine no_ ?_;refine eo ?_;first|refine cl F85 (qia l t) ?_|refine clF F85 (qia l t) (λ_=>by exact et1 @qr.eq_1) ?_
 refine eo ?_;refine xp _ (λh=> ?_) (λh=> ?_)
 ·have i:(qx l).2≠0:=by simpa using h
  have hb:xh s l=(s,(qx l).2):=by unfold xh;rw[if_pos i]
  have hb2:qc2 s l= [stoO s 1,mapO s.m,.none]:=by unfold qc2;rw[hb,if_neg i]
  exact et4 @hb @hb2 @stoO.eq_1 @mapO.eq_1
 have e:(qx l).2=0:=by simpa using h
 obtain⟨h20,q,henc⟩:=v8 e;refine ez ?_;refine clO [1,2] F86 (xd4 (s.m.l.map qev) s.m.c) ?_;refine ez ?_;have p:=q61 s.m l t (λo ho=>by have:=(vz.1 (q o ho)).2.2.1;omega);simp only[mapO]at p
 (repeat(with_reducible refine ob ?_));refine clO [2] F87 (p) ?_ (hfit:=by first|exact⟨qd,trivial⟩|exact⟨qd,qd,trivial⟩|(refine ev1 @qr.eq_1 ?_;try exact⟨⟩))
 refine eo ?_;refine xp _ (λh=> ?_) (λh=> ?_)
 ·have hb:xh s l=(s,28):=by unfold xh;rw[if_neg (by simp[e]),if_pos (by simpa using h)]
  have hb2:qc2 s l= [stoO s 1,mapO s.m,.none]:=by unfold qc2;rw[hb,if_neg (by simp)]
  exact et4 @hb @hb2 @stoO.eq_1 @mapO.eq_1
 have hb:xh s l=(⟨yu s.file (qx l).1,s.synced,(jt s.m l).1⟩,0):=by unfold xh;rw[if_neg (by simp[e]),if_neg (by simpa using h)]
 have hb2:qc2 s l= [stoO (xh s l).1 2,mapO s.m,mapO (xh s l).1.m]:=by unfold qc2;rw[if_pos (by rw[hb])]
 refine eo ?_;first|refine cl F88 (qky s.file (qx l).1 s.synced u (qan l)) ?_|refine clF F88 (qky s.file (qx l).1 s.synced u (qan l)) (λ_=>by exact et1 @qr.eq_1) ?_
 exact et5 @v7.eq_1 @hb2 @hb @stoO.eq_1 @mapO.eq_1
def optV (o:Option (List UInt8)):List UInt8:=o.getD []
theorem xr0 (s:Sto) (k:List UInt8) (hm: ∀x∈s.m.l,x.2.2.length<=1000000):
  qh prog 184 [.d (.ptr 0 0),.d (.str k)] [stoO s 1,mapO s.m] (.tup [.d (.sl 1 (qe (optV (mGet k s.m)))),.d (.bool (mGet k s.m).isSome)]) [stoO s 1,mapO s.m]:=by
 refine F184.goT ?_;refine eo2 @stoO.eq_1 @mapO.eq_1 ?_;refine no_ ?_;refine ez1 @q4m ?_;cases hg:mGet k s.m with
 |none=>
  refine ez1 @Option.map_none.{0,0} ?_;have:=wp [] (by simp);simp only[xa]at this
  (repeat(with_reducible refine ob ?_));first|refine cl F127 (this) ?_|refine clF F127 (this) (λ_=>by exact et1 @qr.eq_1) ?_
  exact et4 @optV.eq_1 @Option.getD_none.{0} @xa @jDf.{0}
 |some v=>
  have hv:v.length<=1000000:=by
   unfold mGet at hg;rw[jAb]at hg;obtain⟨x,hx,rfl⟩:=hg;exact hm x (jBz hx)
  refine eo1 @Option.map_some.{0,0} ?_;first|refine cl F127 (wp v (by omega)) ?_|refine clF F127 (wp v (by omega)) (λ_=>by exact et1 @qr.eq_1) ?_
  exact et3 @optV.eq_1 @Option.getD_some.{0} @jDv.{0}
theorem xd5 (s:Sto) (e:s.file.length<=1000000000):
  qh prog 62 [.d (.ptr 0 0)] [stoO s 1,mapO s.m] (.d (.agg (v7 s.file s.synced))) [stoO s 1,mapO s.m]:=by
 refine F62.go ?_;refine eo2 @stoO.eq_1 @mapO.eq_1 ?_;refine no_ ?_;refine eo ?_;first|refine cl F127 (wp s.file e) ?_|refine clF F127 (wp s.file e) (λ_=>by exact et1 @qr.eq_1) ?_
 exact et1 @v7.eq_1
theorem qid (e:List UInt8) (h:Int) (i:e.length<=1000000000):
  qh prog 128 [.d (.agg (v7 e h))] [] (.d (.agg (v7 e e.length))) []:=by
 refine F128.go ?_;refine eo1 @v7.eq_1 ?_;first|refine cl F127 (wp e i) ?_|refine clF F127 (wp e i) (λ_=>by exact et1 @qr.eq_1) ?_
 exact et
def qmf (s:Sto):Sto:=⟨s.file,s.file.length,s.m⟩
theorem xo2 (s:Sto) (e:s.file.length<=1000000000):
  qh prog 61 [.d (.ptr 0 0)] [stoO s 1,mapO s.m] (.d (.int .i64 0)) [stoO (qmf s) 1,mapO s.m]:=by
 refine F61.go ?_;refine eo2 @stoO.eq_1 @mapO.eq_1 ?_;refine no_ ?_;refine eo ?_;first|refine cl F128 (qid s.file s.synced e) ?_|refine clF F128 (qid s.file s.synced e) (λ_=>by exact et1 @qr.eq_1) ?_
 exact et2 @v7.eq_1 @qmf.eq_1
end Go.Proofs.YtkcdbcbpbolgkaaGreatDoor
namespace Go.Proofs.YtkcdbcbpbolgkaaGreatDoor
open Tryz
open Go.Abs Go.RowKit
attribute [local go_sem] qwx xo1 qwy
def in1 (n:Nat) (s f t:Nat):List (Nat×Nat×Nat):=(List.range' t (n-t)).flatMap λt=>if f=t then []else [(s,f,t)]
def in2 (n:Nat) (s f:Nat):List (Nat×Nat×Nat):=(List.range' f (n-f)).flatMap λf=>in1 n s f 0
def in3 (n ss:Nat) (s:Nat):List (Nat×Nat×Nat):=(List.range' s (ss+1-s)).flatMap λs=>in2 n s 0
def za (n ss:Nat):List (Nat×Nat×Nat):=in3 n ss 1
def q0l (p:Nat×Nat×Nat):List D:= [.agg [.int .i64 (p.1:Nat),.int .i64 (p.2.1:Nat),.int .i64 (p.2.2:Nat)]]
theorem xo3 {n s f t:Nat} (h:n<=t):in1 n s f t= []:=by unfold in1;rw[show n-t=0 by omega];rfl
theorem xr3 {n s f t:Nat} (h:t<n) (he:f=t):in1 n s f t=in1 n s f (t+1):=by
 unfold in1;rw[show n-t=(n-(t+1))+1 by omega,List.range'_succ,List.flatMap_cons,if_pos he];rfl
theorem xr4 {n s f t:Nat} (h:t<n) (he:f≠t):in1 n s f t=(s,f,t)::in1 n s f (t+1):=by
 unfold in1;rw[show n-t=(n-(t+1))+1 by omega,List.range'_succ,List.flatMap_cons,if_neg he];rfl
theorem xo4 {n s f:Nat} (h:n<=f):in2 n s f= []:=by unfold in2;rw[show n-f=0 by omega];rfl
theorem xj0 {n s f:Nat} (h:f<n):in2 n s f=in1 n s f 0++in2 n s (f+1):=by
 unfold in2;rw[show n-f=(n-(f+1))+1 by omega,List.range'_succ,List.flatMap_cons]
theorem xo5 {n ss s:Nat} (h:ss<s):in3 n ss s= []:=by unfold in3;rw[show ss+1-s=0 by omega];rfl
theorem xj1 {n ss s:Nat} (h:s<=ss):in3 n ss s=in2 n s 0++in3 n ss (s+1):=by
 unfold in3;rw[show ss+1-s=(ss+1-(s+1))+1 by omega,List.range'_succ,List.flatMap_cons]
theorem xo6 {L:List (Nat×Nat×Nat)} {k:Nat} {x:Nat×Nat×Nat} {r:List (Nat×Nat×Nat)} (h:L.drop k=x::r):(L.map q0l)[k]? =some (q0l x)∧L.drop (k+1)=r:=by
 have h1:L[k]? =some x:=by
  have:=congrArg (λl=>l[0]?) h;simpa using this
 refine⟨by rw[jAn,h1];rfl,?_⟩;have:=congrArg (List.drop 1) h;rwa [jCq,jCs,List.drop_zero]at this
set_option maxHeartbeats 4000000 in
theorem qt1 (n ss:Nat) (hn:n<=1000) (hs:ss<=1000):xh4 prog 130 [(n:Nat),(ss:Nat)] ((za n ss).map q0l):=by
 refine⟨by rw[func130];rfl,?_⟩;intro w bx bb l J E hsee hY h0;refine callsIn_of_wp func130 rfl trivial ?_ rfl;simp only[ntmps130,List.size_toArray,List.length_cons,List.length_nil,Nat.reduceAdd,Nat.reduceSub,jFi,jFh,List.push_toArray,jFo,List.nil_append,List.cons_append];have see: ∀k W,J k W->W.cell? ⟨bx,0,none⟩=some (.pointer (some ⟨bb,0,none⟩))∧W.frozen? ⟨bx,0,none⟩=false∧W.cell? ⟨bb,0,none⟩=some (.int .i64 n)∧W.cell? ⟨bb,1,none⟩=some (.int .i64 ss)∧W.frozen? ⟨bb,0,none⟩=false∧W.frozen? ⟨bb,1,none⟩=false:=by
  intro k W hJ;obtain⟨⟨c,e,h1,h2⟩,c',e',h3,h4⟩:=hsee k W hJ;have h5:=h4 0 n rfl;have h6:=h4 1 ss rfl;refine⟨by simp[World.cell?,h1,h2],by simp[World.frozen?,h1],by simp[World.cell?,h3,h5],by simp[World.cell?,h3,h6],by simp[World.frozen?,h3],by simp[World.frozen?,h3]⟩
 gi_wp2
 refine qcl (λm a W=> ∃s k:Nat,m=ss+1-s∧1<=s∧s<=ss+1∧(za n ss).drop k=in3 n ss s∧k<=(za n ss).length∧(∃t2 t4 t5 t6 t7 t8 t9 t10 t11 t12 t13 t14 t15 t16 t17 t18 t19 t20 t21 t22 t23 t24 t25 t26 Z Y X U R O M I G F C z u q p,a={tmps:= #[.func (.yield l) #[] #[],.pointer (some ⟨bx,0,none⟩),t2,.int .i64 s,t4,t5,t6,t7,t8,t9,t10,t11,t12,t13,t14,t15,t16,t17,t18,t19,t20,t21,t22,t23,t24,t25,t26,Z,Y,X,U,R,O,M,I,G,F,C,z,u,q,p],defers:= []})∧J k W) (n0:=ss)
  ⟨1,0,by omega,by omega,by omega,rfl,by omega,⟨_,_,_,_,_,_,_,_,_,_,_,_,_,_,_,_,_,_,_,_,_,_,_,_,_,_,_,_,_,_,_,_,_,_,_,_,_,_,_,rfl⟩,h0⟩ ?_
 rintro m a W ⟨s,k,rfl,hs1,hs2,o,hk,⟨t2,t4,t5,t6,t7,t8,t9,t10,t11,t12,t13,t14,t15,t16,t17,t18,t19,t20,t21,t22,t23,t24,t25,t26,Z,Y,X,U,R,O,M,I,G,F,C,z,u,q,p,rfl⟩,hJ⟩;obtain⟨hcx,hfx,hc0,hc1,hf0,hf1⟩:=see k W hJ;by_cases hlt:s<=ss
 ·have hlti:(s:Int)<=(ss:Int):=by omega
  gi_wp2
  refine qcl (λm a W=> ∃f k:Nat,m=n-f∧f<=n∧(za n ss).drop k=in2 n s f++in3 n ss (s+1)∧k<=(za n ss).length∧(∃t2 t4 t5 t6 t7 t8 t9 t10 t11 t12 t13 t14 t15 t16 t19 t20 t21 t22 t23 t24 t25 t26 Z Y X U R O M I G F C z u q p,a={tmps:= #[.func (.yield l) #[] #[],.pointer (some ⟨bx,0,none⟩),t2,.int .i64 s,t4,t5,t6,t7,t8,t9,t10,t11,t12,t13,t14,t15,t16,.int .i64 n,.int .i64 f,t19,t20,t21,t22,t23,t24,t25,t26,Z,Y,X,U,R,O,M,I,G,F,C,z,u,q,p],defers:= []})∧J k W) (n0:=n)
   ⟨0,k,by omega,by omega,by rw[o,xj1 hlt],hk,⟨_,_,_,_,_,_,_,_,_,_,_,_,_,_,_,_,_,_,_,_,_,_,_,_,_,_,_,_,_,_,_,_,_,_,_,_,_,rfl⟩,hJ⟩ ?_
  clear hJ o hcx hfx hc0 hc1 hf0 hf1 hk;clear k W;rintro m a W ⟨f,k,rfl,hf,o,hk,⟨t2,t4,t5,t6,t7,t8,t9,t10,t11,t12,t13,t14,t15,t16,t19,t20,t21,t22,t23,t24,t25,t26,Z,Y,X,U,R,O,M,I,G,F,C,z,u,q,p,rfl⟩,hJ⟩;obtain⟨hcx,hfx,hc0,hc1,hf0,hf1⟩:=see k W hJ;by_cases hfn:f<n
  ·have hfni:(f:Int)<(n:Int):=by omega
   have hwf:(IntKind.wrap .i64 ((f:Int)+1))=((f+1:Nat):Int):=qg (by omega);gi_wp2
   refine qcl (λm a W=> ∃t k:Nat,m=n-t∧t<=n∧(za n ss).drop k=in1 n s f t++(in2 n s (f+1)++in3 n ss (s+1))∧k<=(za n ss).length∧(∃t2 t5 t6 t7 t8 t9 t10 t11 t12 t13 t14 t15 t16 t19 t20 t21 t22 t23 t26 Z Y X U R O M I G F C z u q p,a={tmps:= #[.func (.yield l) #[] #[],.pointer (some ⟨bx,0,none⟩),t2,.int .i64 s,.int .i64 f,t5,t6,t7,t8,t9,t10,t11,t12,t13,t14,t15,t16,.int .i64 n,.int .i64 f,t19,t20,t21,t22,t23,.int .i64 n,.int .i64 t,t26,Z,Y,X,U,R,O,M,I,G,F,C,z,u,q,p],defers:= []})∧J k W) (n0:=n)
    ⟨0,k,by omega,by omega,by rw[o,xj0 hfn,jAj],hk,⟨_,_,_,_,_,_,_,_,_,_,_,_,_,_,_,_,_,_,_,_,_,_,_,_,_,_,_,_,_,_,_,_,_,_,rfl⟩,hJ⟩ ?_
   clear hJ o hcx hfx hc0 hc1 hf0 hf1 hk;clear k W;rintro m a W ⟨t,k,rfl,ht,o,hk,⟨t2,t5,t6,t7,t8,t9,t10,t11,t12,t13,t14,t15,t16,t19,t20,t21,t22,t23,t26,Z,Y,X,U,R,O,M,I,G,F,C,z,u,q,p,rfl⟩,hJ⟩;by_cases htn:t<n
   ·have htni:(t:Int)<(n:Int):=by omega
    by_cases hft:f=t
    ·subst hft;gi_wp2
     refine⟨n-(f+1),by omega,f+1,k,rfl,by omega,by rw[o,xr3 (by omega) rfl],hk,?_,hJ⟩;exact⟨_,_,_,_,_,_,_,_,_,_,_,_,_,_,_,_,_,_,_,_,_,_,_,_,_,_,_,_,_,_,_,_,_,_,rfl⟩
    ·have hfti:(f:Int)≠(t:Int):=by omega
     rw[xr4 htn hft,List.cons_append]at o;obtain⟨hd1,hd2⟩:=xo6 o;obtain⟨fn,tmps,assign,body,hy,hR⟩:=hY k _ [.agg #[.int .i64 s,.int .i64 f,.int .i64 t]] W hd1 hJ rfl (by
      intro i v d hi hd;match i with
      |0=>
       simp[q0l]at hi hd;subst hi;subst hd;exact .agg [.int .i64 s,.int .i64 f,.int .i64 t] _ rfl (by simp[D.isCell]) (λj v d h1 h2=>by
        match j with
        |0=>simp at h1 h2;subst h1;subst h2;exact .int _ _
        |1=>simp at h1 h2;subst h1;subst h2;exact .int _ _
        |2=>simp at h1 h2;subst h1;subst h2;exact .int _ _
        |j+3=>simp at h1)
      |i+1=>simp at hi)
     gi_wp2
     refine hR.mono ?_;rintro e1 W1 (⟨rfl,hJ1⟩|⟨rfl,hE⟩)
     ·gi_wp2
      exact⟨n-(t+1),by omega,t+1,k+1,rfl,by omega,hd2,(by
       rcases jB9 k (za n ss).length with h|h
       ·omega
       ·rw[List.drop_eq_nil_of_le h]at o;cases o),⟨_,_,_,_,_,_,_,_,_,_,_,_,_,_,_,_,_,_,_,_,_,_,_,_,_,_,_,_,_,_,_,_,_,_,rfl⟩,hJ1⟩
     ·gi_wp2
      refine bodyPost_ret (results_none rfl _ _ _) rfl ?_;exact⟨⟨_,rfl⟩,.inr hE⟩
   ·have htni: ¬(t:Int)<(n:Int):=by omega
    gi_wp2
    exact⟨n-(f+1),by omega,f+1,rfl,by omega,k,by rw[o,xo3 (by omega),List.nil_append],hk,by push_cast;rfl,hJ⟩
  ·have hfni: ¬(f:Int)<(n:Int):=by omega
   gi_wp2
   exact⟨ss+1-(s+1),by omega,s+1,rfl,by omega,by omega,k,by rw[o,xo4 (by omega),List.nil_append],hk,by push_cast;rfl,hJ⟩
 ·have hlti: ¬(s:Int)<=(ss:Int):=by omega
  gi_wp2
  have hkl:k=(za n ss).length:=by
   rw[xo5 (by omega)]at o;have:=congrArg List.length o;simp at this;omega
  subst hkl;go_end0
  exact⟨⟨_,rfl⟩,.inl hJ⟩
end Go.Proofs.YtkcdbcbpbolgkaaGreatDoor
