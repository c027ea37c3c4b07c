/- Texts Wd, We, Va, Wf, Wg, Wh, Kb. -/
import Derived.Test.YtkcdbcbpbolgkaaGreatDoorMwm
import Derived.OwnWalkIn
import Derived.TacticsInMore
import Derived.LoopIn
import Derived.WalkKit
set_option linter.unusedSimpArgs false
set_option linter.unusedVariables false
set_option linter.defProp false
set_option maxRecDepth 100000
noncomputable section
namespace Go.Proofs.YtkcdbcbpbolgkaaGreatDoor
open Tryz
open Go.Abs Go.RowKit
theorem qye (ro:Option Nat):(Fw ro).round=ro:=rfl
theorem xtw (ro:Option Nat) (f:FuncId):(Fw ro).fn f=True:=rfl
theorem qyf (ro:Option Nat):(Fw ro).depth=none:=rfl
attribute [local go_sem] qye xtw qyf
def partsOf (r:List UInt8):List (Nat×List UInt8):=if h:r.length>22 then(1,r.take 22)::partsOf (r.drop 22)else [(2,r)]
termination_by r.length
decreasing_by simp;omega
def qd6 (p:Nat×List UInt8):List D:= [.int .u8 (p.1:Nat),.sl 1 (qd p.2)]
theorem yf {r:List UInt8} (h:r.length>22):partsOf r=(1,r.take 22)::partsOf (r.drop 22):=by rw[partsOf,dif_pos h]
theorem yg {r:List UInt8} (h: ¬r.length>22):partsOf r= [(2,r)]:=by rw[partsOf,dif_neg h]
theorem qnl (r:List UInt8): ∀n,(0<n->22*n<r.length) ->(partsOf r).drop n=partsOf (r.drop (22*n))
 |0,_=>by simp
 |n+1,h=>by
  have h1:=h (by omega);have ih:=qnl r n (λ_=>by omega);rw[<- jCq,ih,yf (by rw[jAp];omega),jCs,List.drop_zero,jCq];rfl
theorem qyg {r:List UInt8} {n:Nat} {p:Nat×List UInt8} {l:List (Nat×List UInt8)} (h:(partsOf r).drop n=p::l):((partsOf r).map qd6)[n]? =some (qd6 p):=by
 have:(partsOf r)[n]? =some p:=by
  have:=congrArg (λl=>l[0]?) h;simpa using this
 rw[jAn,this];rfl
theorem q2e {W:World} {b:Nat} {c:Array Value} {e:TypeId} {z:Nat×Nat} (v:Value) (h:W.heap[b]? =some (.cells c e z)):(W.setCell ⟨b,0,none⟩ v).heap[b]? =some (.cells (c.setIfInBounds 0 v) e z):=by
 simp[World.setCell,jEk,h]
theorem qyh {W:World} {b k:Nat} (v:Value) (h:k≠b):(W.setCell ⟨b,0,none⟩ v).heap[k]? =W.heap[k]? :=by
 simp[World.setCell,jEk,Ne.symm h]
theorem xhd {g:Ghost} {w:World} {b off cap len:Nat} {r:List UInt8} (h:RV g w (.slice (some ⟨b,off,none⟩) len cap) (.sl 1 (qd r))) (n m c:Nat) (hn:n+m<=r.length) (hc:m<=c) (h0:r≠ []):
  RV g w (.slice (some ⟨b,off+n,none⟩) m c) (.sl 1 (qd ((r.drop n).take m))):=by
 generalize p:qd r=rows at h;have t:rows≠ []:=by rw[<- p];cases r<;>simp[qd]at h0⊢
 cases h with
 |nilsl=>exact(t rfl).elim
 |sl _ _ _ _ n0 o _ f hg hnn hcap hes hcl hcell hrv=>
 subst p;have q:(qd ((r.drop n).take m)).flatten=(((qd r).flatten).drop n).take m:=by simp only[qcw,jDr,jEm]
 have l:(qd ((r.drop n).take m)).length=m:=by rw[kg,jAl,jAp];omega
 have e: ∀(j:Nat) (d:D),(qd ((r.drop n).take m)).flatten[j]? =some d->(qd r).flatten[n+j]? =some d:=by
  intro j d i;rw[q,jBx]at i;split at i
  ·rwa [jFq]at i
  ·cases i
 have:=RV.sl (g:=g) (w:=w) b (off+n) c 1 n0 o (qd ((r.drop n).take m)) (λj=>f (n+j)) hg (by
   rw[q,jAl,jAp];have h1:(qd r).flatten.length=r.length:=by simp[qcw]
   rw[h1]at hnn⊢;omega) (by rw[l];exact hc) (by intro x hx;obtain⟨c,_,rfl⟩:=jAo.1 hx;rfl) (by
   intro d hd;obtain⟨j,i⟩:=jBh hd;exact hcl d (jAe (e j d i))) (λj d i=>by rw[jDo];exact hcell _ d (e j d i)) (λj d i=>hrv _ d (e j d i))
 rwa [l]at this
set_option maxHeartbeats 1000000 in
theorem xcu (r:List UInt8) (hl:r.length<=1000000000):ASeq prog 232 [.ptr 0 0] [.row [.d (.sl 1 (qd r))]] ((partsOf r).map qd6):=by
 refine⟨by rw[func232];rfl,?_⟩;intro g w lb l J t ai ad O am hY h0;match lb,ai with
 | [v0],_=>
 have hp:=ad 0 v0 _ rfl rfl;cases hp with
 |ptr b _ _ hg=>
 obtain⟨b',al,ae⟩:=(O.objs 0 _ rfl (by simp)).resolve_right (λh=>by cases h.1);have:b'=b:=O.inj b' b 0 al hg;subst this;obtain⟨c,e,hh,ab,hc⟩:=ae;obtain⟨v,R,_,M⟩:=hc 0 _ rfl;have M:RV g w v (.sl 1 (qd r)):=M;refine callsIn_of_wp func232 rfl trivial ?_ rfl;simp only[ntmps232,List.size_toArray,List.length_cons,List.length_nil,Nat.reduceAdd,Nat.reduceSub,jFf,jFe,List.push_toArray,jFm,List.nil_append,List.cons_append];generalize aa:qd r=rows at M;cases M with
 |nilsl a cc _ hn=>
  have af:r= []:=by cases r<;>simp[qd]at aa⊢
  subst af;have q:(partsOf []).drop 0= [(2,[])]:=by rw[List.drop_zero,yg (by simp)]
  refine wpIn_seq (wpIn_block ?_);refine qda (λm a W=>(∃t3 t4 t5 t6 t7 t8 t9 F E C B A z,a={tmps:= #[.func (.yield l) #[] #[],.pointer (some ⟨b',0,none⟩),undef,t3,t4,t5,t6,t7,t8,t9,F,E,C,B,A,z],defers:= []})∧W.heap[b']? =some (.cells c e (0,0))∧J 0 W) (n0:=0)
   ⟨⟨_,_,_,_,_,_,_,_,_,_,_,_,_,rfl⟩,hh,h0⟩ ?_
  rintro m ac W ⟨⟨t3,t4,t5,t6,t7,t8,t9,F,E,C,B,A,z,rfl⟩,u,hJ⟩;have ak:W.cell? ⟨b',0,none⟩=some (.slice a 0 cc):=by simp[World.cell?,u,R]
  have aj:W.frozen? ⟨b',0,none⟩=false:=by simp[World.frozen?,u]
  obtain⟨fn,tmps,assign,body,hy,hR⟩:=hY 0 _ [.int .u8 2,.slice a 0 cc] W (qyg q) hJ rfl (by
   intro i v d hi t;match i with
   |0=>simp[qd6]at hi t;subst hi;subst t;exact .int _ _
   |1=>simp[qd6]at hi t;subst hi;subst t;exact .nilsl a cc 1 hn
   |i+2=>simp at hi)
  gi_wp2
  refine hR.mono ?_;rintro Z W1 ⟨rfl,I,Y⟩;gi_wp2
  go_end0
  have X:(partsOf []).length=1:=by have:=congrArg List.length q;simpa using this
  exact⟨⟨_,rfl⟩,by rw[jAm,X];exact I⟩
 |sl bb off cap _ n0 o _ f hgb hnn hcap hes hcl hcell hrvv=>
 subst aa;have M:RV g w (.slice (some ⟨bb,off,none⟩) (qd r).length cap) (.sl 1 (qd r)):=M;refine wpIn_seq (wpIn_block ?_);refine qda (λm a W=> ∃n,m=r.length-22*n∧22*n<=r.length∧(0<n->22*n<r.length)∧(∃t3 t4 t5 t6 t7 t8 t9 F E C B A z,a={tmps:= #[.func (.yield l) #[] #[],.pointer (some ⟨b',0,none⟩),undef,t3,t4,t5,t6,t7,t8,t9,F,E,C,B,A,z],defers:= []})∧
  W.heap[b']? =some (.cells (c.setIfInBounds 0 (.slice (some ⟨bb,off+22*n,none⟩) (r.length-22*n) (cap-22*n))) e (0,0))∧J n W) (n0:=r.length) ⟨0,by omega,by omega,by omega,⟨_,_,_,_,_,_,_,_,_,_,_,_,_,rfl⟩,?_,h0⟩ ?_
 ·rw[kg]at R;rw[hh,show off+22*0=off by omega,show r.length-22*0=r.length by omega,show cap-22*0=cap by omega];congr 2;apply Array.ext
  ·simp
  ·intro i h1 h2;rw[Array.getElem_setIfInBounds];split
   ·rename_i h;subst h;simpa[jEt h1]using R
   ·rfl
 rintro m a W ⟨n,rfl,hn1,U,⟨t3,t4,t5,t6,t7,t8,t9,F,E,C,B,A,z,rfl⟩,u,hJ⟩;have ak:W.cell? ⟨b',0,none⟩=some (.slice (some ⟨bb,off+22*n,none⟩) (r.length-22*n) (cap-22*n)):=by
  have:0<c.size:=by simp at ab;omega
  simp[World.cell?,u,this]
 have aj:W.frozen? ⟨b',0,none⟩=false:=by simp[World.frozen?,u]
 by_cases p:r.length-22*n>22
 ·have ah:((r.length-22*n:Nat):Int)>22:=by omega
  have hlc:r.length<=cap:=by simpa[kg]using hcap
  have hci:(22:Int)<=((cap-22*n:Nat):Int):=by omega
  have hci2:(22:Int)<=((r.length-22*n:Nat):Int):=by omega
  have hci3:((r.length-22*n:Nat):Int)<=((cap-22*n:Nat):Int):=by omega
  have q:(partsOf r).drop n=(1,(r.drop (22*n)).take 22)::partsOf ((r.drop (22*n)).drop 22):=by rw[qnl r n U,yf (by rw[jAp];exact p)]
  obtain⟨fn,tmps,assign,body,hy,hR⟩:=hY n _ [.int .u8 1,.slice (some ⟨bb,off+22*n,none⟩) 22 (cap-22*n)] W (qyg q) hJ rfl (by
   intro i v d hi t;match i with
   |0=>simp[qd6]at hi t;subst hi;subst t;exact .int _ _
   |1=>simp[qd6]at hi t;subst hi;subst t;exact xhd M (22*n) 22 _ (by omega) (by omega) (by intro h;rw[h]at p;simp at p)
   |i+2=>simp at hi)
  gi_wp2
  refine hR.mono ?_;rintro Z W1 ⟨rfl,I,Y⟩;have G:=(Y b' 0 hg).trans u;have hcW1:W1.cell? ⟨b',0,none⟩=some (.slice (some ⟨bb,off+22*n,none⟩) (r.length-22*n) (cap-22*n)):=by
   have:0<c.size:=by simp at ab;omega
   simp[World.cell?,G,this]
  have hfW1:W1.frozen? ⟨b',0,none⟩=false:=by simp[World.frozen?,G]
  gi_wp2
  refine⟨_,?_,n+1,rfl,by omega,by omega,⟨_,_,_,_,_,_,_,_,_,_,_,_,_,rfl⟩,?_,?_⟩
  ·omega
  ·rw[q2e _ G,Array.setIfInBounds_setIfInBounds];have Z:off+22*n+22=off+22*(n+1):=by omega
   have e2:r.length-22*n-22=r.length-22*(n+1):=by omega
   have e3:cap-22*n-22=cap-22*(n+1):=by omega
   rw[Z,e2,e3]
  ·refine am (n+1) W1 _ I rfl rfl rfl (by simp[World.setCell]) (λk hk=>qyh _ (λh=>hk 0 (h▸hg)))
 ·have ah: ¬((r.length-22*n:Nat):Int)>22:=by omega
  have q:(partsOf r).drop n= [(2,r.drop (22*n))]:=by rw[qnl r n U,yg (by rw[jAp];exact p)]
  have X:(partsOf r).length=n+1:=by
   have:=congrArg List.length q;simp at this;omega
  obtain⟨fn,tmps,assign,body,hy,hR⟩:=hY n _ [.int .u8 2,.slice (some ⟨bb,off+22*n,none⟩) (r.length-22*n) (cap-22*n)] W (qyg q) hJ rfl (by
   intro i v d hi t;match i with
   |0=>simp[qd6]at hi t;subst hi;subst t;exact .int _ _
   |1=>
    simp[qd6]at hi t;subst hi;subst t;rcases jC7 n with rfl|ag
    ·have Z:cap-22*0=cap:=by omega
     rw[Z];simpa[kg]using M
    ·have h1:=U ag;have:=xhd M (22*n) (r.length-22*n) (cap-22*n) (by omega) (by
      have:r.length<=cap:=by simpa[kg]using hcap
      omega) (by intro h;rw[h]at h1;simp at h1)
     rwa [jAq (by rw[jAp];omega)]at this
   |i+2=>simp at hi)
  gi_wp2
  refine hR.mono ?_;rintro Z W1 ⟨rfl,I,Y⟩;gi_wp2
  go_end0
  exact⟨⟨_,rfl⟩,by rw[jAm,X];exact I⟩
end Go.Proofs.YtkcdbcbpbolgkaaGreatDoor
namespace Go.Proofs.YtkcdbcbpbolgkaaGreatDoor
open Tryz
open Go.Abs
def d160:=cut prog f160 news
@[go_sem] def E160:=qj d160
def F160:=fnC d160 follows func160
def d88:=cut prog f88 news
@[go_sem] def E88:=qj d88
def F88:=fnC d88 follows func88
theorem xn0 (r:List UInt8):qf prog 160 [.d (.sl 1 (qd r))] [] (.d (.func (.func 232) [] [.ptr 0 0])) [.row [.d (.sl 1 (qd r))]]:=by
 refine F160.go ?_;refine ez ?_;exact⟨_,rfl⟩
def zl (p:Nat×List UInt8):List UInt8:= [UInt8.ofNat p.1,UInt8.ofNat p.2.length]++p.2++List.replicate (22-p.2.length) 0
def qgq (x:List UInt8×Nat) (p:Nat×List UInt8):List UInt8×Nat:=(x.1++zl p++be8 (fnv x.2 (zl p)),fnv x.2 (zl p))
def wm (x:List UInt8×Nat) (l:List (Nat×List UInt8)):List UInt8×Nat:=l.foldl qgq x
def wn (d r:List UInt8):List UInt8:=(wm (d,yn d) (partsOf r)).1
theorem wp: ∀(n:Nat) (r:List UInt8),r.length<=n-> ∀p∈partsOf r,(p.1=1∨p.1=2)∧p.2.length<=22
 |n,r,hn=>by
  intro p hp;by_cases h:r.length>22
  ·rw[yf h]at hp;rcases jAv.1 hp with rfl|hp
   ·exact⟨.inl rfl,by simp;omega⟩
   ·cases n with
    |zero=>omega
    |succ n=>exact wp n (r.drop 22) (by rw[jAp];omega) p hp
  ·rw[yg h]at hp;have:p=(2,r):=by simpa using hp
   subst this;exact⟨.inr rfl,by simp only;omega⟩
theorem qr1: ∀(n:Nat) (r:List UInt8),r.length<=n->(partsOf r).length<=r.length+1
 |n,r,hn=>by
  by_cases h:r.length>22
  ·rw[yf h];cases n with
   |zero=>omega
   |succ n=>
    have:=qr1 n (r.drop 22) (by rw[jAp];omega);rw[jAp]at this;rw[List.length_cons];omega
  ·rw[yg h];simp
theorem qaq {p:Nat×List UInt8} (h:p.2.length<=22):(zl p).length=24:=by simp[zl];omega
theorem q2f (x:List UInt8×Nat) (l:List (Nat×List UInt8)) (p:Nat×List UInt8):wm x (l++ [p])=qgq (wm x l) p:=by unfold wm;rw[jCm,List.foldl_cons,List.foldl_nil]
theorem qr2 (x:List UInt8×Nat): ∀l:List (Nat×List UInt8),(∀p∈l,p.2.length<=22) ->(wm x l).1.length=x.1.length+32*l.length:=by
 intro l h;induction l generalizing x with
 |nil=>simp[wm]
 |cons p l ih=>
  have:=ih (qgq x p) (λq hq=>h q (jA9 _ hq));have h1:=qaq (h p jA7);have h2:wm x (p::l)=wm (qgq x p) l:=rfl;rw[h2,this,qgq];simp only[jAc,ji,h1,List.length_cons];omega
theorem q9t (d:List UInt8):yn d<18446744073709551616:=by
 unfold yn;split
 ·omega
 ·have:=qx9 8 (d.drop (d.length-8)) (by rw[jAp];omega);have e:(256:Nat)^8=18446744073709551616:=by decide
  omega
theorem xcv (x:List UInt8×Nat) (d:x.2<18446744073709551616) (l:List (Nat×List UInt8)):(wm x l).2<18446744073709551616:=by
 induction l generalizing x with
 |nil=>exact d
 |cons p l ih=>
  have h1:(qgq x p).2=fnv x.2 (zl p):=by rw[qgq]
  have h2:(qgq x p).2<18446744073709551616:=by rw[h1];exact qgo d _
  have h3:wm x (p::l)=wm (qgq x p) l:=rfl;rw[h3];exact ih _ h2
theorem q62 {cs new:List ASlot} {off:Nat} (h:off+new.length<=cs.length):qb1 cs off new=cs.take off++new++cs.drop (off+new.length):=by
 apply jC5;intro i;rw[qfw new cs off i h];split
 ·rename_i hi;rw[jAh,jBb (by rw[jAl];omega),jAl,jDy (by omega),jA3 (by omega)]
 ·rename_i hi;rcases jB9 i off with d|d
  ·rw[jAh,jA3 (by rw[jAl];omega),jBx,if_pos d]
  ·rw[jBb (by simp only[jAc,jAl];omega),jFq];congr 1;simp only[jAc,jAl];omega
theorem xcw (p:Nat×List UInt8) (h1:p.1=1∨p.1=2) (h2:p.2.length<=22):
  qb1 [ASlot.d (D.int .u8 (p.1:Nat)),ASlot.d (D.int .u8 (IntKind.u8.wrap (p.2.length:Nat))),ASlot.d (D.int .u8 0),ASlot.d (D.int .u8 0),ASlot.d (D.int .u8 0),ASlot.d (D.int .u8 0),ASlot.d (D.int .u8 0),ASlot.d (D.int .u8 0),ASlot.d (D.int .u8 0),ASlot.d (D.int .u8 0),ASlot.d (D.int .u8 0),ASlot.d (D.int .u8 0),ASlot.d (D.int .u8 0),ASlot.d (D.int .u8 0),ASlot.d (D.int .u8 0),ASlot.d (D.int .u8 0),ASlot.d (D.int .u8 0),ASlot.d (D.int .u8 0),ASlot.d (D.int .u8 0),ASlot.d (D.int .u8 0),ASlot.d (D.int .u8 0),ASlot.d (D.int .u8 0),ASlot.d (D.int .u8 0),ASlot.d (D.int .u8 0)] 2 (List.map ASlot.d (List.take 22 (qd p.2)).flatten)=((zl p).map ju).map ASlot.d:=by
 have e1:(List.take 22 (qd p.2)).flatten=p.2.map ju:=by rw[jAq (by rw[kg];exact h2),qcw]
 have e2: [ASlot.d (D.int .u8 (p.1:Nat)),ASlot.d (D.int .u8 (IntKind.u8.wrap (p.2.length:Nat))),ASlot.d (D.int .u8 0),ASlot.d (D.int .u8 0),ASlot.d (D.int .u8 0),ASlot.d (D.int .u8 0),ASlot.d (D.int .u8 0),ASlot.d (D.int .u8 0),ASlot.d (D.int .u8 0),ASlot.d (D.int .u8 0),ASlot.d (D.int .u8 0),ASlot.d (D.int .u8 0),ASlot.d (D.int .u8 0),ASlot.d (D.int .u8 0),ASlot.d (D.int .u8 0),ASlot.d (D.int .u8 0),ASlot.d (D.int .u8 0),ASlot.d (D.int .u8 0),ASlot.d (D.int .u8 0),ASlot.d (D.int .u8 0),ASlot.d (D.int .u8 0),ASlot.d (D.int .u8 0),ASlot.d (D.int .u8 0),ASlot.d (D.int .u8 0)]=([UInt8.ofNat p.1,UInt8.ofNat p.2.length]++List.replicate 22 0).map (λc=>ASlot.d (ju c)):=by
  have a1:((p.1:Nat):Int)=((UInt8.ofNat p.1).toNat:Int):=by rcases h1 with h|h<;>rw[h]<;>rfl
  have a2:=qx5 p.2.length;rw[a1,a2];rfl
 rw[e1,e2,q62 (by simp;omega)];have a3:([UInt8.ofNat p.1,UInt8.ofNat p.2.length]++List.replicate 22 (0:UInt8)).drop (2+p.2.length)=List.replicate (22-p.2.length) 0:=by
  rw[List.drop_append,jDu (by simp),List.nil_append,List.drop_replicate];congr 1;simp only[List.length_cons,List.length_nil];omega
 rw[<- jDr,<- jEm,jAm,jAm,a3,zl];simp only[List.cons_append,List.nil_append,jDp,List.take_zero,List.map_cons,List.map_nil,jA2,jEa];rfl
theorem qr3 (h:Nat):qb1 [ASlot.d (D.int .u8 0),ASlot.d (D.int .u8 0),ASlot.d (D.int .u8 0),ASlot.d (D.int .u8 0),ASlot.d (D.int .u8 0),ASlot.d (D.int .u8 0),ASlot.d (D.int .u8 0),ASlot.d (D.int .u8 0)] 0 (((be8 h).map ju).map ASlot.d)=((be8 h).map ju).map .d:=rfl
theorem qr4 (s:List UInt8) (n:Nat):(List.take n (s.map ju)).all D.isCell=true:=by rw[<- jDr];exact qkv _
theorem qjm {os:List AObj} {id n:Nat} {s:List UInt8} (h:ql os id=(s.map ju).map .d) (hn:s.length=n):qbt os id 0 1 n=qd s:=by
 unfold qbt;rw[h,List.drop_zero,qu9,<- hn,q2d]
theorem xhe (a b c d:AObj) (l:List AObj) (s:List UInt8) (h:s.length=24):qbt (a::b::c::d:: .row ((s.map ju).map .d)::l) 4 0 1 24=qd s:=qjm rfl h
theorem xhf (a b c d e:AObj) (l:List AObj) (s:List UInt8) (h:s.length=8):qbt (a::b::c::d::e:: .row ((s.map ju).map .d)::l) 5 0 1 8=qd s:=qjm rfl h
def Sapp (e r:List UInt8) (h:Int) (k:Nat):St:=
 ⟨[(2,true,.d (.ptr 0 0)),(4,true,.d (.ptr 1 0)),(5,true,.d (.int .i64 0)),(7,true,.d (.ptr 2 0)),(8,true,.d (.ptr 3 0))],
  [.row [.d (.sl 1 (qd e)),.d (.int .i64 h)],.row [.d .nilsl,.d (.int .i64 0)],.row [.d (.int .u64 ((wm (e,yn e) ((partsOf r).take k)).2:Nat))],.row [.own 0 1 (qd (wm (e,yn e) ((partsOf r).take k)).1)]],[0],1⟩
def vo (e:List UInt8) (d:Int):List D:= [.sl 1 (qd e),.int .i64 d]
theorem q2g (e:List UInt8) (d:Int):D.noPtrL (vo e d)=true:=by simp only[vo,D.noPtrL,D.noPtr,jz,jBu]
attribute [go_sem] q2g
theorem q2h (e r:List UInt8) (h:Int) (hf:e.length<=100000000) (hr:r.length<=2000):
  qf prog 88 [.d (.agg (vo e h)),.d (.sl 1 (qd r))] [] (.tup [.d (.agg (vo (wn e r) h)),.d (.int .i64 0)]) []:=by
 refine F88.goT ?_;have hr0:decide ((r.length:Int)>2000)=false:=by simp;omega
 refine ez1 @vo.eq_1 ?_;refine eo1 @hr0 ?_;refine no_ ?_;refine eo ?_;refine cl F159 (xtv e (by omega)) ?_;refine eo ?_;refine clO [4] F160 (xn0 r) ?_;refine ez ?_;have hft:List.take (e.length-0) (qd e)=qd e:=jAq (by rw[kg];omega);refine ez1 @hft ?_;refine xwq 232 [.ptr 0 0] [4] [.row [.d (.sl 1 (qd r))]] ((partsOf r).map qd6) (Sapp e r h) [(2,true,.d (.ptr 0 0)),(4,true,.d (.ptr 1 0)),(5,true,.d (.int .i64 0)),(7,true,.d (.ptr 2 0)),(8,true,.d (.ptr 3 0))]
  (xcu r (by omega)) ?_ ?_ ?_ ?_ ?_ ?_
 ·exact et4 @Sapp.eq_1 @List.take_zero.{0} @wm.eq_1 @List.foldl_nil.{0,0}
 ·intro k vs m;rw[jAn,jAb]at m;obtain⟨p,hp,rfl⟩:=m;obtain⟨p1,z⟩:=wp _ r (jAi _) p (jAe hp);obtain⟨m,t⟩:=jAd.1 hp;have htk:(partsOf r).take (k+1)=(partsOf r).take k++ [p]:=by rw[jAk m,t]
  have A:=xcv (e,yn e) (q9t e) ((partsOf r).take k);have u:(wm (e,yn e) ((partsOf r).take k)).1.length<=200000000:=by
   rw[qr2 _ _ (λq hq=>(wp _ r (jAi _) q (jBe hq)).2),jAl];have:=qr1 _ r (jAi _);simp only;omega
  have i:=qaq z;generalize hx:wm (e,yn e) ((partsOf r).take k)=x at A u;have hx1:wm (e,yn e) ((partsOf r).take (k+1))=qgq x p:=by rw[htk,q2f,hx]
  have hc:=xcw p p1 z;have l:=xg6 x.2 (zl p) A (by omega);rw[i]at l;refine eo5 @Sapp.eq_1 @qd6.eq_1 @hx @hx1 @hc ?_;refine clO [4] F161 l ?_;simp only[qr3,qr4,xhe _ _ _ _ _ _ i,xhf _ _ _ _ _ _ _ (ji _),ji,i,qx,go_sem,simprocAttr];refine⟨by omega,by omega,.weak ?_ (.refl _)⟩;exact et1 @qgq.eq_1
 ·have hw:wm (e,yn e) (List.take (partsOf r).length (partsOf r))=wm (e,yn e) (partsOf r):=by rw[jAr]
  exact et3 @Sapp.eq_1 @hw @wn.eq_1
 ·intro vs o;obtain⟨p,_,rfl⟩:=jAo.1 o;exact⟨rfl,by simp[qd6,D.noPtrL,D.noPtr,jz]⟩
 ·exact et
 ·intro k id v;have:id=4:=by simpa using v
  subst this;rfl
def d306:=cut prog f306 news
@[go_sem] def E306:=qj d306
def F306:=fnC d306 follows func306
def d329:=cut prog f329 news
@[go_sem] def E329:=qj d329
def F329:=fnC d329 follows func329
def d307:=cut prog f307 news
@[go_sem] def E307:=qj d307
def F307:=fnC d307 follows func307
def d297:=cut prog f297 news
@[go_sem] def E297:=qj d297
def F297:=fnC d297 follows func297
def d296:=cut prog f296 news
@[go_sem] def E296:=qj d296
def F296:=fnC d296 follows func296
def d305:=cut prog f305 news
@[go_sem] def E305:=qj d305
def F305:=fnC d305 follows func305
def d255:=cut prog f255 news
@[go_sem] def E255:=qj d255
def F255:=fnC d255 follows func255
theorem yh {α:Type} (f:α->List UInt8) (k:Nat): ∀l:List α,(∀x∈l,(f x).length<=k) ->(l.flatMap f).length<=l.length*k
 | [],_=>by simp
 |x::l,h=>by
  have h1:=yh f k l λy hy=>h y (by simp[hy]);have h2:=h x (by simp);simp only[List.flatMap_cons,jAc,List.length_cons,jCy];omega
def qhe (l:List Int):List UInt8:=wInt l.length++l.flatMap wInt
def q9u (b:List UInt8) (l:List Int) (i:Nat):St:=
 ⟨[(0,true,.own 0 1 (qd (b++(wInt l.length++(l.take i).flatMap wInt)))),(11,true,.d (.sl 1 (l.map encI))),(12,true,.d (.int .i64 l.length)),(13,true,.d (.int .i64 (i:Nat)))],[],[0],1⟩
theorem q63 (b:List UInt8) (l:List Int) (hb:b.length<=100000000) (hl:l.length<=1000) (hi: ∀x∈l,I64 x):
  qf prog 306 [.own 0 1 (qd b),.d (.sl 1 (l.map encI))] [] (.own 0 1 (qd (b++qhe l))) []:=by
 have hw:=xg (x7 (n:=l.length) (by omega));refine F306.go ?_;refine ez ?_;refine clA F147 (k8 b l.length (by omega) (x7 (by omega))) ?_;refine ez ?_;refine qg (λi:{i:Nat//i<=l.length}=>q9u b l i.val) (λi=>l.length-i.val) ⟨0,jAj _⟩ ?_ (λi=> ?_)
 ·exact et5 @q9u.eq_1 @List.take_zero.{0} @List.flatMap_nil.{0,0} @jAu.{0} @jAt
 obtain⟨i,hi2⟩:=i;refine ez1 @q9u.eq_1 ?_;refine xf _ (λhc=> ?_) (λhc=> ?_)
 ·have e:i<l.length:=by simpa using hc
  have hfl:=yh wInt 10 (l.take i) λx hx=>xg (hi x (jBe hx));have htk:(l.take i).length<=i:=by rw[jAl];omega
  have hfl2:((l.take i).flatMap wInt).length<=10000:=by omega
  have hsn:=qcu wInt l e;refine eo2 (qh encI l e) @encI.eq_1 ?_;refine clA F147 (k8 (b++(wInt l.length++(l.take i).flatMap wInt)) l[i] (by simp only[jAc];omega) (hi _ (jAg e))) ?_;refine ez ?_;refine⟨⟨i+1,e⟩,?_,by dsimp only;omega⟩;exact et4 @q9u.eq_1 @hsn @jAh.{0} (qe (show i<9223372036854775807 by omega))
 ·have h:i=l.length:=by
   have:l.length<=i:=by simpa using hc
   omega
  subst h;exact et2 @jAr.{0} @qhe.eq_1
def wAV (v:AV):List UInt8:=wInt v.kind++(if v.kind=1 then wInt v.n else if v.kind=2 then qbm v.s else [])
def AV.Sm (v:AV):Prop:=I64 v.kind∧I64 v.n∧v.s.length<=1000000
theorem qr5 {v:AV} (h:v.Sm):(wAV v).length<=1000020:=by
 obtain⟨h1,h2,h3⟩:=h;have a1:=xg h1;have a2:=xg h2;have a3:=qds v.s (by omega);unfold wAV;rw[jAc];split
 ·omega
 ·split
  ·omega
  ·simp only[List.length_nil];omega
theorem q2i (b:List UInt8) (v:AV) (hb:b.length<=100000000) (hv:v.Sm):
  qf prog 329 [.own 0 1 (qd b),.d (.agg (zw v))] [] (.own 0 1 (qd (b++wAV v))) []:=by
 obtain⟨m,h2,h3⟩:=hv;have a1:=xg m;refine F329.go ?_;refine ez1 @zw.eq_1 ?_;refine clA F147 (k8 b v.kind (by omega) m) ?_;refine ez ?_;refine xf _ (λhc=> ?_) (λhc=> ?_)
 ·have i:v.kind=1:=by simpa using hc
  have e:wAV v=wInt v.kind++wInt v.n:=by rw[wAV,if_pos i]
  refine ez ?_;refine clA F147 (k8 (b++wInt v.kind) v.n (by rw[jAc];omega) h2) ?_;exact et2 @e @jAh.{0}
 ·have i:v.kind≠1:=by simpa using hc
  refine ez ?_;refine xf _ (λl=> ?_) (λl=> ?_)
  ·have h:v.kind=2:=by simpa using l
   have e:wAV v=wInt v.kind++qbm v.s:=by rw[wAV,if_neg i,if_pos h]
   refine ez ?_;refine clA F157 (qks (b++wInt v.kind) v.s (by rw[jAc];omega)) ?_;exact et2 @e @jAh.{0}
  ·have h:v.kind≠2:=by simpa using l
   have e:wAV v=wInt v.kind:=by rw[wAV,if_neg i,if_neg h,jAu]
   exact et1 @e
def wAVs (l:List AV):List UInt8:=wInt l.length++l.flatMap wAV
def xn1 (b:List UInt8) (l:List AV) (i:Nat):St:=
 ⟨[(0,true,.own 0 1 (qd (b++(wInt l.length++(l.take i).flatMap wAV)))),(11,true,.d (.sl 3 (l.map zw))),(12,true,.d (.int .i64 l.length)),(13,true,.d (.int .i64 (i:Nat)))],[],[0],1⟩
theorem qyi (b:List UInt8) (l:List AV) (hb:b.length<=10000000) (hl:l.length<=50) (hi: ∀x∈l,x.Sm):
  qf prog 307 [.own 0 1 (qd b),.d (.sl 3 (l.map zw))] [] (.own 0 1 (qd (b++wAVs l))) []:=by
 have hw:=xg (x7 (n:=l.length) (by omega));refine F307.go ?_;refine ez ?_;refine clA F147 (k8 b l.length (by omega) (x7 (by omega))) ?_;refine ez ?_;refine qg (λi:{i:Nat//i<=l.length}=>xn1 b l i.val) (λi=>l.length-i.val) ⟨0,jAj _⟩ ?_ (λi=> ?_)
 ·exact et5 @xn1.eq_1 @List.take_zero.{0} @List.flatMap_nil.{0,0} @jAu.{0} @jAt
 obtain⟨i,hi2⟩:=i;refine ez1 @xn1.eq_1 ?_;refine xf _ (λhc=> ?_) (λhc=> ?_)
 ·have e:i<l.length:=by simpa using hc
  have hfl:=yh wAV 1000020 (l.take i) λx hx=>qr5 (hi x (jBe hx));have htk:(l.take i).length<=i:=by rw[jAl];omega
  have hfl2:((l.take i).flatMap wAV).length<=60000000:=by omega
  have hsn:=qcu wAV l e;refine eo2 (qh zw l e) @zw.eq_1 ?_;have h:=q2i (b++(wInt l.length++(l.take i).flatMap wAV)) l[i] (by simp only[jAc];omega) (hi _ (jAg e));simp only[zw]at h;refine clA F329 h ?_;refine ez ?_;refine⟨⟨i+1,e⟩,?_,by dsimp only;omega⟩;exact et4 @xn1.eq_1 @hsn @jAh.{0} (qe (show i<9223372036854775807 by omega))
 ·have m:i=l.length:=by
   have:l.length<=i:=by simpa using hc
   omega
  subst m;exact et2 @jAr.{0} @wAVs.eq_1
theorem q9v (s:List UInt8) (hl:s.length<=1000000000):qf prog 297 [.d (.sl 1 (qd s))] [] (.d (.int .u64 (fnv 14695981039346656037 s:Nat))) []:=by
 have h0:=xg5 14695981039346656037 s (by decide) hl;refine F297.go ?_;refine eo ?_;refine cl F233 (h0) ?_;exact et
def Seig (h:Nat) (i:{i:Nat//i<=8}):St:=
 ⟨[(0,true,.d (.int .u64 (h:Nat))),(2,true,.d (.ptr 0 0)),(3,true,.d (.ptr 1 0)),(5,true,.d (.int .i64 (i.val:Nat)))],[.row ((List.replicate 8 (D.int .u8 0)).map .d),.row ((((be8 h).take i.val++List.replicate (8-i.val) 0).map ju).map .d)],[],1⟩
theorem q9w (h:Nat) (hh:h<18446744073709551616):qf prog 296 [.d (.int .u64 h)] [] (.d (.agg ((be8 h).map ju))) []:=by
 refine F296.go ?_;refine ez ?_;refine qg (Seig h) (λi=>8-i.val) ⟨0,jAj _⟩ ?_ (λi=> ?_)
 ·exact et3 @Seig.eq_1 @List.take_zero.{0} @qnj
 obtain⟨i,hi⟩:=i;refine ez1 @Seig.eq_1 ?_;refine xf _ (λhc=> ?_) (λhc=> ?_)
 ·have e:i<8:=by simp at hc;omega
  have e1:IntKind.i64.wrap (7-(i:Int))=7-i:=xo (by unfold I64;omega);have e2:IntKind.i64.wrap (8*(7-(i:Int)))=8*(7-i):=xo (by unfold I64;omega);have hlen:=ji h;simp only[jCo,qx8 _ _ e,qcx,q6z _ e,e1,e2,jAl,jBp,go_sem,simprocAttr]
  (repeat(with_reducible refine ob ?_))
  refine⟨⟨i+1,e⟩,?_,by dsimp only;omega⟩;exact et2 @Seig.eq_1 (qe (show i<9223372036854775807 by omega))
 ·have l:i=8:=by simp at hc;omega
  subst l;exact et3 @q60 @be8.eq_1 @ju.eq_1
def qfq (s:List UInt8):List UInt8:=s++be8 (fnv 14695981039346656037 s)
theorem xtx (s:List UInt8) (hl:s.length<=100000000):qf prog 305 [.d (.sl 1 (qd s))] [] (.d (.sl 1 (qd (qfq s)))) []:=by
 have e:=qgo (h:=14695981039346656037) (by decide) s;refine F305.go ?_;refine eo ?_;refine cl F297 (q9v s (by omega)) ?_;refine ez ?_;have hw:IntKind.i64.wrap ((s.length:Int)+8)=((s.length+8:Nat):Int):=by rw[xo (by unfold I64;omega)];omega
 (repeat(with_reducible refine ob ?_));refine cl F296 (q9w _ e) ?_
 generalize hh:fnv 14695981039346656037 s=h;have hr:qbt [AObj.row (((be8 h).map ju).map ASlot.d)] 0 0 1 8=qd (be8 h):=qjm rfl (ji _);have h8:=ji h;have hs:qd s++qd (be8 h)=qd (qfq s):=by rw[qx,qfq,hh]
 refine eo6 @hw @qr3 @qr4 @ji @hr @hs ?_;omega
def zr (p:Pk):List Int:= [p.kind,p.sess,p.epoch,p.from_,p.to,p.seq,p.label]
def wd (p:Pk):List UInt8:=(zr p).flatMap wInt++wAVs p.values++qhe p.clock
def vk (p:Pk):List UInt8×Int:=if qm p then(qfq (wd p),0)else([],1)
structure Pk.W (p:Pk):Prop where
 h: ∀x∈zr p,I64 x
 v: ∀x∈p.values,x.Sm
 c: ∀x∈p.clock,I64 x
def xn2 (p:Pk) (i:Nat):St:=
 ⟨[(1,true,.d (.ptr 0 0)),(4,true,.own 0 1 (qd (((zr p).take i).flatMap wInt))),(24,true,.d (.sl 1 ((zr p).map encI))),(25,true,.d (.int .i64 7)),(26,true,.d (.int .i64 (i:Nat)))],[.row ((qi p).map .d)],[0],1⟩
theorem qir {p:Pk} (h:qm p=true):p.values.length<=4∧p.clock.length<=6:=by
 unfold qm data ack order bare at h;grind
theorem xcx (p:Pk) (hp:p.Sm) (m:p.W):qf prog 255 [.d (.agg (qi p))] [] (.tup [.d (.sl 1 (qd (vk p).1)),.d (.int .i64 (vk p).2)]) []:=by
 refine F255.goT ?_;refine eo1 @qi.eq_1 ?_;refine cl F70 (wh p hp.v hp.c) ?_;refine eo ?_;refine xf _ (λh=> ?_) (λh=> ?_)
 ·have hb:vk p=([],1):=by unfold vk;rw[if_neg];simpa using h
  exact et2 @hb @qk
 have t:qm p=true:=by simpa using h
 have hb:vk p=(qfq (wd p),0):=by unfold vk;rw[if_pos t]
 obtain⟨f1,f2⟩:=qir t;refine ez ?_;refine qg (λi:{i:Nat//i<=7}=>xn2 p i.val) (λi=>7-i.val) ⟨0,jAj _⟩ ?_ (λi=> ?_)
 ·simp only[xn2,List.take_zero,List.flatMap_nil,qk,jAt,qi,zr,List.map_cons,List.map_nil,encI,go_sem,simprocAttr]
 obtain⟨i,hi⟩:=i;refine ez1 @xn2.eq_1 ?_;refine xf _ (λhc=> ?_) (λhc=> ?_)
 ·have l:i<(zr p).length:=by simp[zr]at hc⊢;omega
  have e:=m.h _ (jAg l);have q:=yh wInt 10 ((zr p).take i) λx e=>xg (m.h x (jBe e));have htk:((zr p).take i).length<=7:=by rw[jAl];omega
  have hsn:=qcu wInt (zr p) l;have h7:(zr p).length=7:=rfl;refine eo2 (qh encI (zr p) l) @encI.eq_1 ?_;refine clA F147 (k8 (((zr p).take i).flatMap wInt) (zr p)[i] (by omega) e) ?_;refine ez ?_;refine⟨⟨i+1,l⟩,?_,by dsimp only;omega⟩;exact et3 @xn2.eq_1 @hsn (qe (show i<9223372036854775807 by omega))
 ·have o:i=7:=by simp at hc;omega
  subst o;have ht:(zr p).take 7=zr p:=rfl;have q:=yh wInt 10 (zr p) λx e=>xg (m.h x e);have h7:(zr p).length=7:=rfl;have hwv:(wAVs p.values).length<=5000000:=by
   have h1:=xg (x7 (n:=p.values.length) (by omega));have h2:=yh wAV 1000020 p.values λx e=>qr5 (m.v x e);simp only[wAVs,jAc];omega
  have hwc:(qhe p.clock).length<=5000000:=by
   have h1:=xg (x7 (n:=p.clock.length) (by omega));have h2:=yh wInt 10 p.clock λx e=>xg (m.c x e);simp only[qhe,jAc];omega
  refine ez2 @ht @qi.eq_1 ?_;refine clA F307 (qyi ((zr p).flatMap wInt) p.values (by omega) (by omega) m.v) ?_;refine ez ?_;refine clA F306 (q63 ((zr p).flatMap wInt++wAVs p.values) p.clock (by rw[jAc];omega) (by omega) m.c) ?_;refine eo ?_;refine cl F305 (xtx (wd p) (by simp only[wd,jAc];omega)) ?_;exact et1 @hb
def d127:=cut prog f127 news
@[go_sem] def E127:=qj d127
def F127:=fnC d127 follows func127
def d86:=cut prog f86 news
@[go_sem] def E86:=qj d86
def F86:=fnC d86 follows func86
theorem qfc (s:List UInt8) (hl:s.length<=1000000000):qf prog 127 [.d (.sl 1 (qd s))] [] (.d (.sl 1 (qd s))) []:=by
 refine F127.go ?_;refine ez ?_;refine qng rfl rfl (λb hb=> ?_);refine eo ?_;refine xf _ (λh=> ?_) (λh=> ?_)
 ·exact et1 (hb h)
 ·refine ez ?_;omega
theorem xcy (w:World) (t:TypeId) (b:Nat) (es:Array MapEntry) (clock:Nat) (hb:w.heap[b]? =some (.map es clock)):
  (callFunc 158 #[.iface t (.map (some b))]).run prog w= .ok (.value (.iface t (.map (some w.heap.size)))) (w.alloc (.map es clock)):=by
 rw[run_callFunc_extern func158 rfl (by kernel_rfl) (by kernel_rfl) (e:=Extern.MapsClone.clone) (by kernel_rfl)];have e:Extern.MapsClone.clone #[.iface t (.map (some b))]=(getObj b>>=λo=>match o with
   | .map entries clock=>(newObj (.map entries clock)>>=λn=>pure (.iface t (.map (some n))))
   | _=>stuck "maps.clone: a map expected"):=rfl
 rw[e];simp[MapKept.run_getObj_map hb,Result.andThen]
set_option maxHeartbeats 1000000 in
theorem xhg (es:Ents) (c:Nat):qf prog 86 [.d (.map 0)] [.map es c] (.d (.map 1)) [.map es c,.map es c]:=by
 intro g w vs hd q hv p;match vs,q with
 | [v0],_=>
 have h0:=qol (ws (jq (hv 0 v0 _ rfl rfl)));obtain⟨b,rfl,hg⟩:=h0;obtain⟨b',B,l,hh,hl,he⟩:=(p.objs 0 _ rfl (by simp)).resolve_right (λh=>by cases h.1);have:b'=b:=p.inj b' b 0 B hg;subst this;go_enter func86,ntmps86
 have hcl:=xcy w 178 b' l.toArray c hh;have t:(binOp .eql 178 (.map (some b')) (.map none)).run prog w= .ok (.bool false) w:=by
  simp[binOp,qlp underlying178]
 have A: ∀W,(Instr.typeAssert (.iface 178 (.map (some w.heap.size))) 20 178 false).run prog W= .ok (.map (some w.heap.size)) W:=λW=>by
  simp[Instr.typeAssert,run_underlying underlying178]
 go_wp2_with (first|simp only[t,Result.andThen_ok]|simp only[hcl]|simp only[A,Result.andThen_ok])
 go_ret
 have hs:SR 0 (λ_=>False) g w ⟨[],[.map es c,.none],[],1⟩ {tmps:= #[],defers:= []}:=by
  refine⟨hd,trivial,rfl,λk v s h=>by simp[Fr.get]at h,λid o m hn=> ?_,p.inj,λb id C=> ?_,⟨by simp,λk s h=>by simp[Fr.get]at h,λid o m s hs=> ?_⟩⟩
  ·match id with
   |0=>exact p.objs 0 o m hn
   |1=>simp at m;exact(hn m.symm).elim
   |i+2=>simp at m
  ·obtain⟨o,z,E⟩:=p.ids b id C;refine⟨o,?_,E⟩;match id with
   |0=>exact z
   |i+1=>simp at z
  ·match id with
   |0=>simp at m;subst m;simp[AObj.cells]at hs
   |1=>simp at m;subst m;simp[AObj.cells]at hs
   |i+2=>simp at m
 obtain⟨q1,u⟩:=hs.newObjA (id:=1) (o:= .map es c) (blk:= .map l.toArray c) rfl (by simp) (λhG hr _=>⟨l,heap_alloc_new w _,hl,λi e x z E=>(he i e x z E).mono hr⟩) (by simp[AObj.cells]);refine⟨_,_,[],rfl,q1,u.dom,by simp[ASlot.toks,xi,AObj.cells],.map _ 1 (Ghost.at_same _ _ _),⟨λid o m hn=>u.objs id o m hn,u.inj,λb id C=>u.ids b id C⟩⟩
abbrev KV:=Nat×List UInt8×List UInt8
structure Cont where
 l:List KV
 c:Nat
 deriving DecidableEq,Inhabited
def qfr (x:KV):Nat×D×D:=(x.1,.str x.2.1,.sl 1 (qd x.2.2))
def mapO (m:Cont):AObj:= .map (m.l.map qfr) m.c
def jd (k:List UInt8) (x:KV):Bool:=k==x.2.1
def mPut (k v:List UInt8) (m:Cont):Cont:=match m.l.findIdx? (jd k)with
 |some j=>⟨m.l.modify j λe=>(e.1,k,v),m.c⟩
 |none=>⟨m.l++ [(m.c,k,v)],m.c+1⟩
def mDel (k:List UInt8) (m:Cont):Cont:=match m.l.findIdx? (jd k)with
 |some j=>⟨m.l.eraseIdx j,m.c⟩
 |none=>m
def mGet (k:List UInt8) (m:Cont):Option (List UInt8):=(m.l.find? (jd k)).map (·.2.2)
theorem qkw (k:List UInt8) (l:List KV):(l.map qfr).findIdx? (qbx (.str k))=l.findIdx? (jd k):=by
 rw[List.findIdx?_map];rfl
theorem xcz (k v:List UInt8) (m:Cont):qh9 (.str k) (.sl 1 (qd v)) m.c (m.l.map qfr)=(mPut k v m).l.map qfr:=by
 unfold qh9 mPut;rw[qkw];cases h:m.l.findIdx? (jd k)with
 |none=>simp[qfr]
 |some j=>
  simp only;apply jC5;intro i;rw[jDk,jAn,jAn,jDk];cases m.l[i]?with
  |none=>rfl
  |some x=>
   show some (if j=i then _ else _)=some (qfr (if j=i then _ else _));split<;>rfl
theorem q2j (k v:List UInt8) (m:Cont):qcm (.str k) m.c (m.l.map qfr)=(mPut k v m).c:=by
 unfold qcm mPut;rw[qkw];cases m.l.findIdx? (jd k)<;>rfl
theorem xc0 (k:List UInt8) (m:Cont):qqi (.str k) (m.l.map qfr)=(mDel k m).l.map qfr:=by
 unfold qqi mDel;rw[qkw];cases m.l.findIdx? (jd k)with
 |none=>rfl
 |some j=>
  simp only;apply jC5;intro i;rw[jE2,jAn,jAn,jAn,jE2];split<;>rfl
theorem xry (k:List UInt8) (m:Cont):(mDel k m).c=m.c:=by unfold mDel;split<;>rfl
theorem xc1 (k:List UInt8) (l:List KV):keyFit .str (.str k) (l.map qfr)=true:=by
 simp only[keyFit,KD.fit,jCr,List.all_map];exact jAx.2 λx _=>rfl
theorem q64 (k:List UInt8) (m:Cont):qbs (.str k) (m.l.map qfr)=(mGet k m).map λv=> .sl 1 (qd v):=by
 unfold qbs mGet;rw[jFh];have:qbx (.str k)∘qfr=jd k:=rfl;rw[this];cases m.l.find? (jd k)<;>rfl
attribute [go_sem] xc1
def jw:Cont->List OpS->Cont×Bool
 |m,[]=>(m,true)
 |m,o::l=>if o.del then jw (mDel o.key m) l else if(mPut o.key o.val m).l.length>400 then(mPut o.key o.val m,false)else jw (mPut o.key o.val m) l
def d87:=cut prog f87 news
@[go_sem] def E87:=qj d87
def F87:=fnC d87 follows func87
def q2k (m:Cont) (l:List OpS) (i:{i:Nat×Cont//i.1<=l.length∧jw i.2 (l.drop i.1)=jw m l}):St:=
 ⟨[(0,true,.d (.map 0)),(7,true,.d (.sl 3 (l.map xp))),(8,true,.d (.int .i64 l.length)),(9,true,.d (.int .i64 (i.val.1:Nat)))],[mapO i.val.2],[],1⟩
theorem q9x (m:Cont) (l:List OpS) (hl:l.length<=100000) (hv: ∀o∈l,o.val.length<=1000000):qf prog 87 [.d (.map 0),.d (.sl 3 (l.map xp))] [mapO m] (.d (.bool (jw m l).2)) [mapO (jw m l).1]:=by
 refine F87.go ?_;refine ez1 @mapO.eq_1 ?_;refine qg (q2k m l) (λi=>l.length-i.val.1) ⟨(0,m),jAj _,rfl⟩ ?_ (λi=> ?_)
 ·exact et2 @q2k.eq_1 @mapO.eq_1
 obtain⟨⟨i,u⟩,hi,p⟩:=i;simp only at hi p;refine ez2 @q2k.eq_1 @mapO.eq_1 ?_;refine xf _ (λhc=> ?_) (λhc=> ?_)
 ·have e:i<l.length:=by simpa using hc
  have hd:l.drop i=l[i]::l.drop (i+1):=jBm e;rw[hd,jw]at p;refine eo2 (qh xp l e) @xp.eq_1 ?_
  (repeat(with_reducible refine ob ?_));refine xf _ (λh=> ?_) (λh=> ?_)
  ·rw[if_pos h]at p;refine ez1 @xc0 ?_;refine⟨⟨(i+1,mDel l[i].key u),e,p⟩,?_,by dsimp only;omega⟩;exact et4 @q2k.eq_1 @mapO.eq_1 @xry (qe (show i<9223372036854775807 by omega))
  ·rw[if_neg (by simp[h])]at p;refine eo ?_;refine cl F127 (qfc l[i].val (by have:=hv l[i] (jAg e);omega)) ?_;simp only[xcz,q2j _ l[i].val,go_sem,simprocAttr];refine xf _ (λt=> ?_) (λt=> ?_)
   ·rw[if_pos (by simp at t;omega)]at p;exact et1 p.symm
   ·rw[if_neg (by simp at t;omega)]at p;refine ez ?_;refine⟨⟨(i+1,mPut l[i].key l[i].val u),e,p⟩,?_,by dsimp only;omega⟩;exact et3 @q2k.eq_1 @mapO.eq_1 (qe (show i<9223372036854775807 by omega))
 ·have q:i=l.length:=by simp at hc;omega
  subst q;rw[jC0,jw]at p;exact et1 p.symm
structure Sto where
 file:List UInt8
 synced:Int
 m:Cont
 deriving DecidableEq,Inhabited
def stoO (s:Sto) (id:Nat):AObj:= .row [.d (.sl 1 (qd s.file)),.d (.int .i64 s.synced),.d (.map id)]
def kx:Cont:=⟨[],0⟩
def newS:Sto:=⟨[],0,kx⟩
def d28:=cut prog f28 news
@[go_sem] def E28:=qj d28
def F28:=fnC d28 follows func28
def d29:=cut prog f29 news
@[go_sem] def E29:=qj d29
def F29:=fnC d29 follows func29
def d184:=cut prog f184 news
@[go_sem] def E184:=qj d184
def F184:=fnC d184 follows func184
def d62:=cut prog f62 news
@[go_sem] def E62:=qj d62
def F62:=fnC d62 follows func62
def d128:=cut prog f128 news
@[go_sem] def E128:=qj d128
def F128:=fnC d128 follows func128
def d61:=cut prog f61 news
@[go_sem] def E61:=qj d61
def F61:=fnC d61 follows func61
theorem xrz:qf prog 28 [] [] (.d (.ptr 1 0)) [mapO kx,stoO newS 0]:=by
 refine F28.go ?_;exact et6 @mapO.eq_1 @stoO.eq_1 @kx.eq_1 @newS.eq_1 @List.map_nil.{0,0} @qk
def xa (s:Sto) (l:List OpS):Sto×Int:=
 if(qs l).2≠0 then(s,(qs l).2)else if(jw s.m l).2=false then(s,28)else(⟨wn s.file (qs l).1,s.synced,(jw s.m l).1⟩,0)
def qdt (s:Sto) (l:List OpS):List AObj:=if(xa s l).2=0 then [stoO (xa s l).1 2,mapO s.m,mapO (xa s l).1.m]else [stoO s 1,mapO s.m,.none]
theorem qb7 (l:List OpS):(qs l).1.length<=2000:=by
 unfold qs;split
 ·simp
 ·split
  ·simp
  ·rename_i h;simp only[jA0,decide_eq_true_eq,not_or]at h;simp only;omega
theorem wq {l:List OpS} (h:(qs l).2=0):l.length<=20∧(∀o∈l,k9 o=true)∧qs l=(wOps l,0):=by
 unfold qs at h⊢;split at h
 ·simp at h
 ·rename_i d;split at h
  ·simp at h
  ·rename_i e;rw[if_neg d,if_neg e];simp only[jA0,decide_eq_true_eq,not_or,jB3,not_exists,not_and]at d e;exact⟨by omega,λo ho=>by simpa using d.2 o ho,rfl⟩
theorem ql8 (s:Sto) (l:List OpS) (t:l.length<=100000) (hf:s.file.length<=100000000):
  qf prog 29 [.d (.ptr 0 0),.d (.sl 3 (l.map xp))] [stoO s 1,mapO s.m] (.d (.int .i64 (xa s l).2)) (qdt s l):=by
 refine F29.go ?_;refine eo2 @stoO.eq_1 @mapO.eq_1 ?_;refine no_ ?_;refine eo ?_;refine cl F85 (qve l t) ?_;refine eo ?_;refine xf _ (λh=> ?_) (λh=> ?_)
 ·have i:(qs l).2≠0:=by simpa using h
  have hb:xa s l=(s,(qs l).2):=by unfold xa;rw[if_pos i]
  have hb2:qdt s l= [stoO s 1,mapO s.m,.none]:=by unfold qdt;rw[hb,if_neg i]
  exact et4 @hb @hb2 @stoO.eq_1 @mapO.eq_1
 have e:(qs l).2=0:=by simpa using h
 obtain⟨h20,q,henc⟩:=wq e;refine ez ?_;refine clO [1,2] F86 (xhg (s.m.l.map qfr) s.m.c) ?_;refine ez ?_;have p:=q9x s.m l t (λo ho=>by have:=(vr.1 (q o ho)).2.2.1;omega);simp only[mapO]at p
 (repeat(with_reducible refine ob ?_));refine clO [2] F87 (p) ?_
 refine eo ?_;refine xf _ (λh=> ?_) (λh=> ?_)
 ·have hb:xa s l=(s,28):=by unfold xa;rw[if_neg (by simp[e]),if_pos (by simpa using h)]
  have hb2:qdt s l= [stoO s 1,mapO s.m,.none]:=by unfold qdt;rw[hb,if_neg (by simp)]
  exact et4 @hb @hb2 @stoO.eq_1 @mapO.eq_1
 have hb:xa s l=(⟨wn s.file (qs l).1,s.synced,(jw s.m l).1⟩,0):=by unfold xa;rw[if_neg (by simp[e]),if_neg (by simpa using h)]
 have hb2:qdt s l= [stoO (xa s l).1 2,mapO s.m,mapO (xa s l).1.m]:=by unfold qdt;rw[if_pos (by rw[hb])]
 refine eo ?_;refine cl F88 (q2h s.file (qs l).1 s.synced hf (qb7 l)) ?_;exact et5 @vo.eq_1 @hb2 @hb @stoO.eq_1 @mapO.eq_1
def optV (o:Option (List UInt8)):List UInt8:=o.getD []
theorem xw1 (s:Sto) (k:List UInt8) (hm: ∀x∈s.m.l,x.2.2.length<=1000000):
  qf prog 184 [.d (.ptr 0 0),.d (.str k)] [stoO s 1,mapO s.m] (.tup [.d (.sl 1 (qd (optV (mGet k s.m)))),.d (.bool (mGet k s.m).isSome)]) [stoO s 1,mapO s.m]:=by
 refine F184.goT ?_;refine eo2 @stoO.eq_1 @mapO.eq_1 ?_;refine no_ ?_;refine ez1 @q64 ?_;cases hg:mGet k s.m with
 |none=>
  refine ez1 @Option.map_none.{0,0} ?_;have:=qfc [] (by simp);simp only[qk]at this
  (repeat(with_reducible refine ob ?_));refine cl F127 (this) ?_
  exact et4 @optV.eq_1 @Option.getD_none.{0} @qk @jDd.{0}
 |some v=>
  have hv:v.length<=1000000:=by
   unfold mGet at hg;rw[jAb]at hg;obtain⟨x,hx,rfl⟩:=hg;exact hm x (jBz hx)
  refine eo1 @Option.map_some.{0,0} ?_;refine cl F127 (qfc v (by omega)) ?_;exact et3 @optV.eq_1 @Option.getD_some.{0} @jDv.{0}
theorem xhh (s:Sto) (hf:s.file.length<=1000000000):
  qf prog 62 [.d (.ptr 0 0)] [stoO s 1,mapO s.m] (.d (.agg (vo s.file s.synced))) [stoO s 1,mapO s.m]:=by
 refine F62.go ?_;refine eo2 @stoO.eq_1 @mapO.eq_1 ?_;refine no_ ?_;refine eo ?_;refine cl F127 (qfc s.file hf) ?_;exact et1 @vo.eq_1
theorem qvh (e:List UInt8) (h:Int) (hf:e.length<=1000000000):
  qf prog 128 [.d (.agg (vo e h))] [] (.d (.agg (vo e e.length))) []:=by
 refine F128.go ?_;refine eo1 @vo.eq_1 ?_;refine cl F127 (qfc e hf) ?_;exact et
def qkx (s:Sto):Sto:=⟨s.file,s.file.length,s.m⟩
theorem xty (s:Sto) (hf:s.file.length<=1000000000):
  qf prog 61 [.d (.ptr 0 0)] [stoO s 1,mapO s.m] (.d (.int .i64 0)) [stoO (qkx s) 1,mapO s.m]:=by
 refine F61.go ?_;refine eo2 @stoO.eq_1 @mapO.eq_1 ?_;refine no_ ?_;refine eo ?_;refine cl F128 (qvh s.file s.synced hf) ?_;exact et2 @vo.eq_1 @qkx.eq_1
end Go.Proofs.YtkcdbcbpbolgkaaGreatDoor
namespace Go.Proofs.YtkcdbcbpbolgkaaGreatDoor
open Tryz
open Go.Abs Go.RowKit
attribute [local go_sem] qye xtw qyf
def in1 (n:Nat) (s f t:Nat):List (Nat×Nat×Nat):=(List.range' t (n-t)).flatMap λt=>if f=t then []else [(s,f,t)]
def in2 (n:Nat) (s f:Nat):List (Nat×Nat×Nat):=(List.range' f (n-f)).flatMap λf=>in1 n s f 0
def in3 (n ss:Nat) (s:Nat):List (Nat×Nat×Nat):=(List.range' s (ss+1-s)).flatMap λs=>in2 n s 0
def xr (n ss:Nat):List (Nat×Nat×Nat):=in3 n ss 1
def q2l (p:Nat×Nat×Nat):List D:= [.agg [.int .i64 (p.1:Nat),.int .i64 (p.2.1:Nat),.int .i64 (p.2.2:Nat)]]
theorem q65 {n s f t:Nat} (h:n<=t):in1 n s f t= []:=by unfold in1;rw[show n-t=0 by omega];rfl
theorem xhi {n s f t:Nat} (h:t<n) (he:f=t):in1 n s f t=in1 n s f (t+1):=by
 unfold in1;rw[show n-t=(n-(t+1))+1 by omega,List.range'_succ,List.flatMap_cons,if_pos he];rfl
theorem xhj {n s f t:Nat} (h:t<n) (he:f≠t):in1 n s f t=(s,f,t)::in1 n s f (t+1):=by
 unfold in1;rw[show n-t=(n-(t+1))+1 by omega,List.range'_succ,List.flatMap_cons,if_neg he];rfl
theorem q66 {n s f:Nat} (h:n<=f):in2 n s f= []:=by unfold in2;rw[show n-f=0 by omega];rfl
theorem qyj {n s f:Nat} (h:f<n):in2 n s f=in1 n s f 0++in2 n s (f+1):=by
 unfold in2;rw[show n-f=(n-(f+1))+1 by omega,List.range'_succ,List.flatMap_cons]
theorem q67 {n ss s:Nat} (h:ss<s):in3 n ss s= []:=by unfold in3;rw[show ss+1-s=0 by omega];rfl
theorem qyk {n ss s:Nat} (h:s<=ss):in3 n ss s=in2 n s 0++in3 n ss (s+1):=by
 unfold in3;rw[show ss+1-s=(ss+1-(s+1))+1 by omega,List.range'_succ,List.flatMap_cons]
theorem xtz {L:List (Nat×Nat×Nat)} {k:Nat} {x:Nat×Nat×Nat} {r:List (Nat×Nat×Nat)} (h:L.drop k=x::r):(L.map q2l)[k]? =some (q2l x)∧L.drop (k+1)=r:=by
 have h1:L[k]? =some x:=by
  have:=congrArg (λl=>l[0]?) h;simpa using this
 refine⟨by rw[jAn,h1];rfl,?_⟩;have:=congrArg (List.drop 1) h;rwa [jCq,jCs,List.drop_zero]at this
set_option maxHeartbeats 4000000 in
theorem qvi (n ss:Nat) (hn:n<=1000) (hs:ss<=1000):xl8 prog 130 [(n:Nat),(ss:Nat)] ((xr n ss).map q2l):=by
 refine⟨by rw[func130];rfl,?_⟩;intro w bx bb l J E ao hY h0;refine callsIn_of_wp func130 rfl trivial ?_ rfl;simp only[ntmps130,List.size_toArray,List.length_cons,List.length_nil,Nat.reduceAdd,Nat.reduceSub,jFf,jFe,List.push_toArray,jFm,List.nil_append,List.cons_append];have a2: ∀k W,J k W->W.cell? ⟨bx,0,none⟩=some (.pointer (some ⟨bb,0,none⟩))∧W.frozen? ⟨bx,0,none⟩=false∧W.cell? ⟨bb,0,none⟩=some (.int .i64 n)∧W.cell? ⟨bb,1,none⟩=some (.int .i64 ss)∧W.frozen? ⟨bb,0,none⟩=false∧W.frozen? ⟨bb,1,none⟩=false:=by
  intro k W hJ;obtain⟨⟨c,e,h1,h2⟩,c',e',h3,h4⟩:=ao k W hJ;have h5:=h4 0 n rfl;have h6:=h4 1 ss rfl;refine⟨by simp[World.cell?,h1,h2],by simp[World.frozen?,h1],by simp[World.cell?,h3,h5],by simp[World.cell?,h3,h6],by simp[World.frozen?,h3],by simp[World.frozen?,h3]⟩
 gi_wp2
 refine qda (λm a W=> ∃s k:Nat,m=ss+1-s∧1<=s∧s<=ss+1∧(xr n ss).drop k=in3 n ss s∧k<=(xr n ss).length∧(∃t2 t4 t5 t6 t7 t8 t9 ak aj ai ah ag af ae a1 a0 ad ac ab aa Z am al Y X U R O M I G F C B A z u q p,a={tmps:= #[.func (.yield l) #[] #[],.pointer (some ⟨bx,0,none⟩),t2,.int .i64 s,t4,t5,t6,t7,t8,t9,ak,aj,ai,ah,ag,af,ae,a1,a0,ad,ac,ab,aa,Z,am,al,Y,X,U,R,O,M,I,G,F,C,B,A,z,u,q,p],defers:= []})∧J k W) (n0:=ss)
  ⟨1,0,by omega,by omega,by omega,rfl,by omega,⟨_,_,_,_,_,_,_,_,_,_,_,_,_,_,_,_,_,_,_,_,_,_,_,_,_,_,_,_,_,_,_,_,_,_,_,_,_,_,_,rfl⟩,h0⟩ ?_
 rintro m a W ⟨s,k,rfl,hs1,hs2,o,hk,⟨t2,t4,t5,t6,t7,t8,t9,ak,aj,ai,ah,ag,af,ae,a1,a0,ad,ac,ab,aa,Z,am,al,Y,X,U,R,O,M,I,G,F,C,B,A,z,u,q,p,rfl⟩,hJ⟩;obtain⟨ax,ar,az,ay,aw,av⟩:=a2 k W hJ;by_cases a5:s<=ss
 ·have aq:(s:Int)<=(ss:Int):=by omega
  gi_wp2
  refine qda (λm a W=> ∃f k:Nat,m=n-f∧f<=n∧(xr n ss).drop k=in2 n s f++in3 n ss (s+1)∧k<=(xr n ss).length∧(∃t2 t4 t5 t6 t7 t8 t9 ak aj ai ah ag af ae ad ac ab aa Z am al Y X U R O M I G F C B A z u q p,a={tmps:= #[.func (.yield l) #[] #[],.pointer (some ⟨bx,0,none⟩),t2,.int .i64 s,t4,t5,t6,t7,t8,t9,ak,aj,ai,ah,ag,af,ae,.int .i64 n,.int .i64 f,ad,ac,ab,aa,Z,am,al,Y,X,U,R,O,M,I,G,F,C,B,A,z,u,q,p],defers:= []})∧J k W) (n0:=n)
   ⟨0,k,by omega,by omega,by rw[o,qyk a5],hk,⟨_,_,_,_,_,_,_,_,_,_,_,_,_,_,_,_,_,_,_,_,_,_,_,_,_,_,_,_,_,_,_,_,_,_,_,_,_,rfl⟩,hJ⟩ ?_
  clear hJ o ax ar az ay aw av hk;clear k W;rintro m a W ⟨f,k,rfl,hf,o,hk,⟨t2,t4,t5,t6,t7,t8,t9,ak,aj,ai,ah,ag,af,ae,ad,ac,ab,aa,Z,am,al,Y,X,U,R,O,M,I,G,F,C,B,A,z,u,q,p,rfl⟩,hJ⟩;obtain⟨ax,ar,az,ay,aw,av⟩:=a2 k W hJ;by_cases a7:f<n
  ·have au:(f:Int)<(n:Int):=by omega
   have hwf:(IntKind.wrap .i64 ((f:Int)+1))=((f+1:Nat):Int):=qe (by omega);gi_wp2
   refine qda (λm a W=> ∃t k:Nat,m=n-t∧t<=n∧(xr n ss).drop k=in1 n s f t++(in2 n s (f+1)++in3 n ss (s+1))∧k<=(xr n ss).length∧(∃t2 t5 t6 t7 t8 t9 ak aj ai ah ag af ae ad ac ab aa Z Y X U R O M I G F C B A z u q p,a={tmps:= #[.func (.yield l) #[] #[],.pointer (some ⟨bx,0,none⟩),t2,.int .i64 s,.int .i64 f,t5,t6,t7,t8,t9,ak,aj,ai,ah,ag,af,ae,.int .i64 n,.int .i64 f,ad,ac,ab,aa,Z,.int .i64 n,.int .i64 t,Y,X,U,R,O,M,I,G,F,C,B,A,z,u,q,p],defers:= []})∧J k W) (n0:=n)
    ⟨0,k,by omega,by omega,by rw[o,qyj a7,jAh],hk,⟨_,_,_,_,_,_,_,_,_,_,_,_,_,_,_,_,_,_,_,_,_,_,_,_,_,_,_,_,_,_,_,_,_,_,rfl⟩,hJ⟩ ?_
   clear hJ o ax ar az ay aw av hk;clear k W;rintro m a W ⟨t,k,rfl,ht,o,hk,⟨t2,t5,t6,t7,t8,t9,ak,aj,ai,ah,ag,af,ae,ad,ac,ab,aa,Z,Y,X,U,R,O,M,I,G,F,C,B,A,z,u,q,p,rfl⟩,hJ⟩;by_cases a4:t<n
   ·have an:(t:Int)<(n:Int):=by omega
    by_cases a3:f=t
    ·subst a3;gi_wp2
     refine⟨n-(f+1),by omega,f+1,k,rfl,by omega,by rw[o,xhi (by omega) rfl],hk,?_,hJ⟩;exact⟨_,_,_,_,_,_,_,_,_,_,_,_,_,_,_,_,_,_,_,_,_,_,_,_,_,_,_,_,_,_,_,_,_,_,rfl⟩
    ·have hfti:(f:Int)≠(t:Int):=by omega
     rw[xhj a4 a3,List.cons_append]at o;obtain⟨a9,a8⟩:=xtz o;obtain⟨fn,tmps,assign,body,hy,hR⟩:=hY k _ [.agg #[.int .i64 s,.int .i64 f,.int .i64 t]] W a9 hJ rfl (by
      intro i v d hi hd;match i with
      |0=>
       simp[q2l]at hi hd;subst hi;subst hd;exact .agg [.int .i64 s,.int .i64 f,.int .i64 t] _ rfl (by simp[D.isCell]) (λj v d h1 h2=>by
        match j with
        |0=>simp at h1 h2;subst h1;subst h2;exact .int _ _
        |1=>simp at h1 h2;subst h1;subst h2;exact .int _ _
        |2=>simp at h1 h2;subst h1;subst h2;exact .int _ _
        |j+3=>simp at h1)
      |i+1=>simp at hi)
     gi_wp2
     refine hR.mono ?_;rintro e1 W1 (⟨rfl,ba⟩|⟨rfl,hE⟩)
     ·gi_wp2
      exact⟨n-(t+1),by omega,t+1,k+1,rfl,by omega,a8,(by
       rcases jB9 k (xr n ss).length with h|h
       ·omega
       ·rw[List.drop_eq_nil_of_le h]at o;cases o),⟨_,_,_,_,_,_,_,_,_,_,_,_,_,_,_,_,_,_,_,_,_,_,_,_,_,_,_,_,_,_,_,_,_,_,rfl⟩,ba⟩
     ·gi_wp2
      refine bodyPost_ret (results_none rfl _ _ _) rfl ?_;exact⟨⟨_,rfl⟩,.inr hE⟩
   ·have an: ¬(t:Int)<(n:Int):=by omega
    gi_wp2
    exact⟨n-(f+1),by omega,f+1,rfl,by omega,k,by rw[o,q65 (by omega),List.nil_append],hk,by push_cast;rfl,hJ⟩
  ·have au: ¬(f:Int)<(n:Int):=by omega
   gi_wp2
   exact⟨ss+1-(s+1),by omega,s+1,rfl,by omega,by omega,k,by rw[o,q66 (by omega),List.nil_append],hk,by push_cast;rfl,hJ⟩
 ·have aq: ¬(s:Int)<=(ss:Int):=by omega
  gi_wp2
  have a6:k=(xr n ss).length:=by
   rw[q67 (by omega)]at o;have:=congrArg List.length o;simp at this;omega
  subst a6;go_end0
  exact⟨⟨_,rfl⟩,.inl hJ⟩
end Go.Proofs.YtkcdbcbpbolgkaaGreatDoor
