/- Texts Wk, Wl, Wm, Wn, Vc, Cg, Ch, Ga, Gb, Gc, Gd, Ge, Gg, Za, Yd, Ya, Yb, Yc, Ye, Yf, Yg, Yh, Ci, Cj, Vr, Vb, Vp, Yk, Vd. -/
import Derived.Test.YtkcdbcbpbolgkaaGreatDoorMwo
import Derived.Shelf.SlSortCmp.NoneTotal
set_option linter.unusedSimpArgs false
set_option linter.unusedVariables false
set_option linter.defProp false
set_option maxRecDepth 100000
noncomputable section
namespace Go.Proofs.YtkcdbcbpbolgkaaGreatDoor
open Tryz
open Go.Abs Go.Shelf Go.RowKit Go.Lib Go.Sort
theorem xn4 (x:RowE):(encR x).length=2:=rfl
theorem xn5 (x:RowE): ∀v∈encR x,v.oneCell'=true:=by
 intro v d;simp[encR]at d;rcases d with rfl|rfl
 ·rfl
 ·exact x.2.2
set_option maxHeartbeats 1000000 in
theorem xt0 (l:List En) (hn:(l.map (·.1)).Nodup) (hl:l.length<=1000000):
  qf prog 172 [.d (.ref 0 0 2 l.length),.d (.func (.func 173) [] [])] [.row ((qf2 l).map .d)] (.tup []) [.row ((qf2 (qfe l)).map .d)]:=by
 intro g w vs hd aj hv ho;match vs,aj with
 | [v0,v1],_=>
 have h1:=ws (jq (hv 1 v1 _ rfl rfl));have a6:v1= .func (.func 173) #[] #[]:=by
  cases h1 with
  |func _ vf vc _ _ hf hc=>
   have Z:vf= []:=jAy (by simpa using hf);have e2:vc= []:=jAy (by simpa using hc);subst Z;subst e2;rfl
 subst a6;have h0:=ws (jq (hv 0 v0 _ rfl rfl));generalize ao:l.length=n at h0;have none_: ∀(p:Option Addr) (cap:Nat),n=0->v0= .slice p 0 cap->Calls prog 172 [v0,.func (.func 173) #[] #[]].toArray w λe w'=>
   ∃v g' live',e= .returned v∧G g w g' w'∧Dom g' w'∧(∀t∈(ASlot.tup []).toks++xi [.row ((qf2 (qfe l)).map .d)],t∈live')∧RS g' w' live' v (.tup [])∧ObjsOk g' w' live' [.row ((qf2 (qfe l)).map .d)]:=by
  intro p cap h0 av;have a0:l= []:=jAy (by omega);subst a0;subst av;have B:=AnyF.slices_SortFunc_none xw4 p cap (.func (.func 173) #[] #[]) w;change Calls prog 172 _ _ _ at B;refine B.mono ?_;rintro e w' ⟨rfl,rfl⟩;have aw:qfe []= []:=by simp[qfe]
  rw[aw];exact⟨_,g,[],rfl,.refl _ _,hd,by simp[ASlot.toks,xi,AObj.cells],⟨[],rfl,rfl,λi u s hu=>by simp at hu⟩,ho⟩
 cases h0 with
 |refnil a=>exact none_ a 0 rfl rfl
 |ref b _ _ _ _ cap hg hcap hmx hsz=>
 by_cases az:n=0
 ·subst az;exact none_ _ cap rfl rfl
 obtain⟨b',a8,c,et,hh,al,hcc⟩:=(ho.objs 0 _ rfl (by simp)).resolve_right (λh=>by
  have:=h.1;simp at this;have:=congrArg List.length this;simp[qjn]at this;omega)
 have:b'=b:=ho.inj b' b 0 a8 hg;subst this;rw[jAm,qjn]at al;have Y: ∀(i:Nat) (e:En),l[i]? =some e->c[2*i]? =some (.string ⟨e.1.toArray⟩)∧ ∃v,c[2*i+1]? =some v∧v.oneCell'=true∧RV g w v (.sl 1 (qd e.2)):=by
  intro i e I;obtain⟨k1,k2⟩:=qvj l i e I;obtain⟨u,u1,_,u3⟩:=hcc (2*i) (.d (.str e.1)) (by rw[jAn,k1];rfl);obtain⟨v,v1,v2,v3⟩:=hcc (2*i+1) (.d (.sl 1 (qd e.2))) (by rw[jAn,k2];rfl);have hu:=qc5 (show RV g w u (.str e.1)from u3);subst hu;exact⟨u1,v,v1,v2,v3⟩
 let C:Nat->RowE:=λi=>match l[i]?,c[2*i+1]?with
  |some e,some v=>if h:v.oneCell'=true then(e.1,⟨v,h⟩)else default
  | _,_=>default
 let P:List (RowE×En):=(List.range n).map λi=>(C i,l.getD i ([],[]))
 have bb: ∀z∈P,z.1.1=z.2.1∧RV g w z.1.2.1 (.sl 1 (qd z.2.2)):=by
  intro z hz;obtain⟨i,hi,rfl⟩:=jAo.1 hz;have E:i<l.length:=by rw[ao];exact jC8.1 hi
  have I:=jAa E;obtain⟨_,v,v1,v2,v3⟩:=Y i _ I;have:C i=(l[i].1,⟨v,v2⟩):=by simp only[C,I,v1,dif_pos v2]
  have e2:l.getD i ([],[])=l[i]:=by simp[List.getD,I]
  simp only[this,e2];exact⟨trivial,v3⟩
 have ba:P.map (·.2)=l:=by
  apply jC5;intro i;simp only[P,jEa,jAn];rcases jB9 i n with h|h
  ·rw[jC4 h];have I:=jAa (show i<l.length by omega);simp[I,List.getD]
  ·rw[jCg (by simpa using h),jCg (by omega)];rfl
 obtain⟨d,ak⟩: ∃d:Array RowE,d=(P.map (·.1)).toArray:=⟨_,rfl⟩;have U:d.size=n:=by rw[ak];simp[P]
 have a7: ∀i,i<n->d[i]! =C i:=λi hi=>by rw[ak];simp[P,hi]
 have ae:b'<w.heap.size:=(jA5.1 hh).1;have a5: ∀t,t<n*2->(flatK encR 2 d)[t]! =c.getD t default:=by
  intro t ht;rw[get_flatK encR 2 d t (by rw[U];exact ht),a7 _ (by omega)];have E:t/2<l.length:=by omega
  have I:=jAa E;obtain⟨k1,v,v1,v2,v3⟩:=Y (t/2) _ I;have hm:C (t/2)=(l[t/2].1,⟨v,v2⟩):=by simp only[C,I,v1,dif_pos v2]
  rw[hm];rcases jDb t with hp|hp
  ·have Z:2*(t/2)=t:=by omega
   rw[Z]at k1;rw[hp,jBg,k1];rfl
  ·have Z:2*(t/2)+1=t:=by omega
   rw[Z]at v1;rw[hp,jBg,v1];rfl
 have hH:HoldsK encR 2 w b' 0 d:=by
  intro j hj;rw[size_flatK,U]at hj;refine⟨?_,by simp[World.frozen?,hh]⟩;rw[a5 j hj];have a2:j<c.size:=by omega
  simp[World.cell?,hh,a2]
 have eg: ∀args w,(callFunc 173 args).run prog w= .ok (.enter 173 args) w:=enters_of func173 (by kernel_rfl) rfl;have B:=AnyQ.slices_SortFunc xw4 2 isAgg195 sizeOf195 encR xn4 xn5 cmpR x0t 173 #[] b' 0 cap d w eg (λ_ _ _ _ x y=>xn3 x y _) hH ae (by omega);change Calls prog 172 _ _ _ at B;rw[U]at B;refine B.mono ?_;rintro e w' ⟨rfl,d',m,os,ac,aa,ag⟩;obtain⟨R,_,ah⟩:=ac;rw[U]at R;have ax:d'.toList.Perm (P.map (·.1)):=by
  have Z:d'.extract 0 n=d':=by rw[<- R];simp
  have e2:d.extract 0 n=d:=by rw[<- U];simp
  rw[Z,e2]at ah;rw[ak]at ah;simpa using ah
 obtain⟨Q,q1,q2⟩:=xhl (λz:RowE×En=>z.1) ax rfl;have a9:Q.length=n:=by rw[q1.length_eq];simp[P]
 have ad:(Q.map (·.2)).Perm l:=by
  have:=q1.map (λz:RowE×En=>z.2);rwa [ba]at this
 have hQ: ∀(i:Nat) (z:RowE×En),Q[i]? =some z->d'[i]! =z.1∧z.1.1=z.2.1∧RV g w z.1.2.1 (.sl 1 (qd z.2.2)):=by
  intro i z hz;have h1:=congrArg (λl=>l[i]?) q2;simp only[jAn,hz,Option.map_some,jD2]at h1;have hi:i<d'.size:=by rw[R,<- a9];exact(jAd.1 hz).1
  refine⟨?_,bb z (q1.mem_iff.1 (jAe hz))⟩;rw[getElem!_pos d' i hi];rw[jEt hi]at h1;simpa using h1.symm
 have M:(Q.map (·.2)).Pairwise λa b=>cmpB a.1 b.1<=0:=by
  rw[jDh];intro i j hi hj a3;simp only[jAm]at hi hj;have zi:=hQ i _ (jAa hi);have zj:=hQ j _ (jAa hj);have hs:=aa i j (jAj _) a3 (by omega);rw[zi.1,zj.1]at hs;have an: ¬cmpB Q[j].1.1 Q[i].1.1<0:=of_decide_eq_false hs;rw[zi.2.1,zj.2.1]at an;simp only[jE0];exact qew.1 an
 have hes:Q.map (·.2)=qfe l:=by
  have ay:((Q.map (·.2)).map (·.1)).Nodup:=(ad.map (λx:En=>x.1)).nodup_iff.2 hn;exact qjo (ad.trans (vd l).symm) ay M (qem l)
 have am:w'.heap=(w.heap.modify b' (onCells (putCells (λv:Value=>v) 0 (flatK encR 2 d'))))++os:=by subst ag;rfl
 have q: ∀k,k≠b'->k<w.heap.size->w'.heap[k]? =w.heap[k]? :=by
  intro k hk a1;rw[am,Array.getElem?_append,if_pos (by simpa using a1),jEk,if_neg (Ne.symm hk)]
 have O:w'.heap[b']? =some (.cells (putCells (λv:Value=>v) 0 (flatK encR 2 d') c) et (0,0)):=by
  rw[am,Array.getElem?_append,if_pos (by simpa using ae),jEk,if_pos rfl,hh];rfl
 have ab:w.heap.size<=w'.heap.size:=by
  subst ag;simp[sortWorldK,grow,putRowK,putRow,mapBlock,Sort.ahead]
 have J:w'.os=w.os∧w'.tape=w.tape∧w'.output=w.output:=by subst ag;exact⟨rfl,rfl,rfl⟩
 have ai: ∀k r,g k=r->(∀i,r≠ .obj i) ->k≠b':=λk r h hr I=>by rw[I,hg]at h;exact hr 0 h.symm
 have hG:G g w g w':=by
  refine⟨J.1,J.2.1,J.2.2,ab,λk hk A=>⟨q k (ai k _ A (by simp)) hk,A⟩,λk r hk A=>⟨q k (ai k _ A (by simp)) hk,A⟩,
   λk r t hk A=>⟨r,some t,A,jAi _,λi u _ hu=>by rw[kj (q k (ai k _ A (by simp)) hk)];exact hu⟩,λk id hk A=>⟨A,?_⟩⟩
  by_cases ar:k=b'
  ·subst ar;rw[vq hh,vq O];simp[putCells]
  ·exact jBt (jl (q k ar hk)).symm
 refine⟨_,g,[],rfl,hG,hd.of hG λk hk=>hd.1 k (by omega),by simp[ASlot.toks,xi,AObj.cells],⟨[],rfl,rfl,λi u s hu=>by simp at hu⟩,⟨λaf o F hno=> ?_,ho.inj,λb af hb=> ?_⟩⟩
 ·match af,F with
  |0,F=>
   simp at F;subst F;have aq:=(vd l).length_eq;refine .inl ⟨b',hg,_,et,O,by simp[putCells,qjn,aq];omega,λi s hi=> ?_⟩;rw[jAn,jAb]at hi;obtain⟨x,hx,rfl⟩:=hi;have E:i<n*2:=by
    have:=(jAd.1 hx).1;rw[qjn,aq,ao]at this;exact this
   have au:i/2<Q.length:=by omega
   obtain⟨z1,z2,z3⟩:=hQ (i/2) _ (jAa au);have hz:(qfe l)[i/2]? =some Q[i/2].2:=by rw[<- hes,jAn,jAa au];rfl
   obtain⟨k1,k2⟩:=qvj _ _ _ hz;have X:(putCells (λv:Value=>v) 0 (flatK encR 2 d') c)[i]? =some ((encR Q[i/2].1)[i%2]!):=by
    have a4:i<c.size:=by omega
    simp only[putCells,Array.getElem?_mapIdx,jEt a4,Option.map_some,size_flatK,R,jAj,true_and,Nat.zero_add,E,if_true,jCz];rw[get_flatK encR 2 d' i (by rw[R];exact E),z1]
   rcases jDb i with hp|hp
   ·have Z:2*(i/2)=i:=by omega
    rw[Z]at k1;rw[k1]at hx;cases hx;rw[hp]at X;have al:(encR Q[i/2].1)[0]! = .string ⟨Q[i/2].2.1.toArray⟩:=by rw[<- z2];rfl
    rw[al]at X;exact⟨_,X,rfl,.str _⟩
   ·have Z:2*(i/2)+1=i:=by omega
    rw[Z]at k2;rw[k2]at hx;cases hx;rw[hp]at X;exact⟨_,X,Q[i/2].1.2.2,z3.mono (hG.rowsKept hd) (λb id hb=>hG.obj b id (hd.lt_obj hb) hb)⟩
  |i+1,F=>simp at F
 ·obtain⟨o,h1,h2⟩:=ho.ids b af hb;match af,h1 with
  |0,h1=>exact⟨_,rfl,by simp⟩
  |i+1,h1=>simp at h1
end Go.Proofs.YtkcdbcbpbolgkaaGreatDoor
namespace Go.Proofs.YtkcdbcbpbolgkaaGreatDoor
open Tryz
open Go.Abs
attribute [go_sem] qa4
def pre (p k:List UInt8):Bool:=decide (p.length<=k.length)&&k.take p.length==p
def d236:=cut prog f236 news
@[go_sem] def E236:=qj d236
def F236:=fnC d236 follows func236
def d171:=cut prog f171 news
@[go_sem] def E171:=qj d171
def F171:=fnC d171 follows func171
theorem qmb (k p:List UInt8):qf prog 236 [.d (.str k),.d (.str p)] [] (.d (.bool (pre p k))) []:=by
 refine F236.go ?_;by_cases h:p.length<=k.length
 ·have hd:decide ((k.length:Int)≥(p.length:Int))=true:=by simpa using h
  have hd2:decide (p.length<=k.length)=true:=by simpa using h
  refine eo3 @pre.eq_1 @hd @hd2 ?_;exact et2 @hd @jCz
 ·have hd:decide ((k.length:Int)≥(p.length:Int))=false:=by simpa using h
  have hd2:decide (p.length<=k.length)=false:=by simpa using h
  refine eo3 @pre.eq_1 @hd @hd2 ?_;exact et1 @hd
theorem q2n (k p:List UInt8):qf prog 171 [.d (.str k),.d (.str p)] [] (.d (.bool (pre p k))) []:=by
 refine F171.go ?_;refine eo ?_;refine cl F236 (qmb k p) ?_;exact et
def d92u:=cut prog f92 news [29] [10] true
@[go_sem] def E92u:=qj d92u
def F92u:=fnC d92u follows func92
def d172:=cut prog f172 news
@[go_sem] def E172:=qj d172
def F172:=fnC d172 follows func172
theorem qyl {α β:Type} {f:α->β}: ∀{l:List α},(l.map f).Nodup-> ∀{x y:α},x∈l->y∈l->f x=f y->x=y
 | [],_,x,y,hx,_,_=>by cases hx
 |a::l,hn,x,y,hx,hy,h=>by
  simp only[List.map_cons,jCe,jAo,not_exists,not_and]at hn;rcases jAv.1 hx with rfl|e
  ·rcases jAv.1 hy with rfl|d
   ·rfl
   ·exact absurd h.symm (hn.1 y d)
  ·rcases jAv.1 hy with rfl|d
   ·exact absurd h (hn.1 x e)
   ·exact qyl hn.2 e d h
theorem qba {α β:Type} (f:α->β): ∀{l:List α},(l.map f).Nodup->l.Nodup
 | [],_=>jD5
 |a::l,hn=>by
  simp only[List.map_cons,jCe,jAo,not_exists,not_and]at hn⊢;exact⟨λh=>hn.1 a h rfl,qba f hn.2⟩
theorem qym {α:Type} (f:α->Nat): ∀{l:List α},(l.map f).Nodup-> ∀{x:α},x∈l->(l.find? λy=>f y==f x)=some x
 | [],_,x,hx=>by cases hx
 |a::l,hn,x,hx=>by
  rw[jB7];by_cases h:f a=f x
  ·have:=qyl hn (jA7 ..) hx h;subst this;simp
  ·rw[beq_false_of_ne h];rcases jAv.1 hx with rfl|d
   ·exact absurd rfl h
   ·exact qym f (by simp only[List.map_cons,jCe]at hn;exact hn.2) d
theorem q68 {α:Type} [DecidableEq α]: ∀{a b:List α},a.Nodup->(∀x∈a,x∈b) ->a.length<=b.length
 | [],_,_,_=>jAj _
 |x::a,b,h,hs=>by
  have e:=hs x (jA7 ..);have h':=jCe.1 h;have:=q68 (a:=a) (b:=b.erase x) h'.2 λy d=>(List.mem_erase_of_ne (by rintro rfl;exact h'.1 d)).2 (hs y (jA9 _ d));rw[List.length_erase_of_mem e]at this;have:=List.length_pos_of_mem e;simp only[List.length_cons];omega
theorem xc3 (l:List En):(l.map x9).flatten=qf2 l:=rfl
theorem q69 (l:List En):(qf2 l).all D.isCell=true:=by induction l<;>simp_all[qf2,x9,D.isCell]
attribute [go_sem] xc3 q2m q69
structure Cont.Ok (m:Cont):Prop where
 num:(m.l.map (·.1)).Nodup
 lt: ∀x∈m.l,x.1<m.c
 key:(m.l.map (·.2.1)).Nodup
def enOf (x:KV):En:=(x.2.1,x.2.2)
def preL (p:List UInt8) (l:List KV):List En:=(l.filter λx=>pre p x.2.1).map enOf
def qau (m:Cont) (p:List UInt8):List En:=qfe (preL p m.l)
theorem q2o {p:List UInt8} {l:List KV} (h:(l.map (·.2.1)).Nodup):((preL p l).map (·.1)).Nodup:=by
 unfold preL;rw[jEa];exact jFr (List.Sublist.map _ List.filter_sublist) h
theorem xhm {a b:List En} (h:a.Perm b) (hn:(a.map (·.1)).Nodup):qfe a=qfe b:=by
 have d:=vd a;have h2:=vd b;refine qjo (d.trans (h.trans h2.symm)) ((d.map (λx:En=>x.1)).nodup_iff.2 hn) (qem a) (qem b)
def xhn (s:Sto) (p:List UInt8) (i:{i:List KV//(i.map (·.1)).Nodup∧ ∀x∈i,x∈s.m.l}):St:=
 ⟨[(1,true,.d (.str p)),(5,true,.uni 0 2 ((preL p i.val).map x9)),(14,true,.d (.ptr 2 0))],[stoO s 1,mapO s.m,.iter (.d (.map 1)) s.m.c (i.val.map (·.1)) s.m.c],[0],1⟩
theorem xho (s:Sto) (p:List UInt8) (B:s.m.Ok) (hl:s.m.l.length<=1000) (hv: ∀x∈s.m.l,x.2.2.length<=1000000):
  qf prog 92 [.d (.ptr 0 0),.d (.str p)] [stoO s 1,mapO s.m] (.d (.sl 2 ((qau s.m p).map x9))) [stoO s 1,mapO s.m]:=by
 refine F92u.go ?_;refine eo2 @stoO.eq_1 @mapO.eq_1 ?_;refine no_ ?_;refine ez ?_;refine qg (xhn s p) (λi=>s.m.l.length-i.val.length) ⟨[],by simp,by simp⟩ ?_ (λi=> ?_)
 ·exact et6 @xhn.eq_1 @stoO.eq_1 @mapO.eq_1 @preL.eq_1 @List.filter_nil.{0} @List.map_nil.{0,0}
 obtain⟨i,E,v⟩:=i;refine ez3 @xhn.eq_1 @stoO.eq_1 @mapO.eq_1 ?_;have m:qf8 (s.m.l.map qfr) (i.map (·.1))=(s.m.l.filter λx=> !(i.map (·.1)).contains x.1).map qfr:=by
  unfold qf8;rw[List.filter_map];rfl
 have A: ∀x∈s.m.l,∀y∈s.m.l,x.1=y.1->x=y:=λx o y J h=>qyl B.num o J h;refine q9i (last:=s.m.c) ⟨rfl,rfl,by intro e I;obtain⟨x,o,rfl⟩:=jAo.1 I;exact B.lt x o,jAi _⟩ (λC=> ?_) (λe I=> ?_)
 ·
  rw[m,List.map_eq_nil_iff,List.filter_eq_nil_iff]at C;have F: ∀x∈s.m.l,x∈i:=by
   intro x o;have:=C x o;simp only[List.contains_eq_mem,decide_eq_true_eq,jC1,jCf,Bool.not_not]at this;simp at this;obtain⟨a,b,G⟩:=this;have:=A x o _ (v _ G) rfl;rw[this];exact G
  have u:i.Perm s.m.l:=by
   refine(List.perm_ext_iff_of_nodup (qba _ E) (qba _ B.num)).2 λx=>⟨v x,F x⟩
  have t:(preL p i).Perm (preL p s.m.l):=(u.filter _).map _;have z:((preL p i).map (·.1)).Nodup:=by
   refine(t.map (λx:En=>x.1)).nodup_iff.2 ?_;exact q2o B.key
  have hsame:qfe (preL p i)=qau s.m p:=xhm t z;have hlen:(preL p i).length<=1000:=by
   have X:=t.length_eq;have h2:(preL p s.m.l).length<=s.m.l.length:=by simp only[preL,jAm];exact jD0 _ _
   omega
  refine eo1 @qph.eq_1 ?_;refine no_ ?_;refine ez ?_;refine qou (.fr 5) 0 2 ((preL p i).map x9) ?_;refine pu ?_;refine ez ?_;refine clO [3] F172 (xt0 (preL p i) z (by omega)) ?_;refine ez ?_;have R:(preL p i).length=(qfe (preL p i)).length:=(vd _).length_eq.symm;rw[R];refine qio 3 2 ((qfe (preL p i)).map x9) ?_ (hc:= ?_) (hcc:= ?_) (hes:= ?_) (hok:=D.okWR_noPtr (qfd _))
  ·refine pu ?_;exact et1 @hsame
  ·exact et
  ·exact et
  ·intro r hr;obtain⟨x,_,rfl⟩:=jAo.1 hr;rfl
 ·rw[m]at I;obtain⟨x,o,rfl⟩:=jAo.1 I;rw[jBs]at o;obtain⟨q,O⟩:=o;have M:x.1∉i.map (·.1):=by simpa using O
  have l:((i++ [x]).map (·.1)).Nodup∧ ∀y∈i++ [x],y∈s.m.l:=by
   refine⟨by rw[jA2];exact jEf.2 ⟨E,by simp,λa ha b U h=>by simp at U;subst U;subst h;exact M ha⟩,λy J=> ?_⟩;rcases jAs.1 J with h|h
   ·exact v y h
   ·simp at h;subst h;exact q
  have hil:i.length<s.m.l.length:=by
   have:=q68 (qba _ l.1) l.2;simp at this;omega
  have hpl:(preL p i).length<=i.length:=by simp only[preL,jAm];exact jD0 _ _
  refine eo1 @entV.eq_1 ?_;refine ya ?_;refine ez ?_;refine q1u (e:=qfr x) (mid:=1) (since:=s.m.c) (seen:=i.map (·.1)++ [x.1]) (clock:=s.m.c) (es:=s.m.l.map qfr) ⟨rfl,rfl,by simp[qfr],?_⟩ ?_
  ·rw[jFh];have X:s.m.l.find? ((λe:Nat×D×D=>e.1==(qfr x).1)∘qfr)=some x:=qym (λy:KV=>y.1) B.num q;rw[X];rfl
  refine eo1 @qfr.eq_1 ?_;refine cl F171 (q2n x.2.1 p) ?_;refine eo ?_;refine xf _ (λh=> ?_) (λh=> ?_)
  ·refine eo ?_;refine cl F127 (qfc x.2.2 (by have:=hv x q;omega)) ?_;refine ez ?_;refine⟨by omega,?_⟩;have hpx:preL p (i++ [x])=preL p i++ [enOf x]:=by simp[preL,h]
   refine⟨⟨i++ [x],l⟩,?_,by simp only[jAc,jBo];omega⟩;exact et7 @xhn.eq_1 @stoO.eq_1 @mapO.eq_1 @hpx @jA2.{0,0} @x9.eq_1 @enOf.eq_1
  ·have hpx:preL p (i++ [x])=preL p i:=by simp[preL,h]
   refine ez ?_;refine⟨⟨i++ [x],l⟩,?_,by simp only[jAc,jBo];omega⟩;exact et7 @xhn.eq_1 @stoO.eq_1 @mapO.eq_1 @hpx @jA2.{0,0} @x9.eq_1 @enOf.eq_1
theorem qcf {k:List UInt8} {x:KV}:jd k x=true↔k=x.2.1:=by simp[jd]
theorem qr7 {k v:List UInt8}: ∀{l:List KV} {j:Nat},l.findIdx? (jd k)=some j-> ∀k',(l.modify j λe=>(e.1,k,v)).find? (jd k')=if k'=k then some ((l[j]?.getD (0,[],[])).1,k,v)else l.find? (jd k')
 | [],j,h,k'=>by simp at h
 |a::l,j,h,k'=>by
  rw[jDf]at h;by_cases m:jd k a=true
  ·rw[if_pos m]at h;cases h;simp only[jE5,jB7,jCa,Option.getD_some];by_cases d:k'=k
   ·subst d;have:jd k' (a.1,k',v)=true:=qcf.2 rfl;rw[this,if_pos rfl]
   ·have h1:jd k' (a.1,k,v)=false:=by simpa[jd]using d
    have p:jd k' a=false:=by rw[qcf]at m;simp[jd,<- m,d]
    rw[h1,p,if_neg d]
  ·rw[if_neg (by simpa using m)]at h;obtain⟨i,hi,rfl⟩:=jAb.1 h;simp only[jE6,jB7,jCb];have o:=qr7 (v:=v) hi k';by_cases d:k'=k
   ·subst d;have:jd k' a=false:=by simpa using m
    rw[this];exact o
   ·cases p:jd k' a with
    |true=>rw[if_neg d]
    |false=>rw[o]
theorem q2p {k:List UInt8} {l:List KV} (h:l.findIdx? (jd k)=none):l.find? (jd k)=none:=by
 rw[jD7]at h;exact jCj.2 λx hx=>by rw[h x hx];simp
theorem q9y (k v:List UInt8) (m:Cont) (k':List UInt8):mGet k' (mPut k v m)=if k'=k then some v else mGet k' m:=by
 unfold mGet mPut;cases h:m.l.findIdx? (jd k)with
 |some j=>
  simp only[qr7 h k'];split<;>rfl
 |none=>
  simp only[jDm];by_cases d:k'=k
  ·subst d;rw[q2p h,if_pos rfl];simp[jd]
  ·rw[if_neg d];have: [(m.c,k,v)].find? (jd k')=none:=by simp[jd,d]
   rw[this,Option.or_none]
theorem qvk {k v:List UInt8}: ∀{l:List KV} {j:Nat},l.findIdx? (jd k)=some j->(l.modify j λe=>(e.1,k,v)).map (·.2.1)=l.map (·.2.1)∧(l.modify j λe=>(e.1,k,v)).map (·.1)=l.map (·.1)
 | [],j,h=>by simp at h
 |a::l,j,h=>by
  rw[jDf]at h;by_cases d:jd k a=true
  ·rw[if_pos d]at h;cases h;rw[qcf]at d;simp only[jE5,List.map_cons,d,and_self]
  ·rw[if_neg (by simpa using d)]at h;obtain⟨i,hi,rfl⟩:=jAb.1 h;obtain⟨h1,h2⟩:=qvk (v:=v) hi;simp only[jE6,List.map_cons,h1,h2,and_self]
theorem qvl {α:Type} {l:List α} {x:α} (h:l.Nodup) (hx:x∉l):(l++ [x]).Nodup:=
 jEf.2 ⟨h,by simp,λa ha b d e=>by simp at d;subst d;subst e;exact hx ha⟩
theorem qr8 {m:Cont} (h:m.Ok) (k v:List UInt8):(mPut k v m).Ok:=by
 unfold mPut;cases hf:m.l.findIdx? (jd k)with
 |some j=>
  obtain⟨h1,p⟩:=qvk (v:=v) hf;refine⟨by simpa only[p]using h.num,λx d=> ?_,by simpa only[h1]using h.key⟩;have:x.1∈(m.l.modify j λe=>(e.1,k,v)).map (·.1):=List.mem_map_of_mem d;rw[p]at this;obtain⟨y,i,l⟩:=jAo.1 this;rw[<- l];exact h.lt y i
 |none=>
  rw[jD7]at hf;refine⟨?_,λx d=> ?_,?_⟩
  ·rw[jA2];refine qvl h.num λo=> ?_;obtain⟨y,i,l⟩:=jAo.1 o;have:=h.lt y i;simp only at l;omega
  ·simp only;rcases jAs.1 d with d|d
   ·have:=h.lt x d;omega
   ·simp at d;subst d;simp
  ·rw[jA2];refine qvl h.key λo=> ?_;obtain⟨y,i,l⟩:=jAo.1 o;have:=hf y i;simp[jd,l]at this
theorem qmc (k:List UInt8) (m:Cont):(mDel k m).l.Sublist m.l:=by
 unfold mDel;split
 ·exact List.eraseIdx_sublist ..
 ·exact List.Sublist.refl _
theorem qr9 {m:Cont} (h:m.Ok) (k:List UInt8):(mDel k m).Ok:=
 ⟨jFr ((qmc k m).map _) h.num,λx hx=>by rw[xry];exact h.lt x ((qmc k m).subset hx),jFr ((qmc k m).map _) h.key⟩
theorem qvm {k:List UInt8}: ∀{l:List KV} {j:Nat},l.findIdx? (jd k)=some j->(l.map (·.2.1)).Nodup-> ∀k',(l.eraseIdx j).find? (jd k')=if k'=k then none else l.find? (jd k')
 | [],j,h,_,k'=>by simp at h
 |a::l,j,h,hn,k'=>by
  rw[jDf]at h;simp only[List.map_cons,jCe]at hn;by_cases e:jd k a=true
  ·rw[if_pos e]at h;cases h;rw[qcf]at e;simp only[List.eraseIdx_cons_zero,jB7];by_cases d:k'=k
   ·subst d;rw[if_pos rfl];refine jCj.2 λx hx d=> ?_;rw[qcf]at d;exact hn.1 (jAo.2 ⟨x,hx,by rw[<- e,<- d]⟩)
   ·rw[if_neg d];have o:jd k' a=false:=by simp[jd,<- e,d]
    rw[o]
  ·rw[if_neg (by simpa using e)]at h;obtain⟨i,hi,rfl⟩:=jAb.1 h;simp only[List.eraseIdx_cons_succ,jB7];have m:=qvm hi hn.2 k';by_cases d:k'=k
   ·subst d;have:jd k' a=false:=by simpa using e
    rw[this,if_pos rfl];rw[if_pos rfl]at m;exact m
   ·cases o:jd k' a with
    |true=>rw[if_neg d]
    |false=>rw[m]
theorem q9z {m:Cont} (h:m.Ok) (k k':List UInt8):mGet k' (mDel k m)=if k'=k then none else mGet k' m:=by
 unfold mGet mDel;cases hf:m.l.findIdx? (jd k)with
 |some j=>
  simp only[qvm hf h.key k'];split<;>rfl
 |none=>
  simp only;split
  ·rename_i hk;subst hk;rw[q2p hf];rfl
  ·rfl
theorem q90 (k v:List UInt8) (m:Cont):(mPut k v m).l.length<=m.l.length+1:=by
 unfold mPut;split<;>simp
theorem qyn (k:List UInt8) (m:Cont):(mDel k m).l.length<=m.l.length:=(qmc k m).length_le
def kvOk (x:KV):Prop:=1<=x.2.1.length∧x.2.1.length<=40∧x.2.2.length<=900
theorem xn6 {k v:List UInt8} {m:Cont} {x:KV} (h:x∈(mPut k v m).l):x∈m.l∨(x.2.1=k∧x.2.2=v):=by
 unfold mPut at h;split at h
 ·rename_i j hj;simp only at h;obtain⟨i,hi⟩:=jBh h;rw[jDk]at hi;cases hg:m.l[i]?with
  |none=>rw[hg]at hi;cases hi
  |some y=>
   rw[hg]at hi;simp only[Option.map_eq_map,Option.map_some,jA8]at hi;split at hi
   ·subst hi;exact .inr ⟨rfl,rfl⟩
   ·subst hi;exact .inl (jAe hg)
 ·rcases jAs.1 h with h|h
  ·exact .inl h
  ·simp at h;subst h;exact .inr ⟨rfl,rfl⟩
structure Cont.Good (m:Cont):Prop where
 ok:m.Ok
 few:m.l.length<=400
 small: ∀x∈m.l,kvOk x
theorem qhf: ∀(l:List OpS) {m:Cont},m.Good->(∀o∈l,k9 o=true) ->(jw m l).2=true->(jw m l).1.Good
 | [],m,h,_,_=>h
 |o::l,m,h,hp,hy=>by
  rw[jw]at hy⊢;have i:=vr.1 (hp o (jA7 ..));have e:=λx d=>hp x (jA9 _ d);split at hy
  ·rename_i p;rw[if_pos p];exact qhf l ⟨qr9 h.ok _,jBn (qyn _ _) h.few,λx d=>h.small x ((qmc _ _).subset d)⟩ e hy
  ·rename_i p;rw[if_neg p];split at hy
   ·cases hy
   ·rename_i h4;rw[if_neg h4];refine qhf l ⟨qr8 h.ok _ _,by omega,λx d=> ?_⟩ e hy;rcases xn6 d with d|⟨q,h2⟩
    ·exact h.small x d
    ·exact⟨by rw[q];exact i.1,by rw[q];exact i.2.1,by rw[h2];exact i.2.2.1⟩
theorem qsa (f r:List UInt8) (hr:r.length<=2000):(wn f r).length<=f.length+70000:=by
 have:=qr1 _ r (jAi _);unfold wn;rw[qr2 _ _ (λq hq=>(wp _ r (jAi _) q hq).2)];simp only;omega
structure Sto.Ok (n:Nat) (s:Sto):Prop where
 good:s.m.Good
 file:s.file.length<=n*70000
theorem q7a (n:Nat):newS.Ok n:=by
 refine⟨⟨⟨jD5,λx d=>(by cases d),jD5⟩,?_,λx d=>(by cases d)⟩,?_⟩
 ·simp only[newS,kx,List.length_nil,jAj]
 ·simp only[newS,List.length_nil,jAj]
theorem Sto.Ok.mono {n m:Nat} {s:Sto} (h:s.Ok n) (hn:n<=m):s.Ok m:=⟨h.good,jBn h.file (jAz _ hn)⟩
theorem qhg (s:Sto) (l:List OpS):((xa s l).2≠0∧(xa s l).1=s)∨((xa s l).2=0∧(qs l).2=0∧(jw s.m l).2=true∧(xa s l).1=⟨wn s.file (qs l).1,s.synced,(jw s.m l).1⟩):=by
 unfold xa;split
 ·exact .inl ⟨by assumption,rfl⟩
 ·split
  ·exact .inl ⟨by simp,rfl⟩
  ·rename_i h1 h2;exact .inr ⟨rfl,by simpa using h1,by simpa using h2,rfl⟩
theorem qky {n:Nat} {s:Sto} (h:s.Ok n) (l:List OpS):(xa s l).1.Ok (n+1):=by
 rcases qhg s l with⟨_,d⟩|⟨_,h1,h2,d⟩
 ·rw[d];exact h.mono (jFl _)
 ·rw[d];refine⟨qhf l h.good (wq h1).2.1 h2,?_⟩;have:=qsa s.file _ (qb7 l);have:=h.file;simp only;omega
def vz (k:List UInt8):Option (List UInt8) ->List OpS->Option (List UInt8)
 |a,[]=>a
 |a,o::l=>vz k (if o.key=k then(if o.del then none else some o.val)else a) l
theorem qgs (k:List UInt8): ∀(l:List OpS) {m:Cont},m.Ok->(jw m l).2=true->mGet k (jw m l).1=vz k (mGet k m) l
 | [],m,_,_=>rfl
 |o::l,m,h,hy=>by
  rw[jw]at hy⊢;rw[vz];split at hy
  ·rename_i e;rw[if_pos e,qgs k l (qr9 h _) hy,q9z h];congr 1;by_cases d:k=o.key
   ·rw[if_pos d,if_pos d.symm,if_pos e]
   ·rw[if_neg d,if_neg (Ne.symm d)]
  ·rename_i e;rw[if_neg e];split at hy
   ·cases hy
   ·rename_i h4;rw[if_neg h4,qgs k l (qr8 h _ _) hy,q9y];congr 1;by_cases d:k=o.key
    ·rw[if_pos d,if_pos d.symm,if_neg e]
    ·rw[if_neg d,if_neg (Ne.symm d)]
theorem qmd {α β:Type} (f:α->β) (l:List α) {i:Nat} (h:i<l.length):(l.take (i+1)).map f=(l.take i).map f++ [f l[i]]:=by
 rw[jAk h,jA2];rfl
theorem qkj (w:List UInt8):qcj (qd w)=w:=by
 induction w with
 |nil=>rfl
 |cons c w ih=>simp_all[qcj,qd]
theorem xt1 (w:List UInt8):(∃l,qd w=qd l)=True:=eq_true ⟨w,rfl⟩
theorem xw7:(∃l,([]:List (List D))=qd l)=True:=eq_true ⟨[],rfl⟩
theorem qyo:qcj []= []:=rfl
attribute [go_sem] qkj xt1 xw7 qyo
def d30:=cut prog f30 news
@[go_sem] def E30:=qj d30
def d24:=cut prog f24 news
@[go_sem] def E24:=qj d24
theorem qsb (m:Cont) (p:List UInt8):(qau m p).length<=m.l.length:=by
 rw[qau,(vd _).length_eq];simp only[preL,jAm];exact jD0 _ _
theorem qai {α:Type} {f:α->Bool} {l:List α} {i:Nat} (h:(l.take i).all f=true) (d:i<l.length) (hf:f l[i]=true):(l.take (i+1)).all f=true:=by
 rw[jAk d,List.all_append,h];simp[hf]
theorem qoy {α:Type} {f:α->Bool} {l:List α} {i:Nat} (d:i<l.length) (hf:f l[i]=false):l.all f=false:=by
 rw[List.all_eq_false];exact⟨l[i],jAg d,by simp[hf]⟩
structure StepS where
 kind:Int
 ops:List OpS
 deriving DecidableEq,Inhabited
def qyp (x:StepS):List D:= [.int .i64 x.kind,.sl 3 (x.ops.map xp)]
theorem qme (o:StepS):D.noPtrL (qyp o)=true:=by simp only[qyp,D.noPtrL,D.noPtr,qct,jBu]
theorem q7b (l:List StepS):D.noPtrR (l.map qyp)=true:=zg qme l
attribute [go_sem] qme q7b
def ops1:List OpS:= [⟨[97],false,[1]⟩,⟨[98],false,[2]⟩]
def ops2:List OpS:= [⟨[97],true,[]⟩]
def st1:Sto:=(xa newS ops1).1
def st2:Sto:=(xa st1 ops2).1
theorem c1:(xa newS ops1).2=0:=by decide+kernel
theorem c2:(xa st1 ops2).2=0:=by decide+kernel
theorem c3:qau st2.m []= [([98],[2])]:=by decide+kernel
theorem xt3:qf prog 28 [] [] (.d (.ptr 1 0)) [mapO newS.m,stoO newS 0]:=xrz
theorem xt4 (s:List UInt8):(((s.length:Nat):Int)==0)=(s== []):=by cases s<;>simp<;>omega
def d189:=cut prog f189 news
@[go_sem] def E189:=qj d189
def F189:=fnC d189 follows func189
def d191:=cut prog f191 news
@[go_sem] def E191:=qj d191
def F191:=fnC d191 follows func191
def d185:=cut prog f185 news
@[go_sem] def E185:=qj d185
def F185:=fnC d185 follows func185
def d186:=cut prog f186 news
@[go_sem] def E186:=qj d186
def F186:=fnC d186 follows func186
def d269:=cut prog f269 news
@[go_sem] def E269:=qj d269
def F269:=fnC d269 follows func269
def d183:=cut prog f183 news
@[go_sem] def E183:=qj d183
def F183:=fnC d183 follows func183
def xxa:=cut prog f190 news
@[go_sem] def x0w:=qj xxa
def xn7:=fnC xxa follows func190
def d223:=cut prog f223 news
@[go_sem] def E223:=qj d223
def F223:=fnC d223 follows func223
theorem qsc (a b:List UInt8):qf prog 190 [.d (.sl 1 (qd a)),.d (.sl 1 (qd b))] [] (.d (.bool (a==b))) []:=by
 refine xn7.go ?_;exact et
def qdu (s:List UInt8):Bool:=decide ((s.length:Int)≥1)&&decide ((s.length:Int)<=30)
theorem q2q (s:List UInt8):qf prog 183 [.d (.str s)] [] (.d (.bool (qdu s))) []:=by
 refine F183.go ?_;exact et1 @qdu.eq_1
def nKey (s:List UInt8):List UInt8:=s++ [47,110]
def sKey (s:List UInt8) (d:Nat):List UInt8:=s++ [47,UInt8.ofNat (48+d)]
theorem xhr (s:List UInt8) (h:s.length<=1000):qf prog 185 [.d (.str s)] [] (.d (.str (nKey s))) []:=by
 refine F185.go ?_;refine ez1 @nKey.eq_1 ?_;omega
theorem q7c (s:List UInt8) (d:Nat) (h:s.length<=1000) (hd:d<4):qf prog 186 [.d (.str s),.d (.int .i64 d)] [] (.d (.str (sKey s d))) []:=by
 refine F186.go ?_;have h4:d=0∨d=1∨d=2∨d=3:=by omega
 have e0:(Utf8.encode (IntKind.i32.wrap (IntKind.i64.wrap 48))).data.toList= [48]:=by decide
 have e1:(Utf8.encode (IntKind.i32.wrap (IntKind.i64.wrap 49))).data.toList= [49]:=by decide
 have e2:(Utf8.encode (IntKind.i32.wrap (IntKind.i64.wrap 50))).data.toList= [50]:=by decide
 have e3:(Utf8.encode (IntKind.i32.wrap (IntKind.i64.wrap 51))).data.toList= [51]:=by decide
 rcases h4 with rfl|rfl|rfl|rfl;all_goals
  refine ez6 @sKey.eq_1 @e0 @e1 @e2 @e3 @jAh.{0} ?_;repeat(with_reducible refine ob ?_)
  repeat' apply And.intro
  all_goals first|rfl|omega|trivial
def ky (q:Qu):List UInt8:=if q.acc=0∧q.cons=0 then []else wInt q.acc++wInt q.cons
theorem qyq (q:Qu) (e:I64 q.acc) (h2:I64 q.cons):qf prog 189 [.d (.agg (encQ q))] [] (.d (.sl 1 (qd (ky q)))) []:=by
 have a1:=xg e;refine F189.go ?_;refine ez1 @encQ.eq_1 ?_;refine xf _ (λh=> ?_) (λh=> ?_)
 ·have hb:ky q= []:=by unfold ky;rw[if_pos];simpa using h
  exact et2 @hb @qk
 ·have hb:ky q=wInt q.acc++wInt q.cons:=by unfold ky;rw[if_neg];simpa using h
  refine ez ?_;refine clA F147 (k8 [] q.acc (by simp) e) ?_;refine ez ?_;refine clA F147 (k8 ([]++wInt q.acc) q.cons (by rw[List.nil_append];omega) h2) ?_;exact et1 @hb
theorem qyr {α:Type} {f:α->Bool} {l:List α} {i:Nat} (hi:(l.take i).find? f=none) (d:i<l.length) (h:f l[i]=true):l.find? f=some l[i]:=by
 have e:l.find? f=(l.take i++l.drop i).find? f:=by rw[jB5]
 rw[e,jDm,hi,jBm d];simp only[Option.none_or,jB7,h]
def wv (q:Qu) (d:Int):List UInt8:=match q.items.find? (λp=>p.seq.tmod 4==d)with
 |some p=>(vk p).1
 |none=> []
def q91 (q:Qu) (d:Int) (i:{i:Nat//(q.items.take i).find? (λp=>p.seq.tmod 4==d)=none}):St:=
 ⟨[(1,true,.d (.int .i64 d)),(10,true,.d (.sl 9 (q.items.map qi))),(11,true,.d (.int .i64 q.items.length)),(12,true,.d (.int .i64 (i.val:Nat)))],[],[],1⟩
structure Qu.W (q:Qu):Prop where
 a:I64 q.acc
 c:I64 q.cons
 p: ∀p∈q.items,p.W
theorem qys (q:Qu) (d:Int) (m:q.Sm) (hw:q.W):qf prog 191 [.d (.agg (encQ q)),.d (.int .i64 d)] [] (.d (.sl 1 (qd (wv q d)))) []:=by
 have hl:=m.1;refine F191.go ?_;refine ez1 @encQ.eq_1 ?_;refine qg (q91 q d) (λi=>q.items.length-i.val) ⟨0,rfl⟩ ?_ (λi=> ?_)
 ·exact et2 @q91.eq_1 @jAt
 obtain⟨i,hi⟩:=i;refine ez1 @q91.eq_1 ?_;refine xf _ (λh=> ?_) (λh=> ?_)
 ·have e:i<q.items.length:=by simpa using h
  have l:=xcx q.items[i] (m.2 _ (jAg e)) (hw.p _ (jAg e));simp only[qi]at l;refine eo2 (qh qi q.items e) @qi.eq_1 ?_;refine xf _ (λh=> ?_) (λh=> ?_)
  ·have hb:wv q d=(vk q.items[i]).1:=by
    unfold wv;rw[qyr hi e h]
   refine eo ?_;refine cl F255 (l) ?_;exact et1 @hb
  ·refine ez ?_;refine⟨⟨i+1,?_⟩,?_,by dsimp only;omega⟩
   ·rw[jAk e,jDm,hi];simp only[Option.none_or,jB7,h,List.find?_nil]
   ·exact et2 @q91.eq_1 (qe (show i<9223372036854775807 by omega))
 ·have e:q.items.length<=i:=by simpa using h
  have hb:wv q d= []:=by
   rw[jAq e]at hi;unfold wv;rw[hi]
  exact et2 @hb @qk
def chg (k:List UInt8) (d next:List UInt8):List OpS:=if d=next then []else [⟨k,next== [],next⟩]
theorem q2r (l:List OpS) (k e next:List UInt8) (hl:l.length<=1000):qf prog 269 [.own 0 3 (l.map xp),.d (.str k),.d (.sl 1 (qd e)),.d (.sl 1 (qd next))] [] (.own 0 3 ((l++chg k e next).map xp)) []:=by
 refine F269.go ?_;refine eo ?_;refine cl xn7 (qsc e next) ?_;refine ez ?_;refine xf _ (λh=> ?_) (λh=> ?_)
 ·have hb:chg k e next= []:=by unfold chg;rw[if_pos (by simpa using h)]
  exact et2 @hb @jAu.{0}
 ·have hb:chg k e next= [⟨k,next== [],next⟩]:=by unfold chg;rw[if_neg (by simpa using h)]
  refine ez6 @hb @jA2.{0,0} @List.map_cons.{0,0} @List.map_nil.{0,0} @xp.eq_1 @xt4 ?_;omega
def vl (a b:Qu) (name:List UInt8):Nat->List OpS
 |0=>chg (nKey name) (ky a) (ky b)
 |d+1=>vl a b name d++chg (sKey name d) (wv a d) (wv b d)
def jk (a b:Qu) (name:List UInt8):List OpS×Int:=if(!kw a|| !kw b|| !qdu name)=true then([],1)else(vl a b name 4,0)
theorem q7d (k a b:List UInt8):(chg k a b).length<=1:=by unfold chg;split<;>simp
theorem qff (a b:Qu) (name:List UInt8): ∀d,(vl a b name d).length<=d+1
 |0=>q7d _ _ _
 |d+1=>by
  have:=qff a b name d;have:=q7d (sKey name d) (wv a d) (wv b d);rw[vl,jAc];omega
def xn8 (a b:Qu) (name:List UInt8) (d:Nat):St:=
 ⟨[(2,true,.d (.str name)),(3,true,.d (.ptr 0 0)),(4,true,.d (.ptr 1 0)),(8,true,.own 0 3 ((vl a b name d).map xp)),(30,true,.d (.int .i64 (d:Nat)))],[.row ((encQ a).map .d),.row ((encQ b).map .d)],[0],1⟩
theorem q7e (a b:Qu) (name:List UInt8) (o:a.Sm) (l:a.W) (m:b.Sm) (i:b.W) (hn:name.length<=1000):
  qf prog 223 [.d (.agg (encQ a)),.d (.agg (encQ b)),.d (.str name)] [] (.tup [.d (.sl 3 ((jk a b name).1.map xp)),.d (.int .i64 (jk a b name).2)]) []:=by
 refine F223.goT ?_;refine eo1 @encQ.eq_1 ?_;refine cl F188 (qgp a o) ?_;refine eo ?_;refine cl F188 (qgp b m) ?_;refine eo ?_;refine cl F183 (q2q name) ?_;refine eo ?_;refine xf _ (λh=> ?_) (λh=> ?_)
 ·have hx:jk a b name=([],1):=by unfold jk;rw[if_pos h]
  exact et2 @hx @List.map_nil.{0,0}
 have hx:jk a b name=(vl a b name 4,0):=by unfold jk;rw[if_neg];simp[h]
 refine eo ?_;refine cl F185 (xhr name hn) ?_;refine eo ?_;refine cl F189 (qyq a l.a l.c) ?_;refine eo ?_;refine cl F189 (qyq b i.a i.c) ?_;refine ez ?_;refine clA F269 (q2r [] (nKey name) (ky a) (ky b) (by simp)) ?_;refine ez ?_;refine qg (λd:{d:Nat//d<=4}=>xn8 a b name d.val) (λd=>4-d.val) ⟨0,jAj _⟩ ?_ (λd=> ?_)
 ·simp only[xn8,jAt,vl,encQ,go_sem,simprocAttr]
 obtain⟨d,hd⟩:=d;refine ez2 @xn8.eq_1 @encQ.eq_1 ?_;refine xf _ (λh=> ?_) (λh=> ?_)
 ·have e:d<4:=by simp at h;omega
  have:=qff a b name d;refine eo ?_;refine cl F186 (q7c name d hn e) ?_;refine eo ?_;refine cl F191 (qys a d o l) ?_;refine eo ?_;refine cl F191 (qys b d m i) ?_;refine ez ?_;refine clA F269 (q2r (vl a b name d) (sKey name d) (wv a d) (wv b d) (by omega)) ?_;refine ez ?_;refine⟨⟨d+1,e⟩,?_,by dsimp only;omega⟩;simp only[xn8,encQ,vl,qe (show d<9223372036854775807 by omega),go_sem,simprocAttr]
 ·have e:d=4:=by simp at h;omega
  subst e;exact et1 @hx
theorem qmf {α:Type} {f:α->Bool} {l:List α} {i:Nat} (h:(l.take i).all f=true) (hi:l.length<=i):l.all f=true:=by
 rwa [jAq hi]at h
def d201:=cut prog f201 news
@[go_sem] def E201:=qj d201
def F201:=fnC d201 follows func201
def d202:=cut prog f202 news
@[go_sem] def E202:=qj d202
def F202:=fnC d202 follows func202
def d264:=cut prog f264 news
@[go_sem] def E264:=qj d264
def F264:=fnC d264 follows func264
def d203:=cut prog f203 news
@[go_sem] def E203:=qj d203
def F203:=fnC d203 follows func203
def d114:=cut prog f114 news
@[go_sem] def E114:=qj d114
def F114:=fnC d114 follows func114
def in46 (n lo hi:Int):Bool:=decide (n≥lo)&&decide (n<=hi)
theorem qd7 (n lo hi:Int):qf prog 201 [.d (.int .i64 n),.d (.int .i64 lo),.d (.int .i64 hi)] [] (.d (.bool (in46 n lo hi))) []:=by
 refine F201.go ?_;refine ez ?_;rfl
def qvn (p:Pk):Bool:=in46 p.from_ 0 5&&in46 p.to 0 5&&p.from_ !=p.to
theorem q2s (p:Pk):qf prog 202 [.d (.agg (qi p))] [] (.d (.bool (qvn p))) []:=by
 refine F202.go ?_;refine eo1 @qi.eq_1 ?_;refine cl F201 (qd7 _ _ _) ?_;refine eo ?_;refine cl F201 (qd7 _ _ _) ?_;refine ez ?_;rfl
def qpz (v:AV):Bool:=v.kind==1&&v.s== []||v.kind==2&&v.n==0
theorem q7f (v:AV):qf prog 264 [.d (.agg (zw v))] [] (.d (.bool (qpz v))) []:=by
 refine F264.go ?_;refine eo1 @zw.eq_1 ?_;rfl
def qsd (v:AV):Bool:= !(!qpz v||decide ((v.s.length:Int)>40))
def qyt (n:Int):Bool:=in46 n 0 1099511627776
def qcy (p:Pk):Bool:= !(decide ((p.values.length:Int)>4)||decide ((p.clock.length:Int)>6))&&p.values.all qsd&&p.clock.all qyt
def qpn (p:Pk):AObj:= .row [.d (.int .i64 p.kind),.d (.int .i64 p.sess),.d (.int .i64 p.epoch),.d (.int .i64 p.from_),.d (.int .i64 p.to),.d (.int .i64 p.seq),.d (.int .i64 p.label),.d (.sl 3 (p.values.map zw)),.d (.sl 1 (p.clock.map encI))]
def q92 (p:Pk) (i:{i:Nat//(p.values.take i).all qsd=true}):St:=⟨[(1,true,.d (.ptr 0 0)),(3,true,.d (.int .i64 (i.val:Nat)))],[qpn p],[],1⟩
def q93 (p:Pk) (i:{i:Nat//(p.clock.take i).all qyt=true}):St:=⟨[(1,true,.d (.ptr 0 0)),(4,true,.d (.int .i64 (i.val:Nat)))],[qpn p],[],1⟩
theorem q2t (p:Pk) (hp:p.Sm):qf prog 203 [.d (.agg (qi p))] [] (.d (.bool (qcy p))) []:=by
 obtain⟨hp1,hp2⟩:=hp;refine F203.go ?_;refine eo1 @qi.eq_1 ?_;refine qt _ rfl rfl (λh0=> ?_) (λh0=> ?_)
 ·exact et2 @qcy.eq_1 @h0
 refine ez ?_;refine qg (q92 p) (λi=>p.values.length-i.val) ⟨0,rfl⟩ ?_ (λi=> ?_)
 ·exact et2 @q92.eq_1 @qpn.eq_1
 obtain⟨i,hi⟩:=i;refine ez2 @q92.eq_1 @qpn.eq_1 ?_;refine qt _ rfl rfl (λh=> ?_) (λh=> ?_)
 ·have e:i<p.values.length:=by simpa using h
  refine eo2 (qh zw p.values e) @zw.eq_1 ?_
  (repeat(with_reducible refine ob ?_));refine cl F264 (q7f p.values[i]) ?_
  refine eo2 (qh zw p.values e) @zw.eq_1 ?_;refine qt _ rfl rfl (λm=> ?_) (λm=> ?_)
  ·have l:qsd p.values[i]=false:=by simp only[qsd,m];rfl
   exact et2 @qcy.eq_1 (qoy e l)
  ·have l:qsd p.values[i]=true:=by simp only[qsd,m];rfl
   refine ez ?_;refine⟨⟨i+1,qai hi e l⟩,?_,by dsimp only;omega⟩;exact et3 @q92.eq_1 @qpn.eq_1 (qe (show i<9223372036854775807 by omega))
 ·have hall:p.values.all qsd=true:=qmf hi (by simpa using h);refine ez ?_;refine qg (q93 p) (λi=>p.clock.length-i.val) ⟨0,rfl⟩ ?_ (λi=> ?_)
  ·exact et2 @q93.eq_1 @qpn.eq_1
  obtain⟨i,hi⟩:=i;refine ez2 @q93.eq_1 @qpn.eq_1 ?_;refine qt _ rfl rfl (λh=> ?_) (λh=> ?_)
  ·have e:i<p.clock.length:=by simpa using h
   refine eo2 (qh encI p.clock e) @encI.eq_1 ?_
   (repeat(with_reducible refine ob ?_));refine cl F201 (qd7 p.clock[i] _ _) ?_
   refine ez ?_;refine qt _ rfl rfl (λm=> ?_) (λm=> ?_)
   ·have l:qyt p.clock[i]=false:=by simpa[qyt]using m
    exact et2 @qcy.eq_1 (qoy e l)
   ·have l:qyt p.clock[i]=true:=by simpa[qyt]using m
    refine ez ?_;refine⟨⟨i+1,qai hi e l⟩,?_,by dsimp only;omega⟩;exact et3 @q93.eq_1 @qpn.eq_1 (qe (show i<9223372036854775807 by omega))
  ·have hall2:=qmf hi (by simpa using h);exact et4 @qcy.eq_1 @h0 @hall @hall2
def qyu (p:Pk):Bool:=p.epoch==0&&(p.values.length:Int)==0&&(p.clock.length:Int)==0
def qcz (p:Pk):Bool:=
 if !in46 p.sess 1 32 then false
 else if p.kind==1 then in46 p.epoch 0 1&&qvn p&&in46 p.seq 1 1099511627776&&in46 p.label 0 39&&qcy p
 else if p.kind==2 then qvn p&&in46 p.seq 1 1099511627776&&p.label==0&&qyu p
 else if p.kind==3||p.kind==4 then in46 p.from_ 0 5&&p.to==0&&p.seq==0&&in46 p.label 1 2&&qyu p
 else false
theorem qnm (p:Pk) (hp:p.Sm):qf prog 114 [.d (.agg (qi p))] [] (.d (.bool (qcz p))) []:=by
 refine F114.go ?_;refine eo1 @qi.eq_1 ?_;refine cl F201 (qd7 _ _ _) ?_;refine ez ?_;have he:(p.epoch==0&&(p.values.length:Int)==0&&(p.clock.length:Int)==0)=qyu p:=rfl;refine qt _ rfl rfl (λh0=> ?_) (λh0=> ?_)
 ·exact et2 @qcz.eq_1 @h0
 refine ez1 @he ?_;refine qt _ rfl rfl (λh1=> ?_) (λh1=> ?_)
 ·refine eo ?_;refine cl F201 (qd7 _ _ _) ?_;refine eo ?_;refine cl F202 (q2s p) ?_;refine eo ?_;refine cl F201 (qd7 _ _ _) ?_;refine eo ?_;refine cl F201 (qd7 _ _ _) ?_;refine eo ?_;refine cl F203 (q2t p hp) ?_;exact et3 @qcz.eq_1 @h0 @h1
 refine ez ?_;refine qt _ rfl rfl (λh2=> ?_) (λh2=> ?_)
 ·refine eo ?_;refine cl F202 (q2s p) ?_;refine eo ?_;refine cl F201 (qd7 _ _ _) ?_;exact et4 @qcz.eq_1 @h0 @h1 @h2
 refine ez ?_;refine qt _ rfl rfl (λh3=> ?_) (λh3=> ?_)
 ·refine ez ?_;refine qt _ rfl rfl (λ_=> ?_) (λhx=>Bool.noConfusion (h3.symm.trans hx));refine eo ?_;refine cl F201 (qd7 _ _ _) ?_;refine eo ?_;refine cl F201 (qd7 _ _ _) ?_;exact et5 @qcz.eq_1 @h0 @h1 @h2 @h3
 refine ez ?_;refine qt _ rfl rfl (λh4=> ?_) (λh4=> ?_)
 ·refine eo ?_;refine cl F201 (qd7 _ _ _) ?_;refine eo ?_;refine cl F201 (qd7 _ _ _) ?_;exact et6 @qcz.eq_1 @h0 @h1 @h2 @h3 @h4
 ·exact et6 @qcz.eq_1 @h0 @h1 @h2 @h3 @h4
def d209:=cut prog f209 news
@[go_sem] def E209:=qj d209
def F209:=fnC d209 follows func209
def d210:=cut prog f210 news
@[go_sem] def E210:=qj d210
def F210:=fnC d210 follows func210
def d124:=cut prog f124 news
@[go_sem] def E124:=qj d124
def F124:=fnC d124 follows func124
def d111:=cut prog f111 news
@[go_sem] def E111:=qj d111
def F111:=fnC d111 follows func111
def d36:=cut prog f36 news
@[go_sem] def E36:=qj d36
def qpo {α:Type} (es:Nat) (enc:α->List D) (l m:List α) (i:{i:Nat//l.take i=m.take i}):St:=
 ⟨[(0,true,.d (.sl es (l.map enc))),(1,true,.d (.sl es (m.map enc))),(5,true,.d (.int .i64 (i.val:Nat)))],[],[],1⟩
theorem qdv {α:Type} [DecidableEq α] {l m:List α} {i:Nat} (h:l.take i=m.take i) (hi:l.length<=i) (hlm:l.length=m.length):decide (l=m)=true:=by
 rw[jAq hi,jAq (by omega)]at h;simp[h]
theorem xn9 (l m:List AV) (hl:l.length<=1000):qf prog 209 [.d (.sl 3 (l.map zw)),.d (.sl 3 (m.map zw))] [] (.d (.bool (decide (l=m)))) []:=by
 refine F209.go ?_;refine ez ?_;refine qt _ rfl rfl (λh=> ?_) (λh=> ?_)
 ·have hne:decide (l=m)=false:=by rw[decide_eq_false_iff_not];rintro rfl;simp at h
  exact et1 @hne
 have p:l.length=m.length:=by simp at h;omega
 refine ez ?_;refine qg (qpo 3 zw l m) (λi=>l.length-i.val) ⟨0,rfl⟩ ?_ (λi=> ?_)
 ·exact et1 @qpo.eq_1
 obtain⟨i,hi⟩:=i;refine ez1 @qpo.eq_1 ?_;refine qt _ rfl rfl (λh=> ?_) (λh=> ?_)
 ·have o:i<l.length:=by simpa using h
  have e:i<m.length:=by omega
  refine eo4 (qh zw l o) (qh zw m e) @zw.eq_1 @xrv ?_;skip
  refine qt _ rfl rfl (λq=> ?_) (λq=> ?_)
  ·have hne:l[i]≠m[i]:=by simpa using q
   exact et1 (qya o e hne)
  ·have he:l[i]=m[i]:=by simpa using q
   refine ez ?_;refine⟨⟨i+1,qac hi o e he⟩,?_,by dsimp only;omega⟩;exact et2 @qpo.eq_1 (qe (show i<9223372036854775807 by omega))
 ·exact et1 (qdv hi (by simpa using h) p)
theorem xoa (l m:List Int) (hl:l.length<=1000):qf prog 210 [.d (.sl 1 (l.map encI)),.d (.sl 1 (m.map encI))] [] (.d (.bool (decide (l=m)))) []:=by
 refine F210.go ?_;refine ez ?_;refine qt _ rfl rfl (λh=> ?_) (λh=> ?_)
 ·have hne:decide (l=m)=false:=by rw[decide_eq_false_iff_not];rintro rfl;simp at h
  exact et1 @hne
 have p:l.length=m.length:=by simp at h;omega
 refine ez ?_;refine qg (qpo 1 encI l m) (λi=>l.length-i.val) ⟨0,rfl⟩ ?_ (λi=> ?_)
 ·exact et1 @qpo.eq_1
 obtain⟨i,hi⟩:=i;refine ez1 @qpo.eq_1 ?_;refine qt _ rfl rfl (λh=> ?_) (λh=> ?_)
 ·have o:i<l.length:=by simpa using h
  have e:i<m.length:=by omega
  refine eo4 (qh encI l o) (qh encI m e) @encI.eq_1 @encI.eq_1 ?_;skip
  refine qt _ rfl rfl (λq=> ?_) (λq=> ?_)
  ·have hne:l[i]≠m[i]:=by simpa using q
   exact et1 (qya o e hne)
  ·have he:l[i]=m[i]:=by simpa using q
   refine ez ?_;refine⟨⟨i+1,qac hi o e he⟩,?_,by dsimp only;omega⟩;exact et2 @qpo.eq_1 (qe (show i<9223372036854775807 by omega))
 ·exact et1 (qdv hi (by simpa using h) p)
theorem q2u (p q:Pk) (hp:p.Sm):
  qf prog 124 [.d (.agg (qi p)),.d (.agg (qi q))] [] (.d (.bool (decide (p=q)))) []:=by
 refine F124.go ?_;refine eo1 @qi.eq_1 ?_;refine cl F209 (xn9 p.values q.values hp.1) ?_;refine eo ?_;refine cl F210 (xoa p.clock q.clock hp.2) ?_;exact et1 @xrw
theorem xob (l m:List Pk) (hl:l.length<=1000) (hp: ∀p∈l,p.Sm):qf prog 111 [.d (.sl 9 (l.map qi)),.d (.sl 9 (m.map qi))] [] (.d (.bool (decide (l=m)))) []:=by
 refine F111.go ?_;refine ez ?_;refine qt _ rfl rfl (λh=> ?_) (λh=> ?_)
 ·have hne:decide (l=m)=false:=by rw[decide_eq_false_iff_not];rintro rfl;simp at h
  exact et1 @hne
 have q:l.length=m.length:=by simp at h;omega
 refine ez ?_;refine qg (qpo 9 qi l m) (λi=>l.length-i.val) ⟨0,rfl⟩ ?_ (λi=> ?_)
 ·exact et1 @qpo.eq_1
 obtain⟨i,hi⟩:=i;refine ez1 @qpo.eq_1 ?_;refine qt _ rfl rfl (λh=> ?_) (λh=> ?_)
 ·have e:i<l.length:=by simpa using h
  have o:i<m.length:=by omega
  refine eo4 (qh qi l e) (qh qi m o) @qi.eq_1 @qi.eq_1 ?_
  ((repeat(with_reducible refine ob ?_));refine clF F124 (q2u l[i] m[i] (hp _ (jAg e))) (λ_=>by exact et3 @qi.eq_1 @zw.eq_1 @encI.eq_1) ?_);refine ez ?_
  refine qt _ rfl rfl (λt=> ?_) (λt=> ?_)
  ·have hne:l[i]≠m[i]:=by simpa using t
   exact et1 (qya e o hne)
  ·have he:l[i]=m[i]:=by simpa using t
   refine ez ?_;refine⟨⟨i+1,qac hi e o he⟩,?_,by dsimp only;omega⟩;exact et2 @qpo.eq_1 (qe (show i<9223372036854775807 by omega))
 ·exact et1 (qdv hi (by simpa using h) q)
def qObj (q:Qu):AObj:= .row [.d (.int .i64 q.acc),.d (.int .i64 q.cons),.d (.sl 9 (q.items.map qi))]
structure Ue where
 sess:Int
 phase:Int
 moved:List Bool
 opened:List Bool
 deriving DecidableEq,Inhabited
def encB (b:Bool):List D:= [.bool b]
theorem qvo (b:Bool):D.noPtrL (encB b)=true:=rfl
theorem qaj (l:List Bool):D.noPtrR (l.map encB)=true:=zg qvo l
def qu (x:Ue):List D:= [.int .i64 x.sess,.int .i64 x.phase,.sl 1 (x.moved.map encB),.sl 1 (x.opened.map encB)]
theorem qkz (x:Ue):D.noPtrL (qu x)=true:=by simp only[qu,D.noPtrL,D.noPtr,qaj,jBu]
theorem qgt (l:List Ue):D.noPtrR (l.map qu)=true:=zg qkz l
structure Mg where
 roles:Int
 ents:List Ue
 deriving DecidableEq,Inhabited
def xt (m:Mg):List D:= [.int .i64 m.roles,.sl 4 (m.ents.map qu)]
theorem q7g (m:Mg):D.noPtrL (xt m)=true:=by simp only[xt,D.noPtrL,D.noPtr,qgt,jBu]
attribute [go_sem] qvo qaj qkz qgt q7g
def Ue.Sm (x:Ue):Prop:=x.moved.length<=1000∧x.opened.length<=1000
def Mg.Sm (m:Mg):Prop:=m.ents.length<=1000∧ ∀x∈m.ents,x.Sm
def d266:=cut prog f266 news
@[go_sem] def E266:=qj d266
def F266:=fnC d266 follows func266
def d211:=cut prog f211 news
@[go_sem] def E211:=qj d211
def F211:=fnC d211 follows func211
def d134:=cut prog f134 news
@[go_sem] def E134:=qj d134
def F134:=fnC d134 follows func134
def d69:=cut prog f69 news
@[go_sem] def E69:=qj d69
def F69:=fnC d69 follows func69
def hasB (v:Bool) (l:List Bool):Bool:=l.any λb=>v==b
def q95 (l:List Bool) (v:Bool) (i:{i:Nat//(l.take i).any (λb=>v==b)=false}):St:=
 ⟨[(0,true,.d (.sl 1 (l.map encB))),(1,true,.d (.bool v)),(7,true,.d (.int .i64 l.length)),(8,true,.d (.int .i64 (i.val:Nat)))],[],[],1⟩
theorem xc4 (l:List Bool) (v:Bool) (hl:l.length<=1000):qf prog 266 [.d (.sl 1 (l.map encB)),.d (.bool v)] [] (.d (.int .i64 (idx (λb=>v==b) l))) []:=by
 refine F266.go ?_;refine ez ?_;refine qg (q95 l v) (λi=>l.length-i.val) ⟨0,rfl⟩ ?_ (λi=> ?_)
 ·exact et1 @q95.eq_1
 obtain⟨i,hi⟩:=i;refine eo1 @q95.eq_1 ?_;refine xf _ (λh=> ?_) (λh=> ?_)
 ·have e:i<l.length:=by simpa using h
  refine eo2 (qh encB l e) @encB.eq_1 ?_;refine xf _ (λm=> ?_) (λm=> ?_)
  ·exact et1 (qf0 (f:=λb=>v==b) hi e m)
  ·refine ez ?_;refine⟨⟨i+1,v8 hi e m⟩,?_,by dsimp only;omega⟩;exact et2 @q95.eq_1 (qe (show i<9223372036854775807 by omega))
 ·have e:l.length<=i:=by simpa using h
  exact et1 (qfz hi e)
theorem qhh (l:List Bool) (v:Bool) (hl:l.length<=1000):qf prog 211 [.d (.sl 1 (l.map encB)),.d (.bool v)] [] (.d (.bool (hasB v l))) []:=by
 refine F211.go ?_;refine eo ?_;refine cl F266 (xc4 l v hl) ?_;exact et2 @qvc @hasB.eq_1
def jb (x:Ue):Int:=
 if !hasB false x.moved&& !hasB false x.opened then 3 else if !hasB false x.moved then 2 else if hasB true x.opened then 0 else 1
theorem qjp (x:Ue) (h:x.Sm):qf prog 134 [.d (.agg (qu x))] [] (.d (.int .i64 (jb x))) []:=by
 refine F134.go ?_;refine eo1 @qu.eq_1 ?_;refine cl F211 (qhh x.moved false h.1) ?_;refine eo ?_;refine cl F211 (qhh x.opened false h.2) ?_;refine ez ?_;refine xf _ (λh1=> ?_) (λh1=> ?_)
 ·have e:jb x=3:=by simp_all[jb]
  exact et1 @e
 refine ez ?_;refine xf _ (λh2=> ?_) (λh2=> ?_)
 ·have e:jb x=2:=by simp_all[jb]
  exact et1 @e
 refine eo ?_;refine cl F211 (qhh x.opened true h.2) ?_;refine ez ?_;refine xf _ (λh3=> ?_) (λh3=> ?_)
 ·have e:jb x=0:=by simp_all[jb]
  exact et1 @e
 ·have e:jb x=1:=by simp_all[jb]
  exact et1 @e
theorem w01:(IntKind.i64.wrap (0-1)).toNat=0:=by decide
theorem w02:(IntKind.i64.wrap (-1)).toNat=0:=by decide
def qfg (m:Mg) (i:Nat):Bool:=
 decide ((m.ents.getD i default).sess<1)||decide ((m.ents.getD i default).sess>32)||(decide ((i:Int)>0)&&decide ((m.ents.getD i default).sess<=(m.ents.getD (i-1) default).sess))||
 ((m.ents.getD i default).moved.length:Int) !=m.roles||((m.ents.getD i default).opened.length:Int) !=m.roles||(m.ents.getD i default).phase==0||(m.ents.getD i default).phase !=jb (m.ents.getD i default)
def jc (m:Mg):Bool:=qb6 (λi=> !qfg m i) m.ents.length&&(decide (m.roles≥1)&&decide (m.roles<=6))
theorem en0 (m:Mg) (h:0<m.ents.length):(decide (m.ents[0].sess<1)||decide (m.ents[0].sess>32)||(m.ents[0].moved.length:Int) !=m.roles||(m.ents[0].opened.length:Int) !=m.roles||m.ents[0].phase==0||m.ents[0].phase !=jb m.ents[0])=qfg m 0:=by
 simp only[qfg,zp h,jAt,decide_false,jEh,jFs,Int.natCast_zero,show¬((0:Int)>0) by omega]
theorem enk (m:Mg) (k:Nat) (h:k+1<m.ents.length) (h':k<m.ents.length):(decide (m.ents[k+1].sess<1)||decide (m.ents[k+1].sess>32)||(decide ((k:Int)+1>0)&&decide (m.ents[k+1].sess<=m.ents[k].sess))||(m.ents[k+1].moved.length:Int) !=m.roles||(m.ents[k+1].opened.length:Int) !=m.roles||m.ents[k+1].phase==0||m.ents[k+1].phase !=jb m.ents[k+1])=qfg m (k+1):=by
 simp only[qfg,zp h,jEr,zp h',Int.natCast_add,jDw]
def zm (m:Mg):AObj:= .row [.d (.int .i64 m.roles),.d (.sl 4 (m.ents.map qu))]
def qmg (m:Mg) (i:{i:Nat//qb6 (λi=> !qfg m i) i=true}):St:=
 ⟨[(1,true,.d (.ptr 0 0)),(6,true,.d (.sl 4 (m.ents.map qu))),(7,true,.d (.int .i64 m.ents.length)),(8,true,.d (.int .i64 (i.val:Nat)))],[zm m],[],1⟩
theorem qdd (m:Mg) (q:m.Sm):qf prog 69 [.d (.agg (xt m))] [] (.d (.bool (jc m))) []:=by
 have hl:=q.1;refine F69.go ?_;refine ez1 @xt.eq_1 ?_;refine qg (qmg m) (λi=>m.ents.length-i.val) ⟨0,rfl⟩ ?_ (λi=> ?_)
 ·exact et2 @qmg.eq_1 @zm.eq_1
 obtain⟨i,hi⟩:=i;refine eo2 @qmg.eq_1 @zm.eq_1 ?_;refine xf _ (λh=> ?_) (λh=> ?_)
 ·have e:i<m.ents.length:=by simpa using h
  have p:=q.2 _ (jAg e);rcases jC7 i with u|u
  ·subst u;refine eo5 (qh qu m.ents e) @qu.eq_1 @jFi @w01 @w02 ?_
   (repeat(with_reducible refine ob ?_));refine cl F134 (qjp m.ents[0] p) ?_
   refine ez ?_;refine⟨λh=>by rw[h];rfl,?_⟩;refine qt (qfg m 0) rfl ?_ (λl=> ?_) (λl=> ?_)
   ·exact et1 (en0 m e)
   ·have o:(!qfg m 0)=false:=by simp[l]
    exact et2 @jc.eq_1 (qel (g:=λi=> !qfg m i) e o)
   ·refine ez ?_;refine⟨⟨1,yz hi (by simp[l])⟩,?_,by dsimp only;omega⟩;exact et3 @qmg.eq_1 @zm.eq_1 (show IntKind.i64.wrap 1=1 by decide)
  ·obtain⟨k,rfl⟩: ∃k,i=k+1:=⟨i-1,by omega⟩;have t:k<m.ents.length:=by omega
   have hw:IntKind.i64.wrap (((k:Nat):Int)+1-1)=((k:Nat):Int):=by rw[wrap_i64 (by omega) (by omega)];omega
   have hw2:IntKind.i64.wrap (((k:Nat):Int)+1+1)=((k:Nat):Int)+1+1:=by rw[wrap_i64 (by omega) (by omega)]
   refine eo4 (qh qu m.ents e) (qh qu m.ents t) @hw @qu.eq_1 ?_
   (repeat(with_reducible refine ob ?_));refine cl F134 (qjp m.ents[k+1] p) ?_
   refine ez ?_;refine⟨λh=>by rw[h];rfl,?_⟩;refine qt (qfg m (k+1)) rfl ?_ (λl=> ?_) (λl=> ?_)
   ·exact et1 (enk m k e t)
   ·have o:(!qfg m (k+1))=false:=by simp[l]
    exact et2 @jc.eq_1 (qel (g:=λi=> !qfg m i) e o)
   ·refine ez ?_;refine⟨⟨k+1+1,yz hi (by simp[l])⟩,?_,by dsimp only;omega⟩;exact et3 @qmg.eq_1 @zm.eq_1 @hw2
 ·have e:m.ents.length<=i:=by simpa using h
  have ha:qb6 (λi=> !qfg m i) m.ents.length=true:=zh.2 λj hj=>zh.1 hi j (by omega);refine eo ?_;exact et2 @jc.eq_1 @ha
def d144:=cut prog f144 news
@[go_sem] def E144:=qj d144
def F144:=fnC d144 follows func144
def d143:=cut prog f143 news
@[go_sem] def E143:=qj d143
def F143:=fnC d143 follows func143
def d77:=cut prog f77 news
@[go_sem] def E77:=qj d77
def F77:=fnC d77 follows func77
def d145:=cut prog f145 news
@[go_sem] def E145:=qj d145
def F145:=fnC d145 follows func145
def d78:=cut prog f78 news
@[go_sem] def E78:=qj d78
def F78:=fnC d78 follows func78
def d101:=cut prog f101 news
@[go_sem] def E101:=qj d101
def d40:=cut prog f40 news
@[go_sem] def E40:=qj d40
def d43:=cut prog f43 news
@[go_sem] def E43:=qj d43
def F43:=fnC d43 follows func43
def sObj (s:Int):AObj:= .row [.d (.int .i64 s)]
attribute [go_sem] sObj
theorem xoe (x:Ue) (s:Int):qf prog 144 [.d (.agg (qu x)),.d (.ptr 0 0)] [sObj s] (.d (.bool (decide (x.sess≥s)))) [sObj s]:=by
 refine F144.go ?_;exact et2 @qu.eq_1 @sObj.eq_1
def xof (l:List Ue) (k:FuncId) (s:Int) (f:Ue->Bool) (i:{i:Nat//(l.take i).any f=false}):St:=
 ⟨[(0,true,.d (.sl 4 (l.map qu))),(1,true,.d (.func (.func k) [] [.ptr 0 0])),(6,true,.d (.sl 4 (l.map qu))),(7,true,.d (.int .i64 l.length)),(8,true,.d (.int .i64 (i.val:Nat)))],
  [sObj s],[],1⟩
theorem xc5 (l:List Ue) (s:Int) (hl:l.length<=1000):qf prog 143 [.d (.sl 4 (l.map qu)),.d (.func (.func 144) [] [.ptr 0 0])] [sObj s]
  (.d (.int .i64 (idx (λx=>decide (x.sess≥s)) l))) [sObj s]:=by
 refine F143.go ?_;refine ez ?_;refine qg (xof l 144 s (λx=>decide (x.sess≥s))) (λi=>l.length-i.val) ⟨0,rfl⟩ ?_ (λi=> ?_)
 ·exact et2 @xof.eq_1 @sObj.eq_1
 obtain⟨i,hi⟩:=i;refine eo1 @xof.eq_1 ?_;refine xf _ (λh=> ?_) (λh=> ?_)
 ·have e:i<l.length:=by simpa using h
  refine eo2 (qh qu l e) @qu.eq_1 ?_;refine clO [0] F144 (xoe l[i] s) ?_ (hfit:=by first|exact⟨qo,trivial⟩|exact⟨qo,qo,trivial⟩|(refine ev2 @qu.eq_1 @xt.eq_1 ?_;try exact⟨⟩))
  refine ez1 @sObj.eq_1 ?_;refine xf _ (λm=> ?_) (λm=> ?_)
  ·exact et1 (qf0 (f:=λx=>decide (x.sess≥s)) hi e m)
  ·refine ez ?_;refine⟨⟨i+1,v8 hi e m⟩,?_,by dsimp only;omega⟩;exact et3 @xof.eq_1 @sObj.eq_1 (qe (show i<9223372036854775807 by omega))
 ·exact et2 (qfz hi (by simpa using h)) @sObj.eq_1
def xj (m:Mg) (s:Int):Nat×Bool:=
 if m.ents.any (λx=>decide (x.sess≥s))then(m.ents.findIdx (λx=>decide (x.sess≥s)),(m.ents.getD (m.ents.findIdx (λx=>decide (x.sess≥s))) default).sess==s)else(m.ents.length,false)
theorem xt5 {α:Type} (f:α->Bool) (l:List α):decide (idx f l<0)= !l.any f:=by
 unfold idx;cases l.any f<;>simp
theorem qnn {α:Type} {f:α->Bool} {l:List α} (h:l.any f=true):idx f l=(l.findIdx f:Int)∧l.findIdx f<l.length:=by
 refine⟨by simp[idx,h],?_⟩;rw[List.findIdx_lt_length];simpa using h
theorem qiu (m:Mg) (s:Int) (hm:m.Sm):qf prog 77 [.d (.agg (xt m)),.d (.int .i64 s)] [] (.tup [.d (.int .i64 ((xj m s).1:Nat)),.d (.bool (xj m s).2)]) []:=by
 refine F77.goT ?_;refine eo1 @xt.eq_1 ?_;refine clO [1] F143 (xc5 m.ents s hm.1) ?_;refine eo2 @xt5 @sObj.eq_1 ?_;refine xf _ (λh=> ?_) (λh=> ?_)
 ·have e:m.ents.any (λx=>decide (x.sess≥s))=false:=by simpa using h
  have hu:xj m s=(m.ents.length,false):=by simp[xj,e]
  exact et1 @hu
 ·have e:m.ents.any (λx=>decide (x.sess≥s))=true:=by simpa using h
  obtain⟨h1,i⟩:=qnn e;have hu:xj m s=(m.ents.findIdx (λx=>decide (x.sess≥s)),(m.ents.getD (m.ents.findIdx (λx=>decide (x.sess≥s))) default).sess==s):=by simp[xj,e]
  rw[hu,zp i];rw[h1];generalize m.ents.findIdx (λx=>decide (x.sess≥s))=k at i⊢;refine eo2 (qh qu m.ents i) @qu.eq_1 ?_;refine ez2 (qh qu m.ents i) @qu.eq_1 ?_;first|omega|exact⟨by omega,by omega⟩|skip
theorem xr1 (l m:List Bool) (hl:l.length<=1000):
  qf prog 145 [.d (.sl 1 (l.map encB)),.d (.sl 1 (m.map encB))] [] (.d (.bool (decide (l=m)))) []:=by
 refine F145.go ?_;refine ez ?_;refine xf _ (λh=> ?_) (λh=> ?_)
 ·have hne:decide (l=m)=false:=by rw[decide_eq_false_iff_not];rintro rfl;simp at h
  exact et1 @hne
 ·have hlm:l.length=m.length:=by simp at h;omega
  refine ez ?_;refine qg (Seq 1 encB l m) (λi=>l.length-i.val) ⟨0,rfl⟩ ?_ (λi=> ?_)
  ·exact et1 @Seq.eq_1
  ·obtain⟨i,hi⟩:=i;refine ez1 @Seq.eq_1 ?_;refine xf _ (λh=> ?_) (λh=> ?_)
   ·have o:i<l.length:=by simpa using h
    have e:i<m.length:=by omega
    refine ez3 (qh encB l o) (qh encB m e) @encB.eq_1 ?_;refine⟨by omega,by omega,?_⟩;refine xf _ (λp=> ?_) (λp=> ?_)
    ·have hne:l[i]≠m[i]:=by simpa using p
     exact et1 (qya o e hne)
    ·have he:l[i]=m[i]:=by simpa using p
     refine ez ?_;refine⟨⟨i+1,qac hi o e he⟩,?_,by dsimp only;omega⟩;exact et2 @Seq.eq_1 (qe (show i<9223372036854775807 by omega))
   ·have he:decide (l=m)=true:=by
     have:l.length<=i:=by simpa using h
     rw[jAq this,jAq (by omega)]at hi;simp[hi]
    exact et1 @he
theorem xr2 (x y:Ue):(x.sess==y.sess&&x.phase==y.phase&&decide (x.moved=y.moved)&&decide (x.opened=y.opened))=decide (x=y):=by
 obtain⟨a1,a2,a3,a4⟩:=x;obtain⟨b1,b2,b3,b4⟩:=y;rw[jBl];simp[and_assoc]
theorem qvp (x y:Ue) (e:x.Sm):qf prog 78 [.d (.agg (qu x)),.d (.agg (qu y))] [] (.d (.bool (decide (x=y)))) []:=by
 refine F78.go ?_;refine eo1 @qu.eq_1 ?_;refine cl F145 (xr1 x.moved y.moved e.1) ?_;refine eo ?_
 (repeat(with_reducible refine ob ?_));refine cl F145 (xr1 x.opened y.opened e.2) ?_
 exact et1 @xr2
theorem xr3 (a b:Mg):(a.roles==b.roles&&decide (a.ents=b.ents))=decide (a=b):=by
 obtain⟨a1,a2⟩:=a;obtain⟨b1,b2⟩:=b;rw[jBl];simp
def qk0 (n:Int):Mg×Int:=if decide (n<1)||decide (n>6)then(⟨0,[]⟩,2)else(⟨n,[]⟩,0)
theorem qyv (n:Int):qf prog 43 [.d (.int .i64 n)] [] (.tup [.d (.agg (xt (qk0 n).1)),.d (.int .i64 (qk0 n).2)]) []:=by
 refine F43.goT ?_;refine eo ?_;refine xf _ (λh=> ?_) (λh=> ?_)
 ·exact et4 @qk0.eq_1 @h @xt.eq_1 @List.map_nil.{0,0}
 ·exact et4 @qk0.eq_1 @h @xt.eq_1 @List.map_nil.{0,0}
def xxc:=cut prog f224 news [7]
@[go_sem] def x0y:=qj xxc
def xt6:=fnC xxc follows func224
def xxd:=cut prog f225 news [7]
@[go_sem] def x0z:=qj xxd
def xt7:=fnC xxd follows func225
def d225:=cut prog f225 news
@[go_sem] def E225:=qj d225
def F225:=fnC d225 follows func225
theorem q2v (l:List Ue) (hl:l.length<=1000):qf prog 224 [.d (.sl 4 (l.map qu))] [] (.uni 0 4 (l.map qu)) []:=by
 refine xt6.go ?_;refine ez ?_;refine qng rfl rfl (λb hb=> ?_);refine eo ?_;refine xf _ (λh=> ?_) (λh=> ?_)
 ·exact et1 (hb h)
 ·refine ez ?_;omega
theorem qvq (l:List Bool) (hl:l.length<=1000):qf prog 225 [.d (.sl 1 (l.map encB))] [] (.uni 0 1 (l.map encB)) []:=by
 refine xt7.go ?_;refine ez ?_;refine qng rfl rfl (λb hb=> ?_);refine eo ?_;refine xf _ (λh=> ?_) (λh=> ?_)
 ·exact et1 (hb h)
 ·refine ez ?_;omega
theorem qdw (l:List Bool) (hl:l.length<=1000):qf prog 225 [.d (.sl 1 (l.map encB))] [] (.d (.sl 1 (l.map encB))) []:=by
 refine F225.go ?_;refine ez ?_;refine qng rfl rfl (λb hb=> ?_);refine eo ?_;refine xf _ (λh=> ?_) (λh=> ?_)
 ·exact et1 (hb h)
 ·refine ez ?_;omega
def xxe:=cut prog f141 news [] [2,7] true
@[go_sem] def x00:=qj xxe
theorem xc6 (b es:Nat) (rows:List (List D)):qe3 b (.uni 0 es rows)= .uni b es rows:=by simp[qe3,yd,renT,ASlot.toks]
theorem xc7 (b es:Nat) (rows:List (List D)):qe3 b (.own 0 es rows)= .own b es rows:=by simp[qe3,yd,renT,ASlot.toks]
attribute [go_sem] xc6 xc7
def jy (l:List Ue):List ASlot:=(l.map qu).flatten.map ASlot.d
theorem q2w (l:List Ue):List.map ASlot.d (l.map qu).flatten=jy l:=rfl
theorem zt (x:Ue) (l:List Ue):jy (x::l)= .d (.int .i64 x.sess):: .d (.int .i64 x.phase):: .d (.sl 1 (x.moved.map encB)):: .d (.sl 1 (x.opened.map encB))::jy l:=rfl
theorem qfh: ∀l:List Ue,(jy l).length=l.length*4
 | []=>rfl
 |x::l=>by rw[zt];simp only[List.length_cons,qfh l];omega
theorem qiv: ∀(l:List Ue) (i j:Nat) (_:i<l.length) (_:j<4),(jy l)[i*4+j]? =some (.d ((qu l[i]).getD j .nilsl))
 |x::l,0,j,_,hj=>by
  rw[zt];have:j=0∨j=1∨j=2∨j=3:=by omega
  rcases this with rfl|rfl|rfl|rfl<;>rfl
 |x::l,i+1,j,hi,hj=>by
  rw[zt,show(i+1)*4+j=(i*4+j)+1+1+1+1 by omega];simp only[jCb];exact qiv l i j (by simpa using hi) hj
theorem qvr (l:List Ue) (i j:Nat) (hi:i<l.length) (hj:j<4):(jy l).getD (i*4+j) .bad= .d ((qu l[i]).getD j .nilsl):=by
 rw[jA1,qiv l i j hi hj];rfl
theorem q2x (l:List Ue) (i j:Nat) (hi:i<l.length) (e:j<4):(jy l).set (i*4+j) (.d ((qu l[i]).getD j .nilsl))=jy l:=by
 refine jC5 λk=> ?_;rw[List.getElem?_set];split
 ·rename_i h;subst h;rw[qiv l i j hi e];have:=(jAd.1 (qiv l i j hi e)).1;simp[this]
 ·rfl
theorem qp0 {l:List Ue} {i:Nat} (hi:i<l.length):(jy l).getD (i*4+2) .bad= .d (.sl 1 (l[i].moved.map encB)):=qvr l i 2 hi (by decide)
theorem qp1 {l:List Ue} {i:Nat} (hi:i<l.length):(jy l).getD (i*4+3) .bad= .d (.sl 1 (l[i].opened.map encB)):=qvr l i 3 hi (by decide)
theorem qhi {l:List Ue} {i:Nat} (hi:i<l.length):(jy l).set (i*4+2) (.d (.sl 1 (l[i].moved.map encB)))=jy l:=q2x l i 2 hi (by decide)
theorem qhj {l:List Ue} {i:Nat} (hi:i<l.length):(jy l).set (i*4+3) (.d (.sl 1 (l[i].opened.map encB)))=jy l:=q2x l i 3 hi (by decide)
theorem qse (keep:Nat->Bool): ∀l:List Ue,csW keep (jy l) (jy l)
 | []=>by simp only[jy,List.map_nil,List.flatten_nil,csW]
 |x::l=>by
  rw[zt];have:=qse keep l;exact et1 @this
theorem qhk: ∀l:List Ue,qb5 (jy l) (jy l)= []
 | []=>rfl
 |x::l=>by
  rw[zt];have:=qhk l;exact et1 @this
theorem qno: ∀l:List Ue,(jy l).flatMap ASlot.toks= []
 | []=>rfl
 |x::l=>by
  rw[zt];have:=qno l;exact et2 @List.flatMap_cons.{0,0} @this
attribute [go_sem] qse qhk qno qfh
theorem q7h {keep:Nat->Bool} {s:ASlot} (hs:qd5 keep s s): ∀(l:List ASlot) (i:Nat),csW keep l l->csW keep (l.set i s) (l.set i s)
 | [],_,h=>h
 | _::_,0,h=>⟨hs,h.2⟩
 | _::l,i+1,h=>⟨h.1,q7h hs l i h.2⟩
theorem qk1 {s:ASlot} (hs:wl s s= []): ∀(l:List ASlot) (i:Nat),qb5 l l= [] ->qb5 (l.set i s) (l.set i s)= []
 | [],_,h=>h
 |x::l,0,h=>by
  rw[List.set_cons_zero,qdr];rw[qdr,jC2]at h;rw[hs,h.2];rfl
 |x::l,i+1,h=>by
  rw[List.set_cons_succ,qdr];rw[qdr,jC2]at h;rw[h.1,qk1 hs l i h.2];rfl
theorem qyw {s:ASlot} (hs:s.toks= []): ∀(l:List ASlot) (i:Nat),l.flatMap ASlot.toks= [] ->(l.set i s).flatMap ASlot.toks= []
 | [],_,h=>h
 |x::l,0,h=>by
  rw[List.set_cons_zero,List.flatMap_cons];rw[List.flatMap_cons,jC2]at h;rw[hs,h.2];rfl
 |x::l,i+1,h=>by
  rw[List.set_cons_succ,List.flatMap_cons];rw[List.flatMap_cons,jC2]at h;rw[h.1,qyw hs l i h.2];rfl
def xxg:=cut prog f141 news [] [2,7] true
@[go_sem] def x01:=qj xxg
def xxh:=fnC xxg follows func141
def refA (l:List ASlot) (k a b:Nat) (x:Ue):List ASlot:=(l.set (k*4+2) (.d (.ref a 0 1 x.moved.length))).set (k*4+3) (.d (.ref b 0 1 x.opened.length))
theorem xoh (l:List ASlot) (k a b:Nat) (x:Ue):(refA l k a b x).length=l.length:=by simp[refA]
theorem xt8 {l:List Ue} {k a b i:Nat} {x:Ue} (hik:i≠k) (hi:i<l.length):(refA (jy l) k a b x).getD (i*4+2) .bad= .d (.sl 1 (l[i].moved.map encB)):=by
 rw[<- qp0 hi,jA1,jA1,refA,jBj (by omega),jBj (by omega)]
theorem xt9 {l:List Ue} {k a b i:Nat} {x:Ue} (hik:i≠k) (hi:i<l.length):(refA (jy l) k a b x).getD (i*4+3) .bad= .d (.sl 1 (l[i].opened.map encB)):=by
 rw[<- qp1 hi,jA1,jA1,refA,jBj (by omega),jBj (by omega)]
theorem q7i {l:List Ue} {k a b i:Nat} {x:Ue} (hik:i≠k) (hi:i<l.length):(refA (jy l) k a b x).set (i*4+2) (.d (.sl 1 (l[i].moved.map encB)))=refA (jy l) k a b x:=by
 rw[refA,jEl _ _ (show k*4+3≠i*4+2 by omega),jEl _ _ (show k*4+2≠i*4+2 by omega),qhi hi]
theorem q7j {l:List Ue} {k a b i:Nat} {x:Ue} (hik:i≠k) (hi:i<l.length):(refA (jy l) k a b x).set (i*4+3) (.d (.sl 1 (l[i].opened.map encB)))=refA (jy l) k a b x:=by
 rw[refA,jEl _ _ (show k*4+3≠i*4+3 by omega),jEl _ _ (show k*4+2≠i*4+3 by omega),qhj hi]
theorem qp2 {keep:Nat->Bool} {l:List Ue} {k a b:Nat} {x:Ue} (ha:keep a=true) (hb:keep b=true):csW keep (refA (jy l) k a b x) (refA (jy l) k a b x):=
 q7h (by exact et2 @ha @hb) _ _ (q7h (by exact et2 @ha @hb) _ _ (qse keep l))
theorem q2y {l:List Ue} {k a b:Nat} {x:Ue}:qb5 (refA (jy l) k a b x) (refA (jy l) k a b x)= []:=qk1 rfl _ _ (qk1 rfl _ _ (qhk l))
theorem xht {l:List Ue} {k a b:Nat} {x:Ue}:(refA (jy l) k a b x).flatMap ASlot.toks= []:=qyw rfl _ _ (qyw rfl _ _ (qno l))
theorem xoi (l:List Bool):List.map ASlot.d (l.map encB).flatten=l.map λb=> .d (.bool b):=by
 induction l with
 |nil=>rfl
 |cons b l ih=>simp only[List.map_cons,List.flatten_cons,encB,List.cons_append,List.nil_append,ih]
theorem q96 (keep:Nat->Bool): ∀l:List Bool,csW keep (l.map λb=> .d (.bool b)) (l.map λb=> .d (.bool b))
 | []=>trivial
 |x::l=>by
  have:=q96 keep l;exact et2 @List.map_cons.{0,0} @this
theorem qoz: ∀l:List Bool,qb5 (l.map λb=> .d (.bool b)) (l.map λb=> .d (.bool b))= []
 | []=>rfl
 |x::l=>by
  have:=qoz l;exact et2 @List.map_cons.{0,0} @this
theorem q2z: ∀l:List Bool,((l.map λb=> .d (.bool b)).flatMap ASlot.toks:List Nat)= []
 | []=>rfl
 |x::l=>by
  have:=q2z l;exact et3 @List.map_cons.{0,0} @List.flatMap_cons.{0,0} @this
attribute [go_sem] xoh qp2 q2y xht xoi q96 qoz q2z
theorem xoj (l:List ASlot) (k a b:Nat) (x:Ue):(l.set (k*4+2) (.d (.ref a 0 1 x.moved.length))).set (k*4+3) (.d (.ref b 0 1 x.opened.length))=refA l k a b x:=rfl
theorem x02 {l:List ASlot} {a b:Nat} {u v x y:ASlot} (h:a≠b):(((l.set a u).set b v).set a x).set b y=(l.set a x).set b y:=by
 rw[jEl _ _ (Ne.symm h),List.set_set,List.set_set]
def q20 (m:Mg) (k:Nat) (x:Ue) (i:{i:Nat//i<=m.ents.length}):St:=
 ⟨[(1,true,.d (.ptr 0 0)),(2,true,.d (.ptr 1 0)),(11,true,.d (.int .i64 m.ents.length)),(12,true,.d (.int .i64 (i.val:Nat)))],
  if i.val<=k then [.row [.d (.int .i64 m.roles),.d (.ref 2 0 4 m.ents.length)],.row [.d (.int .i64 0),.d .nilsl],.row (jy m.ents)]
  else [.row [.d (.int .i64 m.roles),.d (.ref 2 0 4 m.ents.length)],.row [.d (.int .i64 0),.d .nilsl],.row (refA (jy m.ents) k 3 4 x),.row (x.moved.map λb=> .d (.bool b)),.row (x.opened.map λb=> .d (.bool b))],[],1⟩
theorem q7k (m:Mg) (hm:m.Sm) (k:Nat) (hk:k<m.ents.length):qf Tryz.prog 141 [.d (.agg (xt m))] [] (.d (.agg [.int .i64 m.roles,.ref 2 0 4 m.ents.length]))
  [.none,.none,.row (refA (jy m.ents) k 3 4 m.ents[k]),.row (m.ents[k].moved.map fun b=> .d (.bool b)),.row (m.ents[k].opened.map fun b=> .d (.bool b))]:=by
 have hl:=hm.1
 refine xxh.go ?_
 refine ez1 @xt.eq_1 ?_
 refine clA xt6 (q2v m.ents hm.1) ?_
 refine eo ?_
 refine qou (.cell 0 1) _ 4 (m.ents.map qu) ?_
 refine pu ?_
 refine ez ?_
 refine qg (q20 m k m.ents[k]) (fun i=>m.ents.length-i.val) ⟨0,jAj _⟩ ?_ (fun i=> ?_)
 ·exact et3 @q20.eq_1 @q2w @jAj
 obtain⟨i,hi⟩:=i
 rcases Nat.lt_trichotomy i k with hik|hik|hik
 ·have hle:i<=k:=by omega
  have hle1:i+1<=k:=by omega
  refine eo2 @q20.eq_1 @hle ?_
  refine xf _ (fun h=> ?_) (fun h=> ?_)
  ·have hil:i<m.ents.length:=by simpa using h
   have hx:=hm.2 _ (jAg hil)
   refine eo ?_
   rw[qp0 hil]
   (repeat(with_reducible refine ob ?_));refine cl F225 (qdw m.ents[i].moved hx.1) ?_
   refine eo ?_
   rw[qp1 hil]
   (repeat(with_reducible refine ob ?_));refine cl F225 (qdw m.ents[i].opened hx.2) ?_
   refine eo2 (qhi hil) (qhj hil) ?_
   refine eo2 (qhi hil) (qhj hil) ?_
   refine ez2 (qhi hil) (qhj hil) ?_
   refine pu ?_
   refine ez ?_
   refine⟨⟨i+1,hil⟩,?_,by dsimp only;omega⟩
   exact et3 @q20.eq_1 @hle1 (qe (show i<9223372036854775807 by omega))
  ·exfalso;simp at h;omega
 ·subst hik
  have hni: ¬(i+1<=i):=by omega
  refine eo2 @q20.eq_1 @jAi ?_
  refine xf _ (fun h=> ?_) (fun h=> ?_)
  ·have hil:i<m.ents.length:=hk
   have hx:=hm.2 _ (jAg hil)
   refine eo ?_
   rw[qp0 hil]
   refine clA xt7 (qvq m.ents[i].moved hx.1) ?_
   refine eo ?_
   rw[qp1 hil]
   refine clA xt7 (qvq m.ents[i].opened hx.2) ?_
   refine eo ?_
   refine eo ?_
   refine eo2 @jCh.{0} @qfh ?_
   have hf:(jy m.ents).length=m.ents.length*4:=qfh _
   refine qou (.cell 2 (i*4+2)) 240 1 (m.ents[i].moved.map encB) ?_ (hp:=by simp only[St.slotAt,ql,jCb,jCa,AObj.cells,jA1];rw[jBj (by omega),jBv (by rw[hf];omega)];rfl)
   refine ez2 @jEl.{0} @jCh.{0} ?_
   refine qou (.cell 2 (i*4+3)) 320 1 (m.ents[i].opened.map encB) ?_ (hp:=by simp only[St.slotAt,ql,jCb,jCa,AObj.cells,jA1];rw[jBj (by omega),jBv (by rw[jCh,hf];omega)];rfl)
   try simp only[x02 (show i*4+2≠i*4+3 by omega),xoj,go_sem,simprocAttr]
   refine pu ?_
   refine ez ?_
   refine⟨⟨i+1,hil⟩,?_,by dsimp only;omega⟩
   refine ez3 @q20.eq_1 @hni (qe (show i<9223372036854775807 by omega)) ?_
   exact qp2 rfl rfl
  ·exfalso;simp at h;omega
 ·have hle: ¬i<=k:=by omega
  have hle1: ¬i+1<=k:=by omega
  refine eo2 @q20.eq_1 @hle ?_
  refine xf _ (fun h=> ?_) (fun h=> ?_)
  ·have hil:i<m.ents.length:=by simpa using h
   have hx:=hm.2 _ (jAg hil)
   have hik':i≠k:=by omega
   refine eo ?_
   rw[xt8 hik' hil]
   (repeat(with_reducible refine ob ?_));refine cl F225 (qdw m.ents[i].moved hx.1) ?_
   refine eo ?_
   rw[xt9 hik' hil]
   (repeat(with_reducible refine ob ?_));refine cl F225 (qdw m.ents[i].opened hx.2) ?_
   try simp only[q7i hik' hil,q7j hik' hil,go_sem,simprocAttr]
   (repeat(with_reducible refine ob ?_))
   try simp only[q7i hik' hil,q7j hik' hil,go_sem,simprocAttr]
   (repeat(with_reducible refine ob ?_))
   try simp only[q7i hik' hil,q7j hik' hil,go_sem,simprocAttr]
   refine pu ?_
   refine ez ?_
   refine⟨⟨i+1,hil⟩,?_,by dsimp only;omega⟩
   refine ez3 @q20.eq_1 @hle1 (qe (show i<9223372036854775807 by omega)) ?_
   exact qp2 rfl rfl
  ·have hil:i=m.ents.length:=by
    have:m.ents.length<=i:=by simpa using h
    omega
   subst hil
   refine ez ?_
   refine pu ?_
   refine ez ?_
   exact qp2 rfl rfl
def d229:=cut prog f229 news
@[go_sem] def E229:=qj d229
def F229:=fnC d229 follows func229
def d230:=cut prog f230 news
@[go_sem] def E230:=qj d230
def F230:=fnC d230 follows func230
def d149:=cut prog f149 news
@[go_sem] def E149:=qj d149
def F149:=fnC d149 follows func149
def d81:=cut prog f81 news
@[go_sem] def E81:=qj d81
def F81:=fnC d81 follows func81
def d82:=cut prog f82 news
@[go_sem] def E82:=qj d82
def d99:=cut prog f99 news
@[go_sem] def E99:=qj d99
def F99:=fnC d99 follows func99
def d34:=cut prog f34 news
@[go_sem] def E34:=qj d34
def F34:=fnC d34 follows func34
def d23:=cut prog f23 news
@[go_sem] def E23:=qj d23
def d94:=cut prog f94 news
@[go_sem] def E94:=qj d94
def F94:=fnC d94 follows func94
def idB (b:Bool):Bool:=b
def xok (l:List Bool) (i:{i:Nat//(l.take i).all idB=true}):St:=⟨[(0,true,.d (.sl 1 (l.map encB))),(2,true,.d (.bool false)),(3,true,.d (.int .i64 (i.val:Nat)))],[],[],1⟩
theorem qmh (l:List Bool) (hl:l.length<=1000):qf prog 229 [.d (.sl 1 (l.map encB))] [] (.d (.bool (l.all idB))) []:=by
 refine F229.go ?_;refine ez ?_;refine qg (xok l) (λi=>l.length-i.val) ⟨0,rfl⟩ ?_ (λi=> ?_)
 ·exact et1 @xok.eq_1
 obtain⟨i,hi⟩:=i;refine eo1 @xok.eq_1 ?_;refine xf _ (λh=> ?_) (λh=> ?_)
 ·have e:i<l.length:=by simpa using h
  refine eo2 (qh encB l e) @encB.eq_1 ?_;refine xf _ (λo=> ?_) (λo=> ?_)
  ·have m:idB l[i]=false:=by simpa[idB]using o
   exact et1 (qoy e m)
  ·have m:idB l[i]=true:=by simpa[idB]using o
   refine ez ?_;refine⟨⟨i+1,qai hi e m⟩,?_,by dsimp only;omega⟩;exact et2 @xok.eq_1 (qe (show i<9223372036854775807 by omega))
 ·have hall:l.all idB=true:=qmf hi (by simpa using h);exact et1 @hall
def q97 (l:List Bool) (i:{i:Nat//(l.take i).any idB=false}):St:=⟨[(0,true,.d (.sl 1 (l.map encB))),(2,true,.d (.bool false)),(3,true,.d (.int .i64 (i.val:Nat)))],[],[],1⟩
theorem xua {α:Type} {f:α->Bool} {l:List α} {i:Nat} (hi:i<l.length) (hf:f l[i]=true):l.any f=true:=jB3.2 ⟨_,jAg hi,hf⟩
theorem xol {α:Type} {f:α->Bool} {l:List α} {i:Nat} (h:(l.take i).any f=false) (hi:l.length<=i):l.any f=false:=by rwa [jAq hi]at h
theorem xhu (l:List Bool) (hl:l.length<=1000):qf prog 230 [.d (.sl 1 (l.map encB))] [] (.d (.bool (l.any idB))) []:=by
 refine F230.go ?_;refine ez ?_;refine qg (q97 l) (λi=>l.length-i.val) ⟨0,rfl⟩ ?_ (λi=> ?_)
 ·exact et1 @q97.eq_1
 obtain⟨i,hi⟩:=i;refine eo1 @q97.eq_1 ?_;refine xf _ (λh=> ?_) (λh=> ?_)
 ·have e:i<l.length:=by simpa using h
  refine eo2 (qh encB l e) @encB.eq_1 ?_;refine xf _ (λo=> ?_) (λo=> ?_)
  ·have m:idB l[i]=true:=by simpa[idB]using o
   exact et1 (xua e m)
  ·have m:idB l[i]=false:=by simpa[idB]using o
   refine ez ?_;refine⟨⟨i+1,v8 hi e m⟩,?_,by dsimp only;omega⟩;exact et2 @q97.eq_1 (qe (show i<9223372036854775807 by omega))
 ·have hall:l.any idB=false:=xol hi (by simpa using h);exact et1 @hall
def ph53 (x:Ue):Int:=
 if !x.moved.all idB&& !x.opened.any idB then 1 else if x.moved.all idB&& !x.opened.all idB then 2 else if x.moved.all idB&&x.opened.all idB then 3 else 0
theorem qnp (l:List Bool):hasB false l= !l.all idB:=by
 induction l with
 |nil=>rfl
 |cons b l ih=>cases b<;>simp_all[hasB,idB]
theorem q21 (l:List Bool):hasB true l=l.any idB:=by
 induction l with
 |nil=>rfl
 |cons b l ih=>cases b<;>simp_all[hasB,idB]
theorem xub (x:Ue):ph53 x=jb x:=by
 simp only[ph53,jb,qnp,q21];cases x.moved.all idB<;>cases x.opened.all idB<;>cases x.opened.any idB<;>rfl
theorem qvs (x:Ue) (h:x.Sm):qf prog 149 [.d (.agg (qu x))] [] (.d (.int .i64 (jb x))) []:=by
 rw[<- xub];refine F149.go ?_;refine eo1 @qu.eq_1 ?_;refine cl F229 (qmh x.moved h.1) ?_;refine eo ?_;refine cl F230 (xhu x.opened h.2) ?_;refine ez ?_;refine xf _ (λl=> ?_) (λl=> ?_)
 ·have e:ph53 x=1:=by simp_all[ph53]
  exact et1 @e
 refine eo ?_;refine cl F229 (qmh x.moved h.1) ?_;refine eo ?_;refine cl F229 (qmh x.opened h.2) ?_;refine ez ?_;refine xf _ (λi=> ?_) (λi=> ?_)
 ·have e:ph53 x=2:=by simp only[ph53,l,i];rfl
  exact et1 @e
 refine eo ?_;refine cl F229 (qmh x.moved h.1) ?_;refine eo ?_;refine cl F229 (qmh x.opened h.2) ?_;refine ez ?_;refine xf _ (λm=> ?_) (λm=> ?_)
 ·have e:ph53 x=3:=by simp only[ph53,l,i,m];rfl
  exact et1 @e
 ·have e:ph53 x=0:=by simp only[ph53,l,i,m];rfl
  exact et1 @e
def Sv53 (m:Mg) (i:{i:Nat//qb6 (λi=> !qfg m i) i=true}):St:=⟨[(1,true,.d (.ptr 0 0)),(2,true,.d (.bool false)),(3,true,.d (.int .i64 (i.val:Nat)))],[zm m],[],1⟩
theorem qjq (m:Mg) (t:m.Sm):qf prog 81 [.d (.agg (xt m))] [] (.d (.bool (jc m))) []:=by
 have hl:=t.1;refine F81.go ?_;refine eo1 @xt.eq_1 ?_;refine xf _ (λh=> ?_) (λh=> ?_)
 ·have hb:(decide (m.roles≥1)&&decide (m.roles<=6))=false:=by
   simp only[jA0,decide_eq_true_eq]at h;rw[jB6,decide_eq_false_iff_not,decide_eq_false_iff_not];omega
  exact et3 @jc.eq_1 @hb @jFj
 have hb:(decide (m.roles≥1)&&decide (m.roles<=6))=true:=by
  simp only[jA4,decide_eq_false_iff_not]at h;simp only[jAf,decide_eq_true_eq];omega
 refine ez ?_;refine qg (Sv53 m) (λi=>m.ents.length-i.val) ⟨0,rfl⟩ ?_ (λi=> ?_)
 ·exact et2 @Sv53.eq_1 @zm.eq_1
 obtain⟨i,hi⟩:=i;refine eo2 @Sv53.eq_1 @zm.eq_1 ?_;refine xf _ (λh=> ?_) (λh=> ?_)
 ·have e:i<m.ents.length:=by simpa using h
  have q:=t.2 _ (jAg e);rcases jC7 i with u|u
  ·subst u;refine eo5 (qh qu m.ents e) @qu.eq_1 @jFi @w01 @w02 ?_;refine eo ?_
   (repeat(with_reducible refine ob ?_));refine cl F149 (qvs m.ents[0] q) ?_
   refine ez ?_;refine⟨λh=>by rw[h];rfl,?_⟩;refine qt (qfg m 0) rfl ?_ (λl=> ?_) (λl=> ?_)
   ·exact et1 (en0 m e)
   ·have p:(!qfg m 0)=false:=by simp[l]
    exact et2 @jc.eq_1 (qel (g:=λi=> !qfg m i) e p)
   ·refine ez ?_;refine⟨⟨1,yz hi (by simp[l])⟩,?_,by dsimp only;omega⟩;exact et3 @Sv53.eq_1 @zm.eq_1 (show IntKind.i64.wrap 1=1 by decide)
  ·obtain⟨k,rfl⟩: ∃k,i=k+1:=⟨i-1,by omega⟩;have o:k<m.ents.length:=by omega
   have hw:IntKind.i64.wrap (((k:Nat):Int)+1-1)=((k:Nat):Int):=by rw[wrap_i64 (by omega) (by omega)];omega
   have hw2:IntKind.i64.wrap (((k:Nat):Int)+1+1)=((k:Nat):Int)+1+1:=by rw[wrap_i64 (by omega) (by omega)]
   refine eo4 (qh qu m.ents e) (qh qu m.ents o) @hw @qu.eq_1 ?_;refine eo3 (qh qu m.ents o) @hw @qu.eq_1 ?_
   (repeat(with_reducible refine ob ?_));refine cl F149 (qvs m.ents[k+1] q) ?_
   refine ez ?_;refine⟨λh=>by rw[h];rfl,?_⟩;refine qt (qfg m (k+1)) rfl ?_ (λl=> ?_) (λl=> ?_)
   ·exact et1 (enk m k e o)
   ·have p:(!qfg m (k+1))=false:=by simp[l]
    exact et2 @jc.eq_1 (qel (g:=λi=> !qfg m i) e p)
   ·refine ez ?_;refine⟨⟨k+1+1,yz hi (by simp[l])⟩,?_,by dsimp only;omega⟩;exact et3 @Sv53.eq_1 @zm.eq_1 @hw2
 ·have e:m.ents.length<=i:=by simpa using h
  have ha:qb6 (λi=> !qfg m i) m.ents.length=true:=zh.2 λj hj=>zh.1 hi j (by omega);refine eo ?_;exact et3 @jc.eq_1 @ha @hb
def q98 (l m:List Bool) (i:{i:Nat//l.take i=m.take i}):St:=
 ⟨[(0,true,.d (.sl 1 (l.map encB))),(1,true,.d (.sl 1 (m.map encB))),(4,true,.d (.bool false)),(5,true,.d (.int .i64 (i.val:Nat)))],[],[],1⟩
theorem q99 (l m:List Bool) (hl:l.length<=1000):qf prog 99 [.d (.sl 1 (l.map encB)),.d (.sl 1 (m.map encB))] [] (.d (.bool (decide (l=m)))) []:=by
 refine F99.go ?_;refine ez ?_;refine xf _ (λh=> ?_) (λh=> ?_)
 ·have hne:decide (l=m)=false:=by rw[decide_eq_false_iff_not];rintro rfl;simp at h
  exact et1 @hne
 ·have p:l.length=m.length:=by simp at h;omega
  refine ez ?_;refine qg (q98 l m) (λi=>l.length-i.val) ⟨0,rfl⟩ ?_ (λi=> ?_)
  ·exact et1 @q98.eq_1
  ·obtain⟨i,hi⟩:=i;refine ez1 @q98.eq_1 ?_;refine xf _ (λh=> ?_) (λh=> ?_)
   ·have o:i<l.length:=by simpa using h
    have e:i<m.length:=by omega
    refine ez3 (qh encB l o) (qh encB m e) @encB.eq_1 ?_;refine⟨by omega,by omega,?_⟩;refine xf _ (λq=> ?_) (λq=> ?_)
    ·have hne:l[i]≠m[i]:=by simpa using q
     exact et1 (qya o e hne)
    ·have he:l[i]=m[i]:=by simpa using q
     refine ez ?_;refine⟨⟨i+1,qac hi o e he⟩,?_,by dsimp only;omega⟩;exact et2 @q98.eq_1 (qe (show i<9223372036854775807 by omega))
   ·have he:decide (l=m)=true:=qdv hi (by simpa using h) p;exact et1 @he
def xoo (a b:Mg) (i:{i:Nat//a.ents.take i=b.ents.take i}):St:=
 ⟨[(2,true,.d (.ptr 0 0)),(3,true,.d (.ptr 1 0)),(4,true,.d (.bool false)),(5,true,.d (.int .i64 (i.val:Nat)))],[zm a,zm b],[],1⟩
theorem xr4 (x y:Ue):(x.sess !=y.sess||x.phase !=y.phase|| !decide (x.moved=y.moved)|| !decide (x.opened=y.opened))= !decide (x=y):=by
 rw[<- xr2 x y];simp only[Bool.not_and,bne]
theorem xc8 (a b:Mg) (q:a.Sm):qf prog 34 [.d (.agg (xt a)),.d (.agg (xt b))] [] (.d (.bool (decide (a=b)))) []:=by
 have hl:=q.1;refine F34.go ?_;refine eo1 @xt.eq_1 ?_;refine ez ?_;refine xf _ (λh=> ?_) (λh=> ?_)
 ·have hne:decide (a=b)=false:=by rw[decide_eq_false_iff_not];rintro rfl;simp at h
  exact et1 @hne
 ·have hr:a.roles=b.roles:=by simp at h;omega
  have m:a.ents.length=b.ents.length:=by simp at h;omega
  refine ez ?_;refine qg (xoo a b) (λi=>a.ents.length-i.val) ⟨0,rfl⟩ ?_ (λi=> ?_)
  ·exact et2 @xoo.eq_1 @zm.eq_1
  ·obtain⟨i,hi⟩:=i;refine ez2 @xoo.eq_1 @zm.eq_1 ?_;refine xf _ (λh=> ?_) (λh=> ?_)
   ·have e:i<a.ents.length:=by simpa using h
    have l:i<b.ents.length:=by omega
    have p:=q.2 _ (jAg e);refine eo3 (qh qu a.ents e) (qh qu b.ents l) @qu.eq_1 ?_;refine eo ?_
    (repeat(with_reducible refine ob ?_));refine cl F99 (q99 a.ents[i].moved b.ents[i].moved p.1) ?_
    refine eo ?_
    (repeat(with_reducible refine ob ?_));refine cl F99 (q99 a.ents[i].opened b.ents[i].opened p.2) ?_
    refine eo1 @xr4 ?_;refine ez1 @xr4 ?_;refine xf _ (λo=> ?_) (λo=> ?_)
    ·have hne:a.ents[i]≠b.ents[i]:=by simpa using o
     have hne2:decide (a=b)=false:=by rw[decide_eq_false_iff_not];rintro rfl;exact hne rfl
     exact et1 @hne2
    ·have he:a.ents[i]=b.ents[i]:=by simpa using o
     refine ez ?_;refine⟨⟨i+1,qac hi e l he⟩,?_,by dsimp only;omega⟩;exact et3 @xoo.eq_1 @zm.eq_1 (qe (show i<9223372036854775807 by omega))
   ·have he:decide (a=b)=true:=by
     have h1:=qdv hi (by simpa using h) m;rw[<- xr3,hr,h1];simp
    exact et1 @he
theorem xop (n:Int):qf prog 94 [.d (.int .i64 n)] [] (.tup [.d (.agg (xt (qk0 n).1)),.d (.int .i64 (qk0 n).2)]) []:=by
 refine F94.goT ?_;refine eo ?_;refine xf _ (λh=> ?_) (λh=> ?_)
 ·exact et4 @qk0.eq_1 @h @xt.eq_1 @List.map_nil.{0,0}
 ·exact et4 @qk0.eq_1 @h @xt.eq_1 @List.map_nil.{0,0}
def d18:=cut prog f18 news
@[go_sem] def E18:=qj d18
def F18:=fnC d18 follows func18
def d200:=cut prog f200 news
@[go_sem] def E200:=qj d200
def F200:=fnC d200 follows func200
def d26:=cut prog f26 news
@[go_sem] def E26:=qj d26
def d35:=cut prog f35 news
@[go_sem] def E35:=qj d35
def F35:=fnC d35 follows func35
def qh6 (s r label:Int):Pk:=⟨3,s,0,r,0,0,label,[],[]⟩
def qk2 (s label:Int) (d:List Bool) (r:Nat):List Pk:=if d.getD r true then []else [qh6 s r label]
def qnq (s label:Int) (d:List Bool) (n:Nat):List Pk:=(List.range n).flatMap (qk2 s label d)
def zs (x:Ue):List Bool:=if x.phase !=1 then x.opened else x.moved
def qak (x:Ue):Int:=if x.phase !=1 then 2 else 1
def qsf (x:Ue):List Pk:=qnq x.sess (qak x) (zs x) (zs x).length
def yi (m:Mg) (n:Nat):List Pk:=(List.range n).flatMap λi=>qsf (m.ents.getD i default)
def xn (m:Mg):List Pk:=if jc m then yi m m.ents.length else []
theorem q22 (m:Mg):yi m 0= []:=rfl
theorem xhv (s label:Int) (d:List Bool):qnq s label d 0= []:=rfl
theorem qex (s label:Int) (d:List Bool) (n:Nat):qnq s label d (n+1)=qnq s label d n++qk2 s label d n:=by simp[qnq,List.range_succ]
theorem qen (m:Mg) (n:Nat):yi m (n+1)=yi m n++qsf (m.ents.getD n default):=by simp[yi,List.range_succ]
theorem qiw (s label:Int) (d:List Bool): ∀n,(qnq s label d n).length<=n
 |0=>by simp[qnq]
 |n+1=>by
  rw[qex,jAc];have:=qiw s label d n;have:(qk2 s label d n).length<=1:=by unfold qk2;split<;>simp
  omega
theorem qsg (x:Ue) (d:x.Sm):(zs x).length<=1000:=by unfold zs;split;exact d.2;exact d.1
theorem xhw (x:Ue) (hx:x.Sm):(qsf x).length<=1000:=jBn (qiw _ _ _ _) (qsg x hx)
theorem qf3 (m:Mg) (d:m.Sm): ∀n,n<=m.ents.length->(yi m n).length<=n*1000
 |0,_=>by simp[yi]
 |n+1,h=>by
  have e:n<m.ents.length:=h;rw[qen,jAc,zp e];have:=qf3 m d n (by omega);have:=xhw _ (d.2 _ (jAg e));omega
def qh7 (x:Ue):AObj:= .row [.d (.int .i64 x.sess),.d (.int .i64 x.phase),.d (.sl 1 (x.moved.map encB)),.d (.sl 1 (x.opened.map encB))]
def xhx (m:Mg) (i:{i:Nat//i<=m.ents.length}):St:=
 ⟨[(2,true,.d .nilsl),(3,true,.own 0 9 ((yi m i.val).map qi)),(14,true,.d (.sl 4 (m.ents.map qu))),(15,true,.d (.int .i64 m.ents.length)),(16,true,.d (.int .i64 (i.val:Nat)))],[zm m],[0],1⟩
def quh (m:Mg) (i:Nat) (x:Ue) (r:{r:Nat//r<=(zs x).length}):St:=
 ⟨[(2,true,.d .nilsl),(3,true,.own 0 9 ((yi m i++qnq x.sess (qak x) (zs x) r.val).map qi)),(5,true,.d (.ptr 1 0)),(7,true,.d (.int .i64 (qak x))),(14,true,.d (.sl 4 (m.ents.map qu))),(15,true,.d (.int .i64 m.ents.length)),(16,true,.d (.int .i64 (i:Nat))),
  (27,true,.d (.sl 1 ((zs x).map encB))),(28,true,.d (.int .i64 (zs x).length)),(29,true,.d (.int .i64 (r.val:Nat)))],[zm m,qh7 x],[0],1⟩
theorem xr5 (m:Mg) (p:m.Sm) (i:Nat) (hi:i<m.ents.length) (x:Ue) (hx:x.Sm) (Q:SExit->St->Prop) (st:St) (h0:Weak 0 st (quh m i x ⟨0,jAj _⟩))
  (hQ: ∀b,Q .normal ⟨(30,true,.d (.bool b))::(quh m i x ⟨(zs x).length,jAi _⟩).fr,[zm m,qh7 x],[0],2⟩):AWp prog 0 (.block 2 (.loop (.seq (.region (d18.reg 11) 0 []) (.seq (.cond (.t 30) .skip (.exit 2)) (.seq (.block 3 (.seq (.region (d18.reg 12) 0 []) (.seq (.region (d18.reg 13) 0 []) (.cond (.t 35) (.region (d18.reg 14) 0 []) .skip)))) (.region (d18.reg 15) 0 [])))))) Q st:=by
 have hml:=qsg x hx;have hol:=qf3 m p i (by omega);have hl:=p.1;refine ez ?_;refine qg (quh m i x) (λr=>(zs x).length-r.val) ⟨0,jAj _⟩ h0 (λr=> ?_);obtain⟨r,hr⟩:=r;refine eo3 @quh.eq_1 @zm.eq_1 @qh7.eq_1 ?_;refine xf _ (λh=> ?_) (λh=> ?_)
 ·have e:r<(zs x).length:=by simpa using h
  refine eo2 (qh encB (zs x) e) @encB.eq_1 ?_;refine xf _ (λo=> ?_) (λo=> ?_)
  ·have l:(zs x)[r]=false:=by simpa using o
   have ha:qk2 x.sess (qak x) (zs x) r= [qh6 x.sess r (qak x)]:=by simp[qk2,e,l]
   have hlt:=qiw x.sess (qak x) (zs x) r;refine eo ?_;refine⟨⟨r+1,e⟩,?_,by dsimp only;omega⟩;simp only[quh,zm,qh7,qex,ha,<- jAh,jA2,List.map_cons,List.map_nil,qh6,qi,qe (show r<9223372036854775807 by omega),go_sem,simprocAttr]
  ·have l:(zs x)[r]=true:=by simpa using o
   have ha:qk2 x.sess (qak x) (zs x) r= []:=by simp[qk2,e,l]
   refine ez ?_;refine⟨⟨r+1,e⟩,?_,by dsimp only;omega⟩;exact et7 @quh.eq_1 @zm.eq_1 @qh7.eq_1 @qex @ha @jAu.{0} (qe (show r<9223372036854775807 by omega))
 ·have e:r=(zs x).length:=by
   have:(zs x).length<=r:=by simpa using h
   omega
  subst e;refine ez ?_;exact hQ _
theorem qfi (m:Mg) (o:m.Sm):qf prog 18 [.d (.agg (xt m))] [] (.d (.sl 9 ((xn m).map qi))) []:=by
 have hl:=o.1;refine F18.go ?_;refine eo1 @xt.eq_1 ?_;refine cl F69 (qdd m o) ?_;refine ez ?_;refine xf _ (λl=> ?_) (λl=> ?_)
 ·have hu:xn m= []:=by simp at l;simp[xn,l]
  exact et2 @hu @List.map_nil.{0,0}
 have hu:xn m=yi m m.ents.length:=by simp at l;simp[xn,l]
 rw[hu];refine ez ?_;refine qg (xhx m) (λi=>m.ents.length-i.val) ⟨0,jAj _⟩ ?_ (λi=> ?_)
 ·exact et4 @xhx.eq_1 @zm.eq_1 @q22 @List.map_nil.{0,0}
 obtain⟨i,hi⟩:=i;refine eo2 @xhx.eq_1 @zm.eq_1 ?_;refine xf _ (λh=> ?_) (λh=> ?_)
 ·have e:i<m.ents.length:=by simpa using h
  have q:=o.2 _ (jAg e);refine eo2 (qh qu m.ents e) @qu.eq_1 ?_;refine xf _ (λp=> ?_) (λp=> ?_)
  ·have e1:zs m.ents[i]=m.ents[i].opened:=by simp only[zs,p,if_true]
   have e2:qak m.ents[i]=2:=by simp only[qak,p,if_true]
   refine ez ?_;refine xr5 m o i e m.ents[i] q _ _ ?_ (λb=> ?_)
   ·exact et7 @quh.eq_1 @zm.eq_1 @qh7.eq_1 @e1 @e2 @xhv @jAu.{0}
   ·refine ez3 @quh.eq_1 @zm.eq_1 @qh7.eq_1 ?_;refine⟨⟨i+1,e⟩,?_,by dsimp only;omega⟩;exact et6 @xhx.eq_1 @zm.eq_1 @qen (zp e) @qsf.eq_1 (qe (show i<9223372036854775807 by omega))
  ·have e1:zs m.ents[i]=m.ents[i].moved:=by simp only[zs,p];rfl
   have e2:qak m.ents[i]=1:=by simp only[qak,p];rfl
   refine ez ?_;refine xr5 m o i e m.ents[i] q _ _ ?_ (λb=> ?_)
   ·exact et7 @quh.eq_1 @zm.eq_1 @qh7.eq_1 @e1 @e2 @xhv @jAu.{0}
   ·refine ez3 @quh.eq_1 @zm.eq_1 @qh7.eq_1 ?_;refine⟨⟨i+1,e⟩,?_,by dsimp only;omega⟩;exact et6 @xhx.eq_1 @zm.eq_1 @qen (zp e) @qsf.eq_1 (qe (show i<9223372036854775807 by omega))
 ·have e:i=m.ents.length:=by
   have:m.ents.length<=i:=by simpa using h
   omega
  subst e;exact et
def q23 (m:Mg) (i:{i:Nat//i<=m.ents.length}):St:=
 ⟨[(1,true,.d (.ptr 0 0)),(2,true,.d (.ptr 1 0)),(3,true,.d (.ptr 2 0)),(4,true,.d (.int .i64 (i.val:Nat)))],
  [zm m,.row [.d (.int .i64 0),.d .nilsl],.row [.d (.int .i64 m.roles),.own 0 4 ((m.ents.take i.val).map qu)]],[0],1⟩
theorem xhy (m:Mg) (hm:m.ents.length<=1000):qf prog 35 [.d (.agg (xt m))] [] (.d (.agg (xt m))) []:=by
 refine F35.go ?_;refine ez1 @xt.eq_1 ?_;refine qg (q23 m) (λi=>m.ents.length-i.val) ⟨0,jAj _⟩ ?_ (λi=> ?_)
 ·exact et2 @q23.eq_1 @zm.eq_1
 obtain⟨i,hi⟩:=i;refine eo2 @q23.eq_1 @zm.eq_1 ?_;refine xf _ (λh=> ?_) (λh=> ?_)
 ·have e:i<m.ents.length:=by simpa using h
  refine eo2 (qh qu m.ents e) @qu.eq_1 ?_;have hlt:(m.ents.take i).length<=1000:=by simp;omega
  refine eo ?_;refine⟨⟨i+1,e⟩,?_,by dsimp only;omega⟩;exact et5 @q23.eq_1 @zm.eq_1 (ye qu m.ents e) @qu.eq_1 (qe (show i<9223372036854775807 by omega))
 ·have e:i=m.ents.length:=by
   have:m.ents.length<=i:=by simpa using h
   omega
  subst e;exact et1 @jAr.{0}
theorem qhl: ∀a b:List UInt8,Op.bytesLess a b=decide (cmpB a b<0)
 | [],[]=>rfl
 | [],_::_=>rfl
 | _::_,[]=>rfl
 |a::l,b::m=>by
  have h:=qhl l m;simp only[cmpB]at h;simp only[Op.bytesLess,cmpB,Lib.compareBytes,h];by_cases d:a<b
  ·simp[d]
  ·by_cases e:b<a
   ·have: ¬a=b:=by rintro rfl;exact d e
    simp[d,e,this]
   ·have:a=b:=by
     apply UInt8.toNat_inj.1;rw[UInt8.lt_iff_toNat_lt]at d e;omega
    simp[d,e,this]
def Sorted (l:List En):Prop:=l.Pairwise λa b=>cmpB a.1 b.1<0
theorem Sorted.keys {l:List En} (h:Sorted l):(l.map (·.1)).Nodup:=by
 unfold List.Nodup;rw[jCu];exact h.imp λ{a b} d e=>by rw[e,ql9]at d;omega
theorem Sorted.le {l:List En} (h:Sorted l):l.Pairwise λa b=>cmpB a.1 b.1<=0:=h.imp λd=>jFb d
theorem qjr {l m:List En} (d:Sorted l) (e:Sorted m) (h: ∀x,x∈l↔x∈m):l=m:=
 qjo ((List.perm_ext_iff_of_nodup (qba _ d.keys) (qba _ e.keys)).2 h) d.keys d.le e.le
theorem xhz {l:List En} (h:l.Pairwise λa b=>cmpB a.1 b.1<=0) (hn:(l.map (·.1)).Nodup):Sorted l:=by
 unfold List.Nodup at hn;rw[jCu]at hn;refine(h.and hn).imp λ{a b} d=> ?_;obtain⟨h1,h2⟩:=d;rcases Int.lt_or_eq_of_le h1 with e|e
 ·exact e
 ·exact(h2 (qma e)).elim
theorem qix {m:Cont} (h:m.Ok) (p:List UInt8):Sorted (qau m p):=by
 refine xhz (qem _) ?_;exact((vd (preL p m.l)).map (λx:En=>x.1)).nodup_iff.2 (q2o h.key)
theorem xaa: ∀{l:List KV},(l.map (·.2.1)).Nodup-> ∀{x:KV},x∈l->l.find? (jd x.2.1)=some x
 | [],_,x,hx=>by cases hx
 |a::l,hn,x,hx=>by
  rw[jB7];simp only[List.map_cons,jCe]at hn;rcases jAv.1 hx with rfl|d
  ·rw[qcf.2 rfl]
  ·have:jd x.2.1 a=false:=by
    cases h:jd x.2.1 a with
    |false=>rfl
    |true=>exact(hn.1 (jAo.2 ⟨x,d,qcf.1 h⟩)).elim
   rw[this];exact xaa hn.2 d
theorem qsh {m:Cont} (h:m.Ok) (p:List UInt8) (x:En):x∈qau m p↔mGet x.1 m=some x.2∧pre p x.1=true:=by
 rw[qau,(vd _).mem_iff,preL,jAo];constructor
 ·rintro⟨y,e,rfl⟩;obtain⟨d,i⟩:=jBs.1 e;refine⟨?_,i⟩;unfold mGet enOf;rw[xaa h.key d];rfl
 ·rintro⟨d,i⟩;unfold mGet at d;rw[jAb]at d;obtain⟨y,e,he⟩:=d;have l:=qcf.1 (jD1 e);refine⟨y,jBs.2 ⟨jBz e,by rw[<- l];exact i⟩,?_⟩;unfold enOf;rw[<- l,he]
theorem xh0 (k:List UInt8):pre [] k=true:=by simp[pre]
def eSet (x:En):List En->List En
 | []=> [x]
 |y::l=>if Op.bytesLess y.1 x.1=true then y::eSet x l else if y.1=x.1 then x::l else x::y::l
def eDel (k:List UInt8) (l:List En):List En:=l.filter λe=> !(e.1==k)
def eOp (l:List En) (o:OpS):List En:=if o.del then eDel o.key l else eSet (o.key,o.val) l
def yj:List En->List OpS->List En×Bool
 |l,[]=>(l,true)
 |l,o::r=>if(eOp l o).length>400 then([],false)else yj (eOp l o) r
theorem qyx {x:En}: ∀{l:List En},Sorted l-> ∀y,y∈eSet x l↔y=x∨(y∈l∧y.1≠x.1)
 | [],_,y=>by simp[eSet]
 |a::l,h,y=>by
  have h':=jB1.1 h;rw[eSet];split
  ·rename_i i;rw[qhl,decide_eq_true_eq]at i;have p:a.1≠x.1:=λe=>by rw[e,ql9]at i;omega
   rw[jAv,qyx h'.2,jAv];constructor
   ·rintro(rfl|d|⟨d,m⟩)
    ·exact .inr ⟨.inl rfl,p⟩
    ·exact .inl d
    ·exact .inr ⟨.inr d,m⟩
   ·rintro(d|⟨rfl|d,m⟩)
    ·exact .inr (.inl d)
    ·exact .inl rfl
    ·exact .inr (.inr ⟨d,m⟩)
  ·rename_i i;rw[qhl,decide_eq_true_eq]at i;have hge:cmpB x.1 a.1<=0:=qew.1 i;have o: ∀z∈l,z.1≠x.1:=λz hz e=>by
    have d:=h'.1 z hz;rw[e]at d;have:=qis a.1 x.1;omega
   split
   ·rename_i q;simp only[jAv];constructor
    ·rintro(d|d)
     ·exact .inl d
     ·exact .inr ⟨.inr d,o y d⟩
    ·rintro(d|⟨rfl|d,m⟩)
     ·exact .inl d
     ·exact(m q).elim
     ·exact .inr d
   ·rename_i q;simp only[jAv];constructor
    ·rintro(d|rfl|d)
     ·exact .inl d
     ·exact .inr ⟨.inl rfl,q⟩
     ·exact .inr ⟨.inr d,o y d⟩
    ·rintro(d|⟨d|d,m⟩)
     ·exact .inl d
     ·exact .inr (.inl d)
     ·exact .inr (.inr d)
theorem qsi {x:En}: ∀{l:List En},Sorted l->Sorted (eSet x l)
 | [],_=>List.pairwise_singleton _ _
 |a::l,h=>by
  have h':=jB1.1 h;rw[eSet];split
  ·rename_i d;rw[qhl,decide_eq_true_eq]at d;refine jB1.2 ⟨λy e=> ?_,qsi h'.2⟩;rcases(qyx h'.2 y).1 e with rfl|⟨m,_⟩
   ·exact d
   ·exact h'.1 y m
  ·rename_i d;rw[qhl,decide_eq_true_eq]at d;have i:cmpB x.1 a.1<=0:=qew.1 d;split
   ·rename_i o;exact jB1.2 ⟨λy e=>by rw[<- o];exact h'.1 y e,h'.2⟩
   ·rename_i o;have p:cmpB x.1 a.1<0:=by
     rcases Int.lt_or_eq_of_le i with m|m
     ·exact m
     ·exact(o (qma m).symm).elim
    refine jB1.2 ⟨λy e=> ?_,h⟩;rcases jAv.1 e with rfl|e
    ·exact p
    ·exact(qgr i (jFb (h'.1 y e))).2 (.inl p)
theorem q7l {k:List UInt8} {l:List En} (h:Sorted l):Sorted (eDel k l):=List.Pairwise.filter _ h
def xu (m:Cont):List En:=qau m []
theorem qbn {m:Cont} (h:m.Ok):Sorted (xu m):=qix h []
theorem qhm {m:Cont} (h:m.Ok) (x:En):x∈xu m↔mGet x.1 m=some x.2:=by
 rw[xu,qsh h,xh0];simp
theorem qf4 {m:Cont}:(xu m).length=m.l.length:=by
 have h1:preL [] m.l=m.l.map enOf:=by
  unfold preL;congr 1;exact List.filter_eq_self.2 λx _=>xh0 _
 rw[xu,qau,(vd _).length_eq,h1,jAm]
theorem xoq {m:Cont} (h:m.Ok) (k v:List UInt8):xu (mPut k v m)=eSet (k,v) (xu m):=by
 have hs:=qbn h;refine qjr (qbn (qr8 h k v)) (qsi hs) λx=> ?_;rw[qhm (qr8 h k v),qyx hs,qhm h,q9y];obtain⟨a,b⟩:=x;simp only[jCw];by_cases d:a=k
 ·subst d;simp[eq_comm]
 ·simp[d]
theorem xos {m:Cont} (h:m.Ok) (k:List UInt8):xu (mDel k m)=eDel k (xu m):=by
 have hs:=qbn h;refine qjr (qbn (qr9 h k)) (q7l hs) λx=> ?_;rw[qhm (qr9 h k),eDel,jBs,qhm h,q9z h];by_cases hk:x.1=k<;>simp[hk]
theorem qgu: ∀(l:List OpS) {m:Cont},m.Ok->m.l.length<=400->(jw m l).2=(yj (xu m) l).2∧((jw m l).2=true->xu (jw m l).1=(yj (xu m) l).1∧(jw m l).1.Ok∧(jw m l).1.l.length<=400)
 | [],m,h,hl=>⟨rfl,λ_=>⟨rfl,h,hl⟩⟩
 |o::l,m,h,hl=>by
  rw[jw,yj,eOp];by_cases d:o.del=true
  ·have hle:=qyn o.key m;rw[if_pos d,if_pos d,<- xos h,qf4,if_neg (by omega)];exact qgu l (qr9 h _) (by omega)
  ·rw[if_neg d,if_neg d,<- xoq h,qf4];by_cases i:(mPut o.key o.val m).l.length>400
   ·rw[if_pos i,if_pos i];exact⟨rfl,λe=>by cases e⟩
   ·rw[if_neg i,if_neg i];exact qgu l (qr8 h _ _) (by omega)
def eGet (k:List UInt8) (l:List En):Option (List UInt8):=(l.find? λe=>e.1==k).map (·.2)
theorem qyy {m:Cont} (h:m.Ok) (k:List UInt8):eGet k (xu m)=mGet k m:=by
 unfold eGet;cases hf:(xu m).find? (λe=>e.1==k)with
 |none=>
  cases hg:mGet k m with
  |none=>rfl
  |some v=>
   have:=(qhm h (k,v)).2 hg;have:=jCj.1 hf _ this;simp at this
 |some x=>
  have h1:=(qhm h x).1 (jBz hf);have h2:x.1=k:=by simpa using jD1 hf
  rw[<- h2,h1];rfl
def qpq (p:List UInt8) (l:List En):List En:=l.filter λe=>pre p e.1
theorem xh1 {m:Cont} (h:m.Ok) (p:List UInt8):qau m p=qpq p (xu m):=by
 refine qjr (qix h p) (List.Pairwise.filter _ (qbn h)) λx=> ?_;rw[qsh h,qpq,jBs,qhm h]
def d150:=cut prog f150 news
@[go_sem] def E150:=qj d150
def F150:=fnC d150 follows func150
def d165:=cut prog f165 news
@[go_sem] def E165:=qj d165
def F165:=fnC d165 follows func165
def d163:=cut prog f163 news
@[go_sem] def E163:=qj d163
def F163:=fnC d163 follows func163
def d164:=cut prog f164 news
@[go_sem] def E164:=qj d164
def F164:=fnC d164 follows func164
def d162:=cut prog f162 news
@[go_sem] def E162:=qj d162
def F162:=fnC d162 follows func162
def d89:=cut prog f89 news
@[go_sem] def E89:=qj d89
def F89:=fnC d89 follows func89
def qiy (n:Int) (i:{x:List UInt8×Nat//x.1++qeg x.2=wInt n∧x.2<18446744073709551616}):St:=
 ⟨[(3,true,.d (.int .u64 (i.val.2:Nat))),(4,true,.own 0 1 (qd i.val.1))],[],[0],1⟩
theorem y5 (n:Int) (hn:I64 n):qf prog 150 [.d (.int .i64 n)] [] (.own 0 1 (qd (wInt n))) []:=by
 have A:=xnq hn;obtain⟨v,t⟩:=hn;have hrest: ∀Q:SExit->St->Prop,True:=λ_=>trivial;refine F150.go ?_;refine ez ?_;have q: ∀u:Nat,u<18446744073709551616->IntKind.u8.wrap (IntKind.u8.wrap ((u:Int).tmod 128)+128)=((UInt8.ofNat (u%128+128)).toNat:Int):=by
  intro u m;rw[jBf (by omega),qip,qip,show((u:Int)%128%256+128)%256=((u%128+128:Nat):Int) by omega];simp[UInt8.toNat_ofNat];omega
 have o: ∀u:Nat,u<18446744073709551616->IntKind.u64.wrap ((u:Int).tdiv 128)=((u/128:Nat):Int):=by
  intro u m;rw[jB8 (by omega),show((u:Int)/128)=((u/128:Nat):Int) by omega,f2 _ (by omega)]
 refine xf _ (λh=> ?_) (λh=> ?_)
 ·have e:IntKind.u64.wrap (IntKind.u64.wrap (IntKind.u64.wrap (IntKind.i64.wrap (0-IntKind.i64.wrap (n+1)))*2)+1)=((zz n:Nat):Int):=by
   simp at h;rw[xo (n:=n+1) (by unfold I64;omega),xo (by unfold I64;omega)];simp only[qku];unfold zz;rw[if_neg (by omega)];omega
  refine ez1 @e ?_;refine qg (qiy n) (λi=>i.val.2) ⟨([],zz n),by simp[wInt],A⟩ ?_ (λi=> ?_)
  ·exact et2 @qiy.eq_1 @qk
  obtain⟨⟨p,u⟩,hi,m⟩:=i;simp only at hi m;have hl:p.length<=10:=by
   have z:=congrArg List.length hi;have h2:=xg (n:=n) ⟨v,t⟩;simp at z;omega
  refine ez1 @qiy.eq_1 ?_;refine xf _ (λhc=> ?_) (λhc=> ?_)
  ·have l: ¬u<128:=by simp at hc;omega
   refine eo4 (q u m) (o u m) @qce @qx ?_;refine⟨⟨(p++ [UInt8.ofNat (u%128+128)],u/128),?_,by omega⟩,?_,by simp only;omega⟩
   ·simp only at hi⊢;rw[qfb l]at hi;rw[<- hi];simp
   ·exact et1 @qiy.eq_1
  ·have l:u<128:=by simp at hc;omega
   refine eo3 @qx5 @qce @qx ?_;simp only[qdc l]at hi;exact et1 @hi
 ·have e:IntKind.u64.wrap (IntKind.u64.wrap n*2)=((zz n:Nat):Int):=by
   simp at h;simp only[qku];unfold zz;rw[if_pos (by omega)];omega
  refine ez1 @e ?_;refine qg (qiy n) (λi=>i.val.2) ⟨([],zz n),by simp[wInt],A⟩ ?_ (λi=> ?_)
  ·exact et2 @qiy.eq_1 @qk
  obtain⟨⟨p,u⟩,hi,m⟩:=i;simp only at hi m;have hl:p.length<=10:=by
   have z:=congrArg List.length hi;have h2:=xg (n:=n) ⟨v,t⟩;simp at z;omega
  refine ez1 @qiy.eq_1 ?_;refine xf _ (λhc=> ?_) (λhc=> ?_)
  ·have l: ¬u<128:=by simp at hc;omega
   refine eo4 (q u m) (o u m) @qce @qx ?_;refine⟨⟨(p++ [UInt8.ofNat (u%128+128)],u/128),?_,by omega⟩,?_,by simp only;omega⟩
   ·simp only at hi⊢;rw[qfb l]at hi;rw[<- hi];simp
   ·exact et1 @qiy.eq_1
  ·have l:u<128:=by simp at hc;omega
   refine eo3 @qx5 @qce @qx ?_;simp only[qdc l]at hi;exact et1 @hi
theorem qsj (s:List UInt8) (hs:s.length<=100000000):qf prog 165 [.d (.sl 1 (qd s))] [] (.own 0 1 (qd (qbm s))) []:=by
 have hw:=xg (x7 (n:=s.length) (by omega));refine F165.go ?_;refine ez ?_;refine clA F150 (y5 s.length (x7 (by omega))) ?_;refine ez2 @qx @qbm.eq_1 ?_;omega
theorem qvu (s:List UInt8) (hs:s.length<=100000000):qf prog 163 [.d (.str s)] [] (.own 0 1 (qd (qbm s))) []:=by
 refine F163.go ?_;refine ez ?_;refine clA F165 (qsj s hs) ?_;exact et
theorem xc9 (v:Bool):qf prog 164 [.d (.bool v)] [] (.full 1 (qd [if v then 1 else 0])) []:=by
 refine F164.go ?_;refine ez ?_;have e1: [[D.int .u8 1]]=qd [1]:=rfl;have e0: [[D.int .u8 0]]=qd [0]:=rfl;cases v with
 |true=>
  (repeat(with_reducible refine ob ?_));refine ya ?_
  exact et1 @e1
 |false=>
  (repeat(with_reducible refine ob ?_));refine no_ ?_
  exact et1 @e0
def q7m (o:OpS):Bool:=decide ((o.key.length:Int)≥1)&&decide ((o.key.length:Int)<=40)&&decide ((o.val.length:Int)<=900)&&(!o.del||(o.val.length:Int)==0)
theorem xda (o:OpS):q7m o=k9 o:=by
 unfold q7m k9;congr 1;cases o.del
 ·rfl
 ·rw[jBl];simp
theorem xdb (o:OpS):qf prog 162 [.d (.agg (xp o))] [] (.d (.bool (k9 o))) []:=by
 rw[<- xda];refine F162.go ?_;refine ez2 @xp.eq_1 @q7m.eq_1 ?_;intro h;exact⟨h,λh2=>by rw[h];simpa using h2⟩
def xot (l:List OpS) (i:{i:Nat//i<=l.length∧ ∀o∈l.take i,k9 o=true}):St:=
 ⟨[(0,true,.d (.sl 3 (l.map xp))),(4,true,.own 0 1 (qd (wInt l.length++(l.take i.val).flatMap wOp))),(5,true,.d (.int .i64 (i.val:Nat)))],[],[0],1⟩
theorem qo0 (l:List OpS) (hl:l.length<=100000):qf prog 89 [.d (.sl 3 (l.map xp))] [] (.tup [.d (.sl 1 (qd (qs l).1)),.d (.int .i64 (qs l).2)]) []:=by
 refine F89.goT ?_;refine eo ?_;refine xf _ (λh=> ?_) (λh=> ?_)
 ·have hb:qs l=([],1):=by
   unfold qs;rw[if_pos];simp at h⊢;exact .inl h
  exact et2 @hb @qk
 have hw:=xg (x7 (n:=l.length) (by omega));refine ez ?_;refine clA F150 (y5 l.length (x7 (by omega))) ?_;refine ez ?_;refine qg (xot l) (λi=>l.length-i.val) ⟨0,jAj _,by simp⟩ ?_ (λi=> ?_)
 ·exact et4 @xot.eq_1 @List.take_zero.{0} @List.flatMap_nil.{0,0} @jAu.{0}
 obtain⟨i,hi,hp⟩:=i;refine ez1 @xot.eq_1 ?_;refine xf _ (λhc=> ?_) (λhc=> ?_)
 ·have e:i<l.length:=by simpa using hc
  have u:=qjl hp;have hwt:(l.take i).length<=i:=by rw[jAl];omega
  refine eo2 (qh xp l e) @xp.eq_1 ?_;have q:=xdb l[i];simp only[xp]at q
  (repeat(with_reducible refine ob ?_));refine cl F162 (q) ?_
  refine ez ?_;refine xf _ (λhc=> ?_) (λhc=> ?_)
  ·have hb:qs l=([],1):=by
    unfold qs;rw[if_pos];simp only[jA0,jB3];exact .inr ⟨l[i],jAg e,hc⟩
   exact et2 @hb @qk
  have p:k9 l[i]=true:=by simpa using hc
  obtain⟨q1,q2,q3,_⟩:=vr.1 p;refine eo2 (qh xp l e) @xp.eq_1 ?_;have hw2:=q6x p;have hk:=qds l[i].key (by omega);have hv:=qds l[i].val (by omega);refine clA F163 (qvu l[i].key (by omega)) ?_;refine eo1 @qx ?_;refine eo2 (qh xp l e) @xp.eq_1 ?_
  (repeat(with_reducible refine ob ?_));refine cl F164 (xc9 l[i].del) ?_
  refine eo1 @qx ?_;refine eo2 (qh xp l e) @xp.eq_1 ?_;refine clA F165 (qsj l[i].val (by omega)) ?_;refine eo1 @qx ?_;have h1:wInt l.length++(l.take (i+1)).flatMap wOp=wInt l.length++List.flatMap wOp (List.take i l)++qbm l[i].key++ [if l[i].del=true then 1 else 0]++qbm l[i].val:=by
   rw[qcu wOp l e];simp[wOp]
  refine⟨⟨i+1,e,λo m=> ?_⟩,?_,by dsimp only;omega⟩
  ·rw[jAk e]at m;rcases jAs.1 m with m|m
   ·exact hp o m
   ·simp at m;subst m;exact p
  exact et3 @xot.eq_1 @h1 (qe (show i<9223372036854775807 by omega))
 ·have e:i=l.length:=by simp at hc;omega
  subst e;rw[jAr]at hp;have u:=qjl hp;have t: ¬(decide (l.length=0)||l.any (λo=> !k9 o))=true:=by
   simp only[jA0,decide_eq_true_eq,not_or,jB3,not_exists,not_and];exact⟨by simp at h;simpa using h,λo m=>by simp[hp o m]⟩
  have hx:wInt l.length++l.flatMap wOp=wOps l:=rfl;refine ez2 @jAr.{0} @hx ?_;refine⟨λh=>by rw[h];rfl,?_⟩;refine xf _ (λhc=> ?_) (λhc=> ?_)
  ·have hb:qs l=([],6):=by
    unfold qs;rw[if_neg t,if_pos];simp only[jA0,decide_eq_true_eq]at hc⊢;omega
   exact et2 @hb @qk
  ·have hb:qs l=(wOps l,0):=by
    unfold qs;rw[if_neg t,if_neg];simp only[jA0,jA4,decide_eq_true_eq,decide_eq_false_iff_not]at hc⊢;omega
   exact et1 @hb
structure Rd where
 b:List UInt8
 pos:Nat
 failed:Bool
 deriving DecidableEq,Inhabited
def rdO (r:Rd):AObj:= .row [.d (.sl 1 (qd r.b)),.d (.int .i64 (r.pos:Nat)),.d (.bool r.failed)]
structure Rd.Ok (r:Rd):Prop where
 len:r.b.length<=1000000000
 pos:r.pos<=r.b.length
def yt (n:Nat) (r:Rd):List UInt8×Rd:=if r.failed||decide (r.b.length-r.pos<n)then([],{r with failed:=true})else((r.b.drop r.pos).take n,{r with pos:=r.pos+n})
def d177:=cut prog f177 news
@[go_sem] def E177:=qj d177
def F177:=fnC d177 follows func177
def d288:=cut prog f288 news
@[go_sem] def E288:=qj d288
def F288:=fnC d288 follows func288
def d247:=cut prog f247 news
@[go_sem] def E247:=qj d247
def F247:=fnC d247 follows func247
def d180:=cut prog f180 news
@[go_sem] def E180:=qj d180
def F180:=fnC d180 follows func180
theorem qp3 (b:List UInt8) (hb:b.length<=1000000000):qf prog 177 [.d (.sl 1 (qd b))] [] (.d (.ptr 0 0)) [rdO ⟨b,0,false⟩]:=by
 refine F177.go ?_;refine eo ?_;exact et2 @rdO.eq_1 @jAt
theorem qyz (r:Rd) (n:Nat) (e:r.Ok) (hn:n<=1000000000):qf prog 288 [.d (.ptr 0 0),.d (.int .i64 n)] [rdO r] (.d (.sl 1 (qd (yt n r).1))) [rdO (yt n r).2]:=by
 have h1:=e.len;have h2:=e.pos;have e1:IntKind.i64.wrap ((r.b.length:Int) -(r.pos:Int))=((r.b.length-r.pos:Nat):Int):=by rw[xo (by unfold I64;omega)];omega
 have e2:IntKind.i64.wrap ((r.pos:Int)+(n:Int))=((r.pos+n:Nat):Int):=by rw[xo (by unfold I64;omega)];omega
 have e3:IntKind.i64.wrap ((r.pos:Int)+(n:Int) -(n:Int))=((r.pos:Nat):Int):=by rw[xo (by unfold I64;omega)];omega
 have e5:((r.pos:Int)+(n:Int)).toNat=r.pos+n:=by omega
 refine F288.go ?_;refine ez2 @rdO.eq_1 @e1 ?_;refine⟨λh=>by rw[h];rfl,?_⟩;have i:(r.failed||decide ((n:Int)>((r.b.length-r.pos:Nat):Int)))=(r.failed||decide (r.b.length-r.pos<n)):=by
  congr 1;exact decide_eq_decide.2 (by omega)
 refine xf _ (λh=> ?_) (λh=> ?_)
 ·rw[i]at h;have hx:yt n r=([],{r with failed:=true}):=by unfold yt;rw[if_pos h]
  exact et2 @hx @qk
 ·rw[i]at h;have hx:yt n r=((r.b.drop r.pos).take n,{r with pos:=r.pos+n}):=by unfold yt;rw[if_neg (by rw[h];simp)]
  simp only[jA4,decide_eq_false_iff_not]at h;have e4:r.pos+n-r.pos=n:=by omega
  refine ez2 @hx @e2 ?_;refine eo1 @e3 ?_;exact et6 @ze @xq @e4 @e3 @e5 @jA6
theorem qiz {r:Rd} (d:r.Ok) (n:Nat):(yt n r).2.Ok∧(yt n r).2.b=r.b:=by
 unfold yt;split
 ·exact⟨⟨d.len,d.pos⟩,rfl⟩
 ·rename_i h;simp only[jA0,decide_eq_true_eq,not_or]at h;have:=d.pos;exact⟨⟨d.len,by simp only;omega⟩,rfl⟩
theorem xou (r:Rd) (e:r.Ok):qf prog 247 [.d (.ptr 0 0)] [rdO r] (.d (.int .i64 (r.b.length-r.pos:Nat))) [rdO r]:=by
 have h1:=e.len;have h2:=e.pos;have e1:IntKind.i64.wrap ((r.b.length:Int) -(r.pos:Int))=((r.b.length-r.pos:Nat):Int):=by rw[xo (by unfold I64;omega)];omega
 refine F247.go ?_;refine eo1 @rdO.eq_1 ?_;refine no_ ?_;exact et1 @e1
def rEnd (r:Rd):Int:=if r.failed||decide (r.pos<r.b.length)then 4 else 0
theorem q7n (r:Rd) (e:r.Ok):qf prog 180 [.d (.ptr 0 0)] [rdO r] (.d (.int .i64 (rEnd r))) [rdO r]:=by
 have h2:=e.pos;have i:=xou r e;simp only[rdO]at i;obtain⟨b,p,f⟩:=r;refine F180.go ?_;refine eo1 @rdO.eq_1 ?_;refine no_ ?_;cases f
 ·refine eo ?_;refine clO [0] F247 (i) ?_;refine ez ?_;refine xf _ (λh=> ?_) (λh=> ?_)
  ·have hx:rEnd ⟨b,p,false⟩=4:=by unfold rEnd;rw[if_pos];simp at h⊢;omega
   exact et1 @hx
  ·have hx:rEnd ⟨b,p,false⟩=0:=by unfold rEnd;rw[if_neg];simp at h⊢;omega
   exact et1 @hx
 ·refine ez ?_;refine qa9 (.int .i64 0) rfl ?_;refine eo1 @rEnd.eq_1 ?_;refine ya ?_;exact et
def unz (u:Nat):Int:=if u%2=0 then(u/2:Nat)else-((u/2:Nat):Int) -1
def qmi:Nat->Nat->Nat->Rd->Int×Rd
 |0,_,_,r=>(0,{r with failed:=true})
 |k+1,i,u,r=>
  if(yt 1 r).2.failed then(0,(yt 1 r).2)else
   if((yt 1 r).1.headD 0).toNat<128 then(unz ((u+((yt 1 r).1.headD 0).toNat%128*128^i)%18446744073709551616),{(yt 1 r).2 with failed:=(((yt 1 r).1.headD 0).toNat==0&&decide (0<i))||(decide (i=9)&&decide (((yt 1 r).1.headD 0).toNat>1))})
   else qmi k (i+1) ((u+((yt 1 r).1.headD 0).toNat%128*128^i)%18446744073709551616) (yt 1 r).2
def rInt (r:Rd):Int×Rd:=qmi 10 0 0 r
def d244:=cut prog f244 news
@[go_sem] def E244:=qj d244
def F244:=fnC d244 follows func244
theorem q24 {r:Rd} (h:(yt 1 r).2.failed=false): ∃c,(yt 1 r).1= [c]:=by
 unfold yt at h⊢;split at h
 ·cases h
 ·rename_i hn;rw[if_neg hn];simp only[jA0,decide_eq_true_eq,not_or]at hn;have:r.pos<r.b.length:=by omega
  exact⟨r.b[r.pos],by simp only;rw[jBm this];rfl⟩
theorem q7o (u d i:Nat) (hu:u<2^i):u|||d*2^i=u+d*2^i:=by
 have:=Nat.shiftLeft_add_eq_or_of_lt hu d;rw[Nat.shiftLeft_eq]at this;rw[Nat.or_comm,<- this,Nat.add_comm]
theorem xh2 (i:Nat):128^i=2^(7*i):=by rw[Nat.pow_mul]
theorem qsk (n a b:Nat) (ha:a<2^n) (hb:b<2^n):qw1 n (a:Int) (b:Int)=((a&&&b:Nat):Int):=by
 unfold qw1;rw[BitVec.ofInt_natCast,BitVec.ofInt_natCast,BitVec.toNat_and,BitVec.toNat_ofNat,BitVec.toNat_ofNat,jBy ha,jBy hb]
theorem xov {u c i:Nat} (hi:i<=9) (e:u<128^i) (hc:c<256):
  IntKind.u64.wrap (bvOr 64 (u:Int) (IntKind.u64.wrap (IntKind.u64.wrap (IntKind.u8.wrap (qw1 8 (c:Int) 127))*2^min (7*i) 64)))=(((u+c%128*128^i)%18446744073709551616:Nat):Int):=by
 have e1:qw1 8 (c:Int) 127=((c%128:Nat):Int):=by
  have:=qsk 8 c 127 (by omega) (by omega);rw[show c&&&127=c%128 from Nat.and_two_pow_sub_one_eq_mod c 7]at this;exact this
 have e2:min (7*i) 64=7*i:=by omega
 have l:c%128<128:=jC6 _ (by decide);rw[e1,e2,qip,show((c%128:Nat):Int)%256=((c%128:Nat):Int) by omega,f2 _ (by omega)];generalize c%128=d at l;have e3:((d:Nat):Int)*2^(7*i)=((d*2^(7*i):Nat):Int):=by simp
 rw[e3];have hp:128^i<=128^9:=jB4 (by decide) hi;have hp9:(128:Nat)^9=9223372036854775808:=by decide
 have e4:IntKind.u64.wrap ((d*2^(7*i):Nat):Int)=((d*2^(7*i)%18446744073709551616:Nat):Int):=by rw[qku];omega
 rw[e4,q9s _ _ (by omega) (jC6 _ (by decide)),xh2];rw[xh2]at e;rcases jB9 i 9 with h9|h9
 ·have h:128^i<=128^8:=jB4 (by decide) (by omega);have e8:(128:Nat)^8=72057594037927936:=by decide
  rw[xh2]at h;have hd:d*2^(7*i)<=127*72057594037927936:=jEs (by omega) (by omega);rw[jBy (by omega),q7o _ _ _ e,f2 _ (by omega),jBy (by omega)]
 ·have:i=9:=by omega
  subst this;have e9:(2:Nat)^(7*9)=9223372036854775808:=by decide
  rw[e9]at e⊢;have h1:d*9223372036854775808%18446744073709551616=d%2*2^63:=by
   have:(2:Nat)^63=9223372036854775808:=by decide
   rw[this];omega
  rw[h1,q7o u (d%2) 63 (by
   have:(2:Nat)^63=9223372036854775808:=by decide
   omega)]
  have:(2:Nat)^63=9223372036854775808:=by decide
  rw[this,f2 _ (by omega)];congr 1;omega
theorem xow {u:Nat} (h:u<18446744073709551616):
  IntKind.i64.wrap (q0m 64 (IntKind.i64.wrap ((u:Int).fdiv (2^min 1 64))) (IntKind.i64.wrap (0-IntKind.i64.wrap (IntKind.u64.wrap (qw1 64 (u:Int) 1)))))=unz u:=by
 have e1:(u:Int).fdiv (2^min 1 64)=((u/2:Nat):Int):=by
  show(u:Int).fdiv 2=_;rw[jDc _ (by decide)];omega
 have e2:qw1 64 (u:Int) 1=((u%2:Nat):Int):=by
  have:=qsk 64 u 1 (by omega) (by omega);rw[show u&&&1=u%2 from Nat.and_two_pow_sub_one_eq_mod u 1]at this;exact this
 rw[e1,e2,f2 _ (by omega),xo (n:=((u/2:Nat):Int)) (by unfold I64;omega),xo (n:=((u%2:Nat):Int)) (by unfold I64;omega),xo (n:=0-((u%2:Nat):Int)) (by unfold I64;omega)];unfold q0m unz;rcases jDb u with hp|hp
 ·rw[hp,if_pos rfl];have:BitVec.ofInt 64 (0-((0:Nat):Int))=0#64:=by decide
  rw[this,BitVec.xor_zero,BitVec.ofInt_natCast,BitVec.toNat_ofNat,jBy (by omega),xo (by unfold I64;omega)]
 ·rw[hp,if_neg (by decide)];have e3:BitVec.ofInt 64 (0-((1:Nat):Int))=BitVec.ofInt 64 18446744073709551615:=by decide
  rw[e3,qki _ (by omega)];simp only[IntKind.wrap,IntKind.bits,IntKind.signed];simp;omega
def xox (i u:Nat) (r:Rd):St:=⟨[(0,true,.d (.ptr 0 0)),(3,true,.d (.int .u64 (u:Nat))),(6,true,.d (.int .i64 (i:Nat)))],[rdO r],[],1⟩
theorem qy0 (r:Rd) (hr:r.Ok):qf prog 244 [.d (.ptr 0 0)] [rdO r] (.d (.int .i64 (rInt r).1)) [rdO (rInt r).2]:=by
 refine F244.go ?_;refine ez ?_;refine qg (λi:{x:Nat×Nat×Rd//x.1<=10∧x.2.1<18446744073709551616∧(x.1<=9->x.2.1<128^x.1)∧x.2.2.Ok∧qmi (10-x.1) x.1 x.2.1 x.2.2=rInt r}=>xox i.val.1 i.val.2.1 i.val.2.2) (λi=>10-i.val.1) ⟨(0,0,r),by simp,by simp,by simp,hr,rfl⟩ ?_ (λi=> ?_)
 ·exact et3 @xox.eq_1 @jAt @rdO.eq_1
 obtain⟨⟨i,u,rd⟩,hi,hu,o,q,e⟩:=i;simp only at hi hu o q e;refine eo2 @xox.eq_1 @rdO.eq_1 ?_;refine xf _ (λh=> ?_) (λh=> ?_)
 ·have t:i<10:=by simp at h;omega
  have hn:=qyz rd 1 q (by decide);obtain⟨z,hn2⟩:=qiz q 1;have hk:10-i=(10-(i+1))+1:=by omega
  rw[hk,qmi]at e;refine ez ?_;simp only[rdO]at hn
  (repeat(with_reducible refine ob ?_));refine clO [0] F288 (hn) ?_
  refine ez ?_;cases hf:(yt 1 rd).2.failed with
  |true=>
   rw[if_pos hf]at e
   (repeat(with_reducible refine ob ?_));refine ya ?_
   exact et2 e.symm @hf
  |false=>
   rw[if_neg (by rw[hf];simp)]at e;obtain⟨c,hc⟩:=q24 hf;rw[hc]at e⊢;simp only[jEo]at e
   (repeat(with_reducible refine ob ?_));refine no_ ?_
   have hcb:qd [c]= [[.int .u8 (c.toNat:Nat)]]:=rfl;have A:=qcv c;have v:i<=9:=by omega
   have p:(u+c.toNat%128*128^i)%18446744073709551616<18446744073709551616:=jC6 _ (by decide);have m:i<=8->(u+c.toNat%128*128^i)%18446744073709551616<128^(i+1):=λh8=>by
    have h1:=o (by omega);have B:c.toNat%128<128:=jC6 _ (by decide);have h3:c.toNat%128*128^i<=127*128^i:=jAz _ (by omega);have h4:=Nat.mod_le (u+c.toNat%128*128^i) 18446744073709551616;rw[jCi];omega
   have a1:IntKind.i64.wrap (7*(i:Int))=((7*i:Nat):Int):=by rw[xo (by unfold I64;omega)];omega
   refine ez3 @hcb @a1 (xov v (o v) A) ?_;refine⟨by omega,?_⟩;generalize (u+c.toNat%128*128^i)%18446744073709551616=u' at e p m;refine xf _ (λhc=> ?_) (λhc=> ?_)
   ·have l:c.toNat<128:=by simp at hc;omega
    simp only[l,if_true]at e;refine ez ?_;have hb:(((c.toNat:Nat):Int)==0&&decide ((i:Int)>0)||((i:Int)==9)&&decide (((c.toNat:Nat):Int)>1))=(c.toNat==0&&decide (0<i)||decide (i=9)&&decide (c.toNat>1)):=by
     have b1:(((c.toNat:Nat):Int)==0)=(c.toNat==0):=by rw[jBl];simp
     have b2:decide ((i:Int)>0)=decide (0<i):=decide_eq_decide.2 (by omega);have b3:((i:Int)==9)=decide (i=9):=by rw[jBl];simp;omega
     have b4:decide (((c.toNat:Nat):Int)>1)=decide (c.toNat>1):=decide_eq_decide.2 (by omega);rw[b1,b2,b3,b4]
    rw[xow p,hb,<- e];exact⟨λh=>⟨h,λB=>by rw[h,B];rfl⟩,λh=>by rw[h];rfl,rfl,(by simp only[go_sem]),rfl,rfl⟩
   ·have l: ¬c.toNat<128:=by simp at hc;omega
    simp only[l,if_false]at e;refine ez ?_;refine⟨⟨(i+1,u',(yt 1 rd).2),t,p,λh=>m (by omega),z,e⟩,?_,by dsimp only;omega⟩;exact et4 @xox.eq_1 @rdO.eq_1 @hf (qe (show i<9223372036854775807 by omega))
 ·have t:i=10:=by simp at h;omega
  subst t;have:rInt r=(0,{rd with failed:=true}):=e.symm;exact et2 @this @rdO.eq_1
attribute [go_sem] exists_eq' List.getD_nil
theorem q25: ∀(k i u:Nat) {r:Rd},r.Ok->(qmi k i u r).2.Ok∧(qmi k i u r).2.b=r.b
 |0,i,u,r,h=>⟨⟨h.len,h.pos⟩,rfl⟩
 |k+1,i,u,r,h=>by
  have hn:=qiz h 1;rw[qmi];split
  ·exact hn
  ·split
   ·exact⟨⟨hn.1.len,hn.1.pos⟩,hn.2⟩
   ·have:=q25 k (i+1) ((u+((yt 1 r).1.headD 0).toNat%128*128^i)%18446744073709551616) hn.1;exact⟨this.1,this.2.trans hn.2⟩
theorem qf5 {r:Rd} (h:r.Ok):(rInt r).2.Ok∧(rInt r).2.b=r.b:=q25 10 0 0 h
def Rd.fail (r:Rd) (f:Bool):Rd:=⟨r.b,r.pos,f⟩
theorem Rd.Ok.fail {r:Rd} (h:r.Ok) (f:Bool):(r.fail f).Ok:=⟨h.len,h.pos⟩
def xl (lo hi:Int) (r:Rd):Int×Rd:=((rInt r).1,(rInt r).2.fail ((rInt r).2.failed||decide ((rInt r).1<lo)||decide ((rInt r).1>hi)))
def y6 (most:Int) (r:Rd):List UInt8×Rd:=if(xl 0 most r).2.failed then([],(xl 0 most r).2)else yt (xl 0 most r).1.toNat (xl 0 most r).2
def qi0 (r:Rd):Bool×Rd:=
 let f:=(yt 1 r).2.failed||decide (((yt 1 r).1.headD 0).toNat>1)
 (!f&&((yt 1 r).1.headD 0).toNat==1,(yt 1 r).2.fail f)
def qb8 {α:Type} (z:α) (f:Rd->α×Rd) (r:Rd):α×Rd:=if r.failed then(z,r)else if(f r).2.failed then(z,⟨(f r).2.b,r.pos,(f r).2.failed⟩)else f r
theorem wi {r:Rd} (h:r.Ok) (lo hi:Int):(xl lo hi r).2.Ok∧(xl lo hi r).2.b=r.b:=⟨(qf5 h).1.fail _,(qf5 h).2⟩
theorem qbb {r:Rd} {lo hi:Int} (h:(xl lo hi r).2.failed=false):lo<=(xl lo hi r).1∧(xl lo hi r).1<=hi:=by
 simp only[xl,Rd.fail,jA4,decide_eq_false_iff_not]at h⊢;omega
theorem qk3 {r:Rd} (h:r.Ok) (most:Int):(y6 most r).2.Ok∧(y6 most r).2.b=r.b:=by
 have d:=wi h 0 most;unfold y6;split
 ·exact d
 ·have e:=qiz d.1 (xl 0 most r).1.toNat;exact⟨e.1,e.2.trans d.2⟩
theorem xh3 {r:Rd} (h:r.Ok) (n:Nat):(yt n r).1.length<=1000000000:=by
 have:=h.len;unfold yt;split
 ·simp
 ·simp only[jAl,jAp];omega
theorem q7p {r:Rd} (h:r.Ok) (most:Int):(y6 most r).1.length<=1000000000:=by
 unfold y6;split
 ·simp
 ·exact xh3 (wi h 0 most).1 _
theorem qvv {r:Rd} (h:r.Ok):(qi0 r).2.Ok∧(qi0 r).2.b=r.b:=⟨(qiz h 1).1.fail _,(qiz h 1).2⟩
theorem qfj {α:Type} {z:α} {f:Rd->α×Rd} {r:Rd} (h:r.Ok) (d:(f r).2.Ok∧(f r).2.b=r.b):(qb8 z f r).2.Ok∧(qb8 z f r).2.b=r.b:=by
 unfold qb8;split
 ·exact⟨h,rfl⟩
 ·split
  ·exact⟨⟨d.1.len,by simp only[d.2];exact h.pos⟩,d.2⟩
  ·exact d
def d246:=cut prog f246 news
@[go_sem] def E246:=qj d246
def F246:=fnC d246 follows func246
def d295:=cut prog f295 news
@[go_sem] def E295:=qj d295
def F295:=fnC d295 follows func295
def d292:=cut prog f292 news
@[go_sem] def E292:=qj d292
def F292:=fnC d292 follows func292
def d245:=cut prog f245 news
@[go_sem] def E245:=qj d245
def F245:=fnC d245 follows func245
def d294:=cut prog f294 news
@[go_sem] def E294:=qj d294
def F294:=fnC d294 follows func294
def d243:=cut prog f243 news
@[go_sem] def E243:=qj d243
def F243:=fnC d243 follows func243
def d291:=cut prog f291 news
@[go_sem] def E291:=qj d291
def F291:=fnC d291 follows func291
def d293:=cut prog f293 news
@[go_sem] def E293:=qj d293
def F293:=fnC d293 follows func293
def d178:=cut prog f178 news
@[go_sem] def E178:=qj d178
def F178:=fnC d178 follows func178
def d179:=cut prog f179 news
@[go_sem] def E179:=qj d179
def F179:=fnC d179 follows func179
def d250:=cut prog f250 news
@[go_sem] def E250:=qj d250
def F250:=fnC d250 follows func250
def d251:=cut prog f251 news
@[go_sem] def E251:=qj d251
def F251:=fnC d251 follows func251
def d249:=cut prog f249 news
@[go_sem] def E249:=qj d249
def F249:=fnC d249 follows func249
theorem qfk (r:Rd) (lo hi:Int) (hr:r.Ok):qf prog 246 [.d (.ptr 0 0),.d (.int .i64 lo),.d (.int .i64 hi)] [rdO r] (.d (.int .i64 (xl lo hi r).1)) [rdO (xl lo hi r).2]:=by
 have hc:=qy0 r hr;simp only[rdO]at hc;refine F246.go ?_;refine ez3 @rdO.eq_1 @xl.eq_1 @Rd.fail.eq_1 ?_;generalize rInt r=x at hc⊢;obtain⟨n,b,p,f⟩:=x
 (repeat(with_reducible refine ob ?_));refine clO [0] F244 (hc) ?_
 refine ez ?_;cases f<;>simp
theorem qvw (r:Rd) (most:Nat) (l:r.Ok) (hm:most<=1000000000):qf prog 295 [.d (.ptr 0 0),.d (.int .i64 most)] [rdO r] (.d (.sl 1 (qd (y6 most r).1))) [rdO (y6 most r).2]:=by
 have hc:=qfk r 0 most l;have h:=qbb (r:=r) (lo:=0) (hi:=most);have e:=(wi l 0 most).1;refine F295.go ?_;refine ez1 @y6.eq_1 ?_;generalize xl 0 most r=x at hc h e⊢;obtain⟨n,i⟩:=x;simp only[rdO]at hc;refine eo1 @rdO.eq_1 ?_;refine clO [0] F246 (hc) ?_;refine ez ?_;cases hf:i.failed
 ·obtain⟨m,h2⟩:=h hf;simp only at m h2;have hn:=qyz i n.toNat e (by omega);rw[jEq m]at hn;simp only[rdO,hf]at hn
  (repeat(with_reducible refine ob ?_));refine no_ ?_
  refine eo ?_;refine clO [0] F288 (hn) ?_;exact et
 ·(repeat(with_reducible refine ob ?_));refine ya ?_
  exact et2 @hf @qk
theorem xdc {r:Rd} {n:Nat} (h:(yt n r).2.failed=true):(yt n r).1= []:=by
 unfold yt at h⊢;split
 ·rfl
 ·rename_i hn;rw[if_neg hn]at h;simp only[jA0,not_or]at hn;exact absurd h hn.1
theorem xr6 (c:UInt8):decide (((c.toNat:Nat):Int)>1)=decide (c.toNat>1):=decide_eq_decide.2 (by omega)
theorem xr7 (c:UInt8):(((c.toNat:Nat):Int)==1)=(c.toNat==1):=by rw[jBl];simp;omega
theorem xh4 (r:Rd) (hr:r.Ok):qf prog 292 [.d (.ptr 0 0)] [rdO r] (.d (.bool (qi0 r).1)) [rdO (qi0 r).2]:=by
 have hc:=qyz r 1 hr (by decide);have e:=q24 (r:=r);have h:=xdc (r:=r) (n:=1);refine F292.go ?_;refine ez3 @rdO.eq_1 @qi0.eq_1 @Rd.fail.eq_1 ?_;generalize yt 1 r=x at hc e h⊢;obtain⟨s,r1⟩:=x;simp only[rdO]at hc;refine eo ?_;refine clO [0] F288 (hc) ?_;simp only at e;cases hf:r1.failed
 ·obtain⟨c,rfl⟩:=e hf;have hcb:qd [c]= [[.int .u8 (c.toNat:Nat)]]:=rfl;refine ez2 @hcb @jEo.{0} ?_;exact⟨by rw[xr6,xr7]<;>rfl,xr6 c⟩
 ·have hs:=h hf;simp only at hs;subst hs;exact et2 @qk @List.getD_nil.{0}
theorem q7q (r:Rd) (lo hi:Int) (hr:r.Ok):qf prog 245 [.d (.ptr 1 0),.d (.ptr 2 0),.d (.ptr 3 0)] [rdO r,.row [.d (.ptr 0 0)],.row [.d (.int .i64 lo)],.row [.d (.int .i64 hi)]] (.d (.int .i64 (xl lo hi r).1)) [rdO (xl lo hi r).2,.row [.d (.ptr 0 0)],.row [.d (.int .i64 lo)],.row [.d (.int .i64 hi)]]:=by
 have hc:=qfk r lo hi hr;simp only[rdO]at hc;refine F245.go ?_;refine eo1 @rdO.eq_1 ?_;refine clO [0] F246 (hc) ?_;exact et
theorem xh5 (r:Rd) (most:Nat) (e:r.Ok) (hm:most<=1000000000):qf prog 294 [.d (.ptr 1 0),.d (.ptr 2 0)] [rdO r,.row [.d (.ptr 0 0)],.row [.d (.int .i64 most)]] (.d (.sl 1 (qd (y6 most r).1))) [rdO (y6 most r).2,.row [.d (.ptr 0 0)],.row [.d (.int .i64 most)]]:=by
 have hc:=qvw r most e hm;have hln:=q7p e most;simp only[rdO]at hc;refine F294.go ?_;refine eo1 @rdO.eq_1 ?_;refine clO [0] F295 (hc) ?_;refine ez ?_;omega
def js:=qb8 (0:Int) rInt
def xc (lo hi:Int):=qb8 (0:Int) (xl lo hi)
def qgv:=qb8 false qi0
def y7 (most:Int):=qb8 ([]:List UInt8) (y6 most)
theorem xdd (r:Rd) (hr:r.Ok):qf prog 243 [.d (.ptr 0 0),.d (.func (.func 244) [.ptr 0 0] [])] [rdO r] (.d (.int .i64 (js r).1)) [rdO (js r).2]:=by
 have hc:=qy0 r hr;unfold js;unfold qb8;obtain⟨b,p,f⟩:=r;simp only[rdO]at hc;refine F243.go ?_;refine ez1 @rdO.eq_1 ?_;cases f
 ·refine eo ?_;refine no_ ?_;refine eo ?_;refine clO [0] F244 (hc) ?_;refine ez ?_;cases hf:(rInt ⟨b,p,false⟩).2.failed
  ·refine eo ?_;refine no_ ?_;simp only[hf,if_false,go_sem,simprocAttr]
  ·refine eo ?_;refine ya ?_;exact et1 @hf
 ·refine eo ?_;refine ya ?_;exact et
theorem qui (r:Rd) (lo hi:Int) (hr:r.Ok):qf prog 243 [.d (.ptr 0 0),.d (.func (.func 245) [] [.ptr 1 0,.ptr 2 0,.ptr 3 0])] [rdO r,.row [.d (.ptr 0 0)],.row [.d (.int .i64 lo)],.row [.d (.int .i64 hi)]] (.d (.int .i64 (xc lo hi r).1)) [rdO (xc lo hi r).2,.row [.d (.ptr 0 0)],.row [.d (.int .i64 lo)],.row [.d (.int .i64 hi)]]:=by
 have hc:=q7q r lo hi hr;unfold xc;unfold qb8;obtain⟨b,p,f⟩:=r;simp only[rdO]at hc;refine F243.go ?_;refine ez1 @rdO.eq_1 ?_;cases f
 ·refine eo ?_;refine no_ ?_;refine eo ?_;refine clO [0,1,2,3] F245 (hc) ?_;refine ez ?_;cases hf:(xl lo hi ⟨b,p,false⟩).2.failed
  ·refine eo ?_;refine no_ ?_;simp only[hf,if_false,go_sem,simprocAttr]
  ·refine eo ?_;refine ya ?_;exact et1 @hf
 ·refine eo ?_;refine ya ?_;exact et
theorem q7r (r:Rd) (hr:r.Ok):qf prog 291 [.d (.ptr 0 0),.d (.func (.func 292) [.ptr 0 0] [])] [rdO r] (.d (.bool (qgv r).1)) [rdO (qgv r).2]:=by
 have hc:=xh4 r hr;unfold qgv;unfold qb8;obtain⟨b,p,f⟩:=r;simp only[rdO]at hc;refine F291.go ?_;refine ez1 @rdO.eq_1 ?_;cases f
 ·refine eo ?_;refine no_ ?_;refine eo ?_;refine clO [0] F292 (hc) ?_;refine ez ?_;cases hf:(qi0 ⟨b,p,false⟩).2.failed
  ·refine eo ?_;refine no_ ?_;simp only[hf,if_false,go_sem,simprocAttr]
  ·refine eo ?_;refine ya ?_;exact et1 @hf
 ·refine eo ?_;refine ya ?_;exact et
theorem q26 (r:Rd) (most:Nat) (hr:r.Ok) (hm:most<=1000000000):qf prog 293 [.d (.ptr 0 0),.d (.func (.func 294) [] [.ptr 1 0,.ptr 2 0])] [rdO r,.row [.d (.ptr 0 0)],.row [.d (.int .i64 most)]] (.d (.sl 1 (qd (y7 most r).1))) [rdO (y7 most r).2,.row [.d (.ptr 0 0)],.row [.d (.int .i64 most)]]:=by
 have hc:=xh5 r most hr hm;unfold y7;unfold qb8;obtain⟨b,p,f⟩:=r;simp only[rdO]at hc;refine F293.go ?_;refine ez1 @rdO.eq_1 ?_;cases f
 ·refine eo ?_;refine no_ ?_;refine eo ?_;refine clO [0,1,2] F294 (hc) ?_;refine ez ?_;cases hf:(y6 most ⟨b,p,false⟩).2.failed
  ·refine eo ?_;refine no_ ?_;simp only[hf,if_false,go_sem,simprocAttr]
  ·refine eo ?_;refine ya ?_;exact et1 @hf
 ·refine eo ?_;refine ya ?_;exact et
theorem qp4 (r:Rd) (hr:r.Ok):qf prog 178 [.d (.ptr 0 0)] [rdO r] (.d (.int .i64 (js r).1)) [rdO (js r).2]:=by
 have hc:=xdd r hr;simp only[rdO]at hc;refine F178.go ?_;refine eo1 @rdO.eq_1 ?_;refine clO [0] F243 (hc) ?_;exact et
theorem qi1 (r:Rd) (lo hi:Int) (hr:r.Ok):qf prog 179 [.d (.ptr 0 0),.d (.int .i64 lo),.d (.int .i64 hi)] [rdO r] (.d (.int .i64 (xc lo hi r).1)) [rdO (xc lo hi r).2]:=by
 have hc:=qui r lo hi hr;simp only[rdO]at hc;refine F179.go ?_;refine ez1 @rdO.eq_1 ?_;refine clO [0,1,2,3] F243 hc ?_;exact et
theorem xh6 (r:Rd) (hr:r.Ok):qf prog 250 [.d (.ptr 0 0)] [rdO r] (.d (.bool (qgv r).1)) [rdO (qgv r).2]:=by
 have hc:=q7r r hr;simp only[rdO]at hc;refine F250.go ?_;refine eo1 @rdO.eq_1 ?_;refine clO [0] F291 (hc) ?_;exact et
theorem qvx (r:Rd) (most:Nat) (hr:r.Ok) (hm:most<=1000000000):qf prog 251 [.d (.ptr 0 0),.d (.int .i64 most)] [rdO r] (.d (.sl 1 (qd (y7 most r).1))) [rdO (y7 most r).2]:=by
 have hc:=q26 r most hr hm;simp only[rdO]at hc;refine F251.go ?_;refine ez1 @rdO.eq_1 ?_;refine clO [0,1,2] F293 hc ?_;exact et
theorem xh7 (r:Rd) (most:Nat) (hr:r.Ok) (hm:most<=1000000000):qf prog 249 [.d (.ptr 0 0),.d (.int .i64 most)] [rdO r] (.d (.str (y7 most r).1)) [rdO (y7 most r).2]:=by
 have hc:=qvx r most hr hm;simp only[rdO]at hc;refine F249.go ?_;refine eo1 @rdO.eq_1 ?_;refine clO [0] F251 (hc) ?_;exact et
theorem vm {r:Rd} (h:r.Ok):(js r).2.Ok∧(js r).2.b=r.b:=qfj h (qf5 h)
theorem qc0 {r:Rd} (h:r.Ok) (lo hi:Int):(xc lo hi r).2.Ok∧(xc lo hi r).2.b=r.b:=qfj h (wi h lo hi)
theorem qnr {r:Rd} (h:r.Ok):(qgv r).2.Ok∧(qgv r).2.b=r.b:=qfj h (qvv h)
theorem qhn {r:Rd} (h:r.Ok) (most:Int):(y7 most r).2.Ok∧(y7 most r).2.b=r.b:=qfj h (qk3 h most)
theorem qo1 (r:Rd) (lo hi:Int):(xc lo hi r).1=0∨(lo<=(xc lo hi r).1∧(xc lo hi r).1<=hi):=by
 unfold xc qb8;split
 ·exact .inl rfl
 ·split
  ·exact .inl rfl
  ·rename_i h;exact .inr (qbb (by simpa using h))
def rOp (r:Rd):OpS×Rd:=
 (⟨(y7 40 r).1,(qgv (y7 40 r).2).1,(y7 900 (qgv (y7 40 r).2).2).1⟩,(y7 900 (qgv (y7 40 r).2).2).2)
def qa1:Nat->Rd->List OpS×Rd
 |0,r=>([],r)
 |n+1,r=>((qa1 n r).1++ [(rOp (qa1 n r).2).1],(rOp (qa1 n r).2).2)
theorem xuc {r:Rd} (h:r.Ok):(rOp r).2.Ok∧(rOp r).2.b=r.b:=by
 have i:=qhn h 40;have e:=qnr i.1;have d:=qhn e.1 900;exact⟨d.1,d.2.trans (e.2.trans i.2)⟩
theorem qmj {r:Rd} (h:r.Ok): ∀n,(qa1 n r).2.Ok∧(qa1 n r).2.b=r.b∧(qa1 n r).1.length=n
 |0=>⟨h,rfl,rfl⟩
 |n+1=>by
  have d:=qmj h n;have:=xuc d.1;exact⟨this.1,this.2.trans d.2.1,by simp only[qa1,jAc,d.2.2,jBo]⟩
def xde (b:List UInt8):List OpS×Rd:=qa1 (xc 1 20 ⟨b,0,false⟩).1.toNat (xc 1 20 ⟨b,0,false⟩).2
def jv (b:List UInt8):List OpS×Int:=if rEnd (xde b).2≠0 then([],4)else if(qs (xde b).1).2≠0 then([],4)else((xde b).1,0)
def d182:=cut prog f182 news
@[go_sem] def E182:=qj d182
def F182:=fnC d182 follows func182
def Sdec (n:Nat) (r:Rd) (i:{i:Nat//i<=n}):St:=
 ⟨[(4,true,.d (.ptr 0 0)),(6,true,.own 0 3 ((qa1 i.val r).1.map xp)),(14,true,.d (.int .i64 (n:Nat))),(15,true,.d (.int .i64 (i.val:Nat)))],[rdO (qa1 i.val r).2],[0],1⟩
theorem xdf (b:List UInt8) (A:b.length<=1000000000):qf prog 182 [.d (.sl 1 (qd b))] [] (.tup [.d (.sl 3 ((jv b).1.map xp)),.d (.int .i64 (jv b).2)]) []:=by
 have l:=qp3 b A;have t:(⟨b,0,false⟩:Rd).Ok:=⟨A,jAj _⟩;have q:=qi1 ⟨b,0,false⟩ 1 20 t;have v:=qo1 ⟨b,0,false⟩ 1 20;have e:=(qc0 t 1 20).1;unfold jv xde;generalize xc 1 20 ⟨b,0,false⟩=x at q v e⊢;obtain⟨n,r⟩:=x;simp only at v e;have u:n=((n.toNat:Nat):Int):=by omega
 generalize n.toNat=m at u;subst u;simp only[rdO]at l q;refine F182.goT ?_;refine eo ?_;refine clO [0] F177 (l) ?_;refine eo ?_;refine clO [0] F179 (q) ?_;refine ez ?_;refine qg (Sdec m r) (λi=>m-i.val) ⟨0,jAj _⟩ ?_ (λi=> ?_)
 ·simp only[Sdec,rdO,qa1,List.map_nil,jAt,go_sem,simprocAttr]
 obtain⟨i,hi⟩:=i;have o:=qmj e i;refine eo2 @Sdec.eq_1 @rdO.eq_1 ?_;refine xf _ (λh=> ?_) (λh=> ?_)
 ·have p:i<m:=by simp at h;omega
  have C:=xh7 (qa1 i r).2 40 o.1 (by decide);have z:=qhn o.1 40;have F:=xh6 _ z.1;have hiB:=qnr z.1;have B:=qvx _ 900 hiB.1 (by decide);simp only[rdO]at C F B;refine eo ?_;refine clO [0] F249 (C) ?_;refine eo ?_;refine clO [0] F250 (F) ?_;refine eo ?_;refine clO [0] F251 (B) ?_;refine eo ?_;refine⟨⟨i+1,p⟩,?_,by dsimp only;omega⟩;simp only[Sdec,rdO,qa1,rOp,jA2,List.map_cons,List.map_nil,xp,qe (show i<9223372036854775807 by omega),go_sem,simprocAttr]
 ·have p:i=m:=by simp at h;omega
  subst p;have E:=q7n (qa1 i r).2 o.1;simp only[rdO]at E;refine eo ?_;refine clO [0] F180 (E) ?_;refine ez ?_;refine xf _ (λh=> ?_) (λh=> ?_)
  ·rw[if_pos (show rEnd (qa1 i r).2≠0 by simpa using h)];exact et
  ·rw[if_neg (show¬rEnd (qa1 i r).2≠0 by simpa using h)];refine eo ?_;refine cl F85 (qve (qa1 i r).1 (by omega)) ?_;refine ez ?_;refine xf _ (λh=> ?_) (λh=> ?_)
   ·rw[if_pos (show(qs (qa1 i r).1).2≠0 by simpa using h)];exact et
   ·rw[if_neg (show¬(qs (qa1 i r).1).2≠0 by simpa using h)];exact et
def dG:Nat->Nat->Nat->List UInt8->Option (Int×List UInt8)
 |0,_,_,_=>none
 | _+1,_,_,[]=>none
 |k+1,j,u,c::l=>
  if c.toNat<128 then(if((c.toNat==0&&decide (0<j))||(decide (j=9)&&decide (c.toNat>1)))=true then none else some (unz (u+c.toNat*128^j),l))
  else dG k (j+1) (u+c.toNat%128*128^j) l
def dInt (l:List UInt8):Option (Int×List UInt8):=dG 10 0 0 l
def Got {α:Type} (o:Option (α×List UInt8)) (b:List UInt8) (x:α×Rd):Prop:=match o with
 |some (v,l)=>x=(v,⟨b,b.length-l.length,false⟩)
 |none=>x.2.failed=true
def qmk {α:Type} (z:α) (f:Rd->α×Rd) (d:List UInt8->Option (α×List UInt8)):Prop:=
 ∀r:Rd,r.Ok->f r=if r.failed=true then(z,r)else match d (r.b.drop r.pos)with
  |some (v,l)=>(v,⟨r.b,r.b.length-l.length,false⟩)
  |none=>(z,⟨r.b,r.pos,true⟩)
def qns {α:Type} (d:List UInt8->Option (α×List UInt8)):Prop:= ∀e v l,d e=some (v,l) -> ∃p,e=p++l
theorem jp {b:List UInt8} {p:Nat} {q l:List UInt8} (hp:p<=b.length) (h:b.drop p=q++l):b.drop (b.length-l.length)=l∧l.length<=b.length:=by
 have h1:=congrArg List.length h;simp only[jAp,jAc]at h1;have h2:b.drop (p+q.length)=l:=by rw[<- jCq,h,jDi]
 have e:b.length-l.length=p+q.length:=by omega
 rw[e];exact⟨h2,by omega⟩
theorem xh8: ∀(k j u:Nat) {d:List UInt8} {v:Int} {l:List UInt8},dG k j u d=some (v,l) -> ∃p,d=p++l
 |0,_,_,_,_,_,h=>by simp[dG]at h
 |k+1,j,u,[],_,_,h=>by simp[dG]at h
 |k+1,j,u,c::d,v,l,h=>by
  rw[dG]at h;split at h
  ·split at h
   ·cases h
   ·cases h;exact⟨[c],rfl⟩
  ·obtain⟨p,rfl⟩:=xh8 k (j+1) _ h;exact⟨c::p,rfl⟩
theorem qsl:qns dInt:=λ_ _ _ h=>xh8 10 0 0 h
theorem qvy {r:Rd} (hr:r.Ok) (d:r.failed=false) {c:UInt8} {l:List UInt8} (h:r.b.drop r.pos=c::l):yt 1 r=([c],⟨r.b,r.pos+1,false⟩)∧r.b.drop (r.pos+1)=l:=by
 have hl:=congrArg List.length h;simp only[jAp,List.length_cons]at hl;have h2:r.b.drop (r.pos+1)=l:=by rw[<- jCq,h];rfl
 refine⟨?_,h2⟩;unfold yt;rw[if_neg (by simp[d];omega),h,d];rfl
theorem q27 {r:Rd} (hf:r.failed=false) (h:r.b.drop r.pos= []):yt 1 r=([],⟨r.b,r.pos,true⟩):=by
 have hl:=congrArg List.length h;simp only[jAp,List.length_nil]at hl;unfold yt;rw[if_pos (by simp[hf];omega)]
theorem qi2 {j:Nat} (h:j<=8):128^(j+1)<=9223372036854775808:=by
 have h1:128^(j+1)<=128^9:=jB4 (by decide) (by omega);have h2:(128:Nat)^9=9223372036854775808:=by decide
 omega
theorem xh9: ∀(k j u:Nat) {r:Rd},j+k=10->u<128^j->r.Ok->r.failed=false->
  Got (dG k j u (r.b.drop r.pos)) r.b (qmi k j u r)
 |0,j,u,r,_,_,_,_=>by simp only[Got,dG,qmi]
 |k+1,j,u,r,hj,hu,hr,hf=>by
  cases hd:r.b.drop r.pos with
  |nil=>
   simp only[dG];rw[qmi,q27 hf hd,if_pos rfl];exact(rfl:true=true)
  |cons c l=>
   obtain⟨h1,h2⟩:=qvy hr hf hd;have hlt:=qcv c;have h:=congrArg List.length hd;simp only[jAp,List.length_cons]at h;rw[qmi,h1,dG];simp only[jAw,if_false,jEo];by_cases hc:c.toNat<128
   ·simp only[hc,if_true];by_cases d:((c.toNat==0&&decide (0<j))||(decide (j=9)&&decide (c.toNat>1)))=true
    ·rw[if_pos d];exact d
    ·rw[if_neg d];simp only[jC1]at d;have hm:c.toNat%128=c.toNat:=jBy hc;have hs:u+c.toNat*128^j<18446744073709551616:=by
      rcases jB9 j 9 with h9|h9
      ·have hp:=qi2 (j:=j) (by omega);rw[jCi]at hp;have:c.toNat*128^j<=127*128^j:=jAz _ (by omega);omega
      ·have:j=9:=by omega
       subst this;simp at d;have e:(128:Nat)^9=9223372036854775808:=by decide
       rw[e]at hu⊢;omega
     rw[hm,jBy hs];simp only[Got,jCw,Rd.mk.injEq];exact⟨trivial,trivial,by omega,d⟩
   ·simp only[hc,if_false];cases k with
    |zero=>simp only[Got,dG,qmi]
    |succ k=>
     have hp:=qi2 (j:=j) (by omega);have i:u+c.toNat%128*128^j<128^(j+1):=by
      have h3:c.toNat%128*128^j<=127*128^j:=jAz _ (by omega);rw[jCi];omega
     rw[jBy (show u+c.toNat%128*128^j<18446744073709551616 by omega)];have m:=xh9 (k+1) (j+1) (u+c.toNat%128*128^j) (r:=⟨r.b,r.pos+1,false⟩) (by omega) i ⟨hr.len,by have:=hr.pos;simp only;omega⟩ rfl;rw[show(⟨r.b,r.pos+1,false⟩:Rd).b.drop (⟨r.b,r.pos+1,false⟩:Rd).pos=l from h2]at m;exact m
theorem xab {r:Rd} (hr:r.Ok) (hf:r.failed=false):Got (dInt (r.b.drop r.pos)) r.b (rInt r):=xh9 10 0 0 rfl (by decide) hr hf
theorem qde {α:Type} {z:α} {f:Rd->α×Rd} {d:List UInt8->Option (α×List UInt8)} (hi: ∀r:Rd,r.Ok->(f r).2.b=r.b)
  (h: ∀r:Rd,r.Ok->r.failed=false->Got (d (r.b.drop r.pos)) r.b (f r)):qmk z (qb8 z f) d:=by
 intro r i;unfold qb8;by_cases e:r.failed=true
 ·rw[if_pos e,if_pos e]
 ·rw[if_neg e,if_neg e];have:=h r i (by simpa using e);cases hd:d (r.b.drop r.pos)with
  |none=>
   rw[hd]at this;simp only[Got]at this;rw[if_pos this,hi r i,this]
  |some x=>
   obtain⟨v,l⟩:=x;rw[hd]at this;simp only[Got]at this;rw[this,if_neg (by simp)]
theorem qdf:qmk 0 js dInt:=qde (λr d=>(qf5 d).2) (λr d hf=>xab d hf)
def zd (lo hi:Int) (l0:List UInt8):Option (Int×List UInt8):=match dInt l0 with
 |some (n,l)=>if n<lo∨n>hi then none else some (n,l)
 |none=>none
theorem yk (lo hi:Int):qns (zd lo hi):=by
 intro l0 v l h;unfold zd at h;split at h
 ·rename_i hd;split at h
  ·cases h
  ·cases h;exact qsl _ _ _ hd
 ·cases h
theorem qjs (lo hi:Int) {r:Rd} (hr:r.Ok) (hf:r.failed=false):Got (zd lo hi (r.b.drop r.pos)) r.b (xl lo hi r):=by
 have h:=xab hr hf;unfold zd;cases hd:dInt (r.b.drop r.pos)with
 |none=>
  rw[hd]at h;simp only[Got]at h⊢;simp only[xl,Rd.fail,h,jFc]
 |some x=>
  obtain⟨n,l⟩:=x;rw[hd]at h;simp only[Got]at h⊢;by_cases hn:n<lo∨n>hi
  ·rw[if_pos hn];simp only[xl,Rd.fail,h,jDg];simpa using hn
  ·rw[if_neg hn];simp only[xl,Rd.fail,h,jDg];have:(decide (n<lo)||decide (n>hi))=false:=by simpa using hn
   rw[this]
theorem qb9 (lo hi:Int):qmk 0 (xc lo hi) (zd lo hi):=qde (λr d=>(wi d lo hi).2) (λr d hf=>qjs lo hi d hf)
def qcg (most:Int) (l0:List UInt8):Option (List UInt8×List UInt8):=match zd 0 most l0 with
 |some (n,l)=>if l.length<n.toNat then none else some (l.take n.toNat,l.drop n.toNat)
 |none=>none
theorem q7s (most:Int):qns (qcg most):=by
 intro l0 v l h;unfold qcg at h;split at h
 ·rename_i n l1 hd;split at h
  ·cases h
  ·cases h;obtain⟨p,rfl⟩:=yk _ _ _ _ _ hd;exact⟨p++l1.take n.toNat,by rw[jAh,jB5]⟩
 ·cases h
theorem q28 (most:Int) {r:Rd} (d:r.Ok) (hf:r.failed=false):Got (qcg most (r.b.drop r.pos)) r.b (y6 most r):=by
 have h:=qjs 0 most d hf;unfold qcg;cases hd:zd 0 most (r.b.drop r.pos)with
 |none=>
  rw[hd]at h;simp only[Got]at h⊢;unfold y6;rw[if_pos h];exact h
 |some x=>
  obtain⟨n,l⟩:=x;rw[hd]at h;simp only[Got]at h⊢;obtain⟨p,hp⟩:=yk _ _ _ _ _ hd;obtain⟨t1,t2⟩:=jp d.pos hp;have e:r.b.length-(r.b.length-l.length)=l.length:=by omega
  by_cases hn:l.length<n.toNat
  ·rw[if_pos hn];simp only[y6,h,jAw,if_false,yt,jDg];rw[e,if_pos (by simpa using hn)]
  ·rw[if_neg hn];simp only[y6,h,jAw,if_false,yt,jDg];rw[e,if_neg (by simpa using hn),t1];have:r.b.length-l.length+n.toNat=r.b.length-(l.drop n.toNat).length:=by rw[jAp];omega
   rw[this]
theorem qbc (most:Int):qmk [] (y7 most) (qcg most):=qde (λr d=>(qk3 d most).2) (λr d hf=>q28 most d hf)
def qml:List UInt8->Option (Bool×List UInt8)
 | []=>none
 |c::l=>if c.toNat>1 then none else some (c.toNat==1,l)
theorem xdg:qns qml:=by
 intro l0 v l h;cases l0 with
 |nil=>cases h
 |cons c l1=>
  rw[qml]at h;split at h
  ·cases h
  ·cases h;exact⟨[c],rfl⟩
theorem xoy {r:Rd} (hr:r.Ok) (e:r.failed=false):Got (qml (r.b.drop r.pos)) r.b (qi0 r):=by
 cases hd:r.b.drop r.pos with
 |nil=>simp only[Got,qml,qi0,q27 e hd,Rd.fail,jFc]
 |cons c l=>
  obtain⟨h,h2⟩:=qvy hr e hd;have d:=congrArg List.length hd;simp only[jAp,List.length_cons]at d;simp only[Got,qml];by_cases hc:c.toNat>1
  ·rw[if_pos hc];simp only[qi0,h,Rd.fail,jDg,jEo,decide_eq_true hc]
  ·rw[if_neg hc];simp only[qi0,h,Rd.fail,jDg,jEo,decide_eq_false hc,jDj,jCr];have:r.b.length-l.length=r.pos+1:=by omega
   rw[this]
theorem qmm:qmk false qgv qml:=qde (λr d=>(qvv d).2) (λr d hf=>xoy d hf)
def d96:=cut prog f96 news
@[go_sem] def E96:=qj d96
def F96:=fnC d96 follows func96
def qsn (b:List UInt8) (e:Nat) (f:Bool) (i u:Nat):St:=
 ⟨[(0,true,.d (.ptr 0 0)),(3,true,.d (.int .u64 (u:Nat))),(4,true,.d (.int .u64 (128^(i-e)%18446744073709551616:Nat))),(5,true,.d (.int .i64 (i:Nat)))],[rdO ⟨b,e,f⟩],[],1⟩
theorem xoz {u d j:Nat} (hu:u<128^j) (hd:d<128) (hj:j<=9) (h9:j=9->d<=1):
  IntKind.u64.wrap ((u:Int)+IntKind.u64.wrap ((d:Int)*((128^j%18446744073709551616:Nat):Int)))=((u+d*128^j:Nat):Int)∧u+d*128^j<18446744073709551616∧u+d*128^j<128^(j+1):=by
 have hp:128^j<=128^9:=jB4 (by decide) hj;have e:(128:Nat)^9=9223372036854775808:=by decide
 rw[jBy (by omega)];have hs:d*128^j<=9223372036854775808:=by
  rcases jB9 j 9 with h|h
  ·have:=qi2 (j:=j) (by omega);rw[jCi]at this;have:d*128^j<=127*128^j:=jAz _ (by omega);omega
  ·have:j=9:=by omega
   subst this;have:=h9 rfl;rw[e];omega
 have h3:d*128^j<=127*128^j:=jAz _ (by omega);refine⟨?_,by omega,by rw[jCi];omega⟩;rw[show((d:Int)*((128^j:Nat):Int))=((d*128^j:Nat):Int) by rw[Int.natCast_mul],f2 _ (by omega),show((u:Int)+((d*128^j:Nat):Int))=((u+d*128^j:Nat):Int) by omega,f2 _ (by omega)]
theorem xdh (j:Nat):IntKind.u64.wrap (((128^j%18446744073709551616:Nat):Int)*128)=((128^(j+1)%18446744073709551616:Nat):Int):=by
 rw[qku,jCi];generalize 128^j=x;omega
theorem qal (r:Rd) (E:r.Ok):qf prog 96 [.d (.ptr 0 0)] [rdO r] (.d (.int .i64 (js r).1)) [rdO (js r).2]:=by
 have hrd:=qdf r E;obtain⟨A,p⟩:=E;obtain⟨b,e,f⟩:=r;simp only at A p hrd;refine F96.go ?_;cases f
 ·simp only[jAw,if_false]at hrd;have w9:IntKind.i64.wrap ((e:Int)+9)=((e+9:Nat):Int):=by rw[xo (by unfold I64;omega)];omega
  have w10:IntKind.i64.wrap ((e:Int)+10)=((e+10:Nat):Int):=by rw[xo (by unfold I64;omega)];omega
  refine ez1 @rdO.eq_1 ?_;refine qg (λx:{x:Nat×Nat//e<=x.1∧x.1<=e+10∧x.1<=b.length∧x.2<128^(x.1-e)∧dG (10-(x.1-e)) (x.1-e) x.2 (b.drop x.1)=dInt (b.drop e)}=>qsn b e false x.val.1 x.val.2) (λx=>e+10-x.val.1)
   ⟨(e,0),jAi _,by simp,p,by simp,by simp only[jDe];rfl⟩ ?_ (λx=> ?_)
  ·have e1:128^(e-e)%18446744073709551616=1:=by rw[jDe]
   exact et4 @qsn.eq_1 @e1 @rdO.eq_1 @jAt
  obtain⟨⟨i,u⟩,h1,h2,h3,F,m⟩:=x;simp only at h1 h2 h3 F m;have l:dInt (b.drop e)=none->js ⟨b,e,false⟩=(0,⟨b,e,true⟩):=λh=>by rw[hrd,h]
  refine ez3 @qsn.eq_1 @rdO.eq_1 @w10 ?_;refine xf _ (λhc=> ?_) (λhc=> ?_)
  ·simp only[jAf,decide_eq_true_eq]at hc;have q:i<b.length:=by omega
   have hi10:i<e+10:=by omega
   rw[jBm q,show 10-(i-e)=(10-(i+1-e))+1 by omega,dG]at m;have hlt:=qcv b[i];have hd:IntKind.u64.wrap (((b[i].toNat:Nat):Int).tmod 128)=((b[i].toNat%128:Nat):Int):=by
    rw[jBf (by omega),show((b[i].toNat:Nat):Int)%128=((b[i].toNat%128:Nat):Int) by omega,f2 _ (by omega)]
   refine ez3 (za b q) @hd @w9 ?_;refine⟨by omega,?_⟩;refine xf _ (λt=> ?_) (λt=> ?_)
   ·have hx:dInt (b.drop e)=none:=by
     simp at t;rw[<- m];by_cases hc:b[i].toNat<128
     ·rw[if_pos hc,if_pos];simp;omega
     ·rw[if_neg hc,show 10-(i+1-e)=0 by omega];rfl
    exact et1 (l hx)
   ·have v:i-e=9->b[i].toNat%128<=1:=by
     intro h9;simp at t;have:=t (by omega);omega
    obtain⟨s1,C,B⟩:=xoz F (jC6 b[i].toNat (show 128>0 by decide)) (show i-e<=9 by omega) v;have s4:=xdh (i-e);refine eo3 @s1 @s4 (za b q) ?_;refine xf _ (λhc=> ?_) (λhc=> ?_)
    ·have o: ¬b[i].toNat<128:=by simp at hc;omega
     rw[if_neg o]at m;refine ez ?_;have hj:i+1-e=i-e+1:=by omega
     refine⟨⟨(i+1,u+b[i].toNat%128*128^(i-e)),by simp only;omega,by simp only;omega,by simp only;omega,by simp only[hj];exact B,by simp only[hj]at m⊢;exact m⟩,?_,by simp only;omega⟩;exact et4 @qsn.eq_1 @rdO.eq_1 @hj (qe (show i<9223372036854775807 by omega))
    ·have o:b[i].toNat<128:=by simp at hc;omega
     rw[if_pos o]at m;have hm:b[i].toNat%128=b[i].toNat:=jBy o;rw[hm]at s1 C B v t;refine ez1 @hm ?_;refine xf _ (λz=> ?_) (λz=> ?_)
     ·have hx:dInt (b.drop e)=none:=by
       rw[<- m,if_pos];simp at z⊢;omega
      exact et1 (l hx)
     ·have hx:js ⟨b,e,false⟩=(unz (u+b[i].toNat*128^(i-e)),⟨b,i+1,false⟩):=by
       rw[hrd,<- m,if_neg (by simp at z t⊢;omega)];simp only[jAp];rw[show b.length-(b.length-(i+1))=i+1 by omega]
      generalize hU:u+b[i].toNat*128^(i-e)=u' at C hx⊢;have hU2:(u:Int)+((b[i].toNat*128^(i-e):Nat):Int)=((u':Nat):Int):=by rw[<- hU,Int.natCast_add]
      have q2:(u':Int).tmod 2=((u'%2:Nat):Int):=by rw[jBf (by omega)];omega
      have q3:IntKind.u64.wrap ((u':Int).tdiv 2)=((u'/2:Nat):Int):=by rw[jB8 (by omega),show((u':Int)/2)=((u'/2:Nat):Int) by omega,f2 _ (by omega)]
      have q4:IntKind.i64.wrap ((u'/2:Nat):Int)=((u'/2:Nat):Int):=xo (by unfold I64;omega);refine ez3 @hU2 @hx (qe (show i<9223372036854775807 by omega)) ?_;refine ez2 @q2 @hx ?_;rcases jDb u' with hp|hp
      ·have q5:unz u'=((u'/2:Nat):Int):=by unfold unz;rw[if_pos hp]
       have q6:((((u'%2:Nat):Int))==1)=false:=by rw[hp];rfl
       refine eo1 @q6 ?_;refine no_ ?_;exact et4 @hU2 @q3 @q4 @q5
      ·have q5:unz u'=IntKind.i64.wrap (IntKind.i64.wrap (0-((u'/2:Nat):Int)) -1):=by
        unfold unz;rw[if_neg (by omega),xo (n:=0-((u'/2:Nat):Int)) (by unfold I64;omega),xo (by unfold I64;omega)];omega
       have q6:((((u'%2:Nat):Int))==1)=true:=by rw[hp];rfl
       refine eo1 @q6 ?_;refine ya ?_;exact et4 @hU2 @q3 @q4 @q5
  ·have hx:dInt (b.drop e)=none:=by
    rw[<- m];simp only[jB6,decide_eq_false_iff_not]at hc;rcases jB9 i (e+10)with hi|hi
    ·rw[jDu (by omega),show 10-(i-e)=(9-(i-e))+1 by omega];rfl
    ·rw[show 10-(i-e)=0 by omega];rfl
   exact et1 (l hx)
 ·simp only[if_true]at hrd;refine ez2 @rdO.eq_1 @hrd ?_;refine qg (λx:Unit=>qsn b e true e 0) (λx=>0) () ?_ (λx=> ?_)
  ·have e1:128^(e-e)%18446744073709551616=1:=by rw[jDe]
   exact et4 @qsn.eq_1 @e1 @rdO.eq_1 @jAt
  refine eo2 @qsn.eq_1 @rdO.eq_1 ?_;refine no_ ?_;exact et
def d309:=cut prog f309 news
@[go_sem] def E309:=qj d309
def F309:=fnC d309 follows func309
def d257:=cut prog f257 news
@[go_sem] def E257:=qj d257
def F257:=fnC d257 follows func257
def d259:=cut prog f259 news
@[go_sem] def E259:=qj d259
def F259:=fnC d259 follows func259
def d260:=cut prog f260 news
@[go_sem] def E260:=qj d260
def F260:=fnC d260 follows func260
def d258:=cut prog f258 news
@[go_sem] def E258:=qj d258
def F258:=fnC d258 follows func258
def d98:=cut prog f98 news
@[go_sem] def E98:=qj d98
def F98:=fnC d98 follows func98
theorem qgw (r:Rd) (p:Nat):qf prog 309 [.d (.ptr 0 0),.d (.int .i64 (p:Nat))] [rdO r] (.tup []) [rdO ⟨r.b,p,true⟩]:=by
 refine F309.goT ?_;exact et1 @rdO.eq_1
theorem qdx (r:Rd) (lo hi:Int) (p:r.Ok):qf prog 257 [.d (.ptr 0 0),.d (.int .i64 lo),.d (.int .i64 hi)] [rdO r] (.d (.int .i64 (xc lo hi r).1)) [rdO (xc lo hi r).2]:=by
 have hc:=qal r p;have i:=qdf r p;have e:=qb9 lo hi r p;obtain⟨b,m,f⟩:=r;refine F257.go ?_;cases f
 ·simp only[jAw,if_false,zd]at i e;cases hd:dInt (b.drop m)with
  |none=>
   rw[hd]at i e;simp only at i e;rw[i]at hc;rw[e];simp only[rdO]at hc;refine eo1 @rdO.eq_1 ?_;refine clO [0] F96 (hc) ?_;refine eo ?_;refine ya ?_;exact et
  |some x=>
   obtain⟨n,l⟩:=x;rw[hd]at i e;simp only at i e;rw[i]at hc;simp only[rdO]at hc;refine eo1 @rdO.eq_1 ?_;refine clO [0] F96 (hc) ?_;refine eo ?_;refine no_ ?_;refine ez ?_;have q:((decide (n<lo)||decide (n>hi))=true)=(n<lo∨n>hi):=by simp
   refine⟨λh=>by rw[h];rfl,?_⟩;refine xf _ (λh=> ?_) (λh=> ?_)
   ·rw[q]at h;rw[if_pos h]at e;simp only at e;have o:=qgw ⟨b,b.length-l.length,false⟩ m;simp only[rdO]at o;rw[e];refine eo ?_;refine clO [0] F309 (o) ?_;exact et
   ·have h': ¬(n<lo∨n>hi):=by rw[<- q,h];simp
    rw[if_neg h']at e;simp only at e;rw[e];exact et
 ·simp only[if_true]at i e;rw[i]at hc;rw[e];simp only[rdO]at hc;refine eo1 @rdO.eq_1 ?_;refine clO [0] F96 (hc) ?_;refine eo ?_;refine ya ?_;exact et
theorem qvz (r:Rd) (most:Nat) (z:r.Ok) (hm:most<=1000000000):qf prog 260 [.d (.ptr 0 0),.d (.int .i64 (most:Nat))] [rdO r] (.d (.sl 1 (qd (y7 most r).1))) [rdO (y7 most r).2]:=by
 have hc:=qdx r 0 most z;have o:=qb9 0 most r z;have e:=qbc most r z;obtain⟨A,t⟩:=z;obtain⟨b,i,f⟩:=r;simp only at A t;refine F260.go ?_;have v:=λq=>qgw ⟨b,q,true⟩ i;have u:=λq=>qgw ⟨b,q,false⟩ i;simp only[rdO]at v u;cases f
 ·simp only[jAw,if_false,qcg]at o e;cases hd:zd 0 most (b.drop i)with
  |none=>
   rw[hd]at o e;simp only at o e;rw[o]at hc;rw[e];simp only[rdO]at hc;refine eo1 @rdO.eq_1 ?_;refine clO [0] F257 (hc) ?_;refine eo ?_;refine ya ?_;refine eo ?_;refine clO [0] F309 ((v i)) ?_;exact et1 @qk
  |some x=>
   obtain⟨n,l⟩:=x;obtain⟨p,hp⟩:=yk _ _ _ _ _ hd;obtain⟨B,t2⟩:=jp t hp;have hn0:0<=n∧n<=most:=by
    unfold zd at hd;split at hd
    ·split at hd
     ·cases hd
     ·cases hd;omega
    ·cases hd
   rw[hd]at o e;simp only at o e;rw[o]at hc;obtain⟨m,rfl⟩: ∃m:Nat,n=m:=⟨n.toNat,by omega⟩;simp only[jA6]at e;simp only[rdO]at hc;have e1:IntKind.i64.wrap ((b.length:Int) -((b.length-l.length:Nat):Int))=((l.length:Nat):Int):=by rw[xo (by unfold I64;omega)];omega
   refine eo1 @rdO.eq_1 ?_;refine clO [0] F257 (hc) ?_;refine ez1 @e1 ?_;refine xf _ (λh=> ?_) (λh=> ?_)
   ·rw[if_pos (show l.length<m by simp at h;omega)]at e;simp only at e;rw[e];refine eo ?_;refine clO [0] F309 ((u (b.length-l.length))) ?_;exact et1 @qk
   ·have hle:m<=l.length:=by simp at h;omega
    rw[if_neg (show¬l.length<m by omega)]at e;simp only at e;rw[e];generalize hq:b.length-l.length=q at B e1;have e2:IntKind.i64.wrap ((q:Int)+(m:Int))=((q+m:Nat):Int):=by rw[xo (by unfold I64;omega)];omega
    have e3:IntKind.i64.wrap ((q:Int)+(m:Int) -(m:Int))=((q:Nat):Int):=by rw[xo (by unfold I64;omega)];omega
    have e5:((q:Int)+(m:Int)).toNat=q+m:=by omega
    have e4:q+m-q=m:=by omega
    have e6:b.length-(l.drop m).length=q+m:=by rw[jAp];omega
    refine ez3 @hq @e2 @e6 ?_;refine ez1 @e3 ?_;rw[e5,e4,ze,xq,B,kg];have hlm:(l.take m).length<=1000000000:=by rw[jAl];omega
    exact⟨by omega,by omega,by simp only[go_sem]⟩
 ·simp only[if_true]at o e;rw[o]at hc;rw[e];simp only[rdO]at hc;refine eo1 @rdO.eq_1 ?_;refine clO [0] F257 (hc) ?_;refine eo ?_;refine ya ?_;refine eo ?_;refine clO [0] F309 ((v i)) ?_;exact et1 @qk
theorem qso (r:Rd) (most:Nat) (hr:r.Ok) (hm:most<=1000000000):qf prog 258 [.d (.ptr 0 0),.d (.int .i64 (most:Nat))] [rdO r] (.d (.str (y7 most r).1)) [rdO (y7 most r).2]:=by
 have hc:=qvz r most hr hm;simp only[rdO]at hc;refine F258.go ?_;refine eo1 @rdO.eq_1 ?_;refine clO [0] F260 (hc) ?_;exact et
theorem xia (r:Rd) (p:r.Ok):qf prog 259 [.d (.ptr 0 0)] [rdO r] (.d (.bool (qgv r).1)) [rdO (qgv r).2]:=by
 have i:=qmm r p;obtain⟨o,m⟩:=p;obtain⟨b,e,f⟩:=r;simp only at o m;refine F259.go ?_;cases f
 ·simp only[jAw,if_false]at i;by_cases l:e<b.length
  ·have hg:decide (((e:Nat):Int)≥((b.length:Nat):Int))=false:=by simp;omega
   have hw:IntKind.i64.wrap ((e:Int)+1)=((e+1:Nat):Int):=by rw[xo (by unfold I64;omega)];omega
   have hw2:IntKind.i64.wrap ((e:Int)+1-1)=((e:Nat):Int):=by rw[xo (by unfold I64;omega)];omega
   rw[jBm l,qml]at i;refine eo3 @rdO.eq_1 @hg (za b l) ?_;refine xf _ (λh=> ?_) (λh=> ?_)
   ·rw[if_pos (show b[e].toNat>1 by simp at h;omega)]at i;simp only at i;rw[i];exact et
   ·rw[if_neg (show¬b[e].toNat>1 by simp at h;omega)]at i;simp only[jAp]at i;rw[show b.length-(b.length-(e+1))=e+1 by omega]at i;rw[i];refine ez1 @hw ?_;refine eo2 @hw2 (za b l) ?_;exact et1 @xr7
  ·have hg:decide (((e:Nat):Int)≥((b.length:Nat):Int))=true:=by simp;omega
   have hgd:(qd b).getD e []= []:=by rw[jA1,jCg (by rw[kg];omega)];rfl
   rw[jDu (by omega),qml]at i;simp only at i;rw[i];refine eo3 @rdO.eq_1 @hg @hgd ?_;refine ya ?_;exact et
 ·simp only[if_true]at i;rw[i];refine ez1 @rdO.eq_1 ?_;by_cases l:e<b.length
  ·refine eo1 (za b l) ?_;refine ya ?_;exact et
  ·have hgd:(qd b).getD e []= []:=by rw[jA1,jCg (by rw[kg];omega)];rfl
   refine eo1 @hgd ?_;refine ya ?_;exact et
theorem qp5 (r:Rd) (hr:r.Ok):qf prog 98 [.d (.ptr 0 0)] [rdO r] (.d (.int .i64 (rEnd r))) [rdO r]:=by
 obtain⟨l,i⟩:=hr;obtain⟨b,e,f⟩:=r;simp only at l i;refine F98.go ?_;cases f
 ·refine ez1 @rdO.eq_1 ?_;refine xf _ (λh=> ?_) (λh=> ?_)
  ·have hx:rEnd ⟨b,e,false⟩=4:=by unfold rEnd;rw[if_pos];simp at h⊢;omega
   exact et1 @hx
  ·have hx:rEnd ⟨b,e,false⟩=0:=by unfold rEnd;rw[if_neg];simp at h⊢;omega
   exact et1 @hx
 ·refine eo1 @rdO.eq_1 ?_;refine ya ?_;exact et1 @rEnd.eq_1
def d194:=cut prog f194 news
@[go_sem] def E194:=qj d194
def F194:=fnC d194 follows func194
def xo0 (n:Nat) (r:Rd) (i:{i:Nat//i<=n}):St:=
 ⟨[(4,true,.d (.ptr 0 0)),(5,true,.d (.int .i64 (n:Nat))),(6,true,.own 0 3 ((qa1 i.val r).1.map xp)),(7,true,.d (.int .i64 (i.val:Nat)))],[rdO (qa1 i.val r).2],[0],1⟩
theorem q29 (b:List UInt8) (hb:b.length<=1000000000):qf prog 194 [.d (.sl 1 (qd b))] [] (.tup [.d (.sl 3 ((jv b).1.map xp)),.d (.int .i64 (jv b).2)]) []:=by
 have q:(⟨b,0,false⟩:Rd).Ok:=⟨hb,jAj _⟩;have p:=qdx ⟨b,0,false⟩ 1 20 q;have u:=qo1 ⟨b,0,false⟩ 1 20;have e:=(qc0 q 1 20).1;unfold jv xde;generalize xc 1 20 ⟨b,0,false⟩=x at p u e⊢;obtain⟨n,r⟩:=x;simp only at u e;have t:n=((n.toNat:Nat):Int):=by omega
 generalize n.toNat=m at t;subst t;simp only[rdO,jAt]at p;refine F194.goT ?_;refine eo ?_
 (repeat(with_reducible refine ob ?_));refine clO [0] F257 (p) ?_
 refine ez ?_;refine qg (xo0 m r) (λi=>m-i.val) ⟨0,jAj _⟩ ?_ (λi=> ?_)
 ·simp only[xo0,rdO,qa1,List.map_nil,jAt,go_sem,simprocAttr]
 obtain⟨i,hi⟩:=i;have l:=qmj e i;refine eo2 @xo0.eq_1 @rdO.eq_1 ?_;refine xf _ (λh=> ?_) (λh=> ?_)
 ·have o:i<m:=by simp at h;omega
  have A:=qso (qa1 i r).2 40 l.1 (by decide);have v:=qhn l.1 40;have C:=xia _ v.1;have hiB:=qnr v.1;have z:=qvz _ 900 hiB.1 (by decide);simp only[rdO]at A C z;refine eo ?_;refine clO [0] F258 (A) ?_;refine eo ?_;refine clO [0] F259 (C) ?_;refine eo ?_;refine clO [0] F260 (z) ?_;refine eo ?_;refine⟨⟨i+1,o⟩,?_,by dsimp only;omega⟩;simp only[xo0,rdO,qa1,rOp,jA2,List.map_cons,List.map_nil,xp,qe (show i<9223372036854775807 by omega),go_sem,simprocAttr]
 ·have o:i=m:=by simp at h;omega
  subst o;have B:=qp5 (qa1 i r).2 l.1;simp only[rdO]at B;refine eo ?_;refine clO [0] F98 (B) ?_;refine ez ?_;refine xf _ (λh=> ?_) (λh=> ?_)
  ·rw[if_pos (show rEnd (qa1 i r).2≠0 by simpa using h)];exact et
  ·rw[if_neg (show¬rEnd (qa1 i r).2≠0 by simpa using h)];refine eo ?_;refine cl F89 (qo0 (qa1 i r).1 (by omega)) ?_;refine ez ?_;refine xf _ (λh=> ?_) (λh=> ?_)
   ·rw[if_pos (show(qs (qa1 i r).1).2≠0 by simpa using h)];exact et
   ·rw[if_neg (show¬(qs (qa1 i r).1).2≠0 by simpa using h)];exact et
theorem xxi (v:Nat):zz (unz v)=v:=by
 unfold zz unz;split<;>split<;>omega
theorem xxj (n:Int):unz (zz n)=n:=by
 unfold zz unz;split<;>split<;>omega
theorem toNat_ofNat {n:Nat} (h:n<256):(UInt8.ofNat n).toNat=n:=by simp[UInt8.toNat_ofNat];omega
theorem xxk (k:Nat): ∀(j u v:Nat) (l:List UInt8),j+(k+1)=10->v*128^j<18446744073709551616->(v=0->j=0) ->dG (k+1) j u (qeg v++l)=some (unz (u+v*128^j),l):=by
 have d: ∀(k j u v:Nat) (l:List UInt8),v<128->v*128^j<18446744073709551616->(v=0->j=0) ->dG (k+1) j u (qeg v++l)=some (unz (u+v*128^j),l):=by
  intro k j u v l m i o;rw[qdc m,jE4,dG,toNat_ofNat (by omega),if_pos m,if_neg];simp only[jA0,jAf,beq_iff_eq,decide_eq_true_eq,not_or,not_and];refine⟨λh=>by have:=o h;omega,λh=> ?_⟩;subst h;have e:(128:Nat)^9=9223372036854775808:=by decide
  rw[e]at i;omega
 induction k with
 |zero=>
  intro j u v l hj i o;refine d 0 j u v l ?_ i o;have:j=9:=by omega
  subst this;have e:(128:Nat)^9=9223372036854775808:=by decide
  rw[e]at i;omega
 |succ k ih=>
  intro j u v l hj i o;by_cases m:v<128
  ·exact d _ j u v l m i o
  ·have hm:v%128+128<256:=by omega
   rw[qfb m,List.cons_append,dG,toNat_ofNat hm,if_neg (by omega)];have e1:(v%128+128)%128=v%128:=by omega
   have e2:v%128*128^j+v/128*128^(j+1)=v*128^j:=by
    rw[jCi,jDx (128^j) 128,<- jEx,<- jCp];congr 1;omega
   have hle:v/128*128^(j+1)<=v*128^j:=by omega
   rw[e1,ih (j+1) _ (v/128) l (by omega) (by omega) (by omega)];rw[jDo,e2]
theorem qb3 {n:Int} (hn:I64 n) (l:List UInt8):dInt (wInt n++l)=some (n,l):=by
 have:=xxk 9 0 0 (zz n) l rfl (by rw[jE3,jCo];exact xnq hn) (λ_=>rfl);rw[jE3,jCo,Nat.zero_add,xxj]at this;exact this
theorem xr8: ∀(k j u:Nat) {d:List UInt8} {x:Int} {l:List UInt8},j+k=10->dG k j u d=some (x,l) ->
  ∃v,x=unz (u+v*128^j)∧d=qeg v++l∧(v=0->j=0)∧v*128^j<18446744073709551616
 |0,j,u,d,x,l,hj,h=>by simp[dG]at h
 |k+1,j,u,[],x,l,hj,h=>by simp[dG]at h
 |k+1,j,u,c::d,x,l,hj,h=>by
  rw[dG]at h;have hlt:=qcv c;split at h
  ·rename_i hc;split at h
   ·cases h
   ·rename_i m;cases h;simp only[jA0,jAf,beq_iff_eq,decide_eq_true_eq,not_or,not_and]at m;refine⟨c.toNat,rfl,?_,λh=>by have:=m.1 h;omega,?_⟩
    ·rw[qdc hc,jE4];congr 1;exact(UInt8.ofNat_toNat).symm
    ·rcases jB9 j 9 with h9|h9
     ·have hp:=qi2 (j:=j) (by omega);rw[jCi]at hp;have:c.toNat*128^j<=127*128^j:=jAz _ (by omega);omega
     ·have:j=9:=by omega
      subst this;have:=m.2 rfl;have e:(128:Nat)^9=9223372036854775808:=by decide
      rw[e];omega
  ·rename_i hc;obtain⟨v,h1,h2,h3,i⟩:=xr8 k (j+1) _ (by omega) h;have p:c.toNat%128*128^j+v*128^(j+1)=(v*128+c.toNat%128)*128^j:=by
    rw[jCi,jDx (128^j) 128,<- jEx,<- jCp,Nat.add_comm]
   have hv:v≠0:=λh=>by have:=h3 h;omega
   have hk:k≠0:=by
    rintro rfl;simp[dG]at h
   refine⟨v*128+c.toNat%128,by rw[h1,jDo,p],?_,λh=>by omega,?_⟩
   ·rw[h2,qfb (u:=v*128+c.toNat%128) (by omega),List.cons_append];have e3:(v*128+c.toNat%128)%128+128=c.toNat:=by omega
    have e4:(v*128+c.toNat%128)/128=v:=by omega
    rw[e3,e4];congr 1;exact(UInt8.ofNat_toNat).symm
   ·rw[<- p];have hp:=qi2 (j:=j) (by omega);have h5:c.toNat%128*128^j<=127*128^j:=jAz _ (by omega);have h6:v*128^(j+1)%128^(j+1)=0:=Nat.mul_mod_left _ _;have o:(18446744073709551616:Nat)%128^(j+1)=0:=by
     have:(18446744073709551616:Nat)=2*128^9:=by decide
     rw[this,<- Nat.pow_sub_mul_pow 128 (show j+1<=9 by omega),<- jEx];exact Nat.mul_mod_left _ _
    have h8:127*128^j<128^(j+1):=by rw[jCi];have:0<128^j:=Nat.pow_pos (by decide);omega
    generalize hP:128^(j+1)=P at i h6 o h8⊢;obtain⟨q,hq⟩:=Nat.dvd_of_mod_eq_zero o;rw[hq]at i⊢;have:v<q:=by
     rw[jDx P q]at i;exact Nat.lt_of_mul_lt_mul_right i
    have:(v+1)*P<=q*P:=jAz _ this;rw[jCp,Nat.one_mul]at this;rw[jDx P q];omega
theorem qf6 {e:List UInt8} {n:Int} {l:List UInt8} (h:dInt e=some (n,l)):I64 n∧e=wInt n++l:=by
 obtain⟨v,d,h2,_,h4⟩:=xr8 10 0 0 rfl h;rw[jE3,jCo]at d h4;rw[Nat.zero_add]at d;subst d;refine⟨?_,by rw[wInt,xxi];exact h2⟩;unfold I64 unz;split<;>omega
theorem qnt {most:Int} {s:List UInt8} (hs:(s.length:Int)<=most) (hm:most<=1000000000) (l:List UInt8):qcg most (qbm s++l)=some (s,l):=by
 unfold qcg zd qbm;rw[jAh,qb3 (x7 (by omega))];simp only;rw[if_neg (by omega)];simp only[jA6,jAc];rw[if_neg (by omega),jD4,jDi]
theorem qnu {most:Int} {d s l:List UInt8} (h:qcg most d=some (s,l)):d=qbm s++l∧(s.length:Int)<=most:=by
 unfold qcg zd at h;cases hd:dInt d with
 |none=>rw[hd]at h;cases h
 |some x=>
  obtain⟨n,l1⟩:=x;rw[hd]at h;simp only at h;by_cases hn:n<0∨n>most
  ·rw[if_pos hn]at h;cases h
  ·rw[if_neg hn]at h;simp only at h;split at h
   ·cases h
   ·rename_i hl;cases h;obtain⟨_,h1⟩:=qf6 hd;have e:((l1.take n.toNat).length:Int)=n:=by rw[jAl];omega
    refine⟨?_,by omega⟩;unfold qbm;rw[e,jAh,jB5];exact h1
theorem xib (v:Bool) (l:List UInt8):qml ([if v then 1 else 0]++l)=some (v,l):=by cases v<;>rfl
theorem xic {d:List UInt8} {v:Bool} {l:List UInt8} (h:qml d=some (v,l)):d= [if v then 1 else 0]++l:=by
 cases d with
 |nil=>cases h
 |cons c l1=>
  rw[qml]at h;split at h
  ·cases h
  ·rename_i hc;cases h;have:c.toNat=0∨c.toNat=1:=by omega
   rcases this with h|h
   ·have:c=0:=UInt8.toNat_inj.1 h;subst this;rfl
   ·have:c=1:=UInt8.toNat_inj.1 h;subst this;rfl
def dOp (l0:List UInt8):Option (OpS×List UInt8):=match qcg 40 l0 with
 |none=>none
 |some (k,l1)=>match qml l1 with
  |none=>none
  |some (d,l2)=>match qcg 900 l2 with
   |none=>none
   |some (v,l3)=>some (⟨k,d,v⟩,l3)
theorem xud {o:OpS} (ho:k9 o=true) (l:List UInt8):dOp (wOp o++l)=some (o,l):=by
 obtain⟨_,h1,h2,_⟩:=vr.1 ho;unfold dOp wOp;rw[jAh,jAh,qnt (by omega) (by omega)];simp only;rw[xib];simp only;rw[qnt (by omega) (by omega)]
theorem xid {e:List UInt8} {o:OpS} {l:List UInt8} (h:dOp e=some (o,l)):e=wOp o++l:=by
 unfold dOp at h;cases h1:qcg 40 e with
 |none=>rw[h1]at h;cases h
 |some x=>
  obtain⟨k,l1⟩:=x;rw[h1]at h;simp only at h;cases h2:qml l1 with
  |none=>rw[h2]at h;cases h
  |some x=>
   obtain⟨d,l2⟩:=x;rw[h2]at h;simp only at h;cases h3:qcg 900 l2 with
   |none=>rw[h3]at h;cases h
   |some x=>
    obtain⟨v,l3⟩:=x;rw[h3]at h;cases h;rw[(qnu h1).1,xic h2,(qnu h3).1,wOp,jAh,jAh]
def qnv:Nat->List UInt8->Option (List OpS×List UInt8)
 |0,l=>some ([],l)
 |n+1,l0=>match qnv n l0 with
  |none=>none
  |some (ops,l)=>match dOp l with
   |none=>none
   |some (o,l')=>some (ops++ [o],l')
theorem q3a (l:List OpS) (hp: ∀o∈l,k9 o=true) (rest:List UInt8): ∀k,k<=l.length->qnv k (l.flatMap wOp++rest)=some (l.take k,(l.drop k).flatMap wOp++rest)
 |0,_=>rfl
 |k+1,hk=>by
  rw[qnv,q3a l hp rest k (by omega)];simp only;rw[jBm (by omega),List.flatMap_cons,jAh,xud (hp _ (jAg (by omega)))];simp only;rw[jAk (by omega)]
theorem qmn: ∀(n:Nat) {d:List UInt8} {ops:List OpS} {l:List UInt8},qnv n d=some (ops,l) ->d=ops.flatMap wOp++l∧ops.length=n
 |0,d,ops,l,h=>by cases h;exact⟨rfl,rfl⟩
 |n+1,d,ops,l,h=>by
  rw[qnv]at h;cases h1:qnv n d with
  |none=>rw[h1]at h;cases h
  |some x=>
   obtain⟨ops1,l1⟩:=x;rw[h1]at h;simp only at h;cases h2:dOp l1 with
   |none=>rw[h2]at h;cases h
   |some x=>
    obtain⟨o,l2⟩:=x;rw[h2]at h;cases h;obtain⟨e1,e2⟩:=qmn n h1;rw[e1,xid h2];simp[e2]
theorem xo1 {r:Rd} (e:r.Ok) (d:r.failed=true):(rOp r).2.failed=true:=by
 have l:=qbc 40 r e;rw[if_pos d]at l;have i:=qmm r e;rw[if_pos d]at i;have h:=qbc 900 r e;rw[if_pos d]at h;simp only[rOp,l,i,h,d]
theorem qeo {α:Type} {b:List UInt8} {v:α} {l:List UInt8} {x:α×Rd} (h:Got (some (v,l)) b x):x=(v,⟨b,b.length-l.length,false⟩):=h
theorem wj {α:Type} {z:α} {f:Rd->α×Rd} {d:List UInt8->Option (α×List UInt8)} (hd:qmk z f d) {r:Rd} (hr:r.Ok) (hf:r.failed=false) {v:α} {l:List UInt8} (h:d (r.b.drop r.pos)=some (v,l)):f r=(v,⟨r.b,r.b.length-l.length,false⟩):=by
 rw[hd r hr,if_neg (by simp[hf]),h]
theorem qnw {α:Type} {z:α} {f:Rd->α×Rd} {d:List UInt8->Option (α×List UInt8)} (hd:qmk z f d) {r:Rd} (hr:r.Ok) (hf:r.failed=false) (h:d (r.b.drop r.pos)=none):(f r).2=⟨r.b,r.pos,true⟩:=by
 rw[hd r hr,if_neg (by simp[hf]),h]
theorem qjt {α:Type} {z:α} {f:Rd->α×Rd} {d:List UInt8->Option (α×List UInt8)} (hd:qmk z f d) {r:Rd} (hr:r.Ok) (hf:r.failed=true):f r=(z,r):=by
 rw[hd r hr,if_pos hf]
theorem xzh {r:Rd} (i:r.Ok) (E:r.failed=false):Got (dOp (r.b.drop r.pos)) r.b (rOp r):=by
 unfold dOp;cases h1:qcg 40 (r.b.drop r.pos)with
 |none=>
  have o:=qnw (qbc 40) i E h1;have e:(⟨r.b,r.pos,true⟩:Rd).Ok:=⟨i.len,i.pos⟩;simp only[Got,rOp,o,qjt qmm e rfl,qjt (qbc 900) e rfl]
 |some x=>
  obtain⟨k,q⟩:=x;have o:=wj (qbc 40) i E h1;obtain⟨p1,A⟩:=q7s _ _ _ _ h1;obtain⟨t,t2⟩:=jp i.pos A;have e:(⟨r.b,r.b.length-q.length,false⟩:Rd).Ok:=⟨i.len,jCt _ _⟩;simp only;cases h2:qml q with
  |none=>
   have m:=qnw qmm e rfl (by simp only[t];exact h2);simp only at m;have h:(⟨r.b,r.b.length-q.length,true⟩:Rd).Ok:=⟨i.len,jCt _ _⟩;simp only[Got,rOp,o,m,qjt (qbc 900) h rfl]
  |some x=>
   obtain⟨d,u⟩:=x;have m:=wj qmm e rfl (v:=d) (l:=u) (by simp only[t];exact h2);simp only at m;obtain⟨p2,z⟩:=xdg _ _ _ h2;obtain⟨C,t4⟩:=jp (b:=r.b) (p:=r.b.length-q.length) (jCt _ _) (by rw[t];exact z);have h:(⟨r.b,r.b.length-u.length,false⟩:Rd).Ok:=⟨i.len,jCt _ _⟩;simp only;cases h3:qcg 900 u with
   |none=>
    have B:=qnw (qbc 900) h rfl (by simp only[C];exact h3);simp only[Got,rOp,o,m,B]
   |some x=>
    obtain⟨v,l3⟩:=x;have B:=wj (qbc 900) h rfl (v:=v) (l:=l3) (by simp only[C];exact h3);simp only[Got,rOp,o,m,B]
theorem xie {r:Rd} (h:r.Ok) (m:r.failed=false): ∀n,Got (qnv n (r.b.drop r.pos)) r.b (qa1 n r)
 |0=>by
  have:=h.pos;simp only[Got,qnv,qa1,jAp];rw[show r.b.length-(r.b.length-r.pos)=r.pos by omega,<- m]
 |n+1=>by
  have d:=xie h m n;have hi:=qmj h n;rw[qnv];cases h1:qnv n (r.b.drop r.pos)with
  |none=>
   rw[h1]at d;simp only[Got]at d⊢;simp only[qa1];exact xo1 hi.1 d
  |some x=>
   obtain⟨ops,l⟩:=x;rw[h1]at d;have d:=qeo d;obtain⟨e1,_⟩:=qmn n h1;obtain⟨t1,t2⟩:=jp h.pos e1;have i:(⟨r.b,r.b.length-l.length,false⟩:Rd).Ok:=⟨h.len,jCt _ _⟩;have e:=xzh i rfl;simp only[t1]at e;simp only;cases h3:dOp l with
   |none=>
    rw[h3]at e;simp only[Got]at e⊢;simp only[qa1,d,e]
   |some x=>
    obtain⟨o,l'⟩:=x;rw[h3]at e;have e:=qeo e;simp only[Got,qa1,d,e]
theorem q3b {b:List UInt8} (q:b.length<=1000000000):jv b=match zd 1 20 b with
  |none=>([],4)
  |some (n,l)=>match qnv n.toNat l with
   |some (ops,[])=>if(qs ops).2≠0 then([],4)else(ops,0)
   | _=>([],4):=by
 have i:(⟨b,0,false⟩:Rd).Ok:=⟨q,jAj _⟩;have e:=qb9 1 20 ⟨b,0,false⟩ i;simp only[jAw,if_false,List.drop_zero]at e;unfold jv xde;cases hd:zd 1 20 b with
 |none=>
  rw[hd]at e;simp only at e;rw[e,if_pos];simp[qa1,rEnd]
 |some x=>
  obtain⟨n,l⟩:=x;rw[hd]at e;simp only at e;rw[e];obtain⟨p,hp⟩:=yk _ _ _ _ _ hd;obtain⟨t1,t2⟩:=jp (b:=b) (p:=0) (jAj _) (by rw[List.drop_zero];exact hp);have h:(⟨b,b.length-l.length,false⟩:Rd).Ok:=⟨q,jCt _ _⟩;have d:=xie h rfl n.toNat;simp only[t1]at d;simp only;cases h3:qnv n.toNat l with
  |none=>
   rw[h3]at d;simp only[Got]at d;rw[if_pos (by unfold rEnd;rw[d];simp)]
  |some x=>
   obtain⟨ops,m⟩:=x;rw[h3]at d;have d:=qeo d;rw[d];obtain⟨e1,_⟩:=qmn _ h3;have o:=congrArg List.length e1;simp only[jAc]at o;cases m with
   |nil=>
    simp only;rw[if_neg (by unfold rEnd;simp)]
   |cons c m=>
    simp only;rw[if_pos];unfold rEnd;simp only[List.length_cons]at o⊢;rw[if_pos]
    ·simp
    ·simp;omega
theorem qy1 {l:List OpS} (h:(qs l).2=0):jv (qs l).1=(l,0):=by
 obtain⟨h20,hp,he⟩:=wq h;have hlen:=qb7 l;rw[q3b (by omega),he];have hl0:l.length≠0:=by
  intro h0;unfold qs at h;rw[if_pos (by simp[h0])]at h;simp at h
 have e1:zd 1 20 (wOps l)=some ((l.length:Int),l.flatMap wOp):=by
  unfold zd wOps;rw[qb3 (x7 (by omega))];simp only;rw[if_neg (by omega)]
 have d:=q3a l hp [] l.length (jAi _);rw[jAu,jAr,jC0,List.flatMap_nil,jAu]at d;rw[e1];simp only[jA6];rw[d];simp only;rw[if_neg (by simp[h])]
theorem qy2 {b:List UInt8} (hb:b.length<=1000000000) (h:(jv b).2=0):qs (jv b).1=(b,0):=by
 have d:=q3b hb;cases h1:zd 1 20 b with
 |none=>rw[h1]at d;simp only at d;rw[d]at h;simp at h
 |some x=>
  obtain⟨n,l⟩:=x;rw[h1]at d;simp only at d;cases h2:qnv n.toNat l with
  |none=>rw[h2]at d;simp only at d;rw[d]at h;simp at h
  |some x=>
   obtain⟨ops,o⟩:=x;rw[h2]at d;cases o with
   |cons c o=>simp only at d;rw[d]at h;simp at h
   |nil=>
    simp only at d;by_cases i:(qs ops).2≠0
    ·rw[if_pos i]at d;rw[d]at h;simp at h
    ·rw[if_neg i]at d;have i:(qs ops).2=0:=by simpa using i
     rw[d];obtain⟨_,_,e⟩:=wq i;rw[e];obtain⟨e1,e2⟩:=qmn _ h2;unfold zd at h1;cases h3:dInt b with
     |none=>rw[h3]at h1;cases h1
     |some x=>
      obtain⟨m,l3⟩:=x;rw[h3]at h1;simp only at h1;split at h1
      ·cases h1
      ·cases h1;obtain⟨_,e3⟩:=qf6 h3;have:((ops.length:Nat):Int)=n:=by omega
       rw[wOps,this,e3,e1,jAu]
def d205:=cut prog f205 news
@[go_sem] def E205:=qj d205
def F205:=fnC d205 follows func205
def d199:=cut prog f199 news
@[go_sem] def E199:=qj d199
def F199:=fnC d199 follows func199
def d49:=cut prog f49 news
@[go_sem] def E49:=qj d49
def F49:=fnC d49 follows func49
theorem xue (a b:Qu):(a.acc==b.acc&&a.cons==b.cons&&decide (a.items=b.items))=decide (a=b):=by
 obtain⟨a1,a2,a3⟩:=a;obtain⟨b1,b2,b3⟩:=b;rw[jBl];simp[and_assoc]
theorem xdi (p q:Pk):qf prog 205 [.d (.agg (qi p)),.d (.agg (qi q))] [] (.d (.bool (qj9 p q))) []:=by
 refine F205.go ?_;refine ez1 @qi.eq_1 ?_;rfl
def qmo (q:Qu) (i:Nat):Bool:=
 !(!qcz (q.items.getD i default)||(q.items.getD i default).kind !=1||(q.items.getD i default).seq !=IntKind.i64.wrap (IntKind.i64.wrap (q.cons+1)+(i:Int))|| !qj9 (q.items.getD i default) (q.items.getD 0 default))
def xuf (q:Qu):Bool:=decide (q.cons<0)||decide (q.acc<q.cons)||decide (q.acc>1099511627776)||decide ((q.items.length:Int)>4)||(q.items.length:Int) !=IntKind.i64.wrap (q.acc-q.cons)
def qk4 (q:Qu):Bool:= !xuf q&&qb6 (qmo q) q.items.length
def Sv51 (q:Qu) (i:{i:Nat//qb6 (qmo q) i=true}):St:=⟨[(1,true,.d (.ptr 0 0)),(3,true,.d (.int .i64 (i.val:Nat)))],[qObj q],[],1⟩
theorem qnx (q:Qu) (p:q.Sm):qf prog 199 [.d (.agg (encQ q))] [] (.d (.bool (qk4 q))) []:=by
 have hl:=p.1;refine F199.go ?_;refine eo1 @encQ.eq_1 ?_;have hb:(decide (q.cons<0)||decide (q.acc<q.cons)||decide (q.acc>1099511627776)||decide ((q.items.length:Int)>4)||(q.items.length:Int) !=IntKind.i64.wrap (q.acc-q.cons))=xuf q:=rfl;refine ez1 @hb ?_;refine qt _ rfl rfl (λh0=> ?_) (λh0=> ?_)
 ·exact et2 @qk4.eq_1 @h0
 refine ez ?_;refine qg (Sv51 q) (λi=>q.items.length-i.val) ⟨0,rfl⟩ ?_ (λi=> ?_)
 ·exact et2 @Sv51.eq_1 @qObj.eq_1
 obtain⟨i,hi⟩:=i;refine ez2 @Sv51.eq_1 @qObj.eq_1 ?_;refine qt _ rfl rfl (λh=> ?_) (λh=> ?_)
 ·have e:i<q.items.length:=by simpa using h
  have l:0<q.items.length:=by omega
  refine eo3 (qh qi q.items e) (qh qi q.items l) @qi.eq_1 ?_
  (repeat(with_reducible refine ob ?_));refine cl F114 (qnm q.items[i] (p.2 _ (jAg e))) ?_
  refine eo2 (qh qi q.items l) @qi.eq_1 ?_
  (repeat(with_reducible refine ob ?_));refine cl F205 (xdi q.items[i] q.items[0]) ?_
  refine eo ?_;have hx:(!qcz q.items[i]||q.items[i].kind !=1||q.items[i].seq !=IntKind.i64.wrap (IntKind.i64.wrap (q.cons+1)+(i:Int))|| !qj9 q.items[i] q.items[0])= !qmo q i:=by
   simp only[qmo,zp e,zp l,Bool.not_not]
  refine ez1 @hx ?_;refine qt _ rfl rfl (λo=> ?_) (λo=> ?_)
  ·have m:qmo q i=false:=by simpa using o
   exact et2 @qk4.eq_1 (qel e m)
  ·have m:qmo q i=true:=by simpa using o
   refine ez ?_;refine⟨⟨i+1,yz hi m⟩,?_,by dsimp only;omega⟩;exact et3 @Sv51.eq_1 @qObj.eq_1 (qe (show i<9223372036854775807 by omega))
 ·have e:q.items.length<=i:=by simpa using h
  have ha:qb6 (qmo q) q.items.length=true:=zh.2 λj hj=>zh.1 hi j (by omega);exact et3 @qk4.eq_1 @h0 @ha
theorem xdj (a b:Qu) (e:a.Sm):qf prog 49 [.d (.agg (encQ a)),.d (.agg (encQ b))] [] (.d (.bool (decide (a=b)))) []:=by
 refine F49.go ?_;refine eo1 @encQ.eq_1 ?_;refine cl F111 (xob a.items b.items e.1 e.2) ?_;refine ez ?_;exact xue a b
def d50:=cut prog f50 news
@[go_sem] def E50:=qj d50
def F50:=fnC d50 follows func50
def xo2 (q:Qu) (i:{i:Nat//i<=q.items.length}):St:=
 ⟨[(1,true,.d (.ptr 0 0)),(2,true,.d (.ptr 1 0)),(3,true,.d (.ptr 2 0)),(4,true,.d (.int .i64 (i.val:Nat)))],
  [qObj q,.row [.d (.int .i64 0),.d (.int .i64 0),.d .nilsl],.row [.d (.int .i64 q.acc),.d (.int .i64 q.cons),.own 0 9 ((q.items.take i.val).map qi)]],[0],1⟩
theorem xif (q:Qu) (hq:q.items.length<=1000):qf prog 50 [.d (.agg (encQ q))] [] (.d (.agg (encQ q))) []:=by
 refine F50.go ?_;refine ez1 @encQ.eq_1 ?_;refine qg (xo2 q) (λi=>q.items.length-i.val) ⟨0,jAj _⟩ ?_ (λi=> ?_)
 ·exact et2 @xo2.eq_1 @qObj.eq_1
 obtain⟨i,hi⟩:=i;refine ez2 @xo2.eq_1 @qObj.eq_1 ?_;refine qt _ rfl rfl (λh=> ?_) (λh=> ?_)
 ·have e:i<q.items.length:=by simpa using h
  refine eo2 (qh qi q.items e) @qi.eq_1 ?_;have hlt:(q.items.take i).length<=1000:=by simp;omega
  refine⟨⟨i+1,e⟩,?_,by dsimp only;omega⟩;exact et5 @xo2.eq_1 @qObj.eq_1 (ye qi q.items e) @qi.eq_1 (qe (show i<9223372036854775807 by omega))
 ·have e:i=q.items.length:=by
   have:q.items.length<=i:=by simpa using h
   omega
  subst e;exact et1 @jAr.{0}
theorem xo3 (v:AV):qsd v=qbz v:=by
 rw[jBl];by_cases d:v.kind=1
 ·by_cases hs:v.s= []<;>simp[qsd,qpz,qbz,d,hs]
 ·by_cases h2:v.kind=2<;>simp[qsd,qpz,qbz,d,h2]
theorem xo4 (n:Int):qyt n= !(decide (n<0)||decide (n>1099511627776)):=by
 rw[jBl];simp[qyt,in46]
theorem q3c (p:Pk):qcy p=(decide ((p.values.length:Int)<=4)&&decide ((p.clock.length:Int)<=6)&& !(p.values.any λv=> !qbz v)&& !(p.clock.any λn=>decide (n<0)||decide (n>1099511627776))):=by
 have h1:p.values.all qsd= !(p.values.any λv=> !qbz v):=by
  rw[List.not_any_eq_all_not];congr 1;funext v;simp[xo3]
 have h2:p.clock.all qyt= !(p.clock.any λn=>decide (n<0)||decide (n>1099511627776)):=by
  rw[List.not_any_eq_all_not];congr 1;funext n;rw[xo4]
 rw[qcy,h1,h2];congr 2;rw[jBl];simp
theorem xxl (x y:Bool):(if(!x)=true then false else y)=(x&&y):=by cases x<;>rfl
theorem qv0 (p:Pk):qbv p=(qcz p&&p.kind==1):=by
 by_cases d:p.kind=1
 ·have e:qcz p=(in46 p.sess 1 32&&(in46 p.epoch 0 1&&qvn p&&in46 p.seq 1 1099511627776&&in46 p.label 0 39&&qcy p)):=by
   simp only[qcz,d,xxl,beq_self_eq_true,if_true]
  rw[e,jBl];simp only[qbv,qm,qf1,data,qdi,role,qvn,in46,q3c,d,beq_self_eq_true,jCr,jEd,if_true,jAf,decide_eq_true_eq,jA0,beq_iff_eq,jBd,bne_iff_ne];generalize (p.values.any λv=> !qbz v)=a;generalize (p.clock.any λn=>decide (n<0)||decide (n>1099511627776))=b;constructor
  ·intro h;grind
  ·intro h;grind
 ·have:(p.kind==1)=false:=by simpa using d
  simp only[qbv,this,jEh,jFj]
structure QW0 (q:Qu):Prop where
 lo:0<=q.cons
 le:q.cons<=q.acc
 hi:q.acc<=1099511627776
 len:(q.items.length:Int)=q.acc-q.cons
 few:q.items.length<=4
 item: ∀(i:Nat) (h:i<q.items.length),qbv q.items[i]=true∧qj9 q.items[i] (q.items[0]'(by omega))=true∧q.items[i].seq=q.cons+1+i
theorem xr9 {c:Int} {i:Nat} (h1:0<=c) (h2:c<=1099511627776) (h3:i<=4):IntKind.i64.wrap (IntKind.i64.wrap (c+1)+(i:Int))=c+1+i:=by
 rw[wrap_i64 (n:=c+1) (by omega) (by omega),wrap_i64 (by omega) (by omega)]
theorem q3d {q:Qu} {i:Nat} (h1:0<=q.cons) (h2:q.cons<=1099511627776) (h3:q.items.length<=4) (hi:i<q.items.length):
  qrz q i=true↔qbv q.items[i]=true∧qj9 q.items[i] (q.items[0]'(by omega))=true∧q.items[i].seq=q.cons+1+i:=by
 have h0:0<q.items.length:=by omega
 simp only[qrz,zp hi,zp h0,jAf,beq_iff_eq,xr9 h1 h2 (show i<=4 by omega),and_assoc]
theorem qv1 {q:Qu} {i:Nat} (h1:0<=q.cons) (h2:q.cons<=1099511627776) (h3:q.items.length<=4) (hi:i<q.items.length):
  qmo q i=true↔qbv q.items[i]=true∧qj9 q.items[i] (q.items[0]'(by omega))=true∧q.items[i].seq=q.cons+1+i:=by
 have h0:0<q.items.length:=by omega
 simp only[qmo,zp hi,zp h0,xr9 h1 h2 (show i<=4 by omega),qv0,jBd,jA4,jCf,bne_eq_false_iff_eq,jAf,beq_iff_eq];grind
theorem qbo (q:Qu):kw q=true↔QW0 q:=by
 simp only[kw,jAf,decide_eq_true_eq,beq_iff_eq,zh];constructor
 ·rintro⟨h,⟨⟨⟨d,m⟩,l⟩,e⟩,o⟩;rw[wrap_i64 (by omega) (by omega)]at e;exact⟨d,m,l,e,by omega,λi hi=>(q3d d (by omega) (by omega) hi).1 (h i hi)⟩
 ·rintro⟨d,m,l,e,o,h6⟩;rw[wrap_i64 (by omega) (by omega)];exact⟨λi hi=>(q3d d (by omega) o hi).2 (h6 i hi),⟨⟨⟨d,m⟩,l⟩,e⟩,by omega⟩
theorem q7t (q:Qu):qk4 q=true↔QW0 q:=by
 simp only[qk4,xuf,jAf,jBd,jA4,decide_eq_false_iff_not,bne_eq_false_iff_eq,zh];constructor
 ·rintro⟨⟨⟨⟨⟨l,h2⟩,h3⟩,e⟩,d⟩,h⟩;rw[wrap_i64 (by omega) (by omega)]at d;exact⟨by omega,by omega,by omega,d,by omega,λi hi=>(qv1 (by omega) (by omega) (by omega) hi).1 (h i hi)⟩
 ·rintro⟨l,h2,h3,d,e,h6⟩;rw[wrap_i64 (by omega) (by omega)];exact⟨⟨⟨⟨⟨by omega,by omega⟩,by omega⟩,by omega⟩,d⟩,λi hi=>(qv1 l (by omega) e hi).2 (h6 i hi)⟩
theorem qv2 (q:Qu):qk4 q=kw q:=by rw[jBl,q7t,qbo]
def qci {α:Type} (f:Rd->α×Rd):Nat->Rd->List α×Rd
 |0,r=>([],r)
 |n+1,r=>if r.failed=true then([],r)else((f r).1::(qci f n (f r).2).1,(qci f n (f r).2).2)
def qgx {α:Type} (most:Int) (f:Rd->α×Rd) (r:Rd):List α×Rd:=qci f (xl 0 most r).1.toNat (xl 0 most r).2
def rAV (r:Rd):AV×Rd:=
 if(xl 1 2 r).2.failed=true then(⟨(xl 1 2 r).1,0,[]⟩,(xl 1 2 r).2)else
 if(xl 1 2 r).1=1 then(⟨(xl 1 2 r).1,(rInt (xl 1 2 r).2).1,[]⟩,(rInt (xl 1 2 r).2).2)else
 (⟨(xl 1 2 r).1,0,(y6 40 (xl 1 2 r).2).1⟩,(y6 40 (xl 1 2 r).2).2)
def qc7 (most:Int):=qb8 ([]:List Int) (qgx most rInt)
def qd8 (most:Int):=qb8 ([]:List AV) (qgx most rAV)
theorem q3e {α:Type} {f:Rd->α×Rd} (d: ∀r:Rd,r.Ok->(f r).2.Ok∧(f r).2.b=r.b): ∀(n:Nat) {r:Rd},r.Ok->(qci f n r).2.Ok∧(qci f n r).2.b=r.b
 |0,r,h=>⟨h,rfl⟩
 |n+1,r,h=>by
  rw[qci];split
  ·exact⟨h,rfl⟩
  ·have i:=d r h;have e:=q3e d n i.1;exact⟨e.1,e.2.trans i.2⟩
theorem qmp {α:Type} {f:Rd->α×Rd} (hf: ∀r:Rd,r.Ok->(f r).2.Ok∧(f r).2.b=r.b) {r:Rd} (h:r.Ok) (most:Int):(qgx most f r).2.Ok∧(qgx most f r).2.b=r.b:=by
 have e:=wi h 0 most;have d:=q3e hf (xl 0 most r).1.toNat e.1;exact⟨d.1,d.2.trans e.2⟩
theorem qsp {r:Rd} (h:r.Ok):(rAV r).2.Ok∧(rAV r).2.b=r.b:=by
 have e:=wi h 1 2;unfold rAV;split
 ·exact e
 ·split
  ·have d:=qf5 e.1;exact⟨d.1,d.2.trans e.2⟩
  ·have d:=qk3 e.1 40;exact⟨d.1,d.2.trans e.2⟩
theorem q3f {α:Type} {f:Rd->α×Rd}: ∀(n:Nat) {r:Rd},(qci f n r).1.length<=n
 |0,r=>jAi _
 |n+1,r=>by
  rw[qci];split
  ·exact jAj _
  ·exact Nat.succ_le_succ (q3f n)
theorem qgy {α:Type} {f:Rd->α×Rd} {most:Nat} {r:Rd}:(qgx most f r).1.length<=most:=by
 unfold qgx;cases hf:(xl 0 most r).2.failed with
 |true=>
  generalize xl 0 most r=x at hf;cases x.1.toNat with
  |zero=>exact jAj _
  |succ n=>rw[qci,if_pos hf];exact jAj _
 |false=>
  have h1:=qbb hf;have h2:=q3f (f:=f) (xl 0 most r).1.toNat (r:=(xl 0 most r).2);omega
def d301:=cut prog f301 news
@[go_sem] def E301:=qj d301
def F301:=fnC d301 follows func301
def d304:=cut prog f304 news
@[go_sem] def E304:=qj d304
def F304:=fnC d304 follows func304
def d300:=cut prog f300 news
@[go_sem] def E300:=qj d300
def F300:=fnC d300 follows func300
def d303:=cut prog f303 news
@[go_sem] def E303:=qj d303
def F303:=fnC d303 follows func303
def d299:=cut prog f299 news
@[go_sem] def E299:=qj d299
def F299:=fnC d299 follows func299
def d302:=cut prog f302 news
@[go_sem] def E302:=qj d302
def F302:=fnC d302 follows func302
def d298:=cut prog f298 news
@[go_sem] def E298:=qj d298
def F298:=fnC d298 follows func298
def d254:=cut prog f254 news
@[go_sem] def E254:=qj d254
def F254:=fnC d254 follows func254
def d253:=cut prog f253 news
@[go_sem] def E253:=qj d253
def F253:=fnC d253 follows func253
theorem xxm (r:Rd) (m:r.Ok):qf prog 301 [.d (.ptr 0 0)] [rdO r] (.d (.agg (zw (rAV r).1))) [rdO (rAV r).2]:=by
 have l:=qfk r 1 2 m;have hi:=(wi m 1 2).1;unfold rAV;generalize xl 1 2 r=x at l hi⊢;obtain⟨k,e⟩:=x;simp only at hi;simp only[rdO]at l;refine F301.go ?_;refine eo1 @rdO.eq_1 ?_;refine clO [0] F246 (l) ?_;refine ez ?_;cases hf:e.failed
 ·(repeat(with_reducible refine ob ?_));refine no_ ?_
  refine ez ?_;refine xf _ (λh=> ?_) (λh=> ?_)
  ·have i:k=1:=by simpa using h
   have o:=qy0 e hi;simp only[rdO,hf]at o;refine eo ?_;refine clO [0] F244 (o) ?_;subst i;simp only[if_true,jAw,if_false,zw];exact et
  ·have i:k≠1:=by simpa using h
   have p:=qvw e 40 hi (by decide);simp only[rdO,hf]at p;refine eo ?_;refine clO [0] F295 (p) ?_;simp only[i,jAw,if_false,zw];exact et
 ·(repeat(with_reducible refine ob ?_));refine ya ?_
  simp only[if_true,hf,zw];exact et
def Sli {α:Type} (es:Nat) (enc:α->List D) (k:FuncId) (n:Int) (x:Nat×List α×Rd):St:=
 ⟨[(0,true,.d (.ptr 0 0)),(2,true,.d (.func (.func k) [.ptr 0 0] [])),(7,true,.d (.int .i64 n)),(8,true,.own 0 es (x.2.1.map enc)),(9,true,.d (.int .i64 (x.1:Nat)))],[rdO x.2.2],[0],1⟩
theorem xo5 (r:Rd) (most:Nat) (A:r.Ok) (hm:most<=1000):qf prog 304 [.d (.ptr 0 0),.d (.int .i64 most),.d (.func (.func 244) [.ptr 0 0] [])] [rdO r] (.d (.sl 1 ((qgx most rInt r).1.map encI))) [rdO (qgx most rInt r).2]:=by
 have t:=qfk r 0 most A;have hi:=(wi A 0 most).1;have e:=qbb (r:=r) (lo:=0) (hi:=most);unfold qgx;generalize xl 0 most r=x at t hi e⊢;obtain⟨n,v⟩:=x;simp only at hi e;simp only[rdO]at t;refine F304.go ?_;refine eo1 @rdO.eq_1 ?_;refine clO [0] F246 (t) ?_;refine ez ?_;refine qg (λx:{x:Nat×List Int×Rd//x.1<=most∧x.2.1.length=x.1∧x.2.2.Ok∧(x.2.1++(qci rInt (n.toNat-x.1) x.2.2).1,(qci rInt (n.toNat-x.1) x.2.2).2)=qci rInt n.toNat v∧(x.2.2.failed=false->n<=most)}=>Sli 1 encI 244 n x.val) (λx=>most+1-x.val.1) ⟨(0,[],v),jAj _,rfl,hi,by simp,λh=>(e h).2⟩ ?_ (λx=> ?_)
 ·exact et4 @Sli.eq_1 @rdO.eq_1 @List.map_nil.{0,0} @jAt
 obtain⟨⟨i,l,b,p,f⟩,h1,C,u,m,B⟩:=x;simp only at h1 C u m B;cases f
 ·have hn:=B rfl;refine ez2 @Sli.eq_1 @rdO.eq_1 ?_;refine xf _ (λh=> ?_) (λh=> ?_)
  ·have hlt:i<n.toNat:=by simp at h;omega
   have z:=qy0 ⟨b,p,false⟩ u;obtain⟨v1,v2⟩:=qf5 u;have o:n.toNat-i=(n.toNat-(i+1))+1:=by omega
   rw[o,qci,if_neg (by simp)]at m;simp only[rdO,encI]at z;refine eo ?_;refine clO [0] F244 (z) ?_;refine eo ?_;refine⟨⟨(i+1,l++ [(rInt ⟨b,p,false⟩).1],(rInt ⟨b,p,false⟩).2),by simp only;omega,by simp[C],v1,by simpa using m,λ_=>hn⟩,?_,by simp only;omega⟩;exact et7 @Sli.eq_1 @rdO.eq_1 @jA2.{0,0} @List.map_cons.{0,0} @List.map_nil.{0,0} @encI.eq_1 (qe (show i<9223372036854775807 by omega))
  ·have q:n.toNat-i=0:=by simp at h;omega
   rw[q,qci,jAu]at m;exact et1 m.symm
 ·have hx:qci rInt (n.toNat-i) ⟨b,p,true⟩=([],⟨b,p,true⟩):=by
   cases n.toNat-i with
   |zero=>rfl
   |succ k=>rw[qci,if_pos rfl]
  rw[hx,jAu]at m;refine ez2 @Sli.eq_1 @rdO.eq_1 ?_;refine xf _ (λh=> ?_) (λh=> ?_)
  ·simp at h
  ·exact et1 m.symm
theorem xo6 (r:Rd) (most:Nat) (A:r.Ok) (hm:most<=1000):qf prog 300 [.d (.ptr 0 0),.d (.int .i64 most),.d (.func (.func 301) [.ptr 0 0] [])] [rdO r] (.d (.sl 3 ((qgx most rAV r).1.map zw))) [rdO (qgx most rAV r).2]:=by
 have t:=qfk r 0 most A;have hi:=(wi A 0 most).1;have e:=qbb (r:=r) (lo:=0) (hi:=most);unfold qgx;generalize xl 0 most r=x at t hi e⊢;obtain⟨n,v⟩:=x;simp only at hi e;simp only[rdO]at t;refine F300.go ?_;refine eo1 @rdO.eq_1 ?_;refine clO [0] F246 (t) ?_;refine ez ?_;refine qg (λx:{x:Nat×List AV×Rd//x.1<=most∧x.2.1.length=x.1∧x.2.2.Ok∧(x.2.1++(qci rAV (n.toNat-x.1) x.2.2).1,(qci rAV (n.toNat-x.1) x.2.2).2)=qci rAV n.toNat v∧(x.2.2.failed=false->n<=most)}=>Sli 3 zw 301 n x.val) (λx=>most+1-x.val.1) ⟨(0,[],v),jAj _,rfl,hi,by simp,λh=>(e h).2⟩ ?_ (λx=> ?_)
 ·exact et4 @Sli.eq_1 @rdO.eq_1 @List.map_nil.{0,0} @jAt
 obtain⟨⟨i,l,b,p,f⟩,h1,C,u,m,B⟩:=x;simp only at h1 C u m B;cases f
 ·have hn:=B rfl;refine ez2 @Sli.eq_1 @rdO.eq_1 ?_;refine xf _ (λh=> ?_) (λh=> ?_)
  ·have hlt:i<n.toNat:=by simp at h;omega
   have z:=xxm ⟨b,p,false⟩ u;obtain⟨v1,v2⟩:=qsp u;have o:n.toNat-i=(n.toNat-(i+1))+1:=by omega
   rw[o,qci,if_neg (by simp)]at m;simp only[rdO,zw]at z;refine eo ?_;refine clO [0] F301 (z) ?_;refine eo ?_;refine⟨⟨(i+1,l++ [(rAV ⟨b,p,false⟩).1],(rAV ⟨b,p,false⟩).2),by simp only;omega,by simp[C],v1,by simpa using m,λ_=>hn⟩,?_,by simp only;omega⟩;exact et7 @Sli.eq_1 @rdO.eq_1 @jA2.{0,0} @List.map_cons.{0,0} @List.map_nil.{0,0} @zw.eq_1 (qe (show i<9223372036854775807 by omega))
  ·have q:n.toNat-i=0:=by simp at h;omega
   rw[q,qci,jAu]at m;exact et1 m.symm
 ·have hx:qci rAV (n.toNat-i) ⟨b,p,true⟩=([],⟨b,p,true⟩):=by
   cases n.toNat-i with
   |zero=>rfl
   |succ k=>rw[qci,if_pos rfl]
  rw[hx,jAu]at m;refine ez2 @Sli.eq_1 @rdO.eq_1 ?_;refine xf _ (λh=> ?_) (λh=> ?_)
  ·simp at h
  ·exact et1 m.symm
theorem xo7 (r:Rd) (most:Nat) (hr:r.Ok) (hm:most<=1000):qf prog 303 [.d (.ptr 1 0),.d (.ptr 2 0)] [rdO r,.row [.d (.ptr 0 0)],.row [.d (.int .i64 most)]] (.d (.sl 1 ((qgx most rInt r).1.map encI))) [rdO (qgx most rInt r).2,.row [.d (.ptr 0 0)],.row [.d (.int .i64 most)]]:=by
 have hc:=xo5 r most hr hm;simp only[rdO]at hc;refine F303.go ?_;refine eo1 @rdO.eq_1 ?_;refine clO [0] F304 (hc) ?_;exact et
theorem xdk (r:Rd) (most:Nat) (hr:r.Ok) (hm:most<=1000):qf prog 299 [.d (.ptr 1 0),.d (.ptr 2 0)] [rdO r,.row [.d (.ptr 0 0)],.row [.d (.int .i64 most)]] (.d (.sl 3 ((qgx most rAV r).1.map zw))) [rdO (qgx most rAV r).2,.row [.d (.ptr 0 0)],.row [.d (.int .i64 most)]]:=by
 have hc:=xo6 r most hr hm;simp only[rdO]at hc;refine F299.go ?_;refine eo1 @rdO.eq_1 ?_;refine clO [0] F300 (hc) ?_;exact et
theorem q7u (r:Rd) (most:Nat) (hr:r.Ok) (hm:most<=1000):qf prog 302 [.d (.ptr 0 0),.d (.func (.func 303) [] [.ptr 1 0,.ptr 2 0])] [rdO r,.row [.d (.ptr 0 0)],.row [.d (.int .i64 most)]] (.d (.sl 1 ((qc7 most r).1.map encI))) [rdO (qc7 most r).2,.row [.d (.ptr 0 0)],.row [.d (.int .i64 most)]]:=by
 have hc:=xo7 r most hr hm;unfold qc7;unfold qb8;obtain⟨b,p,f⟩:=r;simp only[rdO]at hc;refine F302.go ?_;refine ez1 @rdO.eq_1 ?_;cases f
 ·refine eo ?_;refine no_ ?_;refine eo ?_;refine clO [0,1,2] F303 (hc) ?_;refine ez ?_;cases hf:(qgx most rInt ⟨b,p,false⟩).2.failed
  ·refine eo ?_;refine no_ ?_;simp only[hf,if_false,go_sem,simprocAttr]
  ·refine eo ?_;refine ya ?_;exact et2 @hf @List.map_nil.{0,0}
 ·refine eo ?_;refine ya ?_;exact et1 @List.map_nil.{0,0}
theorem qy3 (r:Rd) (most:Nat) (hr:r.Ok) (hm:most<=1000):qf prog 298 [.d (.ptr 0 0),.d (.func (.func 299) [] [.ptr 1 0,.ptr 2 0])] [rdO r,.row [.d (.ptr 0 0)],.row [.d (.int .i64 most)]] (.d (.sl 3 ((qd8 most r).1.map zw))) [rdO (qd8 most r).2,.row [.d (.ptr 0 0)],.row [.d (.int .i64 most)]]:=by
 have hc:=xdk r most hr hm;unfold qd8;unfold qb8;obtain⟨b,p,f⟩:=r;simp only[rdO]at hc;refine F298.go ?_;refine ez1 @rdO.eq_1 ?_;cases f
 ·refine eo ?_;refine no_ ?_;refine eo ?_;refine clO [0,1,2] F299 (hc) ?_;refine ez ?_;cases hf:(qgx most rAV ⟨b,p,false⟩).2.failed
  ·refine eo ?_;refine no_ ?_;simp only[hf,if_false,go_sem,simprocAttr]
  ·refine eo ?_;refine ya ?_;exact et2 @hf @List.map_nil.{0,0}
 ·refine eo ?_;refine ya ?_;exact et1 @List.map_nil.{0,0}
theorem xig (r:Rd) (most:Nat) (hr:r.Ok) (hm:most<=1000):qf prog 254 [.d (.ptr 0 0),.d (.int .i64 most)] [rdO r] (.d (.sl 1 ((qc7 most r).1.map encI))) [rdO (qc7 most r).2]:=by
 have hc:=q7u r most hr hm;simp only[rdO]at hc;refine F254.go ?_;refine ez1 @rdO.eq_1 ?_;refine clO [0,1,2] F302 hc ?_;exact et
theorem xo8 (r:Rd) (most:Nat) (hr:r.Ok) (hm:most<=1000):qf prog 253 [.d (.ptr 0 0),.d (.int .i64 most)] [rdO r] (.d (.sl 3 ((qd8 most r).1.map zw))) [rdO (qd8 most r).2]:=by
 have hc:=qy3 r most hr hm;simp only[rdO]at hc;refine F253.go ?_;refine ez1 @rdO.eq_1 ?_;refine clO [0,1,2] F298 hc ?_;exact et
theorem qv3 {r:Rd} (h:r.Ok) (most:Int):(qc7 most r).2.Ok∧(qc7 most r).2.b=r.b:=qfj h (qmp (λ_ h=>qf5 h) h most)
theorem qsq {r:Rd} (h:r.Ok) (most:Int):(qd8 most r).2.Ok∧(qd8 most r).2.b=r.b:=qfj h (qmp (λ_ h=>qsp h) h most)
theorem qgz {α:Type} {f:Rd->List α×Rd} {k:Nat} (h: ∀r,(f r).1.length<=k) (r:Rd):(qb8 [] f r).1.length<=k:=by
 unfold qb8;split
 ·exact jAj _
 ·split
  ·exact jAj _
  ·exact h r
def qho {α:Type} (d:List UInt8->Option (α×List UInt8)):Nat->List UInt8->Option (List α×List UInt8)
 |0,l=>some ([],l)
 |n+1,l=>match d l with
  |none=>none
  |some (v,l1)=>match qho d n l1 with
   |none=>none
   |some (vs,l2)=>some (v::vs,l2)
def qk5 {α:Type} (most:Int) (d:List UInt8->Option (α×List UInt8)) (l0:List UInt8):Option (List α×List UInt8):=match zd 0 most l0 with
 |none=>none
 |some (n,l)=>qho d n.toNat l
def dAV (l0:List UInt8):Option (AV×List UInt8):=match zd 1 2 l0 with
 |none=>none
 |some (k,l)=>if k=1 then(match dInt l with
   |none=>none
   |some (n,l1)=>some (⟨k,n,[]⟩,l1))else(match qcg 40 l with
   |none=>none
   |some (s,l1)=>some (⟨k,0,s⟩,l1))
theorem q3g {α:Type} {d:List UInt8->Option (α×List UInt8)} {w:α->List UInt8} (l:List UInt8): ∀xs:List α,(∀x∈xs,∀l,d (w x++l)=some (x,l)) ->qho d xs.length (xs.flatMap w++l)=some (xs,l)
 | [],_=>rfl
 |x::xs,h=>by
  have ih:=q3g l xs λy hy=>h y (by simp[hy]);simp only[List.length_cons,qho,List.flatMap_cons,jAh,h x (by simp),ih]
theorem q3h {α:Type} {d:List UInt8->Option (α×List UInt8)} {w:α->List UInt8} (h: ∀i x l,d i=some (x,l) ->i=w x++l): ∀(n:Nat) {i:List UInt8} {xs:List α} {l:List UInt8},qho d n i=some (xs,l) ->i=xs.flatMap w++l∧xs.length=n
 |0,i,xs,l,e=>by cases e;exact⟨rfl,rfl⟩
 |n+1,i,xs,l,e=>by
  rw[qho]at e;cases h1:d i with
  |none=>rw[h1]at e;cases e
  |some x=>
   obtain⟨v,l1⟩:=x;rw[h1]at e;simp only at e;cases h2:qho d n l1 with
   |none=>rw[h2]at e;cases e
   |some x=>
    obtain⟨vs,l2⟩:=x;rw[h2]at e;cases e;obtain⟨e1,e2⟩:=q3h h n h2;rw[h _ _ _ h1,e1];simp[e2]
theorem qi3 {lo hi n:Int} (h1:lo<=n) (h2:n<=hi) (hn:I64 n) (l:List UInt8):zd lo hi (wInt n++l)=some (n,l):=by
 unfold zd;rw[qb3 hn];simp only;rw[if_neg (by omega)]
theorem qi4 {lo hi n:Int} {d l:List UInt8} (h:zd lo hi d=some (n,l)):d=wInt n++l∧lo<=n∧n<=hi∧I64 n:=by
 unfold zd at h;split at h
 ·rename_i hd;split at h
  ·cases h
  ·cases h;obtain⟨h1,h2⟩:=qf6 hd;exact⟨h2,by omega,by omega,h1⟩
 ·cases h
theorem q3i {α:Type} {most:Nat} (hm:most<=1000) {d:List UInt8->Option (α×List UInt8)} {w:α->List UInt8} {xs:List α} (hl:xs.length<=most) (h: ∀x∈xs,∀l,d (w x++l)=some (x,l)) (l:List UInt8):qk5 most d (wInt xs.length++xs.flatMap w++l)=some (xs,l):=by
 unfold qk5;rw[jAh,qi3 (by omega) (by omega) (x7 (by omega))];simp only[jA6];exact q3g l xs h
theorem q3j {α:Type} {most:Int} {d:List UInt8->Option (α×List UInt8)} {w:α->List UInt8} (h: ∀i x l,d i=some (x,l) ->i=w x++l) {i:List UInt8} {xs:List α} {l:List UInt8} (e:qk5 most d i=some (xs,l)):i=wInt xs.length++xs.flatMap w++l∧(xs.length:Int)<=most:=by
 unfold qk5 at e;cases h1:zd 0 most i with
 |none=>rw[h1]at e;cases e
 |some x=>
  obtain⟨n,l1⟩:=x;rw[h1]at e;obtain⟨a1,a2,a3,_⟩:=qi4 h1;obtain⟨b1,b2⟩:=q3h h _ e;have:(xs.length:Int)=n:=by omega
  rw[this,a1,b1,jAh];exact⟨rfl,a3⟩
theorem xug {v:AV} (hv:v.Sm) (hp:qbz v=true) (l:List UInt8):dAV (wAV v++l)=some (v,l):=by
 obtain⟨h,i,h3⟩:=hv;obtain⟨k,n,s⟩:=v;simp only at h i h3;unfold dAV wAV;by_cases e:k=1
 ·subst e;have hs:s= []:=by simpa[qbz]using hp
  rw[if_pos rfl,jAh,qi3 (by decide) (by decide) h];simp only[if_true];rw[qb3 i];simp only[hs]
 ·by_cases d:k=2
  ·subst d;have hs:n=0∧(s.length:Int)<=40:=by simpa[qbz]using hp
   rw[if_neg e,if_pos rfl,jAh,qi3 (by decide) (by decide) h];simp only;rw[if_neg e,qnt hs.2 (by decide)];simp only[hs.1]
  ·simp[qbz,e,d]at hp
theorem xih {e:List UInt8} {v:AV} {l:List UInt8} (h:dAV e=some (v,l)):e=wAV v++l∧v.Sm:=by
 unfold dAV at h;cases h1:zd 1 2 e with
 |none=>rw[h1]at h;cases h
 |some x=>
  obtain⟨k,i⟩:=x;rw[h1]at h;obtain⟨o,a2,a3,m⟩:=qi4 h1;simp only at h;by_cases d:k=1
  ·rw[if_pos d]at h;cases h2:dInt i with
   |none=>rw[h2]at h;cases h
   |some x=>
    obtain⟨n,l2⟩:=x;rw[h2]at h;cases h;obtain⟨b1,b2⟩:=qf6 h2;refine⟨?_,m,b1,by simp⟩;rw[o,b2,wAV,if_pos d,jAh]
  ·rw[if_neg d]at h;cases h2:qcg 40 i with
   |none=>rw[h2]at h;cases h
   |some x=>
    obtain⟨s,l2⟩:=x;rw[h2]at h;cases h;obtain⟨b1,b2⟩:=qnu h2;refine⟨?_,m,by unfold I64;simp,by simp only;omega⟩;rw[o,b1,wAV,if_neg d,if_pos (show k=2 by omega),jAh]
theorem xac:qns dAV:=λ_ _ _ h=>⟨_,(xih h).1⟩
theorem xii {α:Type} {d:List UInt8->Option (α×List UInt8)} {f:Rd->α×Rd} (i:qns d) (m: ∀r:Rd,r.Ok->r.failed=false->Got (d (r.b.drop r.pos)) r.b (f r)):
  ∀(n:Nat) {r:Rd},r.Ok->r.failed=false->Got (qho d n (r.b.drop r.pos)) r.b (qci f n r)
 |0,r,hr,h0=>by
  have:=hr.pos;simp only[Got,qho,qci,jAp];rw[show r.b.length-(r.b.length-r.pos)=r.pos by omega,<- h0]
 |n+1,r,hr,h0=>by
  have e:=m r hr h0;rw[qho,qci,if_neg (by simp[h0])];cases hd:d (r.b.drop r.pos)with
  |none=>
   rw[hd]at e;simp only[Got]at e⊢;cases n with
   |zero=>exact e
   |succ n=>rw[qci,if_pos e];exact e
  |some x=>
   obtain⟨v,l⟩:=x;rw[hd]at e;have e:=qeo e;obtain⟨p,hp⟩:=i _ _ _ hd;obtain⟨t1,t2⟩:=jp hr.pos hp;have h:=xii i m n (r:=⟨r.b,r.b.length-l.length,false⟩) ⟨hr.len,jCt _ _⟩ rfl;simp only[t1]at h;rw[e];simp only;cases hm:qho d n l with
   |none=>rw[hm]at h;exact h
   |some x=>
    obtain⟨vs,l2⟩:=x;rw[hm]at h;have h:=qeo h;simp only[Got,h]
theorem xij {α:Type} {d:List UInt8->Option (α×List UInt8)} {f:Rd->α×Rd} (ht:qns d) (hf: ∀r:Rd,r.Ok->r.failed=false->Got (d (r.b.drop r.pos)) r.b (f r)) (most:Int)
  {r:Rd} (h:r.Ok) (h0:r.failed=false):Got (qk5 most d (r.b.drop r.pos)) r.b (qgx most f r):=by
 have e:=qjs 0 most h h0;unfold qk5 qgx;cases hd:zd 0 most (r.b.drop r.pos)with
 |none=>
  rw[hd]at e;simp only[Got]at e⊢;generalize xl 0 most r=y at e⊢;cases y.1.toNat with
  |zero=>exact e
  |succ n=>rw[qci,if_pos e];exact e
 |some x=>
  obtain⟨n,l⟩:=x;rw[hd]at e;have e:=qeo e;obtain⟨p,hp⟩:=yk _ _ _ _ _ hd;obtain⟨t1,t2⟩:=jp h.pos hp;have i:=xii ht hf n.toNat (r:=⟨r.b,r.b.length-l.length,false⟩) ⟨h.len,jCt _ _⟩ rfl;simp only[t1]at i;rw[e];exact i
theorem xxn {r:Rd} (i:r.Ok) (h0:r.failed=false):Got (dAV (r.b.drop r.pos)) r.b (rAV r):=by
 have e:=qjs 1 2 i h0;unfold dAV rAV;cases hd:zd 1 2 (r.b.drop r.pos)with
 |none=>
  rw[hd]at e;simp only[Got]at e⊢;rw[if_pos e];exact e
 |some x=>
  obtain⟨n,l⟩:=x;rw[hd]at e;have e:=qeo e;obtain⟨p,hp⟩:=yk _ _ _ _ _ hd;obtain⟨m,t2⟩:=jp i.pos hp;have h:(⟨r.b,r.b.length-l.length,false⟩:Rd).Ok:=⟨i.len,jCt _ _⟩;rw[e];simp only[jAw,if_false];by_cases hn:n=1
  ·have d:=xab h rfl;simp only[m]at d;rw[if_pos hn,if_pos hn];cases hd2:dInt l with
   |none=>rw[hd2]at d;exact d
   |some x=>
    obtain⟨v,l2⟩:=x;rw[hd2]at d;have d:=qeo d;simp only[Got,d]
  ·have d:=q28 40 h rfl;simp only[m]at d;rw[if_neg hn,if_neg hn];cases hd2:qcg 40 l with
   |none=>rw[hd2]at d;exact d
   |some x=>
    obtain⟨v,l2⟩:=x;rw[hd2]at d;have d:=qeo d;simp only[Got,d]
theorem qy4 (most:Int):qmk [] (qc7 most) (qk5 most dInt):=qde (λr d=>(qmp (λ_ h=>qf5 h) d most).2) λr d hf=>xij qsl (λ_ h1 h2=>xab h1 h2) most d hf
theorem q7v (most:Int):qmk [] (qd8 most) (qk5 most dAV):=qde (λr d=>(qmp (λ_ h=>qsp h) d most).2) λr d hf=>xij xac (λ_ h1 h2=>xxn h1 h2) most d hf
theorem xuh {u:Nat} (h:u<18446744073709551616):I64 (unz u):=by unfold unz I64;split<;>omega
theorem qdj:I64 0:=by unfold I64;omega
theorem q3k: ∀(k i u:Nat) (r:Rd),I64 (qmi k i u r).1
 |0,i,u,r=>qdj
 |k+1,i,u,r=>by
  rw[qmi];split
  ·exact qdj
  ·split
   ·exact xuh (jC6 _ (by decide))
   ·exact q3k k _ _ _
theorem qp6 (r:Rd):I64 (rInt r).1:=q3k 10 0 0 r
theorem qi5 (r:Rd):I64 (js r).1:=by
 unfold js qb8;split
 ·exact qdj
 ·split
  ·exact qdj
  ·exact qp6 r
def d252:=cut prog f252 news
@[go_sem] def E252:=qj d252
def F252:=fnC d252 follows func252
def d187:=cut prog f187 news
@[go_sem] def E187:=qj d187
def F187:=fnC d187 follows func187
def wx (b:List UInt8):List UInt8×Int:=
 if b.length<8 then([],4)else if be8 (fnv 14695981039346656037 (b.take (b.length-8)))=b.drop (b.length-8)then(b.take (b.length-8),0)else([],5)
theorem qv5: ∀(s t:List UInt8),s.length=t.length->eqOk (List.replicate s.length .int) (s.map ju) (t.map ju)=true
 | [],[],_=>rfl
 | [],_::_,h=>by simp at h
 | _::_,[],h=>by simp at h
 |a::s,b::t,h=>by
  have:=qv5 s t (by simpa using h);simpa[jDq,eqOk,ju]using this
theorem qmq: ∀(s t:List UInt8),zq (s.map ju) (t.map ju)=(s==t)
 | [],[]=>rfl
 | [],_::_=>rfl
 | _::_,[]=>rfl
 |a::s,b::t=>by
  have h:=qmq s t;have e:qh3 (ju a) (ju b)=(a==b):=by
   rw[jBl];simp only[qh3,ju,beq_iff_eq];exact⟨λh=>UInt8.toNat_inj.1 (by omega),λh=>by rw[h]⟩
  simp only[List.map_cons,zq,h,e];rfl
theorem xxo (s t:List UInt8) (hs:s.length=8) (ht:t.length=8):eqOk [.int,.int,.int,.int,.int,.int,.int,.int] (s.map ju) (t.map ju)=true:=by
 have:=qv5 s t (hs.trans ht.symm);rw[hs]at this;exact this
theorem xik (b:List UInt8) (hb:b.length<=1000000000):qf prog 252 [.d (.sl 1 (qd b))] [] (.tup [.d (.sl 1 (qd (wx b).1)),.d (.int .i64 (wx b).2)]) []:=by
 have hw:IntKind.i64.wrap ((b.length:Int) -8)=(b.length:Int) -8:=xo (by unfold I64;omega);refine F252.goT ?_;refine ez1 @hw ?_;refine xf _ (λh=> ?_) (λh=> ?_)
 ·have hx:wx b=([],4):=by unfold wx;rw[if_pos (by simp at h;omega)]
  exact et2 @hx @qk
 have h8:8<=b.length:=by simp at h;omega
 have hn:(b.length:Int) -8=((b.length-8:Nat):Int):=by omega
 generalize hm:b.length-8=m at hn;have i:=qgo (h:=14695981039346656037) (by decide) (b.take m);have e2:(b.drop m).take (b.length-m)=b.drop m:=jAq (by rw[jAp];omega);have o:(b.take m).length<=1000000000:=by rw[jAl];omega
 refine ez4 @hn @xq @ze @e2 ?_;have e1:b.take (m-0)=b.take m:=rfl
 (repeat(with_reducible refine ob ?_));refine cl F297 (q9v (b.take m) o) ?_
 refine eo ?_;refine cl F296 (q9w _ i) ?_;have e:wx b=if be8 (fnv 14695981039346656037 (b.take m))=b.drop m then(b.take m,0)else([],5):=by unfold wx;rw[if_neg (by omega),hm]
 have p:(b.drop m).length=8:=by rw[jAp];omega
 have hA:List.take (b.length-m) (List.drop m (qd b))=qd (b.drop m):=by rw[ze,xq,e2]
 have hF:List.take (m-0) (qd b)=qd (b.take m):=by rw[xq,jCz]
 have l:=ji (fnv 14695981039346656037 (b.take m));generalize b.drop m=t at e p hA;generalize fnv 14695981039346656037 (b.take m)=f at e i l;have hB:List.take 8 (qd t)=qd t:=jAq (by rw[kg];omega);have hC:List.take 8 (t.map ju)=t.map ju:=jAq (by rw[jAm];omega);have hD:=xxo (be8 f) t l p;have hG:=qcw t;have hE:=qmq (be8 f) t;refine eo7 @hA @hB @hG @hC @hD @hE @jAm.{0,0} ?_;refine xf _ (λh=> ?_) (λh=> ?_)
 ·have hx:wx b=([],5):=by rw[e,if_neg (by simpa using h)]
  exact et2 @hx @qk
 ·have hx:wx b=(b.take m,0):=by rw[e,if_pos (by simpa using h)]
  refine ez2 @hx @hF ?_;omega
def qbp:Nat->Rd->List Int×Rd
 |0,r=>([],r)
 |n+1,r=>((qbp n r).1++ [(js (qbp n r).2).1],(js (qbp n r).2).2)
theorem qmr {r:Rd} (h:r.Ok): ∀n,(qbp n r).2.Ok∧(qbp n r).2.b=r.b∧(qbp n r).1.length=n
 |0=>⟨h,rfl,rfl⟩
 |n+1=>by
  have d:=qmr h n;have:=vm d.1;exact⟨this.1,this.2.trans d.2.1,by simp only[qbp,jAc,d.2.2,jBo]⟩
def pkOf (l:List Int) (v:List AV) (c:List Int):Pk:=⟨l.getD 0 0,l.getD 1 0,l.getD 2 0,l.getD 3 0,l.getD 4 0,l.getD 5 0,l.getD 6 0,v,c⟩
def qpr (s:List UInt8):Pk×Rd:=
 (pkOf (qbp 7 ⟨s,0,false⟩).1 (qd8 4 (qbp 7 ⟨s,0,false⟩).2).1 (qc7 6 (qd8 4 (qbp 7 ⟨s,0,false⟩).2).2).1,(qc7 6 (qd8 4 (qbp 7 ⟨s,0,false⟩).2).2).2)
def w7 (b:List UInt8):Pk×Int:=
 if(wx b).2≠0 then(default,(wx b).2)else if(rEnd (qpr (wx b).1).2 !=0|| !qm (qpr (wx b).1).1)=true then(default,4)else((qpr (wx b).1).1,0)
def xo9 (r:Rd) (i:Nat):St:=
 ⟨[(2,true,.d (.ptr 0 0)),(6,true,.d (.ptr 1 0)),(7,true,.d (.ptr 2 0)),(28,true,.d (.sl 1 [[.ptr 2 0],[.ptr 2 1],[.ptr 2 2],[.ptr 2 3],[.ptr 2 4],[.ptr 2 5],[.ptr 2 6]])),(29,true,.d (.int .i64 7)),(30,true,.d (.int .i64 (i:Nat)))],
  [.row ((qi default).map .d),rdO (qbp i r).2,.row (((((qbp i r).1++List.replicate (7-i) 0).map (D.int .i64))++ [.nilsl,.nilsl]).map .d)],[],1⟩
theorem xpa (f:Int->D) (A:List Int) (t:List D) (n:Int) {i:Nat} (hA:A.length=i) (hi:i<7):
  ((A++List.replicate (7-i) 0).map f++t).set i (f n)=((A++ [n])++List.replicate (7-(i+1)) 0).map f++t:=by
 have e:7-i=(7-(i+1))+1:=by omega
 rw[List.set_append_left _ _ (by simp;omega),<- jDz,jEj _ _ (by omega),hA,jDe,e,jDq,List.set_cons_zero,jAh,jE4]
theorem xdl (A:List Int):D.noPtrL (A.map (D.int .i64)++ [.nilsl,.nilsl])=true:=by
 rw[D.noPtrL_iff];intro d e;simp only[jAs,jAo,jAv,jBk,or_false]at e;rcases e with⟨n,_,rfl⟩|rfl|rfl<;>rfl
theorem xxp {A:List Int} (h:A.length=7): ∃p o m l i e d,A= [p,o,m,l,i,e,d]:=by
 match A,h with
 | [p,o,m,l,i,e,d],_=>exact⟨p,o,m,l,i,e,d,rfl⟩
theorem qny (b:List UInt8):(wx b).1.length<=b.length:=by
 unfold wx;split
 ·exact jAj _
 ·split
  ·simp only[jAl];omega
  ·exact jAj _
theorem xdm (b:List UInt8) (hb:b.length<=1000000000):qf prog 187 [.d (.sl 1 (qd b))] [] (.tup [.d (.agg (qi (w7 b).1)),.d (.int .i64 (w7 b).2)]) []:=by
 have v:=xik b hb;have z:=qny b;unfold w7;generalize wx b=x at v z⊢;obtain⟨s,e⟩:=x;simp only at z;refine F187.goT ?_;refine eo ?_;refine cl F252 (v) ?_;refine ez ?_;refine xf _ (λh=> ?_) (λh=> ?_)
 ·rw[if_pos (by simpa using h)];refine ez1 @qi.eq_1 ?_;exact⟨rfl,rfl,rfl,rfl,rfl,rfl,rfl,rfl,rfl⟩
 have he:e=0:=by simpa using h
 rw[if_neg (by simp[he])];have m:=qp3 s (by omega);simp only[rdO]at m;refine ez ?_;refine clO [1] F177 m ?_;refine ez ?_;have B:(⟨s,0,false⟩:Rd).Ok:=⟨by simp only;omega,jAj _⟩;refine qg (λi:{i:Nat//i<=7}=>xo9 ⟨s,0,false⟩ i.val) (λi=>7-i.val) ⟨0,jAj _⟩ ?_ (λi=> ?_)
 ·simp only[xo9,qbp,rdO,jAt,qi,go_sem,simprocAttr];exact⟨rfl,rfl,rfl,rfl,rfl,rfl,rfl,rfl,rfl⟩
 obtain⟨i,hi⟩:=i;obtain⟨t,v2,q⟩:=qmr B i;have J:=qp4 _ t;have hsn:qbp (i+1) ⟨s,0,false⟩=((qbp i ⟨s,0,false⟩).1++ [(js (qbp i ⟨s,0,false⟩).2).1],(js (qbp i ⟨s,0,false⟩).2).2):=rfl;simp only[rdO]at J;refine ez2 @xo9.eq_1 @rdO.eq_1 ?_;refine xf _ (λh=> ?_) (λh=> ?_)
 ·have l:i<7:=by simp at h;omega
  have hg:List.getD [[D.ptr 2 0],[D.ptr 2 1],[D.ptr 2 2],[D.ptr 2 3],[D.ptr 2 4],[D.ptr 2 5],[D.ptr 2 6]] i []= [D.ptr 2 i]:=by
   have:i=0∨i=1∨i=2∨i=3∨i=4∨i=5∨i=6:=by omega
   rcases this with rfl|rfl|rfl|rfl|rfl|rfl|rfl<;>rfl
  refine eo1 @hg ?_
  (repeat(with_reducible refine ob ?_));refine clO [1] F178 (J) ?_
  refine ez ?_;have hset:=xpa (D.int .i64) (qbp i ⟨s,0,false⟩).1 [.nilsl,.nilsl] (js (qbp i ⟨s,0,false⟩).2).1 q l;refine⟨by rw[q,jBp];omega,⟨i+1,l⟩,?_,by dsimp only;omega⟩;refine ez6 @xo9.eq_1 @rdO.eq_1 @hsn @hset @qcx (qe (show i<9223372036854775807 by omega)) ?_;exact D.okWL_noPtr (xdl _)
 ·have l:i=7:=by simp at h;omega
  subst l;unfold qpr;generalize qbp 7 ⟨s,0,false⟩=x at t q⊢;obtain⟨A,o⟩:=x;simp only at t q;obtain⟨a0,a1,Z,Y,X,U,R,rfl⟩:=xxp q;have I:=xo8 o 4 t (by decide);have F:=(qsq t 4).1;have C:=qgz (λr=>qgy (f:=rAV) (most:=4) (r:=r)) o;have O:=xig _ 6 F (by decide);have iC:=(qv3 F 6).1;have E:=qgz (λr=>qgy (f:=rInt) (most:=6) (r:=r)) (qd8 4 o).2;have M:=q7n _ iC;simp only[rdO,jDw]at I O M C E;refine eo ?_;refine clO [1] F253 (I) ?_;refine eo ?_;refine clO [1] F254 (O) ?_;refine eo ?_;refine clO [1] F180 (M) ?_;refine ez ?_;generalize hp:pkOf [a0,a1,Z,Y,X,U,R] (qd8 4 o).1 (qc7 6 (qd8 4 o).2).1=p;have hpe:qi p= [.int .i64 a0,.int .i64 a1,.int .i64 Z,.int .i64 Y,.int .i64 X,.int .i64 U,.int .i64 R,.sl 3 ((qd8 4 o).1.map zw),.sl 1 ((qc7 6 (qd8 4 o).2).1.map encI)]:=by rw[<- hp];rfl
  have u:p.Sm:=by rw[<- hp];exact⟨jBn C (by decide),jBn E (by decide)⟩
  have G:=wh p u.v u.c;rw[hpe]at G
  (repeat(with_reducible refine ob ?_));refine cl F70 (G) ?_
  refine eo ?_;refine xf _ (λh=> ?_) (λh=> ?_)
  ·rw[if_pos h];refine ez1 @qi.eq_1 ?_;exact⟨rfl,rfl,rfl,rfl,rfl,rfl,rfl,rfl,rfl⟩
  ·rw[if_neg (by rw[h];simp)];exact et2 @hpe @qhd
end Go.Proofs.YtkcdbcbpbolgkaaGreatDoor
