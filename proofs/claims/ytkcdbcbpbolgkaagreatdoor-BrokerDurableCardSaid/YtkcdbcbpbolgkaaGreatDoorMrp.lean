/- Texts Wk, Wl, Wm, Wn, Vc, Cg, Ch, Ga, Gb, Gc, Gd, Ge, Gg, Za, Yd, Ya, Yb, Yc, Ye, Yf, Yg, Yh, Zb, Zc, Zd. -/
import Derived.Test.YtkcdbcbpbolgkaaGreatDoorMro
import Derived.Shelf.SlSortCmp.NoneTotal
set_option linter.unusedSimpArgs false
set_option linter.unusedVariables false
set_option linter.defProp false
set_option maxRecDepth 100000
noncomputable section
namespace Go.Proofs.YtkcdbcbpbolgkaaGreatDoor
open Tryz
open Go.Abs Go.Shelf Go.RowKit Go.Lib Go.Sort
theorem xj3 (x:RowE):(encR x).length=2:=rfl
theorem xj4 (x:RowE): ∀v∈encR x,v.oneCell'=true:=by
 intro v d;simp[encR]at d;rcases d with rfl|rfl
 ·rfl
 ·exact x.2.2
set_option maxHeartbeats 1000000 in
theorem xo7 (l:List En) (hn:(l.map (·.1)).Nodup) (hl:l.length<=1000000):
  qh prog 172 [.d (.ref 0 0 2 l.length),.d (.func (.func 173) [] [])] [.row ((qe6 l).map .d)] (.tup []) [.row ((qe6 (qel l)).map .d)]:=by
 intro g w vs hd hlen hv ho;match vs,hlen with
 | [v0,v1],_=>
 have h1:=wg (jk (hv 1 v1 _ rfl rfl));have hf1:v1= .func (.func 173) #[] #[]:=by
  cases h1 with
  |func _ vf vc _ _ hf hc=>
   have e1:vf= []:=jAz (by simpa using hf);have e2:vc= []:=jAz (by simpa using hc);subst e1;subst e2;rfl
 subst hf1;have h0:=wg (jk (hv 0 v0 _ rfl rfl));generalize hln:l.length=n at h0;have none_: ∀(p:Option Addr) (cap:Nat),n=0->v0= .slice p 0 cap->Calls prog 172 [v0,.func (.func 173) #[] #[]].toArray w λe w'=>
   ∃v g' live',e= .returned v∧G g w g' w'∧Dom g' w'∧(∀t∈(ASlot.tup []).toks++xf [.row ((qe6 (qel l)).map .d)],t∈live')∧RS g' w' live' v (.tup [])∧ObjsOk g' w' live' [.row ((qe6 (qel l)).map .d)]:=by
  intro p cap h0 hv0;have hl0:l= []:=jAz (by omega);subst hl0;subst hv0;have E:=AnyF.slices_SortFunc_none xr5 p cap (.func (.func 173) #[] #[]) w;change Calls prog 172 _ _ _ at E;refine E.mono ?_;rintro e w' ⟨rfl,rfl⟩;have hs0:qel []= []:=by simp[qel]
  rw[hs0];exact⟨_,g,[],rfl,.refl _ _,hd,by simp[ASlot.toks,xf,AObj.cells],⟨[],rfl,rfl,λi u s hu=>by simp at hu⟩,ho⟩
 cases h0 with
 |refnil a=>exact none_ a 0 rfl rfl
 |ref b _ _ _ _ cap hg hcap hmx hsz=>
 by_cases hn0:n=0
 ·subst hn0;exact none_ _ cap rfl rfl
 obtain⟨b',hb',c,et,hh,hcs,hcc⟩:=(ho.objs 0 _ rfl (by simp)).resolve_right (λh=>by
  have:=h.1;simp at this;have:=congrArg List.length this;simp[qie]at this;omega)
 have:b'=b:=ho.inj b' b 0 hb' hg;subst this;rw[jAm,qie]at hcs;have hcell: ∀(i:Nat) (e:En),l[i]? =some e->c[2*i]? =some (.string ⟨e.1.toArray⟩)∧ ∃v,c[2*i+1]? =some v∧v.oneCell'=true∧RV g w v (.sl 1 (qe e.2)):=by
  intro i e M;obtain⟨k1,k2⟩:=qt2 l i e M;obtain⟨u,u1,_,u3⟩:=hcc (2*i) (.d (.str e.1)) (by rw[jAn,k1];rfl);obtain⟨v,v1,v2,v3⟩:=hcc (2*i+1) (.d (.sl 1 (qe e.2))) (by rw[jAn,k2];rfl);have hu:=qcg (show RV g w u (.str e.1)from u3);subst hu;exact⟨u1,v,v1,v2,v3⟩
 let F:Nat->RowE:=λi=>match l[i]?,c[2*i+1]?with
  |some e,some v=>if h:v.oneCell'=true then(e.1,⟨v,h⟩)else default
  | _,_=>default
 let P:List (RowE×En):=(List.range n).map λi=>(F i,l.getD i ([],[]))
 have hPR: ∀z∈P,z.1.1=z.2.1∧RV g w z.1.2.1 (.sl 1 (qe z.2.2)):=by
  intro z hz;obtain⟨i,hi,rfl⟩:=jAo.1 hz;have I:i<l.length:=by rw[hln];exact jC9.1 hi
  have M:=jAa I;obtain⟨_,v,v1,v2,v3⟩:=hcell i _ M;have:F i=(l[i].1,⟨v,v2⟩):=by simp only[F,M,v1,dif_pos v2]
  have e2:l.getD i ([],[])=l[i]:=by simp[List.getD,M]
  simp only[this,e2];exact⟨trivial,v3⟩
 have hPs:P.map (·.2)=l:=by
  apply jC6;intro i;simp only[P,jEb,jAn];rcases jB9 i n with h|h
  ·rw[jC5 h];have M:=jAa (show i<l.length by omega);simp[M,List.getD]
  ·rw[jCg (by simpa using h),jCg (by omega)];rfl
 obtain⟨d,hdd⟩: ∃d:Array RowE,d=(P.map (·.1)).toArray:=⟨_,rfl⟩;have Y:d.size=n:=by rw[hdd];simp[P]
 have hdi: ∀i,i<n->d[i]! =F i:=λi hi=>by rw[hdd];simp[P,hi]
 have hblk:b'<w.heap.size:=(jA5.1 hh).1;have hfl: ∀t,t<n*2->(flatK encR 2 d)[t]! =c.getD t default:=by
  intro t ht;rw[get_flatK encR 2 d t (by rw[Y];exact ht),hdi _ (by omega)];have I:t/2<l.length:=by omega
  have M:=jAa I;obtain⟨k1,v,v1,v2,v3⟩:=hcell (t/2) _ M;have hm:F (t/2)=(l[t/2].1,⟨v,v2⟩):=by simp only[F,M,v1,dif_pos v2]
  rw[hm];rcases jDd t with hp|hp
  ·have e1:2*(t/2)=t:=by omega
   rw[e1]at k1;rw[hp,jBg,k1];rfl
  ·have e1:2*(t/2)+1=t:=by omega
   rw[e1]at v1;rw[hp,jBg,v1];rfl
 have hH:HoldsK encR 2 w b' 0 d:=by
  intro j hj;rw[size_flatK,Y]at hj;refine⟨?_,by simp[World.frozen?,hh]⟩;rw[hfl j hj];have hjc:j<c.size:=by omega
  simp[World.cell?,hh,hjc]
 have eg: ∀args w,(callFunc 173 args).run prog w= .ok (.enter 173 args) w:=enters_of func173 (by kernel_rfl) rfl;have E:=AnyQ.slices_SortFunc xr5 2 isAgg195 sizeOf195 encR xj3 xj4 cmpR xvn 173 #[] b' 0 cap d w eg (λ_ _ _ _ x y=>xj2 x y _) hH hblk (by omega);change Calls prog 172 _ _ _ at E;rw[Y]at E;refine E.mono ?_;rintro e w' ⟨rfl,d',m,os,hperm,hsort,hw'⟩;obtain⟨X,_,hpl⟩:=hperm;rw[Y]at X;have hp2:d'.toList.Perm (P.map (·.1)):=by
  have e1:d'.extract 0 n=d':=by rw[<- X];simp
  have e2:d.extract 0 n=d:=by rw[<- Y];simp
  rw[e1,e2]at hpl;rw[hdd]at hpl;simpa using hpl
 obtain⟨Q,q1,q2⟩:=xd7 (λz:RowE×En=>z.1) hp2 rfl;have hQl:Q.length=n:=by rw[q1.length_eq];simp[P]
 have hesl:(Q.map (·.2)).Perm l:=by
  have:=q1.map (λz:RowE×En=>z.2);rwa [hPs]at this
 have hQ: ∀(i:Nat) (z:RowE×En),Q[i]? =some z->d'[i]! =z.1∧z.1.1=z.2.1∧RV g w z.1.2.1 (.sl 1 (qe z.2.2)):=by
  intro i z hz;have h1:=congrArg (λl=>l[i]?) q2;simp only[jAn,hz,Option.map_some,jD2]at h1;have hi:i<d'.size:=by rw[X,<- hQl];exact(jAd.1 hz).1
  refine⟨?_,hPR z (q1.mem_iff.1 (jAe hz))⟩;rw[getElem!_pos d' i hi];rw[jEv hi]at h1;simpa using h1.symm
 have R:(Q.map (·.2)).Pairwise λa b=>cmpB a.1 b.1<=0:=by
  rw[jDk];intro i j hi hj hij;simp only[jAm]at hi hj;have zi:=hQ i _ (jAa hi);have zj:=hQ j _ (jAa hj);have hs:=hsort i j (jAi _) hij (by omega);rw[zi.1,zj.1]at hs;have hs2: ¬cmpB Q[j].1.1 Q[i].1.1<0:=of_decide_eq_false hs;rw[zi.2.1,zj.2.1]at hs2;simp only[jEn];exact qd5.1 hs2
 have hes:Q.map (·.2)=qel l:=by
  have hn2:((Q.map (·.2)).map (·.1)).Nodup:=(hesl.map (λx:En=>x.1)).nodup_iff.2 hn;exact qif (hesl.trans (ki l).symm) hn2 R (qds l)
 have hwh:w'.heap=(w.heap.modify b' (onCells (putCells (λv:Value=>v) 0 (flatK encR 2 d'))))++os:=by subst hw';rfl
 have q: ∀k,k≠b'->k<w.heap.size->w'.heap[k]? =w.heap[k]? :=by
  intro k hk hkl;rw[hwh,Array.getElem?_append,if_pos (by simpa using hkl),jEm,if_neg (Ne.symm hk)]
 have U:w'.heap[b']? =some (.cells (putCells (λv:Value=>v) 0 (flatK encR 2 d') c) et (0,0)):=by
  rw[hwh,Array.getElem?_append,if_pos (by simpa using hblk),jEm,if_pos rfl,hh];rfl
 have hsize:w.heap.size<=w'.heap.size:=by
  subst hw';simp[sortWorldK,grow,putRowK,putRow,mapBlock,Sort.ahead]
 have O:w'.os=w.os∧w'.tape=w.tape∧w'.output=w.output:=by subst hw';exact⟨rfl,rfl,rfl⟩
 have hne: ∀k r,g k=r->(∀i,r≠ .obj i) ->k≠b':=λk r h hr M=>by rw[M,hg]at h;exact hr 0 h.symm
 have hG:G g w g w':=by
  refine⟨O.1,O.2.1,O.2.2,hsize,λk hk C=>⟨q k (hne k _ C (by simp)) hk,C⟩,λk r hk C=>⟨q k (hne k _ C (by simp)) hk,C⟩,
   λk r t hk C=>⟨r,some t,C,jAh _,λi u _ hu=>by rw[jw (q k (hne k _ C (by simp)) hk)];exact hu⟩,λk id hk C=>⟨C,?_⟩⟩
  by_cases hkb:k=b'
  ·subst hkb;rw[k7 hh,k7 U];simp[putCells]
  ·exact jBt (jf (q k hkb hk)).symm
 refine⟨_,g,[],rfl,hG,hd.of hG λk hk=>hd.1 k (by omega),by simp[ASlot.toks,xf,AObj.cells],⟨[],rfl,rfl,λi u s hu=>by simp at hu⟩,⟨λoid o J hno=> ?_,ho.inj,λb oid hb=> ?_⟩⟩
 ·match oid,J with
  |0,J=>
   simp at J;subst J;have hle:=(ki l).length_eq;refine .inl ⟨b',hg,_,et,U,by simp[putCells,qie,hle];omega,λi s hi=> ?_⟩;rw[jAn,jAb]at hi;obtain⟨x,hx,rfl⟩:=hi;have I:i<n*2:=by
    have:=(jAd.1 hx).1;rw[qie,hle,hln]at this;exact this
   have hQi:i/2<Q.length:=by omega
   obtain⟨z1,z2,z3⟩:=hQ (i/2) _ (jAa hQi);have hz:(qel l)[i/2]? =some Q[i/2].2:=by rw[<- hes,jAn,jAa hQi];rfl
   obtain⟨k1,k2⟩:=qt2 _ _ _ hz;have Z:(putCells (λv:Value=>v) 0 (flatK encR 2 d') c)[i]? =some ((encR Q[i/2].1)[i%2]!):=by
    have hic:i<c.size:=by omega
    simp only[putCells,Array.getElem?_mapIdx,jEv hic,Option.map_some,size_flatK,X,jAi,true_and,Nat.zero_add,I,if_true,jCt];rw[get_flatK encR 2 d' i (by rw[X];exact I),z1]
   rcases jDd i with hp|hp
   ·have e1:2*(i/2)=i:=by omega
    rw[e1]at k1;rw[k1]at hx;cases hx;rw[hp]at Z;have hcs:(encR Q[i/2].1)[0]! = .string ⟨Q[i/2].2.1.toArray⟩:=by rw[<- z2];rfl
    rw[hcs]at Z;exact⟨_,Z,rfl,.str _⟩
   ·have e1:2*(i/2)+1=i:=by omega
    rw[e1]at k2;rw[k2]at hx;cases hx;rw[hp]at Z;exact⟨_,Z,Q[i/2].1.2.2,z3.mono (hG.rowsKept hd) (λb id hb=>hG.obj b id (hd.lt_obj hb) hb)⟩
  |i+1,J=>simp at J
 ·obtain⟨o,h1,h2⟩:=ho.ids b oid hb;match oid,h1 with
  |0,h1=>exact⟨_,rfl,by simp⟩
  |i+1,h1=>simp at h1
end Go.Proofs.YtkcdbcbpbolgkaaGreatDoor
namespace Go.Proofs.YtkcdbcbpbolgkaaGreatDoor
open Tryz
open Go.Abs
attribute [go_sem] qai
def pre (p k:List UInt8):Bool:=decide (p.length<=k.length)&&k.take p.length==p
def d236:=cut prog f236 news
@[go_sem] def E236:=qm d236
def F236:=fnC d236 follows func236
def d171:=cut prog f171 news
@[go_sem] def E171:=qm d171
def F171:=fnC d171 follows func171
theorem qgh (k p:List UInt8):qh prog 236 [.d (.str k),.d (.str p)] [] (.d (.bool (pre p k))) []:=by
 refine F236.go ?_;by_cases h:p.length<=k.length
 ·have hd:decide ((k.length:Int)≥(p.length:Int))=true:=by simpa using h
  have hd2:decide (p.length<=k.length)=true:=by simpa using h
  refine eo3 @pre.eq_1 @hd @hd2 ?_;exact et2 @hd @jCt
 ·have hd:decide ((k.length:Int)≥(p.length:Int))=false:=by simpa using h
  have hd2:decide (p.length<=k.length)=false:=by simpa using h
  refine eo3 @pre.eq_1 @hd @hd2 ?_;exact et1 @hd
theorem qno (k p:List UInt8):qh prog 171 [.d (.str k),.d (.str p)] [] (.d (.bool (pre p k))) []:=by
 refine F171.go ?_;refine eo ?_;first|refine cl F236 (qgh k p) ?_|refine clF F236 (qgh k p) (λ_=>by exact et2 @qr.eq_1 @j0.eq_1) ?_
 exact et
def d92u:=cut prog f92 news [29] [10] true
@[go_sem] def E92u:=qm d92u
def F92u:=fnC d92u follows func92
def d172:=cut prog f172 news
@[go_sem] def E172:=qm d172
def F172:=fnC d172 follows func172
theorem q4n {α β:Type} {f:α->β}: ∀{l:List α},(l.map f).Nodup-> ∀{x y:α},x∈l->y∈l->f x=f y->x=y
 | [],_,x,y,hx,_,_=>by cases hx
 |a::l,hn,x,y,hx,hy,h=>by
  simp only[List.map_cons,jCf,jAo,not_exists,not_and]at hn;rcases jAv.1 hx with rfl|e
  ·rcases jAv.1 hy with rfl|d
   ·rfl
   ·exact absurd h.symm (hn.1 y d)
  ·rcases jAv.1 hy with rfl|d
   ·exact absurd h (hn.1 x e)
   ·exact q4n hn.2 e d h
theorem qbp {α β:Type} (f:α->β): ∀{l:List α},(l.map f).Nodup->l.Nodup
 | [],_=>jD6
 |a::l,hn=>by
  simp only[List.map_cons,jCf,jAo,not_exists,not_and]at hn⊢;exact⟨λh=>hn.1 a h rfl,qbp f hn.2⟩
theorem q62 {α:Type} (f:α->Nat): ∀{l:List α},(l.map f).Nodup-> ∀{x:α},x∈l->(l.find? λy=>f y==f x)=some x
 | [],_,x,hx=>by cases hx
 |a::l,hn,x,hx=>by
  rw[jB7];by_cases h:f a=f x
  ·have:=q4n hn (jA7 ..) hx h;subst this;simp
  ·rw[beq_false_of_ne h];rcases jAv.1 hx with rfl|d
   ·exact absurd rfl h
   ·exact q62 f (by simp only[List.map_cons,jCf]at hn;exact hn.2) d
theorem xd8 {α:Type} [DecidableEq α]: ∀{a b:List α},a.Nodup->(∀x∈a,x∈b) ->a.length<=b.length
 | [],_,_,_=>jAi _
 |x::a,b,h,hs=>by
  have e:=hs x (jA7 ..);have h':=jCf.1 h;have:=xd8 (a:=a) (b:=b.erase x) h'.2 λy d=>(List.mem_erase_of_ne (by rintro rfl;exact h'.1 d)).2 (hs y (jA9 _ d));rw[List.length_erase_of_mem e]at this;have:=List.length_pos_of_mem e;simp only[List.length_cons];omega
theorem q99 (l:List En):(l.map j0).flatten=qe6 l:=rfl
theorem q4o (l:List En):(qe6 l).all D.isCell=true:=by induction l<;>simp_all[qe6,j0,D.isCell]
attribute [go_sem] q99 q0m q4o
structure Cont.Ok (m:Cont):Prop where
 num:(m.l.map (·.1)).Nodup
 lt: ∀x∈m.l,x.1<m.c
 key:(m.l.map (·.2.1)).Nodup
def enOf (x:KV):En:=(x.2.1,x.2.2)
def preL (p:List UInt8) (l:List KV):List En:=(l.filter λx=>pre p x.2.1).map enOf
def qa9 (m:Cont) (p:List UInt8):List En:=qel (preL p m.l)
theorem q0n {p:List UInt8} {l:List KV} (h:(l.map (·.2.1)).Nodup):((preL p l).map (·.1)).Nodup:=by
 unfold preL;rw[jEb];exact jFt (List.Sublist.map _ List.filter_sublist) h
theorem xd9 {a b:List En} (h:a.Perm b) (hn:(a.map (·.1)).Nodup):qel a=qel b:=by
 have d:=ki a;have h2:=ki b;refine qif (d.trans (h.trans h2.symm)) ((d.map (λx:En=>x.1)).nodup_iff.2 hn) (qds a) (qds b)
def xea (s:Sto) (p:List UInt8) (i:{i:List KV//(i.map (·.1)).Nodup∧ ∀x∈i,x∈s.m.l}):St:=
 ⟨[(1,true,.d (.str p)),(5,true,.uni 0 2 ((preL p i.val).map j0)),(14,true,.d (.ptr 2 0))],[stoO s 1,mapO s.m,.iter (.d (.map 1)) s.m.c (i.val.map (·.1)) s.m.c],[0],1⟩
theorem xeb (s:Sto) (p:List UInt8) (E:s.m.Ok) (hl:s.m.l.length<=1000) (Y: ∀x∈s.m.l,x.2.2.length<=1000000):
  qh prog 92 [.d (.ptr 0 0),.d (.str p)] [stoO s 1,mapO s.m] (.d (.sl 2 ((qa9 s.m p).map j0))) [stoO s 1,mapO s.m]:=by
 refine F92u.go ?_;refine eo2 @stoO.eq_1 @mapO.eq_1 ?_;refine no_ ?_;refine ez ?_;refine qk (xea s p) (λi=>s.m.l.length-i.val.length) ⟨[],by simp,by simp⟩ ?_ (λi=> ?_)
 ·exact et6 @xea.eq_1 @stoO.eq_1 @mapO.eq_1 @preL.eq_1 @List.filter_nil.{0} @List.map_nil.{0,0}
 obtain⟨i,G,v⟩:=i;refine ez3 @xea.eq_1 @stoO.eq_1 @mapO.eq_1 ?_;have m:qf7 (s.m.l.map qev) (i.map (·.1))=(s.m.l.filter λx=> !(i.map (·.1)).contains x.1).map qev:=by
  unfold qf7;rw[List.filter_map];rfl
 have C: ∀x∈s.m.l,∀y∈s.m.l,x.1=y.1->x=y:=λx q y O h=>q4n E.num q O h;refine xik (last:=s.m.c) ⟨rfl,rfl,by intro e M;obtain⟨x,q,rfl⟩:=jAo.1 M;exact E.lt x q,jAh _⟩ (λF=> ?_) (λe M=> ?_)
 ·
  rw[m,List.map_eq_nil_iff,List.filter_eq_nil_iff]at F;have I: ∀x∈s.m.l,x∈i:=by
   intro x q;have:=F x q;simp only[List.contains_eq_mem,decide_eq_true_eq,jC1,jCc,Bool.not_not]at this;simp at this;obtain⟨a,b,J⟩:=this;have:=C x q _ (v _ J) rfl;rw[this];exact J
  have u:i.Perm s.m.l:=by
   refine(List.perm_ext_iff_of_nodup (qbp _ G) (qbp _ E.num)).2 λx=>⟨v x,I x⟩
  have t:(preL p i).Perm (preL p s.m.l):=(u.filter _).map _;have z:((preL p i).map (·.1)).Nodup:=by
   refine(t.map (λx:En=>x.1)).nodup_iff.2 ?_;exact q0n E.key
  have hsame:qel (preL p i)=qa9 s.m p:=xd9 t z;have hlen:(preL p i).length<=1000:=by
   have h1:=t.length_eq;have h2:(preL p s.m.l).length<=s.m.l.length:=by simp only[preL,jAm];exact jD0 _ _
   omega
  refine eo1 @qpq.eq_1 ?_;refine no_ ?_;refine ez ?_;refine qqk (.fr 5) 0 2 ((preL p i).map j0) ?_;refine pu ?_;refine ez ?_;refine clO [3] F172 (xo7 (preL p i) z (by omega)) ?_;refine ez ?_;have X:(preL p i).length=(qel (preL p i)).length:=(ki _).length_eq.symm;rw[X];refine qkv 3 2 ((qel (preL p i)).map j0) ?_ (hc:= ?_) (hcc:= ?_) (hes:= ?_) (hok:=D.okWR_noPtr (qqz _))
  ·refine pu ?_;exact et1 @hsame
  ·exact et
  ·exact et
  ·intro r hr;obtain⟨x,_,rfl⟩:=jAo.1 hr;rfl
 ·rw[m]at M;obtain⟨x,q,rfl⟩:=jAo.1 M;rw[jBs]at q;obtain⟨o,U⟩:=q;have R:x.1∉i.map (·.1):=by simpa using U
  have l:((i++ [x]).map (·.1)).Nodup∧ ∀y∈i++ [x],y∈s.m.l:=by
   refine⟨by rw[jA2];exact jEh.2 ⟨G,by simp,λa ha b Z h=>by simp at Z;subst Z;subst h;exact R ha⟩,λy O=> ?_⟩;rcases jAt.1 O with h|h
   ·exact v y h
   ·simp at h;subst h;exact o
  have hil:i.length<s.m.l.length:=by
   have:=xd8 (qbp _ l.1) l.2;simp at this;omega
  have hpl:(preL p i).length<=i.length:=by simp only[preL,jAm];exact jD0 _ _
  refine eo1 @entV.eq_1 ?_;refine qa2 ?_;refine ez ?_;refine xcv (e:=qev x) (mid:=1) (since:=s.m.c) (seen:=i.map (·.1)++ [x.1]) (clock:=s.m.c) (es:=s.m.l.map qev) ⟨rfl,rfl,by simp[qev],?_⟩ ?_
  ·rw[jFk];have h1:s.m.l.find? ((λe:Nat×D×D=>e.1==(qev x).1)∘qev)=some x:=q62 (λy:KV=>y.1) E.num o;rw[h1];rfl
  refine eo1 @qev.eq_1 ?_;first|refine cl F171 (qno x.2.1 p) ?_|refine clF F171 (qno x.2.1 p) (λ_=>by exact et2 @qr.eq_1 @j0.eq_1) ?_
  refine eo ?_;refine xp _ (λh=> ?_) (λh=> ?_)
  ·refine eo ?_;first|refine cl F127 (wp x.2.2 (by have:=Y x o;omega)) ?_|refine clF F127 (wp x.2.2 (by have:=Y x o;omega)) (λ_=>by exact et2 @qr.eq_1 @j0.eq_1) ?_
   refine ez ?_;refine⟨by omega,?_⟩;have hpx:preL p (i++ [x])=preL p i++ [enOf x]:=by simp[preL,h]
   refine⟨⟨i++ [x],l⟩,?_,by simp only[jAc,jBo];omega⟩;exact et7 @xea.eq_1 @stoO.eq_1 @mapO.eq_1 @hpx @jA2.{0,0} @j0.eq_1 @enOf.eq_1
  ·have hpx:preL p (i++ [x])=preL p i:=by simp[preL,h]
   refine ez ?_;refine⟨⟨i++ [x],l⟩,?_,by simp only[jAc,jBo];omega⟩;exact et7 @xea.eq_1 @stoO.eq_1 @mapO.eq_1 @hpx @jA2.{0,0} @j0.eq_1 @enOf.eq_1
theorem qbq {k:List UInt8} {x:KV}:zw k x=true↔k=x.2.1:=by simp[zw]
theorem qq0 {k v:List UInt8}: ∀{l:List KV} {j:Nat},l.findIdx? (zw k)=some j-> ∀k',(l.modify j λe=>(e.1,k,v)).find? (zw k')=if k'=k then some ((l[j]?.getD (0,[],[])).1,k,v)else l.find? (zw k')
 | [],j,h,k'=>by simp at h
 |a::l,j,h,k'=>by
  rw[jDi]at h;by_cases m:zw k a=true
  ·rw[if_pos m]at h;cases h;simp only[jE8,jB7,jCa,Option.getD_some];by_cases d:k'=k
   ·subst d;have:zw k' (a.1,k',v)=true:=qbq.2 rfl;rw[this,if_pos rfl]
   ·have h1:zw k' (a.1,k,v)=false:=by simpa[zw]using d
    have o:zw k' a=false:=by rw[qbq]at m;simp[zw,<- m,d]
    rw[h1,o,if_neg d]
  ·rw[if_neg (by simpa using m)]at h;obtain⟨i,hi,rfl⟩:=jAb.1 h;simp only[jE9,jB7,jCb];have ih:=qq0 (v:=v) hi k';by_cases d:k'=k
   ·subst d;have:zw k' a=false:=by simpa using m
    rw[this];exact ih
   ·cases o:zw k' a with
    |true=>rw[if_neg d]
    |false=>rw[ih]
theorem q0o {k:List UInt8} {l:List KV} (h:l.findIdx? (zw k)=none):l.find? (zw k)=none:=by
 rw[jD8]at h;exact jCj.2 λx hx=>by rw[h x hx];simp
theorem q63 (k v:List UInt8) (m:Cont) (k':List UInt8):mGet k' (mPut k v m)=if k'=k then some v else mGet k' m:=by
 unfold mGet mPut;cases h:m.l.findIdx? (zw k)with
 |some j=>
  simp only[qq0 h k'];split<;>rfl
 |none=>
  simp only[jDo];by_cases d:k'=k
  ·subst d;rw[q0o h,if_pos rfl];simp[zw]
  ·rw[if_neg d];have: [(m.c,k,v)].find? (zw k')=none:=by simp[zw,d]
   rw[this,Option.or_none]
theorem qt3 {k v:List UInt8}: ∀{l:List KV} {j:Nat},l.findIdx? (zw k)=some j->(l.modify j λe=>(e.1,k,v)).map (·.2.1)=l.map (·.2.1)∧(l.modify j λe=>(e.1,k,v)).map (·.1)=l.map (·.1)
 | [],j,h=>by simp at h
 |a::l,j,h=>by
  rw[jDi]at h;by_cases d:zw k a=true
  ·rw[if_pos d]at h;cases h;rw[qbq]at d;simp only[jE8,List.map_cons,d,and_self]
  ·rw[if_neg (by simpa using d)]at h;obtain⟨i,hi,rfl⟩:=jAb.1 h;obtain⟨h1,h2⟩:=qt3 (v:=v) hi;simp only[jE9,List.map_cons,h1,h2,and_self]
theorem qt4 {α:Type} {l:List α} {x:α} (h:l.Nodup) (hx:x∉l):(l++ [x]).Nodup:=
 jEh.2 ⟨h,by simp,λa ha b d e=>by simp at d;subst d;subst e;exact hx ha⟩
theorem qq1 {m:Cont} (h:m.Ok) (k v:List UInt8):(mPut k v m).Ok:=by
 unfold mPut;cases hf:m.l.findIdx? (zw k)with
 |some j=>
  obtain⟨h1,p⟩:=qt3 (v:=v) hf;refine⟨by simpa only[p]using h.num,λx d=> ?_,by simpa only[h1]using h.key⟩;have:x.1∈(m.l.modify j λe=>(e.1,k,v)).map (·.1):=List.mem_map_of_mem d;rw[p]at this;obtain⟨y,i,l⟩:=jAo.1 this;rw[<- l];exact h.lt y i
 |none=>
  rw[jD8]at hf;refine⟨?_,λx d=> ?_,?_⟩
  ·rw[jA2];refine qt4 h.num λo=> ?_;obtain⟨y,i,l⟩:=jAo.1 o;have:=h.lt y i;simp only at l;omega
  ·simp only;rcases jAt.1 d with d|d
   ·have:=h.lt x d;omega
   ·simp at d;subst d;simp
  ·rw[jA2];refine qt4 h.key λo=> ?_;obtain⟨y,i,l⟩:=jAo.1 o;have:=hf y i;simp[zw,l]at this
theorem qk3 (k:List UInt8) (m:Cont):(mDel k m).l.Sublist m.l:=by
 unfold mDel;split
 ·exact List.eraseIdx_sublist ..
 ·exact List.Sublist.refl _
theorem qq2 {m:Cont} (h:m.Ok) (k:List UInt8):(mDel k m).Ok:=
 ⟨jFt ((qk3 k m).map _) h.num,λx hx=>by rw[xm5];exact h.lt x ((qk3 k m).subset hx),jFt ((qk3 k m).map _) h.key⟩
theorem qt5 {k:List UInt8}: ∀{l:List KV} {j:Nat},l.findIdx? (zw k)=some j->(l.map (·.2.1)).Nodup-> ∀k',(l.eraseIdx j).find? (zw k')=if k'=k then none else l.find? (zw k')
 | [],j,h,_,k'=>by simp at h
 |a::l,j,h,hn,k'=>by
  rw[jDi]at h;simp only[List.map_cons,jCf]at hn;by_cases e:zw k a=true
  ·rw[if_pos e]at h;cases h;rw[qbq]at e;simp only[List.eraseIdx_cons_zero,jB7];by_cases d:k'=k
   ·subst d;rw[if_pos rfl];refine jCj.2 λx hx d=> ?_;rw[qbq]at d;exact hn.1 (jAo.2 ⟨x,hx,by rw[<- e,<- d]⟩)
   ·rw[if_neg d];have m:zw k' a=false:=by simp[zw,<- e,d]
    rw[m]
  ·rw[if_neg (by simpa using e)]at h;obtain⟨i,hi,rfl⟩:=jAb.1 h;simp only[List.eraseIdx_cons_succ,jB7];have ih:=qt5 hi hn.2 k';by_cases d:k'=k
   ·subst d;have:zw k' a=false:=by simpa using e
    rw[this,if_pos rfl];rw[if_pos rfl]at ih;exact ih
   ·cases m:zw k' a with
    |true=>rw[if_neg d]
    |false=>rw[ih]
theorem q64 {m:Cont} (h:m.Ok) (k k':List UInt8):mGet k' (mDel k m)=if k'=k then none else mGet k' m:=by
 unfold mGet mDel;cases hf:m.l.findIdx? (zw k)with
 |some j=>
  simp only[qt5 hf h.key k'];split<;>rfl
 |none=>
  simp only;split
  ·rename_i hk;subst hk;rw[q0o hf];rfl
  ·rfl
theorem q65 (k v:List UInt8) (m:Cont):(mPut k v m).l.length<=m.l.length+1:=by
 unfold mPut;split<;>simp
theorem qw2 (k:List UInt8) (m:Cont):(mDel k m).l.length<=m.l.length:=(qk3 k m).length_le
def kvOk (x:KV):Prop:=1<=x.2.1.length∧x.2.1.length<=40∧x.2.2.length<=900
theorem xj5 {k v:List UInt8} {m:Cont} {x:KV} (h:x∈(mPut k v m).l):x∈m.l∨(x.2.1=k∧x.2.2=v):=by
 unfold mPut at h;split at h
 ·rename_i j hj;simp only at h;obtain⟨i,hi⟩:=jBh h;rw[jDn]at hi;cases hg:m.l[i]?with
  |none=>rw[hg]at hi;cases hi
  |some y=>
   rw[hg]at hi;simp only[Option.map_eq_map,Option.map_some,jA8]at hi;split at hi
   ·subst hi;exact .inr ⟨rfl,rfl⟩
   ·subst hi;exact .inl (jAe hg)
 ·rcases jAt.1 h with h|h
  ·exact .inl h
  ·simp at h;subst h;exact .inr ⟨rfl,rfl⟩
structure Cont.Good (m:Cont):Prop where
 ok:m.Ok
 few:m.l.length<=400
 small: ∀x∈m.l,kvOk x
theorem qgi: ∀(l:List OpS) {m:Cont},m.Good->(∀o∈l,kh o=true) ->(jt m l).2=true->(jt m l).1.Good
 | [],m,h,_,_=>h
 |o::l,m,h,hp,hy=>by
  rw[jt]at hy⊢;have i:=vz.1 (hp o (jA7 ..));have e:=λx d=>hp x (jA9 _ d);split at hy
  ·rename_i p;rw[if_pos p];exact qgi l ⟨qq2 h.ok _,jBj (qw2 _ _) h.few,λx d=>h.small x ((qk3 _ _).subset d)⟩ e hy
  ·rename_i p;rw[if_neg p];split at hy
   ·cases hy
   ·rename_i h4;rw[if_neg h4];refine qgi l ⟨qq1 h.ok _ _,by omega,λx d=> ?_⟩ e hy;rcases xj5 d with d|⟨q,h2⟩
    ·exact h.small x d
    ·exact⟨by rw[q];exact i.1,by rw[q];exact i.2.1,by rw[h2];exact i.2.2.1⟩
theorem qq3 (f r:List UInt8) (hr:r.length<=2000):(yu f r).length<=f.length+70000:=by
 have:=qqu _ r (jAh _);unfold yu;rw[qqv _ _ (λq hq=>(qbk _ r (jAh _) q hq).2)];simp only;omega
structure Sto.Ok (n:Nat) (s:Sto):Prop where
 good:s.m.Good
 file:s.file.length<=n*70000
theorem q4p (n:Nat):newS.Ok n:=by
 refine⟨⟨⟨jD6,λx d=>(by cases d),jD6⟩,?_,λx d=>(by cases d)⟩,?_⟩
 ·simp only[newS,qch,List.length_nil,jAi]
 ·simp only[newS,List.length_nil,jAi]
theorem Sto.Ok.mono {n m:Nat} {s:Sto} (h:s.Ok n) (hn:n<=m):s.Ok m:=⟨h.good,jBj h.file (jAy _ hn)⟩
theorem qgj (s:Sto) (l:List OpS):((xh s l).2≠0∧(xh s l).1=s)∨((xh s l).2=0∧(qx l).2=0∧(jt s.m l).2=true∧(xh s l).1=⟨yu s.file (qx l).1,s.synced,(jt s.m l).1⟩):=by
 unfold xh;split
 ·exact .inl ⟨by assumption,rfl⟩
 ·split
  ·exact .inl ⟨by simp,rfl⟩
  ·rename_i h1 h2;exact .inr ⟨rfl,by simpa using h1,by simpa using h2,rfl⟩
theorem qjo {n:Nat} {s:Sto} (h:s.Ok n) (l:List OpS):(xh s l).1.Ok (n+1):=by
 rcases qgj s l with⟨_,d⟩|⟨_,h1,h2,d⟩
 ·rw[d];exact h.mono (jEg _)
 ·rw[d];refine⟨qgi l h.good (v8 h1).2.1 h2,?_⟩;have:=qq3 s.file _ (qan l);have:=h.file;simp only;omega
def vg (k:List UInt8):Option (List UInt8) ->List OpS->Option (List UInt8)
 |a,[]=>a
 |a,o::l=>vg k (if o.key=k then(if o.del then none else some o.val)else a) l
theorem qfx (k:List UInt8): ∀(l:List OpS) {m:Cont},m.Ok->(jt m l).2=true->mGet k (jt m l).1=vg k (mGet k m) l
 | [],m,_,_=>rfl
 |o::l,m,h,hy=>by
  rw[jt]at hy⊢;rw[vg];split at hy
  ·rename_i e;rw[if_pos e,qfx k l (qq2 h _) hy,q64 h];congr 1;by_cases d:k=o.key
   ·rw[if_pos d,if_pos d.symm,if_pos e]
   ·rw[if_neg d,if_neg (Ne.symm d)]
  ·rename_i e;rw[if_neg e];split at hy
   ·cases hy
   ·rename_i h4;rw[if_neg h4,qfx k l (qq1 h _ _) hy,q63];congr 1;by_cases d:k=o.key
    ·rw[if_pos d,if_pos d.symm,if_neg e]
    ·rw[if_neg d,if_neg (Ne.symm d)]
theorem qi8 (w:List UInt8):qbw (qe w)=w:=by
 induction w with
 |nil=>rfl
 |cons c w ih=>simp_all[qbw,qe]
theorem xo8 (w:List UInt8):(∃l,qe w=qe l)=True:=eq_true ⟨w,rfl⟩
theorem xr8:(∃l,([]:List (List D))=qe l)=True:=eq_true ⟨[],rfl⟩
theorem qw4:qbw []= []:=rfl
attribute [go_sem] qi8 xo8 xr8 qw4
def d30:=cut prog f30 news
@[go_sem] def E30:=qm d30
def d24:=cut prog f24 news
@[go_sem] def E24:=qm d24
theorem q0p (m:Cont) (p:List UInt8):(qa9 m p).length<=m.l.length:=by
 rw[qa9,(ki _).length_eq];simp only[preL,jAm];exact jD0 _ _
theorem qaw {α:Type} {f:α->Bool} {l:List α} {i:Nat} (h:(l.take i).all f=true) (d:i<l.length) (hf:f l[i]=true):(l.take (i+1)).all f=true:=by
 rw[jAk d,List.all_append,h];simp[hf]
theorem qq4 {α:Type} {f:α->Bool} {l:List α} {i:Nat} (d:i<l.length) (hf:f l[i]=false):l.all f=false:=by
 rw[List.all_eq_false];exact⟨l[i],jAg d,by simp[hf]⟩
structure StepS where
 kind:Int
 ops:List OpS
 deriving DecidableEq,Inhabited
def zq (x:StepS):List D:= [.int .i64 x.kind,.sl 3 (x.ops.map qr)]
theorem qk4 (o:StepS):D.noPtrL (zq o)=true:=by simp only[zq,D.noPtrL,D.noPtr,qb6,jBu]
theorem q4q (l:List StepS):D.noPtrR (l.map zq)=true:=x7 qk4 l
attribute [go_sem] qk4 q4q
def ops1:List OpS:= [⟨[97],false,[1]⟩,⟨[98],false,[2]⟩]
def ops2:List OpS:= [⟨[97],true,[]⟩]
def st1:Sto:=(xh newS ops1).1
def st2:Sto:=(xh st1 ops2).1
theorem c1:(xh newS ops1).2=0:=by decide+kernel
theorem c2:(xh st1 ops2).2=0:=by decide+kernel
theorem c3:qa9 st2.m []= [([98],[2])]:=by decide+kernel
theorem xpa:qh prog 28 [] [] (.d (.ptr 1 0)) [mapO newS.m,stoO newS 0]:=xm6
theorem xpb (s:List UInt8):(((s.length:Nat):Int)==0)=(s== []):=by cases s<;>simp<;>omega
def d189:=cut prog f189 news
@[go_sem] def E189:=qm d189
def F189:=fnC d189 follows func189
def d191:=cut prog f191 news
@[go_sem] def E191:=qm d191
def F191:=fnC d191 follows func191
def d185:=cut prog f185 news
@[go_sem] def E185:=qm d185
def F185:=fnC d185 follows func185
def d186:=cut prog f186 news
@[go_sem] def E186:=qm d186
def F186:=fnC d186 follows func186
def d269:=cut prog f269 news
@[go_sem] def E269:=qm d269
def F269:=fnC d269 follows func269
def d183:=cut prog f183 news
@[go_sem] def E183:=qm d183
def F183:=fnC d183 follows func183
def xsb:=cut prog f190 news
@[go_sem] def xvq:=qm xsb
def q4r:=fnC xsb follows func190
def d223:=cut prog f223 news
@[go_sem] def E223:=qm d223
def F223:=fnC d223 follows func223
theorem qfy (a b:List UInt8):qh prog 190 [.d (.sl 1 (qe a)),.d (.sl 1 (qe b))] [] (.d (.bool (a==b))) []:=by
 refine q4r.go ?_;exact et
def qnp (s:List UInt8):Bool:=decide ((s.length:Int)≥1)&&decide ((s.length:Int)<=30)
theorem qk5 (s:List UInt8):qh prog 183 [.d (.str s)] [] (.d (.bool (qnp s))) []:=by
 refine F183.go ?_;exact et1 @qnp.eq_1
def nKey (s:List UInt8):List UInt8:=s++ [47,110]
def sKey (s:List UInt8) (d:Nat):List UInt8:=s++ [47,UInt8.ofNat (48+d)]
theorem qw5 (s:List UInt8) (h:s.length<=1000):qh prog 185 [.d (.str s)] [] (.d (.str (nKey s))) []:=by
 refine F185.go ?_;refine ez1 @nKey.eq_1 ?_;omega
theorem qmg (s:List UInt8) (d:Nat) (h:s.length<=1000) (hd:d<4):qh Tryz.prog 186 [.d (.str s),.d (.int .i64 d)] [] (.d (.str (sKey s d))) []:=by
 refine F186.go ?_
 have h4:d=0∨d=1∨d=2∨d=3:=by omega
 have e0:(Utf8.encode (IntKind.i32.wrap (IntKind.i64.wrap 48))).data.toList= [48]:=by decide
 have e1:(Utf8.encode (IntKind.i32.wrap (IntKind.i64.wrap 49))).data.toList= [49]:=by decide
 have e2:(Utf8.encode (IntKind.i32.wrap (IntKind.i64.wrap 50))).data.toList= [50]:=by decide
 have e3:(Utf8.encode (IntKind.i32.wrap (IntKind.i64.wrap 51))).data.toList= [51]:=by decide
 rcases h4 with rfl|rfl|rfl|rfl
 all_goals
  try(refine ev6 @sKey.eq_1 @e0 @e1 @e2 @e3 @List.append_assoc.{0} ?_;try exact True.intro)
  repeat(with_reducible refine ob ?_)
  repeat' apply And.intro
  all_goals first|rfl|omega|trivial
def qao (q:Qu):List UInt8:=if q.acc=0∧q.cons=0 then []else wInt q.acc++wInt q.cons
theorem qk6 (q:Qu) (e:I64 q.acc) (h2:I64 q.cons):qh prog 189 [.d (.agg (encQ q))] [] (.d (.sl 1 (qe (qao q)))) []:=by
 have a1:=xu e;refine F189.go ?_;refine ez1 @encQ.eq_1 ?_;refine xp _ (λh=> ?_) (λh=> ?_)
 ·have hb:qao q= []:=by unfold qao;rw[if_pos];simpa using h
  exact et2 @hb @xa
 ·have hb:qao q=wInt q.acc++wInt q.cons:=by unfold qao;rw[if_neg];simpa using h
  refine ez ?_;refine clA F147 (kg [] q.acc (by simp) e) ?_;refine ez ?_;refine clA F147 (kg ([]++wInt q.acc) q.cons (by rw[List.nil_append];omega) h2) ?_;exact et1 @hb
theorem q66 {α:Type} {f:α->Bool} {l:List α} {i:Nat} (hi:(l.take i).find? f=none) (d:i<l.length) (h:f l[i]=true):l.find? f=some l[i]:=by
 have e:l.find? f=(l.take i++l.drop i).find? f:=by rw[jB5]
 rw[e,jDo,hi,jBn d];simp only[Option.none_or,jB7,h]
def qbe (q:Qu) (d:Int):List UInt8:=match q.items.find? (λp=>p.seq.tmod 4==d)with
 |some p=>(qa8 p).1
 |none=> []
def q67 (q:Qu) (d:Int) (i:{i:Nat//(q.items.take i).find? (λp=>p.seq.tmod 4==d)=none}):St:=
 ⟨[(1,true,.d (.int .i64 d)),(10,true,.d (.sl 9 (q.items.map qf))),(11,true,.d (.int .i64 q.items.length)),(12,true,.d (.int .i64 (i.val:Nat)))],[],[],1⟩
structure Qu.W (q:Qu):Prop where
 a:I64 q.acc
 c:I64 q.cons
 p: ∀p∈q.items,p.W
theorem qk7 (q:Qu) (d:Int) (m:q.Sm) (hw:q.W):qh prog 191 [.d (.agg (encQ q)),.d (.int .i64 d)] [] (.d (.sl 1 (qe (qbe q d)))) []:=by
 have hl:=m.1;refine F191.go ?_;refine ez1 @encQ.eq_1 ?_;refine qk (q67 q d) (λi=>q.items.length-i.val) ⟨0,rfl⟩ ?_ (λi=> ?_)
 ·exact et2 @q67.eq_1 @jAp
 obtain⟨i,hi⟩:=i;refine ez1 @q67.eq_1 ?_;refine xp _ (λh=> ?_) (λh=> ?_)
 ·have e:i<q.items.length:=by simpa using h
  have l:=q93 q.items[i] (m.2 _ (jAg e)) (hw.p _ (jAg e));simp only[qf]at l;refine eo2 (qj qf q.items e) @qf.eq_1 ?_;refine xp _ (λh=> ?_) (λh=> ?_)
  ·have hb:qbe q d=(qa8 q.items[i]).1:=by
    unfold qbe;rw[q66 hi e h]
   refine eo ?_;first|refine cl F255 (l) ?_|refine clF F255 (l) (λ_=>by exact et3 @qf.eq_1 @encQ.eq_1 @qr.eq_1) ?_
   exact et1 @hb
  ·refine ez ?_;refine⟨⟨i+1,?_⟩,?_,by dsimp only;omega⟩
   ·rw[jAk e,jDo,hi];simp only[Option.none_or,jB7,h,List.find?_nil]
   ·exact et2 @q67.eq_1 (qg (show i<9223372036854775807 by omega))
 ·have e:q.items.length<=i:=by simpa using h
  have hb:qbe q d= []:=by
   rw[jAr e]at hi;unfold qbe;rw[hi]
  exact et2 @hb @xa
def chg (k:List UInt8) (d next:List UInt8):List OpS:=if d=next then []else [⟨k,next== [],next⟩]
theorem q0q (l:List OpS) (k e next:List UInt8) (hl:l.length<=1000):qh prog 269 [.own 0 3 (l.map qr),.d (.str k),.d (.sl 1 (qe e)),.d (.sl 1 (qe next))] [] (.own 0 3 ((l++chg k e next).map qr)) []:=by
 refine F269.go ?_;refine eo ?_;first|refine cl q4r (qfy e next) ?_|refine clF q4r (qfy e next) (λ_=>by exact et3 @qf.eq_1 @encQ.eq_1 @qr.eq_1) ?_
 refine ez ?_;refine xp _ (λh=> ?_) (λh=> ?_)
 ·have hb:chg k e next= []:=by unfold chg;rw[if_pos (by simpa using h)]
  exact et2 @hb @jAu.{0}
 ·have hb:chg k e next= [⟨k,next== [],next⟩]:=by unfold chg;rw[if_neg (by simpa using h)]
  refine ez6 @hb @jA2.{0,0} @List.map_cons.{0,0} @List.map_nil.{0,0} @qr.eq_1 @xpb ?_;omega
def vn (a b:Qu) (name:List UInt8):Nat->List OpS
 |0=>chg (nKey name) (qao a) (qao b)
 |d+1=>vn a b name d++chg (sKey name d) (qbe a d) (qbe b d)
def kz (a b:Qu) (name:List UInt8):List OpS×Int:=if(!wy a|| !wy b|| !qnp name)=true then([],1)else(vn a b name 4,0)
theorem xee (k a b:List UInt8):(chg k a b).length<=1:=by unfold chg;split<;>simp
theorem qfz (a b:Qu) (name:List UInt8): ∀d,(vn a b name d).length<=d+1
 |0=>xee _ _ _
 |d+1=>by
  have:=qfz a b name d;have:=xee (sKey name d) (qbe a d) (qbe b d);rw[vn,jAc];omega
def xj6 (a b:Qu) (name:List UInt8) (d:Nat):St:=
 ⟨[(2,true,.d (.str name)),(3,true,.d (.ptr 0 0)),(4,true,.d (.ptr 1 0)),(8,true,.own 0 3 ((vn a b name d).map qr)),(30,true,.d (.int .i64 (d:Nat)))],[.row ((encQ a).map .d),.row ((encQ b).map .d)],[0],1⟩
theorem q4s (a b:Qu) (name:List UInt8) (o:a.Sm) (i:a.W) (m:b.Sm) (e:b.W) (hn:name.length<=1000):
  qh prog 223 [.d (.agg (encQ a)),.d (.agg (encQ b)),.d (.str name)] [] (.tup [.d (.sl 3 ((kz a b name).1.map qr)),.d (.int .i64 (kz a b name).2)]) []:=by
 refine F223.goT ?_;refine eo1 @encQ.eq_1 ?_;first|refine cl F188 (qb8 a o) ?_|refine clF F188 (qb8 a o) (λ_=>by exact et3 @qf.eq_1 @encQ.eq_1 @qr.eq_1) ?_
 refine eo ?_;first|refine cl F188 (qb8 b m) ?_|refine clF F188 (qb8 b m) (λ_=>by exact et3 @qf.eq_1 @encQ.eq_1 @qr.eq_1) ?_
 refine eo ?_;first|refine cl F183 (qk5 name) ?_|refine clF F183 (qk5 name) (λ_=>by exact et3 @qf.eq_1 @encQ.eq_1 @qr.eq_1) ?_
 refine eo ?_;refine xp _ (λh=> ?_) (λh=> ?_)
 ·have hx:kz a b name=([],1):=by unfold kz;rw[if_pos h]
  exact et2 @hx @List.map_nil.{0,0}
 have hx:kz a b name=(vn a b name 4,0):=by unfold kz;rw[if_neg];simp[h]
 refine eo ?_;first|refine cl F185 (qw5 name hn) ?_|refine clF F185 (qw5 name hn) (λ_=>by exact et3 @qf.eq_1 @encQ.eq_1 @qr.eq_1) ?_
 refine eo ?_;first|refine cl F189 (qk6 a i.a i.c) ?_|refine clF F189 (qk6 a i.a i.c) (λ_=>by exact et3 @qf.eq_1 @encQ.eq_1 @qr.eq_1) ?_
 refine eo ?_;first|refine cl F189 (qk6 b e.a e.c) ?_|refine clF F189 (qk6 b e.a e.c) (λ_=>by exact et3 @qf.eq_1 @encQ.eq_1 @qr.eq_1) ?_
 refine ez ?_;refine clA F269 (q0q [] (nKey name) (qao a) (qao b) (by simp)) ?_;refine ez ?_;refine qk (λd:{d:Nat//d<=4}=>xj6 a b name d.val) (λd=>4-d.val) ⟨0,jAi _⟩ ?_ (λd=> ?_)
 ·simp only[xj6,jAp,vn,encQ,go_sem,simprocAttr]
 obtain⟨d,hd⟩:=d;refine ez2 @xj6.eq_1 @encQ.eq_1 ?_;refine xp _ (λh=> ?_) (λh=> ?_)
 ·have l:d<4:=by simp at h;omega
  have:=qfz a b name d;refine eo ?_;first|refine cl F186 (qmg name d hn l) ?_|refine clF F186 (qmg name d hn l) (λ_=>by exact et3 @qf.eq_1 @encQ.eq_1 @qr.eq_1) ?_
  refine eo ?_;first|refine cl F191 (qk7 a d o i) ?_|refine clF F191 (qk7 a d o i) (λ_=>by exact et3 @qf.eq_1 @encQ.eq_1 @qr.eq_1) ?_
  refine eo ?_;first|refine cl F191 (qk7 b d m e) ?_|refine clF F191 (qk7 b d m e) (λ_=>by exact et3 @qf.eq_1 @encQ.eq_1 @qr.eq_1) ?_
  refine ez ?_;refine clA F269 (q0q (vn a b name d) (sKey name d) (qbe a d) (qbe b d) (by omega)) ?_;refine ez ?_;refine⟨⟨d+1,l⟩,?_,by dsimp only;omega⟩;simp only[xj6,encQ,vn,qg (show d<9223372036854775807 by omega),go_sem,simprocAttr]
 ·have l:d=4:=by simp at h;omega
  subst l;exact et1 @hx
theorem qk8 {α:Type} {f:α->Bool} {l:List α} {i:Nat} (h:(l.take i).all f=true) (hi:l.length<=i):l.all f=true:=by
 rwa [jAr hi]at h
def d201:=cut prog f201 news
@[go_sem] def E201:=qm d201
def d202:=cut prog f202 news
@[go_sem] def E202:=qm d202
def d264:=cut prog f264 news
@[go_sem] def E264:=qm d264
def d203:=cut prog f203 news
@[go_sem] def E203:=qm d203
def d114:=cut prog f114 news
@[go_sem] def E114:=qm d114
def qoc (p:Pk):AObj:= .row [.d (.int .i64 p.kind),.d (.int .i64 p.sess),.d (.int .i64 p.epoch),.d (.int .i64 p.from_),.d (.int .i64 p.to),.d (.int .i64 p.seq),.d (.int .i64 p.label),.d (.sl 3 (p.values.map xw)),.d (.sl 1 (p.clock.map encI))]
def d209:=cut prog f209 news
@[go_sem] def E209:=qm d209
def d210:=cut prog f210 news
@[go_sem] def E210:=qm d210
def d124:=cut prog f124 news
@[go_sem] def E124:=qm d124
def d111:=cut prog f111 news
@[go_sem] def E111:=qm d111
def d36:=cut prog f36 news
@[go_sem] def E36:=qm d36
def F36:=fnC d36 follows func36
def qhs (v:AV):Bool:= !decide ((v.s.length:Int)>100)
def qoe (p:Pk):Bool:=p.values.all qhs&&(decide ((p.values.length:Int)<=10)&&decide ((p.clock.length:Int)<=10))
def q7d (p:Pk) (i:{i:Nat//(p.values.take i).all qhs=true}):St:=⟨[(1,true,.d (.ptr 0 0)),(3,true,.d (.int .i64 (i.val:Nat)))],[qoc p],[],1⟩
theorem xj7 (p:Pk) (hp:p.values.length<=maxLen):qh prog 36 [.d (.agg (qf p))] [] (.d (.bool (qoe p))) []:=by
 unfold maxLen at hp;first|refine F36.go ?_|refine F36.goT ?_
 refine ez1 @qf.eq_1 ?_;refine qk (q7d p) (λi=>p.values.length-i.val) ⟨0,rfl⟩ ?_ (λi=> ?_)
 ·exact et2 @q7d.eq_1 @qoc.eq_1
 obtain⟨i,hi⟩:=i;refine ez2 @q7d.eq_1 @qoc.eq_1 ?_;refine qy _ rfl rfl (λh=> ?_) (λh=> ?_)
 ·have e:i<p.values.length:=by simpa using h
  refine eo2 (qj xw p.values e) @xw.eq_1 ?_;refine qy _ rfl rfl (λm=> ?_) (λm=> ?_)
  ·have l:qhs p.values[i]=false:=by simp only[qhs,m];rfl
   exact et2 @qoe.eq_1 (qq4 e l)
  ·have l:qhs p.values[i]=true:=by simp only[qhs,m];rfl
   refine ez ?_;refine⟨⟨i+1,qaw hi e l⟩,?_,by dsimp only;omega⟩;exact et3 @q7d.eq_1 @qoc.eq_1 (qg (show i<9223372036854775807 by omega))
 ·have hall:p.values.all qhs=true:=qk8 hi (by simpa using h);exact et2 @qoe.eq_1 @hall
structure Ue where
 sess:Int
 phase:Int
 moved:List Bool
 opened:List Bool
 deriving DecidableEq,Inhabited
def encB (b:Bool):List D:= [.bool b]
theorem qt7 (b:Bool):D.noPtrL (encB b)=true:=rfl
theorem qae (l:List Bool):D.noPtrR (l.map encB)=true:=x7 qt7 l
def ql (x:Ue):List D:= [.int .i64 x.sess,.int .i64 x.phase,.sl 1 (x.moved.map encB),.sl 1 (x.opened.map encB)]
theorem qjp (x:Ue):D.noPtrL (ql x)=true:=by simp only[ql,D.noPtrL,D.noPtr,qae,jBu]
theorem qf0 (l:List Ue):D.noPtrR (l.map ql)=true:=x7 qjp l
structure Mg where
 roles:Int
 ents:List Ue
 deriving DecidableEq,Inhabited
def qu (m:Mg):List D:= [.int .i64 m.roles,.sl 4 (m.ents.map ql)]
theorem q4u (m:Mg):D.noPtrL (qu m)=true:=by simp only[qu,D.noPtrL,D.noPtr,qf0,jBu]
attribute [go_sem] qt7 qae qjp qf0 q4u
def Ue.Sm (x:Ue):Prop:=x.moved.length<=1000∧x.opened.length<=1000
def Mg.Sm (m:Mg):Prop:=m.ents.length<=1000∧ ∀x∈m.ents,x.Sm
def d266:=cut prog f266 news
@[go_sem] def E266:=qm d266
def F266:=fnC d266 follows func266
def d211:=cut prog f211 news
@[go_sem] def E211:=qm d211
def F211:=fnC d211 follows func211
def d134:=cut prog f134 news
@[go_sem] def E134:=qm d134
def F134:=fnC d134 follows func134
def d69:=cut prog f69 news
@[go_sem] def E69:=qm d69
def F69:=fnC d69 follows func69
def hasB (v:Bool) (l:List Bool):Bool:=l.any λb=>v==b
def q7e (l:List Bool) (v:Bool) (i:{i:Nat//(l.take i).any (λb=>v==b)=false}):St:=
 ⟨[(0,true,.d (.sl 1 (l.map encB))),(1,true,.d (.bool v)),(7,true,.d (.int .i64 l.length)),(8,true,.d (.int .i64 (i.val:Nat)))],[],[],1⟩
theorem qt8 (l:List Bool) (v:Bool) (hl:l.length<=1000):qh prog 266 [.d (.sl 1 (l.map encB)),.d (.bool v)] [] (.d (.int .i64 (idx (λb=>v==b) l))) []:=by
 refine F266.go ?_;refine ez ?_;refine qk (q7e l v) (λi=>l.length-i.val) ⟨0,rfl⟩ ?_ (λi=> ?_)
 ·exact et1 @q7e.eq_1
 obtain⟨i,hi⟩:=i;refine eo1 @q7e.eq_1 ?_;refine xp _ (λh=> ?_) (λh=> ?_)
 ·have e:i<l.length:=by simpa using h
  refine eo2 (qj encB l e) @encB.eq_1 ?_;refine xp _ (λm=> ?_) (λm=> ?_)
  ·exact et1 (qe3 (f:=λb=>v==b) hi e m)
  ·refine ez ?_;refine⟨⟨i+1,vl hi e m⟩,?_,by dsimp only;omega⟩;exact et2 @q7e.eq_1 (qg (show i<9223372036854775807 by omega))
 ·have e:l.length<=i:=by simpa using h
  exact et1 (qe2 hi e)
theorem qax (l:List Bool) (v:Bool) (e:l.length<=1000):qh prog 211 [.d (.sl 1 (l.map encB)),.d (.bool v)] [] (.d (.bool (hasB v l))) []:=by
 refine F211.go ?_;refine eo ?_;first|refine cl F266 (qt8 l v e) ?_|refine clF F266 (qt8 l v e) (λ_=>by exact et2 @ql.eq_1 @qu.eq_1) ?_
 exact et2 @qty @hasB.eq_1
def zs (x:Ue):Int:=
 if !hasB false x.moved&& !hasB false x.opened then 3 else if !hasB false x.moved then 2 else if hasB true x.opened then 0 else 1
theorem qbr (x:Ue) (h:x.Sm):qh prog 134 [.d (.agg (ql x))] [] (.d (.int .i64 (zs x))) []:=by
 refine F134.go ?_;refine eo1 @ql.eq_1 ?_;first|refine cl F211 (qax x.moved false h.1) ?_|refine clF F211 (qax x.moved false h.1) (λ_=>by exact et2 @ql.eq_1 @qu.eq_1) ?_
 refine eo ?_;first|refine cl F211 (qax x.opened false h.2) ?_|refine clF F211 (qax x.opened false h.2) (λ_=>by exact et2 @ql.eq_1 @qu.eq_1) ?_
 refine ez ?_;refine xp _ (λh1=> ?_) (λh1=> ?_)
 ·have e:zs x=3:=by simp_all[zs]
  exact et1 @e
 refine ez ?_;refine xp _ (λh2=> ?_) (λh2=> ?_)
 ·have e:zs x=2:=by simp_all[zs]
  exact et1 @e
 refine eo ?_;first|refine cl F211 (qax x.opened true h.2) ?_|refine clF F211 (qax x.opened true h.2) (λ_=>by exact et2 @ql.eq_1 @qu.eq_1) ?_
 refine ez ?_;refine xp _ (λh3=> ?_) (λh3=> ?_)
 ·have e:zs x=0:=by simp_all[zs]
  exact et1 @e
 ·have e:zs x=1:=by simp_all[zs]
  exact et1 @e
theorem w01:(IntKind.i64.wrap (0-1)).toNat=0:=by decide
theorem w02:(IntKind.i64.wrap (-1)).toNat=0:=by decide
def qem (m:Mg) (i:Nat):Bool:=
 decide ((m.ents.getD i default).sess<1)||decide ((m.ents.getD i default).sess>32)||(decide ((i:Int)>0)&&decide ((m.ents.getD i default).sess<=(m.ents.getD (i-1) default).sess))||
 ((m.ents.getD i default).moved.length:Int) !=m.roles||((m.ents.getD i default).opened.length:Int) !=m.roles||(m.ents.getD i default).phase==0||(m.ents.getD i default).phase !=zs (m.ents.getD i default)
def ja (m:Mg):Bool:=qb7 (λi=> !qem m i) m.ents.length&&(decide (m.roles≥1)&&decide (m.roles<=6))
theorem en0 (m:Mg) (h:0<m.ents.length):(decide (m.ents[0].sess<1)||decide (m.ents[0].sess>32)||(m.ents[0].moved.length:Int) !=m.roles||(m.ents[0].opened.length:Int) !=m.roles||m.ents[0].phase==0||m.ents[0].phase !=zs m.ents[0])=qem m 0:=by
 simp only[qem,zm h,jAp,decide_false,jEj,jFu,Int.natCast_zero,show¬((0:Int)>0) by omega]
theorem enk (m:Mg) (k:Nat) (h:k+1<m.ents.length) (h':k<m.ents.length):(decide (m.ents[k+1].sess<1)||decide (m.ents[k+1].sess>32)||(decide ((k:Int)+1>0)&&decide (m.ents[k+1].sess<=m.ents[k].sess))||(m.ents[k+1].moved.length:Int) !=m.roles||(m.ents[k+1].opened.length:Int) !=m.roles||m.ents[k+1].phase==0||m.ents[k+1].phase !=zs m.ents[k+1])=qem m (k+1):=by
 simp only[qem,zm h,jEu,zm h',Int.natCast_add,jDw]
def jb (m:Mg):AObj:= .row [.d (.int .i64 m.roles),.d (.sl 4 (m.ents.map ql))]
def qla (m:Mg) (i:{i:Nat//qb7 (λi=> !qem m i) i=true}):St:=
 ⟨[(1,true,.d (.ptr 0 0)),(6,true,.d (.sl 4 (m.ents.map ql))),(7,true,.d (.int .i64 m.ents.length)),(8,true,.d (.int .i64 (i.val:Nat)))],[jb m],[],1⟩
set_option maxRecDepth 10000 in
theorem ye (m:Mg) (hm:m.Sm):qh Tryz.prog 69 [.d (.agg (qu m))] [] (.d (.bool (ja m))) []:=by
 have hl:=hm.1
 refine F69.go ?_
 try(refine ev1 @qu.eq_1 ?_;try exact True.intro)
 refine qk (qla m) (fun i=>m.ents.length-i.val) ⟨0,rfl⟩ ?_ (fun i=> ?_)
 ·try(refine ev2 @qla.eq_1 @jb.eq_1 ?_;try exact True.intro)
 obtain⟨i,hi⟩:=i
 try(refine ev2 @qla.eq_1 @jb.eq_1 ?_;try exact True.intro)
 (repeat(with_reducible refine ob ?_));refine xp _ (fun h=> ?_) (fun h=> ?_)
 ·have hil:i<m.ents.length:=by simpa using h
  have hx:=hm.2 _ (List.getElem_mem hil)
  rcases Nat.eq_zero_or_pos i with h0|h0
  ·subst h0
   (refine ev5 (qj ql m.ents hil) @ql.eq_1 @Int.toNat_zero @w01 @w02 ?_;try exact True.intro)
   (repeat(with_reducible refine ob ?_))
   (repeat(with_reducible refine ob ?_));first|refine cl F134 (qbr m.ents[0] hx) ?_|refine clF F134 (qbr m.ents[0] hx) (fun _=>by(refine ev2 @ql.eq_1 @qu.eq_1 ?_;try exact True.intro)) ?_
   try(refine ev ?_;try exact True.intro)
   refine⟨fun h=>by rw[h];rfl,?_⟩
   refine qy (qem m 0) rfl ?_ (fun h2=> ?_) (fun h2=> ?_)
   ·try(refine ev1 (en0 m hil) ?_;try exact True.intro)
   ·have hg:(!qem m 0)=false:=by simp[h2]
    try(refine ev2 @ja.eq_1 (qe4 (g:=fun i=> !qem m i) hil hg) ?_;try exact True.intro)
   ·try(refine ev ?_;try exact True.intro)
    refine⟨⟨1,y5 hi (by simp[h2])⟩,?_,by dsimp only;omega⟩
    try(refine ev3 @qla.eq_1 @jb.eq_1 (show IntKind.i64.wrap 1=1 by decide) ?_;try exact True.intro)
  ·obtain⟨k,rfl⟩: ∃k,i=k+1:=⟨i-1,by omega⟩
   have hk:k<m.ents.length:=by omega
   have hw:IntKind.i64.wrap (((k:Nat):Int)+1-1)=((k:Nat):Int):=by rw[wrap_i64 (by omega) (by omega)];omega
   have hw2:IntKind.i64.wrap (((k:Nat):Int)+1+1)=((k:Nat):Int)+1+1:=by rw[wrap_i64 (by omega) (by omega)]
   (refine ev4 (qj ql m.ents hil) (qj ql m.ents hk) @hw @ql.eq_1 ?_;try exact True.intro)
   (repeat(with_reducible refine ob ?_))
   (repeat(with_reducible refine ob ?_));first|refine cl F134 (qbr m.ents[k+1] hx) ?_|refine clF F134 (qbr m.ents[k+1] hx) (fun _=>by(refine ev2 @ql.eq_1 @qu.eq_1 ?_;try exact True.intro)) ?_
   try(refine ev ?_;try exact True.intro)
   refine⟨fun h=>by rw[h];rfl,?_⟩
   refine qy (qem m (k+1)) rfl ?_ (fun h2=> ?_) (fun h2=> ?_)
   ·try(refine ev1 (enk m k hil hk) ?_;try exact True.intro)
   ·have hg:(!qem m (k+1))=false:=by simp[h2]
    try(refine ev2 @ja.eq_1 (qe4 (g:=fun i=> !qem m i) hil hg) ?_;try exact True.intro)
   ·try(refine ev ?_;try exact True.intro)
    refine⟨⟨k+1+1,y5 hi (by simp[h2])⟩,?_,by dsimp only;omega⟩
    try(refine ev3 @qla.eq_1 @jb.eq_1 @hw2 ?_;try exact True.intro)
 ·have hil:m.ents.length<=i:=by simpa using h
  have ha:qb7 (fun i=> !qem m i) m.ents.length=true:=zo.2 fun j hj=>zo.1 hi j (by omega)
  try(refine ev ?_;try exact True.intro)
  (repeat(with_reducible refine ob ?_))
  (refine ev2 @ja.eq_1 @ha ?_;try exact True.intro)
def d144:=cut prog f144 news
@[go_sem] def E144:=qm d144
def F144:=fnC d144 follows func144
def d143:=cut prog f143 news
@[go_sem] def E143:=qm d143
def F143:=fnC d143 follows func143
def d77:=cut prog f77 news
@[go_sem] def E77:=qm d77
def F77:=fnC d77 follows func77
def d145:=cut prog f145 news
@[go_sem] def E145:=qm d145
def F145:=fnC d145 follows func145
def d78:=cut prog f78 news
@[go_sem] def E78:=qm d78
def F78:=fnC d78 follows func78
def d101:=cut prog f101 news
@[go_sem] def E101:=qm d101
def F101:=fnC d101 follows func101
def d40:=cut prog f40 news
@[go_sem] def E40:=qm d40
def F40:=fnC d40 follows func40
def d43:=cut prog f43 news
@[go_sem] def E43:=qm d43
def F43:=fnC d43 follows func43
def sObj (s:Int):AObj:= .row [.d (.int .i64 s)]
attribute [go_sem] sObj
theorem xj9 (x:Ue) (s:Int):qh prog 144 [.d (.agg (ql x)),.d (.ptr 0 0)] [sObj s] (.d (.bool (decide (x.sess≥s)))) [sObj s]:=by
 refine F144.go ?_;exact et2 @ql.eq_1 @sObj.eq_1
def xka (l:List Ue) (k:FuncId) (s:Int) (f:Ue->Bool) (i:{i:Nat//(l.take i).any f=false}):St:=
 ⟨[(0,true,.d (.sl 4 (l.map ql))),(1,true,.d (.func (.func k) [] [.ptr 0 0])),(6,true,.d (.sl 4 (l.map ql))),(7,true,.d (.int .i64 l.length)),(8,true,.d (.int .i64 (i.val:Nat)))],
  [sObj s],[],1⟩
theorem xaa (l:List Ue) (s:Int) (hl:l.length<=1000):qh prog 143 [.d (.sl 4 (l.map ql)),.d (.func (.func 144) [] [.ptr 0 0])] [sObj s]
  (.d (.int .i64 (idx (λx=>decide (x.sess≥s)) l))) [sObj s]:=by
 refine F143.go ?_;refine ez ?_;refine qk (xka l 144 s (λx=>decide (x.sess≥s))) (λi=>l.length-i.val) ⟨0,rfl⟩ ?_ (λi=> ?_)
 ·exact et2 @xka.eq_1 @sObj.eq_1
 obtain⟨i,hi⟩:=i;refine eo1 @xka.eq_1 ?_;refine xp _ (λh=> ?_) (λh=> ?_)
 ·have e:i<l.length:=by simpa using h
  refine eo2 (qj ql l e) @ql.eq_1 ?_;refine clO [0] F144 (xj9 l[i] s) ?_ (hfit:=by first|exact⟨qd,trivial⟩|exact⟨qd,qd,trivial⟩|(refine ev2 @ql.eq_1 @qu.eq_1 ?_;try exact⟨⟩))
  refine ez1 @sObj.eq_1 ?_;refine xp _ (λm=> ?_) (λm=> ?_)
  ·exact et1 (qe3 (f:=λx=>decide (x.sess≥s)) hi e m)
  ·refine ez ?_;refine⟨⟨i+1,vl hi e m⟩,?_,by dsimp only;omega⟩;exact et3 @xka.eq_1 @sObj.eq_1 (qg (show i<9223372036854775807 by omega))
 ·exact et2 (qe2 hi (by simpa using h)) @sObj.eq_1
def xj (m:Mg) (s:Int):Nat×Bool:=
 if m.ents.any (λx=>decide (x.sess≥s))then(m.ents.findIdx (λx=>decide (x.sess≥s)),(m.ents.getD (m.ents.findIdx (λx=>decide (x.sess≥s))) default).sess==s)else(m.ents.length,false)
theorem xpc {α:Type} (f:α->Bool) (l:List α):decide (idx f l<0)= !l.any f:=by
 unfold idx;cases l.any f<;>simp
theorem qq7 {α:Type} {f:α->Bool} {l:List α} (h:l.any f=true):idx f l=(l.findIdx f:Int)∧l.findIdx f<l.length:=by
 refine⟨by simp[idx,h],?_⟩;rw[List.findIdx_lt_length];simpa using h
theorem qf1 (m:Mg) (s:Int) (hm:m.Sm):qh prog 77 [.d (.agg (qu m)),.d (.int .i64 s)] [] (.tup [.d (.int .i64 ((xj m s).1:Nat)),.d (.bool (xj m s).2)]) []:=by
 refine F77.goT ?_;refine eo1 @qu.eq_1 ?_;refine clO [1] F143 (xaa m.ents s hm.1) ?_ (hfit:=by first|exact⟨qd,trivial⟩|exact⟨qd,qd,trivial⟩|(refine ev2 @ql.eq_1 @qu.eq_1 ?_;try exact⟨⟩))
 refine eo2 @xpc @sObj.eq_1 ?_;refine xp _ (λh=> ?_) (λh=> ?_)
 ·have e:m.ents.any (λx=>decide (x.sess≥s))=false:=by simpa using h
  have hu:xj m s=(m.ents.length,false):=by simp[xj,e]
  exact et1 @hu
 ·have e:m.ents.any (λx=>decide (x.sess≥s))=true:=by simpa using h
  obtain⟨h1,i⟩:=qq7 e;have hu:xj m s=(m.ents.findIdx (λx=>decide (x.sess≥s)),(m.ents.getD (m.ents.findIdx (λx=>decide (x.sess≥s))) default).sess==s):=by simp[xj,e]
  rw[hu,zm i];rw[h1];generalize m.ents.findIdx (λx=>decide (x.sess≥s))=k at i⊢;refine eo2 (qj ql m.ents i) @ql.eq_1 ?_;refine ez2 (qj ql m.ents i) @ql.eq_1 ?_;first|omega|exact⟨by omega,by omega⟩|skip
theorem q7f (l m:List Bool) (hl:l.length<=1000):
  qh prog 145 [.d (.sl 1 (l.map encB)),.d (.sl 1 (m.map encB))] [] (.d (.bool (decide (l=m)))) []:=by
 refine F145.go ?_;refine ez ?_;refine xp _ (λh=> ?_) (λh=> ?_)
 ·have hne:decide (l=m)=false:=by rw[decide_eq_false_iff_not];rintro rfl;simp at h
  exact et1 @hne
 ·have hlm:l.length=m.length:=by simp at h;omega
  refine ez ?_;refine qk (Seq 1 encB l m) (λi=>l.length-i.val) ⟨0,rfl⟩ ?_ (λi=> ?_)
  ·exact et1 @Seq.eq_1
  ·obtain⟨i,hi⟩:=i;refine ez1 @Seq.eq_1 ?_;refine xp _ (λh=> ?_) (λh=> ?_)
   ·have o:i<l.length:=by simpa using h
    have e:i<m.length:=by omega
    refine ez3 (qj encB l o) (qj encB m e) @encB.eq_1 ?_;refine⟨by omega,by omega,?_⟩;refine xp _ (λp=> ?_) (λp=> ?_)
    ·have hne:l[i]≠m[i]:=by simpa using p
     exact et1 (qwu o e hne)
    ·have he:l[i]=m[i]:=by simpa using p
     refine ez ?_;refine⟨⟨i+1,ym hi o e he⟩,?_,by dsimp only;omega⟩;exact et2 @Seq.eq_1 (qg (show i<9223372036854775807 by omega))
   ·have he:decide (l=m)=true:=by
     have:l.length<=i:=by simpa using h
     rw[jAr this,jAr (by omega)]at hi;simp[hi]
    exact et1 @he
theorem xm8 (x y:Ue):(x.sess==y.sess&&x.phase==y.phase&&decide (x.moved=y.moved)&&decide (x.opened=y.opened))=decide (x=y):=by
 obtain⟨a1,a2,a3,a4⟩:=x;obtain⟨b1,b2,b3,b4⟩:=y;rw[jBm];simp[and_assoc]
theorem qmh (x y:Ue) (e:x.Sm):qh prog 78 [.d (.agg (ql x)),.d (.agg (ql y))] [] (.d (.bool (decide (x=y)))) []:=by
 refine F78.go ?_;refine eo1 @ql.eq_1 ?_;first|refine cl F145 (q7f x.moved y.moved e.1) ?_|refine clF F145 (q7f x.moved y.moved e.1) (λ_=>by exact et2 @ql.eq_1 @qu.eq_1) ?_
 refine eo ?_
 (repeat(with_reducible refine ob ?_));first|refine cl F145 (q7f x.opened y.opened e.2) ?_|refine clF F145 (q7f x.opened y.opened e.2) (λ_=>by exact et2 @ql.eq_1 @qu.eq_1) ?_
 exact et1 @xm8
def SeqE (l m:List Ue) (i:{i:Nat//qb7 (eqAt (λx y=>decide (x=y)) l m) i=true}):St:=
 ⟨[(1,true,.d (.sl 4 (m.map ql))),(2,true,.d (.func (.func 78) [] [])),(15,true,.d (.sl 4 (l.map ql))),(16,true,.d (.int .i64 l.length)),(17,true,.d (.int .i64 (i.val:Nat)))],[],[],1⟩
theorem q7g (l m:List Ue) (hl:l.length<=1000) (hp: ∀x∈l,x.Sm):
  qh prog 101 [.d (.sl 4 (l.map ql)),.d (.sl 4 (m.map ql)),.d (.func (.func 78) [] [])] [] (.d (.bool (decide (l=m)))) []:=by
 refine F101.go ?_;refine ez ?_;refine xp _ (λh=> ?_) (λh=> ?_)
 ·have hne:decide (l=m)=false:=by rw[decide_eq_false_iff_not];rintro rfl;simp at h
  exact et1 @hne
 ·have p:l.length=m.length:=by simp at h;omega
  refine ez ?_;refine qk (SeqE l m) (λi=>l.length-i.val) ⟨0,rfl⟩ ?_ (λi=> ?_)
  ·exact et1 @SeqE.eq_1
  ·obtain⟨i,hi⟩:=i;refine ez1 @SeqE.eq_1 ?_;refine xp _ (λh=> ?_) (λh=> ?_)
   ·have e:i<l.length:=by simpa using h
    have o:i<m.length:=by omega
    refine eo3 (qj ql l e) (qj ql m o) @ql.eq_1 ?_
    (repeat(with_reducible refine ob ?_));first|refine cl F78 (qmh l[i] m[i] (hp _ (jAg e))) ?_|refine clF F78 (qmh l[i] m[i] (hp _ (jAg e))) (λ_=>by exact et2 @ql.eq_1 @qu.eq_1) ?_
    refine ez ?_;refine xp _ (λq=> ?_) (λq=> ?_)
    ·have hne:l[i]≠m[i]:=by simpa using q
     exact et1 (qwu e o hne)
    ·have he:l[i]=m[i]:=by simpa using q
     refine ez ?_;refine⟨⟨i+1,y5 hi (by simp[eqAt,e,o,he])⟩,?_,by dsimp only;omega⟩;exact et2 @SeqE.eq_1 (qg (show i<9223372036854775807 by omega))
   ·have he:decide (l=m)=true:=by
     have:l.length<=i:=by simpa using h
     rw[<- xdx];simp only[eqBy,p,beq_self_eq_true,jCr];exact zo.2 λj hj=>zo.1 hi j (by omega)
    exact et1 @he
theorem xm9 (a b:Mg):(a.roles==b.roles&&decide (a.ents=b.ents))=decide (a=b):=by
 obtain⟨a1,a2⟩:=a;obtain⟨b1,b2⟩:=b;rw[jBm];simp
theorem xab (a b:Mg) (e:a.Sm):qh prog 40 [.d (.agg (qu a)),.d (.agg (qu b))] [] (.d (.bool (decide (a=b)))) []:=by
 refine F40.go ?_;refine eo1 @qu.eq_1 ?_;first|refine cl F101 (q7g a.ents b.ents e.1 e.2) ?_|refine clF F101 (q7g a.ents b.ents e.1 e.2) (λ_=>by exact et2 @ql.eq_1 @qu.eq_1) ?_
 refine ez ?_;exact xm9 a b
def qmi (n:Int):Mg×Int:=if decide (n<1)||decide (n>6)then(⟨0,[]⟩,2)else(⟨n,[]⟩,0)
theorem qw7 (n:Int):qh prog 43 [.d (.int .i64 n)] [] (.tup [.d (.agg (qu (qmi n).1)),.d (.int .i64 (qmi n).2)]) []:=by
 refine F43.goT ?_;refine eo ?_;refine xp _ (λh=> ?_) (λh=> ?_)
 ·exact et4 @qmi.eq_1 @h @qu.eq_1 @List.map_nil.{0,0}
 ·exact et4 @qmi.eq_1 @h @qu.eq_1 @List.map_nil.{0,0}
def xsd:=cut prog f224 news [7]
@[go_sem] def xvs:=qm xsd
def xpd:=fnC xsd follows func224
def xse:=cut prog f225 news [7]
@[go_sem] def xvt:=qm xse
def xpe:=fnC xse follows func225
def d225:=cut prog f225 news
@[go_sem] def E225:=qm d225
def F225:=fnC d225 follows func225
theorem q0s (l:List Ue) (hl:l.length<=1000):qh prog 224 [.d (.sl 4 (l.map ql))] [] (.uni 0 4 (l.map ql)) []:=by
 refine xpd.go ?_;refine ez ?_;refine ql7 rfl rfl (λb hb=> ?_);refine eo ?_;refine xp _ (λh=> ?_) (λh=> ?_)
 ·exact et1 (hb h)
 ·refine ez ?_;omega
theorem qt9 (l:List Bool) (hl:l.length<=1000):qh prog 225 [.d (.sl 1 (l.map encB))] [] (.uni 0 1 (l.map encB)) []:=by
 refine xpe.go ?_;refine ez ?_;refine ql7 rfl rfl (λb hb=> ?_);refine eo ?_;refine xp _ (λh=> ?_) (λh=> ?_)
 ·exact et1 (hb h)
 ·refine ez ?_;omega
theorem yy (l:List Bool) (hl:l.length<=1000):qh prog 225 [.d (.sl 1 (l.map encB))] [] (.d (.sl 1 (l.map encB))) []:=by
 refine F225.go ?_;refine ez ?_;refine ql7 rfl rfl (λb hb=> ?_);refine eo ?_;refine xp _ (λh=> ?_) (λh=> ?_)
 ·exact et1 (hb h)
 ·refine ez ?_;omega
def xsf:=cut prog f141 news [] [2,7] true
@[go_sem] def xvu:=qm xsf
def xsg:=fnC xsf follows func141
theorem xac (b es:Nat) (rows:List (List D)):qeb b (.uni 0 es rows)= .uni b es rows:=by simp[qeb,wm,renT,ASlot.toks]
theorem xad (b es:Nat) (rows:List (List D)):qeb b (.own 0 es rows)= .own b es rows:=by simp[qeb,wm,renT,ASlot.toks]
attribute [go_sem] xac xad
def jq (l:List Ue):List ASlot:=(l.map ql).flatten.map ASlot.d
theorem q0t (l:List Ue):List.map ASlot.d (l.map ql).flatten=jq l:=rfl
theorem zh (x:Ue) (l:List Ue):jq (x::l)= .d (.int .i64 x.sess):: .d (.int .i64 x.phase):: .d (.sl 1 (x.moved.map encB)):: .d (.sl 1 (x.opened.map encB))::jq l:=rfl
theorem qen: ∀l:List Ue,(jq l).length=l.length*4
 | []=>rfl
 |x::l=>by rw[zh];simp only[List.length_cons,qen l];omega
theorem qht: ∀(l:List Ue) (i j:Nat) (_:i<l.length) (_:j<4),(jq l)[i*4+j]? =some (.d ((ql l[i]).getD j .nilsl))
 |x::l,0,j,_,hj=>by
  rw[zh];have:j=0∨j=1∨j=2∨j=3:=by omega
  rcases this with rfl|rfl|rfl|rfl<;>rfl
 |x::l,i+1,j,hi,hj=>by
  rw[zh,show(i+1)*4+j=(i*4+j)+1+1+1+1 by omega];simp only[jCb];exact qht l i j (by simpa using hi) hj
theorem qua (l:List Ue) (i j:Nat) (hi:i<l.length) (hj:j<4):(jq l).getD (i*4+j) .bad= .d ((ql l[i]).getD j .nilsl):=by
 rw[jA0,qht l i j hi hj];rfl
theorem q0u (l:List Ue) (i j:Nat) (hi:i<l.length) (e:j<4):(jq l).set (i*4+j) (.d ((ql l[i]).getD j .nilsl))=jq l:=by
 refine jC6 λk=> ?_;rw[List.getElem?_set];split
 ·rename_i h;subst h;rw[qht l i j hi e];have:=(jAd.1 (qht l i j hi e)).1;simp[this]
 ·rfl
theorem qoq {l:List Ue} {i:Nat} (hi:i<l.length):(jq l).getD (i*4+2) .bad= .d (.sl 1 (l[i].moved.map encB)):=qua l i 2 hi (by decide)
theorem qor {l:List Ue} {i:Nat} (hi:i<l.length):(jq l).getD (i*4+3) .bad= .d (.sl 1 (l[i].opened.map encB)):=qua l i 3 hi (by decide)
theorem qgk {l:List Ue} {i:Nat} (hi:i<l.length):(jq l).set (i*4+2) (.d (.sl 1 (l[i].moved.map encB)))=jq l:=q0u l i 2 hi (by decide)
theorem qgl {l:List Ue} {i:Nat} (hi:i<l.length):(jq l).set (i*4+3) (.d (.sl 1 (l[i].opened.map encB)))=jq l:=q0u l i 3 hi (by decide)
theorem qq8 (keep:Nat->Bool): ∀l:List Ue,csW keep (jq l) (jq l)
 | []=>by simp only[jq,List.map_nil,List.flatten_nil,csW]
 |x::l=>by
  rw[zh];have:=qq8 keep l;exact et1 @this
theorem qgm: ∀l:List Ue,qbi (jq l) (jq l)= []
 | []=>rfl
 |x::l=>by
  rw[zh];have:=qgm l;exact et1 @this
theorem qmj: ∀l:List Ue,(jq l).flatMap ASlot.toks= []
 | []=>rfl
 |x::l=>by
  rw[zh];have:=qmj l;exact et2 @List.flatMap_cons.{0,0} @this
attribute [go_sem] qq8 qgm qmj qen
def Scop (m:Mg) (i:{i:Nat//i<=m.ents.length}):St:=
 ⟨[(1,true,.d (.ptr 0 0)),(2,true,.d (.ptr 1 0)),(11,true,.d (.int .i64 m.ents.length)),(12,true,.d (.int .i64 (i.val:Nat)))],
  [.row [.d (.int .i64 m.roles),.d (.ref 2 0 4 m.ents.length)],.row [.d (.int .i64 0),.d .nilsl],.row (jq m.ents)],[],1⟩
set_option maxRecDepth 10000 in
theorem xef (m:Mg) (hm:m.Sm):qh Tryz.prog 141 [.d (.agg (qu m))] [] (.d (.agg [.int .i64 m.roles,.ref 2 0 4 m.ents.length])) [.none,.none,.row (jq m.ents)]:=by
 have hl:=hm.1
 refine xsg.go ?_
 try(refine ev1 @qu.eq_1 ?_;try exact True.intro)
 refine clA xpd (q0s m.ents hm.1) ?_
 try(refine ev ?_;try exact True.intro)
 try(refine ev ?_;try exact True.intro)
 (repeat(with_reducible refine ob ?_))
 refine qqk (.cell 0 1) _ 4 (m.ents.map ql) ?_
 refine pu ?_
 try(refine ev ?_;try exact True.intro)
 refine qk (Scop m) (fun i=>m.ents.length-i.val) ⟨0,Nat.zero_le _⟩ ?_ (fun i=> ?_)
 ·try(refine ev2 @Scop.eq_1 @q0t ?_;try exact True.intro)
 obtain⟨i,hi⟩:=i
 try(refine ev1 @Scop.eq_1 ?_;try exact True.intro)
 (repeat(with_reducible refine ob ?_));refine xp _ (fun h=> ?_) (fun h=> ?_)
 ·have hil:i<m.ents.length:=by simpa using h
  have hx:=hm.2 _ (List.getElem_mem hil)
  try(refine ev ?_;try exact True.intro)
  (repeat(with_reducible refine ob ?_))
  rw[qoq hil]
  (repeat(with_reducible refine ob ?_));first|refine cl F225 (yy m.ents[i].moved hx.1) ?_|refine clF F225 (yy m.ents[i].moved hx.1) (fun _=>by(refine ev2 @ql.eq_1 @qu.eq_1 ?_;try exact True.intro)) ?_
  try(refine ev ?_;try exact True.intro)
  (repeat(with_reducible refine ob ?_))
  rw[qor hil]
  (repeat(with_reducible refine ob ?_));first|refine cl F225 (yy m.ents[i].opened hx.2) ?_|refine clF F225 (yy m.ents[i].opened hx.2) (fun _=>by(refine ev2 @ql.eq_1 @qu.eq_1 ?_;try exact True.intro)) ?_
  try(refine ev2 (qgk hil) (qgl hil) ?_;try exact True.intro)
  (repeat(with_reducible refine ob ?_))
  try(refine ev2 (qgk hil) (qgl hil) ?_;try exact True.intro)
  (repeat(with_reducible refine ob ?_))
  try(refine ev2 (qgk hil) (qgl hil) ?_;try exact True.intro)
  refine pu ?_
  try(refine ev ?_;try exact True.intro)
  refine⟨⟨i+1,hil⟩,?_,by dsimp only;omega⟩
  try(refine ev2 @Scop.eq_1 (qg (show i<9223372036854775807 by omega)) ?_;try exact True.intro)
 ·have hil:i=m.ents.length:=by
   have:m.ents.length<=i:=by simpa using h
   omega
  subst hil
  try(refine ev ?_;try exact True.intro)
  refine pu ?_
  try(refine ev ?_;try exact True.intro)
  trace_state
theorem q4v {keep:Nat->Bool} {s:ASlot} (hs:qc9 keep s s): ∀(l:List ASlot) (i:Nat),csW keep l l->csW keep (l.set i s) (l.set i s)
 | [],_,h=>h
 | _::_,0,h=>⟨hs,h.2⟩
 | _::l,i+1,h=>⟨h.1,q4v hs l i h.2⟩
theorem qjq {s:ASlot} (hs:vy s s= []): ∀(l:List ASlot) (i:Nat),qbi l l= [] ->qbi (l.set i s) (l.set i s)= []
 | [],_,h=>h
 |x::l,0,h=>by
  rw[List.set_cons_zero,qc1];rw[qc1,jC2]at h;rw[hs,h.2];rfl
 |x::l,i+1,h=>by
  rw[List.set_cons_succ,qc1];rw[qc1,jC2]at h;rw[h.1,qjq hs l i h.2];rfl
theorem qw8 {s:ASlot} (hs:s.toks= []): ∀(l:List ASlot) (i:Nat),l.flatMap ASlot.toks= [] ->(l.set i s).flatMap ASlot.toks= []
 | [],_,h=>h
 |x::l,0,h=>by
  rw[List.set_cons_zero,List.flatMap_cons];rw[List.flatMap_cons,jC2]at h;rw[hs,h.2];rfl
 |x::l,i+1,h=>by
  rw[List.set_cons_succ,List.flatMap_cons];rw[List.flatMap_cons,jC2]at h;rw[h.1,qw8 hs l i h.2];rfl
def xsh:=cut prog f141 news [] [2,7] true
@[go_sem] def xvv:=qm xsh
def xsi:=fnC xsh follows func141
def refA (l:List ASlot) (k a b:Nat) (x:Ue):List ASlot:=(l.set (k*4+2) (.d (.ref a 0 1 x.moved.length))).set (k*4+3) (.d (.ref b 0 1 x.opened.length))
theorem xkb (l:List ASlot) (k a b:Nat) (x:Ue):(refA l k a b x).length=l.length:=by simp[refA]
theorem xpf {l:List Ue} {k a b i:Nat} {x:Ue} (hik:i≠k) (hi:i<l.length):(refA (jq l) k a b x).getD (i*4+2) .bad= .d (.sl 1 (l[i].moved.map encB)):=by
 rw[<- qoq hi,jA0,jA0,refA,jBk (by omega),jBk (by omega)]
theorem xpg {l:List Ue} {k a b i:Nat} {x:Ue} (hik:i≠k) (hi:i<l.length):(refA (jq l) k a b x).getD (i*4+3) .bad= .d (.sl 1 (l[i].opened.map encB)):=by
 rw[<- qor hi,jA0,jA0,refA,jBk (by omega),jBk (by omega)]
theorem q4w {l:List Ue} {k a b i:Nat} {x:Ue} (hik:i≠k) (hi:i<l.length):(refA (jq l) k a b x).set (i*4+2) (.d (.sl 1 (l[i].moved.map encB)))=refA (jq l) k a b x:=by
 rw[refA,jEo _ _ (show k*4+3≠i*4+2 by omega),jEo _ _ (show k*4+2≠i*4+2 by omega),qgk hi]
theorem q4x {l:List Ue} {k a b i:Nat} {x:Ue} (hik:i≠k) (hi:i<l.length):(refA (jq l) k a b x).set (i*4+3) (.d (.sl 1 (l[i].opened.map encB)))=refA (jq l) k a b x:=by
 rw[refA,jEo _ _ (show k*4+3≠i*4+3 by omega),jEo _ _ (show k*4+2≠i*4+3 by omega),qgl hi]
theorem qos {keep:Nat->Bool} {l:List Ue} {k a b:Nat} {x:Ue} (ha:keep a=true) (hb:keep b=true):csW keep (refA (jq l) k a b x) (refA (jq l) k a b x):=
 q4v (by exact et2 @ha @hb) _ _ (q4v (by exact et2 @ha @hb) _ _ (qq8 keep l))
theorem q0v {l:List Ue} {k a b:Nat} {x:Ue}:qbi (refA (jq l) k a b x) (refA (jq l) k a b x)= []:=qjq rfl _ _ (qjq rfl _ _ (qgm l))
theorem xeg {l:List Ue} {k a b:Nat} {x:Ue}:(refA (jq l) k a b x).flatMap ASlot.toks= []:=qw8 rfl _ _ (qw8 rfl _ _ (qmj l))
theorem xkc (l:List Bool):List.map ASlot.d (l.map encB).flatten=l.map λb=> .d (.bool b):=by
 induction l with
 |nil=>rfl
 |cons b l ih=>simp only[List.map_cons,List.flatten_cons,encB,List.cons_append,List.nil_append,ih]
theorem q7h (keep:Nat->Bool): ∀l:List Bool,csW keep (l.map λb=> .d (.bool b)) (l.map λb=> .d (.bool b))
 | []=>trivial
 |x::l=>by
  have:=q7h keep l;exact et2 @List.map_cons.{0,0} @this
theorem qns: ∀l:List Bool,qbi (l.map λb=> .d (.bool b)) (l.map λb=> .d (.bool b))= []
 | []=>rfl
 |x::l=>by
  have:=qns l;exact et2 @List.map_cons.{0,0} @this
theorem q0w: ∀l:List Bool,((l.map λb=> .d (.bool b)).flatMap ASlot.toks:List Nat)= []
 | []=>rfl
 |x::l=>by
  have:=q0w l;exact et3 @List.map_cons.{0,0} @List.flatMap_cons.{0,0} @this
attribute [go_sem] xkb qos q0v xeg xkc q7h qns q0w
theorem xkd (l:List ASlot) (k a b:Nat) (x:Ue):(l.set (k*4+2) (.d (.ref a 0 1 x.moved.length))).set (k*4+3) (.d (.ref b 0 1 x.opened.length))=refA l k a b x:=rfl
theorem xvw {l:List ASlot} {a b:Nat} {u v x y:ASlot} (h:a≠b):(((l.set a u).set b v).set a x).set b y=(l.set a x).set b y:=by
 rw[jEo _ _ (Ne.symm h),List.set_set,List.set_set]
def q0x (m:Mg) (k:Nat) (x:Ue) (i:{i:Nat//i<=m.ents.length}):St:=
 ⟨[(1,true,.d (.ptr 0 0)),(2,true,.d (.ptr 1 0)),(11,true,.d (.int .i64 m.ents.length)),(12,true,.d (.int .i64 (i.val:Nat)))],
  if i.val<=k then [.row [.d (.int .i64 m.roles),.d (.ref 2 0 4 m.ents.length)],.row [.d (.int .i64 0),.d .nilsl],.row (jq m.ents)]
  else [.row [.d (.int .i64 m.roles),.d (.ref 2 0 4 m.ents.length)],.row [.d (.int .i64 0),.d .nilsl],.row (refA (jq m.ents) k 3 4 x),.row (x.moved.map λb=> .d (.bool b)),.row (x.opened.map λb=> .d (.bool b))],[],1⟩
theorem q4y (m:Mg) (hm:m.Sm) (k:Nat) (hk:k<m.ents.length):qh Tryz.prog 141 [.d (.agg (qu m))] [] (.d (.agg [.int .i64 m.roles,.ref 2 0 4 m.ents.length]))
  [.none,.none,.row (refA (jq m.ents) k 3 4 m.ents[k]),.row (m.ents[k].moved.map fun b=> .d (.bool b)),.row (m.ents[k].opened.map fun b=> .d (.bool b))]:=by
 have hl:=hm.1
 refine xsi.go ?_
 refine ez1 @qu.eq_1 ?_
 refine clA xpd (q0s m.ents hm.1) ?_
 refine eo ?_
 refine qqk (.cell 0 1) _ 4 (m.ents.map ql) ?_
 refine pu ?_
 refine ez ?_
 refine qk (q0x m k m.ents[k]) (fun i=>m.ents.length-i.val) ⟨0,jAi _⟩ ?_ (fun i=> ?_)
 ·exact et3 @q0x.eq_1 @q0t @jAi
 obtain⟨i,hi⟩:=i
 rcases Nat.lt_trichotomy i k with hik|hik|hik
 ·have hle:i<=k:=by omega
  have hle1:i+1<=k:=by omega
  refine eo2 @q0x.eq_1 @hle ?_
  refine xp _ (fun h=> ?_) (fun h=> ?_)
  ·have hil:i<m.ents.length:=by simpa using h
   have hx:=hm.2 _ (jAg hil)
   refine eo ?_
   rw[qoq hil]
   (repeat(with_reducible refine ob ?_));first|refine cl F225 (yy m.ents[i].moved hx.1) ?_|refine clF F225 (yy m.ents[i].moved hx.1) (fun _=>by exact et2 @ql.eq_1 @qu.eq_1) ?_
   refine eo ?_
   rw[qor hil]
   (repeat(with_reducible refine ob ?_));first|refine cl F225 (yy m.ents[i].opened hx.2) ?_|refine clF F225 (yy m.ents[i].opened hx.2) (fun _=>by exact et2 @ql.eq_1 @qu.eq_1) ?_
   refine eo2 (qgk hil) (qgl hil) ?_
   refine eo2 (qgk hil) (qgl hil) ?_
   refine ez2 (qgk hil) (qgl hil) ?_
   refine pu ?_
   refine ez ?_
   refine⟨⟨i+1,hil⟩,?_,by dsimp only;omega⟩
   exact et3 @q0x.eq_1 @hle1 (qg (show i<9223372036854775807 by omega))
  ·exfalso;simp at h;omega
 ·subst hik
  have hni: ¬(i+1<=i):=by omega
  refine eo2 @q0x.eq_1 @jAh ?_
  refine xp _ (fun h=> ?_) (fun h=> ?_)
  ·have hil:i<m.ents.length:=hk
   have hx:=hm.2 _ (jAg hil)
   refine eo ?_
   rw[qoq hil]
   refine clA xpe (qt9 m.ents[i].moved hx.1) ?_
   refine eo ?_
   rw[qor hil]
   refine clA xpe (qt9 m.ents[i].opened hx.2) ?_
   refine eo ?_
   refine eo ?_
   refine eo2 @jCh.{0} @qen ?_
   have hf:(jq m.ents).length=m.ents.length*4:=qen _
   refine qqk (.cell 2 (i*4+2)) 240 1 (m.ents[i].moved.map encB) ?_ (hp:=by simp only[St.slotAt,qi,jCb,jCa,AObj.cells,jA0];rw[jBk (by omega),jBv (by rw[hf];omega)];rfl)
   refine ez2 @jEo.{0} @jCh.{0} ?_
   refine qqk (.cell 2 (i*4+3)) 320 1 (m.ents[i].opened.map encB) ?_ (hp:=by simp only[St.slotAt,qi,jCb,jCa,AObj.cells,jA0];rw[jBk (by omega),jBv (by rw[jCh,hf];omega)];rfl)
   try simp only[xvw (show i*4+2≠i*4+3 by omega),xkd,go_sem,simprocAttr]
   refine pu ?_
   refine ez ?_
   refine⟨⟨i+1,hil⟩,?_,by dsimp only;omega⟩
   refine ez3 @q0x.eq_1 @hni (qg (show i<9223372036854775807 by omega)) ?_
   exact qos rfl rfl
  ·exfalso;simp at h;omega
 ·have hle: ¬i<=k:=by omega
  have hle1: ¬i+1<=k:=by omega
  refine eo2 @q0x.eq_1 @hle ?_
  refine xp _ (fun h=> ?_) (fun h=> ?_)
  ·have hil:i<m.ents.length:=by simpa using h
   have hx:=hm.2 _ (jAg hil)
   have hik':i≠k:=by omega
   refine eo ?_
   rw[xpf hik' hil]
   (repeat(with_reducible refine ob ?_));first|refine cl F225 (yy m.ents[i].moved hx.1) ?_|refine clF F225 (yy m.ents[i].moved hx.1) (fun _=>by exact et2 @ql.eq_1 @qu.eq_1) ?_
   refine eo ?_
   rw[xpg hik' hil]
   (repeat(with_reducible refine ob ?_));first|refine cl F225 (yy m.ents[i].opened hx.2) ?_|refine clF F225 (yy m.ents[i].opened hx.2) (fun _=>by exact et2 @ql.eq_1 @qu.eq_1) ?_
   try simp only[q4w hik' hil,q4x hik' hil,go_sem,simprocAttr]
   (repeat(with_reducible refine ob ?_))
   try simp only[q4w hik' hil,q4x hik' hil,go_sem,simprocAttr]
   (repeat(with_reducible refine ob ?_))
   try simp only[q4w hik' hil,q4x hik' hil,go_sem,simprocAttr]
   refine pu ?_
   refine ez ?_
   refine⟨⟨i+1,hil⟩,?_,by dsimp only;omega⟩
   refine ez3 @q0x.eq_1 @hle1 (qg (show i<9223372036854775807 by omega)) ?_
   exact qos rfl rfl
  ·have hil:i=m.ents.length:=by
    have:m.ents.length<=i:=by simpa using h
    omega
   subst hil
   refine ez ?_
   refine pu ?_
   refine ez ?_
   exact qos rfl rfl
def d229:=cut prog f229 news
@[go_sem] def E229:=qm d229
def d230:=cut prog f230 news
@[go_sem] def E230:=qm d230
def d149:=cut prog f149 news
@[go_sem] def E149:=qm d149
def d81:=cut prog f81 news
@[go_sem] def E81:=qm d81
def d82:=cut prog f82 news
@[go_sem] def E82:=qm d82
def d99:=cut prog f99 news
@[go_sem] def E99:=qm d99
def d34:=cut prog f34 news
@[go_sem] def E34:=qm d34
def d23:=cut prog f23 news
@[go_sem] def E23:=qm d23
def d94:=cut prog f94 news
@[go_sem] def E94:=qm d94
def idB (b:Bool):Bool:=b
theorem qmk (l:List Bool):hasB false l= !l.all idB:=by
 induction l with
 |nil=>rfl
 |cons b l ih=>cases b<;>simp_all[hasB,idB]
theorem q0z (l:List Bool):hasB true l=l.any idB:=by
 induction l with
 |nil=>rfl
 |cons b l ih=>cases b<;>simp_all[hasB,idB]
def d18:=cut prog f18 news
@[go_sem] def E18:=qm d18
def F18:=fnC d18 follows func18
def d200:=cut prog f200 news
@[go_sem] def E200:=qm d200
def d26:=cut prog f26 news
@[go_sem] def E26:=qm d26
def d35:=cut prog f35 news
@[go_sem] def E35:=qm d35
def qg5 (s r label:Int):Pk:=⟨3,s,0,r,0,0,label,[],[]⟩
def qjr (s label:Int) (d:List Bool) (r:Nat):List Pk:=if d.getD r true then []else [qg5 s r label]
def qml (s label:Int) (d:List Bool) (n:Nat):List Pk:=(List.range n).flatMap (qjr s label d)
def zg (x:Ue):List Bool:=if x.phase !=1 then x.opened else x.moved
def yv (x:Ue):Int:=if x.phase !=1 then 2 else 1
def qq9 (x:Ue):List Pk:=qml x.sess (yv x) (zg x) (zg x).length
def wq (m:Mg) (n:Nat):List Pk:=(List.range n).flatMap λi=>qq9 (m.ents.getD i default)
def xl (m:Mg):List Pk:=if ja m then wq m m.ents.length else []
theorem q00 (m:Mg):wq m 0= []:=rfl
theorem xeh (s label:Int) (d:List Bool):qml s label d 0= []:=rfl
theorem qd6 (s label:Int) (d:List Bool) (n:Nat):qml s label d (n+1)=qml s label d n++qjr s label d n:=by simp[qml,List.range_succ]
theorem qdt (m:Mg) (n:Nat):wq m (n+1)=wq m n++qq9 (m.ents.getD n default):=by simp[wq,List.range_succ]
theorem qhu (s label:Int) (d:List Bool): ∀n,(qml s label d n).length<=n
 |0=>by simp[qml]
 |n+1=>by
  rw[qd6,jAc];have:=qhu s label d n;have:(qjr s label d n).length<=1:=by unfold qjr;split<;>simp
  omega
theorem qra (x:Ue) (d:x.Sm):(zg x).length<=1000:=by unfold zg;split;exact d.2;exact d.1
theorem xei (x:Ue) (hx:x.Sm):(qq9 x).length<=1000:=jBj (qhu _ _ _ _) (qra x hx)
theorem qe7 (m:Mg) (d:m.Sm): ∀n,n<=m.ents.length->(wq m n).length<=n*1000
 |0,_=>by simp[wq]
 |n+1,h=>by
  have e:n<m.ents.length:=h;rw[qdt,jAc,zm e];have:=qe7 m d n (by omega);have:=xei _ (d.2 _ (jAg e));omega
def qg6 (x:Ue):AObj:= .row [.d (.int .i64 x.sess),.d (.int .i64 x.phase),.d (.sl 1 (x.moved.map encB)),.d (.sl 1 (x.opened.map encB))]
def xej (m:Mg) (i:{i:Nat//i<=m.ents.length}):St:=
 ⟨[(2,true,.d .nilsl),(3,true,.own 0 9 ((wq m i.val).map qf)),(14,true,.d (.sl 4 (m.ents.map ql))),(15,true,.d (.int .i64 m.ents.length)),(16,true,.d (.int .i64 (i.val:Nat)))],[jb m],[0],1⟩
def qs6 (m:Mg) (i:Nat) (x:Ue) (r:{r:Nat//r<=(zg x).length}):St:=
 ⟨[(2,true,.d .nilsl),(3,true,.own 0 9 ((wq m i++qml x.sess (yv x) (zg x) r.val).map qf)),(5,true,.d (.ptr 1 0)),(7,true,.d (.int .i64 (yv x))),(14,true,.d (.sl 4 (m.ents.map ql))),(15,true,.d (.int .i64 m.ents.length)),(16,true,.d (.int .i64 (i:Nat))),
  (27,true,.d (.sl 1 ((zg x).map encB))),(28,true,.d (.int .i64 (zg x).length)),(29,true,.d (.int .i64 (r.val:Nat)))],[jb m,qg6 x],[0],1⟩
theorem xnb (m:Mg) (p:m.Sm) (i:Nat) (hi:i<m.ents.length) (x:Ue) (hx:x.Sm) (Q:SExit->St->Prop) (st:St) (h0:Weak 0 st (qs6 m i x ⟨0,jAi _⟩))
  (hQ: ∀b,Q .normal ⟨(30,true,.d (.bool b))::(qs6 m i x ⟨(zg x).length,jAh _⟩).fr,[jb m,qg6 x],[0],2⟩):AWp prog 0 (.block 2 (.loop (.seq (.region (d18.reg 11) 0 []) (.seq (.cond (.t 30) .skip (.exit 2)) (.seq (.block 3 (.seq (.region (d18.reg 12) 0 []) (.seq (.region (d18.reg 13) 0 []) (.cond (.t 35) (.region (d18.reg 14) 0 []) .skip)))) (.region (d18.reg 15) 0 [])))))) Q st:=by
 have hml:=qra x hx;have hol:=qe7 m p i (by omega);have hl:=p.1;refine ez ?_;refine qk (qs6 m i x) (λr=>(zg x).length-r.val) ⟨0,jAi _⟩ h0 (λr=> ?_);obtain⟨r,hr⟩:=r;refine eo3 @qs6.eq_1 @jb.eq_1 @qg6.eq_1 ?_;refine xp _ (λh=> ?_) (λh=> ?_)
 ·have e:r<(zg x).length:=by simpa using h
  refine eo2 (qj encB (zg x) e) @encB.eq_1 ?_;refine xp _ (λo=> ?_) (λo=> ?_)
  ·have l:(zg x)[r]=false:=by simpa using o
   have ha:qjr x.sess (yv x) (zg x) r= [qg5 x.sess r (yv x)]:=by simp[qjr,e,l]
   have hlt:=qhu x.sess (yv x) (zg x) r;refine eo ?_;refine⟨⟨r+1,e⟩,?_,by dsimp only;omega⟩;simp only[qs6,jb,qg6,qd6,ha,<- jAj,jA2,List.map_cons,List.map_nil,qg5,qf,qg (show r<9223372036854775807 by omega),go_sem,simprocAttr]
  ·have l:(zg x)[r]=true:=by simpa using o
   have ha:qjr x.sess (yv x) (zg x) r= []:=by simp[qjr,e,l]
   refine ez ?_;refine⟨⟨r+1,e⟩,?_,by dsimp only;omega⟩;exact et7 @qs6.eq_1 @jb.eq_1 @qg6.eq_1 @qd6 @ha @jAu.{0} (qg (show r<9223372036854775807 by omega))
 ·have e:r=(zg x).length:=by
   have:(zg x).length<=r:=by simpa using h
   omega
  subst e;refine ez ?_;exact hQ _
theorem qgn (m:Mg) (l:m.Sm):qh prog 18 [.d (.agg (qu m))] [] (.d (.sl 9 ((xl m).map qf))) []:=by
 have hl:=l.1;refine F18.go ?_;refine eo1 @qu.eq_1 ?_;first|refine cl F69 (ye m l) ?_|refine clF F69 (ye m l) (λ_=>by exact et3 @ql.eq_1 @qu.eq_1 @qf.eq_1) ?_
 refine ez ?_;refine xp _ (λo=> ?_) (λo=> ?_)
 ·have hu:xl m= []:=by simp at o;simp[xl,o]
  exact et2 @hu @List.map_nil.{0,0}
 have hu:xl m=wq m m.ents.length:=by simp at o;simp[xl,o]
 rw[hu];refine ez ?_;refine qk (xej m) (λi=>m.ents.length-i.val) ⟨0,jAi _⟩ ?_ (λi=> ?_)
 ·exact et4 @xej.eq_1 @jb.eq_1 @q00 @List.map_nil.{0,0}
 obtain⟨i,hi⟩:=i;refine eo2 @xej.eq_1 @jb.eq_1 ?_;refine xp _ (λh=> ?_) (λh=> ?_)
 ·have e:i<m.ents.length:=by simpa using h
  have q:=l.2 _ (jAg e);refine eo2 (qj ql m.ents e) @ql.eq_1 ?_;refine xp _ (λp=> ?_) (λp=> ?_)
  ·have e1:zg m.ents[i]=m.ents[i].opened:=by simp only[zg,p,if_true]
   have e2:yv m.ents[i]=2:=by simp only[yv,p,if_true]
   refine ez ?_;refine xnb m l i e m.ents[i] q _ _ ?_ (λb=> ?_)
   ·exact et7 @qs6.eq_1 @jb.eq_1 @qg6.eq_1 @e1 @e2 @xeh @jAu.{0}
   ·refine ez3 @qs6.eq_1 @jb.eq_1 @qg6.eq_1 ?_;refine⟨⟨i+1,e⟩,?_,by dsimp only;omega⟩;exact et6 @xej.eq_1 @jb.eq_1 @qdt (zm e) @qq9.eq_1 (qg (show i<9223372036854775807 by omega))
  ·have e1:zg m.ents[i]=m.ents[i].moved:=by simp only[zg,p];rfl
   have e2:yv m.ents[i]=1:=by simp only[yv,p];rfl
   refine ez ?_;refine xnb m l i e m.ents[i] q _ _ ?_ (λb=> ?_)
   ·exact et7 @qs6.eq_1 @jb.eq_1 @qg6.eq_1 @e1 @e2 @xeh @jAu.{0}
   ·refine ez3 @qs6.eq_1 @jb.eq_1 @qg6.eq_1 ?_;refine⟨⟨i+1,e⟩,?_,by dsimp only;omega⟩;exact et6 @xej.eq_1 @jb.eq_1 @qdt (zm e) @qq9.eq_1 (qg (show i<9223372036854775807 by omega))
 ·have e:i=m.ents.length:=by
   have:m.ents.length<=i:=by simpa using h
   omega
  subst e;exact et
theorem qgo: ∀a b:List UInt8,Op.bytesLess a b=decide (cmpB a b<0)
 | [],[]=>rfl
 | [],_::_=>rfl
 | _::_,[]=>rfl
 |a::l,b::m=>by
  have ih:=qgo l m;simp only[cmpB]at ih;simp only[Op.bytesLess,cmpB,Lib.compareBytes,ih];by_cases d:a<b
  ·simp[d]
  ·by_cases e:b<a
   ·have: ¬a=b:=by rintro rfl;exact d e
    simp[d,e,this]
   ·have:a=b:=by
     apply UInt8.toNat_inj.1;rw[UInt8.lt_iff_toNat_lt]at d e;omega
    simp[d,e,this]
def Sorted (l:List En):Prop:=l.Pairwise λa b=>cmpB a.1 b.1<0
theorem Sorted.keys {l:List En} (h:Sorted l):(l.map (·.1)).Nodup:=by
 unfold List.Nodup;rw[jCv];exact h.imp λ{a b} d e=>by rw[e,qk1]at d;omega
theorem Sorted.le {l:List En} (h:Sorted l):l.Pairwise λa b=>cmpB a.1 b.1<=0:=h.imp λd=>jFe d
theorem qih {l m:List En} (d:Sorted l) (e:Sorted m) (h: ∀x,x∈l↔x∈m):l=m:=
 qif ((List.perm_ext_iff_of_nodup (qbp _ d.keys) (qbp _ e.keys)).2 h) d.keys d.le e.le
theorem xek {l:List En} (h:l.Pairwise λa b=>cmpB a.1 b.1<=0) (hn:(l.map (·.1)).Nodup):Sorted l:=by
 unfold List.Nodup at hn;rw[jCv]at hn;refine(h.and hn).imp λ{a b} d=> ?_;obtain⟨h1,h2⟩:=d;rcases Int.lt_or_eq_of_le h1 with e|e
 ·exact e
 ·exact(h2 (qk2 e)).elim
theorem qhv {m:Cont} (h:m.Ok) (p:List UInt8):Sorted (qa9 m p):=by
 refine xek (qds _) ?_;exact((ki (preL p m.l)).map (λx:En=>x.1)).nodup_iff.2 (q0n h.key)
theorem q7k: ∀{l:List KV},(l.map (·.2.1)).Nodup-> ∀{x:KV},x∈l->l.find? (zw x.2.1)=some x
 | [],_,x,hx=>by cases hx
 |a::l,hn,x,hx=>by
  rw[jB7];simp only[List.map_cons,jCf]at hn;rcases jAv.1 hx with rfl|d
  ·rw[qbq.2 rfl]
  ·have:zw x.2.1 a=false:=by
    cases h:zw x.2.1 a with
    |false=>rfl
    |true=>exact(hn.1 (jAo.2 ⟨x,d,qbq.1 h⟩)).elim
   rw[this];exact q7k hn.2 d
theorem qrb {m:Cont} (h:m.Ok) (p:List UInt8) (x:En):x∈qa9 m p↔mGet x.1 m=some x.2∧pre p x.1=true:=by
 rw[qa9,(ki _).mem_iff,preL,jAo];constructor
 ·rintro⟨y,e,rfl⟩;obtain⟨d,i⟩:=jBs.1 e;refine⟨?_,i⟩;unfold mGet enOf;rw[q7k h.key d];rfl
 ·rintro⟨d,i⟩;unfold mGet at d;rw[jAb]at d;obtain⟨y,e,he⟩:=d;have l:=qbq.1 (jD1 e);refine⟨y,jBs.2 ⟨jBz e,by rw[<- l];exact i⟩,?_⟩;unfold enOf;rw[<- l,he]
theorem xel (k:List UInt8):pre [] k=true:=by simp[pre]
def eSet (x:En):List En->List En
 | []=> [x]
 |y::l=>if Op.bytesLess y.1 x.1=true then y::eSet x l else if y.1=x.1 then x::l else x::y::l
def eDel (k:List UInt8) (l:List En):List En:=l.filter λe=> !(e.1==k)
def eOp (l:List En) (o:OpS):List En:=if o.del then eDel o.key l else eSet (o.key,o.val) l
def qa3:List En->List OpS->List En×Bool
 |l,[]=>(l,true)
 |l,o::r=>if(eOp l o).length>400 then([],false)else qa3 (eOp l o) r
theorem qw9 {x:En}: ∀{l:List En},Sorted l-> ∀y,y∈eSet x l↔y=x∨(y∈l∧y.1≠x.1)
 | [],_,y=>by simp[eSet]
 |a::l,h,y=>by
  have h':=jB1.1 h;rw[eSet];split
  ·rename_i i;rw[qgo,decide_eq_true_eq]at i;have p:a.1≠x.1:=λe=>by rw[e,qk1]at i;omega
   rw[jAv,qw9 h'.2,jAv];constructor
   ·rintro(rfl|d|⟨d,m⟩)
    ·exact .inr ⟨.inl rfl,p⟩
    ·exact .inl d
    ·exact .inr ⟨.inr d,m⟩
   ·rintro(d|⟨rfl|d,m⟩)
    ·exact .inr (.inl d)
    ·exact .inl rfl
    ·exact .inr (.inr ⟨d,m⟩)
  ·rename_i i;rw[qgo,decide_eq_true_eq]at i;have hge:cmpB x.1 a.1<=0:=qd5.1 i;have o: ∀z∈l,z.1≠x.1:=λz hz e=>by
    have d:=h'.1 z hz;rw[e]at d;have:=qhr a.1 x.1;omega
   split
   ·rename_i q;simp only[jAv];constructor
    ·rintro(d|d)
     ·exact .inl d
     ·exact .inr ⟨.inr d,o y d⟩
    ·rintro(d|⟨rfl|d,m⟩)
     ·exact .inl d
     ·exact(m q).elim
     ·exact .inr d
   ·rename_i q;simp only[jAv];constructor
    ·rintro(d|rfl|d)
     ·exact .inl d
     ·exact .inr ⟨.inl rfl,q⟩
     ·exact .inr ⟨.inr d,o y d⟩
    ·rintro(d|⟨d|d,m⟩)
     ·exact .inl d
     ·exact .inr (.inl d)
     ·exact .inr (.inr d)
theorem qrc {x:En}: ∀{l:List En},Sorted l->Sorted (eSet x l)
 | [],_=>List.pairwise_singleton _ _
 |a::l,h=>by
  have h':=jB1.1 h;rw[eSet];split
  ·rename_i d;rw[qgo,decide_eq_true_eq]at d;refine jB1.2 ⟨λy e=> ?_,qrc h'.2⟩;rcases(qw9 h'.2 y).1 e with rfl|⟨m,_⟩
   ·exact d
   ·exact h'.1 y m
  ·rename_i d;rw[qgo,decide_eq_true_eq]at d;have i:cmpB x.1 a.1<=0:=qd5.1 d;split
   ·rename_i o;exact jB1.2 ⟨λy e=>by rw[<- o];exact h'.1 y e,h'.2⟩
   ·rename_i o;have p:cmpB x.1 a.1<0:=by
     rcases Int.lt_or_eq_of_le i with m|m
     ·exact m
     ·exact(o (qk2 m).symm).elim
    refine jB1.2 ⟨λy e=> ?_,h⟩;rcases jAv.1 e with rfl|e
    ·exact p
    ·exact(qfw i (jFe (h'.1 y e))).2 (.inl p)
theorem q4z {k:List UInt8} {l:List En} (h:Sorted l):Sorted (eDel k l):=List.Pairwise.filter _ h
def zt (m:Cont):List En:=qa9 m []
theorem qay {m:Cont} (h:m.Ok):Sorted (zt m):=qhv h []
theorem qgp {m:Cont} (h:m.Ok) (x:En):x∈zt m↔mGet x.1 m=some x.2:=by
 rw[zt,qrb h,xel];simp
theorem qlb {m:Cont}:(zt m).length=m.l.length:=by
 have h1:preL [] m.l=m.l.map enOf:=by
  unfold preL;congr 1;exact List.filter_eq_self.2 λx _=>xel _
 rw[zt,qa9,(ki _).length_eq,h1,jAm]
theorem xkj {m:Cont} (h:m.Ok) (k v:List UInt8):zt (mPut k v m)=eSet (k,v) (zt m):=by
 have hs:=qay h;refine qih (qay (qq1 h k v)) (qrc hs) λx=> ?_;rw[qgp (qq1 h k v),qw9 hs,qgp h,q63];obtain⟨a,b⟩:=x;simp only[jCx];by_cases d:a=k
 ·subst d;simp[eq_comm]
 ·simp[d]
theorem xkk {m:Cont} (h:m.Ok) (k:List UInt8):zt (mDel k m)=eDel k (zt m):=by
 have hs:=qay h;refine qih (qay (qq2 h k)) (q4z hs) λx=> ?_;rw[qgp (qq2 h k),eDel,jBs,qgp h,q64 h];by_cases hk:x.1=k<;>simp[hk]
theorem qii: ∀(l:List OpS) {m:Cont},m.Ok->m.l.length<=400->(jt m l).2=(qa3 (zt m) l).2∧((jt m l).2=true->zt (jt m l).1=(qa3 (zt m) l).1∧(jt m l).1.Ok∧(jt m l).1.l.length<=400)
 | [],m,h,hl=>⟨rfl,λ_=>⟨rfl,h,hl⟩⟩
 |o::l,m,h,hl=>by
  rw[jt,qa3,eOp];by_cases d:o.del=true
  ·have hle:=qw2 o.key m;rw[if_pos d,if_pos d,<- xkk h,qlb,if_neg (by omega)];exact qii l (qq2 h _) (by omega)
  ·rw[if_neg d,if_neg d,<- xkj h,qlb];by_cases i:(mPut o.key o.val m).l.length>400
   ·rw[if_pos i,if_pos i];exact⟨rfl,λe=>by cases e⟩
   ·rw[if_neg i,if_neg i];exact qii l (qq1 h _ _) (by omega)
def eGet (k:List UInt8) (l:List En):Option (List UInt8):=(l.find? λe=>e.1==k).map (·.2)
theorem q7l {m:Cont} (h:m.Ok) (k:List UInt8):eGet k (zt m)=mGet k m:=by
 unfold eGet;cases hf:(zt m).find? (λe=>e.1==k)with
 |none=>
  cases hg:mGet k m with
  |none=>rfl
  |some v=>
   have:=(qgp h (k,v)).2 hg;have:=jCj.1 hf _ this;simp at this
 |some x=>
  have h1:=(qgp h x).1 (jBz hf);have h2:x.1=k:=by simpa using jD1 hf
  rw[<- h2,h1];rfl
def d150:=cut prog f150 news
@[go_sem] def E150:=qm d150
def d165:=cut prog f165 news
@[go_sem] def E165:=qm d165
def d163:=cut prog f163 news
@[go_sem] def E163:=qm d163
def d164:=cut prog f164 news
@[go_sem] def E164:=qm d164
def d162:=cut prog f162 news
@[go_sem] def E162:=qm d162
def d89:=cut prog f89 news
@[go_sem] def E89:=qm d89
structure Rd where
 b:List UInt8
 pos:Nat
 failed:Bool
 deriving DecidableEq,Inhabited
def rdO (r:Rd):AObj:= .row [.d (.sl 1 (qe r.b)),.d (.int .i64 (r.pos:Nat)),.d (.bool r.failed)]
structure Rd.Ok (r:Rd):Prop where
 len:r.b.length<=1000000000
 pos:r.pos<=r.b.length
def w5 (n:Nat) (r:Rd):List UInt8×Rd:=if r.failed||decide (r.b.length-r.pos<n)then([],{r with failed:=true})else((r.b.drop r.pos).take n,{r with pos:=r.pos+n})
def d177:=cut prog f177 news
@[go_sem] def E177:=qm d177
def F177:=fnC d177 follows func177
def d288:=cut prog f288 news
@[go_sem] def E288:=qm d288
def F288:=fnC d288 follows func288
def d247:=cut prog f247 news
@[go_sem] def E247:=qm d247
def F247:=fnC d247 follows func247
def d180:=cut prog f180 news
@[go_sem] def E180:=qm d180
def F180:=fnC d180 follows func180
theorem qou (b:List UInt8) (hb:b.length<=1000000000):qh prog 177 [.d (.sl 1 (qe b))] [] (.d (.ptr 0 0)) [rdO ⟨b,0,false⟩]:=by
 refine F177.go ?_;refine eo ?_;exact et2 @rdO.eq_1 @jAp
theorem qxa (r:Rd) (n:Nat) (e:r.Ok) (hn:n<=1000000000):qh prog 288 [.d (.ptr 0 0),.d (.int .i64 n)] [rdO r] (.d (.sl 1 (qe (w5 n r).1))) [rdO (w5 n r).2]:=by
 have h1:=e.len;have h2:=e.pos;have e1:IntKind.i64.wrap ((r.b.length:Int) -(r.pos:Int))=((r.b.length-r.pos:Nat):Int):=by rw[x9 (by unfold I64;omega)];omega
 have e2:IntKind.i64.wrap ((r.pos:Int)+(n:Int))=((r.pos+n:Nat):Int):=by rw[x9 (by unfold I64;omega)];omega
 have e3:IntKind.i64.wrap ((r.pos:Int)+(n:Int) -(n:Int))=((r.pos:Nat):Int):=by rw[x9 (by unfold I64;omega)];omega
 have e5:((r.pos:Int)+(n:Int)).toNat=r.pos+n:=by omega
 refine F288.go ?_;refine ez2 @rdO.eq_1 @e1 ?_;refine⟨λh=>by rw[h];rfl,?_⟩;have i:(r.failed||decide ((n:Int)>((r.b.length-r.pos:Nat):Int)))=(r.failed||decide (r.b.length-r.pos<n)):=by
  congr 1;exact decide_eq_decide.2 (by omega)
 refine xp _ (λh=> ?_) (λh=> ?_)
 ·rw[i]at h;have hx:w5 n r=([],{r with failed:=true}):=by unfold w5;rw[if_pos h]
  exact et2 @hx @xa
 ·rw[i]at h;have hx:w5 n r=((r.b.drop r.pos).take n,{r with pos:=r.pos+n}):=by unfold w5;rw[if_neg (by rw[h];simp)]
  simp only[jA4,decide_eq_false_iff_not]at h;have e4:r.pos+n-r.pos=n:=by omega
  refine ez2 @hx @e2 ?_;refine eo1 @e3 ?_;exact et6 @vm @zy @e4 @e3 @e5 @jA6
theorem qhx {r:Rd} (d:r.Ok) (n:Nat):(w5 n r).2.Ok∧(w5 n r).2.b=r.b:=by
 unfold w5;split
 ·exact⟨⟨d.len,d.pos⟩,rfl⟩
 ·rename_i h;simp only[jA1,decide_eq_true_eq,not_or]at h;have:=d.pos;exact⟨⟨d.len,by simp only;omega⟩,rfl⟩
theorem xkm (r:Rd) (e:r.Ok):qh prog 247 [.d (.ptr 0 0)] [rdO r] (.d (.int .i64 (r.b.length-r.pos:Nat))) [rdO r]:=by
 have h1:=e.len;have h2:=e.pos;have e1:IntKind.i64.wrap ((r.b.length:Int) -(r.pos:Int))=((r.b.length-r.pos:Nat):Int):=by rw[x9 (by unfold I64;omega)];omega
 refine F247.go ?_;refine eo1 @rdO.eq_1 ?_;refine no_ ?_;exact et1 @e1
def rEnd (r:Rd):Int:=if r.failed||decide (r.pos<r.b.length)then 4 else 0
theorem q41 (r:Rd) (e:r.Ok):qh prog 180 [.d (.ptr 0 0)] [rdO r] (.d (.int .i64 (rEnd r))) [rdO r]:=by
 have h2:=e.pos;have i:=xkm r e;simp only[rdO]at i;obtain⟨b,p,f⟩:=r;refine F180.go ?_;refine eo1 @rdO.eq_1 ?_;refine no_ ?_;cases f
 ·refine eo ?_;refine clO [0] F247 (i) ?_;refine ez ?_;refine xp _ (λh=> ?_) (λh=> ?_)
  ·have hx:rEnd ⟨b,p,false⟩=4:=by unfold rEnd;rw[if_pos];simp at h⊢;omega
   exact et1 @hx
  ·have hx:rEnd ⟨b,p,false⟩=0:=by unfold rEnd;rw[if_neg];simp at h⊢;omega
   exact et1 @hx
 ·refine ez ?_;refine qei (.int .i64 0) rfl ?_;refine eo1 @rEnd.eq_1 ?_;refine qa2 ?_;exact et
def unz (u:Nat):Int:=if u%2=0 then(u/2:Nat)else-((u/2:Nat):Int) -1
def qlc:Nat->Nat->Nat->Rd->Int×Rd
 |0,_,_,r=>(0,{r with failed:=true})
 |k+1,i,u,r=>
  if(w5 1 r).2.failed then(0,(w5 1 r).2)else
   if((w5 1 r).1.headD 0).toNat<128 then(unz ((u+((w5 1 r).1.headD 0).toNat%128*128^i)%18446744073709551616),{(w5 1 r).2 with failed:=(((w5 1 r).1.headD 0).toNat==0&&decide (0<i))||(decide (i=9)&&decide (((w5 1 r).1.headD 0).toNat>1))})
   else qlc k (i+1) ((u+((w5 1 r).1.headD 0).toNat%128*128^i)%18446744073709551616) (w5 1 r).2
def rInt (r:Rd):Int×Rd:=qlc 10 0 0 r
def d244:=cut prog f244 news
@[go_sem] def E244:=qm d244
def F244:=fnC d244 follows func244
theorem q03 {r:Rd} (h:(w5 1 r).2.failed=false): ∃c,(w5 1 r).1= [c]:=by
 unfold w5 at h⊢;split at h
 ·cases h
 ·rename_i hn;rw[if_neg hn];simp only[jA1,decide_eq_true_eq,not_or]at hn;have:r.pos<r.b.length:=by omega
  exact⟨r.b[r.pos],by simp only;rw[jBn this];rfl⟩
theorem q42 (u d i:Nat) (hu:u<2^i):u|||d*2^i=u+d*2^i:=by
 have:=Nat.shiftLeft_add_eq_or_of_lt hu d;rw[Nat.shiftLeft_eq]at this;rw[Nat.or_comm,<- this,Nat.add_comm]
theorem xem (i:Nat):128^i=2^(7*i):=by rw[Nat.pow_mul]
theorem qre (n a b:Nat) (ha:a<2^n) (hb:b<2^n):qvm n (a:Int) (b:Int)=((a&&&b:Nat):Int):=by
 unfold qvm;rw[BitVec.ofInt_natCast,BitVec.ofInt_natCast,BitVec.toNat_and,BitVec.toNat_ofNat,BitVec.toNat_ofNat,jBy ha,jBy hb]
theorem xkn {u c i:Nat} (hi:i<=9) (e:u<128^i) (hc:c<256):
  IntKind.u64.wrap (bvOr 64 (u:Int) (IntKind.u64.wrap (IntKind.u64.wrap (IntKind.u8.wrap (qvm 8 (c:Int) 127))*2^min (7*i) 64)))=(((u+c%128*128^i)%18446744073709551616:Nat):Int):=by
 have e1:qvm 8 (c:Int) 127=((c%128:Nat):Int):=by
  have:=qre 8 c 127 (by omega) (by omega);rw[show c&&&127=c%128 from Nat.and_two_pow_sub_one_eq_mod c 7]at this;exact this
 have e2:min (7*i) 64=7*i:=by omega
 have l:c%128<128:=jC3 _ (by decide);rw[e1,e2,qqp,show((c%128:Nat):Int)%256=((c%128:Nat):Int) by omega,f2 _ (by omega)];generalize c%128=d at l;have e3:((d:Nat):Int)*2^(7*i)=((d*2^(7*i):Nat):Int):=by simp
 rw[e3];have hp:128^i<=128^9:=jB4 (by decide) hi;have hp9:(128:Nat)^9=9223372036854775808:=by decide
 have e4:IntKind.u64.wrap ((d*2^(7*i):Nat):Int)=((d*2^(7*i)%18446744073709551616:Nat):Int):=by rw[qjl];omega
 rw[e4,q6x _ _ (by omega) (jC3 _ (by decide)),xem];rw[xem]at e;rcases jB9 i 9 with h9|h9
 ·have h:128^i<=128^8:=jB4 (by decide) (by omega);have e8:(128:Nat)^8=72057594037927936:=by decide
  rw[xem]at h;have hd:d*2^(7*i)<=127*72057594037927936:=jD4 (by omega) (by omega);rw[jBy (by omega),q42 _ _ _ e,f2 _ (by omega),jBy (by omega)]
 ·have:i=9:=by omega
  subst this;have e9:(2:Nat)^(7*9)=9223372036854775808:=by decide
  rw[e9]at e⊢;have h1:d*9223372036854775808%18446744073709551616=d%2*2^63:=by
   have:(2:Nat)^63=9223372036854775808:=by decide
   rw[this];omega
  rw[h1,q42 u (d%2) 63 (by
   have:(2:Nat)^63=9223372036854775808:=by decide
   omega)]
  have:(2:Nat)^63=9223372036854775808:=by decide
  rw[this,f2 _ (by omega)];congr 1;omega
theorem xko {u:Nat} (h:u<18446744073709551616):
  IntKind.i64.wrap (qym 64 (IntKind.i64.wrap ((u:Int).fdiv (2^min 1 64))) (IntKind.i64.wrap (0-IntKind.i64.wrap (IntKind.u64.wrap (qvm 64 (u:Int) 1)))))=unz u:=by
 have e1:(u:Int).fdiv (2^min 1 64)=((u/2:Nat):Int):=by
  show(u:Int).fdiv 2=_;rw[jDe _ (by decide)];omega
 have e2:qvm 64 (u:Int) 1=((u%2:Nat):Int):=by
  have:=qre 64 u 1 (by omega) (by omega);rw[show u&&&1=u%2 from Nat.and_two_pow_sub_one_eq_mod u 1]at this;exact this
 rw[e1,e2,f2 _ (by omega),x9 (n:=((u/2:Nat):Int)) (by unfold I64;omega),x9 (n:=((u%2:Nat):Int)) (by unfold I64;omega),x9 (n:=0-((u%2:Nat):Int)) (by unfold I64;omega)];unfold qym unz;rcases jDd u with hp|hp
 ·rw[hp,if_pos rfl];have:BitVec.ofInt 64 (0-((0:Nat):Int))=0#64:=by decide
  rw[this,BitVec.xor_zero,BitVec.ofInt_natCast,BitVec.toNat_ofNat,jBy (by omega),x9 (by unfold I64;omega)]
 ·rw[hp,if_neg (by decide)];have e3:BitVec.ofInt 64 (0-((1:Nat):Int))=BitVec.ofInt 64 18446744073709551615:=by decide
  rw[e3,qi7 _ (by omega)];simp only[IntKind.wrap,IntKind.bits,IntKind.signed];simp;omega
def xkp (i u:Nat) (r:Rd):St:=⟨[(0,true,.d (.ptr 0 0)),(3,true,.d (.int .u64 (u:Nat))),(6,true,.d (.int .i64 (i:Nat)))],[rdO r],[],1⟩
theorem qxb (r:Rd) (hr:r.Ok):qh prog 244 [.d (.ptr 0 0)] [rdO r] (.d (.int .i64 (rInt r).1)) [rdO (rInt r).2]:=by
 refine F244.go ?_;refine ez ?_;refine qk (λi:{x:Nat×Nat×Rd//x.1<=10∧x.2.1<18446744073709551616∧(x.1<=9->x.2.1<128^x.1)∧x.2.2.Ok∧qlc (10-x.1) x.1 x.2.1 x.2.2=rInt r}=>xkp i.val.1 i.val.2.1 i.val.2.2) (λi=>10-i.val.1) ⟨(0,0,r),by simp,by simp,by simp,hr,rfl⟩ ?_ (λi=> ?_)
 ·exact et3 @xkp.eq_1 @jAp @rdO.eq_1
 obtain⟨⟨i,u,rd⟩,hi,hu,o,q,e⟩:=i;simp only at hi hu o q e;refine eo2 @xkp.eq_1 @rdO.eq_1 ?_;refine xp _ (λh=> ?_) (λh=> ?_)
 ·have t:i<10:=by simp at h;omega
  have hn:=qxa rd 1 q (by decide);obtain⟨z,hn2⟩:=qhx q 1;have hk:10-i=(10-(i+1))+1:=by omega
  rw[hk,qlc]at e;refine ez ?_;simp only[rdO]at hn
  (repeat(with_reducible refine ob ?_));refine clO [0] F288 (hn) ?_
  refine ez ?_;cases hf:(w5 1 rd).2.failed with
  |true=>
   rw[if_pos hf]at e
   (repeat(with_reducible refine ob ?_));refine qa2 ?_
   exact et2 e.symm @hf
  |false=>
   rw[if_neg (by rw[hf];simp)]at e;obtain⟨c,hc⟩:=q03 hf;rw[hc]at e⊢;simp only[jEr]at e
   (repeat(with_reducible refine ob ?_));refine no_ ?_
   have hcb:qe [c]= [[.int .u8 (c.toNat:Nat)]]:=rfl;have C:=qfh c;have v:i<=9:=by omega
   have p:(u+c.toNat%128*128^i)%18446744073709551616<18446744073709551616:=jC3 _ (by decide);have m:i<=8->(u+c.toNat%128*128^i)%18446744073709551616<128^(i+1):=λh8=>by
    have h1:=o (by omega);have E:c.toNat%128<128:=jC3 _ (by decide);have h3:c.toNat%128*128^i<=127*128^i:=jAy _ (by omega);have h4:=Nat.mod_le (u+c.toNat%128*128^i) 18446744073709551616;rw[jCi];omega
   have a1:IntKind.i64.wrap (7*(i:Int))=((7*i:Nat):Int):=by rw[x9 (by unfold I64;omega)];omega
   refine ez3 @hcb @a1 (xkn v (o v) C) ?_;refine⟨by omega,?_⟩;generalize (u+c.toNat%128*128^i)%18446744073709551616=u' at e p m;refine xp _ (λhc=> ?_) (λhc=> ?_)
   ·have l:c.toNat<128:=by simp at hc;omega
    simp only[l,if_true]at e;refine ez ?_;have hb:(((c.toNat:Nat):Int)==0&&decide ((i:Int)>0)||((i:Int)==9)&&decide (((c.toNat:Nat):Int)>1))=(c.toNat==0&&decide (0<i)||decide (i=9)&&decide (c.toNat>1)):=by
     have b1:(((c.toNat:Nat):Int)==0)=(c.toNat==0):=by rw[jBm];simp
     have b2:decide ((i:Int)>0)=decide (0<i):=decide_eq_decide.2 (by omega);have b3:((i:Int)==9)=decide (i=9):=by rw[jBm];simp;omega
     have b4:decide (((c.toNat:Nat):Int)>1)=decide (c.toNat>1):=decide_eq_decide.2 (by omega);rw[b1,b2,b3,b4]
    rw[xko p,hb,<- e];exact⟨λh=>⟨h,λE=>by rw[h,E];rfl⟩,λh=>by rw[h];rfl,rfl,(by simp only[go_sem]),rfl,rfl⟩
   ·have l: ¬c.toNat<128:=by simp at hc;omega
    simp only[l,if_false]at e;refine ez ?_;refine⟨⟨(i+1,u',(w5 1 rd).2),t,p,λh=>m (by omega),z,e⟩,?_,by dsimp only;omega⟩;exact et4 @xkp.eq_1 @rdO.eq_1 @hf (qg (show i<9223372036854775807 by omega))
 ·have t:i=10:=by simp at h;omega
  subst t;have:rInt r=(0,{rd with failed:=true}):=e.symm;exact et2 @this @rdO.eq_1
attribute [go_sem] exists_eq' List.getD_nil
theorem q04: ∀(k i u:Nat) {r:Rd},r.Ok->(qlc k i u r).2.Ok∧(qlc k i u r).2.b=r.b
 |0,i,u,r,h=>⟨⟨h.len,h.pos⟩,rfl⟩
 |k+1,i,u,r,h=>by
  have hn:=qhx h 1;rw[qlc];split
  ·exact hn
  ·split
   ·exact⟨⟨hn.1.len,hn.1.pos⟩,hn.2⟩
   ·have:=q04 k (i+1) ((u+((w5 1 r).1.headD 0).toNat%128*128^i)%18446744073709551616) hn.1;exact⟨this.1,this.2.trans hn.2⟩
theorem qe8 {r:Rd} (h:r.Ok):(rInt r).2.Ok∧(rInt r).2.b=r.b:=q04 10 0 0 h
def Rd.fail (r:Rd) (f:Bool):Rd:=⟨r.b,r.pos,f⟩
theorem Rd.Ok.fail {r:Rd} (h:r.Ok) (f:Bool):(r.fail f).Ok:=⟨h.len,h.pos⟩
def xm (lo hi:Int) (r:Rd):Int×Rd:=((rInt r).1,(rInt r).2.fail ((rInt r).2.failed||decide ((rInt r).1<lo)||decide ((rInt r).1>hi)))
def yf (most:Int) (r:Rd):List UInt8×Rd:=if(xm 0 most r).2.failed then([],(xm 0 most r).2)else w5 (xm 0 most r).1.toNat (xm 0 most r).2
def qhy (r:Rd):Bool×Rd:=
 let f:=(w5 1 r).2.failed||decide (((w5 1 r).1.headD 0).toNat>1)
 (!f&&((w5 1 r).1.headD 0).toNat==1,(w5 1 r).2.fail f)
def qdu {α:Type} (z:α) (f:Rd->α×Rd) (r:Rd):α×Rd:=if r.failed then(z,r)else if(f r).2.failed then(z,⟨(f r).2.b,r.pos,(f r).2.failed⟩)else f r
theorem vu {r:Rd} (h:r.Ok) (lo hi:Int):(xm lo hi r).2.Ok∧(xm lo hi r).2.b=r.b:=⟨(qe8 h).1.fail _,(qe8 h).2⟩
theorem qbl {r:Rd} {lo hi:Int} (h:(xm lo hi r).2.failed=false):lo<=(xm lo hi r).1∧(xm lo hi r).1<=hi:=by
 simp only[xm,Rd.fail,jA4,decide_eq_false_iff_not]at h⊢;omega
theorem qjs {r:Rd} (h:r.Ok) (most:Int):(yf most r).2.Ok∧(yf most r).2.b=r.b:=by
 have d:=vu h 0 most;unfold yf;split
 ·exact d
 ·have e:=qhx d.1 (xm 0 most r).1.toNat;exact⟨e.1,e.2.trans d.2⟩
theorem xen {r:Rd} (h:r.Ok) (n:Nat):(w5 n r).1.length<=1000000000:=by
 have:=h.len;unfold w5;split
 ·simp
 ·simp only[jAl,jAq];omega
theorem q43 {r:Rd} (h:r.Ok) (most:Int):(yf most r).1.length<=1000000000:=by
 unfold yf;split
 ·simp
 ·exact xen (vu h 0 most).1 _
theorem qud {r:Rd} (h:r.Ok):(qhy r).2.Ok∧(qhy r).2.b=r.b:=⟨(qhx h 1).1.fail _,(qhx h 1).2⟩
theorem qf2 {α:Type} {z:α} {f:Rd->α×Rd} {r:Rd} (h:r.Ok) (d:(f r).2.Ok∧(f r).2.b=r.b):(qdu z f r).2.Ok∧(qdu z f r).2.b=r.b:=by
 unfold qdu;split
 ·exact⟨h,rfl⟩
 ·split
  ·exact⟨⟨d.1.len,by simp only[d.2];exact h.pos⟩,d.2⟩
  ·exact d
def d246:=cut prog f246 news
@[go_sem] def E246:=qm d246
def F246:=fnC d246 follows func246
def d295:=cut prog f295 news
@[go_sem] def E295:=qm d295
def F295:=fnC d295 follows func295
def d292:=cut prog f292 news
@[go_sem] def E292:=qm d292
def F292:=fnC d292 follows func292
def d245:=cut prog f245 news
@[go_sem] def E245:=qm d245
def F245:=fnC d245 follows func245
def d294:=cut prog f294 news
@[go_sem] def E294:=qm d294
def F294:=fnC d294 follows func294
def d243:=cut prog f243 news
@[go_sem] def E243:=qm d243
def F243:=fnC d243 follows func243
def d291:=cut prog f291 news
@[go_sem] def E291:=qm d291
def F291:=fnC d291 follows func291
def d293:=cut prog f293 news
@[go_sem] def E293:=qm d293
def F293:=fnC d293 follows func293
def d178:=cut prog f178 news
@[go_sem] def E178:=qm d178
def F178:=fnC d178 follows func178
def d179:=cut prog f179 news
@[go_sem] def E179:=qm d179
def F179:=fnC d179 follows func179
def d250:=cut prog f250 news
@[go_sem] def E250:=qm d250
def F250:=fnC d250 follows func250
def d251:=cut prog f251 news
@[go_sem] def E251:=qm d251
def F251:=fnC d251 follows func251
def d249:=cut prog f249 news
@[go_sem] def E249:=qm d249
def F249:=fnC d249 follows func249
theorem qeo (r:Rd) (lo hi:Int) (hr:r.Ok):qh prog 246 [.d (.ptr 0 0),.d (.int .i64 lo),.d (.int .i64 hi)] [rdO r] (.d (.int .i64 (xm lo hi r).1)) [rdO (xm lo hi r).2]:=by
 have hc:=qxb r hr;simp only[rdO]at hc;refine F246.go ?_;refine ez3 @rdO.eq_1 @xm.eq_1 @Rd.fail.eq_1 ?_;generalize rInt r=x at hc⊢;obtain⟨n,b,p,f⟩:=x
 (repeat(with_reducible refine ob ?_));refine clO [0] F244 (hc) ?_
 refine ez ?_;cases f<;>simp
theorem que (r:Rd) (most:Nat) (l:r.Ok) (hm:most<=1000000000):qh prog 295 [.d (.ptr 0 0),.d (.int .i64 most)] [rdO r] (.d (.sl 1 (qe (yf most r).1))) [rdO (yf most r).2]:=by
 have hc:=qeo r 0 most l;have h:=qbl (r:=r) (lo:=0) (hi:=most);have e:=(vu l 0 most).1;refine F295.go ?_;refine ez1 @yf.eq_1 ?_;generalize xm 0 most r=x at hc h e⊢;obtain⟨n,i⟩:=x;simp only[rdO]at hc;refine eo1 @rdO.eq_1 ?_;refine clO [0] F246 (hc) ?_;refine ez ?_;cases hf:i.failed
 ·obtain⟨m,h2⟩:=h hf;simp only at m h2;have hn:=qxa i n.toNat e (by omega);rw[jEt m]at hn;simp only[rdO,hf]at hn
  (repeat(with_reducible refine ob ?_));refine no_ ?_
  refine eo ?_;refine clO [0] F288 (hn) ?_;exact et
 ·(repeat(with_reducible refine ob ?_));refine qa2 ?_
  exact et2 @hf @xa
theorem xah {r:Rd} {n:Nat} (h:(w5 n r).2.failed=true):(w5 n r).1= []:=by
 unfold w5 at h⊢;split
 ·rfl
 ·rename_i hn;rw[if_neg hn]at h;simp only[jA1,not_or]at hn;exact absurd h hn.1
theorem xnc (c:UInt8):decide (((c.toNat:Nat):Int)>1)=decide (c.toNat>1):=decide_eq_decide.2 (by omega)
theorem xnd (c:UInt8):(((c.toNat:Nat):Int)==1)=(c.toNat==1):=by rw[jBm];simp;omega
theorem xeo (r:Rd) (hr:r.Ok):qh prog 292 [.d (.ptr 0 0)] [rdO r] (.d (.bool (qhy r).1)) [rdO (qhy r).2]:=by
 have hc:=qxa r 1 hr (by decide);have e:=q03 (r:=r);have h:=xah (r:=r) (n:=1);refine F292.go ?_;refine ez3 @rdO.eq_1 @qhy.eq_1 @Rd.fail.eq_1 ?_;generalize w5 1 r=x at hc e h⊢;obtain⟨s,r1⟩:=x;simp only[rdO]at hc;refine eo ?_;refine clO [0] F288 (hc) ?_;simp only at e;cases hf:r1.failed
 ·obtain⟨c,rfl⟩:=e hf;have hcb:qe [c]= [[.int .u8 (c.toNat:Nat)]]:=rfl;refine ez2 @hcb @jEr.{0} ?_;exact⟨by rw[xnc,xnd]<;>rfl,xnc c⟩
 ·have hs:=h hf;simp only at hs;subst hs;exact et2 @xa @List.getD_nil.{0}
theorem q44 (r:Rd) (lo hi:Int) (hr:r.Ok):qh prog 245 [.d (.ptr 1 0),.d (.ptr 2 0),.d (.ptr 3 0)] [rdO r,.row [.d (.ptr 0 0)],.row [.d (.int .i64 lo)],.row [.d (.int .i64 hi)]] (.d (.int .i64 (xm lo hi r).1)) [rdO (xm lo hi r).2,.row [.d (.ptr 0 0)],.row [.d (.int .i64 lo)],.row [.d (.int .i64 hi)]]:=by
 have hc:=qeo r lo hi hr;simp only[rdO]at hc;refine F245.go ?_;refine eo1 @rdO.eq_1 ?_;refine clO [0] F246 (hc) ?_;exact et
theorem xep (r:Rd) (most:Nat) (e:r.Ok) (hm:most<=1000000000):qh prog 294 [.d (.ptr 1 0),.d (.ptr 2 0)] [rdO r,.row [.d (.ptr 0 0)],.row [.d (.int .i64 most)]] (.d (.sl 1 (qe (yf most r).1))) [rdO (yf most r).2,.row [.d (.ptr 0 0)],.row [.d (.int .i64 most)]]:=by
 have hc:=que r most e hm;have hln:=q43 e most;simp only[rdO]at hc;refine F294.go ?_;refine eo1 @rdO.eq_1 ?_;refine clO [0] F295 (hc) ?_;refine ez ?_;omega
def qco:=qdu (0:Int) rInt
def xy (lo hi:Int):=qdu (0:Int) (xm lo hi)
def qf3:=qdu false qhy
def yg (most:Int):=qdu ([]:List UInt8) (yf most)
theorem xai (r:Rd) (hr:r.Ok):qh prog 243 [.d (.ptr 0 0),.d (.func (.func 244) [.ptr 0 0] [])] [rdO r] (.d (.int .i64 (qco r).1)) [rdO (qco r).2]:=by
 have hc:=qxb r hr;unfold qco;unfold qdu;obtain⟨b,p,f⟩:=r;simp only[rdO]at hc;refine F243.go ?_;refine ez1 @rdO.eq_1 ?_;cases f
 ·refine eo ?_;refine no_ ?_;refine eo ?_;refine clO [0] F244 (hc) ?_;refine ez ?_;cases hf:(rInt ⟨b,p,false⟩).2.failed
  ·refine eo ?_;refine no_ ?_;simp only[hf,if_false,go_sem,simprocAttr]
  ·refine eo ?_;refine qa2 ?_;exact et1 @hf
 ·refine eo ?_;refine qa2 ?_;exact et
theorem qs7 (r:Rd) (lo hi:Int) (hr:r.Ok):qh prog 243 [.d (.ptr 0 0),.d (.func (.func 245) [] [.ptr 1 0,.ptr 2 0,.ptr 3 0])] [rdO r,.row [.d (.ptr 0 0)],.row [.d (.int .i64 lo)],.row [.d (.int .i64 hi)]] (.d (.int .i64 (xy lo hi r).1)) [rdO (xy lo hi r).2,.row [.d (.ptr 0 0)],.row [.d (.int .i64 lo)],.row [.d (.int .i64 hi)]]:=by
 have hc:=q44 r lo hi hr;unfold xy;unfold qdu;obtain⟨b,p,f⟩:=r;simp only[rdO]at hc;refine F243.go ?_;refine ez1 @rdO.eq_1 ?_;cases f
 ·refine eo ?_;refine no_ ?_;refine eo ?_;refine clO [0,1,2,3] F245 (hc) ?_;refine ez ?_;cases hf:(xm lo hi ⟨b,p,false⟩).2.failed
  ·refine eo ?_;refine no_ ?_;simp only[hf,if_false,go_sem,simprocAttr]
  ·refine eo ?_;refine qa2 ?_;exact et1 @hf
 ·refine eo ?_;refine qa2 ?_;exact et
theorem q45 (r:Rd) (hr:r.Ok):qh prog 291 [.d (.ptr 0 0),.d (.func (.func 292) [.ptr 0 0] [])] [rdO r] (.d (.bool (qf3 r).1)) [rdO (qf3 r).2]:=by
 have hc:=xeo r hr;unfold qf3;unfold qdu;obtain⟨b,p,f⟩:=r;simp only[rdO]at hc;refine F291.go ?_;refine ez1 @rdO.eq_1 ?_;cases f
 ·refine eo ?_;refine no_ ?_;refine eo ?_;refine clO [0] F292 (hc) ?_;refine ez ?_;cases hf:(qhy ⟨b,p,false⟩).2.failed
  ·refine eo ?_;refine no_ ?_;simp only[hf,if_false,go_sem,simprocAttr]
  ·refine eo ?_;refine qa2 ?_;exact et1 @hf
 ·refine eo ?_;refine qa2 ?_;exact et
theorem q05 (r:Rd) (most:Nat) (hr:r.Ok) (hm:most<=1000000000):qh prog 293 [.d (.ptr 0 0),.d (.func (.func 294) [] [.ptr 1 0,.ptr 2 0])] [rdO r,.row [.d (.ptr 0 0)],.row [.d (.int .i64 most)]] (.d (.sl 1 (qe (yg most r).1))) [rdO (yg most r).2,.row [.d (.ptr 0 0)],.row [.d (.int .i64 most)]]:=by
 have hc:=xep r most hr hm;unfold yg;unfold qdu;obtain⟨b,p,f⟩:=r;simp only[rdO]at hc;refine F293.go ?_;refine ez1 @rdO.eq_1 ?_;cases f
 ·refine eo ?_;refine no_ ?_;refine eo ?_;refine clO [0,1,2] F294 (hc) ?_;refine ez ?_;cases hf:(yf most ⟨b,p,false⟩).2.failed
  ·refine eo ?_;refine no_ ?_;simp only[hf,if_false,go_sem,simprocAttr]
  ·refine eo ?_;refine qa2 ?_;exact et1 @hf
 ·refine eo ?_;refine qa2 ?_;exact et
theorem qov (r:Rd) (hr:r.Ok):qh prog 178 [.d (.ptr 0 0)] [rdO r] (.d (.int .i64 (qco r).1)) [rdO (qco r).2]:=by
 have hc:=xai r hr;simp only[rdO]at hc;refine F178.go ?_;refine eo1 @rdO.eq_1 ?_;refine clO [0] F243 (hc) ?_;exact et
theorem qhz (r:Rd) (lo hi:Int) (hr:r.Ok):qh prog 179 [.d (.ptr 0 0),.d (.int .i64 lo),.d (.int .i64 hi)] [rdO r] (.d (.int .i64 (xy lo hi r).1)) [rdO (xy lo hi r).2]:=by
 have hc:=qs7 r lo hi hr;simp only[rdO]at hc;refine F179.go ?_;refine ez1 @rdO.eq_1 ?_;refine clO [0,1,2,3] F243 hc ?_;exact et
theorem xeq (r:Rd) (hr:r.Ok):qh prog 250 [.d (.ptr 0 0)] [rdO r] (.d (.bool (qf3 r).1)) [rdO (qf3 r).2]:=by
 have hc:=q45 r hr;simp only[rdO]at hc;refine F250.go ?_;refine eo1 @rdO.eq_1 ?_;refine clO [0] F291 (hc) ?_;exact et
theorem quf (r:Rd) (most:Nat) (hr:r.Ok) (hm:most<=1000000000):qh prog 251 [.d (.ptr 0 0),.d (.int .i64 most)] [rdO r] (.d (.sl 1 (qe (yg most r).1))) [rdO (yg most r).2]:=by
 have hc:=q05 r most hr hm;simp only[rdO]at hc;refine F251.go ?_;refine ez1 @rdO.eq_1 ?_;refine clO [0,1,2] F293 hc ?_;exact et
theorem xer (r:Rd) (most:Nat) (hr:r.Ok) (hm:most<=1000000000):qh prog 249 [.d (.ptr 0 0),.d (.int .i64 most)] [rdO r] (.d (.str (yg most r).1)) [rdO (yg most r).2]:=by
 have hc:=quf r most hr hm;simp only[rdO]at hc;refine F249.go ?_;refine eo1 @rdO.eq_1 ?_;refine clO [0] F251 (hc) ?_;exact et
theorem qrf {r:Rd} (h:r.Ok):(qco r).2.Ok∧(qco r).2.b=r.b:=qf2 h (qe8 h)
theorem qdv {r:Rd} (h:r.Ok) (lo hi:Int):(xy lo hi r).2.Ok∧(xy lo hi r).2.b=r.b:=qf2 h (vu h lo hi)
theorem qmm {r:Rd} (h:r.Ok):(qf3 r).2.Ok∧(qf3 r).2.b=r.b:=qf2 h (qud h)
theorem qgq {r:Rd} (h:r.Ok) (most:Int):(yg most r).2.Ok∧(yg most r).2.b=r.b:=qf2 h (qjs h most)
theorem qnu (r:Rd) (lo hi:Int):(xy lo hi r).1=0∨(lo<=(xy lo hi r).1∧(xy lo hi r).1<=hi):=by
 unfold xy qdu;split
 ·exact .inl rfl
 ·split
  ·exact .inl rfl
  ·rename_i h;exact .inr (qbl (by simpa using h))
def rOp (r:Rd):OpS×Rd:=
 (⟨(yg 40 r).1,(qf3 (yg 40 r).2).1,(yg 900 (qf3 (yg 40 r).2).2).1⟩,(yg 900 (qf3 (yg 40 r).2).2).2)
def yz:Nat->Rd->List OpS×Rd
 |0,r=>([],r)
 |n+1,r=>((yz n r).1++ [(rOp (yz n r).2).1],(rOp (yz n r).2).2)
theorem xpj {r:Rd} (h:r.Ok):(rOp r).2.Ok∧(rOp r).2.b=r.b:=by
 have i:=qgq h 40;have e:=qmm i.1;have d:=qgq e.1 900;exact⟨d.1,d.2.trans (e.2.trans i.2)⟩
theorem qld {r:Rd} (h:r.Ok): ∀n,(yz n r).2.Ok∧(yz n r).2.b=r.b∧(yz n r).1.length=n
 |0=>⟨h,rfl,rfl⟩
 |n+1=>by
  have ih:=qld h n;have:=xpj ih.1;exact⟨this.1,this.2.trans ih.2.1,by simp only[yz,jAc,ih.2.2,jBo]⟩
def xaj (b:List UInt8):List OpS×Rd:=yz (xy 1 20 ⟨b,0,false⟩).1.toNat (xy 1 20 ⟨b,0,false⟩).2
def kj (b:List UInt8):List OpS×Int:=if rEnd (xaj b).2≠0 then([],4)else if(qx (xaj b).1).2≠0 then([],4)else((xaj b).1,0)
def d182:=cut prog f182 news
@[go_sem] def E182:=qm d182
def F182:=fnC d182 follows func182
def Sdec (n:Nat) (r:Rd) (i:{i:Nat//i<=n}):St:=
 ⟨[(4,true,.d (.ptr 0 0)),(6,true,.own 0 3 ((yz i.val r).1.map qr)),(14,true,.d (.int .i64 (n:Nat))),(15,true,.d (.int .i64 (i.val:Nat)))],[rdO (yz i.val r).2],[0],1⟩
theorem qug (b:List UInt8) (C:b.length<=1000000000):qh prog 182 [.d (.sl 1 (qe b))] [] (.tup [.d (.sl 3 ((kj b).1.map qr)),.d (.int .i64 (kj b).2)]) []:=by
 have l:=qou b C;have t:(⟨b,0,false⟩:Rd).Ok:=⟨C,jAi _⟩;have q:=qhz ⟨b,0,false⟩ 1 20 t;have v:=qnu ⟨b,0,false⟩ 1 20;have e:=(qdv t 1 20).1;unfold kj xaj;generalize xy 1 20 ⟨b,0,false⟩=x at q v e⊢;obtain⟨n,r⟩:=x;simp only at v e;have u:n=((n.toNat:Nat):Int):=by omega
 generalize n.toNat=m at u;subst u;simp only[rdO]at l q;refine F182.goT ?_;refine eo ?_;refine clO [0] F177 (l) ?_ (hfit:=by first|exact⟨qd,trivial⟩|exact⟨qd,qd,trivial⟩|(refine ev3 @qr.eq_1 @j0.eq_1 @zq.eq_1 ?_;try exact⟨⟩))
 refine eo ?_;refine clO [0] F179 (q) ?_ (hfit:=by first|exact⟨qd,trivial⟩|exact⟨qd,qd,trivial⟩|(refine ev3 @qr.eq_1 @j0.eq_1 @zq.eq_1 ?_;try exact⟨⟩))
 refine ez ?_;refine qk (Sdec m r) (λi=>m-i.val) ⟨0,jAi _⟩ ?_ (λi=> ?_)
 ·simp only[Sdec,rdO,yz,List.map_nil,jAp,go_sem,simprocAttr]
 obtain⟨i,hi⟩:=i;have o:=qld e i;refine eo2 @Sdec.eq_1 @rdO.eq_1 ?_;refine xp _ (λh=> ?_) (λh=> ?_)
 ·have p:i<m:=by simp at h;omega
  have F:=xer (yz i r).2 40 o.1 (by decide);have z:=qgq o.1 40;have I:=xeq _ z.1;have hiB:=qmm z.1;have E:=quf _ 900 hiB.1 (by decide);simp only[rdO]at F I E;refine eo ?_;refine clO [0] F249 (F) ?_ (hfit:=by first|exact⟨qd,trivial⟩|exact⟨qd,qd,trivial⟩|(refine ev3 @qr.eq_1 @j0.eq_1 @zq.eq_1 ?_;try exact⟨⟩))
  refine eo ?_;refine clO [0] F250 (I) ?_ (hfit:=by first|exact⟨qd,trivial⟩|exact⟨qd,qd,trivial⟩|(refine ev3 @qr.eq_1 @j0.eq_1 @zq.eq_1 ?_;try exact⟨⟩))
  refine eo ?_;refine clO [0] F251 (E) ?_ (hfit:=by first|exact⟨qd,trivial⟩|exact⟨qd,qd,trivial⟩|(refine ev3 @qr.eq_1 @j0.eq_1 @zq.eq_1 ?_;try exact⟨⟩))
  refine eo ?_;refine⟨⟨i+1,p⟩,?_,by dsimp only;omega⟩;simp only[Sdec,rdO,yz,rOp,jA2,List.map_cons,List.map_nil,qr,qg (show i<9223372036854775807 by omega),go_sem,simprocAttr]
 ·have p:i=m:=by simp at h;omega
  subst p;have G:=q41 (yz i r).2 o.1;simp only[rdO]at G;refine eo ?_;refine clO [0] F180 (G) ?_ (hfit:=by first|exact⟨qd,trivial⟩|exact⟨qd,qd,trivial⟩|(refine ev3 @qr.eq_1 @j0.eq_1 @zq.eq_1 ?_;try exact⟨⟩))
  refine ez ?_;refine xp _ (λh=> ?_) (λh=> ?_)
  ·rw[if_pos (show rEnd (yz i r).2≠0 by simpa using h)];exact et
  ·rw[if_neg (show¬rEnd (yz i r).2≠0 by simpa using h)];refine eo ?_;first|refine cl F85 (qia (yz i r).1 (by omega)) ?_|refine clF F85 (qia (yz i r).1 (by omega)) (λ_=>by exact et3 @qr.eq_1 @j0.eq_1 @zq.eq_1) ?_
   refine ez ?_;refine xp _ (λh=> ?_) (λh=> ?_)
   ·rw[if_pos (show(qx (yz i r).1).2≠0 by simpa using h)];exact et
   ·rw[if_neg (show¬(qx (yz i r).1).2≠0 by simpa using h)];exact et
def dG:Nat->Nat->Nat->List UInt8->Option (Int×List UInt8)
 |0,_,_,_=>none
 | _+1,_,_,[]=>none
 |k+1,j,u,c::l=>
  if c.toNat<128 then(if((c.toNat==0&&decide (0<j))||(decide (j=9)&&decide (c.toNat>1)))=true then none else some (unz (u+c.toNat*128^j),l))
  else dG k (j+1) (u+c.toNat%128*128^j) l
def dInt (l:List UInt8):Option (Int×List UInt8):=dG 10 0 0 l
def Got {α:Type} (o:Option (α×List UInt8)) (b:List UInt8) (x:α×Rd):Prop:=match o with
 |some (v,l)=>x=(v,⟨b,b.length-l.length,false⟩)
 |none=>x.2.failed=true
def qs8 {α:Type} (z:α) (f:Rd->α×Rd) (d:List UInt8->Option (α×List UInt8)):Prop:=
 ∀r:Rd,r.Ok->f r=if r.failed=true then(z,r)else match d (r.b.drop r.pos)with
  |some (v,l)=>(v,⟨r.b,r.b.length-l.length,false⟩)
  |none=>(z,⟨r.b,r.pos,true⟩)
def qof {α:Type} (d:List UInt8->Option (α×List UInt8)):Prop:= ∀e v l,d e=some (v,l) -> ∃p,e=p++l
theorem ws {b:List UInt8} {p:Nat} {q l:List UInt8} (hp:p<=b.length) (h:b.drop p=q++l):b.drop (b.length-l.length)=l∧l.length<=b.length:=by
 have h1:=congrArg List.length h;simp only[jAq,jAc]at h1;have h2:b.drop (p+q.length)=l:=by rw[<- jCq,h,jDl]
 have e:b.length-l.length=p+q.length:=by omega
 rw[e];exact⟨h2,by omega⟩
theorem xes: ∀(k j u:Nat) {d:List UInt8} {v:Int} {l:List UInt8},dG k j u d=some (v,l) -> ∃p,d=p++l
 |0,_,_,_,_,_,h=>by simp[dG]at h
 |k+1,j,u,[],_,_,h=>by simp[dG]at h
 |k+1,j,u,c::d,v,l,h=>by
  rw[dG]at h;split at h
  ·split at h
   ·cases h
   ·cases h;exact⟨[c],rfl⟩
  ·obtain⟨p,rfl⟩:=xes k (j+1) _ h;exact⟨c::p,rfl⟩
theorem q06:qof dInt:=λ_ _ _ h=>xes 10 0 0 h
theorem quh {r:Rd} (hr:r.Ok) (d:r.failed=false) {c:UInt8} {l:List UInt8} (h:r.b.drop r.pos=c::l):w5 1 r=([c],⟨r.b,r.pos+1,false⟩)∧r.b.drop (r.pos+1)=l:=by
 have hl:=congrArg List.length h;simp only[jAq,List.length_cons]at hl;have h2:r.b.drop (r.pos+1)=l:=by rw[<- jCq,h];rfl
 refine⟨?_,h2⟩;unfold w5;rw[if_neg (by simp[d];omega),h,d];rfl
theorem q07 {r:Rd} (hf:r.failed=false) (h:r.b.drop r.pos= []):w5 1 r=([],⟨r.b,r.pos,true⟩):=by
 have hl:=congrArg List.length h;simp only[jAq,List.length_nil]at hl;unfold w5;rw[if_pos (by simp[hf];omega)]
theorem qh0 {j:Nat} (h:j<=8):128^(j+1)<=9223372036854775808:=by
 have h1:128^(j+1)<=128^9:=jB4 (by decide) (by omega);have h2:(128:Nat)^9=9223372036854775808:=by decide
 omega
theorem xet: ∀(k j u:Nat) {r:Rd},j+k=10->u<128^j->r.Ok->r.failed=false->
  Got (dG k j u (r.b.drop r.pos)) r.b (qlc k j u r)
 |0,j,u,r,_,_,_,_=>by simp only[Got,dG,qlc]
 |k+1,j,u,r,hj,hu,hr,hf=>by
  cases hd:r.b.drop r.pos with
  |nil=>
   simp only[dG];rw[qlc,q07 hf hd,if_pos rfl];exact(rfl:true=true)
  |cons c l=>
   obtain⟨h1,h2⟩:=quh hr hf hd;have hlt:=qfh c;have h:=congrArg List.length hd;simp only[jAq,List.length_cons]at h;rw[qlc,h1,dG];simp only[jAw,if_false,jEr];by_cases hc:c.toNat<128
   ·simp only[hc,if_true];by_cases d:((c.toNat==0&&decide (0<j))||(decide (j=9)&&decide (c.toNat>1)))=true
    ·rw[if_pos d];exact d
    ·rw[if_neg d];simp only[jC1]at d;have hm:c.toNat%128=c.toNat:=jBy hc;have hs:u+c.toNat*128^j<18446744073709551616:=by
      rcases jB9 j 9 with h9|h9
      ·have hp:=qh0 (j:=j) (by omega);rw[jCi]at hp;have:c.toNat*128^j<=127*128^j:=jAy _ (by omega);omega
      ·have:j=9:=by omega
       subst this;simp at d;have e:(128:Nat)^9=9223372036854775808:=by decide
       rw[e]at hu⊢;omega
     rw[hm,jBy hs];simp only[Got,jCx,Rd.mk.injEq];exact⟨trivial,trivial,by omega,d⟩
   ·simp only[hc,if_false];cases k with
    |zero=>simp only[Got,dG,qlc]
    |succ k=>
     have hp:=qh0 (j:=j) (by omega);have i:u+c.toNat%128*128^j<128^(j+1):=by
      have h3:c.toNat%128*128^j<=127*128^j:=jAy _ (by omega);rw[jCi];omega
     rw[jBy (show u+c.toNat%128*128^j<18446744073709551616 by omega)];have ih:=xet (k+1) (j+1) (u+c.toNat%128*128^j) (r:=⟨r.b,r.pos+1,false⟩) (by omega) i ⟨hr.len,by have:=hr.pos;simp only;omega⟩ rfl;rw[show(⟨r.b,r.pos+1,false⟩:Rd).b.drop (⟨r.b,r.pos+1,false⟩:Rd).pos=l from h2]at ih;exact ih
theorem q7m {r:Rd} (hr:r.Ok) (hf:r.failed=false):Got (dInt (r.b.drop r.pos)) r.b (rInt r):=xet 10 0 0 rfl (by decide) hr hf
theorem qd7 {α:Type} {z:α} {f:Rd->α×Rd} {d:List UInt8->Option (α×List UInt8)} (hi: ∀r:Rd,r.Ok->(f r).2.b=r.b)
  (h: ∀r:Rd,r.Ok->r.failed=false->Got (d (r.b.drop r.pos)) r.b (f r)):qs8 z (qdu z f) d:=by
 intro r i;unfold qdu;by_cases e:r.failed=true
 ·rw[if_pos e,if_pos e]
 ·rw[if_neg e,if_neg e];have:=h r i (by simpa using e);cases hd:d (r.b.drop r.pos)with
  |none=>
   rw[hd]at this;simp only[Got]at this;rw[if_pos this,hi r i,this]
  |some x=>
   obtain⟨v,l⟩:=x;rw[hd]at this;simp only[Got]at this;rw[this,if_neg (by simp)]
theorem qmn:qs8 0 qco dInt:=qd7 (λr d=>(qe8 d).2) (λr d hf=>q7m d hf)
def ze (lo hi:Int) (l0:List UInt8):Option (Int×List UInt8):=match dInt l0 with
 |some (n,l)=>if n<lo∨n>hi then none else some (n,l)
 |none=>none
theorem yw (lo hi:Int):qof (ze lo hi):=by
 intro l0 v l h;unfold ze at h;split at h
 ·rename_i hd;split at h
  ·cases h
  ·cases h;exact q06 _ _ _ hd
 ·cases h
theorem qij (lo hi:Int) {r:Rd} (hr:r.Ok) (hf:r.failed=false):Got (ze lo hi (r.b.drop r.pos)) r.b (xm lo hi r):=by
 have h:=q7m hr hf;unfold ze;cases hd:dInt (r.b.drop r.pos)with
 |none=>
  rw[hd]at h;simp only[Got]at h⊢;simp only[xm,Rd.fail,h,jFf]
 |some x=>
  obtain⟨n,l⟩:=x;rw[hd]at h;simp only[Got]at h⊢;by_cases hn:n<lo∨n>hi
  ·rw[if_pos hn];simp only[xm,Rd.fail,h,jDj];simpa using hn
  ·rw[if_neg hn];simp only[xm,Rd.fail,h,jDj];have:(decide (n<lo)||decide (n>hi))=false:=by simpa using hn
   rw[this]
theorem qep (lo hi:Int):qs8 0 (xy lo hi) (ze lo hi):=qd7 (λr d=>(vu d lo hi).2) (λr d hf=>qij lo hi d hf)
def qcb (most:Int) (l0:List UInt8):Option (List UInt8×List UInt8):=match ze 0 most l0 with
 |some (n,l)=>if l.length<n.toNat then none else some (l.take n.toNat,l.drop n.toNat)
 |none=>none
theorem q46 (most:Int):qof (qcb most):=by
 intro l0 v l h;unfold qcb at h;split at h
 ·rename_i n l1 hd;split at h
  ·cases h
  ·cases h;obtain⟨p,rfl⟩:=yw _ _ _ _ _ hd;exact⟨p++l1.take n.toNat,by rw[jAj,jB5]⟩
 ·cases h
theorem q08 (most:Int) {r:Rd} (d:r.Ok) (hf:r.failed=false):Got (qcb most (r.b.drop r.pos)) r.b (yf most r):=by
 have h:=qij 0 most d hf;unfold qcb;cases hd:ze 0 most (r.b.drop r.pos)with
 |none=>
  rw[hd]at h;simp only[Got]at h⊢;unfold yf;rw[if_pos h];exact h
 |some x=>
  obtain⟨n,l⟩:=x;rw[hd]at h;simp only[Got]at h⊢;obtain⟨p,hp⟩:=yw _ _ _ _ _ hd;obtain⟨t1,t2⟩:=ws d.pos hp;have e:r.b.length-(r.b.length-l.length)=l.length:=by omega
  by_cases hn:l.length<n.toNat
  ·rw[if_pos hn];simp only[yf,h,jAw,if_false,w5,jDj];rw[e,if_pos (by simpa using hn)]
  ·rw[if_neg hn];simp only[yf,h,jAw,if_false,w5,jDj];rw[e,if_neg (by simpa using hn),t1];have:r.b.length-l.length+n.toNat=r.b.length-(l.drop n.toNat).length:=by rw[jAq];omega
   rw[this]
theorem qcc (most:Int):qs8 [] (yg most) (qcb most):=qd7 (λr d=>(qjs d most).2) (λr d hf=>q08 most d hf)
def qle:List UInt8->Option (Bool×List UInt8)
 | []=>none
 |c::l=>if c.toNat>1 then none else some (c.toNat==1,l)
theorem xak:qof qle:=by
 intro l0 v l h;cases l0 with
 |nil=>cases h
 |cons c l1=>
  rw[qle]at h;split at h
  ·cases h
  ·cases h;exact⟨[c],rfl⟩
theorem xkq {r:Rd} (hr:r.Ok) (e:r.failed=false):Got (qle (r.b.drop r.pos)) r.b (qhy r):=by
 cases hd:r.b.drop r.pos with
 |nil=>simp only[Got,qle,qhy,q07 e hd,Rd.fail,jFf]
 |cons c l=>
  obtain⟨h,h2⟩:=quh hr e hd;have d:=congrArg List.length hd;simp only[jAq,List.length_cons]at d;simp only[Got,qle];by_cases hc:c.toNat>1
  ·rw[if_pos hc];simp only[qhy,h,Rd.fail,jDj,jEr,decide_eq_true hc]
  ·rw[if_neg hc];simp only[qhy,h,Rd.fail,jDj,jEr,decide_eq_false hc,jDm,jCr];have:r.b.length-l.length=r.pos+1:=by omega
   rw[this]
theorem qlf:qs8 false qf3 qle:=qd7 (λr d=>(qud d).2) (λr d hf=>xkq d hf)
def d96:=cut prog f96 news
@[go_sem] def E96:=qm d96
def d309:=cut prog f309 news
@[go_sem] def E309:=qm d309
def d257:=cut prog f257 news
@[go_sem] def E257:=qm d257
def d259:=cut prog f259 news
@[go_sem] def E259:=qm d259
def d260:=cut prog f260 news
@[go_sem] def E260:=qm d260
def d258:=cut prog f258 news
@[go_sem] def E258:=qm d258
def d98:=cut prog f98 news
@[go_sem] def E98:=qm d98
def d194:=cut prog f194 news
@[go_sem] def E194:=qm d194
theorem xsm (v:Nat):zz (unz v)=v:=by
 unfold zz unz;split<;>split<;>omega
theorem xsn (n:Int):unz (zz n)=n:=by
 unfold zz unz;split<;>split<;>omega
theorem toNat_ofNat {n:Nat} (h:n<256):(UInt8.ofNat n).toNat=n:=by simp[UInt8.toNat_ofNat];omega
theorem xso (k:Nat): ∀(j u v:Nat) (l:List UInt8),j+(k+1)=10->v*128^j<18446744073709551616->(v=0->j=0) ->dG (k+1) j u (qdj v++l)=some (unz (u+v*128^j),l):=by
 have d: ∀(k j u v:Nat) (l:List UInt8),v<128->v*128^j<18446744073709551616->(v=0->j=0) ->dG (k+1) j u (qdj v++l)=some (unz (u+v*128^j),l):=by
  intro k j u v l m i o;rw[qcn m,jE7,dG,toNat_ofNat (by omega),if_pos m,if_neg];simp only[jA1,jAf,beq_iff_eq,decide_eq_true_eq,not_or,not_and];refine⟨λh=>by have:=o h;omega,λh=> ?_⟩;subst h;have e:(128:Nat)^9=9223372036854775808:=by decide
  rw[e]at i;omega
 induction k with
 |zero=>
  intro j u v l hj i o;refine d 0 j u v l ?_ i o;have:j=9:=by omega
  subst this;have e:(128:Nat)^9=9223372036854775808:=by decide
  rw[e]at i;omega
 |succ k ih=>
  intro j u v l hj i o;by_cases m:v<128
  ·exact d _ j u v l m i o
  ·have hm:v%128+128<256:=by omega
   rw[qej m,List.cons_append,dG,toNat_ofNat hm,if_neg (by omega)];have e1:(v%128+128)%128=v%128:=by omega
   have e2:v%128*128^j+v/128*128^(j+1)=v*128^j:=by
    rw[jCi,jDx (128^j) 128,<- jEz,<- jCp];congr 1;omega
   have hle:v/128*128^(j+1)<=v*128^j:=by omega
   rw[e1,ih (j+1) _ (v/128) l (by omega) (by omega) (by omega)];rw[jDq,e2]
theorem qct {n:Int} (hn:I64 n) (l:List UInt8):dInt (wInt n++l)=some (n,l):=by
 have:=xso 9 0 0 (zz n) l rfl (by rw[jE6,jCo];exact xjn hn) (λ_=>rfl);rw[jE6,jCo,Nat.zero_add,xsn]at this;exact this
theorem xnf: ∀(k j u:Nat) {d:List UInt8} {x:Int} {l:List UInt8},j+k=10->dG k j u d=some (x,l) ->
  ∃v,x=unz (u+v*128^j)∧d=qdj v++l∧(v=0->j=0)∧v*128^j<18446744073709551616
 |0,j,u,d,x,l,hj,h=>by simp[dG]at h
 |k+1,j,u,[],x,l,hj,h=>by simp[dG]at h
 |k+1,j,u,c::d,x,l,hj,h=>by
  rw[dG]at h;have hlt:=qfh c;split at h
  ·rename_i hc;split at h
   ·cases h
   ·rename_i m;cases h;simp only[jA1,jAf,beq_iff_eq,decide_eq_true_eq,not_or,not_and]at m;refine⟨c.toNat,rfl,?_,λh=>by have:=m.1 h;omega,?_⟩
    ·rw[qcn hc,jE7];congr 1;exact(UInt8.ofNat_toNat).symm
    ·rcases jB9 j 9 with h9|h9
     ·have hp:=qh0 (j:=j) (by omega);rw[jCi]at hp;have:c.toNat*128^j<=127*128^j:=jAy _ (by omega);omega
     ·have:j=9:=by omega
      subst this;have:=m.2 rfl;have e:(128:Nat)^9=9223372036854775808:=by decide
      rw[e];omega
  ·rename_i hc;obtain⟨v,h1,h2,h3,i⟩:=xnf k (j+1) _ (by omega) h;have p:c.toNat%128*128^j+v*128^(j+1)=(v*128+c.toNat%128)*128^j:=by
    rw[jCi,jDx (128^j) 128,<- jEz,<- jCp,Nat.add_comm]
   have hv:v≠0:=λh=>by have:=h3 h;omega
   have hk:k≠0:=by
    rintro rfl;simp[dG]at h
   refine⟨v*128+c.toNat%128,by rw[h1,jDq,p],?_,λh=>by omega,?_⟩
   ·rw[h2,qej (u:=v*128+c.toNat%128) (by omega),List.cons_append];have e3:(v*128+c.toNat%128)%128+128=c.toNat:=by omega
    have e4:(v*128+c.toNat%128)/128=v:=by omega
    rw[e3,e4];congr 1;exact(UInt8.ofNat_toNat).symm
   ·rw[<- p];have hp:=qh0 (j:=j) (by omega);have h5:c.toNat%128*128^j<=127*128^j:=jAy _ (by omega);have h6:v*128^(j+1)%128^(j+1)=0:=Nat.mul_mod_left _ _;have o:(18446744073709551616:Nat)%128^(j+1)=0:=by
     have:(18446744073709551616:Nat)=2*128^9:=by decide
     rw[this,<- Nat.pow_sub_mul_pow 128 (show j+1<=9 by omega),<- jEz];exact Nat.mul_mod_left _ _
    have h8:127*128^j<128^(j+1):=by rw[jCi];have:0<128^j:=Nat.pow_pos (by decide);omega
    generalize hP:128^(j+1)=P at i h6 o h8⊢;obtain⟨q,hq⟩:=Nat.dvd_of_mod_eq_zero o;rw[hq]at i⊢;have:v<q:=by
     rw[jDx P q]at i;exact Nat.lt_of_mul_lt_mul_right i
    have:(v+1)*P<=q*P:=jAy _ this;rw[jCp,Nat.one_mul]at this;rw[jDx P q];omega
theorem qow {e:List UInt8} {n:Int} {l:List UInt8} (h:dInt e=some (n,l)):I64 n∧e=wInt n++l:=by
 obtain⟨v,d,h2,_,h4⟩:=xnf 10 0 0 rfl h;rw[jE6,jCo]at d h4;rw[Nat.zero_add]at d;subst d;refine⟨?_,by rw[wInt,xsm];exact h2⟩;unfold I64 unz;split<;>omega
theorem qmo {most:Int} {s:List UInt8} (hs:(s.length:Int)<=most) (hm:most<=1000000000) (l:List UInt8):qcb most (qa7 s++l)=some (s,l):=by
 unfold qcb ze qa7;rw[jAj,qct (zd (by omega))];simp only;rw[if_neg (by omega)];simp only[jA6,jAc];rw[if_neg (by omega),jD5,jDl]
theorem qmp {most:Int} {d s l:List UInt8} (h:qcb most d=some (s,l)):d=qa7 s++l∧(s.length:Int)<=most:=by
 unfold qcb ze at h;cases hd:dInt d with
 |none=>rw[hd]at h;cases h
 |some x=>
  obtain⟨n,l1⟩:=x;rw[hd]at h;simp only at h;by_cases hn:n<0∨n>most
  ·rw[if_pos hn]at h;cases h
  ·rw[if_neg hn]at h;simp only at h;split at h
   ·cases h
   ·rename_i hl;cases h;obtain⟨_,h1⟩:=qow hd;have e:((l1.take n.toNat).length:Int)=n:=by rw[jAl];omega
    refine⟨?_,by omega⟩;unfold qa7;rw[e,jAj,jB5];exact h1
theorem xew (v:Bool) (l:List UInt8):qle ([if v then 1 else 0]++l)=some (v,l):=by cases v<;>rfl
theorem xex {d:List UInt8} {v:Bool} {l:List UInt8} (h:qle d=some (v,l)):d= [if v then 1 else 0]++l:=by
 cases d with
 |nil=>cases h
 |cons c l1=>
  rw[qle]at h;split at h
  ·cases h
  ·rename_i hc;cases h;have:c.toNat=0∨c.toNat=1:=by omega
   rcases this with h|h
   ·have:c=0:=UInt8.toNat_inj.1 h;subst this;rfl
   ·have:c=1:=UInt8.toNat_inj.1 h;subst this;rfl
def dOp (l0:List UInt8):Option (OpS×List UInt8):=match qcb 40 l0 with
 |none=>none
 |some (k,l1)=>match qle l1 with
  |none=>none
  |some (d,l2)=>match qcb 900 l2 with
   |none=>none
   |some (v,l3)=>some (⟨k,d,v⟩,l3)
theorem xpk {o:OpS} (ho:kh o=true) (l:List UInt8):dOp (wOp o++l)=some (o,l):=by
 obtain⟨_,h1,h2,_⟩:=vz.1 ho;unfold dOp wOp;rw[jAj,jAj,qmo (by omega) (by omega)];simp only;rw[xew];simp only;rw[qmo (by omega) (by omega)]
theorem xey {e:List UInt8} {o:OpS} {l:List UInt8} (h:dOp e=some (o,l)):e=wOp o++l:=by
 unfold dOp at h;cases h1:qcb 40 e with
 |none=>rw[h1]at h;cases h
 |some x=>
  obtain⟨k,l1⟩:=x;rw[h1]at h;simp only at h;cases h2:qle l1 with
  |none=>rw[h2]at h;cases h
  |some x=>
   obtain⟨d,l2⟩:=x;rw[h2]at h;simp only at h;cases h3:qcb 900 l2 with
   |none=>rw[h3]at h;cases h
   |some x=>
    obtain⟨v,l3⟩:=x;rw[h3]at h;cases h;rw[(qmp h1).1,xex h2,(qmp h3).1,wOp,jAj,jAj]
def qmq:Nat->List UInt8->Option (List OpS×List UInt8)
 |0,l=>some ([],l)
 |n+1,l0=>match qmq n l0 with
  |none=>none
  |some (ops,l)=>match dOp l with
   |none=>none
   |some (o,l')=>some (ops++ [o],l')
theorem q09 (l:List OpS) (hp: ∀o∈l,kh o=true) (rest:List UInt8): ∀k,k<=l.length->qmq k (l.flatMap wOp++rest)=some (l.take k,(l.drop k).flatMap wOp++rest)
 |0,_=>rfl
 |k+1,hk=>by
  rw[qmq,q09 l hp rest k (by omega)];simp only;rw[jBn (by omega),List.flatMap_cons,jAj,xpk (hp _ (jAg (by omega)))];simp only;rw[jAk (by omega)]
theorem qlg: ∀(n:Nat) {d:List UInt8} {ops:List OpS} {l:List UInt8},qmq n d=some (ops,l) ->d=ops.flatMap wOp++l∧ops.length=n
 |0,d,ops,l,h=>by cases h;exact⟨rfl,rfl⟩
 |n+1,d,ops,l,h=>by
  rw[qmq]at h;cases h1:qmq n d with
  |none=>rw[h1]at h;cases h
  |some x=>
   obtain⟨ops1,l1⟩:=x;rw[h1]at h;simp only at h;cases h2:dOp l1 with
   |none=>rw[h2]at h;cases h
   |some x=>
    obtain⟨o,l2⟩:=x;rw[h2]at h;cases h;obtain⟨e1,e2⟩:=qlg n h1;rw[e1,xey h2];simp[e2]
theorem xkv {r:Rd} (e:r.Ok) (d:r.failed=true):(rOp r).2.failed=true:=by
 have l:=qcc 40 r e;rw[if_pos d]at l;have i:=qlf r e;rw[if_pos d]at i;have h:=qcc 900 r e;rw[if_pos d]at h;simp only[rOp,l,i,h,d]
theorem qdw {α:Type} {b:List UInt8} {v:α} {l:List UInt8} {x:α×Rd} (h:Got (some (v,l)) b x):x=(v,⟨b,b.length-l.length,false⟩):=h
theorem yh {α:Type} {z:α} {f:Rd->α×Rd} {d:List UInt8->Option (α×List UInt8)} (hd:qs8 z f d) {r:Rd} (hr:r.Ok) (hf:r.failed=false) {v:α} {l:List UInt8} (h:d (r.b.drop r.pos)=some (v,l)):f r=(v,⟨r.b,r.b.length-l.length,false⟩):=by
 rw[hd r hr,if_neg (by simp[hf]),h]
theorem qmr {α:Type} {z:α} {f:Rd->α×Rd} {d:List UInt8->Option (α×List UInt8)} (hd:qs8 z f d) {r:Rd} (hr:r.Ok) (hf:r.failed=false) (h:d (r.b.drop r.pos)=none):(f r).2=⟨r.b,r.pos,true⟩:=by
 rw[hd r hr,if_neg (by simp[hf]),h]
theorem qms {α:Type} {z:α} {f:Rd->α×Rd} {d:List UInt8->Option (α×List UInt8)} (hd:qs8 z f d) {r:Rd} (hr:r.Ok) (hf:r.failed=true):f r=(z,r):=by
 rw[hd r hr,if_pos hf]
theorem xug {r:Rd} (i:r.Ok) (G:r.failed=false):Got (dOp (r.b.drop r.pos)) r.b (rOp r):=by
 unfold dOp;cases h1:qcb 40 (r.b.drop r.pos)with
 |none=>
  have o:=qmr (qcc 40) i G h1;have e:(⟨r.b,r.pos,true⟩:Rd).Ok:=⟨i.len,i.pos⟩;simp only[Got,rOp,o,qms qlf e rfl,qms (qcc 900) e rfl]
 |some x=>
  obtain⟨k,q⟩:=x;have o:=yh (qcc 40) i G h1;obtain⟨p1,C⟩:=q46 _ _ _ _ h1;obtain⟨t,t2⟩:=ws i.pos C;have e:(⟨r.b,r.b.length-q.length,false⟩:Rd).Ok:=⟨i.len,jCu _ _⟩;simp only;cases h2:qle q with
  |none=>
   have m:=qmr qlf e rfl (by simp only[t];exact h2);simp only at m;have h:(⟨r.b,r.b.length-q.length,true⟩:Rd).Ok:=⟨i.len,jCu _ _⟩;simp only[Got,rOp,o,m,qms (qcc 900) h rfl]
  |some x=>
   obtain⟨d,u⟩:=x;have m:=yh qlf e rfl (v:=d) (l:=u) (by simp only[t];exact h2);simp only at m;obtain⟨p2,z⟩:=xak _ _ _ h2;obtain⟨F,t4⟩:=ws (b:=r.b) (p:=r.b.length-q.length) (jCu _ _) (by rw[t];exact z);have h:(⟨r.b,r.b.length-u.length,false⟩:Rd).Ok:=⟨i.len,jCu _ _⟩;simp only;cases h3:qcb 900 u with
   |none=>
    have E:=qmr (qcc 900) h rfl (by simp only[F];exact h3);simp only[Got,rOp,o,m,E]
   |some x=>
    obtain⟨v,l3⟩:=x;have E:=yh (qcc 900) h rfl (v:=v) (l:=l3) (by simp only[F];exact h3);simp only[Got,rOp,o,m,E]
theorem xez {r:Rd} (e:r.Ok) (i:r.failed=false): ∀n,Got (qmq n (r.b.drop r.pos)) r.b (yz n r)
 |0=>by
  have:=e.pos;simp only[Got,qmq,yz,jAq];rw[show r.b.length-(r.b.length-r.pos)=r.pos by omega,<- i]
 |n+1=>by
  have ih:=xez e i n;have hi:=qld e n;rw[qmq];cases h1:qmq n (r.b.drop r.pos)with
  |none=>
   rw[h1]at ih;simp only[Got]at ih⊢;simp only[yz];exact xkv hi.1 ih
  |some x=>
   obtain⟨ops,l⟩:=x;rw[h1]at ih;have ih:=qdw ih;obtain⟨e1,_⟩:=qlg n h1;obtain⟨t1,t2⟩:=ws e.pos e1;have h:(⟨r.b,r.b.length-l.length,false⟩:Rd).Ok:=⟨e.len,jCu _ _⟩;have d:=xug h rfl;simp only[t1]at d;simp only;cases h3:dOp l with
   |none=>
    rw[h3]at d;simp only[Got]at d⊢;simp only[yz,ih,d]
   |some x=>
    obtain⟨o,l'⟩:=x;rw[h3]at d;have d:=qdw d;simp only[Got,yz,ih,d]
theorem q1a {b:List UInt8} (q:b.length<=1000000000):kj b=match ze 1 20 b with
  |none=>([],4)
  |some (n,l)=>match qmq n.toNat l with
   |some (ops,[])=>if(qx ops).2≠0 then([],4)else(ops,0)
   | _=>([],4):=by
 have i:(⟨b,0,false⟩:Rd).Ok:=⟨q,jAi _⟩;have e:=qep 1 20 ⟨b,0,false⟩ i;simp only[jAw,if_false,List.drop_zero]at e;unfold kj xaj;cases hd:ze 1 20 b with
 |none=>
  rw[hd]at e;simp only at e;rw[e,if_pos];simp[yz,rEnd]
 |some x=>
  obtain⟨n,l⟩:=x;rw[hd]at e;simp only at e;rw[e];obtain⟨p,hp⟩:=yw _ _ _ _ _ hd;obtain⟨t1,t2⟩:=ws (b:=b) (p:=0) (jAi _) (by rw[List.drop_zero];exact hp);have h:(⟨b,b.length-l.length,false⟩:Rd).Ok:=⟨q,jCu _ _⟩;have d:=xez h rfl n.toNat;simp only[t1]at d;simp only;cases h3:qmq n.toNat l with
  |none=>
   rw[h3]at d;simp only[Got]at d;rw[if_pos (by unfold rEnd;rw[d];simp)]
  |some x=>
   obtain⟨ops,m⟩:=x;rw[h3]at d;have d:=qdw d;rw[d];obtain⟨e1,_⟩:=qlg _ h3;have o:=congrArg List.length e1;simp only[jAc]at o;cases m with
   |nil=>
    simp only;rw[if_neg (by unfold rEnd;simp)]
   |cons c m=>
    simp only;rw[if_pos];unfold rEnd;simp only[List.length_cons]at o⊢;rw[if_pos]
    ·simp
    ·simp;omega
theorem qxc {l:List OpS} (h:(qx l).2=0):kj (qx l).1=(l,0):=by
 obtain⟨h20,hp,he⟩:=v8 h;have hlen:=qan l;rw[q1a (by omega),he];have hl0:l.length≠0:=by
  intro h0;unfold qx at h;rw[if_pos (by simp[h0])]at h;simp at h
 have e1:ze 1 20 (wOps l)=some ((l.length:Int),l.flatMap wOp):=by
  unfold ze wOps;rw[qct (zd (by omega))];simp only;rw[if_neg (by omega)]
 have d:=q09 l hp [] l.length (jAh _);rw[jAu,jAs,jC0,List.flatMap_nil,jAu]at d;rw[e1];simp only[jA6];rw[d];simp only;rw[if_neg (by simp[h])]
theorem qxd {b:List UInt8} (hb:b.length<=1000000000) (h:(kj b).2=0):qx (kj b).1=(b,0):=by
 have d:=q1a hb;cases h1:ze 1 20 b with
 |none=>rw[h1]at d;simp only at d;rw[d]at h;simp at h
 |some x=>
  obtain⟨n,l⟩:=x;rw[h1]at d;simp only at d;cases h2:qmq n.toNat l with
  |none=>rw[h2]at d;simp only at d;rw[d]at h;simp at h
  |some x=>
   obtain⟨ops,o⟩:=x;rw[h2]at d;cases o with
   |cons c o=>simp only at d;rw[d]at h;simp at h
   |nil=>
    simp only at d;by_cases i:(qx ops).2≠0
    ·rw[if_pos i]at d;rw[d]at h;simp at h
    ·rw[if_neg i]at d;have i:(qx ops).2=0:=by simpa using i
     rw[d];obtain⟨_,_,e⟩:=v8 i;rw[e];obtain⟨e1,e2⟩:=qlg _ h2;unfold ze at h1;cases h3:dInt b with
     |none=>rw[h3]at h1;cases h1
     |some x=>
      obtain⟨m,l3⟩:=x;rw[h3]at h1;simp only at h1;split at h1
      ·cases h1
      ·cases h1;obtain⟨_,e3⟩:=qow h3;have:((ops.length:Nat):Int)=n:=by omega
       rw[wOps,this,e3,e1,jAu]
def je (b:List UInt8) (p:Nat):List UInt8:=(b.drop p).take 24
def q1b (b:List UInt8) (p:Nat):List UInt8:=(b.drop (p+24)).take 8
def qdk (h:List UInt8):Nat:=(h.getD 0 0).toNat
def numB (h:List UInt8):Nat:=(h.getD 1 0).toNat
def qgr (h:List UInt8) (d:Nat):Bool:=
 (decide (qdk h=1)||decide (qdk h=2))&&decide (numB h<=22)&&decide (d+numB h<=2000)&& !(decide (qdk h=1)&&decide (numB h≠22))&& !(decide (qdk h=2)&&decide (numB h=0)&&decide (0<d))&&(h.drop (2+numB h)).all (λc=>c==0)
structure Rds where
 pos:Nat
 seed:Nat
 now:List UInt8
 recs:List (List UInt8)
 ends:List Nat
 deriving Inhabited
def Rds.used (s:Rds):Nat:=s.ends.getLastD 0
def cNow (b:List UInt8) (s:Rds):List UInt8:=s.now++((je b s.pos).drop 2).take (numB (je b s.pos))
def qmt (b:List UInt8) (s:Rds):Rds:=
 if qdk (je b s.pos)=2 then⟨s.pos+32,fnv s.seed (je b s.pos),[],s.recs++ [cNow b s],s.ends++ [s.pos+32]⟩
 else⟨s.pos+32,fnv s.seed (je b s.pos),cNow b s,s.recs,s.ends⟩
def cErr (b:List UInt8) (s:Rds):Option Int:=
 if be8 (fnv s.seed (je b s.pos))=q1b b s.pos then(if qgr (je b s.pos) s.now.length=true then none else some 4)else some 5
theorem q1c (b:List UInt8) (s:Rds):(qmt b s).pos=s.pos+32:=by unfold qmt;split<;>rfl
def qaa (b:List UInt8) (s:Rds):Rds×Int:=
 if h:s.pos+32<=b.length then
  match cErr b s with
  |some e=>(s,e)
  |none=>qaa b (qmt b s)
 else(s,if s.used=b.length then 0 else 4)
termination_by b.length-s.pos
decreasing_by rw[q1c];omega
def xsp:Nat:=14695981039346656037
def rds0:Rds:=⟨0,xsp,[],[],[]⟩
theorem qri {b:List UInt8} {s:Rds} {e:Int} (h:s.pos+32<=b.length) (he:cErr b s=some e):qaa b s=(s,e):=by
 rw[qaa,dif_pos h,he]
theorem qmu {b:List UInt8} {s:Rds} (h:s.pos+32<=b.length) (he:cErr b s=none):qaa b s=qaa b (qmt b s):=by
 rw[qaa,dif_pos h,he]
theorem qh1 {b:List UInt8} {s:Rds} (h: ¬s.pos+32<=b.length):qaa b s=(s,if s.used=b.length then 0 else 4):=by
 rw[qaa,dif_neg h]
structure Rds.Ok (b:List UInt8) (s:Rds):Prop where
 pos:s.pos<=b.length
 seed:s.seed<18446744073709551616
 now:s.now.length<=2000
 recs:s.recs.length<=s.pos
 ends:s.ends.length<=s.pos
 used:s.used<=s.pos
 small: ∀r∈s.recs,r.length<=2000
theorem qjt (b:List UInt8):rds0.Ok b:=⟨jAi _,by decide,by simp[rds0],by simp[rds0],by simp[rds0],by simp[rds0,Rds.used],by simp[rds0]⟩
theorem qxe (l:List Nat) (x d:Nat):(l++ [x]).getLastD d=x:=by simp
theorem xe0 {b:List UInt8} {s:Rds} (h:cErr b s=none):be8 (fnv s.seed (je b s.pos))=q1b b s.pos∧qgr (je b s.pos) s.now.length=true:=by
 unfold cErr at h;split at h
 ·split at h
  ·exact⟨by assumption,by assumption⟩
  ·cases h
 ·cases h
theorem qcp {h:List UInt8} {n:Nat}:qgr h n=true↔(qdk h=1∨qdk h=2)∧numB h<=22∧n+numB h<=2000∧(qdk h=1->numB h=22)∧(qdk h=2->numB h=0->n=0)∧(h.drop (2+numB h)).all (λc=>c==0)=true:=by
 unfold qgr;simp only[jAf,jA1,jBa,jB6,decide_eq_true_eq,decide_eq_false_iff_not];constructor
 ·rintro⟨⟨⟨⟨⟨l,i⟩,e⟩,h4⟩,h5⟩,d⟩;exact⟨l,i,e,by omega,by omega,d⟩
 ·rintro⟨l,i,e,h4,h5,d⟩;exact⟨⟨⟨⟨⟨l,i⟩,e⟩,by omega⟩,by omega⟩,d⟩
theorem q7n {b:List UInt8} {s:Rds} (h:cErr b s=none):(cNow b s).length<=2000:=by
 obtain⟨_,h2⟩:=xe0 h;obtain⟨_,_,h3,_⟩:=qcp.1 h2;unfold cNow;rw[jAc,jAl];omega
theorem q7o {b:List UInt8} {s:Rds} (hs:s.Ok b) (h:s.pos+32<=b.length) (he:cErr b s=none):(qmt b s).Ok b:=by
 have hn:=q7n he;have e:=qqr hs.seed (je b s.pos);have h1:=hs.recs;have h2:=hs.ends;have h3:=hs.used;unfold qmt;split
 ·refine⟨h,e,by simp,by simp;omega,by simp;omega,by simp[Rds.used],λr d=> ?_⟩;rcases jAt.1 d with d|d
  ·exact hs.small r d
  ·simp at d;subst d;exact hn
 ·exact⟨h,e,hn,by simp only;omega,by simp only;omega,by simp only[Rds.used]at h3⊢;omega,hs.small⟩
theorem qgs {b:List UInt8} {s:Rds} (hs:s.Ok b):(qaa b s).1.Ok b:=by
 by_cases h:s.pos+32<=b.length
 ·cases he:cErr b s with
  |some e=>rw[qri h he];exact hs
  |none=>rw[qmu h he];exact qgs (q7o hs h he)
 ·rw[qh1 h];exact hs
termination_by b.length-s.pos
decreasing_by rw[q1c];omega
def wz:Nat->List (Nat×List UInt8) ->List UInt8
 | _,[]=> []
 |h,p::l=>jo p++be8 (fnv h (jo p))++wz (fnv h (jo p)) l
def qju:Nat->List (Nat×List UInt8) ->Nat
 |h,[]=>h
 |h,p::l=>qju (fnv h (jo p)) l
theorem xam (x:List UInt8) (h:Nat) (l:List (Nat×List UInt8)):v6 (x,h) l=(x++wz h l,qju h l):=by
 induction l generalizing x h with
 |nil=>simp[v6,wz,qju]
 |cons p l ih=>
  have:v6 (x,h) (p::l)=v6 (qfv (x,h) p) l:=rfl;rw[this,qfv,ih,wz,qju];simp only[jAj]
theorem qmv {h:Nat} {l:List (Nat×List UInt8)} (d: ∀p∈l,p.2.length<=22):(wz h l).length=32*l.length:=by
 induction l generalizing h with
 |nil=>simp[wz]
 |cons p l ih=>
  rw[wz,jAc,jAc,kw,qd4 (d p jA7),ih (λq hq=>d q (jA9 _ hq)),List.length_cons];omega
theorem xkw {h:Nat} (d:h<18446744073709551616) (l:List (Nat×List UInt8)):qju h l<18446744073709551616:=by
 induction l generalizing h with
 |nil=>exact d
 |cons p l ih=>exact ih (qqr d _)
theorem q1d {b rest:List UInt8} {s:Rds} {p:Nat×List UInt8} (hp:p.1=1∨p.1=2) (hl:p.2.length<=22) (h:b.drop s.pos=jo p++be8 (fnv s.seed (jo p))++rest):
  s.pos+32<=b.length∧je b s.pos=jo p∧q1b b s.pos=be8 (fnv s.seed (jo p)):=by
 have d:=qd4 hl;have e:=congrArg List.length h;simp only[jAq,jAc,d,kw]at e;refine⟨by omega,?_,?_⟩
 ·rw[je,h,jAj,<- d,jD5]
 ·rw[q1b,<- jCq,h,jAj,<- d,jDl,<- kw (fnv s.seed (jo p)),jD5]
theorem qrj {p:Nat×List UInt8} (hp:p.1=1∨p.1=2):qdk (jo p)=p.1:=by
 unfold qdk jo;rcases hp with h|h<;>rw[h]<;>rfl
theorem quj {p:Nat×List UInt8} (hl:p.2.length<=22):numB (jo p)=p.2.length:=by
 unfold numB jo;simp only[List.cons_append,List.nil_append,jD9,jEs,UInt8.toNat_ofNat'];omega
theorem q47 (p:Nat×List UInt8):((jo p).drop 2).take p.2.length=p.2:=by
 unfold jo;simp only[List.cons_append,List.nil_append,jCs,List.drop_zero,jD5]
theorem xan (p:Nat×List UInt8):((jo p).drop (2+p.2.length)).all (λc=>c==0)=true:=by
 rw[<- jCq];unfold jo;simp only[List.cons_append,List.nil_append,jCs,List.drop_zero,jDl];simp
theorem qrk {b rest:List UInt8} {s:Rds} {p:Nat×List UInt8} (hp:p.1=1∨p.1=2) (d:p.2.length<=22) (e:p.1=1->p.2.length=22) (h0:p.1=2->p.2.length=0->s.now.length=0) (hn:s.now.length+p.2.length<=2000)
  (hb:b.drop s.pos=jo p++be8 (fnv s.seed (jo p))++rest):
  qaa b s=qaa b (if p.1=2 then⟨s.pos+32,fnv s.seed (jo p),[],s.recs++ [s.now++p.2],s.ends++ [s.pos+32]⟩else⟨s.pos+32,fnv s.seed (jo p),s.now++p.2,s.recs,s.ends⟩):=by
 obtain⟨h1,h,h3⟩:=q1d hp d hb;have he:cErr b s=none:=by
  unfold cErr;rw[h,h3,if_pos rfl,if_pos];refine qcp.2 ?_;rw[qrj hp,quj d];exact⟨hp,d,hn,e,h0,xan p⟩
 rw[qmu h1 he];unfold qmt cNow;rw[h,qrj hp,quj d,q47]
theorem q7p: ∀(n:Nat) {r b rest:List UInt8} {s:Rds},r.length<=n->(s.now.length=0∨0<r.length) ->s.now.length+r.length<=2000->b.drop s.pos=wz s.seed (partsOf r)++rest->
  qaa b s=qaa b ⟨s.pos+32*(partsOf r).length,qju s.seed (partsOf r),[],s.recs++ [s.now++r],s.ends++ [s.pos+32*(partsOf r).length]⟩
 |n,r,b,rest,s,hr,h0,hn,hb=>by
  by_cases h:r.length>22
  ·have l:(r.take 22).length=22:=by rw[jAl];omega
   rw[yn h]at hb⊢;rw[wz,jAj]at hb;have hc:=qrk (p:=(1,r.take 22)) (s:=s) (b:=b) (.inl rfl) (by simp only;omega) (λ_=>l) (λh=>by cases h) (by simp only;omega) hb;rw[hc];simp only[show¬(1:Nat)=2 by decide,if_false];cases n with
   |zero=>omega
   |succ n=>
    have hd:=(q1d (p:=(1,r.take 22)) (.inl rfl) (by simp only;omega) hb).1;have d:b.drop (s.pos+32)=wz (fnv s.seed (jo (1,r.take 22))) (partsOf (r.drop 22))++rest:=by
     have i:=qd4 (p:=(1,r.take 22)) (by simp only;omega);rw[<- jCq,hb];exact jFb (by rw[jAc,i,kw])
    have ih:=q7p n (r:=r.drop 22) (b:=b) (rest:=rest) (s:=⟨s.pos+32,fnv s.seed (jo (1,r.take 22)),s.now++r.take 22,s.recs,s.ends⟩) (by rw[jAq];omega) (.inr (by rw[jAq];omega))
     (by simp only[jAc,jAq,l];omega) (by simp only;exact d)
    rw[ih];simp only[jAj,jB5,List.length_cons,qju];have e:s.pos+32+32*(partsOf (r.drop 22)).length=s.pos+32*((partsOf (r.drop 22)).length+1):=by omega
    rw[e]
  ·rw[yo h]at hb⊢;rw[wz,jAj]at hb;have hc:=qrk (p:=(2,r)) (s:=s) (b:=b) (.inr rfl) (by simp only;omega) (λh=>by cases h) (λ_ h1=>by simp only at h1;omega) hn hb;rw[hc];simp only[if_true,jBo,qju,jCo]
theorem xe1: ∀(n:Nat) {r b:List UInt8} {m:Nat} {s:Rds},r.length<=n->(s.now.length=0∨0<r.length) ->s.now.length+r.length<=2000->b.drop s.pos=(wz s.seed (partsOf r)).take m->s.pos<=b.length->m<(wz s.seed (partsOf r)).length->
  (qaa b s).1.recs=s.recs∧(qaa b s).1.ends=s.ends∧((qaa b s).2=0∨(qaa b s).2=4)
 |n,r,b,m,s,hr,h0,hn,hb,hpos,hm=>by
  have i:=qbk _ r (jAh _);have e:=congrArg List.length hb;rw[jAq,jAl,jDy (Nat.le_of_lt hm)]at e;rw[qmv (λp hp=>(i p hp).2)]at hm;by_cases h32:m<32
  ·rw[qh1 (by omega)];exact⟨rfl,rfl,by simp only;split<;>simp⟩
  ·by_cases h:r.length>22
   ·have q:(r.take 22).length=22:=by rw[jAl];omega
    rw[yn h]at hb hm;rw[wz]at hb;have o:=qd4 (p:=(1,r.take 22)) (by simp only;omega);have t:(jo (1,r.take 22)++be8 (fnv s.seed (jo (1,r.take 22)))).length=32:=by rw[jAc,o,kw]
    rw[jE2,jAr (by omega),t]at hb;have hc:=qrk (p:=(1,r.take 22)) (s:=s) (b:=b) (.inl rfl) (by simp only;omega) (λ_=>q) (λh=>by cases h) (by simp only;omega) hb;rw[hc];simp only[show¬(1:Nat)=2 by decide,if_false];cases n with
    |zero=>omega
    |succ n=>
     have l:b.drop (s.pos+32)=(wz (fnv s.seed (jo (1,r.take 22))) (partsOf (r.drop 22))).take (m-32):=by
      rw[<- jCq,hb];exact jFb t
     have d:=qbk _ (r.drop 22) (jAh _);exact xe1 n (r:=r.drop 22) (b:=b) (m:=m-32) (s:=⟨s.pos+32,fnv s.seed (jo (1,r.take 22)),s.now++r.take 22,s.recs,s.ends⟩) (by rw[jAq];omega) (.inr (by rw[jAq];omega))
      (by simp only[jAc,jAq,q];omega) (by simp only;exact l) (by simp only;omega) (by rw[qmv (λp hp=>(d p hp).2)];rw[List.length_cons]at hm;omega)
   ·rw[yo h]at hm;simp at hm;omega
theorem xe2 {h:Nat} (hh:h<18446744073709551616):qoa (be8 h)=h:=by
 have e: ∀x:Nat,(UInt8.ofNat x).toNat=x%256:=λx=>UInt8.toNat_ofNat';simp only[qoa,be8,List.foldl_cons,List.foldl_nil,num1,e];have p0:(256:Nat)^0=1:=rfl;have p1:(256:Nat)^1=256:=rfl;have p2:(256:Nat)^2=65536:=rfl;have p3:(256:Nat)^3=16777216:=rfl;have p4:(256:Nat)^4=4294967296:=rfl;have p5:(256:Nat)^5=1099511627776:=rfl;have p6:(256:Nat)^6=281474976710656:=rfl;have p7:(256:Nat)^7=72057594037927936:=rfl;rw[p0,p1,p2,p3,p4,p5,p6,p7];omega
theorem qrl: ∀(l:List (Nat×List UInt8)) {h:Nat},l≠ [] -> ∃q,wz h l=q++be8 (qju h l)
 | [],_,hn=>(hn rfl).elim
 | [p],h,_=>⟨jo p,by simp[wz,qju]⟩
 |p::p'::l,h,_=>by
  obtain⟨q,hq⟩:=qrl (p'::l) (h:=fnv h (jo p)) (by simp);refine⟨jo p++be8 (fnv h (jo p))++q,?_⟩;have e:qju h (p::p'::l)=qju (fnv h (jo p)) (p'::l):=by rw[qju]
  rw[wz,hq,e,<- jAj]
theorem q7q (r:List UInt8):partsOf r≠ []:=by
 by_cases h:r.length>22
 ·rw[yn h];simp
 ·rw[yo h];simp
theorem qik (f r:List UInt8):yu f r=f++wz (qbu f) (partsOf r):=by rw[yu,xam]
theorem q1e (f r:List UInt8):qbu (yu f r)=qju (qbu f) (partsOf r):=by
 obtain⟨q,hq⟩:=qrl (partsOf r) (h:=qbu f) (q7q r);have hh:=xkw (q6z f) (partsOf r);rw[qik,hq,qbu,if_neg (by simp[kw];omega)];have e:(f++(q++be8 (qju (qbu f) (partsOf r)))).length-8=(f++q).length:=by simp only[jAc,kw];omega
 rw[e,<- jAj,jDl,xe2 hh]
def zp (rs:List (List UInt8)):List UInt8:=rs.foldl yu []
theorem yx (rs:List (List UInt8)) (r:List UInt8):zp (rs++ [r])=zp rs++wz (qbu (zp rs)) (partsOf r):=by
 have:zp (rs++ [r])=yu (zp rs) r:=by unfold zp;rw[jCm,List.foldl_cons,List.foldl_nil]
 rw[this,qik]
theorem quk (rs:List (List UInt8)) (r:List UInt8):zp (rs++ [r])=yu (zp rs) r:=by rw[yx,qik]
theorem qlh (f r:List UInt8):(wz (qbu f) (partsOf r)).length=32*(partsOf r).length:=qmv λp hp=>(qbk _ r (jAh _) p hp).2
theorem xe3 (f r:List UInt8):0<(wz (qbu f) (partsOf r)).length:=by
 rw[qlh];have:=jCl.2 (q7q r);omega
theorem qli {α:Type} {P:List α->Prop} (e:P []) (d: ∀l x,P l->P (l++ [x])): ∀(n:Nat) (l:List α),l.length=n->P l
 |0,l,h=>by cases l with
  |nil=>exact e
  |cons a l=>simp at h
 |n+1,l,h=>by
  rcases jFa l with rfl|⟨t,c,rfl⟩
  ·simp at h
  ·rw[jFd]at h⊢;exact d _ _ (qli e d n t (by simpa using h))
structure Behind (rs:List (List UInt8)) (s:Rds):Prop where
 pos:s.pos=(zp rs).length
 seed:s.seed=qbu (zp rs)
 now:s.now= []
 recs:s.recs=rs
 used:s.used=(zp rs).length
theorem q1f (rs:List (List UInt8)): ∀(b rest:List UInt8),(∀r∈rs,r.length<=2000) ->b=zp rs++rest-> ∃s,Behind rs s∧qaa b rds0=qaa b s:=by
 refine qli (P:=λrs=> ∀(b rest:List UInt8),(∀r∈rs,r.length<=2000) ->b=zp rs++rest-> ∃s,Behind rs s∧qaa b rds0=qaa b s) ?_ ?_ _ rs rfl
 ·intro b rest _ _;exact⟨rds0,⟨rfl,rfl,rfl,rfl,rfl⟩,rfl⟩
 ·intro rs r ih b rest e d;rw[yx,jAj]at d;obtain⟨s,⟨b1,b2,b3,b4,b5⟩,hs⟩:=ih b _ (λx hx=>e x (jBb _ hx)) d;have hd:b.drop s.pos=wz s.seed (partsOf r)++rest:=by rw[b1,b2,d,jDl]
  have:=q7p _ (r:=r) (b:=b) (s:=s) (jAh _) (.inl (by rw[b3];rfl)) (by rw[b3];have:=e r (by simp);simpa using this) hd;refine⟨_,?_,hs.trans this⟩;refine⟨?_,?_,rfl,?_,?_⟩
  ·rw[yx,jAc,qlh,b1]
  ·rw[quk,q1e,b2]
  ·rw[b4,b3,List.nil_append]
  ·rw[Rds.used,qxe,yx,jAc,qlh,b1]
theorem qi9 (rs:List (List UInt8)): ∀i j:Nat,i<=j->(zp (rs.take i)).length<=(zp (rs.take j)).length:=by
 intro i j hij;induction j with
 |zero=>
  have:i=0:=by omega
  subst this;exact jAh _
 |succ j ih=>
  by_cases h:i<=j
  ·refine jBj (ih h) ?_;by_cases hj:j<rs.length
   ·rw[jAk hj,yx,jAc];omega
   ·rw[jAr (by omega),jAr (by omega)];omega
  ·have:i=j+1:=by omega
   subst this;exact jAh _
theorem xao (rs:List (List UInt8)): ∀i:Nat,i<=rs.length->(zp rs).take (zp (rs.take i)).length=zp (rs.take i):=by
 refine qli (P:=λrs=> ∀i:Nat,i<=rs.length->(zp rs).take (zp (rs.take i)).length=zp (rs.take i)) ?_ ?_ _ rs rfl
 ·intro i hi;simp at hi;subst hi;rfl
 ·intro rs r ih i hi;by_cases h:i<=rs.length
  ·have d:=qi9 rs i rs.length h;rw[jAs]at d;rw[jBq h,yx,jBq d,ih i h]
  ·have:i=(rs++ [r]).length:=by simp at hi⊢;omega
   subst this;rw[jAs,jAs]
structure ReadOf (rs:List (List UInt8)) (k j:Nat) (x:Rds×Int):Prop where
 le:j<=rs.length
 recs:x.1.recs=rs.take j
 used:x.1.used=(zp (rs.take j)).length
 fit:(zp (rs.take j)).length<=k
 all: ∀i,i<=rs.length->(zp (rs.take i)).length<=k->i<=j
theorem xap (rs:List (List UInt8)): ∀k:Nat,(∀r∈rs,r.length<=2000) -> ∃j,ReadOf rs k j (qaa ((zp rs).take k) rds0):=by
 refine qli (P:=λrs=> ∀k:Nat,(∀r∈rs,r.length<=2000) -> ∃j,ReadOf rs k j (qaa ((zp rs).take k) rds0)) ?_ ?_ _ rs rfl
 ·intro k _;refine⟨0,?_⟩;have q:(zp []).take k= []:=by simp[zp]
  rw[q,qh1 (by simp[rds0])];exact⟨jAh _,rfl,rfl,jAi _,λi hi _=>by simpa using hi⟩
 ·intro rs r ih k p;have l: ∀x∈rs,x.length<=2000:=λx hx=>p x (jBb _ hx);have o:r.length<=2000:=p r (by simp);have hln:(zp (rs++ [r])).length=(zp rs).length+(wz (qbu (zp rs)) (partsOf r)).length:=by rw[yx,jAc]
  have hps:=xe3 (zp rs) r;by_cases t:(zp (rs++ [r])).length<=k
  ·rw[jAr t];obtain⟨s,⟨b1,b2,b3,b4,b5⟩,hs⟩:=q1f (rs++ [r]) (zp (rs++ [r])) [] p (by simp);rw[hs,qh1 (by rw[b1];omega)];refine⟨(rs++ [r]).length,⟨jAh _,by rw[jAs];exact b4,by rw[jAs];exact b5,by rw[jAs];exact t,λi hi _=>hi⟩⟩
  ·have d: ∀i,i<=(rs++ [r]).length->(zp ((rs++ [r]).take i)).length<=k->i<=rs.length:=by
    intro i hi e;rcases jB9 rs.length i with h|h
    ·have:i=(rs++ [r]).length:=by simp at hi⊢;omega
     rw[this,jAs]at e;exact(t e).elim
    ·exact h
   have htk: ∀i,i<=rs.length->(rs++ [r]).take i=rs.take i:=λi hi=>jBq hi;by_cases h2:k<=(zp rs).length
   ·rw[yx,jBq h2];obtain⟨j,m,j2,j3,j4,j5⟩:=ih k l;refine⟨j,⟨by simp;omega,by rw[htk j m];exact j2,by rw[htk j m];exact j3,by rw[htk j m];exact j4,λi hi e=> ?_⟩⟩;have:=d i hi e;rw[htk i this]at e;exact j5 i this e
   ·have q:(zp (rs++ [r])).take k=zp rs++(wz (qbu (zp rs)) (partsOf r)).take (k-(zp rs).length):=by
     rw[yx,jE2,jAr (by omega)]
    rw[q];obtain⟨s,⟨b1,b2,b3,b4,b5⟩,hs⟩:=q1f rs (zp rs++(wz (qbu (zp rs)) (partsOf r)).take (k-(zp rs).length)) _ l rfl;have hd:(zp rs++(wz (qbu (zp rs)) (partsOf r)).take (k-(zp rs).length)).drop s.pos=(wz s.seed (partsOf r)).take (k-(zp rs).length):=by rw[b1,b2,jDl]
    obtain⟨c1,c2,c3⟩:=xe1 _ (r:=r) (s:=s) (jAh _) (.inl (by rw[b3];rfl)) (by rw[b3];simpa using o) hd (by rw[b1,jAc];omega) (by rw[b2];omega);rw[hs];refine⟨rs.length,⟨by simp,?_,?_,?_,d⟩⟩
    ·rw[c1,b4,htk _ (jAh _),jAs]
    ·rw[Rds.used,c2,htk _ (jAh _),jAs];exact b5
    ·rw[htk _ (jAh _),jAs];omega
def d339:=cut prog f339 news
@[go_sem] def E339:=qm d339
def F339:=fnC d339 follows func339
def d342:=cut prog f342 news
@[go_sem] def E342:=qm d342
def F342:=fnC d342 follows func342
def d338:=cut prog f338 news
@[go_sem] def E338:=qm d338
def F338:=fnC d338 follows func338
def d328:=cut prog f328 news
@[go_sem] def E328:=qm d328
def F328:=fnC d328 follows func328
def d190:=cut prog f190 news
@[go_sem] def E190:=qm d190
def F190:=fnC d190 follows func190
def d290:=cut prog f290 news
@[go_sem] def E290:=qm d290
def F290:=fnC d290 follows func290
theorem xaq (c:UInt8):qh prog 339 [.d (.int .u8 (c.toNat:Nat))] [] (.d (.bool (!(c==0)))) []:=by
 have e:(((c.toNat:Nat):Int) !=0)= !(c==0):=by
  show(!(((c.toNat:Nat):Int)==0))= !(c==0);congr 1;rw[jBm];simp only[beq_iff_eq];constructor
  ·intro h;apply UInt8.toNat_inj.1;show c.toNat=0;omega
  ·rintro rfl;rfl
 refine F339.go ?_;exact et1 @e
def xkx (k:FuncId) (l:List UInt8) (f:UInt8->Bool) (i:{i:Nat//(l.take i).any f=false}):St:=
 ⟨[(0,true,.d (.sl 1 (qe l))),(1,true,.d (.func (.func k) [] [])),(7,true,.d (.int .i64 l.length)),(8,true,.d (.int .i64 (i.val:Nat)))],[],[],1⟩
theorem xe4 {k:FuncId} {f:UInt8->Bool} (hb:(prog.funcs[k]?).any (λfn=>fn.body.isSome&& !(fn.name== "runtime.NumGoroutine"))=true)
  (hf: ∀v:UInt8,qh prog k [.d (.int .u8 (v.toNat:Nat))] [] (.d (.bool (f v))) []) (l:List UInt8) (hl:l.length<=maxLen):
  qh prog 342 [.d (.sl 1 (qe l)),.d (.func (.func k) [] [])] [] (.d (.int .i64 (idx f l))) []:=by
 refine F342.go ?_;refine ez ?_;refine qk (xkx k l f) (λi=>l.length-i.val) ⟨0,rfl⟩ ?_ (λi=> ?_)
 ·exact et1 @xkx.eq_1
 obtain⟨i,hi⟩:=i;refine eo1 @xkx.eq_1 ?_;refine xp _ (λh=> ?_) (λh=> ?_)
 ·have e:i<l.length:=by simpa using h
  refine eo1 (jm l e) ?_;refine xz (hf l[i]) hb (λh=>h) (λ_=>⟨qd,trivial⟩) rfl rfl rfl ?_;refine eo ?_;refine xp _ (λh=> ?_) (λh=> ?_)
  ·exact et1 (qe3 hi e h)
  ·refine ez ?_;refine⟨⟨i+1,vl hi e (by simpa using h)⟩,?_,by dsimp only;omega⟩;exact et2 @xkx.eq_1 (qg (show i<9223372036854775807 by unfold maxLen at hl;omega))
 ·have e:l.length<=i:=by simpa using h
  exact et1 (qe2 hi e)
theorem q1g {k:FuncId} {f:UInt8->Bool} (hb:(prog.funcs[k]?).any (λfn=>fn.body.isSome&& !(fn.name== "runtime.NumGoroutine"))=true)
  (hf: ∀v:UInt8,qh prog k [.d (.int .u8 (v.toNat:Nat))] [] (.d (.bool (f v))) []) (l:List UInt8) (hl:l.length<=maxLen):
  qh prog 338 [.d (.sl 1 (qe l)),.d (.func (.func k) [] [])] [] (.d (.bool (l.any f))) []:=by
 refine F338.go ?_;refine eo ?_;refine cl F342 (xe4 hb hf l hl) ?_;exact et1 @qty
theorem q1h:(prog.funcs[339]?).any (λfn=>fn.body.isSome&& !(fn.name== "runtime.NumGoroutine"))=true:=F339.body
theorem xe5 {h:List UInt8} (hl:0<h.length):qdk h=h[0].toNat:=by simp[qdk,jA0,hl]
theorem xng {h:List UInt8} (hl:1<h.length):numB h=h[1].toNat:=by simp[numB,jA0,hl]
theorem xsr (l:List UInt8):l.any (λc=> !(c==0))= !l.all (λc=>c==0):=by induction l<;>simp_all
theorem q1i (h:List UInt8) (n:Nat) (hl:h.length=24) (hn:n<=100000):qh prog 328 [.d (.sl 1 (qe h)),.d (.int .i64 n)] [] (.d (.bool (qgr h n))) []:=by
 have z:0<h.length:=by omega
 have v:1<h.length:=by omega
 have u:=xe5 z;have t:=xng v;have l0:=qfh h[0];have l1:=qfh h[1];refine F328.go ?_;refine ez3 (jm h z) (jm h v) (x9 (n:=(h[1].toNat:Int)) (by unfold I64;omega)) ?_;rw[<- u,<- t];rw[<- u]at l0;rw[<- t]at l1
 (repeat(with_reducible refine ob ?_))
 generalize i:qdk h=k at*;generalize e:numB h=m at*;have w1:IntKind.i64.wrap ((n:Int)+(m:Int))=((n+m:Nat):Int):=by rw[x9 (by unfold I64;omega)];omega
 have w2:IntKind.i64.wrap (2+(m:Int))=((2+m:Nat):Int):=by rw[x9 (by unfold I64;omega)];omega
 refine ez2 @w1 @w2 ?_;refine xp _ (λhc=> ?_) (λhc=> ?_)
 ·have hb:qgr h n=false:=by
   rw[Bool.eq_false_iff];intro hp;obtain⟨F,E,C,q,p,a6⟩:=qcp.1 hp;rw[i]at F;rw[e]at E C;simp only[jA1,jAf,decide_eq_true_eq,bne_iff_ne]at hc;omega
  exact et1 @hb
 have l:(k=1∨k=2)∧m<=22∧n+m<=2000:=by
  simp only[jA4,jB6,decide_eq_false_iff_not,bne_eq_false_iff_eq]at hc;omega
 refine eo ?_;refine xp _ (λo=> ?_) (λo=> ?_)
 ·have hb:qgr h n=false:=by
   rw[Bool.eq_false_iff];intro hp;obtain⟨F,E,C,q,p,a6⟩:=qcp.1 hp;rw[i]at q p;rw[e]at q p;simp only[jA1,jAf,decide_eq_true_eq,bne_iff_ne,beq_iff_eq]at o;omega
  exact et1 @hb
 have hb:qgr h n=(h.drop (2+m)).all (λc=>c==0):=by
  rw[jBm,qcp,i,e];simp only[jA4,jB6,decide_eq_false_iff_not,bne_eq_false_iff_eq,beq_eq_false_iff_ne]at o;exact⟨λx=>x.2.2.2.2.2,λx=>⟨l.1,l.2.1,l.2.2,by omega,by omega,x⟩⟩
 have hx:((qe h).drop (2+m)).take (h.length-(2+m))=qe (h.drop (2+m)):=by rw[vm,zy,jAr (by rw[jAq];omega)]
 have e2:(2+(m:Int)).toNat=2+m:=by omega
 refine ez3 @w2 @e2 @hx ?_;refine⟨by omega,?_⟩
 (repeat(with_reducible refine ob ?_));refine cl F338 (q1g q1h xaq (h.drop (2+m)) (by rw[jAq];unfold maxLen;omega)) ?_
 exact et2 @xsr @hb
theorem xe6 (a b:List UInt8):qh prog 190 [.d (.ref 0 0 1 a.length),.d (.sl 1 (qe b))] [.row ((a.map jv).map .d)] (.d (.bool (a==b))) [.row ((a.map jv).map .d)]:=by
 refine F190.go ?_;refine ez ?_;rw[jCo,qic (s:=a) rfl rfl,jAr (by simp)];exact⟨⟨⟨jAh _,qjm a⟩,a,rfl⟩,by rw[qi8]⟩
def qab (l:List Nat):List (List D):=l.map λn=> [.int .i64 (n:Nat)]
theorem xe7 (l:List Nat) (hl:l.length<=1000000000):qh prog 290 [.d (.sl 1 (qab l))] [] (.d (.int .i64 (l.getLastD 0:Nat))) []:=by
 refine F290.go ?_;refine ez ?_;have e:(qab l).length=l.length:=by simp[qab]
 refine xp _ (λhc=> ?_) (λhc=> ?_)
 ·have:l= []:=by simpa[e]using hc
  subst this;exact et2 @List.getLastD_nil.{0} @jAp
 ·have hne:0<l.length:=by simp only[e,beq_eq_false_iff_ne]at hc;omega
  have e1:IntKind.i64.wrap (((qab l).length:Int) -1)=((l.length-1:Nat):Int):=by rw[e,x9 (by unfold I64;omega)];omega
  have e2:(qab l).getD (l.length-1) []= [.int .i64 (l.getLastD 0:Nat)]:=by
   rw[qab,qj (λn:Nat=> [D.int .i64 (n:Int)]) l (by omega) [],List.getLastD_eq_getLast?,List.getLast?_eq_getElem?,jAa (by omega)];rfl
  refine ez3 @e1 @jA6 @e2 ?_;rw[e];omega
end Go.Proofs.YtkcdbcbpbolgkaaGreatDoor
