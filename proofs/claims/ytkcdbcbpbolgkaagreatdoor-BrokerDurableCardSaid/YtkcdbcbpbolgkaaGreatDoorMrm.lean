/- Texts Ca, Wa, Cb, Wb, Wc, Cc, Cd, Ce, Cf. -/
import Derived.Test.YtkcdbcbpbolgkaaGreatDoorMrl
import Derived.Test.YtkcdbcbpbolgkaaGreatDoorProg
import Derived.KernelRfl
set_option linter.unusedSimpArgs false
set_option linter.unusedVariables false
set_option linter.defProp false
set_option maxRecDepth 100000
noncomputable section
namespace Go.Proofs.YtkcdbcbpbolgkaaGreatDoor
open Tryz
open Go.Abs
def news:List (FuncId×Nat):= [(141,5),(160,1),(177,1),(28,2),(105,2),(29,1),(86,1),(359,2),(64,1),(45,5),(139,1),(102,1),(71,1),(72,1),(73,1),(21,1),(41,1),(14,1),(47,5),(13,5)]
theorem follows:prog.follows .mixedOrders=true:=by kernel_rfl
structure AV where
 kind:Int
 n:Int
 s:List UInt8
 deriving DecidableEq,Inhabited
def xw (v:AV):List D:= [.int .i64 v.kind,.int .i64 v.n,.str v.s]
theorem yt (v:AV):D.noPtrL (xw v)=true:=rfl
def encI (n:Int):List D:= [.int .i64 n]
theorem qcm (n:Int):D.noPtrL (encI n)=true:=rfl
structure Pk where
 kind:Int
 sess:Int
 epoch:Int
 from_:Int
 to:Int
 seq:Int
 label:Int
 values:List AV
 clock:List Int
 deriving DecidableEq,Inhabited
def qf (p:Pk):List D:= [.int .i64 p.kind,.int .i64 p.sess,.int .i64 p.epoch,.int .i64 p.from_,.int .i64 p.to,.int .i64 p.seq,.int .i64 p.label,.sl 3 (p.values.map xw),.sl 1 (p.clock.map encI)]
theorem qgg (p:Pk):D.noPtrL (qf p)=true:=by
 simp only[qf,D.noPtrL,D.noPtr,x7 yt,x7 qcm,jBu]
theorem xdl (l:List AV):D.noPtrR (l.map xw)=true:=x7 yt l
theorem xjk (l:List Int):D.noPtrR (l.map encI)=true:=x7 qcm l
theorem xdm (l:List Pk):D.noPtrR (l.map qf)=true:=x7 qgg l
attribute [go_sem] yt qcm qgg xdl xjk xdm
def d219:=cut prog f219 news
@[go_sem] def E219:=qm d219
def F219:=fnC d219 follows func219
def d215:=cut prog f215 news
@[go_sem] def E215:=qm d215
def F215:=fnC d215 follows func215
def d212:=cut prog f212 news
@[go_sem] def E212:=qm d212
def F212:=fnC d212 follows func212
def d218:=cut prog f218 news
@[go_sem] def E218:=qm d218
def F218:=fnC d218 follows func218
def d136:=cut prog f136 news
@[go_sem] def E136:=qm d136
def F136:=fnC d136 follows func136
def d137:=cut prog f137 news
@[go_sem] def E137:=qm d137
def F137:=fnC d137 follows func137
def d214:=cut prog f214 news
@[go_sem] def E214:=qm d214
def F214:=fnC d214 follows func214
def d217:=cut prog f217 news
@[go_sem] def E217:=qm d217
def F217:=fnC d217 follows func217
def role (n:Int):Bool:=decide (n≥0)&&decide (n<6)
theorem q4d (n:Int):qh prog 219 [.d (.int .i64 n)] [] (.d (.bool (role n))) []:=by
 first|refine F219.go ?_|refine F219.goT ?_
 refine ez ?_;rfl
def qbd (v:AV):Bool:=if v.kind==1 then v.s== []else if v.kind==2 then v.n==0&&decide ((v.s.length:Int)<=40)else false
theorem xdn (v:AV):qh prog 215 [.d (.agg (xw v))] [] (.d (.bool (qbd v))) []:=by
 first|refine F215.go ?_|refine F215.goT ?_
 refine ez1 @xw.eq_1 ?_;refine qy _ rfl rfl (λh=> ?_) (λh=> ?_)
 ·exact et2 @qbd.eq_1 @h
 ·refine ez ?_;refine qy _ rfl rfl (λh2=> ?_) (λh2=> ?_)
  ·exact et3 @qbd.eq_1 @h @h2
  ·exact et3 @qbd.eq_1 @h @h2
def qdp (p:Pk):Bool:=role p.from_&&role p.to&&p.from_ !=p.to&&decide (p.seq≥1)&&decide (p.seq<=1099511627776)
theorem qqo (p:Pk):qh prog 212 [.d (.agg (qf p))] [] (.d (.bool (qdp p))) []:=by
 first|refine F212.go ?_|refine F212.goT ?_
 refine ez1 @qf.eq_1 ?_;refine xz (q4d _) F219.body (λh=>h) (λ_=>⟨qd,trivial⟩) rfl rfl rfl ?_;refine ez ?_;refine xz (q4d _) F219.body (λh=>h) (λ_=>⟨qd,trivial⟩) rfl rfl rfl ?_;refine ez ?_;rfl
def bare (p:Pk):Bool:=p.epoch==0&&(p.values.length:Int)==0&&(p.clock.length:Int)==0
theorem xdo (p:Pk):qh prog 218 [.d (.agg (qf p))] [] (.d (.bool (bare p))) []:=by
 first|refine F218.go ?_|refine F218.goT ?_
 refine ez1 @qf.eq_1 ?_;rfl
theorem qe1 (p:Pk):([ASlot.d (.agg (qf p))].all ASlot.noPtr)=true:=by
 simp only[jCy,List.all_nil,ASlot.noPtr,D.noPtr,qgg,jBu]
def ack (p:Pk):Bool:=qdp p&&bare p&&p.label==0
theorem xru (p:Pk):qh prog 136 [.d (.agg (qf p))] [] (.d (.bool (ack p))) []:=by
 first|refine F136.go ?_|refine F136.goT ?_
 refine ez1 @qf.eq_1 ?_;refine xz (qqo p) F212.body (λh=>h) (λ_=>⟨qd,trivial⟩) (qe1 p) rfl rfl ?_;refine ez ?_;refine xz (xdo p) F218.body (λh=>h) (λ_=>⟨qd,trivial⟩) (qe1 p) rfl rfl ?_;refine ez ?_;rfl
def order (p:Pk):Bool:=role p.from_&&(p.label==1||p.label==2)&&bare p&&p.to==0&&p.seq==0
theorem q6u (p:Pk):qh prog 137 [.d (.agg (qf p))] [] (.d (.bool (order p))) []:=by
 first|refine F137.go ?_|refine F137.goT ?_
 refine ez1 @qf.eq_1 ?_;refine xz (q4d _) F219.body (λh=>h) (λ_=>⟨qd,trivial⟩) rfl rfl rfl ?_;refine ez ?_;refine⟨by simp_all,?_⟩;refine xz (xdo p) F218.body (λh=>h) (λ_=>⟨qd,trivial⟩) (qe1 p) rfl rfl ?_;refine ez ?_;rfl
theorem xjl (v:AV):qh prog 214 [.d (.agg (xw v))] [] (.d (.bool (!qbd v))) []:=by
 first|refine F214.go ?_|refine F214.goT ?_
 refine ez1 @xw.eq_1 ?_;refine xz (xdn v) F215.body (λh=>h) (λ_=>⟨qd,trivial⟩) rfl rfl rfl ?_;exact et
theorem xjm (n:Int):qh prog 217 [.d (.int .i64 n)] [] (.d (.bool (decide (n<0)||decide (n>1099511627776)))) []:=by
 first|refine F217.go ?_|refine F217.goT ?_
 refine ez ?_;intro h;rw[h];rfl
theorem vt (s:List UInt8):D.noPtrR (qe s)=true:=x7 (λ_=>rfl) s
theorem zc (s t:List UInt8):qe s++qe t=qe (s++t):=by simp[qe]
theorem qbo (c:UInt8): [[D.int .u8 (c.toNat:Int)]]=qe [c]:=rfl
theorem js (s:List UInt8):(qe s).length=s.length:=by simp[qe]
theorem xa:qe []= []:=rfl
attribute [go_sem] vt js
attribute [go_sem] xa
def qdj (u:Nat):List UInt8:=if u<128 then [UInt8.ofNat u]else UInt8.ofNat (u%128+128)::qdj (u/128)
def zz (n:Int):Nat:=if 0<=n then(2*n).toNat else(-2*n-1).toNat
def wInt (n:Int):List UInt8:=qdj (zz n)
def I64 (n:Int):Prop:= -9223372036854775808<=n∧n<=9223372036854775807
theorem ql9: ∀(k u:Nat),u<128^(k+1) ->(qdj u).length<=k+1
 |0,u,h=>by rw[qdj,if_pos (by simpa using h)];simp
 |k+1,u,h=>by
  rw[qdj];split
  ·simp
  ·have:=ql9 k (u/128) (by rw[Nat.div_lt_iff_lt_mul (by decide)];rw[jCi]at h;exact h);simp;omega
theorem xjn {n:Int} (h:I64 n):zz n<18446744073709551616:=by
 obtain⟨h1,h2⟩:=h;unfold zz;split<;>omega
theorem xu {n:Int} (h:I64 n):(wInt n).length<=10:=ql9 9 _ (jBw (xjn h) (by decide))
theorem xjo (n:Int):0<(wInt n).length:=by unfold wInt;rw[qdj];split<;>simp
theorem qqp (n:Int):IntKind.u8.wrap n=n%256:=by simp[IntKind.wrap,IntKind.bits,IntKind.signed]
theorem qi7 (a:Nat) (h:a<2^64):((BitVec.ofInt 64 (a:Int))^^^(BitVec.ofInt 64 18446744073709551615)).toNat=18446744073709551615-a:=by
 have e1:BitVec.ofInt 64 18446744073709551615=BitVec.allOnes 64:=by decide
 have e2:BitVec.ofInt 64 (a:Int)=BitVec.ofNat 64 a:=by simp
 rw[e1,e2,BitVec.xor_allOnes,BitVec.toNat_not,BitVec.toNat_ofNat,jBy h]
theorem xuc {n:Int} (h:I64 n):IntKind.u64.wrap (qym 64 (IntKind.u64.wrap (IntKind.u64.wrap n*2^min 1 64)) (IntKind.u64.wrap (n.fdiv (2^min 63 64))))=(zz n:Int):=by
 unfold qym;obtain⟨h1,h2⟩:=h;have hf:n.fdiv (2^min 63 64)=if 0<=n then 0 else-1:=by
  show n.fdiv 9223372036854775808=_;rw[jDe _ (by decide)];split<;>omega
 have d: ∀m:Int,IntKind.u64.wrap m=m%18446744073709551616:=λm=>by simp[IntKind.wrap,IntKind.bits,IntKind.signed]
 have e:=xjn ⟨h1,h2⟩;have hp:(2:Int)^min 1 64=2:=rfl;rw[hf,hp];by_cases hn:0<=n
 ·rw[if_pos hn];have l:BitVec.ofInt 64 (IntKind.u64.wrap 0)=0#64:=by rw[d];rfl
  have i:IntKind.u64.wrap (IntKind.u64.wrap n*2)=((zz n:Nat):Int):=by rw[d,d];unfold zz;rw[if_pos hn];omega
  rw[l,i,BitVec.xor_zero,BitVec.ofInt_natCast,BitVec.toNat_ofNat,jBy e,d];omega
 ·rw[if_neg hn];have l:IntKind.u64.wrap (-1)=18446744073709551615:=by rw[d];rfl
  have i:IntKind.u64.wrap (IntKind.u64.wrap n*2)=((18446744073709551615-zz n:Nat):Int):=by rw[d,d];unfold zz at e⊢;rw[if_neg hn]at e⊢;omega
  rw[l,i,qi7 _ (by show _<18446744073709551616;omega),d];unfold zz at e⊢;rw[if_neg hn]at e⊢;omega
theorem xjp (u:Nat):(IntKind.u8.wrap (bvOr 8 (IntKind.u8.wrap (u:Int)) 128))=((UInt8.ofNat (u%128+128)).toNat:Int):=by
 unfold bvOr;have d: ∀m:Int,IntKind.u8.wrap m=m%256:=λm=>by simp[IntKind.wrap,IntKind.bits,IntKind.signed]
 have e1:BitVec.ofInt 8 (IntKind.u8.wrap (u:Int))=BitVec.ofNat 8 (u%256):=by rw[d,show((u:Int)%256)=((u%256:Nat):Int) by omega,BitVec.ofInt_natCast]
 have key: ∀x:Fin 256,(BitVec.ofNat 8 x.val|||BitVec.ofInt 8 128).toNat=x.val%128+128:=by decide+kernel
 have:=key ⟨u%256,jC3 _ (by decide)⟩;simp only at this;rw[e1,this,d];simp only[UInt8.toNat_ofNat'];omega
theorem qej {u:Nat} (h: ¬u<128):qdj u=UInt8.ofNat (u%128+128)::qdj (u/128):=by rw[qdj,if_neg h]
theorem qcn {u:Nat} (h:u<128):qdj u= [UInt8.ofNat u]:=by rw[qdj,if_pos h]
theorem xvm (u:Nat):(u:Int).fdiv (2^min 7 64)=((u/128:Nat):Int):=by
 show(u:Int).fdiv 128=_;rw[jDe _ (by decide)];omega
theorem qwq (u:Nat):IntKind.u8.wrap (u:Int)=((UInt8.ofNat u).toNat:Int):=by
 rw[qqp _,UInt8.toNat_ofNat'];omega
def d147:=cut prog f147 news
@[go_sem] def E147:=qm d147
def F147:=fnC d147 follows func147
def d156:=cut prog f156 news
@[go_sem] def E156:=qm d156
def F156:=fnC d156 follows func156
def d157:=cut prog f157 news
@[go_sem] def E157:=qm d157
def F157:=fnC d157 follows func157
def d155:=cut prog f155 news
@[go_sem] def E155:=qm d155
def F155:=fnC d155 follows func155
def xjq (b:List UInt8) (n:Int) (i:{i:List UInt8×Nat//i.1++qdj i.2=b++wInt n}):St:=
 ⟨[(0,true,.own 0 1 (qe i.val.1)),(5,true,.d (.int .u64 (i.val.2:Nat)))],[],[0],1⟩
theorem kg (b:List UInt8) (n:Int) (hb:b.length<=1000000000) (hn:I64 n):qh prog 147 [.own 0 1 (qe b),.d (.int .i64 n)] [] (.own 0 1 (qe (b++wInt n))) []:=by
 refine F147.go ?_;refine ez1 (xuc hn) ?_;refine qk (xjq b n) (λi=>i.val.2) ⟨(b,zz n),rfl⟩ ?_ (λi=> ?_)
 ·exact et1 @xjq.eq_1
 obtain⟨⟨p,u⟩,hi⟩:=i;have hl:p.length<=1000000010:=by
  have:=congrArg List.length hi;have:=xu hn;simp at*;omega
 refine eo1 @xjq.eq_1 ?_;refine xp _ (λh=> ?_) (λh=> ?_)
 ·have e: ¬u<128:=by simp at h;omega
  refine eo4 @xjp @qbo @zc @xvm ?_;refine⟨⟨(p++ [UInt8.ofNat (u%128+128)],u/128),?_⟩,?_,?_⟩
  ·simp only at hi⊢;rw[qej e]at hi;rw[<- hi];simp
  ·exact et1 @xjq.eq_1
  ·simp only;omega
 ·have e:u<128:=by simp at h;omega
  refine eo3 @qwq @qbo @zc ?_;simp only[qcn e]at hi;exact et1 @hi
theorem qqq (b:List UInt8) (v:Bool) (hb:b.length<=1000000000):qh prog 156 [.own 0 1 (qe b),.d (.bool v)] [] (.own 0 1 (qe (b++ [if v then 1 else 0]))) []:=by
 refine F156.go ?_;refine ez ?_;have e1: [[D.int .u8 1]]=qe [1]:=rfl;have e0: [[D.int .u8 0]]=qe [0]:=rfl;cases v with
 |true=>
  refine eo ?_;refine qa2 ?_;simp only[e1,zc,if_true,go_sem,simprocAttr];omega
 |false=>
  refine eo ?_;refine no_ ?_;refine ez2 @e0 @zc ?_;omega
def qa7 (s:List UInt8):List UInt8:=wInt s.length++s
theorem zd {n:Nat} (h:n<=9000000000000000000):I64 n:=by unfold I64;omega
theorem qjj (b s:List UInt8) (hb:b.length+s.length<=900000000):qh prog 157 [.own 0 1 (qe b),.d (.str s)] [] (.own 0 1 (qe (b++qa7 s))) []:=by
 refine F157.go ?_;refine ez ?_;refine clA F147 (kg b s.length (by omega) (zd (by omega))) ?_;refine ez ?_;have hl:=xu (zd (n:=s.length) (by omega));have e:qe (b++wInt s.length)++qe s=qe (b++qa7 s):=by rw[zc,qa7,jAj]
 refine ez2 @e @jAc.{0} ?_;refine⟨by omega,by omega⟩
theorem qnm (b s:List UInt8) (hb:b.length+s.length<=900000000):qh prog 155 [.own 0 1 (qe b),.d (.sl 1 (qe s))] [] (.own 0 1 (qe (b++qa7 s))) []:=by
 refine F155.go ?_;refine ez ?_;refine clA F147 (kg b s.length (by omega) (zd (by omega))) ?_;refine ez ?_;have hl:=xu (zd (n:=s.length) (by omega));have e:qe (b++wInt s.length)++qe s=qe (b++qa7 s):=by rw[zc,qa7,jAj]
 refine ez2 @e @jAc.{0} ?_;refine⟨by omega,by omega⟩
def idx {α:Type} (f:α->Bool) (l:List α):Int:=if l.any f then(l.findIdx f:Int)else-1
theorem qe2 {α:Type} {f:α->Bool} {l:List α} {i:Nat} (h:(l.take i).any f=false) (hi:l.length<=i):idx f l= -1:=by
 rw[jAr hi]at h;simp[idx,h]
theorem qe3 {α:Type} {f:α->Bool} {l:List α} {i:Nat} (h:(l.take i).any f=false) (hi:i<l.length) (e:f l[i]=true):idx f l=(i:Int):=by
 have ha:l.any f=true:=jB3.2 ⟨l[i],jAg hi,e⟩;have hx:l.findIdx f=i:=by
  rw[List.findIdx_eq hi];refine⟨e,λj hj=> ?_⟩;rw[jD3]at h;have d:j<(l.take i).length:=by simp;omega
  have:=h (l.take i)[j] (jAg d);simpa using this
 simp[idx,ha,hx]
theorem vl {α:Type} {f:α->Bool} {l:List α} {i:Nat} (h:(l.take i).any f=false) (hi:i<l.length) (hf:f l[i]=false):(l.take (i+1)).any f=false:=by
 rw[jAk hi,List.any_append,h];simp[hf]
theorem qty {α:Type} (f:α->Bool) (l:List α):decide (idx f l≥0)=l.any f:=by
 unfold idx;cases l.any f<;>simp
def d267:=cut prog f267 news
@[go_sem] def E267:=qm d267
def F267:=fnC d267 follows func267
def d268:=cut prog f268 news
@[go_sem] def E268:=qm d268
def F268:=fnC d268 follows func268
def d213:=cut prog f213 news
@[go_sem] def E213:=qm d213
def F213:=fnC d213 follows func213
def d216:=cut prog f216 news
@[go_sem] def E216:=qm d216
def F216:=fnC d216 follows func216
def Sidx {α:Type} (es:Nat) (enc:α->List D) (k:FuncId) (l:List α) (f:α->Bool) (i:{i:Nat//(l.take i).any f=false}):St:=
 ⟨[(0,true,.d (.sl es (l.map enc))),(1,true,.d (.func (.func k) [] [])),(6,true,.d (.sl es (l.map enc))),(7,true,.d (.int .i64 l.length)),(8,true,.d (.int .i64 (i.val:Nat)))],[],[],1⟩
theorem xdp {k:FuncId} {f:AV->Bool} (hb:(prog.funcs[k]?).any (λfn=>fn.body.isSome&& !(fn.name== "runtime.NumGoroutine"))=true)
  (hf: ∀v,qh prog k [.d (.agg (xw v))] [] (.d (.bool (f v))) []) (l:List AV) (hl:l.length<=maxLen):
  qh prog 267 [.d (.sl 3 (l.map xw)),.d (.func (.func k) [] [])] [] (.d (.int .i64 (idx f l))) []:=by
 first|refine F267.go ?_|refine F267.goT ?_
 refine ez ?_;refine qk (Sidx 3 xw k l f) (λi=>l.length-i.val) ⟨0,rfl⟩ ?_ (λi=> ?_)
 ·exact et2 @Sidx.eq_1 (x7 yt)
 ·obtain⟨i,hi⟩:=i;refine ez1 @Sidx.eq_1 ?_;refine qy _ rfl rfl (λh=> ?_) (λh=> ?_)
  ·have e:i<l.length:=by simpa using h
   refine ez2 (qj xw l e) @xw.eq_1 ?_;refine⟨by omega,?_⟩;refine xz (hf l[i]) hb (λh=>h) (λ_=>⟨qd,trivial⟩) rfl rfl rfl ?_;refine ez ?_;refine qy _ rfl rfl (λm=> ?_) (λm=> ?_)
   ·exact et1 (qe3 hi e m)
   ·refine ez ?_;refine⟨⟨i+1,vl hi e m⟩,?_,by dsimp only;omega⟩;exact et3 @Sidx.eq_1 (qg (show i<9223372036854775807 by unfold maxLen at hl;omega)) (x7 yt)
  ·have e:l.length<=i:=by simpa using h
   exact et1 (qe2 hi e)
theorem xdq {k:FuncId} {f:Int->Bool} (hb:(prog.funcs[k]?).any (λfn=>fn.body.isSome&& !(fn.name== "runtime.NumGoroutine"))=true)
  (hf: ∀v,qh prog k [.d (.int .i64 v)] [] (.d (.bool (f v))) []) (l:List Int) (hl:l.length<=maxLen):
  qh prog 268 [.d (.sl 1 (l.map encI)),.d (.func (.func k) [] [])] [] (.d (.int .i64 (idx f l))) []:=by
 first|refine F268.go ?_|refine F268.goT ?_
 refine ez ?_;refine qk (Sidx 1 encI k l f) (λi=>l.length-i.val) ⟨0,rfl⟩ ?_ (λi=> ?_)
 ·exact et2 @Sidx.eq_1 (x7 qcm)
 ·obtain⟨i,hi⟩:=i;refine ez1 @Sidx.eq_1 ?_;refine qy _ rfl rfl (λh=> ?_) (λh=> ?_)
  ·have e:i<l.length:=by simpa using h
   refine ez2 (qj encI l e) @encI.eq_1 ?_;refine⟨by omega,?_⟩;refine xz (hf l[i]) hb (λh=>h) (λ_=>⟨qd,trivial⟩) rfl rfl rfl ?_;refine ez ?_;refine qy _ rfl rfl (λm=> ?_) (λm=> ?_)
   ·exact et1 (qe3 hi e m)
   ·refine ez ?_;refine⟨⟨i+1,vl hi e m⟩,?_,by dsimp only;omega⟩;exact et3 @Sidx.eq_1 (qg (show i<9223372036854775807 by unfold maxLen at hl;omega)) (x7 qcm)
  ·have e:l.length<=i:=by simpa using h
   exact et1 (qe2 hi e)
theorem qz9 {k:FuncId} {f:AV->Bool} (hb:(prog.funcs[k]?).any (λfn=>fn.body.isSome&& !(fn.name== "runtime.NumGoroutine"))=true)
  (hf: ∀v,qh prog k [.d (.agg (xw v))] [] (.d (.bool (f v))) []) (l:List AV) (hl:l.length<=maxLen):
  qh prog 213 [.d (.sl 3 (l.map xw)),.d (.func (.func k) [] [])] [] (.d (.bool (l.any f))) []:=by
 first|refine F213.go ?_|refine F213.goT ?_
 refine ez ?_;refine xz (xdp hb hf l hl) F267.body (λh=>h) (λ_=>⟨qd,qd,trivial⟩) (by simp[ASlot.noPtr,D.noPtr,D.noPtrL,x7 yt]) rfl rfl ?_;exact et1 @qty
theorem q0a {k:FuncId} {f:Int->Bool} (hb:(prog.funcs[k]?).any (λfn=>fn.body.isSome&& !(fn.name== "runtime.NumGoroutine"))=true)
  (hf: ∀v,qh prog k [.d (.int .i64 v)] [] (.d (.bool (f v))) []) (l:List Int) (hl:l.length<=maxLen):
  qh prog 216 [.d (.sl 1 (l.map encI)),.d (.func (.func k) [] [])] [] (.d (.bool (l.any f))) []:=by
 first|refine F216.go ?_|refine F216.goT ?_
 refine ez ?_;refine xz (xdq hb hf l hl) F268.body (λh=>h) (λ_=>⟨qd,qd,trivial⟩) (by simp[ASlot.noPtr,D.noPtr,D.noPtrL,x7 qcm]) rfl rfl ?_;exact et1 @qty
def d135:=cut prog f135 news
@[go_sem] def E135:=qm d135
def F135:=fnC d135 follows func135
def d70:=cut prog f70 news
@[go_sem] def E70:=qm d70
def F70:=fnC d70 follows func70
def data (p:Pk):Bool:=qdp p&&(p.epoch==0||p.epoch==1)&&decide (p.label≥0)&&decide (p.label<40)&&decide ((p.values.length:Int)<=4)&&decide ((p.clock.length:Int)<=6)&& !(p.values.any λv=> !qbd v)&& !(p.clock.any λn=>decide (n<0)||decide (n>1099511627776))
theorem xoy (p:Pk) (h1:p.values.length<=maxLen) (h2:p.clock.length<=maxLen):qh prog 135 [.d (.agg (qf p))] [] (.d (.bool (data p))) []:=by
 first|refine F135.go ?_|refine F135.goT ?_
 refine ez1 @qf.eq_1 ?_;refine xz (qqo p) F212.body (λh=>h) (λ_=>⟨qd,trivial⟩) (qe1 p) rfl rfl ?_;refine ez ?_;refine⟨by simp_all,?_⟩;refine xz (qz9 F214.body xjl p.values h1) F213.body (λh=>h) (λ_=>⟨qd,qd,trivial⟩) (by simp[ASlot.noPtr,D.noPtr,D.noPtrL,x7 yt]) rfl rfl ?_;refine ez ?_;refine xz (q0a F217.body xjm p.clock h2) F216.body (λh=>h) (λ_=>⟨qd,qd,trivial⟩) (by simp[ASlot.noPtr,D.noPtr,D.noPtrL,x7 qcm]) rfl rfl ?_;refine ez ?_;rfl
def qft (p:Pk):Bool:=decide (p.kind≥1)&&decide (p.kind<=4)&&decide (p.sess≥1)&&decide (p.sess<=32)
def qo (p:Pk):Bool:=qft p&&(if p.kind=1 then data p else if p.kind=2 then ack p else order p)
theorem zu (p:Pk) (h1:p.values.length<=maxLen) (h2:p.clock.length<=maxLen):qh prog 70 [.d (.agg (qf p))] [] (.d (.bool (qo p))) []:=by
 first|refine F70.go ?_|refine F70.goT ?_
 refine ez1 @qf.eq_1 ?_;have hk:(decide (p.kind≥1)&&decide (p.kind<=4)&&decide (p.sess≥1)&&decide (p.sess<=32))=qft p:=rfl;simp only[hk];cases hG:qft p with
 |false=>
  refine ez ?_;refine qei (.bool false) rfl ?_;exact et2 @qo.eq_1 @hG
 |true=>
  have h4:p.kind=1∨p.kind=2∨p.kind=3∨p.kind=4:=by simp[qft]at hG;omega
  rcases h4 with hp|hp|hp|hp<;>simp only[hp,Int.reduceToNat,Int.reduceLE,Int.reduceLT,go_sem,simprocAttr]
  ·refine xz (xoy p h1 h2) F135.body (λh=>h) (λ_=>⟨by simp[qb3,ASlot.eqvD,D.eqv_refl,qf,hp],trivial⟩) (qe1 p) rfl rfl ?_;exact et3 @qo.eq_1 @hG @hp
  ·refine xz (xru p) F136.body (λh=>h) (λ_=>⟨by simp[qb3,ASlot.eqvD,D.eqv_refl,qf,hp],trivial⟩) (qe1 p) rfl rfl ?_;exact et3 @qo.eq_1 @hG @hp
  ·refine xz (q6u p) F137.body (λh=>h) (λ_=>⟨by simp[qb3,ASlot.eqvD,D.eqv_refl,qf,hp],trivial⟩) (qe1 p) rfl rfl ?_;exact et3 @qo.eq_1 @hG @hp
  ·refine xz (q6u p) F137.body (λh=>h) (λ_=>⟨by simp[qb3,ASlot.eqvD,D.eqv_refl,qf,hp],trivial⟩) (qe1 p) rfl rfl ?_;exact et3 @qo.eq_1 @hG @hp
structure OpS where
 key:List UInt8
 del:Bool
 val:List UInt8
 deriving DecidableEq,Inhabited
def qr (o:OpS):List D:= [.str o.key,.bool o.del,.sl 1 (qe o.val)]
theorem qjk (o:OpS):D.noPtrL (qr o)=true:=by simp only[qr,D.noPtrL,D.noPtr,vt,jBu]
theorem qb6 (l:List OpS):D.noPtrR (l.map qr)=true:=x7 qjk l
attribute [go_sem] qjk qb6
def d154:=cut prog f154 news
@[go_sem] def E154:=qm d154
def F154:=fnC d154 follows func154
def d153:=cut prog f153 news
@[go_sem] def E153:=qm d153
def F153:=fnC d153 follows func153
def d231:=cut prog f231 news
@[go_sem] def E231:=qm d231
def F231:=fnC d231 follows func231
def d152:=cut prog f152 news
@[go_sem] def E152:=qm d152
def F152:=fnC d152 follows func152
def d85:=cut prog f85 news
@[go_sem] def E85:=qm d85
def F85:=fnC d85 follows func85
def kh (o:OpS):Bool:=decide ((o.key.length:Int)≥1)&&decide ((o.key.length:Int)<=40)&&decide ((o.val.length:Int)<=900)&& !(o.del&&decide ((o.val.length:Int)>0))
theorem qtz (o:OpS):qh prog 154 [.d (.agg (qr o))] [] (.d (.bool (kh o))) []:=by
 refine F154.go ?_;refine ez1 @qr.eq_1 ?_;simp only[kh,and_true];intro h;refine⟨h,λh2=> ?_⟩;rw[h,h2];rfl
theorem qma (o:OpS):qh prog 153 [.d (.agg (qr o))] [] (.d (.bool (!kh o))) []:=by
 refine F153.go ?_;refine eo1 @qr.eq_1 ?_;first|refine cl F154 (qtz o) ?_|refine clF F154 (qtz o) (λ_=>by exact et1 @qr.eq_1) ?_
 exact et
def xjr (k:FuncId) (l:List OpS) (f:OpS->Bool) (i:{i:Nat//(l.take i).any f=false}):St:=
 ⟨[(0,true,.d (.sl 3 (l.map qr))),(1,true,.d (.func (.func k) [] [])),(7,true,.d (.int .i64 l.length)),(8,true,.d (.int .i64 (i.val:Nat)))],[],[],1⟩
theorem q0b {k:FuncId} {f:OpS->Bool} (hb:(prog.funcs[k]?).any (λfn=>fn.body.isSome&& !(fn.name== "runtime.NumGoroutine"))=true)
  (hf: ∀v,qh prog k [.d (.agg (qr v))] [] (.d (.bool (f v))) []) (l:List OpS) (hl:l.length<=maxLen):
  qh prog 231 [.d (.sl 3 (l.map qr)),.d (.func (.func k) [] [])] [] (.d (.int .i64 (idx f l))) []:=by
 refine F231.go ?_;refine ez ?_;refine qk (xjr k l f) (λi=>l.length-i.val) ⟨0,rfl⟩ ?_ (λi=> ?_)
 ·exact et1 @xjr.eq_1
 obtain⟨i,hi⟩:=i;refine eo1 @xjr.eq_1 ?_;refine xp _ (λh=> ?_) (λh=> ?_)
 ·have e:i<l.length:=by simpa using h
  refine eo2 (qj qr l e) @qr.eq_1 ?_;refine xz (hf l[i]) hb (λh=>h) (λ_=>⟨qd,trivial⟩) (by exact et1 @qr.eq_1) rfl rfl ?_;refine eo ?_;refine xp _ (λh=> ?_) (λh=> ?_)
  ·exact et1 (qe3 hi e h)
  ·refine ez ?_;refine⟨⟨i+1,vl hi e (by simpa using h)⟩,?_,by dsimp only;omega⟩;exact et2 @xjr.eq_1 (qg (show i<9223372036854775807 by unfold maxLen at hl;omega))
 ·have e:l.length<=i:=by simpa using h
  exact et1 (qe2 hi e)
theorem qnn {k:FuncId} {f:OpS->Bool} (i:(prog.funcs[k]?).any (λfn=>fn.body.isSome&& !(fn.name== "runtime.NumGoroutine"))=true)
  (h: ∀v,qh prog k [.d (.agg (qr v))] [] (.d (.bool (f v))) []) (l:List OpS) (e:l.length<=maxLen):
  qh prog 152 [.d (.sl 3 (l.map qr)),.d (.func (.func k) [] [])] [] (.d (.bool (l.any f))) []:=by
 refine F152.go ?_;refine eo ?_;first|refine cl F231 (q0b i h l e) ?_|refine clF F231 (q0b i h l e) (λ_=>by exact et1 @qr.eq_1) ?_
 exact et1 @qty
def wOp (o:OpS):List UInt8:=qa7 o.key++ [if o.del then 1 else 0]++qa7 o.val
def wOps (l:List OpS):List UInt8:=wInt l.length++l.flatMap wOp
def qx (l:List OpS):List UInt8×Int:=
 if l.length=0||l.any (λo=> !kh o)then([],1)else if l.length>20||(wOps l).length>2000 then([],6)else(wOps l,0)
theorem vz {o:OpS}:kh o=true↔1<=o.key.length∧o.key.length<=40∧o.val.length<=900∧(o.del=true->o.val.length=0):=by
 unfold kh;cases o.del<;>simp[-List.length_eq_zero_iff]<;>omega
theorem qek (s:List UInt8) (h:s.length<=900000000):(qa7 s).length<=s.length+10:=by
 have:=xu (zd (n:=s.length) (by omega));simp[qa7];omega
theorem q4e {o:OpS} (h:kh o=true):(wOp o).length<=1000:=by
 obtain⟨h1,h2,h3,_⟩:=vz.1 h;have k1:=qek o.key (jBj h2 (by decide));have k2:=qek o.val (jBj h3 (by decide));simp only[wOp,jAc,List.length_cons,List.length_nil];omega
theorem qh9 {l:List OpS} (h: ∀o∈l,kh o=true):(l.flatMap wOp).length<=l.length*1000:=by
 induction l with
 |nil=>simp
 |cons o l ih=>
  have h1:=q4e (h o jA7);have h2:=ih (λx hx=>h x (jA9 _ hx));simp only[List.flatMap_cons,jAc,List.length_cons];omega
def Senc (l:List OpS) (i:{i:Nat//i<=l.length}):St:=
 ⟨[(0,true,.d (.sl 3 (l.map qr))),(4,true,.own 0 1 (qe (wInt l.length++(l.take i.val).flatMap wOp))),(17,true,.d (.sl 3 (l.map qr))),(18,true,.d (.int .i64 l.length)),(19,true,.d (.int .i64 (i.val:Nat)))],[],[0],1⟩
theorem qho:(prog.funcs[153]?).any (λfn=>fn.body.isSome&& !(fn.name== "runtime.NumGoroutine"))=true:=F153.body
theorem qfu {α β:Type} (f:α->List β) (l:List α) {i:Nat} (h:i<l.length):(l.take (i+1)).flatMap f=(l.take i).flatMap f++f l[i]:=by
 rw[jAk h,jDt,List.flatMap_cons,List.flatMap_nil,jAu]
theorem qia (l:List OpS) (hl:l.length<=100000):qh prog 85 [.d (.sl 3 (l.map qr))] [] (.tup [.d (.sl 1 (qe (qx l).1)),.d (.int .i64 (qx l).2)]) []:=by
 refine F85.goT ?_;refine eo ?_;first|refine cl F152 (qnn qho qma l (by unfold maxLen;omega)) ?_|refine clF F152 (qnn qho qma l (by unfold maxLen;omega)) (λ_=>by exact et1 @qr.eq_1) ?_
 refine eo ?_
 (repeat(with_reducible refine ob ?_));refine xp _ (λh=> ?_) (λh=> ?_)
 ·have hb:qx l=([],1):=by
   unfold qx;rw[if_pos];simp only[jA1,decide_eq_true_eq,beq_iff_eq]at h⊢;rcases h with h|h
   ·left;omega
   ·right;exact h
  exact et2 @hb @xa
 have m: ¬(decide (l.length=0)||l.any (λo=> !kh o))=true:=by
  simp only[jA1,decide_eq_true_eq,not_or];simp only[jA4,beq_eq_false_iff_ne]at h;exact⟨by omega,by simp[h.2]⟩
 have t: ∀o∈l,kh o=true:=by
  simp only[jA1,not_or,jB3,not_exists,not_and]at m;intro o u;simpa using m.2 o u
 have hwl:=qh9 t;have hil0:=xu (zd (n:=l.length) (by omega));refine ez ?_;refine clA F147 (kg [] l.length (by simp) (zd (by omega))) ?_;refine ez ?_;refine qk (Senc l) (λi=>l.length-i.val) ⟨0,jAi _⟩ ?_ (λi=> ?_)
 ·exact et2 @Senc.eq_1 @List.take_zero.{0}
 obtain⟨i,hi⟩:=i;refine eo1 @Senc.eq_1 ?_;refine xp _ (λh=> ?_) (λh=> ?_)
 ·have p:i<l.length:=by simpa using h
  have u:=t l[i] (jAg p);obtain⟨p1,p2,p3,_⟩:=vz.1 u;have q:(wInt l.length++(l.take i).flatMap wOp).length<=100000020:=by
   have:=qh9 (l:=l.take i) (λo h=>t o (jBf h));simp only[jAc,jAl]at this⊢;have:min i l.length<=100000:=by omega
   omega
  have k1:=qek l[i].key (by omega);refine eo2 (qj qr l p) @qr.eq_1 ?_;refine clA F157 (qjj (wInt l.length++(l.take i).flatMap wOp) l[i].key (by omega)) ?_;refine ez ?_;refine clA F156 (qqq ((wInt l.length++(l.take i).flatMap wOp)++qa7 l[i].key) l[i].del (by simp only[jAc]at q⊢;omega)) ?_;refine ez ?_;refine clA F155 (qnm ((wInt l.length++(l.take i).flatMap wOp)++qa7 l[i].key++ [if l[i].del then 1 else 0]) l[i].val (by simp only[jAc,List.length_cons,List.length_nil]at q⊢;omega)) ?_;refine ez ?_;have e:wInt l.length++(l.take i).flatMap wOp++qa7 l[i].key++ [if l[i].del then 1 else 0]++qa7 l[i].val=wInt l.length++(l.take (i+1)).flatMap wOp:=by
   rw[qfu wOp l p,wOp];simp only[jAj]
  refine⟨⟨i+1,p⟩,?_,by dsimp only;omega⟩;exact et3 @Senc.eq_1 @e (qg (show i<9223372036854775807 by omega))
 ·have v:i=l.length:=by simp at h;omega
  subst v;refine ez1 @jAs.{0} ?_;have hw:wInt l.length++l.flatMap wOp=wOps l:=rfl;have hw2:(wOps l).length=(wInt l.length).length+(l.flatMap wOp).length:=by rw[wOps,jAc]
  refine eo1 @hw ?_;refine xp _ (λh=> ?_) (λh=> ?_)
  ·have hb:qx l=([],6):=by
    unfold qx;rw[if_neg m,if_pos];simp only[jA1,decide_eq_true_eq]at h⊢;omega
   exact et2 @hb @xa
  ·have hb:qx l=(wOps l,0):=by
    unfold qx;rw[if_neg m,if_neg];simp only[jA1,jA4,decide_eq_true_eq,decide_eq_false_iff_not]at h⊢;omega
   exact et1 @hb
def d233:=cut prog f233 news
@[go_sem] def E233:=qm d233
def F233:=fnC d233 follows func233
def d161:=cut prog f161 news
@[go_sem] def E161:=qm d161
def F161:=fnC d161 follows func161
def d159:=cut prog f159 news
@[go_sem] def E159:=qm d159
def F159:=fnC d159 follows func159
def fnv1 (h:Nat) (c:UInt8):Nat:=(h^^^c.toNat)*1099511628211%18446744073709551616
def fnv (h:Nat) (s:List UInt8):Nat:=s.foldl fnv1 h
theorem q4f (h:Nat):fnv h []=h:=rfl
theorem qwr (h:Nat) (s:List UInt8) (c:UInt8):fnv h (s++ [c])=(fnv h s^^^c.toNat)*1099511628211%18446744073709551616:=by
 have:fnv h (s++ [c])=fnv1 (fnv h s) c:=by unfold fnv;rw[jCm,List.foldl_cons,List.foldl_nil]
 rw[this,fnv1]
theorem qqr {h:Nat} (hh:h<18446744073709551616) (s:List UInt8):fnv h s<18446744073709551616:=by
 rcases jFa s with rfl|⟨t,c,rfl⟩
 ·rw[q4f];exact hh
 ·rw[jFd,qwr];generalize (fnv h t^^^c.toNat)*1099511628211=x;omega
theorem qjl (n:Int):IntKind.u64.wrap n=n%18446744073709551616:=by simp[IntKind.wrap,IntKind.bits,IntKind.signed]
theorem xjs (a b:Nat) (ha:a<18446744073709551616) (hb:b<18446744073709551616):a^^^b<18446744073709551616:=by
 have p:(18446744073709551616:Nat)=2^64:=by decide
 rw[p]at*;exact Nat.xor_lt_two_pow ha hb
theorem xdr (a b:Nat) (ha:a<18446744073709551616) (hb:b<18446744073709551616):qym 64 (a:Int) (b:Int)=((a^^^b:Nat):Int):=by
 unfold qym;rw[BitVec.ofInt_natCast,BitVec.ofInt_natCast,BitVec.toNat_xor,BitVec.toNat_ofNat,BitVec.toNat_ofNat,jBy ha,jBy hb]
theorem f1 (x:Nat):IntKind.u64.wrap ((x:Int)*1099511628211)=((x*1099511628211%18446744073709551616:Nat):Int):=by
 rw[qjl];simp only[Int.natCast_emod,Int.natCast_mul,jDw]
theorem f2 (x:Nat) (h:x<18446744073709551616):IntKind.u64.wrap (x:Int)=x:=by
 rw[qjl];omega
theorem q6v (h c:Nat) (d:h<18446744073709551616) (hc:c<256):
  IntKind.u64.wrap (IntKind.u64.wrap (qym 64 (h:Int) (IntKind.u64.wrap (c:Int)))*1099511628211)=(((h^^^c)*1099511628211%18446744073709551616:Nat):Int):=by
 rw[f2 c (by omega),xdr h c d (by omega),f2 _ (xjs h c d (by omega)),f1]
theorem qfh (c:UInt8):c.toNat<256:=UInt8.toNat_lt c
theorem jm (s:List UInt8) {i:Nat} (h:i<s.length):(qe s).getD i []= [.int .u8 (s[i].toNat:Int)]:=qj (λc:UInt8=> [D.int .u8 (c.toNat:Int)]) s h []
def xjt (h:Nat) (s:List UInt8) (i:{i:Nat//i<=s.length}):St:=
 ⟨[(0,true,.d (.int .u64 (fnv h (s.take i.val):Nat))),(7,true,.d (.sl 1 (qe s))),(8,true,.d (.int .i64 s.length)),(9,true,.d (.int .i64 (i.val:Nat)))],[],[],1⟩
theorem xds (h:Nat) (s:List UInt8) (hh:h<18446744073709551616) (hl:s.length<=1000000000):qh prog 233 [.d (.int .u64 h),.d (.sl 1 (qe s))] [] (.d (.int .u64 (fnv h s:Nat))) []:=by
 refine F233.go ?_;refine ez ?_;refine qk (xjt h s) (λi=>s.length-i.val) ⟨0,jAi _⟩ ?_ (λi=> ?_)
 ·exact et3 @xjt.eq_1 @List.take_zero.{0} @q4f
 obtain⟨i,hi⟩:=i;refine eo1 @xjt.eq_1 ?_;refine xp _ (λh=> ?_) (λh=> ?_)
 ·have e:i<s.length:=by simpa using h
  refine eo1 (jm s e) ?_;simp only[q6v _ _ (qqr hh (s.take i)) (qfh s[i]),go_sem,simprocAttr];refine⟨⟨i+1,e⟩,?_,by dsimp only;omega⟩;exact et4 @xjt.eq_1 (qg (show i<9223372036854775807 by omega)) (jAk e) @qwr
 ·have l:i=s.length:=by simp at h;omega
  subst l;exact et1 @jAs.{0}
def jv (c:UInt8):D:= .int .u8 c.toNat
theorem q4g (s:List UInt8):D.noPtrL (s.map jv)=true:=by induction s<;>simp_all[D.noPtrL,D.noPtr,jv]
theorem qjm (s:List UInt8):(s.map jv).all D.isCell=true:=by induction s<;>simp_all[D.isCell,jv]
attribute [go_sem] q4g qjm
theorem q9x (s:List UInt8) {i:Nat} (h:i<s.length) (x:ASlot):((s.map jv).map ASlot.d).getD i x= .d (.int .u8 (s[i].toNat:Int)):=by simp[h,jv]
theorem qdq (s:List UInt8):(qe s).flatten=s.map jv:=by induction s<;>simp_all[qe,jv]
theorem q0c (s:List UInt8):qby 1 s.length (s.map jv)=qe s:=by
 induction s with
 |nil=>rfl
 |cons c s ih=>simp only[List.length_cons,List.map_cons,qby,jDr,List.take_zero,jCs,List.drop_zero,ih];rfl
def q6w (h:Nat) (s:List UInt8) (i:{i:Nat//i<=s.length}):St:=
 ⟨[(0,true,.d (.int .u64 (fnv h (s.take i.val):Nat))),(7,true,.d (.ref 0 0 1 s.length)),(8,true,.d (.int .i64 s.length)),(9,true,.d (.int .i64 (i.val:Nat)))],[.row ((s.map jv).map .d)],[],1⟩
theorem xju (h:Nat) (s:List UInt8) (hh:h<18446744073709551616) (hl:s.length<=1000000000):qh prog 233 [.d (.int .u64 h),.d (.ref 0 0 1 s.length)] [.row ((s.map jv).map .d)] (.d (.int .u64 (fnv h s:Nat))) [.row ((s.map jv).map .d)]:=by
 refine F233.go ?_;refine ez ?_;refine qk (q6w h s) (λi=>s.length-i.val) ⟨0,jAi _⟩ ?_ (λi=> ?_)
 ·exact et3 @q6w.eq_1 @List.take_zero.{0} @q4f
 obtain⟨i,hi⟩:=i;refine eo1 @q6w.eq_1 ?_;refine xp _ (λh=> ?_) (λh=> ?_)
 ·have e:i<s.length:=by simpa using h
  refine eo2 @jCo (q9x s e) ?_;simp only[q6v _ _ (qqr hh (s.take i)) (qfh s[i]),go_sem,simprocAttr];refine⟨⟨i+1,e⟩,?_,by dsimp only;omega⟩;exact et4 @q6w.eq_1 (qg (show i<9223372036854775807 by omega)) (jAk e) @qwr
 ·have l:i=s.length:=by simp at h;omega
  subst l;exact et1 @jAs.{0}
def be8 (h:Nat):List UInt8:= [UInt8.ofNat (h/256^7),UInt8.ofNat (h/256^6),UInt8.ofNat (h/256^5),UInt8.ofNat (h/256^4),UInt8.ofNat (h/256^3),UInt8.ofNat (h/256^2),UInt8.ofNat (h/256^1),UInt8.ofNat (h/256^0)]
theorem kw (h:Nat):(be8 h).length=8:=rfl
theorem xoz (h:Nat): ∀{i:Nat} (hi:i<8),(be8 h)[i]'(by rw[kw];exact hi)=UInt8.ofNat (h/256^(7-i))
 |0,_=>rfl
 |1,_=>rfl
 |2,_=>rfl
 |3,_=>rfl
 |4,_=>rfl
 |5,_=>rfl
 |6,_=>rfl
 |7,_=>rfl
theorem x9 {n:Int} (h:I64 n):IntKind.i64.wrap n=n:=by
 obtain⟨h1,h2⟩:=h;simp[IntKind.wrap,IntKind.bits,IntKind.signed];omega
theorem qws (h i:Nat) (hi:i<8):IntKind.u8.wrap ((h:Int).fdiv (2^min (8*(7-(i:Int))).toNat 64))=((UInt8.ofNat (h/256^(7-i))).toNat:Int):=by
 have e1:min (8*(7-(i:Int))).toNat 64=8*(7-i):=by omega
 have e2:((2:Int)^(8*(7-i)))=((256^(7-i):Nat):Int):=by rw[Int.natCast_pow,Int.pow_mul];rfl
 rw[e1,e2,jDe _ (Int.natCast_nonneg _),<- Int.natCast_ediv,qqp,UInt8.toNat_ofNat'];omega
theorem q4h (h:Nat) {i:Nat} (hi:i<8):(((be8 h).take i++List.replicate (8-i) 0).map jv).set i (D.int .u8 ((UInt8.ofNat (h/256^(7-i))).toNat:Int))=((be8 h).take (i+1)++List.replicate (8-(i+1)) 0).map jv:=by
 have h8:=kw h;have hl:((be8 h).take i).length=i:=by rw[jAl];omega
 have e:D.int .u8 ((UInt8.ofNat (h/256^(7-i))).toNat:Int)=jv ((be8 h)[i]'(by omega)):=by rw[xoz h hi];rfl
 rw[e,<- jDz,jEl _ _ (by omega),hl,jDg,jAk (by omega),show 8-i=(8-(i+1))+1 by omega,jDs,List.set_cons_zero,jAj,List.cons_append,List.nil_append]
theorem qdr (e:List D) (i:Nat) (x:D):(e.map ASlot.d).set i (.d x)=(e.set i x).map .d:=by rw[jDz]
theorem qmb:jv 0= .int .u8 0:=rfl
theorem q4i (h:Nat):(be8 h).take 8=be8 h:=jAr (jBt (kw h))
def qhp (k:Nat) (f0:Fr) (os:List AObj) (h:Nat) (i:{i:Nat//i<=8}):St:=
 ⟨(6,true,.d (.int .u64 (h:Nat)))::(7,true,.d (.ptr (k+1) 0))::(5,true,.d (.ptr k 0))::(12,true,.d (.int .i64 (i.val:Nat)))::f0,os++ [.row ((List.replicate 8 (D.int .u8 0)).map .d),.row ((((be8 h).take i.val++List.replicate (8-i.val) 0).map jv).map .d)],[],1⟩
theorem xjv (h:Nat) (s:List UInt8) (hh:h<18446744073709551616) (hl:s.length<=1000000000):qh prog 161 [.d (.int .u64 h),.d (.sl 1 (qe s))] [] (.tup [.d (.int .u64 (fnv h s:Nat)),.d (.agg ((be8 (fnv h s)).map jv))]) []:=by
 refine F161.goT ?_;refine eo ?_;refine cl F233 (xds h s hh hl) ?_;refine ez ?_;refine qk (qhp 0 [] [] (fnv h s)) (λi=>8-i.val) ⟨0,jAi _⟩ ?_ (λi=> ?_)
 ·exact et3 @qhp.eq_1 @List.take_zero.{0} @qmb
 obtain⟨i,hi⟩:=i;refine ez1 @qhp.eq_1 ?_;refine xp _ (λhc=> ?_) (λhc=> ?_)
 ·have e:i<8:=by simp at hc;omega
  have e1:IntKind.i64.wrap (7-(i:Int))=7-i:=x9 (by unfold I64;omega);have e2:IntKind.i64.wrap (8*(7-(i:Int)))=8*(7-i):=x9 (by unfold I64;omega);have hlen:=kw (fnv h s);simp only[jCo,qws _ _ e,qdr,q4h _ e,e1,e2,jAl,jBp,go_sem,simprocAttr]
  (repeat(with_reducible refine ob ?_))
  refine⟨⟨i+1,e⟩,?_,by dsimp only;omega⟩;exact et2 @qhp.eq_1 (qg (show i<9223372036854775807 by omega))
 ·have l:i=8:=by simp at hc;omega
  subst l;exact et3 @q4i @be8.eq_1 @jv.eq_1
theorem xdt (h:Nat) (s:List UInt8) (hh:h<18446744073709551616) (hl:s.length<=1000000000):qh prog 161 [.d (.int .u64 h),.d (.ref 0 0 1 s.length)] [.row ((s.map jv).map .d)] (.tup [.d (.int .u64 (fnv h s:Nat)),.d (.agg ((be8 (fnv h s)).map jv))]) [.row ((s.map jv).map .d)]:=by
 refine F161.goT ?_;refine eo ?_;refine clO [0] F233 (xju h s hh hl) ?_;refine ez ?_;refine qk (qhp 1 [] [.row ((s.map jv).map .d)] (fnv h s)) (λi=>8-i.val) ⟨0,jAi _⟩ ?_ (λi=> ?_)
 ·exact et3 @qhp.eq_1 @List.take_zero.{0} @qmb
 obtain⟨i,hi⟩:=i;refine ez1 @qhp.eq_1 ?_;refine xp _ (λhc=> ?_) (λhc=> ?_)
 ·have e:i<8:=by simp at hc;omega
  have e1:IntKind.i64.wrap (7-(i:Int))=7-i:=x9 (by unfold I64;omega);have e2:IntKind.i64.wrap (8*(7-(i:Int)))=8*(7-i):=x9 (by unfold I64;omega);have hlen:=kw (fnv h s);simp only[jCo,qws _ _ e,qdr,q4h _ e,e1,e2,jAl,jBp,go_sem,simprocAttr]
  (repeat(with_reducible refine ob ?_))
  refine⟨⟨i+1,e⟩,?_,by dsimp only;omega⟩;exact et2 @qhp.eq_1 (qg (show i<9223372036854775807 by omega))
 ·have l:i=8:=by simp at hc;omega
  subst l;exact et3 @q4i @be8.eq_1 @jv.eq_1
def num1 (h:Nat) (c:UInt8):Nat:=h*256+c.toNat
def qoa (s:List UInt8):Nat:=s.foldl num1 0
def qbu (d:List UInt8):Nat:=if d.length<8 then 14695981039346656037 else qoa (d.drop (d.length-8))
theorem qt0 (s:List UInt8) (c:UInt8):qoa (s++ [c])=qoa s*256+c.toNat:=by unfold qoa;rw[jCm,List.foldl_cons,List.foldl_nil];rfl
theorem qwt: ∀(n:Nat) (s:List UInt8),s.length=n->qoa s<256^n
 |0,s,h=>by cases s<;>simp at h;simp[qoa]
 |n+1,s,h=>by
  rcases jFa s with rfl|⟨t,c,rfl⟩
  ·simp at h
  ·rw[jFd]at h⊢;have h1:=qwt n t (by simpa using h);have h2:=qfh c;rw[qt0,jCi];omega
theorem q6x (a b:Nat) (ha:a<18446744073709551616) (hb:b<18446744073709551616):bvOr 64 (a:Int) (b:Int)=((a|||b:Nat):Int):=by
 unfold bvOr;rw[BitVec.ofInt_natCast,BitVec.ofInt_natCast,BitVec.toNat_or,BitVec.toNat_ofNat,BitVec.toNat_ofNat,jBy ha,jBy hb]
theorem xrv (a c:Nat) (hc:c<256):a*256|||c=a*256+c:=by
 have:=Nat.shiftLeft_add_eq_or_of_lt (i:=8) (b:=c) (by omega) a;rw[Nat.shiftLeft_eq]at this;exact this.symm
theorem xdu (a c:Nat) (ha:a<72057594037927936) (hc:c<256):IntKind.u64.wrap (bvOr 64 (IntKind.u64.wrap ((a:Int)*2^min 8 64)) (IntKind.u64.wrap (c:Int)))=((a*256+c:Nat):Int):=by
 have e1:IntKind.u64.wrap ((a:Int)*2^min 8 64)=((a*256:Nat):Int):=by
  rw[qjl];show(a:Int)*256%18446744073709551616=_;omega
 rw[e1,f2 c (by omega),q6x _ _ (by omega) (by omega),xrv a c hc,f2 _ (by omega)]
def xjw (s:List UInt8) (i:{i:Nat//i<=s.length}):St:=
 ⟨[(3,true,.d (.int .u64 (qoa (s.take i.val):Nat))),(13,true,.d (.sl 1 (qe s))),(14,true,.d (.int .i64 s.length)),(15,true,.d (.int .i64 (i.val:Nat)))],[],[],1⟩
theorem vm (s:List UInt8) (n:Nat):(qe s).drop n=qe (s.drop n):=by simp[qe]
theorem zy (s:List UInt8) (n:Nat):(qe s).take n=qe (s.take n):=by simp[qe]
theorem xo0 (e:List UInt8) (hl:e.length<=1000000000):qh prog 159 [.d (.sl 1 (qe e))] [] (.d (.int .u64 (qbu e:Nat))) []:=by
 refine F159.go ?_;refine ez ?_;refine xp _ (λhc=> ?_) (λhc=> ?_)
 ·have hb:qbu e=14695981039346656037:=by unfold qbu;rw[if_pos (by simp at hc;omega)]
  exact et1 @hb
 have h8:8<=e.length:=by simp at hc;omega
 have e1:IntKind.i64.wrap ((e.length:Int) -8)=((e.length-8:Nat):Int):=by rw[x9 (by unfold I64;omega)];omega
 have hb:qbu e=qoa (e.drop (e.length-8)):=by unfold qbu;rw[if_neg (by omega)]
 have hd:(e.drop (e.length-8)).length=8:=by rw[jAq];omega
 generalize hs:e.drop (e.length-8)=s at hb hd;have e2:s.take (e.length-(e.length-8))=s:=jAr (by omega);refine eo6 @e1 @vm @zy @hs @e2 @hb ?_;refine qk (xjw s) (λi=>s.length-i.val) ⟨0,jAi _⟩ ?_ (λi=> ?_)
 ·refine ez2 @xjw.eq_1 @List.take_zero.{0} ?_;simp[qoa]
 obtain⟨i,hi⟩:=i;refine eo1 @xjw.eq_1 ?_;refine xp _ (λh=> ?_) (λh=> ?_)
 ·have l:i<s.length:=by simpa using h
  have m:qoa (s.take i)<72057594037927936:=by
   have:=qwt i (s.take i) (by rw[jAl];omega);have h7:256^i<=256^7:=jB4 (by decide) (by omega);have:(256:Nat)^7=72057594037927936:=by decide
   omega
  refine eo1 (jm s l) ?_;simp only[xdu _ _ m (qfh s[i]),go_sem,simprocAttr];refine⟨⟨i+1,l⟩,?_,by dsimp only;omega⟩;exact et4 @xjw.eq_1 (qg (show i<9223372036854775807 by omega)) (jAk l) @qt0
 ·have o:i=s.length:=by simp at h;omega
  subst o;exact et1 @jAs.{0}
theorem qwu {α:Type} [DecidableEq α] {l m:List α} {i:Nat} (h1:i<l.length) (h2:i<m.length) (h:l[i]≠m[i]):decide (l=m)=false:=by
 rw[decide_eq_false_iff_not];rintro rfl;exact h rfl
theorem ym {α:Type} {l m:List α} {i:Nat} (h:l.take i=m.take i) (h1:i<l.length) (h2:i<m.length) (he:l[i]=m[i]):l.take (i+1)=m.take (i+1):=by
 rw[jAk h1,jAk h2,h,he]
theorem xm2 (v w:AV):(v.kind==w.kind&&(v.n==w.n&&v.s==w.s))=decide (v=w):=by
 obtain⟨a,b,c⟩:=v;obtain⟨d,e,f⟩:=w;rw[jBm];simp
def d67:=cut prog f67 news
@[go_sem] def E67:=qm d67
def F67:=fnC d67 follows func67
def d68:=cut prog f68 news
@[go_sem] def E68:=qm d68
def F68:=fnC d68 follows func68
def d132:=cut prog f132 news
@[go_sem] def E132:=qm d132
def F132:=fnC d132 follows func132
def d133:=cut prog f133 news
@[go_sem] def E133:=qm d133
def F133:=fnC d133 follows func133
def d17:=cut prog f17 news
@[go_sem] def E17:=qm d17
def F17:=fnC d17 follows func17
def Seq {α:Type} (es:Nat) (enc:α->List D) (l m:List α) (i:{i:Nat//l.take i=m.take i}):St:=
 ⟨[(0,true,.d (.sl es (l.map enc))),(1,true,.d (.sl es (m.map enc))),(12,true,.d (.int .i64 l.length)),(13,true,.d (.int .i64 (i.val:Nat)))],[],[],1⟩
theorem xrw (l m:List AV) (hl:l.length<=maxLen):
  qh prog 67 [.d (.sl 3 (l.map xw)),.d (.sl 3 (m.map xw))] [] (.d (.bool (decide (l=m)))) []:=by
 first|refine F67.go ?_|refine F67.goT ?_
 refine ez ?_;refine qy _ rfl rfl (λh=> ?_) (λh=> ?_)
 ·have hne:decide (l=m)=false:=by rw[decide_eq_false_iff_not];rintro rfl;simp at h
  exact et1 @hne
 ·have hlm:l.length=m.length:=by simp at h;omega
  refine ez ?_;refine qk (Seq 3 xw l m) (λi=>l.length-i.val) ⟨0,rfl⟩ ?_ (λi=> ?_)
  ·exact et2 @Seq.eq_1 (x7 yt)
  ·obtain⟨i,hi⟩:=i;refine ez1 @Seq.eq_1 ?_;refine qy _ rfl rfl (λh=> ?_) (λh=> ?_)
   ·have o:i<l.length:=by simpa using h
    have e:i<m.length:=by omega
    refine ez4 (qj xw l o) (qj xw m e) @xw.eq_1 @xm2 ?_;refine⟨by omega,by omega,?_⟩;refine qy _ rfl rfl (λp=> ?_) (λp=> ?_)
    ·have hne:l[i]≠m[i]:=by simpa using p
     exact et1 (qwu o e hne)
    ·have he:l[i]=m[i]:=by simpa using p
     refine ez ?_;refine⟨⟨i+1,ym hi o e he⟩,?_,by dsimp only;omega⟩;exact et3 @Seq.eq_1 (qg (show i<9223372036854775807 by unfold maxLen at hl;omega)) (x7 yt)
   ·have he:decide (l=m)=true:=by
     have:l.length<=i:=by simpa using h
     rw[jAr this,jAr (by omega)]at hi;simp[hi]
    exact et1 @he
theorem q0d (l:List AV) (hl:l.length<=1000000):
  qh prog 132 [.d (.sl 3 (l.map xw))] [] (.d (.sl 3 (l.map xw))) []:=by
 first|refine F132.go ?_|refine F132.goT ?_
 refine ez ?_;refine ql7 rfl rfl (λb hb=> ?_);refine ez ?_;refine qy _ rfl rfl (λh=> ?_) (λh=> ?_)
 ·exact et1 (hb h)
 ·refine ez ?_;omega
theorem q0e (l:List Int) (hl:l.length<=1000000):
  qh prog 133 [.d (.sl 1 (l.map encI))] [] (.d (.sl 1 (l.map encI))) []:=by
 first|refine F133.go ?_|refine F133.goT ?_
 refine ez ?_;refine ql7 rfl rfl (λb hb=> ?_);refine ez ?_;refine qy _ rfl rfl (λh=> ?_) (λh=> ?_)
 ·exact et1 (hb h)
 ·refine ez ?_;omega
theorem xrx (l m:List Int) (hl:l.length<=maxLen):
  qh prog 68 [.d (.sl 1 (l.map encI)),.d (.sl 1 (m.map encI))] [] (.d (.bool (decide (l=m)))) []:=by
 first|refine F68.go ?_|refine F68.goT ?_
 refine ez ?_;refine qy _ rfl rfl (λh=> ?_) (λh=> ?_)
 ·have hne:decide (l=m)=false:=by rw[decide_eq_false_iff_not];rintro rfl;simp at h
  exact et1 @hne
 ·have hlm:l.length=m.length:=by simp at h;omega
  refine ez ?_;refine qk (Seq 1 encI l m) (λi=>l.length-i.val) ⟨0,rfl⟩ ?_ (λi=> ?_)
  ·exact et1 @Seq.eq_1
  ·obtain⟨i,hi⟩:=i;refine ez1 @Seq.eq_1 ?_;refine qy _ rfl rfl (λh=> ?_) (λh=> ?_)
   ·have o:i<l.length:=by simpa using h
    have e:i<m.length:=by omega
    refine ez3 (qj encI l o) (qj encI m e) @encI.eq_1 ?_;refine⟨by omega,by omega,?_⟩;refine qy _ rfl rfl (λp=> ?_) (λp=> ?_)
    ·have hne:l[i]≠m[i]:=by simpa using p
     exact et1 (qwu o e hne)
    ·have he:l[i]=m[i]:=by simpa using p
     refine ez ?_;refine⟨⟨i+1,ym hi o e he⟩,?_,by dsimp only;omega⟩;exact et2 @Seq.eq_1 (qg (show i<9223372036854775807 by unfold maxLen at hl;omega))
   ·have he:decide (l=m)=true:=by
     have:l.length<=i:=by simpa using h
     rw[jAr this,jAr (by omega)]at hi;simp[hi]
    exact et1 @he
theorem xm3 (p q:Pk):(p.kind==q.kind&&p.sess==q.sess&&p.epoch==q.epoch&&p.from_==q.from_&&p.to==q.to&&p.seq==q.seq&&p.label==q.label&&decide (p.values=q.values)&&decide (p.clock=q.clock))=decide (p=q):=by
 obtain⟨a1,a2,a3,a4,a5,a6,a7,a8,a9⟩:=p;obtain⟨b1,b2,b3,b4,b5,b6,b7,b8,b9⟩:=q;rw[jBm];simp[and_assoc]
theorem qmc (p q:Pk) (h1:p.values.length<=maxLen) (h2:p.clock.length<=maxLen):
  qh prog 17 [.d (.agg (qf p)),.d (.agg (qf q))] [] (.d (.bool (decide (p=q)))) []:=by
 first|refine F17.go ?_|refine F17.goT ?_
 refine eo1 @qf.eq_1 ?_;refine cl F67 (xrw p.values q.values h1) ?_;refine eo ?_;refine cl F68 (xrx p.clock q.clock h2) ?_;exact et1 @xm3
def qb7 (g:Nat->Bool) (n:Nat):Bool:=(List.range n).all g
theorem q9y (g:Nat->Bool) (n:Nat):qb7 g (n+1)=(qb7 g n&&g n):=by simp[qb7,List.range_succ]
theorem y5 {g:Nat->Bool} {n:Nat} (h:qb7 g n=true) (hg:g n=true):qb7 g (n+1)=true:=by rw[q9y,h,hg];rfl
theorem qe4 {g:Nat->Bool} {i n:Nat} (hi:i<n) (hg:g i=false):qb7 g n=false:=by
 simp only[qb7,List.all_eq_false];exact⟨i,by simpa using hi,by simp[hg]⟩
theorem zo {g:Nat->Bool} {n:Nat}:qb7 g n=true↔ ∀i,i<n->g i=true:=by simp[qb7]
structure Qu where
 acc:Int
 cons:Int
 items:List Pk
 deriving DecidableEq,Inhabited
def encQ (q:Qu):List D:= [.int .i64 q.acc,.int .i64 q.cons,.sl 9 (q.items.map qf)]
theorem q9z (q:Qu):D.noPtrL (encQ q)=true:=by exact et1 @encQ.eq_1
attribute [go_sem] q9z
def Pk.Sm (p:Pk):Prop:=p.values.length<=1000∧p.clock.length<=1000
def Qu.Sm (q:Qu):Prop:=q.items.length<=1000∧ ∀p∈q.items,p.Sm
theorem Pk.Sm.v {p:Pk} (h:p.Sm):p.values.length<=maxLen:=by have:=h.1;unfold maxLen;omega
theorem Pk.Sm.c {p:Pk} (h:p.Sm):p.clock.length<=maxLen:=by have:=h.2;unfold maxLen;omega
def d220:=cut prog f220 news
@[go_sem] def E220:=qm d220
def F220:=fnC d220 follows func220
def d221:=cut prog f221 news
@[go_sem] def E221:=qm d221
def F221:=fnC d221 follows func221
def d188:=cut prog f188 news
@[go_sem] def E188:=qm d188
def F188:=fnC d188 follows func188
def d66:=cut prog f66 news
@[go_sem] def E66:=qm d66
def F66:=fnC d66 follows func66
def d222:=cut prog f222 news
@[go_sem] def E222:=qm d222
def F222:=fnC d222 follows func222
def qbj (p:Pk):Bool:=p.kind==1&&qo p
theorem qib (p:Pk) (hp:p.Sm):qh prog 220 [.d (.agg (qf p))] [] (.d (.bool (qbj p))) []:=by
 first|refine F220.go ?_|refine F220.goT ?_
 refine eo1 @qf.eq_1 ?_;first|refine cl F70 (zu p hp.v hp.c) ?_|refine clF F70 (zu p hp.v hp.c) (λ_=>by exact et2 @qf.eq_1 @encQ.eq_1) ?_
 refine ez ?_;rfl
def qix (p q:Pk):Bool:=p.sess==q.sess&&p.from_==q.from_&&p.to==q.to
theorem qom (p q:Pk):qh prog 221 [.d (.agg (qf p)),.d (.agg (qf q))] [] (.d (.bool (qix p q))) []:=by
 first|refine F221.go ?_|refine F221.goT ?_
 refine ez1 @qf.eq_1 ?_;rfl
def qqs (q:Qu) (i:Nat):Bool:=
 qbj (q.items.getD i default)&&qix (q.items.getD i default) (q.items.getD 0 default)&&(q.items.getD i default).seq==IntKind.i64.wrap (IntKind.i64.wrap (q.cons+1)+(i:Int))
def wy (q:Qu):Bool:=qb7 (qqs q) q.items.length&&(decide (q.cons≥0)&&decide (q.cons<=q.acc)&&decide (q.acc<=1099511627776)&&((q.items.length:Int)==IntKind.i64.wrap (q.acc-q.cons))&&decide ((q.items.length:Int)<=4))
def qwv (q:Qu) (i:{i:Nat//qb7 (qqs q) i=true}):St:=
 ⟨[(1,true,.d (.ptr 0 0)),(6,true,.d (.sl 9 (q.items.map qf))),(7,true,.d (.int .i64 q.items.length)),(8,true,.d (.int .i64 (i.val:Nat)))],
  [.row [.d (.int .i64 q.acc),.d (.int .i64 q.cons),.d (.sl 9 (q.items.map qf))]],[],1⟩
theorem zm {α:Type} {l:List α} {i:Nat} (h:i<l.length) (d:α):l.getD i d=l[i]:=by simp[List.getD,h]
theorem qb8 (q:Qu) (l:q.Sm):qh prog 188 [.d (.agg (encQ q))] [] (.d (.bool (wy q))) []:=by
 have hl:=l.1;first|refine F188.go ?_|refine F188.goT ?_
 refine ez1 @encQ.eq_1 ?_;refine qk (qwv q) (λi=>q.items.length-i.val) ⟨0,rfl⟩ ?_ (λi=> ?_)
 ·exact et1 @qwv.eq_1
 ·obtain⟨i,hi⟩:=i;refine ez1 @qwv.eq_1 ?_;refine qy _ rfl rfl (λh=> ?_) (λh=> ?_)
  ·have e:i<q.items.length:=by simpa using h
   have p:0<q.items.length:=by omega
   have hw:IntKind.i64.wrap (IntKind.i64.wrap (q.cons+1)+(i:Int))=IntKind.i64.wrap (IntKind.i64.wrap (q.cons+1)+(i:Int)):=rfl;refine ez4 (qj qf q.items e) (qj qf q.items p) @jFl @qf.eq_1 ?_;refine⟨by omega,?_⟩
   (repeat(with_reducible refine ob ?_));first|refine cl F220 (qib q.items[i] (l.2 _ (jAg e))) ?_|refine clF F220 (qib q.items[i] (l.2 _ (jAg e))) (λ_=>by exact et2 @qf.eq_1 @encQ.eq_1) ?_
   refine ez1 (qj qf q.items p) ?_;refine⟨λ_=>⟨by omega,by omega⟩,by simp[qf],?_⟩;refine eo1 @qf.eq_1 ?_;first|refine cl F221 (qom q.items[i] q.items[0]) ?_|refine clF F221 (qom q.items[i] q.items[0]) (λ_=>by exact et2 @qf.eq_1 @encQ.eq_1) ?_
   refine eo ?_;have hx:(!qbj q.items[i]|| !qix q.items[i] q.items[0]||q.items[i].seq !=IntKind.i64.wrap (IntKind.i64.wrap (q.cons+1)+(i:Int)))= !qqs q i:=by
    simp only[qqs,zm e,zm p,Bool.not_and];rfl
   refine qy (!qqs q i) rfl ?_ (λo=> ?_) (λo=> ?_)
   ·exact et1 @hx
   ·have m:qqs q i=false:=by simpa using o
    exact et2 @wy.eq_1 (qe4 e m)
   ·have m:qqs q i=true:=by simpa using o
    refine ez ?_;refine⟨⟨i+1,y5 hi m⟩,?_,by dsimp only;omega⟩;exact et2 @qwv.eq_1 (qg (show i<9223372036854775807 by omega))
  ·have e:q.items.length<=i:=by simpa using h
   have ha:qb7 (qqs q) q.items.length=true:=zo.2 λj hj=>zo.1 hi j (by omega);refine eo ?_;exact et2 @wy.eq_1 @ha
theorem qe5 (p:Pk) (hp:p.Sm):qh prog 66 [.d (.agg (qf p))] [] (.d (.agg (qf p))) []:=by
 obtain⟨h1,h2⟩:=hp;first|refine F66.go ?_|refine F66.goT ?_
 refine eo1 @qf.eq_1 ?_;first|refine cl F132 (q0d p.values (by omega)) ?_|refine clF F132 (q0d p.values (by omega)) (λ_=>by exact et2 @qf.eq_1 @encQ.eq_1) ?_
 refine eo ?_;first|refine cl F133 (q0e p.clock (by omega)) ?_|refine clF F133 (q0e p.clock (by omega)) (λ_=>by exact et2 @qf.eq_1 @encQ.eq_1) ?_
 exact et
def qww (l:List Pk) (i:{i:Nat//i<=l.length}):St:=
 ⟨[(3,true,.own 0 9 ((l.take i.val).map qf)),(6,true,.d (.sl 9 (l.map qf))),(7,true,.d (.int .i64 l.length)),(8,true,.d (.int .i64 (i.val:Nat)))],[],[0],1⟩
set_option maxRecDepth 10000 in
theorem qqt (l:List Pk) (hl:l.length<=1000) (hp: ∀p∈l,p.Sm):qh Tryz.prog 222 [.d (.sl 9 (l.map qf))] [] (.own 0 9 (l.map qf)) []:=by
 first|refine F222.go ?_|refine F222.goT ?_
 (refine ev ?_;try exact True.intro)
 refine qk (qww l) (fun i=>l.length-i.val) ⟨0,Nat.zero_le _⟩ ?_ (fun i=> ?_)
 ·try(refine ev1 @qww.eq_1 ?_;try exact True.intro)
  trace_state
 ·obtain⟨i,hi⟩:=i
  try(refine ev1 @qww.eq_1 ?_;try exact True.intro)
  refine qy _ rfl rfl (fun h=> ?_) (fun h=> ?_)
  ·have hil:i<l.length:=by simpa using h
   (refine ev2 (qj qf l hil) @qf.eq_1 ?_;try exact True.intro)
   (repeat(with_reducible refine ob ?_))
   (repeat(with_reducible refine ob ?_));first|refine cl F66 (qe5 l[i] (hp _ (List.getElem_mem hil))) ?_|refine clF F66 (qe5 l[i] (hp _ (List.getElem_mem hil))) (fun _=>by(refine ev2 @qf.eq_1 @encQ.eq_1 ?_;try exact True.intro)) ?_
   (refine ev1 @qf.eq_1 ?_;try exact True.intro)
   have hlt:(l.take i).length<=1000:=by simp;omega
   refine⟨⟨by omega,by omega⟩,⟨i+1,hil⟩,?_,by dsimp only;omega⟩
   (refine ev4 @qww.eq_1 (wn qf l hil) @qf.eq_1 (qg (show i<9223372036854775807 by omega)) ?_;try exact True.intro)
  ·have hil:i=l.length:=by
    have:l.length<=i:=by simpa using h
    omega
   subst hil
   try(refine ev1 @List.take_length.{0} ?_;try exact True.intro)
def jj:Qu:=⟨0,0,[]⟩
theorem qkx:qf default= [.int .i64 0,.int .i64 0,.int .i64 0,.int .i64 0,.int .i64 0,.int .i64 0,.int .i64 0,.sl 3 [],.sl 1 []]:=rfl
def d138:=cut prog f138 news
@[go_sem] def E138:=qm d138
def F138:=fnC d138 follows func138
def d15:=cut prog f15 news
@[go_sem] def E15:=qm d15
def F15:=fnC d15 follows func15
def zk (q:Qu) (p:Pk):Qu×Int:=
 if !wy q|| !qbj p||(decide ((q.items.length:Int)>0)&& !qix p (q.items.getD 0 default))then(jj,1)
 else if decide (p.seq<=q.acc)then(jj,21)
 else if decide (p.seq>IntKind.i64.wrap (q.acc+1))then(jj,22)
 else if(q.items.length:Int)==4 then(jj,19)
 else(⟨p.seq,q.cons,q.items++ [p]⟩,0)
set_option maxRecDepth 10000 in
theorem xdv (q:Qu) (p:Pk) (hq:q.Sm) (hp:p.Sm):qh Tryz.prog 138 [.d (.agg (encQ q)),.d (.agg (qf p))] [] (.tup [.d (.agg (encQ (zk q p).1)),.d (.int .i64 (zk q p).2)]) []:=by
 have hl:=hq.1
 first|refine F138.go ?_|refine F138.goT ?_
 (refine ev2 @encQ.eq_1 @qf.eq_1 ?_;try exact True.intro)
 (repeat(with_reducible refine ob ?_));first|refine cl F188 (qb8 q hq) ?_|refine clF F188 (qb8 q hq) (fun _=>by(refine ev2 @qf.eq_1 @encQ.eq_1 ?_;try exact True.intro)) ?_
 try(refine ev ?_;try exact True.intro)
 (repeat(with_reducible refine ob ?_));first|refine cl F220 (qib p hp) ?_|refine clF F220 (qib p hp) (fun _=>by(refine ev2 @qf.eq_1 @encQ.eq_1 ?_;try exact True.intro)) ?_
 obtain⟨acc,cons,items⟩:=q
 cases items with
 |nil=>
  try(refine ev ?_;try exact True.intro)
  (repeat(with_reducible refine ob ?_))
  refine qei (.bool false) rfl ?_
  try(refine ev ?_;try exact True.intro)
  (repeat(with_reducible refine ob ?_))
  refine qy _ rfl rfl (fun h1=> ?_) (fun h1=> ?_)
  ·try(refine ev3 @zk.eq_1 @h1 @jj.eq_1 ?_;try exact True.intro)
  try(refine ev ?_;try exact True.intro)
  refine qy _ rfl rfl (fun h2=> ?_) (fun h2=> ?_)
  ·try(refine ev4 @zk.eq_1 @h1 @h2 @jj.eq_1 ?_;try exact True.intro)
  try(refine ev ?_;try exact True.intro)
  refine qy _ rfl rfl (fun h3=> ?_) (fun h3=> ?_)
  ·try(refine ev5 @zk.eq_1 @h1 @h2 @h3 @jj.eq_1 ?_;try exact True.intro)
  try(refine ev ?_;try exact True.intro)
  refine qy _ rfl rfl (fun h4=> ?_) (fun h4=> ?_)
  ·first|exact Bool.noConfusion h4|try(refine ev6 @zk.eq_1 @h1 @h2 @h3 @h4 @jj.eq_1 ?_;try exact True.intro)
  try(refine ev ?_;try exact True.intro)
  refine qhm (qqt [] hq.1 hq.2) F222.body rfl ⟨by(refine ev2 @qf.eq_1 @encQ.eq_1 ?_;try exact True.intro),by try(refine ev ?_;try exact True.intro),by try(refine ev ?_;try exact True.intro),by try(refine ev ?_;try exact True.intro)⟩ (by try(refine ev ?_;try exact True.intro)) (by simp[ASlot.toks]) ?_
  simp only[qeb,renT,go_sem,Nat.reduceAdd,Nat.reduceMul,Nat.reduceSub,Nat.reduceEqDiff,Nat.reduceLT,Nat.reduceLeDiff,Nat.reduceBEq,reduceIte,reduceCtorEq,Int.reduceAdd,Int.reduceLT,Int.reduceLE,Int.reduceGT,Int.reduceGE,Int.reduceEq,Int.reduceNe,Int.reduceBEq,Int.reduceBNe,Int.reduceToNat,Int.reduceNeg]
  (repeat(with_reducible refine ob ?_));first|refine cl F66 (qe5 p hp) ?_|refine clF F66 (qe5 p hp) (fun _=>by(refine ev2 @qf.eq_1 @encQ.eq_1 ?_;try exact True.intro)) ?_
  (refine ev8 @qf.eq_1 @zk.eq_1 @h1 @h2 @h3 @h4 @beq_self_eq_true.{0} @List.map_append.{0,0} ?_;try exact True.intro)
  try(simp only[List.length_cons]at hl;omega)
 |cons x l=>
  try(refine ev ?_;try exact True.intro)
  refine⟨by simp_all,fun h=>⟨h,by omega⟩,fun h=>⟨h,by simp[qf]⟩,?_⟩
  (refine ev1 @qf.eq_1 ?_;try exact True.intro)
  (repeat(with_reducible refine ob ?_));first|refine cl F221 (qom p x) ?_|refine clF F221 (qom p x) (fun _=>by(refine ev2 @qf.eq_1 @encQ.eq_1 ?_;try exact True.intro)) ?_
  try(refine ev ?_;try exact True.intro)
  (repeat(with_reducible refine ob ?_))
  refine qy _ rfl rfl (fun h1=> ?_) (fun h1=> ?_)
  ·try(refine ev3 @zk.eq_1 @h1 @jj.eq_1 ?_;try exact True.intro)
  try(refine ev ?_;try exact True.intro)
  refine qy _ rfl rfl (fun h2=> ?_) (fun h2=> ?_)
  ·try(refine ev4 @zk.eq_1 @h1 @h2 @jj.eq_1 ?_;try exact True.intro)
  try(refine ev ?_;try exact True.intro)
  refine qy _ rfl rfl (fun h3=> ?_) (fun h3=> ?_)
  ·try(refine ev5 @zk.eq_1 @h1 @h2 @h3 @jj.eq_1 ?_;try exact True.intro)
  try(refine ev ?_;try exact True.intro)
  refine qy _ rfl rfl (fun h4=> ?_) (fun h4=> ?_)
  ·first|exact Bool.noConfusion h4|try(refine ev6 @zk.eq_1 @h1 @h2 @h3 @h4 @jj.eq_1 ?_;try exact True.intro)
  try(refine ev ?_;try exact True.intro)
  refine qhm (qqt (x::l) hq.1 hq.2) F222.body rfl ⟨by(refine ev2 @qf.eq_1 @encQ.eq_1 ?_;try exact True.intro),by try(refine ev ?_;try exact True.intro),by try(refine ev ?_;try exact True.intro),by try(refine ev ?_;try exact True.intro)⟩ (by try(refine ev ?_;try exact True.intro)) (by simp[ASlot.toks]) ?_
  simp only[qeb,renT,go_sem,Nat.reduceAdd,Nat.reduceMul,Nat.reduceSub,Nat.reduceEqDiff,Nat.reduceLT,Nat.reduceLeDiff,Nat.reduceBEq,reduceIte,reduceCtorEq,Int.reduceAdd,Int.reduceLT,Int.reduceLE,Int.reduceGT,Int.reduceGE,Int.reduceEq,Int.reduceNe,Int.reduceBEq,Int.reduceBNe,Int.reduceToNat,Int.reduceNeg]
  (repeat(with_reducible refine ob ?_));first|refine cl F66 (qe5 p hp) ?_|refine clF F66 (qe5 p hp) (fun _=>by(refine ev2 @qf.eq_1 @encQ.eq_1 ?_;try exact True.intro)) ?_
  (refine ev8 @qf.eq_1 @zk.eq_1 @h1 @h2 @h3 @h4 @beq_self_eq_true.{0} @List.map_append.{0,0} ?_;try exact True.intro)
  try(simp only[List.length_cons]at hl;omega)
def yc (q:Qu):Pk×Bool:=match q.items with
 | []=>(default,false)
 |p::_=>(p,true)
theorem xdw (q:Qu) (h:q.Sm):qh prog 15 [.d (.agg (encQ q))] [] (.tup [.d (.agg (qf (yc q).1)),.d (.bool (yc q).2)]) []:=by
 first|refine F15.go ?_|refine F15.goT ?_
 obtain⟨acc,cons,items⟩:=q;cases items with
 |nil=>
  simp only[encQ,yc,qkx,go_sem,simprocAttr];refine qy _ rfl rfl (λe=> ?_) (λe=>Bool.noConfusion e);exact et
 |cons p l=>
  simp only[encQ,yc,go_sem,simprocAttr];refine qy _ rfl rfl (λe=> ?_) (λe=> ?_)
  ·simp at e;omega
  refine eo1 @qf.eq_1 ?_
  (repeat(with_reducible refine ob ?_));first|refine cl F66 (qe5 p (h.2 _ (by simp))) ?_|refine clF F66 (qe5 p (h.2 _ (by simp))) (λ_=>by exact et2 @qf.eq_1 @encQ.eq_1) ?_
  exact et1 @qf.eq_1
attribute [go_sem] List.getD_nil
def d140:=cut prog f140 news
@[go_sem] def E140:=qm d140
def F140:=fnC d140 follows func140
def d100:=cut prog f100 news
@[go_sem] def E100:=qm d100
def F100:=fnC d100 follows func100
def d39:=cut prog f39 news
@[go_sem] def E39:=qm d39
def F39:=fnC d39 follows func39
def xx (q:Qu) (seq:Int):Qu×Int:=
 if !wy q then(jj,1)
 else if decide (seq≥1)&&decide (seq<=q.cons)then(jj,21)
 else if(q.items.length:Int)==0||seq !=(q.items.getD 0 default).seq then(jj,22)
 else(⟨q.acc,seq,q.items.drop 1⟩,0)
theorem q4j (q:Qu) (e:Int) (h:q.Sm):qh prog 140 [.d (.agg (encQ q)),.d (.int .i64 e)] [] (.tup [.d (.agg (encQ (xx q e).1)),.d (.int .i64 (xx q e).2)]) []:=by
 have hl:=h.1;first|refine F140.go ?_|refine F140.goT ?_
 refine eo1 @encQ.eq_1 ?_;first|refine cl F188 (qb8 q h) ?_|refine clF F188 (qb8 q h) (λ_=>by exact et2 @qf.eq_1 @encQ.eq_1) ?_
 refine ez ?_;refine qy _ rfl rfl (λh1=> ?_) (λh1=> ?_)
 ·exact et3 @xx.eq_1 @h1 @jj.eq_1
 refine eo ?_;refine qy _ rfl rfl (λh2=> ?_) (λh2=> ?_)
 ·exact et4 @xx.eq_1 @h1 @h2 @jj.eq_1
 obtain⟨acc,cons,items⟩:=q;cases items with
 |nil=>
  refine eo ?_;refine qy _ rfl rfl (λh3=> ?_) (λh3=> ?_)
  ·exact et4 @xx.eq_1 @h1 @h2 @jj.eq_1
  ·exact Bool.noConfusion h3
 |cons x l=>
  refine eo1 @qf.eq_1 ?_;refine qy _ rfl rfl (λh3=> ?_) (λh3=> ?_)
  ·exact et5 @xx.eq_1 @h1 @h2 @h3 @jj.eq_1
  refine ez1 @qf.eq_1 ?_;refine⟨by omega,?_⟩;simp only[List.length_cons]at hl;refine qhm (qqt l (by omega) (λp hp=>h.2 p (jA9 _ hp))) F222.body rfl ⟨by(refine ev2 @qf.eq_1 @encQ.eq_1 ?_;try exact⟨⟩),by try(refine ev ?_;try exact⟨⟩),by try(refine ev ?_;try exact⟨⟩),by try(refine ev ?_;try exact⟨⟩)⟩ (by exact et) (by simp[ASlot.toks]) ?_
  simp only[qeb,renT,xx,h1,h2,h3,go_sem,simprocAttr]
def eqAt {α:Type} (f:α->α->Bool) (l m:List α) (i:Nat):Bool:=match l[i]?,m[i]?with|some x,some y=>f x y| _,_=>true
def eqBy {α:Type} (f:α->α->Bool) (l m:List α):Bool:=l.length==m.length&&qb7 (eqAt f l m) l.length
theorem xdx {α:Type} [DecidableEq α] (l m:List α):eqBy (λx y=>decide (x=y)) l m=decide (l=m):=by
 rw[jBm];simp only[eqBy,jAf,beq_iff_eq,zo,decide_eq_true_eq];constructor
 ·rintro⟨h1,h2⟩;refine jE3 h1 λi hi hj=> ?_;have:=h2 i hi;simpa[eqAt,hi,hj]using this
 ·rintro rfl;refine⟨rfl,λi hi=> ?_⟩;simp[eqAt,hi]
def Seqf (l m:List Pk) (k:FuncId) (i:{i:Nat//qb7 (eqAt (λx y=>decide (x=y)) l m) i=true}):St:=
 ⟨[(1,true,.d (.sl 9 (m.map qf))),(2,true,.d (.func (.func k) [] [])),(15,true,.d (.sl 9 (l.map qf))),(16,true,.d (.int .i64 l.length)),(17,true,.d (.int .i64 (i.val:Nat)))],[],[],1⟩
theorem q6y (l m:List Pk) (hl:l.length<=1000) (hp: ∀p∈l,p.Sm):
  qh prog 100 [.d (.sl 9 (l.map qf)),.d (.sl 9 (m.map qf)),.d (.func (.func 17) [] [])] [] (.d (.bool (decide (l=m)))) []:=by
 first|refine F100.go ?_|refine F100.goT ?_
 refine ez ?_;refine qy _ rfl rfl (λh=> ?_) (λh=> ?_)
 ·have hne:decide (l=m)=false:=by rw[decide_eq_false_iff_not];rintro rfl;simp at h
  exact et1 @hne
 ·have q:l.length=m.length:=by simp at h;omega
  refine ez ?_;refine qk (Seqf l m 17) (λi=>l.length-i.val) ⟨0,rfl⟩ ?_ (λi=> ?_)
  ·exact et1 @Seqf.eq_1
  ·obtain⟨i,hi⟩:=i;refine ez1 @Seqf.eq_1 ?_;refine qy _ rfl rfl (λh=> ?_) (λh=> ?_)
   ·have e:i<l.length:=by simpa using h
    have o:i<m.length:=by omega
    refine eo3 (qj qf l e) (qj qf m o) @qf.eq_1 ?_
    (repeat(with_reducible refine ob ?_));first|refine cl F17 (qmc l[i] m[i] (hp _ (jAg e)).v (hp _ (jAg e)).c) ?_|refine clF F17 (qmc l[i] m[i] (hp _ (jAg e)).v (hp _ (jAg e)).c) (λ_=>by exact et2 @qf.eq_1 @encQ.eq_1) ?_
    refine ez ?_;refine qy _ rfl rfl (λt=> ?_) (λt=> ?_)
    ·have hne:l[i]≠m[i]:=by simpa using t
     exact et1 (qwu e o hne)
    ·have he:l[i]=m[i]:=by simpa using t
     refine ez ?_;refine⟨⟨i+1,y5 hi (by simp[eqAt,e,o,he])⟩,?_,by dsimp only;omega⟩;exact et2 @Seqf.eq_1 (qg (show i<9223372036854775807 by omega))
   ·have he:decide (l=m)=true:=by
     have:l.length<=i:=by simpa using h
     rw[<- xdx];simp only[eqBy,q,beq_self_eq_true,jCr];exact zo.2 λj hj=>zo.1 hi j (by omega)
    exact et1 @he
theorem xry (a b:Qu):(a.acc==b.acc&&a.cons==b.cons&&decide (a.items=b.items))=decide (a=b):=by
 obtain⟨a1,a2,a3⟩:=a;obtain⟨b1,b2,b3⟩:=b;rw[jBm];simp[and_assoc]
theorem xdy (a b:Qu) (e:a.Sm):qh prog 39 [.d (.agg (encQ a)),.d (.agg (encQ b))] [] (.d (.bool (decide (a=b)))) []:=by
 first|refine F39.go ?_|refine F39.goT ?_
 refine eo1 @encQ.eq_1 ?_;first|refine cl F100 (q6y a.items b.items e.1 e.2) ?_|refine clF F100 (q6y a.items b.items e.1 e.2) (λ_=>by exact et2 @qf.eq_1 @encQ.eq_1) ?_
 refine ez ?_;exact xry a b
end Go.Proofs.YtkcdbcbpbolgkaaGreatDoor
