/- Texts Ca, Wa, Cb, Wb, Wc, Cc, Cd, Ce, Cf. -/
import Derived.Test.YtkcdbcbpbolgkaaGreatDoorMwl
import Derived.Test.YtkcdbcbpbolgkaaGreatDoorProg
import Derived.KernelRfl
set_option linter.unusedSimpArgs false
set_option linter.unusedVariables false
set_option linter.defProp false
set_option maxRecDepth 100000
noncomputable section
namespace Go.Proofs.YtkcdbcbpbolgkaaGreatDoor
open Tryz
open Go.Abs
def news:List (FuncId×Nat):= [(141,5),(160,1),(177,1),(28,2),(105,2),(29,1),(86,1),(359,2),(64,1),(45,5),(139,1),(102,1),(71,1),(72,1),(73,1),(21,1),(41,1),(14,1),(47,5),(13,5)]
theorem follows:prog.follows .mixedOrders=true:=by kernel_rfl
structure AV where
 kind:Int
 n:Int
 s:List UInt8
 deriving DecidableEq,Inhabited
def zw (v:AV):List D:= [.int .i64 v.kind,.int .i64 v.n,.str v.s]
theorem qah (v:AV):D.noPtrL (zw v)=true:=rfl
def encI (n:Int):List D:= [.int .i64 n]
theorem qdb (n:Int):D.noPtrL (encI n)=true:=rfl
structure Pk where
 kind:Int
 sess:Int
 epoch:Int
 from_:Int
 to:Int
 seq:Int
 label:Int
 values:List AV
 clock:List Int
 deriving DecidableEq,Inhabited
def qi (p:Pk):List D:= [.int .i64 p.kind,.int .i64 p.sess,.int .i64 p.epoch,.int .i64 p.from_,.int .i64 p.to,.int .i64 p.seq,.int .i64 p.label,.sl 3 (p.values.map zw),.sl 1 (p.clock.map encI)]
theorem qfa (p:Pk):D.noPtrL (qi p)=true:=by
 simp only[qi,D.noPtrL,D.noPtr,zg qah,zg qdb,jBu]
theorem xgx (l:List AV):D.noPtrR (l.map zw)=true:=zg qah l
theorem xnn (l:List Int):D.noPtrR (l.map encI)=true:=zg qdb l
theorem xgy (l:List Pk):D.noPtrR (l.map qi)=true:=zg qfa l
attribute [go_sem] qah qdb qfa xgx xnn xgy
def d219:=cut prog f219 news
@[go_sem] def E219:=qj d219
def F219:=fnC d219 follows func219
def d215:=cut prog f215 news
@[go_sem] def E215:=qj d215
def F215:=fnC d215 follows func215
def d212:=cut prog f212 news
@[go_sem] def E212:=qj d212
def F212:=fnC d212 follows func212
def d218:=cut prog f218 news
@[go_sem] def E218:=qj d218
def F218:=fnC d218 follows func218
def d136:=cut prog f136 news
@[go_sem] def E136:=qj d136
def F136:=fnC d136 follows func136
def d137:=cut prog f137 news
@[go_sem] def E137:=qj d137
def F137:=fnC d137 follows func137
def d214:=cut prog f214 news
@[go_sem] def E214:=qj d214
def F214:=fnC d214 follows func214
def d217:=cut prog f217 news
@[go_sem] def E217:=qj d217
def F217:=fnC d217 follows func217
def role (n:Int):Bool:=decide (n≥0)&&decide (n<6)
theorem q6w (n:Int):qf prog 219 [.d (.int .i64 n)] [] (.d (.bool (role n))) []:=by
 refine F219.go ?_;refine ez ?_;rfl
def qbz (v:AV):Bool:=if v.kind==1 then v.s== []else if v.kind==2 then v.n==0&&decide ((v.s.length:Int)<=40)else false
theorem xgz (v:AV):qf prog 215 [.d (.agg (zw v))] [] (.d (.bool (qbz v))) []:=by
 refine F215.go ?_;refine ez1 @zw.eq_1 ?_;refine qt _ rfl rfl (λh=> ?_) (λh=> ?_)
 ·exact et2 @qbz.eq_1 @h
 ·refine ez ?_;refine qt _ rfl rfl (λh2=> ?_) (λh2=> ?_)
  ·exact et3 @qbz.eq_1 @h @h2
  ·exact et3 @qbz.eq_1 @h @h2
def qdi (p:Pk):Bool:=role p.from_&&role p.to&&p.from_ !=p.to&&decide (p.seq≥1)&&decide (p.seq<=1099511627776)
theorem qrx (p:Pk):qf prog 212 [.d (.agg (qi p))] [] (.d (.bool (qdi p))) []:=by
 refine F212.go ?_;refine ez1 @qi.eq_1 ?_;refine zf (q6w _) F219.body (λh=>h) (λ_=>⟨qo,trivial⟩) rfl rfl rfl ?_;refine ez ?_;refine zf (q6w _) F219.body (λh=>h) (λ_=>⟨qo,trivial⟩) rfl rfl rfl ?_;refine ez ?_;rfl
def bare (p:Pk):Bool:=p.epoch==0&&(p.values.length:Int)==0&&(p.clock.length:Int)==0
theorem xg0 (p:Pk):qf prog 218 [.d (.agg (qi p))] [] (.d (.bool (bare p))) []:=by
 refine F218.go ?_;refine ez1 @qi.eq_1 ?_;rfl
theorem qfy (p:Pk):([ASlot.d (.agg (qi p))].all ASlot.noPtr)=true:=by
 simp only[jCx,List.all_nil,ASlot.noPtr,D.noPtr,qfa,jBu]
def ack (p:Pk):Bool:=qdi p&&bare p&&p.label==0
theorem xwu (p:Pk):qf prog 136 [.d (.agg (qi p))] [] (.d (.bool (ack p))) []:=by
 refine F136.go ?_;refine ez1 @qi.eq_1 ?_;refine zf (qrx p) F212.body (λh=>h) (λ_=>⟨qo,trivial⟩) (qfy p) rfl rfl ?_;refine ez ?_;refine zf (xg0 p) F218.body (λh=>h) (λ_=>⟨qo,trivial⟩) (qfy p) rfl rfl ?_;refine ez ?_;rfl
def order (p:Pk):Bool:=role p.from_&&(p.label==1||p.label==2)&&bare p&&p.to==0&&p.seq==0
theorem q9q (p:Pk):qf prog 137 [.d (.agg (qi p))] [] (.d (.bool (order p))) []:=by
 refine F137.go ?_;refine ez1 @qi.eq_1 ?_;refine zf (q6w _) F219.body (λh=>h) (λ_=>⟨qo,trivial⟩) rfl rfl rfl ?_;refine ez ?_;refine⟨by simp_all,?_⟩;refine zf (xg0 p) F218.body (λh=>h) (λ_=>⟨qo,trivial⟩) (qfy p) rfl rfl ?_;refine ez ?_;rfl
theorem xno (v:AV):qf prog 214 [.d (.agg (zw v))] [] (.d (.bool (!qbz v))) []:=by
 refine F214.go ?_;refine ez1 @zw.eq_1 ?_;refine zf (xgz v) F215.body (λh=>h) (λ_=>⟨qo,trivial⟩) rfl rfl rfl ?_;exact et
theorem xnp (n:Int):qf prog 217 [.d (.int .i64 n)] [] (.d (.bool (decide (n<0)||decide (n>1099511627776)))) []:=by
 refine F217.go ?_;refine ez ?_;intro h;rw[h];rfl
theorem jz (s:List UInt8):D.noPtrR (qd s)=true:=zg (λ_=>rfl) s
theorem qx (s t:List UInt8):qd s++qd t=qd (s++t):=by simp[qd]
theorem qce (c:UInt8): [[D.int .u8 (c.toNat:Int)]]=qd [c]:=rfl
theorem kg (s:List UInt8):(qd s).length=s.length:=by simp[qd]
theorem qk:qd []= []:=rfl
attribute [go_sem] jz kg
attribute [go_sem] qk
def qeg (u:Nat):List UInt8:=if u<128 then [UInt8.ofNat u]else UInt8.ofNat (u%128+128)::qeg (u/128)
def zz (n:Int):Nat:=if 0<=n then(2*n).toNat else(-2*n-1).toNat
def wInt (n:Int):List UInt8:=qeg (zz n)
def I64 (n:Int):Prop:= -9223372036854775808<=n∧n<=9223372036854775807
theorem qni: ∀(k u:Nat),u<128^(k+1) ->(qeg u).length<=k+1
 |0,u,h=>by rw[qeg,if_pos (by simpa using h)];simp
 |k+1,u,h=>by
  rw[qeg];split
  ·simp
  ·have:=qni k (u/128) (by rw[Nat.div_lt_iff_lt_mul (by decide)];rw[jCi]at h;exact h);simp;omega
theorem xnq {n:Int} (h:I64 n):zz n<18446744073709551616:=by
 obtain⟨h1,h2⟩:=h;unfold zz;split<;>omega
theorem xg {n:Int} (h:I64 n):(wInt n).length<=10:=qni 9 _ (jBw (xnq h) (by decide))
theorem qpx (n:Int):0<(wInt n).length:=by unfold wInt;rw[qeg];split<;>simp
theorem qip (n:Int):IntKind.u8.wrap n=n%256:=by simp[IntKind.wrap,IntKind.bits,IntKind.signed]
theorem qki (a:Nat) (h:a<2^64):((BitVec.ofInt 64 (a:Int))^^^(BitVec.ofInt 64 18446744073709551615)).toNat=18446744073709551615-a:=by
 have e1:BitVec.ofInt 64 18446744073709551615=BitVec.allOnes 64:=by decide
 have e2:BitVec.ofInt 64 (a:Int)=BitVec.ofNat 64 a:=by simp
 rw[e1,e2,BitVec.xor_allOnes,BitVec.toNat_not,BitVec.toNat_ofNat,jBy h]
theorem xzd {n:Int} (h:I64 n):IntKind.u64.wrap (q0m 64 (IntKind.u64.wrap (IntKind.u64.wrap n*2^min 1 64)) (IntKind.u64.wrap (n.fdiv (2^min 63 64))))=(zz n:Int):=by
 unfold q0m;obtain⟨h1,h2⟩:=h;have hf:n.fdiv (2^min 63 64)=if 0<=n then 0 else-1:=by
  show n.fdiv 9223372036854775808=_;rw[jDc _ (by decide)];split<;>omega
 have d: ∀m:Int,IntKind.u64.wrap m=m%18446744073709551616:=λm=>by simp[IntKind.wrap,IntKind.bits,IntKind.signed]
 have e:=xnq ⟨h1,h2⟩;have hp:(2:Int)^min 1 64=2:=rfl;rw[hf,hp];by_cases hn:0<=n
 ·rw[if_pos hn];have l:BitVec.ofInt 64 (IntKind.u64.wrap 0)=0#64:=by rw[d];rfl
  have i:IntKind.u64.wrap (IntKind.u64.wrap n*2)=((zz n:Nat):Int):=by rw[d,d];unfold zz;rw[if_pos hn];omega
  rw[l,i,BitVec.xor_zero,BitVec.ofInt_natCast,BitVec.toNat_ofNat,jBy e,d];omega
 ·rw[if_neg hn];have l:IntKind.u64.wrap (-1)=18446744073709551615:=by rw[d];rfl
  have i:IntKind.u64.wrap (IntKind.u64.wrap n*2)=((18446744073709551615-zz n:Nat):Int):=by rw[d,d];unfold zz at e⊢;rw[if_neg hn]at e⊢;omega
  rw[l,i,qki _ (by show _<18446744073709551616;omega),d];unfold zz at e⊢;rw[if_neg hn]at e⊢;omega
theorem xnr (u:Nat):(IntKind.u8.wrap (bvOr 8 (IntKind.u8.wrap (u:Int)) 128))=((UInt8.ofNat (u%128+128)).toNat:Int):=by
 unfold bvOr;have d: ∀m:Int,IntKind.u8.wrap m=m%256:=λm=>by simp[IntKind.wrap,IntKind.bits,IntKind.signed]
 have e1:BitVec.ofInt 8 (IntKind.u8.wrap (u:Int))=BitVec.ofNat 8 (u%256):=by rw[d,show((u:Int)%256)=((u%256:Nat):Int) by omega,BitVec.ofInt_natCast]
 have key: ∀x:Fin 256,(BitVec.ofNat 8 x.val|||BitVec.ofInt 8 128).toNat=x.val%128+128:=by decide+kernel
 have:=key ⟨u%256,jC6 _ (by decide)⟩;simp only at this;rw[e1,this,d];simp only[UInt8.toNat_ofNat'];omega
theorem qfb {u:Nat} (h: ¬u<128):qeg u=UInt8.ofNat (u%128+128)::qeg (u/128):=by rw[qeg,if_neg h]
theorem qdc {u:Nat} (h:u<128):qeg u= [UInt8.ofNat u]:=by rw[qeg,if_pos h]
theorem x0s (u:Nat):(u:Int).fdiv (2^min 7 64)=((u/128:Nat):Int):=by
 show(u:Int).fdiv 128=_;rw[jDc _ (by decide)];omega
theorem qx5 (u:Nat):IntKind.u8.wrap (u:Int)=((UInt8.ofNat u).toNat:Int):=by
 rw[qip _,UInt8.toNat_ofNat'];omega
def d147:=cut prog f147 news
@[go_sem] def E147:=qj d147
def F147:=fnC d147 follows func147
def d156:=cut prog f156 news
@[go_sem] def E156:=qj d156
def F156:=fnC d156 follows func156
def d157:=cut prog f157 news
@[go_sem] def E157:=qj d157
def F157:=fnC d157 follows func157
def d155:=cut prog f155 news
@[go_sem] def E155:=qj d155
def F155:=fnC d155 follows func155
def xns (b:List UInt8) (n:Int) (i:{i:List UInt8×Nat//i.1++qeg i.2=b++wInt n}):St:=
 ⟨[(0,true,.own 0 1 (qd i.val.1)),(5,true,.d (.int .u64 (i.val.2:Nat)))],[],[0],1⟩
theorem k8 (b:List UInt8) (n:Int) (hb:b.length<=1000000000) (hn:I64 n):qf prog 147 [.own 0 1 (qd b),.d (.int .i64 n)] [] (.own 0 1 (qd (b++wInt n))) []:=by
 refine F147.go ?_;refine ez1 (xzd hn) ?_;refine qg (xns b n) (λi=>i.val.2) ⟨(b,zz n),rfl⟩ ?_ (λi=> ?_)
 ·exact et1 @xns.eq_1
 obtain⟨⟨p,u⟩,hi⟩:=i;have hl:p.length<=1000000010:=by
  have:=congrArg List.length hi;have:=xg hn;simp at*;omega
 refine eo1 @xns.eq_1 ?_;refine xf _ (λh=> ?_) (λh=> ?_)
 ·have e: ¬u<128:=by simp at h;omega
  refine eo4 @xnr @qce @qx @x0s ?_;refine⟨⟨(p++ [UInt8.ofNat (u%128+128)],u/128),?_⟩,?_,?_⟩
  ·simp only at hi⊢;rw[qfb e]at hi;rw[<- hi];simp
  ·exact et1 @xns.eq_1
  ·simp only;omega
 ·have e:u<128:=by simp at h;omega
  refine eo3 @qx5 @qce @qx ?_;simp only[qdc e]at hi;exact et1 @hi
theorem qry (b:List UInt8) (v:Bool) (hb:b.length<=1000000000):qf prog 156 [.own 0 1 (qd b),.d (.bool v)] [] (.own 0 1 (qd (b++ [if v then 1 else 0]))) []:=by
 refine F156.go ?_;refine ez ?_;have e1: [[D.int .u8 1]]=qd [1]:=rfl;have e0: [[D.int .u8 0]]=qd [0]:=rfl;cases v with
 |true=>
  refine eo ?_;refine ya ?_;simp only[e1,qx,if_true,go_sem,simprocAttr];omega
 |false=>
  refine eo ?_;refine no_ ?_;refine ez2 @e0 @qx ?_;omega
def qbm (s:List UInt8):List UInt8:=wInt s.length++s
theorem x7 {n:Nat} (h:n<=9000000000000000000):I64 n:=by unfold I64;omega
theorem qks (b s:List UInt8) (hb:b.length+s.length<=900000000):qf prog 157 [.own 0 1 (qd b),.d (.str s)] [] (.own 0 1 (qd (b++qbm s))) []:=by
 refine F157.go ?_;refine ez ?_;refine clA F147 (k8 b s.length (by omega) (x7 (by omega))) ?_;refine ez ?_;have hl:=xg (x7 (n:=s.length) (by omega));have e:qd (b++wInt s.length)++qd s=qd (b++qbm s):=by rw[qx,qbm,jAh]
 refine ez2 @e @jAc.{0} ?_;refine⟨by omega,by omega⟩
theorem qow (b s:List UInt8) (hb:b.length+s.length<=900000000):qf prog 155 [.own 0 1 (qd b),.d (.sl 1 (qd s))] [] (.own 0 1 (qd (b++qbm s))) []:=by
 refine F155.go ?_;refine ez ?_;refine clA F147 (k8 b s.length (by omega) (x7 (by omega))) ?_;refine ez ?_;have hl:=xg (x7 (n:=s.length) (by omega));have e:qd (b++wInt s.length)++qd s=qd (b++qbm s):=by rw[qx,qbm,jAh]
 refine ez2 @e @jAc.{0} ?_;refine⟨by omega,by omega⟩
def idx {α:Type} (f:α->Bool) (l:List α):Int:=if l.any f then(l.findIdx f:Int)else-1
theorem qfz {α:Type} {f:α->Bool} {l:List α} {i:Nat} (h:(l.take i).any f=false) (hi:l.length<=i):idx f l= -1:=by
 rw[jAq hi]at h;simp[idx,h]
theorem qf0 {α:Type} {f:α->Bool} {l:List α} {i:Nat} (h:(l.take i).any f=false) (hi:i<l.length) (e:f l[i]=true):idx f l=(i:Int):=by
 have ha:l.any f=true:=jB3.2 ⟨l[i],jAg hi,e⟩;have hx:l.findIdx f=i:=by
  rw[List.findIdx_eq hi];refine⟨e,λj hj=> ?_⟩;rw[jD3]at h;have d:j<(l.take i).length:=by simp;omega
  have:=h (l.take i)[j] (jAg d);simpa using this
 simp[idx,ha,hx]
theorem v8 {α:Type} {f:α->Bool} {l:List α} {i:Nat} (h:(l.take i).any f=false) (hi:i<l.length) (hf:f l[i]=false):(l.take (i+1)).any f=false:=by
 rw[jAk hi,List.any_append,h];simp[hf]
theorem qvc {α:Type} (f:α->Bool) (l:List α):decide (idx f l≥0)=l.any f:=by
 unfold idx;cases l.any f<;>simp
def d267:=cut prog f267 news
@[go_sem] def E267:=qj d267
def F267:=fnC d267 follows func267
def d268:=cut prog f268 news
@[go_sem] def E268:=qj d268
def F268:=fnC d268 follows func268
def d213:=cut prog f213 news
@[go_sem] def E213:=qj d213
def F213:=fnC d213 follows func213
def d216:=cut prog f216 news
@[go_sem] def E216:=qj d216
def F216:=fnC d216 follows func216
def Sidx {α:Type} (es:Nat) (enc:α->List D) (k:FuncId) (l:List α) (f:α->Bool) (i:{i:Nat//(l.take i).any f=false}):St:=
 ⟨[(0,true,.d (.sl es (l.map enc))),(1,true,.d (.func (.func k) [] [])),(6,true,.d (.sl es (l.map enc))),(7,true,.d (.int .i64 l.length)),(8,true,.d (.int .i64 (i.val:Nat)))],[],[],1⟩
theorem xg1 {k:FuncId} {f:AV->Bool} (hb:(prog.funcs[k]?).any (λfn=>fn.body.isSome&& !(fn.name== "runtime.NumGoroutine"))=true)
  (hf: ∀v,qf prog k [.d (.agg (zw v))] [] (.d (.bool (f v))) []) (l:List AV) (hl:l.length<=maxLen):
  qf prog 267 [.d (.sl 3 (l.map zw)),.d (.func (.func k) [] [])] [] (.d (.int .i64 (idx f l))) []:=by
 refine F267.go ?_;refine ez ?_;refine qg (Sidx 3 zw k l f) (λi=>l.length-i.val) ⟨0,rfl⟩ ?_ (λi=> ?_)
 ·exact et2 @Sidx.eq_1 (zg qah)
 ·obtain⟨i,hi⟩:=i;refine ez1 @Sidx.eq_1 ?_;refine qt _ rfl rfl (λh=> ?_) (λh=> ?_)
  ·have e:i<l.length:=by simpa using h
   refine ez2 (qh zw l e) @zw.eq_1 ?_;refine⟨by omega,?_⟩;refine zf (hf l[i]) hb (λh=>h) (λ_=>⟨qo,trivial⟩) rfl rfl rfl ?_;refine ez ?_;refine qt _ rfl rfl (λm=> ?_) (λm=> ?_)
   ·exact et1 (qf0 hi e m)
   ·refine ez ?_;refine⟨⟨i+1,v8 hi e m⟩,?_,by dsimp only;omega⟩;exact et3 @Sidx.eq_1 (qe (show i<9223372036854775807 by unfold maxLen at hl;omega)) (zg qah)
  ·have e:l.length<=i:=by simpa using h
   exact et1 (qfz hi e)
theorem xg2 {k:FuncId} {f:Int->Bool} (hb:(prog.funcs[k]?).any (λfn=>fn.body.isSome&& !(fn.name== "runtime.NumGoroutine"))=true)
  (hf: ∀v,qf prog k [.d (.int .i64 v)] [] (.d (.bool (f v))) []) (l:List Int) (hl:l.length<=maxLen):
  qf prog 268 [.d (.sl 1 (l.map encI)),.d (.func (.func k) [] [])] [] (.d (.int .i64 (idx f l))) []:=by
 refine F268.go ?_;refine ez ?_;refine qg (Sidx 1 encI k l f) (λi=>l.length-i.val) ⟨0,rfl⟩ ?_ (λi=> ?_)
 ·exact et2 @Sidx.eq_1 (zg qdb)
 ·obtain⟨i,hi⟩:=i;refine ez1 @Sidx.eq_1 ?_;refine qt _ rfl rfl (λh=> ?_) (λh=> ?_)
  ·have e:i<l.length:=by simpa using h
   refine ez2 (qh encI l e) @encI.eq_1 ?_;refine⟨by omega,?_⟩;refine zf (hf l[i]) hb (λh=>h) (λ_=>⟨qo,trivial⟩) rfl rfl rfl ?_;refine ez ?_;refine qt _ rfl rfl (λm=> ?_) (λm=> ?_)
   ·exact et1 (qf0 hi e m)
   ·refine ez ?_;refine⟨⟨i+1,v8 hi e m⟩,?_,by dsimp only;omega⟩;exact et3 @Sidx.eq_1 (qe (show i<9223372036854775807 by unfold maxLen at hl;omega)) (zg qdb)
  ·have e:l.length<=i:=by simpa using h
   exact et1 (qfz hi e)
theorem q2a {k:FuncId} {f:AV->Bool} (hb:(prog.funcs[k]?).any (λfn=>fn.body.isSome&& !(fn.name== "runtime.NumGoroutine"))=true)
  (hf: ∀v,qf prog k [.d (.agg (zw v))] [] (.d (.bool (f v))) []) (l:List AV) (hl:l.length<=maxLen):
  qf prog 213 [.d (.sl 3 (l.map zw)),.d (.func (.func k) [] [])] [] (.d (.bool (l.any f))) []:=by
 refine F213.go ?_;refine ez ?_;refine zf (xg1 hb hf l hl) F267.body (λh=>h) (λ_=>⟨qo,qo,trivial⟩) (by simp[ASlot.noPtr,D.noPtr,D.noPtrL,zg qah]) rfl rfl ?_;exact et1 @qvc
theorem q2b {k:FuncId} {f:Int->Bool} (hb:(prog.funcs[k]?).any (λfn=>fn.body.isSome&& !(fn.name== "runtime.NumGoroutine"))=true)
  (hf: ∀v,qf prog k [.d (.int .i64 v)] [] (.d (.bool (f v))) []) (l:List Int) (hl:l.length<=maxLen):
  qf prog 216 [.d (.sl 1 (l.map encI)),.d (.func (.func k) [] [])] [] (.d (.bool (l.any f))) []:=by
 refine F216.go ?_;refine ez ?_;refine zf (xg2 hb hf l hl) F268.body (λh=>h) (λ_=>⟨qo,qo,trivial⟩) (by simp[ASlot.noPtr,D.noPtr,D.noPtrL,zg qdb]) rfl rfl ?_;exact et1 @qvc
def d135:=cut prog f135 news
@[go_sem] def E135:=qj d135
def F135:=fnC d135 follows func135
def d70:=cut prog f70 news
@[go_sem] def E70:=qj d70
def F70:=fnC d70 follows func70
def data (p:Pk):Bool:=qdi p&&(p.epoch==0||p.epoch==1)&&decide (p.label≥0)&&decide (p.label<40)&&decide ((p.values.length:Int)<=4)&&decide ((p.clock.length:Int)<=6)&& !(p.values.any λv=> !qbz v)&& !(p.clock.any λn=>decide (n<0)||decide (n>1099511627776))
theorem xtt (p:Pk) (h1:p.values.length<=maxLen) (h2:p.clock.length<=maxLen):qf prog 135 [.d (.agg (qi p))] [] (.d (.bool (data p))) []:=by
 refine F135.go ?_;refine ez1 @qi.eq_1 ?_;refine zf (qrx p) F212.body (λh=>h) (λ_=>⟨qo,trivial⟩) (qfy p) rfl rfl ?_;refine ez ?_;refine⟨by simp_all,?_⟩;refine zf (q2a F214.body xno p.values h1) F213.body (λh=>h) (λ_=>⟨qo,qo,trivial⟩) (by simp[ASlot.noPtr,D.noPtr,D.noPtrL,zg qah]) rfl rfl ?_;refine ez ?_;refine zf (q2b F217.body xnp p.clock h2) F216.body (λh=>h) (λ_=>⟨qo,qo,trivial⟩) (by simp[ASlot.noPtr,D.noPtr,D.noPtrL,zg qdb]) rfl rfl ?_;refine ez ?_;rfl
def qf1 (p:Pk):Bool:=decide (p.kind≥1)&&decide (p.kind<=4)&&decide (p.sess≥1)&&decide (p.sess<=32)
def qm (p:Pk):Bool:=qf1 p&&(if p.kind=1 then data p else if p.kind=2 then ack p else order p)
theorem wh (p:Pk) (h1:p.values.length<=maxLen) (h2:p.clock.length<=maxLen):qf prog 70 [.d (.agg (qi p))] [] (.d (.bool (qm p))) []:=by
 refine F70.go ?_;refine ez1 @qi.eq_1 ?_;have hk:(decide (p.kind≥1)&&decide (p.kind<=4)&&decide (p.sess≥1)&&decide (p.sess<=32))=qf1 p:=rfl;simp only[hk];cases hG:qf1 p with
 |false=>
  refine ez ?_;refine qa9 (.bool false) rfl ?_;exact et2 @qm.eq_1 @hG
 |true=>
  have h4:p.kind=1∨p.kind=2∨p.kind=3∨p.kind=4:=by simp[qf1]at hG;omega
  rcases h4 with hp|hp|hp|hp<;>simp only[hp,Int.reduceToNat,Int.reduceLE,Int.reduceLT,go_sem,simprocAttr]
  ·refine zf (xtt p h1 h2) F135.body (λh=>h) (λ_=>⟨by simp[qcq,ASlot.eqvD,D.eqv_refl,qi,hp],trivial⟩) (qfy p) rfl rfl ?_;exact et3 @qm.eq_1 @hG @hp
  ·refine zf (xwu p) F136.body (λh=>h) (λ_=>⟨by simp[qcq,ASlot.eqvD,D.eqv_refl,qi,hp],trivial⟩) (qfy p) rfl rfl ?_;exact et3 @qm.eq_1 @hG @hp
  ·refine zf (q9q p) F137.body (λh=>h) (λ_=>⟨by simp[qcq,ASlot.eqvD,D.eqv_refl,qi,hp],trivial⟩) (qfy p) rfl rfl ?_;exact et3 @qm.eq_1 @hG @hp
  ·refine zf (q9q p) F137.body (λh=>h) (λ_=>⟨by simp[qcq,ASlot.eqvD,D.eqv_refl,qi,hp],trivial⟩) (qfy p) rfl rfl ?_;exact et3 @qm.eq_1 @hG @hp
structure OpS where
 key:List UInt8
 del:Bool
 val:List UInt8
 deriving DecidableEq,Inhabited
def xp (o:OpS):List D:= [.str o.key,.bool o.del,.sl 1 (qd o.val)]
theorem qkt (o:OpS):D.noPtrL (xp o)=true:=by simp only[xp,D.noPtrL,D.noPtr,jz,jBu]
theorem qct (l:List OpS):D.noPtrR (l.map xp)=true:=zg qkt l
attribute [go_sem] qkt qct
def d154:=cut prog f154 news
@[go_sem] def E154:=qj d154
def F154:=fnC d154 follows func154
def d153:=cut prog f153 news
@[go_sem] def E153:=qj d153
def F153:=fnC d153 follows func153
def d231:=cut prog f231 news
@[go_sem] def E231:=qj d231
def F231:=fnC d231 follows func231
def d152:=cut prog f152 news
@[go_sem] def E152:=qj d152
def F152:=fnC d152 follows func152
def d85:=cut prog f85 news
@[go_sem] def E85:=qj d85
def F85:=fnC d85 follows func85
def k9 (o:OpS):Bool:=decide ((o.key.length:Int)≥1)&&decide ((o.key.length:Int)<=40)&&decide ((o.val.length:Int)<=900)&& !(o.del&&decide ((o.val.length:Int)>0))
theorem xcq (o:OpS):qf prog 154 [.d (.agg (xp o))] [] (.d (.bool (k9 o))) []:=by
 refine F154.go ?_;refine ez1 @xp.eq_1 ?_;simp only[k9,and_true];intro h;refine⟨h,λh2=> ?_⟩;rw[h,h2];rfl
theorem qvd (o:OpS):qf prog 153 [.d (.agg (xp o))] [] (.d (.bool (!k9 o))) []:=by
 refine F153.go ?_;refine eo1 @xp.eq_1 ?_;refine cl F154 (xcq o) ?_;exact et
def xnt (k:FuncId) (l:List OpS) (f:OpS->Bool) (i:{i:Nat//(l.take i).any f=false}):St:=
 ⟨[(0,true,.d (.sl 3 (l.map xp))),(1,true,.d (.func (.func k) [] [])),(7,true,.d (.int .i64 l.length)),(8,true,.d (.int .i64 (i.val:Nat)))],[],[],1⟩
theorem xg3 {k:FuncId} {f:OpS->Bool} (hb:(prog.funcs[k]?).any (λfn=>fn.body.isSome&& !(fn.name== "runtime.NumGoroutine"))=true)
  (hf: ∀v,qf prog k [.d (.agg (xp v))] [] (.d (.bool (f v))) []) (l:List OpS) (hl:l.length<=maxLen):
  qf prog 231 [.d (.sl 3 (l.map xp)),.d (.func (.func k) [] [])] [] (.d (.int .i64 (idx f l))) []:=by
 refine F231.go ?_;refine ez ?_;refine qg (xnt k l f) (λi=>l.length-i.val) ⟨0,rfl⟩ ?_ (λi=> ?_)
 ·exact et1 @xnt.eq_1
 obtain⟨i,hi⟩:=i;refine eo1 @xnt.eq_1 ?_;refine xf _ (λh=> ?_) (λh=> ?_)
 ·have e:i<l.length:=by simpa using h
  refine eo2 (qh xp l e) @xp.eq_1 ?_;refine zf (hf l[i]) hb (λh=>h) (λ_=>⟨qo,trivial⟩) (by exact et1 @xp.eq_1) rfl rfl ?_;refine eo ?_;refine xf _ (λh=> ?_) (λh=> ?_)
  ·exact et1 (qf0 hi e h)
  ·refine ez ?_;refine⟨⟨i+1,v8 hi e (by simpa using h)⟩,?_,by dsimp only;omega⟩;exact et2 @xnt.eq_1 (qe (show i<9223372036854775807 by unfold maxLen at hl;omega))
 ·have e:l.length<=i:=by simpa using h
  exact et1 (qfz hi e)
theorem q2c {k:FuncId} {f:OpS->Bool} (hb:(prog.funcs[k]?).any (λfn=>fn.body.isSome&& !(fn.name== "runtime.NumGoroutine"))=true)
  (hf: ∀v,qf prog k [.d (.agg (xp v))] [] (.d (.bool (f v))) []) (l:List OpS) (hl:l.length<=maxLen):
  qf prog 152 [.d (.sl 3 (l.map xp)),.d (.func (.func k) [] [])] [] (.d (.bool (l.any f))) []:=by
 refine F152.go ?_;refine eo ?_;refine cl F231 (xg3 hb hf l hl) ?_;exact et1 @qvc
def wOp (o:OpS):List UInt8:=qbm o.key++ [if o.del then 1 else 0]++qbm o.val
def wOps (l:List OpS):List UInt8:=wInt l.length++l.flatMap wOp
def qs (l:List OpS):List UInt8×Int:=
 if l.length=0||l.any (λo=> !k9 o)then([],1)else if l.length>20||(wOps l).length>2000 then([],6)else(wOps l,0)
theorem vr {o:OpS}:k9 o=true↔1<=o.key.length∧o.key.length<=40∧o.val.length<=900∧(o.del=true->o.val.length=0):=by
 unfold k9;cases o.del<;>simp[-List.length_eq_zero_iff]<;>omega
theorem qds (s:List UInt8) (h:s.length<=900000000):(qbm s).length<=s.length+10:=by
 have:=xg (x7 (n:=s.length) (by omega));simp[qbm];omega
theorem q6x {o:OpS} (h:k9 o=true):(wOp o).length<=1000:=by
 obtain⟨h1,h2,h3,_⟩:=vr.1 h;have k1:=qds o.key (jBn h2 (by decide));have k2:=qds o.val (jBn h3 (by decide));simp only[wOp,jAc,List.length_cons,List.length_nil];omega
theorem qjl {l:List OpS} (h: ∀o∈l,k9 o=true):(l.flatMap wOp).length<=l.length*1000:=by
 induction l with
 |nil=>simp
 |cons o l ih=>
  have h1:=q6x (h o jA7);have h2:=ih (λx hx=>h x (jA9 _ hx));simp only[List.flatMap_cons,jAc,List.length_cons];omega
def Senc (l:List OpS) (i:{i:Nat//i<=l.length}):St:=
 ⟨[(0,true,.d (.sl 3 (l.map xp))),(4,true,.own 0 1 (qd (wInt l.length++(l.take i.val).flatMap wOp))),(17,true,.d (.sl 3 (l.map xp))),(18,true,.d (.int .i64 l.length)),(19,true,.d (.int .i64 (i.val:Nat)))],[],[0],1⟩
theorem qox:(prog.funcs[153]?).any (λfn=>fn.body.isSome&& !(fn.name== "runtime.NumGoroutine"))=true:=F153.body
theorem qcu {α β:Type} (f:α->List β) (l:List α) {i:Nat} (h:i<l.length):(l.take (i+1)).flatMap f=(l.take i).flatMap f++f l[i]:=by
 rw[jAk h,jDs,List.flatMap_cons,List.flatMap_nil,jAu]
theorem qve (l:List OpS) (hl:l.length<=100000):qf prog 85 [.d (.sl 3 (l.map xp))] [] (.tup [.d (.sl 1 (qd (qs l).1)),.d (.int .i64 (qs l).2)]) []:=by
 refine F85.goT ?_;refine eo ?_;refine cl F152 (q2c qox qvd l (by unfold maxLen;omega)) ?_;refine eo ?_
 (repeat(with_reducible refine ob ?_));refine xf _ (λh=> ?_) (λh=> ?_)
 ·have hb:qs l=([],1):=by
   unfold qs;rw[if_pos];simp only[jA0,decide_eq_true_eq,beq_iff_eq]at h⊢;rcases h with h|h
   ·left;omega
   ·right;exact h
  exact et2 @hb @qk
 have m: ¬(decide (l.length=0)||l.any (λo=> !k9 o))=true:=by
  simp only[jA0,decide_eq_true_eq,not_or];simp only[jA4,beq_eq_false_iff_ne]at h;exact⟨by omega,by simp[h.2]⟩
 have t: ∀o∈l,k9 o=true:=by
  simp only[jA0,not_or,jB3,not_exists,not_and]at m;intro o u;simpa using m.2 o u
 have hwl:=qjl t;have hil0:=xg (x7 (n:=l.length) (by omega));refine ez ?_;refine clA F147 (k8 [] l.length (by simp) (x7 (by omega))) ?_;refine ez ?_;refine qg (Senc l) (λi=>l.length-i.val) ⟨0,jAj _⟩ ?_ (λi=> ?_)
 ·exact et2 @Senc.eq_1 @List.take_zero.{0}
 obtain⟨i,hi⟩:=i;refine eo1 @Senc.eq_1 ?_;refine xf _ (λh=> ?_) (λh=> ?_)
 ·have p:i<l.length:=by simpa using h
  have u:=t l[i] (jAg p);obtain⟨p1,p2,p3,_⟩:=vr.1 u;have q:(wInt l.length++(l.take i).flatMap wOp).length<=100000020:=by
   have:=qjl (l:=l.take i) (λo h=>t o (jBe h));simp only[jAc,jAl]at this⊢;have:min i l.length<=100000:=by omega
   omega
  have k1:=qds l[i].key (by omega);refine eo2 (qh xp l p) @xp.eq_1 ?_;refine clA F157 (qks (wInt l.length++(l.take i).flatMap wOp) l[i].key (by omega)) ?_;refine ez ?_;refine clA F156 (qry ((wInt l.length++(l.take i).flatMap wOp)++qbm l[i].key) l[i].del (by simp only[jAc]at q⊢;omega)) ?_;refine ez ?_;refine clA F155 (qow ((wInt l.length++(l.take i).flatMap wOp)++qbm l[i].key++ [if l[i].del then 1 else 0]) l[i].val (by simp only[jAc,List.length_cons,List.length_nil]at q⊢;omega)) ?_;refine ez ?_;have e:wInt l.length++(l.take i).flatMap wOp++qbm l[i].key++ [if l[i].del then 1 else 0]++qbm l[i].val=wInt l.length++(l.take (i+1)).flatMap wOp:=by
   rw[qcu wOp l p,wOp];simp only[jAh]
  refine⟨⟨i+1,p⟩,?_,by dsimp only;omega⟩;exact et3 @Senc.eq_1 @e (qe (show i<9223372036854775807 by omega))
 ·have v:i=l.length:=by simp at h;omega
  subst v;refine ez1 @jAr.{0} ?_;have hw:wInt l.length++l.flatMap wOp=wOps l:=rfl;have hw2:(wOps l).length=(wInt l.length).length+(l.flatMap wOp).length:=by rw[wOps,jAc]
  refine eo1 @hw ?_;refine xf _ (λh=> ?_) (λh=> ?_)
  ·have hb:qs l=([],6):=by
    unfold qs;rw[if_neg m,if_pos];simp only[jA0,decide_eq_true_eq]at h⊢;omega
   exact et2 @hb @qk
  ·have hb:qs l=(wOps l,0):=by
    unfold qs;rw[if_neg m,if_neg];simp only[jA0,jA4,decide_eq_true_eq,decide_eq_false_iff_not]at h⊢;omega
   exact et1 @hb
def d233:=cut prog f233 news
@[go_sem] def E233:=qj d233
def F233:=fnC d233 follows func233
def d161:=cut prog f161 news
@[go_sem] def E161:=qj d161
def F161:=fnC d161 follows func161
def d159:=cut prog f159 news
@[go_sem] def E159:=qj d159
def F159:=fnC d159 follows func159
def fnv1 (h:Nat) (c:UInt8):Nat:=(h^^^c.toNat)*1099511628211%18446744073709551616
def fnv (h:Nat) (s:List UInt8):Nat:=s.foldl fnv1 h
theorem qx6 (h:Nat):fnv h []=h:=rfl
theorem qpy (h:Nat) (s:List UInt8) (c:UInt8):fnv h (s++ [c])=(fnv h s^^^c.toNat)*1099511628211%18446744073709551616:=by
 have:fnv h (s++ [c])=fnv1 (fnv h s) c:=by unfold fnv;rw[jCm,List.foldl_cons,List.foldl_nil]
 rw[this,fnv1]
theorem qgo {h:Nat} (hh:h<18446744073709551616) (s:List UInt8):fnv h s<18446744073709551616:=by
 rcases jE7 s with rfl|⟨t,c,rfl⟩
 ·rw[qx6];exact hh
 ·rw[jFa,qpy];generalize (fnv h t^^^c.toNat)*1099511628211=x;omega
theorem qku (n:Int):IntKind.u64.wrap n=n%18446744073709551616:=by simp[IntKind.wrap,IntKind.bits,IntKind.signed]
theorem xnu (a b:Nat) (ha:a<18446744073709551616) (hb:b<18446744073709551616):a^^^b<18446744073709551616:=by
 have p:(18446744073709551616:Nat)=2^64:=by decide
 rw[p]at*;exact Nat.xor_lt_two_pow ha hb
theorem xg4 (a b:Nat) (ha:a<18446744073709551616) (hb:b<18446744073709551616):q0m 64 (a:Int) (b:Int)=((a^^^b:Nat):Int):=by
 unfold q0m;rw[BitVec.ofInt_natCast,BitVec.ofInt_natCast,BitVec.toNat_xor,BitVec.toNat_ofNat,BitVec.toNat_ofNat,jBy ha,jBy hb]
theorem f1 (x:Nat):IntKind.u64.wrap ((x:Int)*1099511628211)=((x*1099511628211%18446744073709551616:Nat):Int):=by
 rw[qku];simp only[Int.natCast_emod,Int.natCast_mul,jDw]
theorem f2 (x:Nat) (h:x<18446744073709551616):IntKind.u64.wrap (x:Int)=x:=by
 rw[qku];omega
theorem qx7 (h c:Nat) (d:h<18446744073709551616) (hc:c<256):
  IntKind.u64.wrap (IntKind.u64.wrap (q0m 64 (h:Int) (IntKind.u64.wrap (c:Int)))*1099511628211)=(((h^^^c)*1099511628211%18446744073709551616:Nat):Int):=by
 rw[f2 c (by omega),xg4 h c d (by omega),f2 _ (xnu h c d (by omega)),f1]
theorem qcv (c:UInt8):c.toNat<256:=UInt8.toNat_lt c
theorem za (s:List UInt8) {i:Nat} (h:i<s.length):(qd s).getD i []= [.int .u8 (s[i].toNat:Int)]:=qh (λc:UInt8=> [D.int .u8 (c.toNat:Int)]) s h []
def xnv (h:Nat) (s:List UInt8) (i:{i:Nat//i<=s.length}):St:=
 ⟨[(0,true,.d (.int .u64 (fnv h (s.take i.val):Nat))),(7,true,.d (.sl 1 (qd s))),(8,true,.d (.int .i64 s.length)),(9,true,.d (.int .i64 (i.val:Nat)))],[],[],1⟩
theorem xg5 (h:Nat) (s:List UInt8) (hh:h<18446744073709551616) (hl:s.length<=1000000000):qf prog 233 [.d (.int .u64 h),.d (.sl 1 (qd s))] [] (.d (.int .u64 (fnv h s:Nat))) []:=by
 refine F233.go ?_;refine ez ?_;refine qg (xnv h s) (λi=>s.length-i.val) ⟨0,jAj _⟩ ?_ (λi=> ?_)
 ·exact et3 @xnv.eq_1 @List.take_zero.{0} @qx6
 obtain⟨i,hi⟩:=i;refine eo1 @xnv.eq_1 ?_;refine xf _ (λh=> ?_) (λh=> ?_)
 ·have e:i<s.length:=by simpa using h
  refine eo1 (za s e) ?_;simp only[qx7 _ _ (qgo hh (s.take i)) (qcv s[i]),go_sem,simprocAttr];refine⟨⟨i+1,e⟩,?_,by dsimp only;omega⟩;exact et4 @xnv.eq_1 (qe (show i<9223372036854775807 by omega)) (jAk e) @qpy
 ·have l:i=s.length:=by simp at h;omega
  subst l;exact et1 @jAr.{0}
def ju (c:UInt8):D:= .int .u8 c.toNat
theorem q6y (s:List UInt8):D.noPtrL (s.map ju)=true:=by induction s<;>simp_all[D.noPtrL,D.noPtr,ju]
theorem qkv (s:List UInt8):(s.map ju).all D.isCell=true:=by induction s<;>simp_all[D.isCell,ju]
attribute [go_sem] q6y qkv
theorem xcr (s:List UInt8) {i:Nat} (h:i<s.length) (x:ASlot):((s.map ju).map ASlot.d).getD i x= .d (.int .u8 (s[i].toNat:Int)):=by simp[h,ju]
theorem qcw (s:List UInt8):(qd s).flatten=s.map ju:=by induction s<;>simp_all[qd,ju]
theorem q2d (s:List UInt8):qcl 1 s.length (s.map ju)=qd s:=by
 induction s with
 |nil=>rfl
 |cons c s ih=>simp only[List.length_cons,List.map_cons,qcl,jDp,List.take_zero,jCs,List.drop_zero,ih];rfl
def q9r (h:Nat) (s:List UInt8) (i:{i:Nat//i<=s.length}):St:=
 ⟨[(0,true,.d (.int .u64 (fnv h (s.take i.val):Nat))),(7,true,.d (.ref 0 0 1 s.length)),(8,true,.d (.int .i64 s.length)),(9,true,.d (.int .i64 (i.val:Nat)))],[.row ((s.map ju).map .d)],[],1⟩
theorem xnw (h:Nat) (s:List UInt8) (hh:h<18446744073709551616) (hl:s.length<=1000000000):qf prog 233 [.d (.int .u64 h),.d (.ref 0 0 1 s.length)] [.row ((s.map ju).map .d)] (.d (.int .u64 (fnv h s:Nat))) [.row ((s.map ju).map .d)]:=by
 refine F233.go ?_;refine ez ?_;refine qg (q9r h s) (λi=>s.length-i.val) ⟨0,jAj _⟩ ?_ (λi=> ?_)
 ·exact et3 @q9r.eq_1 @List.take_zero.{0} @qx6
 obtain⟨i,hi⟩:=i;refine eo1 @q9r.eq_1 ?_;refine xf _ (λh=> ?_) (λh=> ?_)
 ·have e:i<s.length:=by simpa using h
  refine eo2 @jCo (xcr s e) ?_;simp only[qx7 _ _ (qgo hh (s.take i)) (qcv s[i]),go_sem,simprocAttr];refine⟨⟨i+1,e⟩,?_,by dsimp only;omega⟩;exact et4 @q9r.eq_1 (qe (show i<9223372036854775807 by omega)) (jAk e) @qpy
 ·have l:i=s.length:=by simp at h;omega
  subst l;exact et1 @jAr.{0}
def be8 (h:Nat):List UInt8:= [UInt8.ofNat (h/256^7),UInt8.ofNat (h/256^6),UInt8.ofNat (h/256^5),UInt8.ofNat (h/256^4),UInt8.ofNat (h/256^3),UInt8.ofNat (h/256^2),UInt8.ofNat (h/256^1),UInt8.ofNat (h/256^0)]
theorem ji (h:Nat):(be8 h).length=8:=rfl
theorem xtu (h:Nat): ∀{i:Nat} (hi:i<8),(be8 h)[i]'(by rw[ji];exact hi)=UInt8.ofNat (h/256^(7-i))
 |0,_=>rfl
 |1,_=>rfl
 |2,_=>rfl
 |3,_=>rfl
 |4,_=>rfl
 |5,_=>rfl
 |6,_=>rfl
 |7,_=>rfl
theorem xo {n:Int} (h:I64 n):IntKind.i64.wrap n=n:=by
 obtain⟨h1,h2⟩:=h;simp[IntKind.wrap,IntKind.bits,IntKind.signed];omega
theorem qx8 (h i:Nat) (hi:i<8):IntKind.u8.wrap ((h:Int).fdiv (2^min (8*(7-(i:Int))).toNat 64))=((UInt8.ofNat (h/256^(7-i))).toNat:Int):=by
 have e1:min (8*(7-(i:Int))).toNat 64=8*(7-i):=by omega
 have e2:((2:Int)^(8*(7-i)))=((256^(7-i):Nat):Int):=by rw[Int.natCast_pow,Int.pow_mul];rfl
 rw[e1,e2,jDc _ (Int.natCast_nonneg _),<- Int.natCast_ediv,qip,UInt8.toNat_ofNat'];omega
theorem q6z (h:Nat) {i:Nat} (hi:i<8):(((be8 h).take i++List.replicate (8-i) 0).map ju).set i (D.int .u8 ((UInt8.ofNat (h/256^(7-i))).toNat:Int))=((be8 h).take (i+1)++List.replicate (8-(i+1)) 0).map ju:=by
 have h8:=ji h;have hl:((be8 h).take i).length=i:=by rw[jAl];omega
 have e:D.int .u8 ((UInt8.ofNat (h/256^(7-i))).toNat:Int)=ju ((be8 h)[i]'(by omega)):=by rw[xtu h hi];rfl
 rw[e,<- jDz,jEj _ _ (by omega),hl,jDe,jAk (by omega),show 8-i=(8-(i+1))+1 by omega,jDq,List.set_cons_zero,jAh,List.cons_append,List.nil_append]
theorem qcx (e:List D) (i:Nat) (x:D):(e.map ASlot.d).set i (.d x)=(e.set i x).map .d:=by rw[jDz]
theorem qnj:ju 0= .int .u8 0:=rfl
theorem q60 (h:Nat):(be8 h).take 8=be8 h:=jAq (jBt (ji h))
def qiq (k:Nat) (f0:Fr) (os:List AObj) (h:Nat) (i:{i:Nat//i<=8}):St:=
 ⟨(6,true,.d (.int .u64 (h:Nat)))::(7,true,.d (.ptr (k+1) 0))::(5,true,.d (.ptr k 0))::(12,true,.d (.int .i64 (i.val:Nat)))::f0,os++ [.row ((List.replicate 8 (D.int .u8 0)).map .d),.row ((((be8 h).take i.val++List.replicate (8-i.val) 0).map ju).map .d)],[],1⟩
theorem xnx (h:Nat) (s:List UInt8) (hh:h<18446744073709551616) (hl:s.length<=1000000000):qf prog 161 [.d (.int .u64 h),.d (.sl 1 (qd s))] [] (.tup [.d (.int .u64 (fnv h s:Nat)),.d (.agg ((be8 (fnv h s)).map ju))]) []:=by
 refine F161.goT ?_;refine eo ?_;refine cl F233 (xg5 h s hh hl) ?_;refine ez ?_;refine qg (qiq 0 [] [] (fnv h s)) (λi=>8-i.val) ⟨0,jAj _⟩ ?_ (λi=> ?_)
 ·exact et3 @qiq.eq_1 @List.take_zero.{0} @qnj
 obtain⟨i,hi⟩:=i;refine ez1 @qiq.eq_1 ?_;refine xf _ (λhc=> ?_) (λhc=> ?_)
 ·have e:i<8:=by simp at hc;omega
  have e1:IntKind.i64.wrap (7-(i:Int))=7-i:=xo (by unfold I64;omega);have e2:IntKind.i64.wrap (8*(7-(i:Int)))=8*(7-i):=xo (by unfold I64;omega);have hlen:=ji (fnv h s);simp only[jCo,qx8 _ _ e,qcx,q6z _ e,e1,e2,jAl,jBp,go_sem,simprocAttr]
  (repeat(with_reducible refine ob ?_))
  refine⟨⟨i+1,e⟩,?_,by dsimp only;omega⟩;exact et2 @qiq.eq_1 (qe (show i<9223372036854775807 by omega))
 ·have l:i=8:=by simp at hc;omega
  subst l;exact et3 @q60 @be8.eq_1 @ju.eq_1
theorem xg6 (h:Nat) (s:List UInt8) (hh:h<18446744073709551616) (hl:s.length<=1000000000):qf prog 161 [.d (.int .u64 h),.d (.ref 0 0 1 s.length)] [.row ((s.map ju).map .d)] (.tup [.d (.int .u64 (fnv h s:Nat)),.d (.agg ((be8 (fnv h s)).map ju))]) [.row ((s.map ju).map .d)]:=by
 refine F161.goT ?_;refine eo ?_;refine clO [0] F233 (xnw h s hh hl) ?_;refine ez ?_;refine qg (qiq 1 [] [.row ((s.map ju).map .d)] (fnv h s)) (λi=>8-i.val) ⟨0,jAj _⟩ ?_ (λi=> ?_)
 ·exact et3 @qiq.eq_1 @List.take_zero.{0} @qnj
 obtain⟨i,hi⟩:=i;refine ez1 @qiq.eq_1 ?_;refine xf _ (λhc=> ?_) (λhc=> ?_)
 ·have e:i<8:=by simp at hc;omega
  have e1:IntKind.i64.wrap (7-(i:Int))=7-i:=xo (by unfold I64;omega);have e2:IntKind.i64.wrap (8*(7-(i:Int)))=8*(7-i):=xo (by unfold I64;omega);have hlen:=ji (fnv h s);simp only[jCo,qx8 _ _ e,qcx,q6z _ e,e1,e2,jAl,jBp,go_sem,simprocAttr]
  (repeat(with_reducible refine ob ?_))
  refine⟨⟨i+1,e⟩,?_,by dsimp only;omega⟩;exact et2 @qiq.eq_1 (qe (show i<9223372036854775807 by omega))
 ·have l:i=8:=by simp at hc;omega
  subst l;exact et3 @q60 @be8.eq_1 @ju.eq_1
def num1 (h:Nat) (c:UInt8):Nat:=h*256+c.toNat
def qpl (s:List UInt8):Nat:=s.foldl num1 0
def yn (d:List UInt8):Nat:=if d.length<8 then 14695981039346656037 else qpl (d.drop (d.length-8))
theorem qvf (s:List UInt8) (c:UInt8):qpl (s++ [c])=qpl s*256+c.toNat:=by unfold qpl;rw[jCm,List.foldl_cons,List.foldl_nil];rfl
theorem qx9: ∀(n:Nat) (s:List UInt8),s.length=n->qpl s<256^n
 |0,s,h=>by cases s<;>simp at h;simp[qpl]
 |n+1,s,h=>by
  rcases jE7 s with rfl|⟨t,c,rfl⟩
  ·simp at h
  ·rw[jFa]at h⊢;have h1:=qx9 n t (by simpa using h);have h2:=qcv c;rw[qvf,jCi];omega
theorem q9s (a b:Nat) (ha:a<18446744073709551616) (hb:b<18446744073709551616):bvOr 64 (a:Int) (b:Int)=((a|||b:Nat):Int):=by
 unfold bvOr;rw[BitVec.ofInt_natCast,BitVec.ofInt_natCast,BitVec.toNat_or,BitVec.toNat_ofNat,BitVec.toNat_ofNat,jBy ha,jBy hb]
theorem xwv (a c:Nat) (hc:c<256):a*256|||c=a*256+c:=by
 have:=Nat.shiftLeft_add_eq_or_of_lt (i:=8) (b:=c) (by omega) a;rw[Nat.shiftLeft_eq]at this;exact this.symm
theorem xg7 (a c:Nat) (ha:a<72057594037927936) (hc:c<256):IntKind.u64.wrap (bvOr 64 (IntKind.u64.wrap ((a:Int)*2^min 8 64)) (IntKind.u64.wrap (c:Int)))=((a*256+c:Nat):Int):=by
 have e1:IntKind.u64.wrap ((a:Int)*2^min 8 64)=((a*256:Nat):Int):=by
  rw[qku];show(a:Int)*256%18446744073709551616=_;omega
 rw[e1,f2 c (by omega),q9s _ _ (by omega) (by omega),xwv a c hc,f2 _ (by omega)]
def xny (s:List UInt8) (i:{i:Nat//i<=s.length}):St:=
 ⟨[(3,true,.d (.int .u64 (qpl (s.take i.val):Nat))),(13,true,.d (.sl 1 (qd s))),(14,true,.d (.int .i64 s.length)),(15,true,.d (.int .i64 (i.val:Nat)))],[],[],1⟩
theorem ze (s:List UInt8) (n:Nat):(qd s).drop n=qd (s.drop n):=by simp[qd]
theorem xq (s:List UInt8) (n:Nat):(qd s).take n=qd (s.take n):=by simp[qd]
theorem xtv (e:List UInt8) (hl:e.length<=1000000000):qf prog 159 [.d (.sl 1 (qd e))] [] (.d (.int .u64 (yn e:Nat))) []:=by
 refine F159.go ?_;refine ez ?_;refine xf _ (λhc=> ?_) (λhc=> ?_)
 ·have hb:yn e=14695981039346656037:=by unfold yn;rw[if_pos (by simp at hc;omega)]
  exact et1 @hb
 have h8:8<=e.length:=by simp at hc;omega
 have e1:IntKind.i64.wrap ((e.length:Int) -8)=((e.length-8:Nat):Int):=by rw[xo (by unfold I64;omega)];omega
 have hb:yn e=qpl (e.drop (e.length-8)):=by unfold yn;rw[if_neg (by omega)]
 have hd:(e.drop (e.length-8)).length=8:=by rw[jAp];omega
 generalize hs:e.drop (e.length-8)=s at hb hd;have e2:s.take (e.length-(e.length-8))=s:=jAq (by omega);refine eo6 @e1 @ze @xq @hs @e2 @hb ?_;refine qg (xny s) (λi=>s.length-i.val) ⟨0,jAj _⟩ ?_ (λi=> ?_)
 ·refine ez2 @xny.eq_1 @List.take_zero.{0} ?_;simp[qpl]
 obtain⟨i,hi⟩:=i;refine eo1 @xny.eq_1 ?_;refine xf _ (λh=> ?_) (λh=> ?_)
 ·have l:i<s.length:=by simpa using h
  have m:qpl (s.take i)<72057594037927936:=by
   have:=qx9 i (s.take i) (by rw[jAl];omega);have h7:256^i<=256^7:=jB4 (by decide) (by omega);have:(256:Nat)^7=72057594037927936:=by decide
   omega
  refine eo1 (za s l) ?_;simp only[xg7 _ _ m (qcv s[i]),go_sem,simprocAttr];refine⟨⟨i+1,l⟩,?_,by dsimp only;omega⟩;exact et4 @xny.eq_1 (qe (show i<9223372036854775807 by omega)) (jAk l) @qvf
 ·have o:i=s.length:=by simp at h;omega
  subst o;exact et1 @jAr.{0}
theorem qya {α:Type} [DecidableEq α] {l m:List α} {i:Nat} (h1:i<l.length) (h2:i<m.length) (h:l[i]≠m[i]):decide (l=m)=false:=by
 rw[decide_eq_false_iff_not];rintro rfl;exact h rfl
theorem qac {α:Type} {l m:List α} {i:Nat} (h:l.take i=m.take i) (h1:i<l.length) (h2:i<m.length) (he:l[i]=m[i]):l.take (i+1)=m.take (i+1):=by
 rw[jAk h1,jAk h2,h,he]
theorem xrv (v w:AV):(v.kind==w.kind&&(v.n==w.n&&v.s==w.s))=decide (v=w):=by
 obtain⟨a,b,c⟩:=v;obtain⟨d,e,f⟩:=w;rw[jBl];simp
def d67:=cut prog f67 news
@[go_sem] def E67:=qj d67
def F67:=fnC d67 follows func67
def d68:=cut prog f68 news
@[go_sem] def E68:=qj d68
def F68:=fnC d68 follows func68
def d132:=cut prog f132 news
@[go_sem] def E132:=qj d132
def F132:=fnC d132 follows func132
def d133:=cut prog f133 news
@[go_sem] def E133:=qj d133
def F133:=fnC d133 follows func133
def d17:=cut prog f17 news
@[go_sem] def E17:=qj d17
def F17:=fnC d17 follows func17
def Seq {α:Type} (es:Nat) (enc:α->List D) (l m:List α) (i:{i:Nat//l.take i=m.take i}):St:=
 ⟨[(0,true,.d (.sl es (l.map enc))),(1,true,.d (.sl es (m.map enc))),(12,true,.d (.int .i64 l.length)),(13,true,.d (.int .i64 (i.val:Nat)))],[],[],1⟩
theorem xww (l m:List AV) (hl:l.length<=maxLen):
  qf prog 67 [.d (.sl 3 (l.map zw)),.d (.sl 3 (m.map zw))] [] (.d (.bool (decide (l=m)))) []:=by
 refine F67.go ?_;refine ez ?_;refine qt _ rfl rfl (λh=> ?_) (λh=> ?_)
 ·have hne:decide (l=m)=false:=by rw[decide_eq_false_iff_not];rintro rfl;simp at h
  exact et1 @hne
 ·have hlm:l.length=m.length:=by simp at h;omega
  refine ez ?_;refine qg (Seq 3 zw l m) (λi=>l.length-i.val) ⟨0,rfl⟩ ?_ (λi=> ?_)
  ·exact et2 @Seq.eq_1 (zg qah)
  ·obtain⟨i,hi⟩:=i;refine ez1 @Seq.eq_1 ?_;refine qt _ rfl rfl (λh=> ?_) (λh=> ?_)
   ·have o:i<l.length:=by simpa using h
    have e:i<m.length:=by omega
    refine ez4 (qh zw l o) (qh zw m e) @zw.eq_1 @xrv ?_;refine⟨by omega,by omega,?_⟩;refine qt _ rfl rfl (λp=> ?_) (λp=> ?_)
    ·have hne:l[i]≠m[i]:=by simpa using p
     exact et1 (qya o e hne)
    ·have he:l[i]=m[i]:=by simpa using p
     refine ez ?_;refine⟨⟨i+1,qac hi o e he⟩,?_,by dsimp only;omega⟩;exact et3 @Seq.eq_1 (qe (show i<9223372036854775807 by unfold maxLen at hl;omega)) (zg qah)
   ·have he:decide (l=m)=true:=by
     have:l.length<=i:=by simpa using h
     rw[jAq this,jAq (by omega)]at hi;simp[hi]
    exact et1 @he
theorem xg8 (l:List AV) (hl:l.length<=1000000):
  qf prog 132 [.d (.sl 3 (l.map zw))] [] (.d (.sl 3 (l.map zw))) []:=by
 refine F132.go ?_;refine ez ?_;refine qng rfl rfl (λb hb=> ?_);refine ez ?_;refine qt _ rfl rfl (λh=> ?_) (λh=> ?_)
 ·exact et1 (hb h)
 ·refine ez ?_;omega
theorem xg9 (l:List Int) (hl:l.length<=1000000):
  qf prog 133 [.d (.sl 1 (l.map encI))] [] (.d (.sl 1 (l.map encI))) []:=by
 refine F133.go ?_;refine ez ?_;refine qng rfl rfl (λb hb=> ?_);refine ez ?_;refine qt _ rfl rfl (λh=> ?_) (λh=> ?_)
 ·exact et1 (hb h)
 ·refine ez ?_;omega
theorem xwx (l m:List Int) (hl:l.length<=maxLen):
  qf prog 68 [.d (.sl 1 (l.map encI)),.d (.sl 1 (m.map encI))] [] (.d (.bool (decide (l=m)))) []:=by
 refine F68.go ?_;refine ez ?_;refine qt _ rfl rfl (λh=> ?_) (λh=> ?_)
 ·have hne:decide (l=m)=false:=by rw[decide_eq_false_iff_not];rintro rfl;simp at h
  exact et1 @hne
 ·have hlm:l.length=m.length:=by simp at h;omega
  refine ez ?_;refine qg (Seq 1 encI l m) (λi=>l.length-i.val) ⟨0,rfl⟩ ?_ (λi=> ?_)
  ·exact et1 @Seq.eq_1
  ·obtain⟨i,hi⟩:=i;refine ez1 @Seq.eq_1 ?_;refine qt _ rfl rfl (λh=> ?_) (λh=> ?_)
   ·have o:i<l.length:=by simpa using h
    have e:i<m.length:=by omega
    refine ez3 (qh encI l o) (qh encI m e) @encI.eq_1 ?_;refine⟨by omega,by omega,?_⟩;refine qt _ rfl rfl (λp=> ?_) (λp=> ?_)
    ·have hne:l[i]≠m[i]:=by simpa using p
     exact et1 (qya o e hne)
    ·have he:l[i]=m[i]:=by simpa using p
     refine ez ?_;refine⟨⟨i+1,qac hi o e he⟩,?_,by dsimp only;omega⟩;exact et2 @Seq.eq_1 (qe (show i<9223372036854775807 by unfold maxLen at hl;omega))
   ·have he:decide (l=m)=true:=by
     have:l.length<=i:=by simpa using h
     rw[jAq this,jAq (by omega)]at hi;simp[hi]
    exact et1 @he
theorem xrw (p q:Pk):(p.kind==q.kind&&p.sess==q.sess&&p.epoch==q.epoch&&p.from_==q.from_&&p.to==q.to&&p.seq==q.seq&&p.label==q.label&&decide (p.values=q.values)&&decide (p.clock=q.clock))=decide (p=q):=by
 obtain⟨a1,a2,a3,a4,a5,a6,a7,a8,a9⟩:=p;obtain⟨b1,b2,b3,b4,b5,b6,b7,b8,b9⟩:=q;rw[jBl];simp[and_assoc]
theorem qvg (p q:Pk) (h1:p.values.length<=maxLen) (h2:p.clock.length<=maxLen):
  qf prog 17 [.d (.agg (qi p)),.d (.agg (qi q))] [] (.d (.bool (decide (p=q)))) []:=by
 refine F17.go ?_;refine eo1 @qi.eq_1 ?_;refine cl F67 (xww p.values q.values h1) ?_;refine eo ?_;refine cl F68 (xwx p.clock q.clock h2) ?_;exact et1 @xrw
def qb6 (g:Nat->Bool) (n:Nat):Bool:=(List.range n).all g
theorem xcs (g:Nat->Bool) (n:Nat):qb6 g (n+1)=(qb6 g n&&g n):=by simp[qb6,List.range_succ]
theorem yz {g:Nat->Bool} {n:Nat} (h:qb6 g n=true) (hg:g n=true):qb6 g (n+1)=true:=by rw[xcs,h,hg];rfl
theorem qel {g:Nat->Bool} {i n:Nat} (hi:i<n) (hg:g i=false):qb6 g n=false:=by
 simp only[qb6,List.all_eq_false];exact⟨i,by simpa using hi,by simp[hg]⟩
theorem zh {g:Nat->Bool} {n:Nat}:qb6 g n=true↔ ∀i,i<n->g i=true:=by simp[qb6]
structure Qu where
 acc:Int
 cons:Int
 items:List Pk
 deriving DecidableEq,Inhabited
def encQ (q:Qu):List D:= [.int .i64 q.acc,.int .i64 q.cons,.sl 9 (q.items.map qi)]
theorem xct (q:Qu):D.noPtrL (encQ q)=true:=by exact et1 @encQ.eq_1
attribute [go_sem] xct
def Pk.Sm (p:Pk):Prop:=p.values.length<=1000∧p.clock.length<=1000
def Qu.Sm (q:Qu):Prop:=q.items.length<=1000∧ ∀p∈q.items,p.Sm
theorem Pk.Sm.v {p:Pk} (h:p.Sm):p.values.length<=maxLen:=by have:=h.1;unfold maxLen;omega
theorem Pk.Sm.c {p:Pk} (h:p.Sm):p.clock.length<=maxLen:=by have:=h.2;unfold maxLen;omega
def d220:=cut prog f220 news
@[go_sem] def E220:=qj d220
def F220:=fnC d220 follows func220
def d221:=cut prog f221 news
@[go_sem] def E221:=qj d221
def F221:=fnC d221 follows func221
def d188:=cut prog f188 news
@[go_sem] def E188:=qj d188
def F188:=fnC d188 follows func188
def d66:=cut prog f66 news
@[go_sem] def E66:=qj d66
def F66:=fnC d66 follows func66
def d222:=cut prog f222 news
@[go_sem] def E222:=qj d222
def F222:=fnC d222 follows func222
def qbv (p:Pk):Bool:=p.kind==1&&qm p
theorem qnk (p:Pk) (hp:p.Sm):qf prog 220 [.d (.agg (qi p))] [] (.d (.bool (qbv p))) []:=by
 refine F220.go ?_;refine eo1 @qi.eq_1 ?_;refine cl F70 (wh p hp.v hp.c) ?_;refine ez ?_;rfl
def qj9 (p q:Pk):Bool:=p.sess==q.sess&&p.from_==q.from_&&p.to==q.to
theorem qyb (p q:Pk):qf prog 221 [.d (.agg (qi p)),.d (.agg (qi q))] [] (.d (.bool (qj9 p q))) []:=by
 refine F221.go ?_;refine ez1 @qi.eq_1 ?_;rfl
def qrz (q:Qu) (i:Nat):Bool:=
 qbv (q.items.getD i default)&&qj9 (q.items.getD i default) (q.items.getD 0 default)&&(q.items.getD i default).seq==IntKind.i64.wrap (IntKind.i64.wrap (q.cons+1)+(i:Int))
def kw (q:Qu):Bool:=qb6 (qrz q) q.items.length&&(decide (q.cons≥0)&&decide (q.cons<=q.acc)&&decide (q.acc<=1099511627776)&&((q.items.length:Int)==IntKind.i64.wrap (q.acc-q.cons))&&decide ((q.items.length:Int)<=4))
def qyc (q:Qu) (i:{i:Nat//qb6 (qrz q) i=true}):St:=
 ⟨[(1,true,.d (.ptr 0 0)),(6,true,.d (.sl 9 (q.items.map qi))),(7,true,.d (.int .i64 q.items.length)),(8,true,.d (.int .i64 (i.val:Nat)))],
  [.row [.d (.int .i64 q.acc),.d (.int .i64 q.cons),.d (.sl 9 (q.items.map qi))]],[],1⟩
theorem zp {α:Type} {l:List α} {i:Nat} (h:i<l.length) (d:α):l.getD i d=l[i]:=by simp[List.getD,h]
theorem qgp (q:Qu) (p:q.Sm):qf prog 188 [.d (.agg (encQ q))] [] (.d (.bool (kw q))) []:=by
 have hl:=p.1;refine F188.go ?_;refine ez1 @encQ.eq_1 ?_;refine qg (qyc q) (λi=>q.items.length-i.val) ⟨0,rfl⟩ ?_ (λi=> ?_)
 ·exact et1 @qyc.eq_1
 ·obtain⟨i,hi⟩:=i;refine ez1 @qyc.eq_1 ?_;refine qt _ rfl rfl (λh=> ?_) (λh=> ?_)
  ·have e:i<q.items.length:=by simpa using h
   have o:0<q.items.length:=by omega
   have hw:IntKind.i64.wrap (IntKind.i64.wrap (q.cons+1)+(i:Int))=IntKind.i64.wrap (IntKind.i64.wrap (q.cons+1)+(i:Int)):=rfl;refine ez4 (qh qi q.items e) (qh qi q.items o) @jFi @qi.eq_1 ?_;refine⟨by omega,?_⟩
   (repeat(with_reducible refine ob ?_));refine cl F220 (qnk q.items[i] (p.2 _ (jAg e))) ?_
   refine ez1 (qh qi q.items o) ?_;refine⟨λ_=>⟨by omega,by omega⟩,by simp[qi],?_⟩;refine eo1 @qi.eq_1 ?_;refine cl F221 (qyb q.items[i] q.items[0]) ?_;refine eo ?_;have hx:(!qbv q.items[i]|| !qj9 q.items[i] q.items[0]||q.items[i].seq !=IntKind.i64.wrap (IntKind.i64.wrap (q.cons+1)+(i:Int)))= !qrz q i:=by
    simp only[qrz,zp e,zp o,Bool.not_and];rfl
   refine qt (!qrz q i) rfl ?_ (λm=> ?_) (λm=> ?_)
   ·exact et1 @hx
   ·have l:qrz q i=false:=by simpa using m
    exact et2 @kw.eq_1 (qel e l)
   ·have l:qrz q i=true:=by simpa using m
    refine ez ?_;refine⟨⟨i+1,yz hi l⟩,?_,by dsimp only;omega⟩;exact et2 @qyc.eq_1 (qe (show i<9223372036854775807 by omega))
  ·have e:q.items.length<=i:=by simpa using h
   have ha:qb6 (qrz q) q.items.length=true:=zh.2 λj hj=>zh.1 hi j (by omega);refine eo ?_;exact et2 @kw.eq_1 @ha
theorem qhc (p:Pk) (hp:p.Sm):qf prog 66 [.d (.agg (qi p))] [] (.d (.agg (qi p))) []:=by
 obtain⟨h1,h2⟩:=hp;refine F66.go ?_;refine eo1 @qi.eq_1 ?_;refine cl F132 (xg8 p.values (by omega)) ?_;refine eo ?_;refine cl F133 (xg9 p.clock (by omega)) ?_;exact et
def qyd (l:List Pk) (i:{i:Nat//i<=l.length}):St:=
 ⟨[(3,true,.own 0 9 ((l.take i.val).map qi)),(6,true,.d (.sl 9 (l.map qi))),(7,true,.d (.int .i64 l.length)),(8,true,.d (.int .i64 (i.val:Nat)))],[],[0],1⟩
set_option maxRecDepth 10000 in
theorem qr0 (l:List Pk) (hl:l.length<=1000) (hp: ∀p∈l,p.Sm):qf Tryz.prog 222 [.d (.sl 9 (l.map qi))] [] (.own 0 9 (l.map qi)) []:=by
 first|refine F222.go ?_|refine F222.goT ?_
 (refine ev ?_;try exact True.intro)
 refine qg (qyd l) (fun i=>l.length-i.val) ⟨0,Nat.zero_le _⟩ ?_ (fun i=> ?_)
 ·try(refine ev1 @qyd.eq_1 ?_;try exact True.intro)
  trace_state
 ·obtain⟨i,hi⟩:=i
  try(refine ev1 @qyd.eq_1 ?_;try exact True.intro)
  refine qt _ rfl rfl (fun h=> ?_) (fun h=> ?_)
  ·have hil:i<l.length:=by simpa using h
   (refine ev2 (qh qi l hil) @qi.eq_1 ?_;try exact True.intro)
   (repeat(with_reducible refine ob ?_))
   (repeat(with_reducible refine ob ?_));first|refine cl F66 (qhc l[i] (hp _ (List.getElem_mem hil))) ?_|refine clF F66 (qhc l[i] (hp _ (List.getElem_mem hil))) (fun _=>by(refine ev2 @qi.eq_1 @encQ.eq_1 ?_;try exact True.intro)) ?_
   (refine ev1 @qi.eq_1 ?_;try exact True.intro)
   have hlt:(l.take i).length<=1000:=by simp;omega
   refine⟨⟨by omega,by omega⟩,⟨i+1,hil⟩,?_,by dsimp only;omega⟩
   (refine ev4 @qyd.eq_1 (ye qi l hil) @qi.eq_1 (qe (show i<9223372036854775807 by omega)) ?_;try exact True.intro)
  ·have hil:i=l.length:=by
    have:l.length<=i:=by simpa using h
    omega
   subst hil
   try(refine ev1 @List.take_length.{0} ?_;try exact True.intro)
def xx:Qu:=⟨0,0,[]⟩
theorem qhd:qi default= [.int .i64 0,.int .i64 0,.int .i64 0,.int .i64 0,.int .i64 0,.int .i64 0,.int .i64 0,.sl 3 [],.sl 1 []]:=rfl
def d138:=cut prog f138 news
@[go_sem] def E138:=qj d138
def F138:=fnC d138 follows func138
def d15:=cut prog f15 news
@[go_sem] def E15:=qj d15
def F15:=fnC d15 follows func15
def zu (q:Qu) (p:Pk):Qu×Int:=
 if !kw q|| !qbv p||(decide ((q.items.length:Int)>0)&& !qj9 p (q.items.getD 0 default))then(xx,1)
 else if decide (p.seq<=q.acc)then(xx,21)
 else if decide (p.seq>IntKind.i64.wrap (q.acc+1))then(xx,22)
 else if(q.items.length:Int)==4 then(xx,19)
 else(⟨p.seq,q.cons,q.items++ [p]⟩,0)
set_option maxRecDepth 10000 in
theorem xha (q:Qu) (p:Pk) (hq:q.Sm) (hp:p.Sm):qf Tryz.prog 138 [.d (.agg (encQ q)),.d (.agg (qi p))] [] (.tup [.d (.agg (encQ (zu q p).1)),.d (.int .i64 (zu q p).2)]) []:=by
 have hl:=hq.1
 first|refine F138.go ?_|refine F138.goT ?_
 (refine ev2 @encQ.eq_1 @qi.eq_1 ?_;try exact True.intro)
 (repeat(with_reducible refine ob ?_));first|refine cl F188 (qgp q hq) ?_|refine clF F188 (qgp q hq) (fun _=>by(refine ev2 @qi.eq_1 @encQ.eq_1 ?_;try exact True.intro)) ?_
 try(refine ev ?_;try exact True.intro)
 (repeat(with_reducible refine ob ?_));first|refine cl F220 (qnk p hp) ?_|refine clF F220 (qnk p hp) (fun _=>by(refine ev2 @qi.eq_1 @encQ.eq_1 ?_;try exact True.intro)) ?_
 obtain⟨acc,cons,items⟩:=q
 cases items with
 |nil=>
  try(refine ev ?_;try exact True.intro)
  (repeat(with_reducible refine ob ?_))
  refine qa9 (.bool false) rfl ?_
  try(refine ev ?_;try exact True.intro)
  (repeat(with_reducible refine ob ?_))
  refine qt _ rfl rfl (fun h1=> ?_) (fun h1=> ?_)
  ·try(refine ev3 @zu.eq_1 @h1 @xx.eq_1 ?_;try exact True.intro)
  try(refine ev ?_;try exact True.intro)
  refine qt _ rfl rfl (fun h2=> ?_) (fun h2=> ?_)
  ·try(refine ev4 @zu.eq_1 @h1 @h2 @xx.eq_1 ?_;try exact True.intro)
  try(refine ev ?_;try exact True.intro)
  refine qt _ rfl rfl (fun h3=> ?_) (fun h3=> ?_)
  ·try(refine ev5 @zu.eq_1 @h1 @h2 @h3 @xx.eq_1 ?_;try exact True.intro)
  try(refine ev ?_;try exact True.intro)
  refine qt _ rfl rfl (fun h4=> ?_) (fun h4=> ?_)
  ·first|exact Bool.noConfusion h4|try(refine ev6 @zu.eq_1 @h1 @h2 @h3 @h4 @xx.eq_1 ?_;try exact True.intro)
  try(refine ev ?_;try exact True.intro)
  refine qin (qr0 [] hq.1 hq.2) F222.body rfl ⟨by(refine ev2 @qi.eq_1 @encQ.eq_1 ?_;try exact True.intro),by try(refine ev ?_;try exact True.intro),by try(refine ev ?_;try exact True.intro),by try(refine ev ?_;try exact True.intro)⟩ (by try(refine ev ?_;try exact True.intro)) (by simp[ASlot.toks]) ?_
  simp only[qe3,renT,go_sem,Nat.reduceAdd,Nat.reduceMul,Nat.reduceSub,Nat.reduceEqDiff,Nat.reduceLT,Nat.reduceLeDiff,Nat.reduceBEq,reduceIte,reduceCtorEq,Int.reduceAdd,Int.reduceLT,Int.reduceLE,Int.reduceGT,Int.reduceGE,Int.reduceEq,Int.reduceNe,Int.reduceBEq,Int.reduceBNe,Int.reduceToNat,Int.reduceNeg]
  (repeat(with_reducible refine ob ?_));first|refine cl F66 (qhc p hp) ?_|refine clF F66 (qhc p hp) (fun _=>by(refine ev2 @qi.eq_1 @encQ.eq_1 ?_;try exact True.intro)) ?_
  (refine ev8 @qi.eq_1 @zu.eq_1 @h1 @h2 @h3 @h4 @beq_self_eq_true.{0} @List.map_append.{0,0} ?_;try exact True.intro)
  try(simp only[List.length_cons]at hl;omega)
 |cons x l=>
  try(refine ev ?_;try exact True.intro)
  refine⟨by simp_all,fun h=>⟨h,by omega⟩,fun h=>⟨h,by simp[qi]⟩,?_⟩
  (refine ev1 @qi.eq_1 ?_;try exact True.intro)
  (repeat(with_reducible refine ob ?_));first|refine cl F221 (qyb p x) ?_|refine clF F221 (qyb p x) (fun _=>by(refine ev2 @qi.eq_1 @encQ.eq_1 ?_;try exact True.intro)) ?_
  try(refine ev ?_;try exact True.intro)
  (repeat(with_reducible refine ob ?_))
  refine qt _ rfl rfl (fun h1=> ?_) (fun h1=> ?_)
  ·try(refine ev3 @zu.eq_1 @h1 @xx.eq_1 ?_;try exact True.intro)
  try(refine ev ?_;try exact True.intro)
  refine qt _ rfl rfl (fun h2=> ?_) (fun h2=> ?_)
  ·try(refine ev4 @zu.eq_1 @h1 @h2 @xx.eq_1 ?_;try exact True.intro)
  try(refine ev ?_;try exact True.intro)
  refine qt _ rfl rfl (fun h3=> ?_) (fun h3=> ?_)
  ·try(refine ev5 @zu.eq_1 @h1 @h2 @h3 @xx.eq_1 ?_;try exact True.intro)
  try(refine ev ?_;try exact True.intro)
  refine qt _ rfl rfl (fun h4=> ?_) (fun h4=> ?_)
  ·first|exact Bool.noConfusion h4|try(refine ev6 @zu.eq_1 @h1 @h2 @h3 @h4 @xx.eq_1 ?_;try exact True.intro)
  try(refine ev ?_;try exact True.intro)
  refine qin (qr0 (x::l) hq.1 hq.2) F222.body rfl ⟨by(refine ev2 @qi.eq_1 @encQ.eq_1 ?_;try exact True.intro),by try(refine ev ?_;try exact True.intro),by try(refine ev ?_;try exact True.intro),by try(refine ev ?_;try exact True.intro)⟩ (by try(refine ev ?_;try exact True.intro)) (by simp[ASlot.toks]) ?_
  simp only[qe3,renT,go_sem,Nat.reduceAdd,Nat.reduceMul,Nat.reduceSub,Nat.reduceEqDiff,Nat.reduceLT,Nat.reduceLeDiff,Nat.reduceBEq,reduceIte,reduceCtorEq,Int.reduceAdd,Int.reduceLT,Int.reduceLE,Int.reduceGT,Int.reduceGE,Int.reduceEq,Int.reduceNe,Int.reduceBEq,Int.reduceBNe,Int.reduceToNat,Int.reduceNeg]
  (repeat(with_reducible refine ob ?_));first|refine cl F66 (qhc p hp) ?_|refine clF F66 (qhc p hp) (fun _=>by(refine ev2 @qi.eq_1 @encQ.eq_1 ?_;try exact True.intro)) ?_
  (refine ev8 @qi.eq_1 @zu.eq_1 @h1 @h2 @h3 @h4 @beq_self_eq_true.{0} @List.map_append.{0,0} ?_;try exact True.intro)
  try(simp only[List.length_cons]at hl;omega)
def y4 (q:Qu):Pk×Bool:=match q.items with
 | []=>(default,false)
 |p::_=>(p,true)
theorem xhb (q:Qu) (hq:q.Sm):qf prog 15 [.d (.agg (encQ q))] [] (.tup [.d (.agg (qi (y4 q).1)),.d (.bool (y4 q).2)]) []:=by
 refine F15.goT ?_;obtain⟨acc,cons,items⟩:=q;cases items with
 |nil=>
  simp only[encQ,y4,qhd,go_sem,simprocAttr];refine qt _ rfl rfl (λe=> ?_) (λe=>Bool.noConfusion e);exact et
 |cons p l=>
  simp only[encQ,y4,go_sem,simprocAttr];refine qt _ rfl rfl (λe=> ?_) (λe=> ?_)
  ·simp at e;omega
  refine eo1 @qi.eq_1 ?_
  (repeat(with_reducible refine ob ?_));refine cl F66 (qhc p (hq.2 _ (by simp))) ?_
  exact et1 @qi.eq_1
attribute [go_sem] List.getD_nil
def d140:=cut prog f140 news
@[go_sem] def E140:=qj d140
def F140:=fnC d140 follows func140
def d100:=cut prog f100 news
@[go_sem] def E100:=qj d100
def d39:=cut prog f39 news
@[go_sem] def E39:=qj d39
def zc (q:Qu) (seq:Int):Qu×Int:=
 if !kw q then(xx,1)
 else if decide (seq≥1)&&decide (seq<=q.cons)then(xx,21)
 else if(q.items.length:Int)==0||seq !=(q.items.getD 0 default).seq then(xx,22)
 else(⟨q.acc,seq,q.items.drop 1⟩,0)
theorem q61 (q:Qu) (e:Int) (h:q.Sm):qf prog 140 [.d (.agg (encQ q)),.d (.int .i64 e)] [] (.tup [.d (.agg (encQ (zc q e).1)),.d (.int .i64 (zc q e).2)]) []:=by
 have hl:=h.1;refine F140.goT ?_;refine eo1 @encQ.eq_1 ?_;refine clF F188 (qgp q h) (λ_=>by exact et2 @qi.eq_1 @encQ.eq_1) ?_;refine ez ?_;refine qt _ rfl rfl (λh1=> ?_) (λh1=> ?_)
 ·exact et3 @zc.eq_1 @h1 @xx.eq_1
 refine eo ?_;refine qt _ rfl rfl (λh2=> ?_) (λh2=> ?_)
 ·exact et4 @zc.eq_1 @h1 @h2 @xx.eq_1
 obtain⟨acc,cons,items⟩:=q;cases items with
 |nil=>
  refine eo ?_;refine qt _ rfl rfl (λh3=> ?_) (λh3=> ?_)
  ·exact et4 @zc.eq_1 @h1 @h2 @xx.eq_1
  ·exact Bool.noConfusion h3
 |cons x l=>
  refine eo1 @qi.eq_1 ?_;refine qt _ rfl rfl (λh3=> ?_) (λh3=> ?_)
  ·exact et5 @zc.eq_1 @h1 @h2 @h3 @xx.eq_1
  refine ez1 @qi.eq_1 ?_;refine⟨by omega,?_⟩;simp only[List.length_cons]at hl;refine qin (qr0 l (by omega) (λp hp=>h.2 p (jA9 _ hp))) F222.body rfl ⟨by(refine ev2 @qi.eq_1 @encQ.eq_1 ?_;try exact⟨⟩),by try(refine ev ?_;try exact⟨⟩),by try(refine ev ?_;try exact⟨⟩),by try(refine ev ?_;try exact⟨⟩)⟩ (by exact et) (by simp[ASlot.toks]) ?_
  simp only[qe3,renT,zc,h1,h2,h3,go_sem,simprocAttr]
end Go.Proofs.YtkcdbcbpbolgkaaGreatDoor
