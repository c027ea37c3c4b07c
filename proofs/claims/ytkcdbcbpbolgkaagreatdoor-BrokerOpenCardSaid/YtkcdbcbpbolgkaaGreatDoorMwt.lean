/- Texts Tk, Td, Te, Tl, Tm, Tn, Lu, Lm, Lv, Lw, Ln, Lx. -/
import Derived.Test.YtkcdbcbpbolgkaaGreatDoorMws
import Derived.Shelf.Strconv.AtoiAll
set_option linter.unusedSimpArgs false
set_option linter.unusedVariables false
set_option linter.defProp false
set_option maxRecDepth 100000
noncomputable section
namespace Go.Proofs.YtkcdbcbpbolgkaaGreatDoor
open Tryz
open Go.Abs Go.Shelf Go.RowKit
def laysAtoi_ren:Go.Shelf.Ren:=⟨fun|172=>175|244=>240|245=>241|247=>283|279=>284|280=>285|281=>286|282=>287|287=>325|316=>326|171=>146|205=>327|321=>336|322=>337|243=>228|246=>271|283=>316|284=>317|285=>318|286=>319|129=>281|317=>331|318=>332|319=>333|320=>334|337=>340|338=>341|n=>n,fun|9=>9|3=>3|75=>291|76=>292|4=>4|5=>5|167=>374|37=>68|0=>0|85=>375|2=>2|168=>377|53=>270|175=>409|46=>338|210=>412|127=>423|145=>426|143=>424|21=>21|171=>275|173=>402|212=>418|51=>372|20=>20|213=>419|232=>430|233=>431|80=>216|n=>n,fun|15=>1|16=>2|17=>3|18=>4|19=>5|n=>n⟩
theorem laysAtoi:Go.Proofs.LaysC.n172 Tryz.prog laysAtoi_ren:={
  mixed:=by kernel_rfl
  f129:=Tryz.func281.trans (congrArg some (by kernel_rfl))
  f171:=Tryz.func146.trans (congrArg some (by kernel_rfl))
  f172:=Tryz.func175.trans (congrArg some (by kernel_rfl))
  f205:=Tryz.func327.trans (congrArg some (by kernel_rfl))
  f243:=Tryz.func228.trans (congrArg some (by kernel_rfl))
  f244:=Tryz.func240.trans (congrArg some (by kernel_rfl))
  f245:=Tryz.func241.trans (congrArg some (by kernel_rfl))
  f246:=Tryz.func271.trans (congrArg some (by kernel_rfl))
  f247:=Tryz.func283.trans (congrArg some (by kernel_rfl))
  f279:=Tryz.func284.trans (congrArg some (by kernel_rfl))
  f280:=Tryz.func285.trans (congrArg some (by kernel_rfl))
  f281:=Tryz.func286.trans (congrArg some (by kernel_rfl))
  f282:=Tryz.func287.trans (congrArg some (by kernel_rfl))
  f283:=Tryz.func316.trans (congrArg some (by kernel_rfl))
  f284:=Tryz.func317.trans (congrArg some (by kernel_rfl))
  f285:=Tryz.func318.trans (congrArg some (by kernel_rfl))
  f286:=Tryz.func319.trans (congrArg some (by kernel_rfl))
  f287:=Tryz.func325.trans (congrArg some (by kernel_rfl))
  f316:=Tryz.func326.trans (congrArg some (by kernel_rfl))
  f317:=Tryz.func331.trans (congrArg some (by kernel_rfl))
  f318:=Tryz.func332.trans (congrArg some (by kernel_rfl))
  f319:=Tryz.func333.trans (congrArg some (by kernel_rfl))
  f320:=Tryz.func334.trans (congrArg some (by kernel_rfl))
  f321:=Tryz.func336.trans (congrArg some (by kernel_rfl))
  f322:=Tryz.func337.trans (congrArg some (by kernel_rfl))
  f337:=Tryz.func340.trans (congrArg some (by kernel_rfl))
  f338:=Tryz.func341.trans (congrArg some (by kernel_rfl))
  t0:=Tryz.underlying0
  a0:=Tryz.isAgg0
  z0:=Tryz.sizeOf0
  v0:=Tryz.zeroValue0
  t2:=Tryz.underlying2
  a2:=Tryz.isAgg2
  z2:=Tryz.sizeOf2
  v2:=Tryz.zeroValue2
  t3:=Tryz.underlying3
  a3:=Tryz.isAgg3
  z3:=Tryz.sizeOf3
  v3:=Tryz.zeroValue3
  t4:=Tryz.underlying4
  a4:=Tryz.isAgg4
  z4:=Tryz.sizeOf4
  v4:=Tryz.zeroValue4
  t5:=Tryz.underlying5
  a5:=Tryz.isAgg5
  z5:=Tryz.sizeOf5
  v5:=Tryz.zeroValue5
  t9:=Tryz.underlying9
  a9:=Tryz.isAgg9
  z9:=Tryz.sizeOf9
  v9:=Tryz.zeroValue9
  t20:=Tryz.underlying20
  a20:=Tryz.isAgg20
  z20:=Tryz.sizeOf20
  v20:=Tryz.zeroValue20
  t21:=Tryz.underlying21
  a21:=Tryz.isAgg21
  z21:=Tryz.sizeOf21
  v21:=Tryz.zeroValue21
  t37:=Tryz.underlying68
  a37:=Tryz.isAgg68
  z37:=Tryz.sizeOf68
  v37:=Tryz.zeroValue68
  t46:=Tryz.underlying338
  a46:=Tryz.isAgg338
  z46:=Tryz.sizeOf338
  v46:=Tryz.zeroValue338
  t51:=Tryz.underlying372
  a51:=Tryz.isAgg372
  z51:=Tryz.sizeOf372
  v51:=Tryz.zeroValue372
  t53:=Tryz.underlying270
  a53:=Tryz.isAgg270
  z53:=Tryz.sizeOf270
  v53:=Tryz.zeroValue270
  t75:=Tryz.underlying291
  a75:=Tryz.isAgg291
  z75:=Tryz.sizeOf291
  v75:=Tryz.zeroValue291
  t76:=Tryz.underlying292
  a76:=Tryz.isAgg292
  z76:=Tryz.sizeOf292
  v76:=Tryz.zeroValue292
  t85:=Tryz.underlying375
  a85:=Tryz.isAgg375
  z85:=Tryz.sizeOf375
  v85:=Tryz.zeroValue375
  t127:=Tryz.underlying423
  a127:=Tryz.isAgg423
  z127:=Tryz.sizeOf423
  v127:=Tryz.zeroValue423
  t143:=Tryz.underlying424
  a143:=Tryz.isAgg424
  z143:=Tryz.sizeOf424
  v143:=Tryz.zeroValue424
  t145:=Tryz.underlying426
  a145:=Tryz.isAgg426
  z145:=Tryz.sizeOf426
  v145:=Tryz.zeroValue426
  t167:=Tryz.underlying374
  a167:=Tryz.isAgg374
  z167:=Tryz.sizeOf374
  v167:=Tryz.zeroValue374
  t168:=Tryz.underlying377
  a168:=Tryz.isAgg377
  z168:=Tryz.sizeOf377
  v168:=Tryz.zeroValue377
  t171:=Tryz.underlying275
  a171:=Tryz.isAgg275
  z171:=Tryz.sizeOf275
  v171:=Tryz.zeroValue275
  t173:=Tryz.underlying402
  a173:=Tryz.isAgg402
  z173:=Tryz.sizeOf402
  v173:=Tryz.zeroValue402
  t175:=Tryz.underlying409
  a175:=Tryz.isAgg409
  z175:=Tryz.sizeOf409
  v175:=Tryz.zeroValue409
  t210:=Tryz.underlying412
  a210:=Tryz.isAgg412
  z210:=Tryz.sizeOf412
  v210:=Tryz.zeroValue412
  t212:=Tryz.underlying418
  a212:=Tryz.isAgg418
  z212:=Tryz.sizeOf418
  v212:=Tryz.zeroValue418
  t213:=Tryz.underlying419
  a213:=Tryz.isAgg419
  z213:=Tryz.sizeOf419
  t232:=Tryz.underlying430
  a232:=Tryz.isAgg430
  z232:=Tryz.sizeOf430
  v232:=Tryz.zeroValue430
  t233:=Tryz.underlying431
  a233:=Tryz.isAgg431
  z233:=Tryz.sizeOf431
  v233:=Tryz.zeroValue431
  g15:=by kernel_rfl
  g16:=by kernel_rfl
  g17:=by kernel_rfl
  g18:=by kernel_rfl
  g19:=by kernel_rfl
  t80:=Tryz.underlying216
  a80:=Tryz.isAgg216
  z80:=Tryz.sizeOf216
  v80:=Tryz.zeroValue216
  i0:=by kernel_rfl
  i2:=by kernel_rfl
  i3:=by kernel_rfl
  i4:=by kernel_rfl
  i5:=by kernel_rfl
  i9:=by kernel_rfl
  i20:=by kernel_rfl
  i21:=by kernel_rfl
  i37:=by kernel_rfl
  i46:=by kernel_rfl
  i51:=by kernel_rfl
  i53:=by kernel_rfl
  i75:=by kernel_rfl
  i76:=by kernel_rfl
  i80:=by kernel_rfl
  i85:=by kernel_rfl
  i127:=by kernel_rfl
  i143:=by kernel_rfl
  i145:=by kernel_rfl
  i167:=by kernel_rfl
  i168:=by kernel_rfl
  i171:=by kernel_rfl
  i173:=by kernel_rfl
  i175:=by kernel_rfl
  i210:=by kernel_rfl
  i212:=by kernel_rfl
  i232:=by kernel_rfl
  i233:=by kernel_rfl
  m15:=by kernel_rfl
  m16:=by kernel_rfl
  m17:=by kernel_rfl
  m18:=by kernel_rfl
  m19:=by kernel_rfl
  c0:=by kernel_rfl
  c2:=by kernel_rfl
  c3:=by kernel_rfl
  c4:=by kernel_rfl
  c5:=by kernel_rfl
  c9:=by kernel_rfl
  c20:=by kernel_rfl
  c21:=by kernel_rfl
  c37:=by kernel_rfl
  c46:=by kernel_rfl
  c51:=by kernel_rfl
  c53:=by kernel_rfl
  c75:=by kernel_rfl
  c76:=by kernel_rfl
  c80:=by kernel_rfl
  c85:=by kernel_rfl
  c127:=by kernel_rfl
  c143:=by kernel_rfl
  c145:=by kernel_rfl
  c167:=by kernel_rfl
  c168:=by kernel_rfl
  c171:=by kernel_rfl
  c173:=by kernel_rfl
  c175:=by kernel_rfl
  c210:=by kernel_rfl
  c212:=by kernel_rfl
  c213:=by kernel_rfl
  c232:=by kernel_rfl
  c233:=by kernel_rfl}
theorem q8w {P:Program} {f:FuncId} {args:List ASlot} {r:ASlot} (hr:r.toks= [])
  (h: ∀(g:Ghost) (w:World) (vs:List Value),GlobOk g w->vs.length=args.length->(∀(i:Nat) (v:Value) (s:ASlot),vs[i]? =some v->args[i]? =some s->RC g w (vy args++xi []) v s) ->
   Calls P f vs.toArray w λe w'=> ∃v,e= .returned v∧Below w.heap.size w w'∧ ∀g',RS g' w' [] v r):qf P f args [] r []:=by
 intro g w vs q d hv A;refine(h g w vs q.2 d hv).mono ?_;rintro e w' ⟨v,rfl,l,p⟩;have B:G g w g w':=by
  refine⟨l.os,l.tape,l.output,l.size,λb d m=>⟨l.block b d,m⟩,λb n d m=>⟨l.block b d,m⟩,λb n t d m=>⟨n,some t,m,jAi _,λi u _ hu=>by rw[kj (l.block b d)];exact hu⟩,λb id d m=>⟨m,jBt (jl (l.block b d)).symm⟩⟩
 refine⟨v,g,[],rfl,B,q.of B λb z=>q.1 b (jBn l.size z),by rw[hr];simp[xi],p g,λid o h=>by simp at h,A.inj,λb id h=> ?_⟩;obtain⟨o,h1,_⟩:=A.ids b id h;simp at h1
def xq8 (s:List UInt8):Int:=match Lib.atoiAll s with
 | .ok v=>v
 | .range=>Lib.atoiSat s
 | _=>0
def q8x (s:List UInt8):D:=match Lib.atoiAll s with
 | .ok _=> .niliface
 | _=> .iface 377 .any
theorem xk1 (s:List UInt8) (hs:s.length<=1000000):qf prog 175 [.d (.str s)] [] (.tup [.d (.int .i64 (xq8 s)),.d (q8x s)]) []:=by
 refine q8w rfl λg w vs hg hl hv=> ?_;match vs,hl with
 | [v],_=>
 have h0:=hv 0 v _ rfl rfl;have z:RV g w v (.str s):=h0;cases z;have q:(ByteArray.mk s.toArray).size<=281474976710656:=by
  have:(ByteArray.mk s.toArray).size=s.length:=by simp[ByteArray.size]
  omega
 have o: ∀k,k=1∨k=2-> ∃ev,w.cell? ⟨k,0,none⟩=some ev∧(ev= .nilIface∨ ∃te pe,ev= .iface te pe):=by
  intro k hk;obtain⟨_,u,_,h2,h3⟩:=hg k (by rcases hk with rfl|rfl<;>simp[xbc])
  refine⟨u,h2,?_⟩;cases u<;>first|(exact .inl rfl)|(exact .inr ⟨_,_,rfl⟩)|cases h3
 unfold xq8 q8x;cases h:Lib.atoiAll s with
 |ok n=>
  refine(Any.strconv_Atoi_ok laysAtoi ⟨s.toArray⟩ (by omega) n h w).mono ?_;rintro e w' ⟨rfl,p⟩;refine⟨_,rfl,?_,λg'=>⟨[.int .i64 n,.nilIface],rfl,rfl,λi u t l m=> ?_⟩⟩
  ·rcases p with rfl|⟨t,rfl⟩
   ·exact Below.refl _ _
   ·exact Lib.bytesWorld_below _ _ _
  ·rcases i with _| _|i<;>simp at l m
   ·subst l m;exact RV.int _ _
   ·subst l m;exact RV.niliface
 |range=>
  obtain⟨ev,B,A⟩:=o 2 (.inr rfl);refine(Any.strconv_Atoi_range laysAtoi ⟨s.toArray⟩ q h ev w B A).mono ?_;rintro e w' ⟨N,rfl,_,_,p⟩;refine⟨_,rfl,p,λg'=>⟨[.int .i64 (Lib.atoiSat s),.iface 377 (.pointer (some ⟨N,0,none⟩))],rfl,rfl,λi u t l m=> ?_⟩⟩;rcases i with _| _|i<;>simp at l m
  ·subst l m;exact RV.int _ _
  ·subst l m;exact RV.iface _ _ _ (.any _ rfl)
 | _=>
  obtain⟨ev,B,A⟩:=o 1 (.inl rfl);refine(Any.strconv_Atoi_syntax laysAtoi ⟨s.toArray⟩ q h ev w B A).mono ?_;rintro e w' ⟨N,rfl,_,_,p⟩;refine⟨_,rfl,p,λg'=>⟨[.int .i64 0,.iface 377 (.pointer (some ⟨N,0,none⟩))],rfl,rfl,λi u t l m=> ?_⟩⟩;rcases i with _| _|i<;>simp at l m
  ·subst l m;exact RV.int _ _
  ·subst l m;exact RV.iface _ _ _ (.any _ rfl)
theorem xq9: ∀n:Fin 33,Lib.atoiAll ((uKey (n.val:Int)).drop 2)= .ok (n.val:Int):=by decide+kernel
end Go.Proofs.YtkcdbcbpbolgkaaGreatDoor
namespace Go.Proofs.YtkcdbcbpbolgkaaGreatDoor
open Tryz
open Go.Abs
def d242:=cut prog f242 news
@[go_sem] def E242:=qj d242
def F242:=fnC d242 follows func242
def d176:=cut prog f176 news
@[go_sem] def E176:=qj d176
def F176:=fnC d176 follows func176
def d175:=cut prog f175 news
@[go_sem] def E175:=qj d175
def F175:=fnC d175 follows func175
def d93m:=cut prog f93 news [46,1000046,1000048] [18]
@[go_sem] def E93m:=qj d93m
def F93m:=fnC d93m follows func93
theorem xra (k p:List UInt8) (h:pre p k=true):qf prog 242 [.d (.str k),.d (.str p)] [] (.d (.str (k.drop p.length))) []:=by
 have hl:p.length<=k.length:=by simp[pre]at h;exact h.1
 have ht:(k.drop p.length).take (k.length-p.length)=k.drop p.length:=jAq (by simp);have e:=qmb k p;rw[h]at e;refine F242.go ?_;refine eo ?_;refine cl F236 (e) ?_;refine eo ?_;refine ya ?_;refine ez2 @jA6 @ht ?_;omega
theorem xk2 (k p:List UInt8) (h:pre p k=true):qf prog 176 [.d (.str k),.d (.str p)] [] (.d (.str (k.drop p.length))) []:=by
 refine F176.go ?_;refine eo ?_;refine cl F242 (xra k p h) ?_;exact et
def mark (n N j:Nat):List Bool:=(k7 n N).take j++List.replicate (n-j) false
def mkO (l:List Bool):AObj:= .row (l.map λb=> .d (.bool b))
theorem qtr (n N:Nat):mark n N 0=List.replicate n false:=by simp[mark]
theorem qz9 (n N:Nat):mark n N n=k7 n N:=by simp[mark,jAq (jBt (kc n N))]
theorem q0a {n N j:Nat} (hj:j<=n):(mark n N j).length=n:=by
 rw[mark,jAc,jAl,kc,jBp];omega
theorem q0b {n N j:Nat} (d:j<n):(mark n N j).set j (N/2^j%2==1)=mark n N (j+1):=by
 have hl:((k7 n N).take j).length=j:=by rw[jAl,kc];omega
 have hr:List.replicate (n-j) false=false::List.replicate (n-(j+1)) false:=by
  rw[show n-j=(n-(j+1))+1 by omega,jDq]
 have hb:(k7 n N)[j]'(by rw[kc];exact d)=(N/2^j%2==1):=by
  have:=qwh n N j d;rw[jA1,jAa (by rw[kc];exact d)]at this;exact this
 rw[mark,mark,hr,jEj _ _ (by omega),hl,jDe,List.set_cons_zero,<- jD9 (show j<(k7 n N).length by rw[kc];exact d),hb,jAh];rfl
theorem xss {N:Int} (h0:0<=N) (h1:N<=1000000) (j:Nat) (hj:j<=60):(IntKind.i64.wrap (qw1 64 (N.fdiv (2^(min j 64))) 1)==1)=(N.toNat/2^j%2==1):=by
 obtain⟨n,rfl⟩: ∃n:Nat,N=n:=⟨N.toNat,by omega⟩;have e1:min j 64=j:=by omega
 have e2:((n:Int)).fdiv (2^j)=((n/2^j:Nat):Int):=by
  rw[jDc _ (by exact jFb (Int.pow_pos (by decide)))];simp
 have d:n/2^j<=n:=Nat.div_le_self _ _;rw[e1,e2,jA6];generalize n/2^j=q at d;have hq:q<2^64:=Nat.lt_of_le_of_lt d (by omega);have e:=qsk 64 q 1 hq (by decide);rw[Nat.and_one_is_mod]at e;rw[show qw1 64 (q:Int) 1=((q%2:Nat):Int)from e,xo (by unfold I64;omega),jBl];simp only[beq_iff_eq];omega
theorem qwu (hi:Nat) (r:Rd):0<=(xc 0 (hi:Nat) r).1∧(xc 0 (hi:Nat) r).1<=hi:=by
 unfold xc qb8;split
 ·simp
 ·split
  ·simp
  ·rename_i h;exact qbb (by simpa using h)
def ld1 (v:List UInt8):Int×Rd:=js ⟨v,0,false⟩
def ld2 (r:Int) (v:List UInt8):Int×Rd:=xc 0 (ldN r) (ld1 v).2
def ld3 (r:Int) (v:List UInt8):Int×Rd:=xc 0 (ldN r) (ld2 r v).2
theorem xvn (r:Int) (v:List UInt8):ldRd r v=(((ld1 v).1,(ld2 r v).1,(ld3 r v).1),(ld3 r v).2):=rfl
def ldR (r:Int) (v:List UInt8):Nat->Rd
 |0=>(ld1 v).2
 |1=>(ld2 r v).2
 | _=>(ld3 r v).2
def ldM (n:Nat) (v:List UInt8):Nat->List Bool
 |0=>List.replicate n false
 | _=>k7 n (ld2 n v).1.toNat
def ldP (n:Nat) (v:List UInt8):Nat->List Bool
 |0=>List.replicate n false
 |1=>List.replicate n false
 | _=>k7 n (ld3 n v).1.toNat
theorem x1g (r:Int) (v:List UInt8):ldR r v 0=(ld1 v).2:=rfl
theorem x1h (r:Int) (v:List UInt8):ldR r v 1=(ld2 r v).2:=rfl
theorem x1i (r:Int) (v:List UInt8):ldR r v 2=(ld3 r v).2:=rfl
theorem x1j (n:Nat) (v:List UInt8):ldM n v 0=List.replicate n false:=rfl
theorem x1k (n:Nat) (v:List UInt8):ldM n v 1=k7 n (ld2 n v).1.toNat:=rfl
theorem x1l (n:Nat) (v:List UInt8):ldM n v 2=k7 n (ld2 n v).1.toNat:=rfl
theorem x1m (n:Nat) (v:List UInt8):ldP n v 0=List.replicate n false:=rfl
theorem x1n (n:Nat) (v:List UInt8):ldP n v 1=List.replicate n false:=rfl
theorem x1o (n:Nat) (v:List UInt8):ldP n v 2=k7 n (ld3 n v).1.toNat:=rfl
attribute [go_sem] x1g x1h x1i x1j x1k x1l x1m x1n x1o
def SldO (k v:List UInt8) (s n:Nat) (rd:Rd) (m o:List Bool) (fr:Fr):St:=
 ⟨(1,true,.d (.int .i64 n))::(4,true,.d (.ptr 1 0))::(8,true,.d (.ptr 2 0))::(9,true,.d (.ptr 5 0))::(54,true,.d (.sl 1 [[.ref 3 0 1 n],[.ref 4 0 1 n]]))::(55,true,.d (.int .i64 2))::fr,
  [.row [.d (.str k),.d (.sl 1 (qd v))],.row [.d (.int .i64 0),.d (.int .i64 0),.d .nilsl,.d .nilsl],rdO rd,mkO m,mkO o,.row [.d (.int .i64 s),.d (.int .i64 (ld1 v).1),.d (.ref 3 0 1 n),.d (.ref 4 0 1 n)]],[],1⟩
def SldA (k v:List UInt8) (s n:Nat) (i:{i:Nat//i<=2}):St:=SldO k v s n (ldR n v i.val) (ldM n v i.val) (ldP n v i.val) [(56,true,.d (.int .i64 (i.val:Nat)))]
def SldB (k v:List UInt8) (s n:Nat) (j:{j:Nat//j<=n}):St:=SldO k v s n (ld2 n v).2 (mark n (ld2 n v).1.toNat j.val) (List.replicate n false)
 [(56,true,.d (.int .i64 0)),(11,true,.d (.ref 3 0 1 n)),(12,true,.d (.int .i64 (ld2 n v).1)),(66,true,.d (.int .i64 n)),(67,true,.d (.int .i64 (j.val:Nat)))]
def SldC (k v:List UInt8) (s n:Nat) (j:{j:Nat//j<=n}):St:=SldO k v s n (ld3 n v).2 (k7 n (ld2 n v).1.toNat) (mark n (ld3 n v).1.toNat j.val)
 [(56,true,.d (.int .i64 1)),(11,true,.d (.ref 4 0 1 n)),(12,true,.d (.int .i64 (ld3 n v).1)),(66,true,.d (.int .i64 n)),(67,true,.d (.int .i64 (j.val:Nat)))]
theorem xrb (s:Nat) (hs:s<=32) (v:List UInt8) (R:v.length<=1000000000) (n:Nat) (h1:1<=n) (h6:n<=6):
  qf prog 93 [.d (.agg [.str (uKey (s:Nat)),.sl 1 (qd v)]),.d (.int .i64 (n:Nat))] [] (.tup [.d (.agg (qu (q4n (n:Nat) (s:Nat) (ldRd (n:Nat) v).1))),.d (.bool (rEnd (ldRd (n:Nat) v).2==0))]) []:=by
 have m:(⟨v,0,false⟩:Rd).Ok:=⟨R,jAj _⟩;have kt:=xk2 (uKey (s:Nat)) [117,47] rfl;have M:=xk1 ((uKey (s:Nat)).drop 2) (by simp[uKey]);have kd:=xq9 ⟨s,by omega⟩;simp only[xq8,q8x,kd]at M;have kk:=qzr (s:Nat) (by omega) (by omega);have J:=qp3 v R;have q:=(vm m).1;have z:=qp4 ⟨v,0,false⟩ m;change qf _ _ _ _ (.d (.int .i64 (ld1 v).1)) [rdO (ld1 v).2]at z;change (ld1 v).2.Ok at q;have u:=qi1 (ld1 v).2 0 (ldN (n:Nat)) q;change qf _ _ _ _ (.d (.int .i64 (ld2 (n:Nat) v).1)) [rdO (ld2 (n:Nat) v).2]at u;have p:=(qc0 q 0 (ldN (n:Nat))).1;change (ld2 (n:Nat) v).2.Ok at p;have t:=qi1 (ld2 (n:Nat) v).2 0 (ldN (n:Nat)) p;change qf _ _ _ _ (.d (.int .i64 (ld3 (n:Nat) v).1)) [rdO (ld3 (n:Nat) v).2]at t;have I:=(qc0 p 0 (ldN (n:Nat))).1;change (ld3 (n:Nat) v).2.Ok at I;have O:=q7n (ld3 (n:Nat) v).2 I;simp only[rdO]at J z u t O;have c1:decide (((s:Nat):Int)<0)=false:=by simp
 have c2:decide (((s:Nat):Int)>32)=false:=by simp;omega
 rw[xvn];refine F93m.goT ?_;refine eo ?_;refine cl F176 (kt) ?_;simp only[List.length_cons,List.length_nil,go_sem,simprocAttr]
 (repeat(with_reducible refine ob ?_));refine cl F175 (M) ?_
 refine eo2 @c1 @c2 ?_;refine cl F79 (kk) ?_;refine eo1 @beq_self_eq_true.{0} ?_
 (repeat(with_reducible refine ob ?_));refine no_ ?_
 refine ez ?_;refine clO [2] F177 J ?_;refine eo ?_;refine clO [2] F178 (z) ?_;refine ez ?_;have nn:((n:Nat):Int)<=1000000000∧(n:Int)*1<=281474976710656:=by omega
 refine⟨⟨by omega,by omega,by omega,by omega⟩,⟨by omega,by omega,by omega,by omega⟩,?_⟩;have flr:List.replicate n [D.bool false]=(List.replicate n false).map encB:=by rw[jFp];rfl
 have o:ldN (n:Nat)<=63∧0<=ldN (n:Nat):=by
  have:=xzp (r:=(n:Nat)) (by omega) (by omega);rw[qtf];rw[jA6]at this⊢;omega
 have cN:IntKind.i64.wrap (IntKind.i64.wrap (1*2^(min n 64)) -1)=ldN (n:Nat):=by
  have e1:min n 64=n:=by omega
  have G:ldN (n:Nat)=2^n-1:=rfl;rw[e1,xo (n:=1*2^n) (by rw[G]at o;unfold I64;omega),xo (by rw[G]at o;unfold I64;omega),G];omega
 have b2:0<=(ld2 (n:Nat) v).1∧(ld2 (n:Nat) v).1<=63:=by
  have:=qwu (2^(n:Int).toNat-1) (ld1 v).2;rw[<- qtf]at this;exact⟨this.1,Int.le_trans this.2 o.1⟩
 have b3:0<=(ld3 (n:Nat) v).1∧(ld3 (n:Nat) v).1<=63:=by
  have:=qwu (2^(n:Int).toNat-1) (ld2 (n:Nat) v).2;rw[<- qtf]at this;exact⟨this.1,Int.le_trans this.2 o.1⟩
 refine qg (SldA (uKey (s:Nat)) v s n) (λi=>2-i.val) ⟨0,by omega⟩ ?_ (λi=> ?_)
 ·exact et6 @SldA.eq_1 @SldO.eq_1 @rdO.eq_1 @mkO.eq_1 @flr @jAt
 obtain⟨i,hi⟩:=i;obtain rfl|rfl|rfl:i=0∨i=1∨i=2:=by omega
 ·refine eo5 @SldA.eq_1 @SldO.eq_1 @rdO.eq_1 @mkO.eq_1 @jAt ?_;refine ya ?_;refine ez ?_;refine eo1 @cN ?_;refine clO [2] F179 (u) ?_;refine ez ?_;refine qg (SldB (uKey (s:Nat)) v s n) (λj=>n-j.val) ⟨0,jAj _⟩ ?_ (λj=> ?_)
  ·exact et6 @SldB.eq_1 @SldO.eq_1 @rdO.eq_1 @mkO.eq_1 @qtr @jAt
  obtain⟨j,E⟩:=j;refine eo4 @SldB.eq_1 @SldO.eq_1 @rdO.eq_1 @mkO.eq_1 ?_;refine xf _ (λh=> ?_) (λh=> ?_)
  ·have e:j<n:=by simpa using h
   have F:=xss b2.1 (Int.le_trans b2.2 (by omega)) j (by omega);have hw:=qe (show j<9223372036854775807 by omega);have C:=q0b (N:=(ld2 (n:Nat) v|>.1).toNat) e;have l:=q0a (n:=n) (N:=(ld2 (n:Nat) v|>.1).toNat) E;simp only[jA6,F,jCo,Nat.zero_add,qmx,C,l,jAm,jBp,kc,go_sem,simprocAttr]
   (repeat(with_reducible refine ob ?_))
   refine⟨⟨j+1,e⟩,?_,by dsimp only;omega⟩;exact et5 @SldB.eq_1 @SldO.eq_1 @rdO.eq_1 @mkO.eq_1 @hw
  ·have e:j=n:=by simp at h;omega
   subst e;refine ez ?_;refine⟨⟨1,by omega⟩,?_,by dsimp only;omega⟩;exact et6 @SldA.eq_1 @SldO.eq_1 @rdO.eq_1 @mkO.eq_1 @qz9 (show IntKind.i64.wrap 1=1 by decide)
 ·refine eo4 @SldA.eq_1 @SldO.eq_1 @rdO.eq_1 @mkO.eq_1 ?_;refine ya ?_;refine ez ?_;refine eo1 @cN ?_;refine clO [2] F179 (t) ?_;refine ez ?_;refine qg (SldC (uKey (s:Nat)) v s n) (λj=>n-j.val) ⟨0,jAj _⟩ ?_ (λj=> ?_)
  ·exact et6 @SldC.eq_1 @SldO.eq_1 @rdO.eq_1 @mkO.eq_1 @qtr @jAt
  obtain⟨j,E⟩:=j;refine eo4 @SldC.eq_1 @SldO.eq_1 @rdO.eq_1 @mkO.eq_1 ?_;refine xf _ (λh=> ?_) (λh=> ?_)
  ·have e:j<n:=by simpa using h
   have F:=xss b3.1 (Int.le_trans b3.2 (by omega)) j (by omega);have hw:=qe (show j<9223372036854775807 by omega);have C:=q0b (N:=(ld3 (n:Nat) v|>.1).toNat) e;have l:=q0a (n:=n) (N:=(ld3 (n:Nat) v|>.1).toNat) E;simp only[jA6,F,jCo,Nat.zero_add,qmx,C,l,jAm,jBp,kc,go_sem,simprocAttr]
   (repeat(with_reducible refine ob ?_))
   refine⟨⟨j+1,e⟩,?_,by dsimp only;omega⟩;exact et5 @SldC.eq_1 @SldO.eq_1 @rdO.eq_1 @mkO.eq_1 @hw
  ·have e:j=n:=by simp at h;omega
   subst e;refine ez ?_;refine⟨⟨2,by omega⟩,?_,by dsimp only;omega⟩;exact et6 @SldA.eq_1 @SldO.eq_1 @rdO.eq_1 @mkO.eq_1 @qz9 (show IntKind.i64.wrap 2=2 by decide)
 ·refine eo4 @SldA.eq_1 @SldO.eq_1 @rdO.eq_1 @mkO.eq_1 ?_;refine no_ ?_;refine ez ?_;have X:(k7 n (ld2 n v).1.toNat).length=n:=kc _ _;have U:(k7 n (ld3 n v).1.toNat).length=n:=kc _ _;have hr:qu (q4n n s ((ld1 v).1,(ld2 n v).1,(ld3 n v).1))= [.int .i64 s,.int .i64 (ld1 v).1,.sl 1 ((k7 n (ld2 n v).1.toNat).map encB),.sl 1 ((k7 n (ld3 n v).1.toNat).map encB)]:=rfl;rw[hr];generalize k7 n (ld2 n v).1.toNat=A at X⊢;generalize k7 n (ld3 n v).1.toNat=B at U⊢;refine qio 3 1 (A.map encB) ?_ (qdh _) (qhr _) (qhs _) (D.okWR_noPtr (qaj _));simp only[qov,Fr.mapS,List.map_cons,List.map_nil,AObj.mapS,qp9,List.set_cons_zero,List.set_cons_succ];simp only[jAm,X,qo8 _ _ _ _ _ (jz _),go_sem,simprocAttr];refine qio 4 1 (B.map encB) ?_ (qdh _) (qhr _) (qhs _) (D.okWR_noPtr (qaj _));simp only[qov,Fr.mapS,List.map_cons,List.map_nil,AObj.mapS,List.set_cons_zero,List.set_cons_succ,qo8 _ _ _ _ _ (qaj _)];simp only[jAm,U,qo8 _ _ _ _ _ (jz _),qo8 _ _ _ _ _ (qaj _),go_sem,simprocAttr];refine pu ?_;refine eo ?_;refine clO [2] F180 (O) ?_;refine eo ?_;exact et
def q0c (n:Int) (k v:List UInt8):Ue×Bool:=match qc2 k with
 |some s=>(q4n n (s:Nat) (ldRd n v).1,rEnd (ldRd n v).2==0)
 |none=>(⟨0,0,[],[]⟩,false)
theorem xk3 (k:List UInt8) (hk:pre uPfx k=true) (hkl:k.length<=1000) (v:List UInt8) (hv:v.length<=1000000000) (n:Nat) (h1:1<=n) (h6:n<=6):
  qf prog 93 [.d (.agg [.str k,.sl 1 (qd v)]),.d (.int .i64 (n:Nat))] [] (.tup [.d (.agg (qu (q0c (n:Nat) k v).1)),.d (.bool (q0c (n:Nat) k v).2)]) []:=by
 unfold q0c;cases hs:qc2 k with
 |some s=>
  obtain⟨q1,rfl⟩:=qld hs;exact xrb s q1 v hv n h1 h6
 |none=>
  have kt:=xk2 k [117,47] hk;have h:=xk1 (k.drop 2) (by rw[jAp];omega);have i: ∀s:Int,0<=s->s<=32->(uKey s==k)=false:=by
   intro s h0 h32;rw[qc2,jCj]at hs;have:=hs s.toNat (by simp;omega);rw[show((s.toNat:Nat):Int)=s by omega]at this;simpa using this
  have l:q8x (k.drop 2)= .niliface∨ ∃t,q8x (k.drop 2)= .iface t .any:=by
   unfold q8x;cases Lib.atoiAll (k.drop 2)with
   |ok v=>exact .inl rfl
   | _=>exact .inr ⟨_,rfl⟩
  generalize xq8 (k.drop 2)=a at h;generalize q8x (k.drop 2)=e at h l;refine F93m.goT ?_;refine eo ?_;refine cl F176 (kt) ?_;simp only[List.length_cons,List.length_nil,go_sem,simprocAttr];rcases l with rfl|⟨t,rfl⟩
  ·(repeat(with_reducible refine ob ?_));refine cl F175 (h) ?_
   by_cases c1:a<0
   ·refine ez1 (decide_eq_true c1) ?_;refine qa9 (.str []) rfl ?_;refine eo ?_;refine ya ?_;exact et2 @qu.eq_1 @List.map_nil.{0,0}
   by_cases c2:a>32
   ·refine ez2 (decide_eq_false c1) (decide_eq_true c2) ?_;refine qa9 (.str []) rfl ?_;refine eo ?_;refine ya ?_;exact et2 @qu.eq_1 @List.map_nil.{0,0}
   ·refine eo2 (decide_eq_false c1) (decide_eq_false c2) ?_;refine cl F79 (qzr a (by omega) (by omega)) ?_;refine eo1 (i a (by omega) (by omega)) ?_;refine ya ?_;exact et2 @qu.eq_1 @List.map_nil.{0,0}
  ·(repeat(with_reducible refine ob ?_));refine cl F175 (h) ?_
   refine ez ?_;refine qa9 (.str []) rfl ?_;refine eo ?_;refine ya ?_;exact et2 @qu.eq_1 @List.map_nil.{0,0}
def d32:=cut prog f32 news
@[go_sem] def E32:=qj d32
def F32:=fnC d32 follows func32
theorem q0d {m:Cont} {p:List UInt8} {e:En} (h:e∈qau m p):pre p e.1=true∧ ∃x∈m.l,enOf x=e:=by
 rw[qau,(vd _).mem_iff,preL,jAo]at h;obtain⟨y,hy,rfl⟩:=h;obtain⟨h1,h2⟩:=jBs.1 hy;exact⟨h2,y,h1,rfl⟩
def SuLd (s:Sto) (l:List En) (r:Nat) (x:Nat×List Ue):St:=
 ⟨[(1,true,.d (.int .i64 r)),(4,true,.d (.ptr 2 0)),(6,true,.d (.ptr 3 0)),(22,true,.d (.sl 2 (l.map x9))),(23,true,.d (.int .i64 l.length)),(24,true,.d (.int .i64 (x.1:Nat)))],
  [stoO s 1,mapO s.m,.row [.d (.int .i64 0),.d .nilsl],.row [.d (.int .i64 r),.own 0 4 (x.2.map qu)]],[0],1⟩
theorem xk4 (n:Nat) (h1:1<=n) (h6:n<=6):qf prog 43 [.d (.int .i64 (n:Nat))] [] (.tup [.d (.agg [.int .i64 (n:Nat),.nilsl]),.d (.int .i64 0)]) []:=by
 have c1:(decide ((n:Int)<1)||decide ((n:Int)>6))=false:=by simp;omega
 refine F43.goT ?_;refine eo1 @c1 ?_;refine no_ ?_;exact et
theorem xes {r:Int} {l:List En} {i:Nat} (hi:i<l.length):qhu r (l.drop i)=(match ldEn r l[i]with
  |none=>none
  |some x=>(qhu r (l.drop (i+1))).map (x:: ·)):=by
 rw[jBm hi,qhu];try(cases ldEn r l[i]<;>rfl)
theorem xrc (n:Nat) (e:En):ldEn (n:Nat) e=if(q0c (n:Nat) e.1 e.2).2=true then some (q0c (n:Nat) e.1 e.2).1 else none:=by
 unfold ldEn q0c;cases qc2 e.1 with
 |none=>rfl
 |some s=>simp only[xed,beq_iff_eq]
theorem xrd {n:Nat} (h:n<=6) (k v:List UInt8):(q0c (n:Nat) k v).1.Sm:=by
 unfold q0c;cases qc2 k with
 |none=>exact⟨by simp,by simp⟩
 |some s=>exact⟨by simp only[q4n,kc,jA6];omega,by simp only[q4n,kc,jA6];omega⟩
theorem xk5 (s:Sto) (r:Int) (hm:s.m.Ok) (hl:s.m.l.length<=1000) (X: ∀x∈s.m.l,x.2.1.length<=1000∧x.2.2.length<=1000000):
  qf prog 32 [.d (.ptr 0 0),.d (.int .i64 r)] [stoO s 1,mapO s.m] (.tup [.d (.agg (xt (xy s.m r).1)),.d (.int .i64 (xy s.m r).2)]) [stoO s 1,mapO s.m]:=by
 have F:=xho s uPfx hm hl λx hx=>(X x hx).2;simp only[stoO,mapO]at F;by_cases A:(decide (r<1)||decide (r>6))=true
 ·have k0:=qyv r;have h0:qk0 r=(⟨0,[]⟩,2):=by unfold qk0;rw[if_pos A]
  have hx:xy s.m r=(⟨0,[]⟩,2):=by unfold xy;rw[if_pos A]
  rw[h0]at k0;simp only[xt]at k0;refine F32.goT ?_;refine eo2 @stoO.eq_1 @mapO.eq_1 ?_;refine cl F43 (k0) ?_;refine eo ?_;refine eo1 @hx ?_;refine ya ?_;exact et2 @xt.eq_1 @List.map_nil.{0,0}
 have hx:xy s.m r=ldMg r (qhu r (qau s.m uPfx)):=by unfold xy;rw[if_neg A]
 simp only[jA0,decide_eq_true_eq,not_or]at A;obtain⟨n,rfl⟩: ∃n:Nat,r=n:=⟨r.toNat,by omega⟩;have I:(qau s.m uPfx).length<=1000:=by
  have:=qsb s.m uPfx;omega
 rw[hx];clear hx;have u: ∀e∈qau s.m uPfx,pre uPfx e.1=true∧e.1.length<=1000∧e.2.length<=1000000:=λe he=>by
  obtain⟨C,x,hx,rfl⟩:=q0d he;exact⟨C,X x hx⟩
 generalize qau s.m uPfx=L at F I u⊢;generalize v:ldMg (n:Nat) (qhu (n:Nat) L)=R;have k0:=xk4 n (by omega) (by omega);refine F32.goT ?_;refine eo2 @stoO.eq_1 @mapO.eq_1 ?_;refine cl F43 (k0) ?_;refine eo ?_;refine eo ?_;refine no_ ?_;refine eo ?_;refine clO [0,1] F92u (F) ?_;refine ez ?_;refine qg (λx:{x:Nat×List Ue//x.1<=L.length∧x.2.length=x.1∧(∀y∈x.2,y.Sm)∧qhu (n:Nat) L=(qhu (n:Nat) (L.drop x.1)).map (x.2++ ·)}=>SuLd s L n x.val) (λx=>L.length-x.val.1) ⟨(0,[]),jAj _,rfl,λy G=>(by cases G),by simp⟩ ?_ (λx=> ?_)
 ·exact et5 @SuLd.eq_1 @stoO.eq_1 @mapO.eq_1 @jAt @List.map_nil.{0,0}
 obtain⟨⟨i,l⟩,x1,O,B,m⟩:=x;simp only at x1 O B m;refine eo3 @SuLd.eq_1 @stoO.eq_1 @mapO.eq_1 ?_;refine xf _ (λh=> ?_) (λh=> ?_)
 ·have o:i<L.length:=by simpa using h
  obtain⟨C,q2,q3⟩:=u _ (jAg o);have E:=xk3 (L[i]).1 C q2 (L[i]).2 (by omega) n (by omega) (by omega);rw[xes o,xrc]at m;have p:=xrd (n:=n) (by omega) (L[i]).1 (L[i]).2;generalize q0c (n:Nat) (L[i]).1 (L[i]).2=y at E m p;obtain⟨y,M⟩:=y;simp only at E m p;refine eo2 (qh x9 L o) @x9.eq_1 ?_
  (repeat(with_reducible refine ob ?_));refine cl F93m (E) ?_
  refine ez ?_;refine⟨⟨rfl,rfl⟩,?_⟩;have hwi:=qe (show i<9223372036854775807 by omega);refine xf _ (λq=> ?_) (λq=> ?_)
  ·have hn:M=false:=by simpa using q
   subst hn;simp only[jAw,if_false,Option.map_none]at m;rw[m]at v;have hR2:R=(⟨0,[]⟩,4):=v.symm;exact et3 @hR2 @xt.eq_1 @List.map_nil.{0,0}
  ·have G:M=true:=by simpa using q
   subst G;simp only[if_true,jFg]at m;refine eo1 @qu.eq_1 ?_;refine⟨⟨(i+1,l++ [y]),o,by simp[O],λz t=> ?_,?_⟩,?_,by dsimp only;omega⟩
   ·rcases jAs.1 t with t|t
    ·exact B z t
    ·simp at t;subst t;exact p
   ·rw[m];congr 1;funext z;simp
   ·exact et8 @SuLd.eq_1 @stoO.eq_1 @mapO.eq_1 @jA2.{0,0} @List.map_cons.{0,0} @List.map_nil.{0,0} @qu.eq_1 @hwi
 ·have J:i=L.length:=by
   have:L.length<=i:=by simpa using h
   omega
  subst J;rw[jC0,qhu,Option.map_some,jAu]at m;rw[m]at v;have U:=qdd ⟨(n:Nat),l⟩ ⟨by simp only;omega,B⟩;simp only[xt]at U;refine eo ?_;refine cl F69 (U) ?_;refine ez ?_;refine xf _ (λq=> ?_) (λq=> ?_)
  ·have hm2:R=(⟨0,[]⟩,4):=by rw[<- v];unfold ldMg;exact if_neg (by simpa using q)
   exact et3 @xt.eq_1 @hm2 @List.map_nil.{0,0}
  ·have hm2:R=(⟨(n:Nat),l⟩,0):=by rw[<- v];unfold ldMg;exact if_pos (by simpa using q)
   exact et2 @xt.eq_1 @hm2
def d151:=cut prog f151 news
@[go_sem] def E151:=qj d151
def d84:=cut prog f84 news
@[go_sem] def E84:=qj d84
def F84:=fnC d84 follows func84
def d83:=cut prog f83 news
@[go_sem] def E83:=qj d83
def d97m:=cut prog f97 news [1000011] [10]
@[go_sem] def E97m:=qj d97m
def F97m:=fnC d97m follows func97
def d27:=cut prog f27 news
@[go_sem] def E27:=qj d27
def d33:=cut prog f33 news
@[go_sem] def E33:=qj d33
def F33:=fnC d33 follows func33
theorem xk6: ∀n:Fin 10,(([48,49,50,51,52,53,54,55,56,57]:List UInt8).drop n.val).take 1= [UInt8.ofNat (48+n.val)]:=by decide
theorem q0e (s:Int) (h1:0<=s) (h2:s<=99):qf prog 84 [.d (.int .i64 s)] [] (.d (.str (uKey s))) []:=by
 obtain⟨n,rfl⟩: ∃n:Nat,s=n:=⟨s.toNat,by omega⟩;have a1:IntKind.i64.wrap ((n:Int).tdiv 10)=((n/10:Nat):Int):=by
  rw[jB8 (by omega),xo (by unfold I64;omega)];omega
 have a2:((n:Int)).tmod 10=((n%10:Nat):Int):=by rw[jBf (by omega)];omega
 have h:=xk6 ⟨n/10,by omega⟩;have e:=xk6 ⟨n%10,by omega⟩;simp only at h e;have b1:n/10<10:=by omega
 have b2:n%10<10:=by omega
 have hk:uKey (n:Int)= [117,47]++ [UInt8.ofNat (48+n/10)]++ [UInt8.ofNat (48+n%10)]:=by simp[uKey]
 generalize n/10=p at*;generalize n%10=q at*;have h3:IntKind.i64.wrap ((p:Int)+1)=((p+1:Nat):Int):=qe (show p<9223372036854775807 by omega);have h4:IntKind.i64.wrap ((q:Int)+1)=((q+1:Nat):Int):=qe (show q<9223372036854775807 by omega);have s1:p+1-p=1:=by omega
 have s2:q+1-q=1:=by omega
 refine F84.go ?_;simp only[a1,a2,h3,h4,jA6,s1,s2,h,e,go_sem,simprocAttr]
 (repeat(with_reducible refine ob ?_))
 exact et1 @hk
def Sbit (n r k:Nat):St:=
 ⟨[(0,true,.d (.int .i64 (n/2^k:Nat))),(1,true,.d (.int .i64 r)),(6,true,.d (.ref 0 0 1 r)),(7,true,.d (.int .i64 k))],[mkO (mark r n k)],[],1⟩
set_option maxRecDepth 10000 in
theorem q5a (n:Int) (hn:I64 n) (r:Nat) (hr:r<=60):qf Tryz.prog 97 [.d (.int .i64 n),.d (.int .i64 r)] [] (.tup [.d (.sl 1 ((qd1 n r).1.map encB)),.d (.bool (qd1 n r).2)]) []:=by
 refine F97m.goT ?_
 try(refine ev ?_;try exact True.intro)
 (repeat(with_reducible refine ob ?_));refine xf _ (fun h=> ?_) (fun h=> ?_)
 ·have hb:qd1 n r=([],false):=by unfold qd1;rw[if_pos (by simpa using h)]
  try(refine ev2 @hb @List.map_nil.{0,0} ?_;try exact True.intro)
 obtain⟨n,rfl⟩: ∃k:Nat,n=k:=⟨n.toNat,by simp at h;omega⟩
 have hn':(n:Int)<=9223372036854775807:=hn.2
 have hb:qd1 (n:Int) r=(k7 r n,decide (n/2^r=0)):=by unfold qd1;rw[if_neg (by omega),Int.toNat_natCast]
 have flr:List.replicate r [D.bool false]=(List.replicate r false).map encB:=by rw[List.map_replicate];rfl
 have nn:((r:Nat):Int)<=1000000000∧(r:Int)*1<=281474976710656:=by omega
 rw[hb]
 try(refine ev ?_;try exact True.intro)
 refine⟨⟨by omega,by omega,by omega,by omega⟩,?_⟩
 refine qg (fun k:{k:Nat//k<=r}=>Sbit n r k.val) (fun k=>r-k.val) ⟨0,Nat.zero_le _⟩ ?_ (fun k=> ?_)
 ·try(refine ev7 @Sbit.eq_1 @mkO.eq_1 @qtr @flr @Int.ofNat_zero @Nat.pow_zero @Nat.div_one ?_;try exact True.intro)
 obtain⟨k,hk⟩:=k
 try(refine ev2 @Sbit.eq_1 @mkO.eq_1 ?_;try exact True.intro)
 (repeat(with_reducible refine ob ?_));refine xf _ (fun h=> ?_) (fun h=> ?_)
 ·have hkr:k<r:=by simpa using h
  have hw:=qe (show k<9223372036854775807 by omega)
  have hm:=q0b (N:=n) hkr
  have hml:=q0a (n:=r) (N:=n) hk
  have hle:n/2^k<=n:=Nat.div_le_self _ _
  have hq2:n/2^(k+1)=n/2^k/2:=by rw[Nat.pow_succ,<- Nat.div_div_eq_div_mul]
  generalize n/2^k=q at*
  have e1:((q:Int).tmod 2==1)=(q%2==1):=by
   rw[Int.tmod_eq_emod_of_nonneg (by omega),Bool.eq_iff_iff];simp only[beq_iff_eq];omega
  have e2:IntKind.i64.wrap ((q:Int).tdiv 2)=((q/2:Nat):Int):=by
   rw[Int.tdiv_eq_ediv_of_nonneg (by omega),xo (by unfold I64;omega)];omega
  try simp only[Int.toNat_natCast,e1,e2,Nat.mul_one,Nat.zero_add,qmx,hm,hml,List.length_map,List.length_replicate,kc,go_sem,Nat.reduceAdd,Nat.reduceMul,Nat.reduceSub,Nat.reduceEqDiff,Nat.reduceLT,Nat.reduceLeDiff,Nat.reduceBEq,reduceIte,reduceCtorEq,Int.reduceAdd,Int.reduceLT,Int.reduceLE,Int.reduceGT,Int.reduceGE,Int.reduceEq,Int.reduceNe,Int.reduceBEq,Int.reduceBNe,Int.reduceToNat,Int.reduceNeg]
  (repeat(with_reducible refine ob ?_))
  refine⟨⟨k+1,hkr⟩,?_,by dsimp only;omega⟩
  try(refine ev4 @Sbit.eq_1 @mkO.eq_1 @hw @hq2 ?_;try exact True.intro)
 ·have hkr:k=r:=by simp at h;omega
  subst hkr
  have hA:(k7 k n).length=k:=kc _ _
  have ez:(((n/2^k:Nat):Int)==0)=decide (n/2^k=0):=by
   rw[Bool.eq_iff_iff];simp only[beq_iff_eq,decide_eq_true_eq];omega
  rw[qz9]
  generalize k7 k n=A at hA⊢
  try(refine ev ?_;try exact True.intro)
  refine qio 0 1 (A.map encB) ?_ (qdh _) (qhr _) (qhs _) (D.okWR_noPtr (qaj _))
  simp only[qov,Fr.mapS,List.map_cons,List.map_nil,AObj.mapS,qp9,List.set_cons_zero,List.set_cons_succ]
  try simp only[List.length_map,hA,go_sem,Nat.reduceAdd,Nat.reduceMul,Nat.reduceSub,Nat.reduceEqDiff,Nat.reduceLT,Nat.reduceLeDiff,Nat.reduceBEq,reduceIte,reduceCtorEq,Int.reduceAdd,Int.reduceLT,Int.reduceLE,Int.reduceGT,Int.reduceGE,Int.reduceEq,Int.reduceNe,Int.reduceBEq,Int.reduceBNe,Int.reduceToNat,Int.reduceNeg]
  refine pu ?_
  try(refine ev1 @ez ?_;try exact True.intro)
theorem xk7 (n:Nat) (h1:1<=n) (h6:n<=6):qf prog 94 [.d (.int .i64 (n:Nat))] [] (.tup [.d (.agg [.int .i64 (n:Nat),.nilsl]),.d (.int .i64 0)]) []:=by
 have c1:(decide ((n:Int)<1)||decide ((n:Int)>6))=false:=by simp;omega
 refine F94.goT ?_;refine eo1 @c1 ?_;refine no_ ?_;exact et
theorem xrf (k:List UInt8):qjf k<=32:=by
 unfold qjf;cases hs:qc2 k with
 |none=>simp
 |some s=>exact(qld hs).1
theorem xk8 {k:List UInt8} {j:Nat} (hj:j<=32) (h:uKey (j:Int)=k):qjf k=j:=by
 unfold qjf;rw[<- h,qwi (by omega) (by omega)];simp
theorem xrg {k:List UInt8} {j:Nat} (h1:1<=j) (h: ¬uKey (j:Int)=k):qjf k≠j:=by
 intro d;unfold qjf at d;cases hs:qc2 k with
 |none=>rw[hs]at d;simp at d;omega
 |some s=>
  rw[hs,Option.getD_some]at d;subst d;exact h (qld hs).2.symm
def rSo (k:List UInt8) (j:Nat):Int:=((if qjf k<j then qjf k else 0:Nat):Int)
theorem xvo (k:List UInt8):rSo k 1=0:=by unfold rSo;split<;>omega
theorem xvp (k:List UInt8):rSo k 33=(qjf k:Nat):=by unfold rSo;have:=xrf k;rw[if_pos (by omega)]
theorem xvq {k:List UInt8} {j:Nat} (hj:j<=32) (h:uKey (j:Int)=k):rSo k (j+1)=(j:Int):=by unfold rSo;rw[xk8 hj h,if_pos (by omega)]
theorem xym {k:List UInt8} {j:Nat} (h1:1<=j) (h: ¬uKey (j:Int)=k):rSo k (j+1)=rSo k j:=by
 have:=xrg h1 h;unfold rSo;by_cases d:qjf k<j
 ·rw[if_pos d,if_pos (by omega)]
 ·rw[if_neg d,if_neg (by omega)]
def SrLo (s:Sto) (L:List En) (r i:Nat) (l:List Ue) (fr:Fr) (os:List AObj):St:=
 ⟨(1,true,.d (.int .i64 r))::(4,true,.d (.ptr 1 0))::(6,true,.d (.ptr 2 0))::(8,true,.d (.sl 2 (L.map x9)))::(9,true,.d (.int .i64 i))::fr,
  .row [.d (.sl 1 (qd s.file)),.d (.int .i64 s.synced),.d (.sl 2 ((xu s.m).map x9))]:: .row [.d (.int .i64 0),.d .nilsl]:: .row [.d (.int .i64 r),.own 0 4 (l.map qu)]::os,[0],1⟩
def SrLa (s:Sto) (L:List En) (r:Nat) (x:Nat×List Ue):St:=SrLo s L r x.1 x.2 [] []
def SrLb (s:Sto) (L:List En) (r i:Nat) (l:List Ue) (k:List UInt8) (j:Nat):St:=
 SrLo s L r i l [(10,true,.d (.ptr 3 0)),(11,true,.d (.int .i64 j))] [.row [.d (.int .i64 (rSo k j)),.d (.int .i64 0),.d .nilsl,.d .nilsl]]
theorem xk9 {r:Nat} {l:List En} {i:Nat} (hi:i<l.length):rAll r (l.drop i)=(match rEn r l[i]with
  |none=>none
  |some x=>(rAll r (l.drop (i+1))).map (x:: ·)):=by
 rw[jBm hi];rfl
theorem q5b (n:Int) (r:Nat):(qd1 n r).1.length<=r:=by
 unfold qd1;split
 ·simp
 ·rw[kc];exact jAi _
theorem qww (s:Sto) (r:Int) (t:s.m.Good):
  qf prog 33 [.d (.agg (stR s)),.d (.int .i64 r)] [] (.tup [.d (.agg (xt (xy s.m r).1)),.d (.int .i64 (xy s.m r).2)]) []:=by
 have Y: ∀e∈xu s.m,e.1.length<=1000000∧e.2.length<=1000000:=λe v=>by
  obtain⟨_,x,hx,rfl⟩:=q0d v;have h1:=(t.small x hx).2.1;have p:=(t.small x hx).2.2;simp only[enOf];omega
 have hel:(xu s.m).length<=400:=by rw[qf4];exact t.few
 have B:=xjh s.file s.synced (xu s.m) uPfx (by omega) (by decide) λe v=>(Y e v).1;rw[<- xh1 t.ok]at B;have hv: ∀e∈qau s.m uPfx,e.2.length<=1000000:=λe v=>by
  obtain⟨_,x,hx,rfl⟩:=q0d v;have p:=(t.small x hx).2.2;simp only[enOf];omega
 by_cases O:(decide (r<1)||decide (r>6))=true
 ·have k0:=xop r;have h0:qk0 r=(⟨0,[]⟩,2):=by unfold qk0;rw[if_pos O]
  have hx:xy s.m r=(⟨0,[]⟩,2):=by unfold xy;rw[if_pos O]
  rw[h0]at k0;simp only[xt]at k0;refine F33.goT ?_;refine eo2 @stR.eq_1 @qgd.eq_1 ?_;refine cl F94 (k0) ?_;refine eo ?_;refine eo1 @hx ?_;refine ya ?_;exact et2 @xt.eq_1 @List.map_nil.{0,0}
 simp only[jA0,decide_eq_true_eq,not_or]at O;obtain⟨n,rfl⟩: ∃n:Nat,r=n:=⟨r.toNat,by omega⟩;have U:(qau s.m uPfx).length<=400:=by
  have:=qsb s.m uPfx;have:=t.few;omega
 have hx:xy s.m (n:Nat)=ldMg (n:Nat) (rAll n (qau s.m uPfx)):=by unfold xy;rw[if_neg (by simp;omega),xya]
 rw[hx];clear hx;generalize qau s.m uPfx=L at B U hv⊢;generalize A:ldMg (n:Nat) (rAll n L)=R;have k0:=xk7 n (by omega) (by omega);simp only[qgd]at B;refine F33.goT ?_;refine eo2 @stR.eq_1 @qgd.eq_1 ?_;refine cl F94 (k0) ?_;refine eo ?_;refine eo ?_;refine no_ ?_;refine eo ?_;refine cl F95 (B) ?_;refine ez ?_;refine qg (λx:{x:Nat×List Ue//x.1<=L.length∧x.2.length=x.1∧(∀y∈x.2,y.Sm)∧rAll n L=(rAll n (L.drop x.1)).map (x.2++ ·)}=>SrLa s L n x.val) (λx=>L.length-x.val.1) ⟨(0,[]),jAj _,rfl,λy hy=>(by cases hy),by simp⟩ ?_ (λx=> ?_)
 ·exact et4 @SrLa.eq_1 @SrLo.eq_1 @jAt @List.map_nil.{0,0}
 obtain⟨⟨i,l⟩,x1,x2,C,m⟩:=x;simp only at x1 x2 C m;refine eo2 @SrLa.eq_1 @SrLo.eq_1 ?_;refine xf _ (λh=> ?_) (λh=> ?_)
 ·have o:i<L.length:=by simpa using h
  rw[xk9 o]at m;have hvi:=hv _ (jAg o);have aa:rEn n L[i]=rVal n (qjf (L[i]).1:Nat) (L[i]).2:=rfl;rw[aa]at m;refine ez ?_;refine qg (λj:{j:Nat//1<=j∧j<=33}=>SrLb s L n i l (L[i]).1 j.val) (λj=>33-j.val) ⟨1,jAi _,by omega⟩ ?_ (λj=> ?_)
  ·exact et4 @SrLb.eq_1 @SrLo.eq_1 @xvo @Int.ofNat_one
  obtain⟨j,j1,j2⟩:=j;refine ez2 @SrLb.eq_1 @SrLo.eq_1 ?_;refine xf _ (λhc=> ?_) (λhc=> ?_)
  ·have X:j<=32:=by simp at hc;omega
   have hw:=qe (show j<9223372036854775807 by omega);refine eo ?_;refine cl F84 (q0e (j:Int) (by omega) (by omega)) ?_;refine ez ?_;refine eo2 (qh x9 L o) @x9.eq_1 ?_;refine xf _ (λhd=> ?_) (λhd=> ?_)
   ·refine ez ?_;refine⟨⟨j+1,by omega,by omega⟩,?_,by dsimp only;omega⟩;exact et4 @SrLb.eq_1 @SrLo.eq_1 (xvq X (by simpa using hd)) @hw
   ·refine ez ?_;refine⟨⟨j+1,by omega,by omega⟩,?_,by dsimp only;omega⟩;exact et4 @SrLb.eq_1 @SrLo.eq_1 (xym j1 (by simpa using hd)) @hw
  have X:j=33:=by simp at hc;omega
  subst X;have u:(⟨(L[i]).2,0,false⟩:Rd).Ok:=⟨by simp only;omega,jAj _⟩;have J:=qal ⟨(L[i]).2,0,false⟩ u;have F:=(vm u).1;change qf _ _ _ _ (.d (.int .i64 (rv1 (L[i]).2).1)) [rdO (rv1 (L[i]).2).2]at J;change (rv1 (L[i]).2).2.Ok at F;have I:=qal _ F;have E:=(vm F).1;have b2:=qi5 (rv1 (L[i]).2).2;change qf _ _ _ _ (.d (.int .i64 (rv2 (L[i]).2).1)) [rdO (rv2 (L[i]).2).2]at I;change (rv2 (L[i]).2).2.Ok at E;change I64 (rv2 (L[i]).2).1 at b2;have G:=qal _ E;have r3:=(vm E).1;have b3:=qi5 (rv2 (L[i]).2).2;change qf _ _ _ _ (.d (.int .i64 (rv3 (L[i]).2).1)) [rdO (rv3 (L[i]).2).2]at G;change (rv3 (L[i]).2).2.Ok at r3;change I64 (rv3 (L[i]).2).1 at b3;have i4:=qp5 (rv3 (L[i]).2).2 r3;have q2:=q5a _ b2 n (by omega);have q3:=q5a _ b3 n (by omega);have hwi:=qe (show i<9223372036854775807 by omega);have l2:=q5b (rv2 (L[i]).2).1 n;have l3:=q5b (rv3 (L[i]).2).1 n;have M:rVal n (qjf (L[i]).1:Nat) (L[i]).2=if(rEnd (rv3 (L[i]).2).2 !=0|| !(qd1 (rv2 (L[i]).2).1 n).2|| !(qd1 (rv3 (L[i]).2).1 n).2)=true then none else some ⟨(qjf (L[i]).1:Nat),(rv1 (L[i]).2).1,(qd1 (rv2 (L[i]).2).1 n).1,(qd1 (rv3 (L[i]).2).1 n).1⟩:=rfl
  rw[M]at m;have hso:=xvp (L[i]).1;simp only[rdO]at J I G i4;refine ez1 @hso ?_;refine eo2 (qh x9 L o) @x9.eq_1 ?_;refine eo ?_;refine clO [4] F96 (J) ?_;refine eo ?_;refine clO [4] F96 (I) ?_;refine eo ?_;refine cl F97m (q2) ?_;refine eo ?_;refine clO [4] F96 (G) ?_;refine eo ?_;refine cl F97m (q3) ?_;refine eo ?_;refine clO [4] F98 (i4) ?_;refine eo ?_;refine ez ?_;refine xf _ (λp=> ?_) (λp=> ?_)
  ·rw[if_pos p]at m;simp only[Option.map_none]at m;rw[m]at A;have hR2:R=(⟨0,[]⟩,4):=A.symm;exact et3 @hR2 @xt.eq_1 @List.map_nil.{0,0}
  ·rw[if_neg (by rw[p];simp)]at m;simp only[jFg]at m;refine eo ?_;refine⟨⟨(i+1,l++ [⟨(qjf (L[i]).1:Nat),(rv1 (L[i]).2).1,(qd1 (rv2 (L[i]).2).1 n).1,(qd1 (rv3 (L[i]).2).1 n).1⟩]),o,by simp[x2],λz q=> ?_,?_⟩,?_,by dsimp only;omega⟩
   ·rcases jAs.1 q with q|q
    ·exact C z q
    ·simp at q;subst q;exact⟨by simp only;omega,by simp only;omega⟩
   ·rw[m];congr 1;funext z;simp
   ·exact et7 @SrLa.eq_1 @SrLo.eq_1 @jA2.{0,0} @List.map_cons.{0,0} @List.map_nil.{0,0} @qu.eq_1 @hwi
 ·have Z:i=L.length:=by
   have:L.length<=i:=by simpa using h
   omega
  subst Z;rw[jC0,show rAll n []=some []from rfl,Option.map_some,jAu]at m;rw[m]at A;have kv:=qjq ⟨(n:Nat),l⟩ ⟨by simp only;omega,C⟩;simp only[xt]at kv;refine eo ?_;refine cl F81 (kv) ?_;refine ez ?_;refine xf _ (λp=> ?_) (λp=> ?_)
  ·have hm2:R=(⟨0,[]⟩,4):=by rw[<- A];unfold ldMg;exact if_neg (by simpa using p)
   exact et3 @xt.eq_1 @hm2 @List.map_nil.{0,0}
  ·have hm2:R=(⟨(n:Nat),l⟩,0):=by rw[<- A];unfold ldMg;exact if_pos (by simpa using p)
   exact et2 @xt.eq_1 @hm2
def d104:=cut prog f104 news
@[go_sem] def E104:=qj d104
def F104:=fnC d104 follows func104
def d46:=cut prog f46 news
@[go_sem] def E46:=qj d46
def F46:=fnC d46 follows func46
def d112:=cut prog f112 news
@[go_sem] def E112:=qj d112
def F112:=fnC d112 follows func112
def d110:=cut prog f110 news
@[go_sem] def E110:=qj d110
def F110:=fnC d110 follows func110
def d52:=cut prog f52 news
@[go_sem] def E52:=qj d52
def F52:=fnC d52 follows func52
def d51:=cut prog f51 news
@[go_sem] def E51:=qj d51
def F51:=fnC d51 follows func51
structure TimM where
 p:Pk
 at_:Int
 tries:Int
 deriving DecidableEq,Inhabited
def q5c (x:TimM):List D:=qi x.p++ [.int .i64 x.at_,.int .i64 x.tries]
structure RB where
 roles:Int
 sess:Int
 s:Sto
 p:List OutM
 t:List TimM
def qcb (b:RB):List D:= [.int .i64 b.roles,.int .i64 b.sess,.sl 1 (qd b.s.file),.int .i64 b.s.synced,.sl 2 ((xu b.s.m).map x9),.sl 10 (b.p.map vg),.sl 11 (b.t.map q5c)]
def qjg (r s:Int):RB:=⟨r,s,newS,[],[]⟩
theorem qpc (x:TimM):D.noPtrL (q5c x)=true:=by simp only[q5c,qag,qfa,D.noPtrL,D.noPtr,jBu]
theorem qwx: ∀l:List TimM,D.noPtrR (l.map q5c)=true
 | []=>rfl
 |o::l=>by simp only[List.map_cons,D.noPtrR,qpc,qwx l,jBu]
attribute [go_sem] qpc qwx
theorem q5d (r s:Int):qf prog 104 [.d (.int .i64 r),.d (.int .i64 s)] [] (.d (.bool (posB r s))) []:=by
 refine F104.go ?_;exact et1 @posB.eq_1
theorem q8y (r s:Int):qf prog 46 [.d (.int .i64 r),.d (.int .i64 s)] [] (.tup [.d (.agg (qcb (if posB r s then qjg r s else qjg 0 0))),.d (.int .i64 (if posB r s then 0 else 2))]) []:=by
 have hz:xu newS.m= []:=kh;have hz2:xu kx= []:=kh;refine F46.goT ?_;refine eo ?_;refine cl F104 (q5d r s) ?_;refine ez ?_;cases hp:posB r s
 ·(repeat(with_reducible refine ob ?_));refine ya ?_
  exact et6 @qcb.eq_1 @qjg.eq_1 @hz2 @newS.eq_1 @List.map_nil.{0,0} @qk
 ·(repeat(with_reducible refine ob ?_));refine no_ ?_
  exact et6 @qcb.eq_1 @qjg.eq_1 @hz2 @newS.eq_1 @List.map_nil.{0,0} @qk
def qm0 (b:RB) (s f t:Int):Bool:=decide (s≥1)&&decide (s<=b.sess)&&decide (f≥0)&&decide (f<b.roles)&&decide (t≥0)&&decide (t<b.roles)&&f !=t
theorem xrh (b:RB) (s f t:Int):qf prog 112 [.d (.agg (qcb b)),.d (.int .i64 s),.d (.int .i64 f),.d (.int .i64 t)] [] (.d (.bool (qm0 b s f t))) []:=by
 refine F112.go ?_;exact et2 @qcb.eq_1 @qm0.eq_1
theorem qts (b:RB) (hg:b.s.m.Good):qf prog 52 [.d (.agg (qcb b))] [] (.d (.agg (xt (xy b.s.m b.roles).1))) []:=by
 have e:=qww b.s b.roles hg;simp only[stR,qgd,xt]at e;refine F52.go ?_;refine eo1 @qcb.eq_1 ?_;refine cl F33 (e) ?_;exact et1 @xt.eq_1
theorem xz4: ∀d:Fin 10,(([48,49,50,51,52,53,54,55,56,57]:List UInt8).drop d.val).take 1=dig d.val:=by decide
theorem xy4 {d:Nat} (h:d<10):(([48,49,50,51,52,53,54,55,56,57]:List UInt8).drop d).take (d+1-d)=dig d:=by
 rw[jDn];exact xz4 ⟨d,h⟩
theorem xa9 (s f t:Nat) (hs:s<100) (hf:f<10) (ht:t<10):qf prog 110 [.d (.int .i64 (s:Nat)),.d (.int .i64 (f:Nat)),.d (.int .i64 (t:Nat))] [] (.d (.str (jh s f t))) []:=by
 have w1:IntKind.i64.wrap ((s:Int).tdiv 10)=((s/10:Nat):Int):=by rw[show((s:Int).tdiv 10)=((s/10:Nat):Int)from by rw[jB8 (by omega)];rfl];exact wrap_i64 (by omega) (by omega)
 have w2:(s:Int).tmod 10=((s%10:Nat):Int):=by rw[jBf (by omega)];rfl
 have ld: ∀d,(dig d).length=1:=λ_=>rfl;have a1:=qe (show s/10<9223372036854775807 by omega);have a2:=qe (show s%10<9223372036854775807 by omega);have a3:=qe (show f<9223372036854775807 by omega);have a4:=qe (show t<9223372036854775807 by omega);have e1:=xy4 (show s/10<10 by omega);have e2:=xy4 (show s%10<10 by omega);have e3:=xy4 hf;have e4:=xy4 ht;refine F110.go ?_;simp only[w1,w2,a1,a2,a3,a4,jA6,e1,e2,e3,e4,ld,go_sem,simprocAttr]
 (repeat(with_reducible refine ob ?_))
 exact et1 @jh.eq_1
def jj (b:RB) (x:Pr):Qu:=if qm0 b x.s x.f x.t=true then(qg2 b.s.m x.name).1 else xx
theorem q5e (b:RB) (s f t:Int) (hg:b.s.m.Good) (hs:b.sess<=32) (hr:b.roles<=6):qf prog 51 [.d (.agg (qcb b)),.d (.int .i64 s),.d (.int .i64 f),.d (.int .i64 t)] [] (.d (.agg (encQ (jj b ⟨s,f,t⟩)))) []:=by
 have e:=xrh b s f t;simp only[qcb]at e;refine F51.go ?_;refine eo1 @qcb.eq_1 ?_;refine cl F112 (e) ?_;refine ez ?_;cases hb:qm0 b s f t with
 |false=>
  have hx:jj b ⟨s,f,t⟩=xx:=by unfold jj;rw[if_neg (by simp[hb])]
  (repeat(with_reducible refine ob ?_));refine ya ?_
  exact et4 @encQ.eq_1 @hx @xx.eq_1 @List.map_nil.{0,0}
 |true=>
  have hx:jj b ⟨s,f,t⟩=(qg2 b.s.m (jh s.toNat f.toNat t.toNat)).1:=by unfold jj Pr.name;rw[if_pos hb]
  have h2:=hb;simp only[qm0,jAf,decide_eq_true_eq]at h2;obtain⟨s,rfl⟩: ∃n:Nat,s=n:=⟨s.toNat,by omega⟩;obtain⟨f,rfl⟩: ∃n:Nat,f=n:=⟨f.toNat,by omega⟩;obtain⟨t,rfl⟩: ∃n:Nat,t=n:=⟨t.toNat,by omega⟩;simp only[jA6]at hx;have kn:=xa9 s f t (by omega) (by omega) (by omega);have h:=xaw b.s (jh s f t) hg (by rw[qe0];omega);simp only[stR,qgd,encQ]at h
  (repeat(with_reducible refine ob ?_));refine no_ ?_
  refine eo ?_;refine cl F110 (kn) ?_;refine eo ?_;refine cl xux (h) ?_;exact et2 @encQ.eq_1 @hx
attribute [-go_sem] qfp
def d47o:=cut prog f47 news [18,35] [7] true
@[go_sem] def E47o:=qj d47o
def F47o:=fnC d47o follows func47
def p3n (p:Nat×Nat×Nat):List UInt8:=jh p.1 p.2.1 p.2.2
def p3k (p:Nat×Nat×Nat):Pr:=⟨p.1,p.2.1,p.2.2⟩
def ldQs (m:Cont) (l:List (Nat×Nat×Nat)):MapM Pr Qu:=l.foldl (λq p=>q.put (p3k p) (qaa m (p3n p)).1) ⟨[],0⟩
def qka (d:List UInt8) (n ss:Nat):Option Brk:=match qeb d with
 |none=>none
 |some s=>if(xr n ss).any (λp=>decide ((qaa s.m (p3n p)).2≠0))=true then none else if(xy s.m n).2≠0 then none else if(xy s.m n).1.ents.any (λe=>decide (e.sess>ss))=true then none
  else some ⟨n,ss,s,ldQs s.m (xr n ss),(xy s.m n).1,[],⟨[],0⟩⟩
def bOpP:Option Brk->D
 |some _=> .ptr 0 0
 |none=> .nilptr
def bOpE:Option Brk->Int
 |some _=>0
 |none=>4
def bOpO:Option Brk->List AObj
 |some b=>brO b
 |none=> [.none,.none,.none,.none,.none]
def qSeq (T:Nat->Sto) (L:List (Nat×Nat×Nat)):Nat->MapM Pr Qu
 |0=>⟨[],0⟩
 |k+1=>match L[k]?with
  |some p=>(qSeq T L k).put (p3k p) (qaa (T k).m (p3n p)).1
  |none=>qSeq T L k
theorem q5f {T:Nat->Sto} {L:List (Nat×Nat×Nat)} {s:Sto}: ∀k,k<=L.length->(∀i,i<k->T i=s) ->qSeq T L k=ldQs s.m (L.take k)
 |0,_,_=>rfl
 |k+1,hk,h=>by
  have ih:=q5f (T:=T) (L:=L) (s:=s) k (by omega) λi hi=>h i (by omega);rw[qSeq,jAa (by omega),jAk (by omega),ldQs,jCm,<- ldQs,<- ih,h k (by omega)];rfl
theorem qwy {α:Type} (f:α->Bool): ∀(L:List α),∃k,k<=L.length∧(∀i (h:i<L.length),i<k->f L[i]=false)∧ ∀h:k<L.length,f L[k]=true
 | []=>⟨0,by simp,by simp,by simp⟩
 |x::L=>by
  by_cases d:f x=true
  ·exact⟨0,by simp,by omega,λ_=>d⟩
  ·obtain⟨k,h1,h2,h3⟩:=qwy f L;refine⟨k+1,by simpa using h1,λi h hi=> ?_,λh=> ?_⟩
   ·cases i with
    |zero=>simpa using d
    |succ i=>exact h2 i (by simpa using h) (by omega)
   ·exact h3 (by simpa using h)
def sBad:Sto:=⟨[],0,⟨[(0,[117,47],[])],1⟩⟩
theorem xla:sBad.m.Good:=by
 refine⟨⟨by simp[sBad],by simp[sBad],by simp[sBad]⟩,by simp[sBad],λx d=> ?_⟩;simp[sBad]at d;subst d;exact⟨by decide,by decide,by decide⟩
theorem xlb (n:Nat) (h1:1<=n) (h6:n<=6):(xy sBad.m n).2≠0:=by
 have hl:qau sBad.m uPfx= [([117,47],[])]:=by
  have:=vd (preL uPfx sBad.m.l);exact List.perm_singleton.1 this
 have hk:qc2 [117,47]=none:=by decide
 unfold xy;rw[if_neg (by simp;omega),hl];simp[qhu,ldEn,hk,ldMg]
theorem xlc {m:Mg} (h:MW m):m.ents.length<=32:=by
 have:=qje h.inc (by intro x d;obtain⟨e,i,rfl⟩:=jAo.1 d;exact(h.en e i).s1) (by intro x d;obtain⟨e,i,rfl⟩:=jAo.1 d;exact(h.en e i).s32);rwa [jAm]at this
theorem qjh {m:Cont} {r:Int} (h:(xy m r).2=0):MW (xy m r).1∧(xy m r).1.roles=r:=by
 revert h;unfold xy;split
 ·intro h;cases h
 ·cases qhu r (qau m uPfx)with
  |none=>intro h;cases h
  |some l=>
   unfold ldMg;simp only;split
   ·rename_i hv;exact λ_=>⟨wk.1 hv,rfl⟩
   ·intro h;cases h
def fr0O (n ss:Nat):Fr:= [(1,true,.d (.int .i64 (n:Nat))),(2,true,.d (.int .i64 (ss:Nat))),(6,true,.d (.ptr 6 0)),(7,true,.d (.ptr 7 0)),(8,true,.d (.ptr 5 0))]
def SopB (n ss:Nat) (s:Sto) (q:MapM Pr Qu):St:=
 ⟨fr0O n ss,[.row [.d (.int .i64 (n:Nat)),.d (.int .i64 (ss:Nat)),.d (.ptr 1 0),.d (.map 3),.d (.int .i64 (n:Nat)),.d (.sl 4 []),.own 0 10 [],.d (.map 4)],stoO s 2,mapO s.m,qmO q,.map [] 0,.row [.d (.ptr 0 0)],.row [.d .nilptr],.row [.d (.int .i64 0)],.row [.d (.sl 1 []),.d (.int .i64 0),.d (.map 9)],.map [] 0,.row [.d (.ptr 0 0)]],[0],1⟩
def SopC (n ss:Nat) (s:Sto) (q:MapM Pr Qu) (m:Mg) (i:Nat):St:=
 ⟨[(2,true,.d (.int .i64 (ss:Nat))),(6,true,.d (.ptr 6 0)),(7,true,.d (.ptr 7 0)),(8,true,.d (.ptr 5 0)),(73,true,.d (.sl 4 (m.ents.map qu))),(74,true,.d (.int .i64 m.ents.length)),(75,true,.d (.int .i64 (i:Nat)))],
  [.row (qq ⟨n,ss,s,q,m,[],⟨[],0⟩⟩),stoO s 2,mapO s.m,qmO q,.map [] 0,.row [.d (.ptr 0 0)],.row [.d .nilptr],.row [.d (.int .i64 0)]],[0],1⟩
theorem xri (l:List UInt8) (n ss:Nat) (hp:posB (n:Nat) (ss:Nat)=true) (hb:l.length<=1000000000):
  qf prog 47 [.d (.sl 1 (qd l)),.d (.int .i64 (n:Nat)),.d (.int .i64 (ss:Nat))] [] (.tup [.d (bOpP (qka l n ss)),.d (.int .i64 (bOpE (qka l n ss)))]) (bOpO (qka l n ss)):=by
 obtain⟨h1,Z,h3,h4⟩:=qj5 hp;have k0:=qzy n ss hp;simp only[brO,je,qq,stoO,mapO,qmO,tmO,List.map_nil,newS,kx,qk]at k0;generalize z:qka l n ss=R;unfold qka at z;cases hs:qeb l with
 |none=>
  rw[hs]at z;subst z;have ks:=xun hb hs;refine F47o.goT ?_;refine ez ?_;refine clT [2,3,4,5,6] F45n k0 ?_;refine eo ?_;refine no_ ?_;refine ez ?_;refine clO [8,9] F105 ks ?_;refine eo ?_;refine ya ?_;refine ez ?_;refine pu ?_;simp only[bOpP,bOpE,bOpO,go_sem,simprocAttr]
 |some s=>
  rw[hs]at z;have ac:=(qj1 hs).1;have ks:=xpo hb hs;simp only[stoO,mapO]at ks;simp only at z;obtain⟨f,f1,f2,f3⟩:=qwy (λp=>decide ((qaa s.m (p3n p)).2≠0)) (xr n ss);generalize hL:xr n ss=L at z f1 f2 f3;have aa: ∀p∈L,p.1<100∧p.2.1<10∧p.2.2<10:=λp hp=>by
   rw[<- hL]at hp;have:=qj7.1 hp;omega
  have hT: ∃T:Nat->Sto,T 0=s∧(∀k,(T k).m.Good)∧(∀k,k<L.length->T (k+1)=T k∨(qaa (T k).m (p3n (L.getD k default))).2≠0)∧(∀k,k<L.length->(qaa (T k).m (p3n (L.getD k default))).2≠0->R=none)∧
    ((∀i,i<=L.length->T i=s)∧R=(if(xy s.m n).2≠0 then none else if(xy s.m n).1.ents.any (λe=>decide (e.sess>ss))=true then none
  else some ⟨n,ss,s,ldQs s.m L,(xy s.m n).1,[],⟨[],0⟩⟩)∨(xy (T L.length).m n).2≠0∧R=none):=by
   by_cases hf:f<L.length
   ·have u:=f3 hf;have o:R=none:=by
     rw[<- z,if_pos];exact jB3.2 ⟨L[f],jAg hf,u⟩
    refine⟨λk=>if k<=f then s else sBad,by simp,λk=> ?_,λk Y=> ?_,λ_ _ _=>o,.inr ⟨?_,o⟩⟩
    ·dsimp only;split
     ·exact ac
     ·exact xla
    ·by_cases h:k=f
     ·subst h;right;simp only[jAi,if_true];rw[jA1,jAa hf];simpa using u
     ·left;by_cases Z:k<f
      ·simp only[if_pos (show k+1<=f from Z),if_pos (show k<=f by omega)]
      ·simp only[if_neg (show¬k+1<=f by omega),if_neg (show¬k<=f by omega)]
    ·simp only[if_neg (show¬L.length<=f by omega)];exact xlb n (by omega) (by omega)
   ·have ab:L.any (λp=>decide ((qaa s.m (p3n p)).2≠0))=false:=by
     rw[jD3];intro p hp;obtain⟨i,hi,rfl⟩:=jCc hp;simpa using f2 i hi (by omega)
    refine⟨λ_=>s,rfl,λ_=>ac,λ_ _=> .inl rfl,λk Y u=> ?_,.inl ⟨λ_ _=>rfl,?_⟩⟩
    ·exfalso;have:=f2 k Y (by omega);rw[jA1,jAa Y]at u;simp at this u;exact u this
    ·rw[<- z,if_neg (by rw[ab];simp)]
  obtain⟨T,t1,U,C,F,E⟩:=hT;have O:=qvi n ss (by omega) (by omega);rw[hL]at O;clear z f1 f2 f3;refine F47o.goT ?_;refine ez ?_;refine clT [2,3,4,5,6] F45n k0 ?_;refine eo ?_;refine no_ ?_;refine ez ?_;refine clO [8,9] F105 ks ?_;refine eo ?_;refine no_ ?_;refine ez ?_;refine qc6 [6,7,0,8,9,3,4,5,2,1] [.row [.d (.int .i64 (n:Nat)),.d (.int .i64 (ss:Nat)),.d (.ptr 1 0),.d (.map 3),.d (.int .i64 (n:Nat)),.d (.sl 4 []),.own 80 10 [],.d (.map 4)],stoO s 2,mapO s.m,.map [] 0,.map [] 0,.row [.d (.ptr 0 0)],.row [.d .nilptr],.row [.d (.int .i64 0)],.row [.d (.sl 1 []),.d (.int .i64 0),.d (.map 9)],.map [] 0] ?_ (by exact et2 @stoO.eq_1 @mapO.eq_1) (hp:=rfl);refine pu ?_;have kp:=xqn ⟨n,ss,s,⟨[],0⟩,⟨n,[]⟩,[],⟨[],0⟩⟩;simp only[brO,qq,stoO,mapO,qmO,tmO,List.map_nil,List.cons_append,List.nil_append]at kp;refine ez2 @stoO.eq_1 @mapO.eq_1 ?_;refine clT [0,1,2,3,4,10] F64 kp ?_;refine ez ?_;refine xgm 130 10 0 11 [(n:Nat),(ss:Nat)] (L.map q2l) (λk=>SopB n ss (T k) (qSeq T L k)) (fr0O n ss) O ?_ (λk=>rfl) (λk=>⟨_,rfl⟩) (λk vs Y=> ?_) ?_ (λvs hv=> ?_)
  ·simp only[SopB,fr0O,t1,stoO,mapO,qmO,qSeq,List.map_nil,go_sem,simprocAttr]
  ·rw[jAn,jAb]at Y;obtain⟨p,G,rfl⟩:=Y;have ad:k<L.length:=(jAd.1 G).1;have B:L.getD k default=p:=by rw[jA1,G];rfl
   have ae:qSeq T L (k+1)=(qSeq T L k).put (p3k p) (qaa (T k).m (p3n p)).1:=by rw[qSeq,G]
   have C:=C k ad;have F:=F k ad;rw[B]at C F;obtain⟨m1,m2,m3⟩:=aa p (jAe G);have kn:=xka p.1 p.2.1 p.2.2 m1 m2 m3;have kq:=xpc (T k) (p3n p) (λx u=>by have:=(U k).small x u;unfold kvOk at this;omega) (by simp[p3n,qe0]);rw[ae];unfold p3n at kq C F⊢;unfold p3k;generalize T k=t at kq C F⊢;generalize T (k+1)=t' at C⊢;generalize qaa t.m (jh p.1 p.2.1 p.2.2)=Q at kq C F⊢;generalize qSeq T L k=q at⊢;obtain⟨x,e⟩:=Q;simp only[encQ,stoO,mapO]at kq;simp only at C F⊢;simp only[SopB,fr0O,q2l,jo,stoO,mapO,qmO,go_sem,simprocAttr]
   (repeat(with_reducible refine ob ?_));refine cl F107 (kn) ?_
   refine eo ?_;refine clO [1,2] xxt (kq) ?_;refine ez ?_;by_cases v:e=0
   ·subst v;have ht:t'=t:=C.resolve_right (by simp);subst ht
    (repeat(with_reducible refine ob ?_));refine no_ ?_
    simp only[q8h _ _ _ _ x,go_sem,simprocAttr];show Turn 11 _ _;refine .weak ?_ (.refl _);exact et
   ·have hb2:(e !=0)=true:=by simpa using v
    have o:=F v;subst o;refine eo1 @hb2 ?_;refine ya ?_;refine ez ?_;refine pu ?_;refine ez ?_;refine⟨_,.refl _,rfl,?_⟩;simp only[bOpP,bOpE,bOpO,go_sem,simprocAttr]
  ·show AWp _ _ _ _ _;simp only[jAm];have U:=U L.length;have hq:(∀i,i<=L.length->T i=s) ->qSeq T L L.length=ldQs s.m L:=λh=>by
    rw[q5f L.length (jAi _) (λi hi=>h i (by omega)),jAr]
   have J:(∀i,i<=L.length->T i=s) ->T L.length=s:=λh=>h _ (jAi _);generalize T L.length=t at U E J⊢;generalize qSeq T L L.length=q at hq⊢;have af:=U.small;have hfew:=U.few;have ku:=xk5 t n U.ok (by omega) (λx u=>by have:=af x u;unfold kvOk at this;omega);have X:(xy t.m n).2≠0->R=none:=λh=>by
    rcases E with⟨E,z⟩|⟨_,z⟩
    ·rw[J E]at h;rw[z,if_pos h]
    ·exact z
   have A:(xy t.m n).2=0->R=if(xy t.m n).1.ents.any (λe=>decide (e.sess>ss))=true then none else some ⟨n,ss,t,q,(xy t.m n).1,[],⟨[],0⟩⟩:=λh=>by
    rcases E with⟨E,z⟩|⟨u,_⟩
    ·rw[hq E,J E]at*;rw[z,if_neg (by simp[h])]
    ·exact absurd h u
   have hF:(xy t.m n).2=0->(xy t.m n).1.ents.length<=32:=λh=>xlc (qjh h).1;clear E hq J C F t1;generalize xy t.m n=M at ku X A hF⊢;obtain⟨m,e⟩:=M;simp only[xt,stoO,mapO]at ku X A;refine eo5 @SopB.eq_1 @fr0O.eq_1 @stoO.eq_1 @mapO.eq_1 @qmO.eq_1 ?_;refine clO [1,2] F32 (ku) ?_;refine ez ?_;by_cases v:e=0
   ·subst v;have A:=A rfl;have hF:m.ents.length<=32:=hF rfl
    (repeat(with_reducible refine ob ?_));refine no_ ?_
    refine ez1 @jAm.{0,0} ?_;refine qg (λi:{i:Nat//i<=m.ents.length∧ ∀e∈m.ents.take i,¬e.sess>ss}=>SopC n ss t q m i.val) (λi=>m.ents.length-i.val) ⟨0,jAj _,by simp⟩ ?_ (λi=> ?_)
    ·exact et7 @SopC.eq_1 @qq.eq_1 @stoO.eq_1 @mapO.eq_1 @qmO.eq_1 @List.map_nil.{0,0} @jAt
    obtain⟨i,hi,u⟩:=i;dsimp only;refine ez6 @SopC.eq_1 @qq.eq_1 @stoO.eq_1 @mapO.eq_1 @qmO.eq_1 @List.map_nil.{0,0} ?_;refine xf _ (λhc=> ?_) (λhc=> ?_)
    ·have I:i<m.ents.length:=by simpa using hc
     refine eo2 (qh qu m.ents I) @qu.eq_1 ?_;refine xf _ (λZ=> ?_) (λZ=> ?_)
     ·have o:R=none:=by
       rw[A,if_pos];exact jB3.2 ⟨m.ents[i],jAg I,by simpa using Z⟩
      subst o;refine ez ?_;refine pu ?_;simp only[bOpP,bOpE,bOpO,go_sem,simprocAttr]
     ·refine ez ?_;refine⟨⟨i+1,I,λe B=> ?_⟩,?_,by dsimp only;omega⟩
      ·rw[jAk I]at B;rcases jAs.1 B with B|B
       ·exact u e B
       ·simp only[jAv,jBk,or_false]at B;subst B;simpa using Z
      ·dsimp only;exact et7 @SopC.eq_1 @qq.eq_1 @stoO.eq_1 @mapO.eq_1 @qmO.eq_1 @List.map_nil.{0,0} (qe (show i<9223372036854775807 by omega))
    ·have ag:i=m.ents.length:=by simp at hc;omega
     subst ag;rw[jAr]at u;have ah:R=some ⟨n,ss,t,q,m,[],⟨[],0⟩⟩:=by
      rw[A,if_neg];intro h;obtain⟨e,B,h⟩:=jB3.1 h;exact u e B (by simpa using h)
     subst ah;refine ez ?_;refine pu ?_;simp only[bOpP,bOpE,bOpO,brO,qq,stoO,mapO,qmO,tmO,List.map_nil,go_sem,simprocAttr]
   ·have hb2:(e !=0)=true:=by simpa using v
    have o:=X v;subst o;refine eo1 @hb2 ?_;refine ya ?_;refine ez ?_;refine pu ?_;simp only[bOpP,bOpE,bOpO,go_sem,simprocAttr]
  ·obtain⟨p,_,rfl⟩:=jAo.1 hv;exact⟨rfl,rfl⟩
def d113:=cut prog f113 news
@[go_sem] def E113:=qj d113
def F113:=fnC d113 follows func113
def d53:=cut prog f53 news
@[go_sem] def E53:=qj d53
def F53:=fnC d53 follows func53
def d42i:=cut prog f42 news
@[go_sem] def E42i:=qj d42i
def F42i:=fnC d42i follows func42
def qul (Q:Pr->Qu) (p:Nat×Nat×Nat):List OutM:=match (Q (p3k p)).items with
 | []=> []
 |m::_=> [⟨(p.2.2:Nat),m⟩]
def qa0 (Q:Pr->Qu) (L:List (Nat×Nat×Nat)):List OutM:=L.flatMap (qul Q)
def qpd (p:Pk):OutM:=⟨p.from_,p⟩
def xyn (b:RB) (n ss:Nat):List OutM:=qa0 (jj b) (xr n ss)
def rMgr (b:RB):Mg:=(xy b.s.m b.roles).1
def rDel (b:RB) (n ss:Nat):List OutM:=xyn b n ss++(xn (rMgr b)).map qpd
theorem xld (Q:Pr->Qu) (p:Nat×Nat×Nat):(qul Q p).length<=1:=by unfold qul;split<;>simp
theorem xet (Q:Pr->Qu) (L:List (Nat×Nat×Nat)):(qa0 Q L).length<=L.length:=by
 have:=qe1 (qul Q) 1 L λx _=>xld Q x;rw[jCo]at this;exact this
theorem xle (m:Cont) (r:Int):(xy m r).1.Sm:=by
 by_cases h:(xy m r).2=0
 ·exact(qjh h).1.sm
 ·have:(xy m r).1=⟨0,[]⟩:=by
   revert h;unfold xy;split
   ·intro _;rfl
   ·unfold ldMg;split
    ·intro _;rfl
    ·split
     ·intro h;exact absurd rfl h
     ·intro _;rfl
  rw[this];exact⟨by simp,by simp⟩
theorem xeu (m:Cont) (r:Int):(xn (xy m r).1).length<=200:=by
 by_cases h:(xy m r).2=0
 ·exact qwq (qjh h).1
 ·have:(xy m r).1=⟨0,[]⟩:=by
   revert h;unfold xy;split
   ·intro _;rfl
   ·unfold ldMg;split
    ·intro _;rfl
    ·split
     ·intro h;exact absurd rfl h
     ·intro _;rfl
  rw[this];decide
def rbO (b:RB):AObj:= .row [.d (.int .i64 b.roles),.d (.int .i64 b.sess),.d (.sl 1 (qd b.s.file)),.d (.int .i64 b.s.synced),.d (.sl 2 ((xu b.s.m).map x9)),.d (.sl 10 (b.p.map vg)),.d (.sl 11 (b.t.map q5c))]
def SrD (b:RB) (l:List OutM) (rest:Fr):St:=⟨rest++ [(1,true,.d (.ptr 0 0)),(3,true,.own 0 10 (l.map vg))],[rbO b],[0],1⟩
def SrE (b:RB) (l:List OutM) (o:List Pk) (i:Nat):St:=⟨[(1,true,.d (.ptr 0 0)),(3,true,.own 0 10 ((l++(o.take i).map qpd).map vg)),(8,true,.d (.sl 9 (o.map qi))),(9,true,.d (.int .i64 (i:Nat)))],[rbO b],[0],1⟩
theorem xvr (b:RB) (n ss:Nat) (F:b.roles=(n:Nat)) (hs:b.sess=(ss:Nat)) (hn:n<=6) (R:ss<=32) (hg:b.s.m.Good):
  qf prog 113 [.d (.agg (qcb b))] [] (.d (.sl 10 ((rDel b n ss).map vg))) []:=by
 have kQ:=λs f t=>q5e b s f t hg (by omega) (by omega);have M:=qts b hg;have J:=q4l (rMgr b) (xle _ _);have C:=xeu b.s.m b.roles;have hp:=qwp n ss;have hq:ss*(n*n)<=32*(6*6):=jEs R (jEs hn hn);have hD:=xet (jj b) (xr n ss);simp only[qcb,encQ,xt]at kQ M J;refine F113.go ?_;refine ez1 @qcb.eq_1 ?_;refine qg (λx:{x:Nat×List OutM//(1<=x.1∧x.1<=ss+1)∧x.2++qa0 (jj b) (in3 n ss x.1)=qa0 (jj b) (xr n ss)}=>SrD b x.val.2 [(4,true,.d (.int .i64 (x.val.1:Nat)))]) (λx=>ss+1-x.val.1) ⟨(1,[]),by omega,rfl⟩ ?_ (λx=> ?_)
 ·simp only[SrD,rbO,List.nil_append,List.cons_append,Int.ofNat_one,List.map_nil,go_sem,simprocAttr]
 obtain⟨⟨s,l⟩,⟨Z,Y⟩,e⟩:=x;dsimp only at Z Y e⊢;simp only[SrD,rbO,List.nil_append,List.cons_append,go_sem,simprocAttr];refine xf _ (λhc=> ?_) (λhc=> ?_)
 ·have U:s<=ss:=by simp[hs]at hc;omega
  rw[qyk U]at e;refine ez ?_;refine qg (λx:{x:Nat×List OutM//x.1<=n∧x.2++qa0 (jj b) (in2 n s x.1++in3 n ss (s+1))=qa0 (jj b) (xr n ss)}=>SrD b x.val.2 [(4,true,.d (.int .i64 (s:Nat))),(5,true,.d (.int .i64 (x.val.1:Nat)))]) (λx=>n-x.val.1) ⟨(0,l),jAj _,e⟩ ?_ (λx=> ?_)
  ·simp only[SrD,rbO,List.nil_append,List.cons_append,jAt,go_sem,simprocAttr]
  clear e;obtain⟨⟨f,l⟩,hf,e⟩:=x;dsimp only at hf e⊢;simp only[SrD,rbO,List.nil_append,List.cons_append,go_sem,simprocAttr];refine xf _ (λp=> ?_) (λp=> ?_)
  ·have B:f<n:=by simp[F]at p;omega
   rw[qyj B,jAh]at e;refine ez ?_;refine qg (λx:{x:Nat×List OutM//x.1<=n∧x.2++qa0 (jj b) (in1 n s f x.1++(in2 n s (f+1)++in3 n ss (s+1)))=qa0 (jj b) (xr n ss)}=>SrD b x.val.2 [(4,true,.d (.int .i64 (s:Nat))),(5,true,.d (.int .i64 (f:Nat))),(6,true,.d (.int .i64 (x.val.1:Nat)))]) (λx=>n-x.val.1) ⟨(0,l),jAj _,e⟩ ?_ (λx=> ?_)
   ·simp only[SrD,rbO,List.nil_append,List.cons_append,jAt,go_sem,simprocAttr]
   clear e;obtain⟨⟨t,l⟩,ht,e⟩:=x;dsimp only at ht e⊢;simp only[SrD,rbO,List.nil_append,List.cons_append,go_sem,simprocAttr];refine xf _ (λz=> ?_) (λz=> ?_)
   ·have u:t<n:=by simp[F]at z;omega
    have hll:l.length<=1152:=by
     have:=congrArg List.length e;rw[jAc]at this;omega
    have I:=kQ (s:Nat) (f:Nat) (t:Nat);have h:l++qul (jj b) (s,f,t)++qa0 (jj b) (in1 n s f (t+1)++(in2 n s (f+1)++in3 n ss (s+1)))=qa0 (jj b) (xr n ss):=by
     by_cases he:f=t
     ·rw[xhi u he]at e;have h0:qul (jj b) (s,f,t)= []:=by
       subst he;have:qm0 b (s:Nat) (f:Nat) (f:Nat)=false:=by unfold qm0;simp
       simp[qul,jj,p3k,this,xx]
      rw[h0,jAu];exact e
     ·rw[xhj u he]at e;rw[<- e,jAh];rfl
    have A:qul (jj b) (s,f,t)=match (jj b ⟨(s:Nat),(f:Nat),(t:Nat)⟩).items with
     | []=> []
     |m::_=> [⟨(t:Nat),m⟩]:=rfl
    generalize jj b ⟨(s:Nat),(f:Nat),(t:Nat)⟩=q at I A;obtain⟨qa,qc,G⟩:=q;simp only at I A;refine eo ?_;refine cl F51 (I) ?_;refine ez ?_;cases G with
    |nil=>
     simp only at A;rw[A,jAu]at h;refine eo1 @List.map_nil.{0,0} ?_;refine no_ ?_;refine ez ?_;refine⟨⟨(t+1,l),u,h⟩,?_,by dsimp only;omega⟩;dsimp only;simp only[SrD,rbO,List.nil_append,List.cons_append,qe (show t<9223372036854775807 by omega),go_sem,simprocAttr]
    |cons m G=>
     simp only at A;rw[A]at h;simp only[List.map_cons,List.length_cons,go_sem,simprocAttr];have hpos:decide ((G.length:Int)+1>0)=true:=by simp only[decide_eq_true_eq];omega
     refine eo1 @hpos ?_;refine ya ?_;refine eo1 @qi.eq_1 ?_;refine⟨⟨(t+1,l++ [⟨(t:Nat),m⟩]),u,h⟩,?_,by dsimp only;omega⟩;dsimp only;simp only[SrD,rbO,List.nil_append,List.cons_append,jA2,vg,qi,qe (show t<9223372036854775807 by omega),go_sem,simprocAttr]
   ·have O:t=n:=by simp[F]at z;omega
    subst O;rw[q65 (jAi _),List.nil_append]at e;refine ez ?_;refine⟨⟨(f+1,l),B,e⟩,?_,by dsimp only;omega⟩;dsimp only;simp only[SrD,rbO,List.nil_append,List.cons_append,qe (show f<9223372036854775807 by omega),go_sem,simprocAttr]
  ·have ac:f=n:=by simp[F]at p;omega
   subst ac;rw[q66 (jAi _),List.nil_append]at e;refine ez ?_;refine⟨⟨(s+1,l),⟨by omega,by omega⟩,e⟩,?_,by dsimp only;omega⟩;dsimp only;simp only[SrD,rbO,List.nil_append,List.cons_append,qe (show s<9223372036854775807 by omega),go_sem,simprocAttr]
 ·have X:s=ss+1:=by simp[hs]at hc;omega
  subst X;rw[q67 (jEy _),show qa0 (jj b) []= []from rfl,jAu]at e;subst e;have ab:(xn (rMgr b)).length<=200:=C;obtain⟨o,ho⟩: ∃o,o=xn (rMgr b):=⟨_,rfl⟩;have E:rDel b n ss=qa0 (jj b) (xr n ss)++o.map qpd:=by rw[ho];rfl
  rw[E];rw[<- ho]at J ab;change qf _ _ _ _ (.d (.agg [.int .i64 (rMgr b).roles,.sl 4 ((rMgr b).ents.map qu)])) _ at M;refine eo ?_;refine cl F52 (M) ?_;refine eo ?_;refine cl F200 (J) ?_;refine ez ?_;refine qg (λi:{i:Nat//i<=o.length}=>SrE b (qa0 (jj b) (xr n ss)) o i.val) (λi=>o.length-i.val) ⟨0,jAj _⟩ ?_ (λi=> ?_)
  ·exact et6 @SrE.eq_1 @rbO.eq_1 @List.take_zero.{0} @List.map_nil.{0,0} @jAu.{0} @jAt
  obtain⟨i,hi⟩:=i;refine ez2 @SrE.eq_1 @rbO.eq_1 ?_;refine xf _ (λp=> ?_) (λp=> ?_)
  ·have v:i<o.length:=by simpa using p
   have htk:qa0 (jj b) (xr n ss)++(o.take (i+1)).map qpd=qa0 (jj b) (xr n ss)++(o.take i).map qpd++ [qpd o[i]]:=by
    rw[jAk v,jA2,jAh];rfl
   have hlen:(qa0 (jj b) (xr n ss)++(o.take i).map qpd).length<=2000:=by simp;omega
   have hE:vg (qpd o[i])= .int .i64 o[i].from_::qi o[i]:=rfl
   simp only[qh qi o v,qi,go_sem,simprocAttr]
   (repeat(with_reducible refine ob ?_))
   refine⟨⟨i+1,v⟩,?_,by dsimp only;omega⟩;simp only[SrE,rbO,htk,jA2,List.map_cons,List.map_nil,hE,qi,qe (show i<9223372036854775807 by omega),go_sem,simprocAttr]
  ·have aa:i=o.length:=by simp at p;omega
   subst aa;exact et1 @jAr.{0}
theorem xrj (b:RB) (n ss:Nat) (hr:b.roles=(n:Nat)) (hs:b.sess=(ss:Nat)) (hn:n<=6) (e:ss<=32) (hg:b.s.m.Good):
  qf prog 53 [.d (.agg (qcb b))] [] (.d (.bool (((b.p.length:Int)==0)&&(((rDel b n ss).length:Int)==0)))) []:=by
 have kd:=xvr b n ss hr hs hn e hg;simp only[qcb]at kd;refine F53.go ?_;refine ez1 @qcb.eq_1 ?_;cases hb:((b.p.length:Int)==0)
 ·refine ez1 @hb ?_;refine qa9 .nilsl rfl ?_;exact et
 ·refine eo1 @hb ?_;refine cl F113 (kd) ?_;exact et
structure MapM.Ok {K V:Type} (m:MapM K V):Prop where
 num:(m.l.map (·.1)).Nodup
 lt: ∀x∈m.l,x.1<m.c
 key:(m.l.map (·.2.1)).Nodup
section
variable {K V:Type} [DecidableEq K]
theorem qoe {α β:Type} (g:α->β) (f:α->α): ∀(l:List α) (j:Nat),(∀x,l[j]? =some x->g (f x)=g x) ->(l.modify j f).map g=l.map g
 | [],j,_=>by simp
 |x::l,0,h=>by simp[h x rfl]
 |x::l,j+1,h=>by simp[qoe g f l j (by simpa using h)]
theorem MapM.Ok.put {m:MapM K V} (h:m.Ok) (k:K) (v:V):(m.put k v).Ok:=by
 unfold MapM.put;cases hf:m.l.findIdx? (qca k)with
 |none=>
  have hn: ∀x∈m.l,qca k x=false:=λx d=>by
   have:=jD7.1 hf x d;simpa using this
  refine⟨?_,λx d=> ?_,?_⟩
  ·simp only[jA2,List.map_cons,List.map_nil];refine jEf.2 ⟨h.num,by simp,λa o b l e=> ?_⟩;simp only[jAv,jBk,or_false]at l;obtain⟨x,d,rfl⟩:=jAo.1 o;have:=h.lt x d;omega
  ·rcases jAs.1 d with d|d
   ·exact Nat.lt_succ_of_lt (h.lt x d)
   ·simp only[jAv,jBk,or_false]at d;subst d;exact jEy _
  ·simp only[jA2,List.map_cons,List.map_nil];refine jEf.2 ⟨h.key,by simp,λa o b l e=> ?_⟩;simp only[jAv,jBk,or_false]at l;obtain⟨x,d,rfl⟩:=jAo.1 o;have:=hn x d;simp[qca,<- l,e]at this
 |some j=>
  obtain⟨hj,d,_⟩:=List.findIdx?_eq_some_iff_getElem.1 hf;have i:k=(m.l[j]).2.1:=by simpa[qca]using d
  have p:(m.l.modify j λe=>(e.1,k,v)).map (·.1)=m.l.map (·.1):=qoe _ _ _ _ λ_ _=>rfl;have e2:(m.l.modify j λe=>(e.1,k,v)).map (·.2.1)=m.l.map (·.2.1):=qoe _ _ _ _ λx d=>by
   rw[jAa hj,jA8]at d;subst d;exact i
  refine⟨by rw[p];exact h.num,λx d=> ?_,by rw[e2];exact h.key⟩;have:x.1∈(m.l.modify j λe=>(e.1,k,v)).map (·.1):=jAo.2 ⟨x,d,rfl⟩;rw[p]at this;obtain⟨y,hy,e⟩:=jAo.1 this;have:=h.lt y hy;simp only at e⊢;omega
theorem MapM.Ok.get {m:MapM K V} (h:m.Ok) {x:Nat×K×V} (hx:x∈m.l):m.get x.2.1=some x.2.2:=by
 have: ∀l:List (Nat×K×V),(l.map (·.2.1)).Nodup->x∈l->l.find? (qca x.2.1)=some x:=by
  intro l;induction l with
  |nil=>intro _ h;cases h
  |cons a l ih=>
   intro hn d;rw[jB7];by_cases e:x.2.1=a.2.1
   ·rcases jAv.1 d with rfl|d
    ·simp[qca]
    ·simp only[List.map_cons,jCe]at hn;exact absurd (jAo.2 ⟨x,d,e⟩) hn.1
   ·rw[show qca x.2.1 a=false by simp[qca,e]];rcases jAv.1 d with rfl|d
    ·exact absurd rfl e
    ·exact ih (by simp only[List.map_cons,jCe]at hn;exact hn.2) d
 unfold MapM.get;rw[this m.l h.key hx];rfl
omit [DecidableEq K] in
theorem qtt:(⟨[],0⟩:MapM K V).Ok:=⟨by simp,by simp,by simp⟩
end
def q5g (b:Brk):Bool:=b.q.l.all (λe=>decide (e.2.2.items= []))&&(((b.p.length:Int)==0)&&(((xn b.m).length:Int)==0))
def SidB (b:Brk) (i:List (Nat×Pr×Qu)):St:=
 ⟨[(0,true,.d (.ptr 0 0)),(11,true,.d (.ptr 5 0))],[.row (ve b (.sl 10 (b.p.map vg))),stoO b.s 2,mapO b.s.m,qmO b.q,tmO b.t,.iter (.d (.map 3)) b.q.c (i.map (·.1)) b.q.c],[],1⟩
theorem xrk (b:Brk) (G:b.q.Ok) (hs:b.m.Sm):qf prog 42 [.d (.ptr 0 0)] (brF b) (.d (.bool (q5g b))) (brF b):=by
 have J:=qfi b.m hs;simp only[xt]at J;have t: ∀x∈b.q.l,∀y∈b.q.l,x.1=y.1->x=y:=λx o y q h=>qyl G.num o q h;refine F42i.go ?_;refine eo6 @brF.eq_1 @ve.eq_1 @stoO.eq_1 @mapO.eq_1 @qmO.eq_1 @tmO.eq_1 ?_;refine no_ ?_;refine ez ?_;refine qg (λi:{i:List (Nat×Pr×Qu)//(i.map (·.1)).Nodup∧(∀x∈i,x∈b.q.l)∧ ∀x∈i,x.2.2.items= []}=>SidB b i.val) (λi=>b.q.l.length-i.val.length) ⟨[],by simp,by simp,by simp⟩ ?_ (λi=> ?_)
 ·exact et7 @SidB.eq_1 @ve.eq_1 @stoO.eq_1 @mapO.eq_1 @qmO.eq_1 @tmO.eq_1 @List.map_nil.{0,0}
 obtain⟨i,I,z,v⟩:=i;refine ez6 @SidB.eq_1 @ve.eq_1 @stoO.eq_1 @mapO.eq_1 @qmO.eq_1 @tmO.eq_1 ?_;have m:qf8 (b.q.l.map (encE qle qft)) (i.map (·.1))=(b.q.l.filter λx=> !(i.map (·.1)).contains x.1).map (encE qle qft):=by
  unfold qf8;rw[List.filter_map];rfl
 refine q9i (last:=b.q.c) ⟨rfl,rfl,by intro e C;obtain⟨x,o,rfl⟩:=jAo.1 C;exact G.lt x o,jAi _⟩ (λu=> ?_) (λe C=> ?_)
 ·rw[m,List.map_eq_nil_iff,List.filter_eq_nil_iff]at u;have A:b.q.l.all (λe=>decide (e.2.2.items= []))=true:=by
   rw[jAx];intro x o;have:=u x o;simp only[jBd,jCf,jC1,Bool.not_not,List.contains_eq_mem,decide_eq_true_eq]at this;simp at this;obtain⟨a,c,B⟩:=this;have:=t x o _ (z _ B) rfl;rw[this];simpa using v _ B
  have hb:q5g b=(((b.p.length:Int)==0)&&(((xn b.m).length:Int)==0)):=by unfold q5g;rw[A,jCr]
  rw[hb];refine eo1 @qph.eq_1 ?_;refine no_ ?_;refine ez ?_;cases hp:((b.p.length:Int)==0)
  ·refine ez1 @hp ?_;refine qa9 .nilsl rfl ?_;exact et5 @ve.eq_1 @stoO.eq_1 @mapO.eq_1 @qmO.eq_1 @tmO.eq_1
  ·refine eo1 @hp ?_;refine cl F18 (J) ?_;exact et5 @ve.eq_1 @stoO.eq_1 @mapO.eq_1 @qmO.eq_1 @tmO.eq_1
 ·rw[m]at C;obtain⟨x,o,rfl⟩:=jAo.1 C;rw[jBs]at o;obtain⟨p,F⟩:=o;have E:x.1∉i.map (·.1):=by simpa using F
  have l:((i++ [x]).map (·.1)).Nodup∧ ∀y∈i++ [x],y∈b.q.l:=by
   refine⟨by rw[jA2];exact jEf.2 ⟨I,by simp,λa ha c hc h=>by simp at hc;subst hc;subst h;exact E ha⟩,λy q=> ?_⟩;rcases jAs.1 q with h|h
   ·exact z y h
   ·simp at h;subst h;exact p
  have hil:i.length<b.q.l.length:=by
   have:=q68 (qba _ l.1) l.2;simp at this;omega
  refine eo1 @entV.eq_1 ?_;refine ya ?_;refine ez ?_;refine q1u (e:=encE qle qft x) (mid:=3) (since:=b.q.c) (seen:=i.map (·.1)++ [x.1]) (clock:=b.q.c) (es:=b.q.l.map (encE qle qft)) ⟨rfl,rfl,by simp[encE],?_⟩ ?_
  ·rw[jFh];have h1:b.q.l.find? ((λe:Nat×D×D=>e.1==(encE qle qft x).1)∘encE qle qft)=some x:=qym (λy:Nat×Pr×Qu=>y.1) G.num p;rw[h1];rfl
  refine ez3 @encE.eq_1 @qft.eq_1 @encQ.eq_1 ?_;refine xf _ (λhc=> ?_) (λhc=> ?_)
  ·have hb:q5g b=false:=by
    unfold q5g;rw[show b.q.l.all (λe=>decide (e.2.2.items= []))=false by
     rw[List.all_eq_false];exact⟨x,p,by simp at hc⊢;intro h;rw[h]at hc;simp at hc⟩]
    rfl
   exact et6 @hb @ve.eq_1 @stoO.eq_1 @mapO.eq_1 @qmO.eq_1 @tmO.eq_1
  ·refine ez ?_;have h0:x.2.2.items= []:=jAy (by simp only[decide_eq_false_iff_not]at hc;omega);refine⟨⟨i++ [x],l.1,l.2,λy q=> ?_⟩,?_,by simp only[jAc,jBo];omega⟩
   ·rcases jAs.1 q with h|h
    ·exact v y h
    ·simp at h;subst h;exact h0
   ·exact et7 @SidB.eq_1 @ve.eq_1 @stoO.eq_1 @mapO.eq_1 @qmO.eq_1 @tmO.eq_1 @jA2.{0,0}
end Go.Proofs.YtkcdbcbpbolgkaaGreatDoor
namespace Go.Proofs.YtkcdbcbpbolgkaaGreatDoor
open Tryz
open Go.Abs
def d48:=cut prog f48 news
@[go_sem] def E48:=qj d48
def F48:=fnC d48 follows func48
theorem xvs {P:Program} {k0 id:Nat} {K:St->Prop} {Q:SExit->St->Prop} {st:St} (h:Q .normal st):AWp P k0 (.exit id) (qil K (qu1 id Q)) st:=by
 show(if id=id then _ else _);rw[if_pos rfl];exact h
theorem xev {e:List UInt8} {s:Sto} (hb:e.length<=1000000000) (h:qeb e=some s):qf prog 108 [.d (.sl 1 (qd e))] [] (.tup [.d (.agg (stR s)),.d (.int .i64 0)]) []:=by
 have k:=q4a e hb;unfold qeb at h;cases ho:qps kx (yo e)with
 |none=>rw[ho]at h;cases h
 |some m=>
  rw[ho,Option.map_some,jA8]at h;subst h;have i:=qmv (yo e) (m:=kx) ⟨by simp[kx],by simp[kx],by simp[kx]⟩ (by simp[kx]);rw[ho,kh,Option.map_some]at i;have h1:qja e=stR ⟨e.take (qbw e),(qbw e:Nat),m⟩:=by unfold qja;rw[<- i];rfl
  have h2:qjb e=0:=by unfold qjb;rw[<- i]
  rw[h1,h2]at k;exact k
theorem xlf {e:List UInt8} (hb:e.length<=1000000000) (h:qeb e=none):qf prog 108 [.d (.sl 1 (qd e))] [] (.tup [.d (.agg [.nilsl,.int .i64 0,.nilsl]),.d (.int .i64 4)]) []:=by
 have k:=q4a e hb;unfold qeb at h;cases ho:qps kx (yo e)with
 |some m=>rw[ho]at h;cases h
 |none=>
  have i:=qmv (yo e) (m:=kx) ⟨by simp[kx],by simp[kx],by simp[kx]⟩ (by simp[kx]);rw[ho,kh,Option.map_none]at i;have h1:qja e= [.nilsl,.int .i64 0,.nilsl]:=by unfold qja;rw[<- i]
  have h2:qjb e=4:=by unfold qjb;rw[<- i]
  rw[h1,h2]at k;exact k
def rOpR (n ss:Nat):Option Brk->RB
 |some b=>⟨(n:Nat),(ss:Nat),b.s,[],[]⟩
 |none=>qjg 0 0
def SrOz (n ss:Nat) (s:Sto) (m:Mg) (rest:Fr):St:=
 ⟨rest++ [(1,true,.d (.int .i64 (n:Nat))),(2,true,.d (.int .i64 (ss:Nat))),(6,true,.d (.ptr 0 0)),(8,true,.d (.ptr 1 0)),(10,true,.d (.ptr 2 0)),(12,true,.d (.ptr 3 0))],
  [.row [.d (.int .i64 0),.d (.int .i64 0),.d .nilsl,.d (.int .i64 0),.d .nilsl,.d .nilsl,.d .nilsl],.row [.d (.int .i64 (n:Nat)),.d (.int .i64 (ss:Nat)),.d (.sl 1 (qd s.file)),.d (.int .i64 s.synced),.d (.sl 2 ((xu s.m).map x9)),.d (.sl 10 []),.d (.sl 11 [])],
  .row [.d (.sl 1 (qd s.file)),.d (.int .i64 s.synced),.d (.sl 2 ((xu s.m).map x9))],.row [.d (.int .i64 m.roles),.d (.sl 4 (m.ents.map qu))]],[],1⟩
theorem xew (o:List UInt8) (n ss:Nat) (hp:posB (n:Nat) (ss:Nat)=true) (hb:o.length<=1000000000):
  qf prog 48 [.d (.sl 1 (qd o)),.d (.int .i64 (n:Nat)),.d (.int .i64 (ss:Nat))] [] (.tup [.d (.agg (qcb (rOpR n ss (qka o n ss)))),.d (.int .i64 (bOpE (qka o n ss)))]) []:=by
 obtain⟨h1,h2,h3,h4⟩:=qj5 hp;have hz:xu newS.m= []:=kh;have A:xu kx= []:=kh;have k0:=q8y (n:Nat) (ss:Nat);rw[if_pos hp,if_pos hp]at k0;simp only[qcb,qjg,newS,A,List.map_nil,qk]at k0;generalize u:qka o n ss=R;unfold qka at u;cases hs:qeb o with
 |none=>
  rw[hs]at u;have ks:=xlf hb hs;refine F48.goT ?_;refine eo ?_;refine cl F46 (k0) ?_;refine eo ?_;refine no_ ?_;refine eo ?_;refine cl F108 (ks) ?_;refine eo ?_;refine ya ?_;subst u;simp only[bOpE,rOpR,qcb,qjg,A,newS,List.map_nil,qk,go_sem,simprocAttr]
 |some s=>
  rw[hs]at u;simp only at u;have J:=(qj1 hs).1;have ks:=xev hb hs;have kM:=qww s (n:Nat) J;simp only[stR,qgd,xt]at ks kM;have Z:(xy s.m n).2=0->(xy s.m n).1.ents.length<=32:=λh=>xlc (qjh h).1;have kL: ∀p:Nat×Nat×Nat,qf prog 109 [.d (.agg (stR s)),.d (.str (p3n p))] [] (.tup [.d (.agg (encQ (qaa s.m (p3n p)).1)),.d (.int .i64 (qaa s.m (p3n p)).2)]) []:=λp=>by
   have:=xaw s (p3n p) J (by simp[p3n,qe0]);rwa [q8b J]at this
  simp only[stR,qgd,encQ]at kL;refine F48.goT ?_;refine eo ?_;refine cl F46 (k0) ?_;refine eo ?_;refine no_ ?_;refine eo ?_;refine cl F108 (ks) ?_;refine eo ?_;refine no_ ?_;refine eo ?_;refine cl F33 (kM) ?_;refine ez ?_;generalize xy s.m n=M at u Z;obtain⟨m,e⟩:=M;simp only at u Z;by_cases z:e=0
  ·subst z;have Z:=Z rfl;simp only[ne_eq,not_true_eq_false,if_false]at u
   (repeat(with_reducible refine ob ?_));refine no_ ?_
   refine ez ?_;refine qg (λi:{i:Nat//i<=m.ents.length∧ ∀e∈m.ents.take i,¬e.sess>ss}=>SrOz n ss s m [(14,true,.d (.int .i64 (i.val:Nat)))]) (λi=>m.ents.length-i.val) ⟨0,jAj _,by simp⟩ ?_ (λi=> ?_)
   ·exact et2 @SrOz.eq_1 @jAt
   obtain⟨i,hi,hx⟩:=i;dsimp only;refine ez1 @SrOz.eq_1 ?_;refine xf _ (λhc=> ?_) (λhc=> ?_)
   ·have G:i<m.ents.length:=by simpa using hc
    refine eo2 (qh qu m.ents G) @qu.eq_1 ?_;refine xf _ (λh2=> ?_) (λh2=> ?_)
    ·have C:R=none:=by
      rw[<- u];split
      ·rfl
      ·rw[if_pos];exact jB3.2 ⟨m.ents[i],jAg G,by simpa using h2⟩
     subst C;refine eo ?_;simp only[bOpE,rOpR,qcb,qjg,A,newS,List.map_nil,qk,go_sem,simprocAttr]
    ·refine ez ?_;refine⟨⟨i+1,G,λe I=> ?_⟩,?_,by dsimp only;omega⟩
     ·rw[jAk G]at I;rcases jAs.1 I with I|I
      ·exact hx e I
      ·simp only[jAv,jBk,or_false]at I;subst I;simpa using h2
     ·dsimp only;exact et2 @SrOz.eq_1 (qe (show i<9223372036854775807 by omega))
   ·have ad:i=m.ents.length:=by simp at hc;omega
    subst ad;rw[jAr]at hx;have aa: ¬(m.ents.any (λe=>decide (e.sess>ss)))=true:=by
     intro h;obtain⟨e,I,h⟩:=jB3.1 h;exact hx e I (by simpa using h)
    rw[if_neg aa]at u;generalize Z:(λp:Nat×Nat×Nat=>decide ((qaa s.m (p3n p)).2≠0))=F at u;have ah: ∀p,F p=decide ((qaa s.m (p3n p)).2≠0):=λp=>by rw[<- Z]
    have hmem: ∀p∈xr n ss,p.1<100∧p.2.1<10∧p.2.2<10:=λp hp=>by
     have:=qj7.1 hp;omega
    generalize hL:ldQs s.m (xr n ss)=lq at u;as_aux_lemma=>
     refine ez ?_;refine qg (λx:{x:Nat//(1<=x∧x<=ss+1)∧(in3 n ss x).any F=(xr n ss).any F}=>SrOz n ss s m [(15,true,.d (.int .i64 (x.val:Nat)))]) (λx=>ss+1-x.val) ⟨1,by omega,rfl⟩ ?_ (λx=> ?_)
     ·exact et2 @SrOz.eq_1 @Int.ofNat_one
     obtain⟨a,⟨a1,a2⟩,l⟩:=x;dsimp only at a1 a2 l⊢;refine ez1 @SrOz.eq_1 ?_;refine xf _ (λY=> ?_) (λY=> ?_)
     ·have af:a<=ss:=by simp at Y;omega
      rw[qyk af]at l;refine ez ?_;refine qg (λx:{x:Nat//x<=n∧(in2 n a x++in3 n ss (a+1)).any F=(xr n ss).any F}=>SrOz n ss s m [(15,true,.d (.int .i64 (a:Nat))),(16,true,.d (.int .i64 (x.val:Nat)))]) (λx=>n-x.val) ⟨0,jAj _,l⟩ ?_ (λx=> ?_)
      ·exact et2 @SrOz.eq_1 @jAt
      clear l;obtain⟨f,hf,l⟩:=x;dsimp only at hf l⊢;refine ez1 @SrOz.eq_1 ?_;refine xf _ (λX=> ?_) (λX=> ?_)
      ·have ab:f<n:=by simpa using X
       rw[qyj ab,jAh]at l;as_aux_lemma=>
        refine ez ?_;refine qg (λx:{x:Nat//x<=n∧(in1 n a f x++(in2 n a (f+1)++in3 n ss (a+1))).any F=(xr n ss).any F}=>SrOz n ss s m [(15,true,.d (.int .i64 (a:Nat))),(16,true,.d (.int .i64 (f:Nat))),(17,true,.d (.int .i64 (x.val:Nat)))]) (λx=>n-x.val) ⟨0,jAj _,l⟩ ?_ (λx=> ?_)
        ·exact et2 @SrOz.eq_1 @jAt
        clear l;obtain⟨t,ht,l⟩:=x;dsimp only at ht l⊢;refine ez1 @SrOz.eq_1 ?_;refine xf _ (λU=> ?_) (λU=> ?_)
        ·have E:t<n:=by simpa using U
         refine ez ?_;as_aux_lemma=>
          refine xf _ (λO=> ?_) (λO=> ?_)
          ·have B:f=t:=by simp at O;omega
           rw[xhi E B]at l;refine xvs ?_;refine ez ?_;refine⟨⟨t+1,E,l⟩,?_,by dsimp only;omega⟩;dsimp only;exact et2 @SrOz.eq_1 (qe (show t<9223372036854775807 by omega))
          ·have B:f≠t:=by simp at O;omega
           rw[xhj E B,List.cons_append,List.any_cons]at l;have kn:=xa9 a f t (by omega) (by omega) (by omega);have kl:=kL (a,f,t);have v:=ah (a,f,t);change qf _ _ [_,.d (.str (jh a f t))] _ _ _ at kl;generalize qaa s.m (p3n (a,f,t))=Q at kl v;obtain⟨q,e⟩:=Q;as_aux_lemma=>
            simp only at kl v;refine eo ?_;refine cl F110 (kn) ?_;refine eo ?_;refine cl xux (kl) ?_;refine ez ?_;by_cases z:e=0
            ·subst z;have v:F (a,f,t)=false:=by rw[v];simp
             rw[v,jDg]at l
             (repeat(with_reducible refine ob ?_));refine no_ ?_
             refine ez ?_;refine⟨⟨t+1,E,l⟩,?_,by dsimp only;omega⟩;dsimp only;exact et2 @SrOz.eq_1 (qe (show t<9223372036854775807 by omega))
            ·have v:F (a,f,t)=true:=by rw[v];simpa using z
             rw[v,jFc]at l;have C:R=none:=by rw[<- u,if_pos l.symm]
             have hb2:(e !=0)=true:=by simpa using z
             refine eo1 @hb2 ?_;refine ya ?_;subst C;refine eo ?_;simp only[bOpE,rOpR,qcb,qjg,A,newS,List.map_nil,qk,go_sem,simprocAttr]
        ·have ac:t=n:=by simp at U;omega
         subst ac;rw[q65 (jAi _),List.nil_append]at l;refine ez ?_;refine⟨⟨f+1,ab,l⟩,?_,by dsimp only;omega⟩;dsimp only;exact et2 @SrOz.eq_1 (qe (show f<9223372036854775807 by omega))
      ·have ae:f=n:=by simp at X;omega
       subst ae;rw[q66 (jAi _),List.nil_append]at l;refine ez ?_;refine⟨⟨a+1,⟨by omega,by omega⟩,l⟩,?_,by dsimp only;omega⟩;dsimp only;exact et2 @SrOz.eq_1 (qe (show a<9223372036854775807 by omega))
     ·have ag:a=ss+1:=by simp at Y;omega
      subst ag;rw[q67 (jEy _),List.any_nil]at l;rw[<- l]at u;simp only[jAw,if_false]at u;subst u;simp only[bOpE,rOpR,qcb,List.map_nil,go_sem,simprocAttr]
  ·have hb2:(e !=0)=true:=by simpa using z
   have C:R=none:=by
    rw[<- u];split
    ·rfl
    ·first|rfl|rw[if_pos z]
   refine eo1 @hb2 ?_;refine ya ?_;subst C;refine eo ?_;simp only[bOpE,rOpR,qcb,qjg,A,newS,List.map_nil,qk,go_sem,simprocAttr]
structure Snap (n ss:Nat) (es:List En) (Q:Pr->Qu) (M:Mg):Prop where
 rq: ∀x,PrOk n ss x-> ∀m:Cont,m.Ok->xu m=es->Rep m x.name (Q x)
 rm: ∀m:Cont,m.Ok->xu m=es->URep m M
 qv: ∀x,PrOk n ss x->kw (Q x)=true
 qw: ∀x,PrOk n ss x->(Q x).W
 qn: ∀x,¬PrOk n ss x->Q x=noQ
 mw:MW M
 mr:M.roles=n
 ms: ∀e∈M.ents,e.sess<=ss
theorem q0f {m m':Cont} (h:m.Ok) (h':m'.Ok) (he:xu m=xu m') (k:List UInt8):mGet k m=mGet k m':=by rw[<- qyy h,<- qyy h',he]
theorem BI.noQ {n ss k j:Nat} {b:Brk} (H:BI n ss k j b) {x:Pr} (hx: ¬PrOk n ss x):b.queue x=noQ:=by
 unfold Brk.queue;rw[H.kq x hx];rfl
theorem q0g {n ss k j:Nat} {b:Brk} (H:BI n ss k j b):Snap n ss (xu b.s.m) b.queue b.m:=by
 have l:=H.st.good.ok;refine⟨λx i m e h=> ?_,λm e h k hk=> ?_,λx _=>H.qv x,λx _=>H.qw x,λx i=>H.noQ i,H.mw,H.mr,H.ms⟩
 ·have o:=H.rq x i;exact⟨(q0f e l h _).trans o.1,λd hd=>(q0f e l h _).trans (o.2 d hd)⟩
 ·rw[q0f e l h];exact H.rm k hk
theorem qqf (m:Cont) (x:Pr): ∀(L:List (Nat×Nat×Nat)) (q:MapM Pr Qu),(L.foldl (λq p=>q.put (p3k p) (qaa m (p3n p)).1) q).get x=if x∈L.map p3k then some (qaa m x.name).1 else q.get x
 | [],q=>by simp
 |p::L,q=>by
  rw[List.foldl_cons,qqf m x L,MapM.get_put];by_cases d:x∈L.map p3k
  ·rw[if_pos d,if_pos (show x∈(p::L).map p3k from jA9 _ d)]
  ·rw[if_neg d];by_cases e:x=p3k p
   ·subst e;rw[if_pos rfl,if_pos (show p3k p∈(p::L).map p3k from jA7)];rfl
   ·rw[if_neg e,if_neg (show¬x∈(p::L).map p3k by simp only[List.map_cons,jAv,not_or];exact⟨e,d⟩)]
theorem qpe {n ss:Nat} {x:Pr}:x∈(xr n ss).map p3k↔PrOk n ss x:=by
 constructor
 ·intro h;obtain⟨p,hp,rfl⟩:=jAo.1 h;have:=qj7.1 hp;unfold p3k;exact⟨by simp only;omega,by simp only;omega,by simp only;omega,by simp only;omega,by simp only;omega,by simp only;omega,by simp only[ne_eq];omega⟩
 ·rintro⟨a1,a2,a3,a4,a5,a6,a7⟩;refine jAo.2 ⟨(x.s.toNat,x.f.toNat,x.t.toNat),qj7.2 ?_,?_⟩
  ·simp only;omega
  ·obtain⟨s,f,t⟩:=x;simp only[p3k,Pr.mk.injEq]at*;omega
def opB (n ss:Nat) (s:Sto) (M:Mg):Brk:=⟨n,ss,s,ldQs s.m (xr n ss),M,[],⟨[],0⟩⟩
theorem q5h {n ss:Nat} (hn:NS n ss) {l:List UInt8} {s:Sto} {Q:Pr->Qu} {M:Mg} (hs:qeb l=some s) (h:Snap n ss (xu s.m) Q M):
  qka l n ss=some (opB n ss s M)∧ ∀x,(opB n ss s M).queue x=Q x:=by
 have m:=(qj1 hs).1.ok;have o: ∀x,PrOk n ss x->qaa s.m x.name=(Q x,0):=λx d=>xad (h.qv x d) (h.qw x d) (qob x) (h.rq x d s.m m rfl);have hu:xy s.m n=(M,0):=by
  have:=xee m h.mw (h.rm s.m m rfl);rwa [h.mr]at this
 constructor
 ·unfold qka;rw[hs];simp only;rw[if_neg,hu,if_neg (by simp),if_neg]
  ·rfl
  ·intro i;obtain⟨e,he,i⟩:=jB3.1 i;have:=h.ms e he;simp at i;omega
  ·intro i;obtain⟨p,hp,i⟩:=jB3.1 i;have:=o (p3k p) (qpe.1 (jAo.2 ⟨p,hp,rfl⟩));have e:(p3k p).name=p3n p:=rfl;rw[e]at this;rw[this]at i;simp at i
 ·intro x;unfold Brk.queue opB ldQs;simp only;rw[qqf];by_cases d:PrOk n ss x
  ·rw[if_pos (qpe.2 d),o x d];rfl
  ·rw[if_neg (λh=>d (qpe.1 h)),h.qn x d];rfl
def ix (x:Pr):Nat:=16*x.s.toNat+(4*x.f.toNat+x.t.toNat)
structure Bx (n ss:Nat) (x:Pr):Prop where
 s1:1<=x.s
 s2:x.s<=ss
 f0:0<=x.f
 f1:x.f<n
 t0:0<=x.t
 t1:x.t<n
theorem PrOk.bx {n ss:Nat} {x:Pr} (h:PrOk n ss x):Bx n ss x:=⟨h.s1,h.s2,h.f0,h.f1,h.t0,h.t1⟩
structure Hy (n ss:Nat) (b:Brk) (A C:Nat->Int) (ts:List (List OpS)) (k:Nat):Prop where
 bk:Bk b.s ts
 le:k<=ts.length
 sy:b.s.synced=((qdz (ts.take k)).length:Nat)
 sn: ∀j,k<=j->j<=ts.length-> ∃es Q M,eRun [] (ts.take j)=some es∧Snap n ss es Q M∧ ∀x,Bx n ss x->A (ix x)<=(Q x).acc∧C (ix x)<=(Q x).cons∧(Q x).acc<=(b.queue x).acc∧(Q x).cons<=(b.queue x).cons
 pd: ∀o∈b.p,o.p.kind=2∧PrOk n ss o.p.key∧o.p.seq<=(b.queue o.p.key).acc
theorem Hy.now {n ss:Nat} {b:Brk} {A C:Nat->Int} {ts:List (List OpS)} {k:Nat} (h:Hy n ss b A C ts k) {x:Pr} (hx:Bx n ss x):A (ix x)<=(b.queue x).acc∧C (ix x)<=(b.queue x).cons:=by
 obtain⟨es,Q,M,_,_,hq⟩:=h.sn ts.length h.le (jAi _);have:=hq x hx;omega
def Com (s s':Sto):Prop:=s'=s∨ ∃l,(xa s l).2=0∧s'=(xa s l).1
theorem q0h (s:Sto) (l:List OpS):(xa s l).1.synced=s.synced:=by
 rcases qhg s l with⟨_,c2⟩|⟨_,_,_,c4⟩
 ·rw[c2]
 ·rw[c4]
theorem Hy.step {n ss k' j':Nat} {b b':Brk} {A C:Nat->Int} {ts:List (List OpS)} {k:Nat} (h:Hy n ss b A C ts k) (hg:b.s.m.Good) (H':BI n ss k' j' b') (hc:Com b.s b'.s)
  (t: ∀x,Bx n ss x->(b.queue x).acc<=(b'.queue x).acc∧(b.queue x).cons<=(b'.queue x).cons) (hp: ∀o∈b'.p,o.p.kind=2∧PrOk n ss o.p.key∧o.p.seq<=(b'.queue o.p.key).acc): ∃i,Hy n ss b' A C i k:=by
 rcases hc with e|⟨l,h0,e⟩
 ·refine⟨ts,by rw[e];exact h.bk,h.le,by rw[e];exact h.sy,λj E B=> ?_,hp⟩;obtain⟨es,Q,M,q,p,m⟩:=h.sn j E B;refine⟨es,Q,M,q,p,λx d=> ?_⟩;have:=m x d;have:=t x d;omega
 ·have z:=xi8 h.bk hg h0;have u:=h.le;rw[<- e]at z;refine⟨ts++ [l],z,by rw[jAc];omega,by rw[e,q0h,h.sy,jBq u],λj E B=> ?_,hp⟩;by_cases F:j<=ts.length
  ·rw[jBq F];obtain⟨es,Q,M,q,p,m⟩:=h.sn j E F;refine⟨es,Q,M,q,p,λx d=> ?_⟩;have:=m x d;have:=t x d;omega
  ·have v:j=(ts++ [l]).length:=by simp only[jAc,jBo]at B⊢;omega
   subst v;rw[jAr];refine⟨xu b'.s.m,b'.queue,b'.m,z.run,q0g H',λx d=> ?_⟩;have:=h.now d;have:=t x d;omega
theorem xvt {s:Sto} {ts:List (List OpS)} (h:Bk s ts) (hg:s.m.Good):(∃d,Bk (qh8 s) d)∧(qh8 s).synced=((qh8 s).file.length:Nat):=by
 unfold qh8;split
 ·obtain⟨cs,h1,_⟩:=xd1 (s:=qkx s) hg;exact⟨⟨cs,h1⟩,rfl⟩
 ·exact⟨⟨ts,xup h⟩,rfl⟩
theorem Hy.tick {n ss k j:Nat} {b:Brk} {A C A' C':Nat->Int} {ts:List (List OpS)} {k0:Nat} (h:Hy n ss b A C ts k0) (H:BI n ss k j b) (now:Int) (hA: ∀x,Bx n ss x->A' (ix x)<=(b.queue x).acc∧C' (ix x)<=(b.queue x).cons):
  ∃d k',Hy n ss (qbr b now n ss) A' C' d k':=by
 obtain⟨⟨d,i⟩,h2⟩:=xvt h.bk H.st.good;refine⟨d,d.length,i,jAi _,?_,λj hj hj'=> ?_,λo ho=>by simp[qbr]at ho⟩
 ·rw[jAr,<- i.file];exact h2
 ·have:j=d.length:=by omega
  subst this;rw[jAr];refine⟨_,_,_,i.run,q0g (H.tick now),λx hx=> ?_⟩;have:=hA x hx;have e:(qbr b now n ss).queue x=b.queue x:=rfl;rw[e];omega
theorem Hy.opens {n ss:Nat} {b:Brk} {A C:Nat->Int} {ts:List (List OpS)} {k0:Nat} (hn:NS n ss) (h:Hy n ss b A C ts k0) (K:Nat) (hK:(qdz (ts.take k0)).length<=K):
  ∃s' M,qka (b.s.file.take K) n ss=some (opB n ss s' M)∧MW M∧(∀x,((opB n ss s' M).queue x).Sm)∧ ∀x,Bx n ss x->A (ix x)<=((opB n ss s' M).queue x).acc∧C (ix x)<=((opB n ss s' M).queue x).cons∧((opB n ss s' M).queue x).acc<=(b.queue x).acc∧((opB n ss s' M).queue x).cons<=(b.queue x).cons:=by
 obtain⟨j,s',p1,p2,i,p4,p5,p6,p7⟩:=q33 h.bk K;have hj:=p7 k0 h.le hK;obtain⟨es,Q,M,q1,d,q3⟩:=h.sn j hj p1;rw[q1]at i;have he:=jDl i;rw[he]at d;obtain⟨o1,l⟩:=q5h hn p2 d;refine⟨s',M,o1,d.mw,λx=> ?_,λx e=>by rw[l];exact q3 x e⟩;rw[l];by_cases e:PrOk n ss x
 ·exact qhy (d.qv x e)
 ·rw[d.qn x e];exact⟨by simp[noQ],by simp[noQ]⟩
attribute [-go_sem] qfp
def d8o:=cut prog f8 news [25,38] [13]
@[go_sem] def E8o:=qj d8o
def F8o:=fnC d8o follows func8
theorem xex {d:List UInt8} {n ss:Nat} {b:Brk} (h:qka d n ss=some b): ∃s,qeb d=some s∧(xy s.m n).2=0∧b=opB n ss s (xy s.m n).1:=by
 unfold qka at h;cases hs:qeb d with
 |none=>rw[hs]at h;cases h
 |some s=>
  rw[hs]at h;simp only at h;split at h
  ·cases h
  split at h
  ·cases h
  rename_i h2;split at h
  ·cases h
  rw[jA8]at h;exact⟨s,rfl,by simpa using h2,h.symm⟩
theorem xrm {m:Cont} (d:m.Good) (x:Pr):(qaa m x.name).1.Sm:=by
 rw[<- q8b d];rcases qs7 d (qob x)with h|⟨q,h,hv,_⟩
 ·rw[h];exact qhy qbf
 ·rw[h];exact qhy hv
theorem q5i (n ss:Nat) (s:Sto) (M:Mg) (x:Pr):(opB n ss s M).queue x=if x∈(xr n ss).map p3k then(qaa s.m x.name).1 else noQ:=by
 unfold Brk.queue opB ldQs;rw[qqf];split<;>rfl
theorem xba {b:RB} {n ss:Nat} (hr:b.roles=(n:Nat)) (hs:b.sess=(ss:Nat)) (x:Pr):qm0 b x.s x.f x.t=true↔PrOk n ss x:=by
 unfold qm0;rw[hr,hs];simp only[jAf,decide_eq_true_eq,bne_iff_ne,ne_eq];constructor
 ·rintro⟨⟨⟨⟨⟨⟨o,m⟩,l⟩,i⟩,h⟩,e⟩,d⟩;exact⟨o,m,l,i,h,e,d⟩
 ·rintro⟨o,m,l,i,h,e,d⟩;exact⟨⟨⟨⟨⟨⟨o,m⟩,l⟩,i⟩,h⟩,e⟩,d⟩
theorem xrn {n ss:Nat} {s:Sto} (hg:s.m.Good) (M:Mg) (p:List OutM) (t:List TimM) (x:Pr):jj ⟨(n:Nat),(ss:Nat),s,p,t⟩ x=(opB n ss s M).queue x:=by
 rw[q5i];unfold jj;by_cases h:PrOk n ss x
 ·rw[if_pos ((xba (b:=⟨(n:Nat),(ss:Nat),s,p,t⟩) rfl rfl x).2 h),if_pos (qpe.2 h),q8b hg]
 ·rw[if_neg (λe=>h ((xba (b:=⟨(n:Nat),(ss:Nat),s,p,t⟩) rfl rfl x).1 e)),if_neg (λe=>h (qpe.1 e))];rfl
theorem xli {Q:Pr->Qu} {L:List (Nat×Nat×Nat)}:qa0 Q L= []↔ ∀p∈L,(Q (p3k p)).items= []:=by
 unfold qa0;rw[jCn];refine⟨λh p hp=> ?_,λh p hp=> ?_⟩
 ·have:=h p hp;unfold qul at this;revert this;cases (Q (p3k p)).items with
  |nil=>intro _;rfl
  |cons a l=>intro h;cases h
 ·unfold qul;rw[h p hp]
theorem xvu {n ss:Nat} {b:Brk} {i:RB} (hq:b.q.Ok) (hk: ∀x,¬PrOk n ss x->b.q.get x=none) (u: ∀x,PrOk n ss x->jj i x=b.queue x) (hm:rMgr i=b.m) (hp:i.p=b.p):
  q5g b=(((i.p.length:Int)==0)&&(((rDel i n ss).length:Int)==0)):=by
 have key:b.q.l.all (λe=>decide (e.2.2.items= []))=true↔qa0 (jj i) (xr n ss)= []:=by
  rw[xli,jAx];constructor
  ·intro h p hp;have d:PrOk n ss (p3k p):=qpe.1 (jAo.2 ⟨p,hp,rfl⟩);rw[u _ d];unfold Brk.queue;cases m:b.q.get (p3k p)with
   |none=>rfl
   |some q=>
    unfold MapM.get at m;obtain⟨e,t,rfl⟩:=jAb.1 m;have:=h e (jBz t);simpa using this
  ·intro h e t;have m:=hq.get t;have d:PrOk n ss e.2.1:=by
    refine Classical.byContradiction λhn=> ?_;rw[hk _ hn]at m;cases m
   obtain⟨p,hp,o⟩:=jAo.1 (qpe.2 d);have:=h p hp;rw[o,u _ d]at this;unfold Brk.queue at this;rw[m]at this;simpa using this
 rw[jBl];unfold q5g rDel xyn;rw[hm,hp];simp only[jAf,key,beq_iff_eq,jAc,jAm];rw[<- List.length_eq_zero_iff (l:=qa0 (jj i) (xr n ss))];omega
theorem q80 (m:Cont): ∀(L:List (Nat×Nat×Nat)) (q:MapM Pr Qu),q.Ok->(L.foldl (λq p=>q.put (p3k p) (qaa m (p3n p)).1) q).Ok
 | [],_,h=>h
 |p::L,q,h=>q80 m L _ (h.put _ _)
theorem xlj (e:List UInt8) (r s:Int) (h:posB r s=false):qf prog 47 [.d (.sl 1 (qd e)),.d (.int .i64 r),.d (.int .i64 s)] [] (.tup [.d .nilptr,.d (.int .i64 2)]) [.none,.none,.none,.none,.none]:=by
 have k0:=xkh r s h;refine F47o.goT ?_;refine ez ?_;refine clT [2,3,4,5,6] F45n k0 ?_;refine eo ?_;refine ya ?_;refine ez ?_;refine pu ?_;exact et
theorem xlk (e:List UInt8) (r s:Int) (h:posB r s=false):qf prog 48 [.d (.sl 1 (qd e)),.d (.int .i64 r),.d (.int .i64 s)] [] (.tup [.d (.agg (qcb (qjg 0 0))),.d (.int .i64 2)]) []:=by
 have hz:xu newS.m= []:=kh;have k0:=q8y r s;rw[h]at k0;have hz2:xu kx= []:=kh;simp only[jAw,if_false,qcb,qjg,hz2,newS,List.map_nil,qk]at k0;refine F48.goT ?_;refine eo ?_;refine cl F46 (k0) ?_;refine eo ?_;refine ya ?_;exact et6 @qcb.eq_1 @qjg.eq_1 @hz2 @newS.eq_1 @List.map_nil.{0,0} @qk
def SboL (n ss:Nat) (b:Brk) (M:Mg) (rest:Fr):St:=
 ⟨rest++ [(1,true,.d (.int .i64 (n:Nat))),(2,true,.d (.int .i64 (ss:Nat))),(11,true,.d (.ptr 0 0)),(13,true,.d (.ptr 5 0))],
  [.row [.d (.int .i64 (n:Nat)),.d (.int .i64 (ss:Nat)),.d (.ptr 1 0),.d (.map 3),.d (.int .i64 M.roles),.d (.sl 4 (M.ents.map qu)),.d (.sl 10 []),.d (.map 4)],stoO b.s 2,mapO b.s.m,qmO b.q,tmO b.t,
   .row [.d (.int .i64 (n:Nat)),.d (.int .i64 (ss:Nat)),.d (.sl 1 (qd b.s.file)),.d (.int .i64 b.s.synced),.d (.sl 2 ((xu b.s.m).map x9)),.d (.sl 10 []),.d (.sl 11 [])]],[],1⟩
set_option maxHeartbeats 1000000 in
theorem q0i (i:List UInt8) (r s:Int) (O:i.length<=maxLen):
  qf prog 8 [.d (.sl 1 (qd i)),.d (.int .i64 r),.d (.int .i64 s)] [] (.d (.bool true)) []:=by
 refine F8o.go ?_;refine eo ?_;refine cl F11d (xer) ?_;refine eo ?_;refine no_ ?_;refine ez ?_;refine xf _ (λh=> ?_) (λh=> ?_)
 ·exact et
 have hb:i.length<=1000000000:=by
  simp[qd]at h;omega
 have hz:xu kx= []:=kh;have A:=q8y r s;cases hpos:posB r s with
 |false=>
  rw[hpos]at A;simp only[jAw,if_false,qcb,qjg,hz,newS,List.map_nil,qk]at A;have l:=xlk i r s hpos;simp only[qcb,qjg,hz,newS,List.map_nil,qk]at l;refine ez ?_;refine clT [0,1,2,3,4] F45n (xkh r s hpos) ?_;refine eo ?_;refine cl F46 (A) ?_;refine ez ?_;refine clT [6,7,8,9,10] F47o (xlj i r s hpos) ?_;refine eo ?_;refine cl F48 (l) ?_;refine eo ?_;refine no_ ?_;refine eo ?_;refine ya ?_;exact et
 |true=>
  rw[hpos]at A;obtain⟨p1,p2,p3,p4⟩:=qj5 hpos;obtain⟨n,rfl⟩: ∃n:Nat,r=n:=⟨r.toNat,by omega⟩;obtain⟨ss,rfl⟩: ∃n:Nat,s=n:=⟨s.toNat,by omega⟩;simp only[if_true,qcb,qjg,hz,newS,List.map_nil,qk]at A;have E:=qzy n ss hpos;have B:=xri i n ss hpos hb;have l:=xew i n ss hpos hb;generalize hR:qka i n ss=R at B l;cases R with
  |none=>
   simp only[bOpP,bOpE,bOpO,rOpR,qcb,qjg,hz,newS,List.map_nil,qk]at B l;simp only[brO,je,qq,stoO,mapO,qmO,tmO,List.map_nil,newS,kx,qk]at E;refine ez ?_;refine clT [0,1,2,3,4] F45n E ?_;refine eo ?_;refine cl F46 (A) ?_;refine ez ?_;refine clT [6,7,8,9,10] F47o B ?_;refine eo ?_;refine cl F48 (l) ?_;refine eo ?_;refine no_ ?_;refine eo ?_;refine ya ?_;exact et
  |some b=>
   obtain⟨st,ae,ac,rfl⟩:=xex hR;obtain⟨v,hmr⟩:=qjh ac;have J:=(qj1 ae).1;have I: ∀x,jj ⟨(n:Nat),(ss:Nat),st,[],[]⟩ x=(opB n ss st (xy st.m n).1).queue x:=λx=>xrn J _ _ _ x;have u: ∀x,((opB n ss st (xy st.m n).1).queue x).Sm:=λx=>by
    rw[q5i];split
    ·exact xrm J x
    ·exact qhy qbf
   have af:q5g (opB n ss st (xy st.m n).1)=((((⟨(n:Nat),(ss:Nat),st,[],[]⟩:RB).p.length:Int)==0)&&(((rDel ⟨(n:Nat),(ss:Nat),st,[],[]⟩ n ss).length:Int)==0)):=by
    refine xvu (q80 _ _ _ qtt) (λx hx=> ?_) (λx _=>I x) rfl rfl;unfold opB ldQs;rw[qqf,if_neg (λe=>hx (qpe.1 e))];rfl
   have G:=xrk (opB n ss st (xy st.m n).1) (q80 _ _ _ qtt) v.sm;have kJ:=xrj ⟨(n:Nat),(ss:Nat),st,[],[]⟩ n ss rfl rfl (by omega) (by omega) J;rw[af]at G;have F:=q8p (opB n ss st (xy st.m n).1) v.sm;have o:=qts ⟨(n:Nat),(ss:Nat),st,[],[]⟩ J;have kF:=xhy (xy st.m n).1 (by have:=xlc v;omega);have kE:=xc8 (xy st.m n).1 (xy st.m n).1 v.sm;rw[decide_eq_true rfl]at kE;have z:(opB n ss st (xy st.m n).1).m=(xy st.m n).1:=rfl;have Y:(opB n ss st (xy st.m n).1).s=st:=rfl;have aa:(opB n ss st (xy st.m n).1).p= []:=rfl;have Z:(opB n ss st (xy st.m n).1).roles=(n:Nat):=rfl;have ab:(opB n ss st (xy st.m n).1).sess=(ss:Nat):=rfl;have kQ:=λf t:Nat=>xkp (opB n ss st (xy st.m n).1) 1 f t (u _);have kR:=λf t:Nat=>q5e ⟨(n:Nat),(ss:Nat),st,[],[]⟩ 1 f t J (by simp only;omega) (by simp only;omega);simp only[I]at kR;simp only[bOpP,bOpE,bOpO,rOpR]at B l;generalize opB n ss st (xy st.m n).1=b at B l u G F z Y aa Z ab kQ kR;subst Y;rw[z]at F;simp only at o;generalize (xy b.s.m n).1=M at F o kF kE z;generalize ((((⟨(n:Nat),(ss:Nat),b.s,[],[]⟩:RB).p.length:Int)==0)&&(((rDel ⟨(n:Nat),(ss:Nat),b.s,[],[]⟩ n ss).length:Int)==0))=idl at G kJ
   simp only[brO,brF,qq,ve,stoO,mapO,qmO,tmO,List.map_nil,newS,kx,qk,qcb,xt,encQ,z,Z,ab,aa]at E B l G kJ F o kF kE kQ kR;simp only[je,stoO,mapO,qmO,tmO,List.map_nil,newS,kx,qk]at E;refine ez ?_;refine clT [0,1,2,3,4] F45n E ?_;refine eo ?_;refine cl F46 (A) ?_;refine ez ?_;refine clT [6,7,8,9,10] F47o B ?_;refine eo ?_;refine cl F48 (l) ?_;refine eo ?_;refine no_ ?_;refine eo ?_;refine no_ ?_;refine ez ?_;refine qc6 [6,7,8,9,10,11,0,1,2,3,4,5] [.row [.d (.int .i64 (n:Nat)),.d (.int .i64 (ss:Nat)),.d (.ptr 1 0),.d (.map 3),.d (.int .i64 M.roles),.d (.sl 4 (M.ents.map qu)),.own 432 10 [],.d (.map 4)],stoO b.s 2,mapO b.s.m,qmO b.q,tmO b.t,
    .row [.d (.int .i64 (n:Nat)),.d (.int .i64 (ss:Nat)),.d (.sl 1 (qd b.s.file)),.d (.int .i64 b.s.synced),.d (.sl 2 ((xu b.s.m).map x9)),.d (.sl 10 []),.d (.sl 11 [])],
    .row [.d (.int .i64 (n:Nat)),.d (.int .i64 (ss:Nat)),.d (.ptr 7 0),.d (.map 9),.d (.int .i64 (n:Nat)),.d (.sl 4 []),.own 144 10 [],.d (.map 10)],.row [.d (.sl 1 []),.d (.int .i64 0),.d (.map 8)],.map [] 0,.map [] 0,.map [] 0,
    .row [.d (.int .i64 (n:Nat)),.d (.int .i64 (ss:Nat)),.d (.sl 1 []),.d (.int .i64 0),.d (.sl 2 []),.d (.sl 10 []),.d (.sl 11 [])]] ?_ (by exact et4 @stoO.eq_1 @mapO.eq_1 @qmO.eq_1 @tmO.eq_1) (hp:=rfl)
   refine xgn (st1:=SboL n ss b M []) (by exact et5 @SboL.eq_1 @stoO.eq_1 @mapO.eq_1 @qmO.eq_1 @tmO.eq_1) ?_;refine ez5 @SboL.eq_1 @stoO.eq_1 @mapO.eq_1 @qmO.eq_1 @tmO.eq_1 ?_;refine qg (λf:{f:Nat//f<=n}=>SboL n ss b M [(15,true,.d (.int .i64 (f.val:Nat)))]) (λf=>n-f.val) ⟨0,jAj _⟩ ?_ (λf=> ?_)
   ·exact et6 @SboL.eq_1 @stoO.eq_1 @mapO.eq_1 @qmO.eq_1 @tmO.eq_1 @jAt
   obtain⟨f,hf⟩:=f;refine ez5 @SboL.eq_1 @stoO.eq_1 @mapO.eq_1 @qmO.eq_1 @tmO.eq_1 ?_;refine xf _ (λX=> ?_) (λX=> ?_)
   ·have O:f<n:=by simpa using X
    refine ez ?_;refine qg (λt:{t:Nat//t<=n}=>SboL n ss b M [(15,true,.d (.int .i64 (f:Nat))),(16,true,.d (.int .i64 (t.val:Nat)))]) (λt=>n-t.val) ⟨0,jAj _⟩ ?_ (λt=> ?_)
    ·exact et6 @SboL.eq_1 @stoO.eq_1 @mapO.eq_1 @qmO.eq_1 @tmO.eq_1 @jAt
    obtain⟨t,ht⟩:=t;refine ez5 @SboL.eq_1 @stoO.eq_1 @mapO.eq_1 @qmO.eq_1 @tmO.eq_1 ?_;refine xf _ (λU=> ?_) (λU=> ?_)
    ·have ad:t<n:=by simpa using U
     have kq:=kQ f t;have C:=kR f t;have kf:=xif (b.queue ⟨1,f,t⟩) (by have:=(u ⟨1,f,t⟩).1;omega);have ke:=xdj (b.queue ⟨1,f,t⟩) (b.queue ⟨1,f,t⟩) (u _);rw[decide_eq_true rfl]at ke;generalize b.queue ⟨1,f,t⟩=q at kq C kf ke;simp only[encQ]at kf ke;refine ez ?_;refine clO [0,1,2,3,4] F16d kq ?_;refine eo ?_;refine cl F50 (kf) ?_;refine eo ?_;refine cl F51 (C) ?_;refine eo ?_;refine cl F49 (ke) ?_;refine eo ?_;refine no_ ?_;refine ez ?_;refine⟨⟨t+1,ad⟩,?_,by dsimp only;omega⟩;exact et6 @SboL.eq_1 @stoO.eq_1 @mapO.eq_1 @qmO.eq_1 @tmO.eq_1 (qe (show t<9223372036854775807 by omega))
    ·refine ez ?_;refine⟨⟨f+1,O⟩,?_,by dsimp only;omega⟩;exact et6 @SboL.eq_1 @stoO.eq_1 @mapO.eq_1 @qmO.eq_1 @tmO.eq_1 (qe (show f<9223372036854775807 by omega))
   ·refine ez ?_;refine clO [0,1,2,3,4] F19d F ?_;refine eo ?_;refine cl F35 (kF) ?_;refine eo ?_;refine cl F52 (o) ?_;refine eo ?_;refine cl F34 (kE) ?_;refine ez ?_;refine clO [0,1,2,3,4] F42i G ?_;refine eo ?_;refine cl F53 (kJ) ?_;exact et
end Go.Proofs.YtkcdbcbpbolgkaaGreatDoor
