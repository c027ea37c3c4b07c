/- Texts Tk, Td, Te, Lm, Ln, Lp. -/
import Derived.Test.YtkcdbcbpbolgkaaGreatDoorMrs
import Derived.Shelf.Strconv.AtoiAll
set_option linter.unusedSimpArgs false
set_option linter.unusedVariables false
set_option linter.defProp false
set_option maxRecDepth 100000
noncomputable section
namespace Go.Proofs.YtkcdbcbpbolgkaaGreatDoor
open Tryz
open Go.Abs Go.Shelf Go.RowKit
def q2w:Go.Shelf.Ren:=⟨fun|172=>175|244=>240|245=>241|247=>283|279=>284|280=>285|281=>286|282=>287|287=>325|316=>326|171=>146|205=>327|321=>336|322=>337|243=>228|246=>271|283=>316|284=>317|285=>318|286=>319|129=>281|317=>331|318=>332|319=>333|320=>334|337=>340|338=>341|n=>n,fun|9=>9|3=>3|75=>291|76=>292|4=>4|5=>5|167=>374|37=>68|0=>0|85=>375|2=>2|168=>377|53=>270|175=>409|46=>338|210=>412|127=>423|145=>426|143=>424|21=>21|171=>275|173=>402|212=>418|51=>372|20=>20|213=>419|232=>430|233=>431|80=>216|n=>n,fun|15=>1|16=>2|17=>3|18=>4|19=>5|n=>n⟩
theorem qyd:Go.Proofs.LaysC.n172 prog q2w:={
 mixed:=by kernel_rfl
 f129:=func281.trans (congrArg some (by kernel_rfl))
 f171:=func146.trans (congrArg some (by kernel_rfl))
 f172:=func175.trans (congrArg some (by kernel_rfl))
 f205:=func327.trans (congrArg some (by kernel_rfl))
 f243:=func228.trans (congrArg some (by kernel_rfl))
 f244:=func240.trans (congrArg some (by kernel_rfl))
 f245:=func241.trans (congrArg some (by kernel_rfl))
 f246:=func271.trans (congrArg some (by kernel_rfl))
 f247:=func283.trans (congrArg some (by kernel_rfl))
 f279:=func284.trans (congrArg some (by kernel_rfl))
 f280:=func285.trans (congrArg some (by kernel_rfl))
 f281:=func286.trans (congrArg some (by kernel_rfl))
 f282:=func287.trans (congrArg some (by kernel_rfl))
 f283:=func316.trans (congrArg some (by kernel_rfl))
 f284:=func317.trans (congrArg some (by kernel_rfl))
 f285:=func318.trans (congrArg some (by kernel_rfl))
 f286:=func319.trans (congrArg some (by kernel_rfl))
 f287:=func325.trans (congrArg some (by kernel_rfl))
 f316:=func326.trans (congrArg some (by kernel_rfl))
 f317:=func331.trans (congrArg some (by kernel_rfl))
 f318:=func332.trans (congrArg some (by kernel_rfl))
 f319:=func333.trans (congrArg some (by kernel_rfl))
 f320:=func334.trans (congrArg some (by kernel_rfl))
 f321:=func336.trans (congrArg some (by kernel_rfl))
 f322:=func337.trans (congrArg some (by kernel_rfl))
 f337:=func340.trans (congrArg some (by kernel_rfl))
 f338:=func341.trans (congrArg some (by kernel_rfl))
 t0:=underlying0
 a0:=isAgg0
 z0:=sizeOf0
 v0:=zeroValue0
 t2:=underlying2
 a2:=isAgg2
 z2:=sizeOf2
 v2:=zeroValue2
 t3:=underlying3
 a3:=isAgg3
 z3:=sizeOf3
 v3:=zeroValue3
 t4:=underlying4
 a4:=isAgg4
 z4:=sizeOf4
 v4:=zeroValue4
 t5:=underlying5
 a5:=isAgg5
 z5:=sizeOf5
 v5:=zeroValue5
 t9:=underlying9
 a9:=isAgg9
 z9:=sizeOf9
 v9:=zeroValue9
 t20:=underlying20
 a20:=isAgg20
 z20:=sizeOf20
 v20:=zeroValue20
 t21:=underlying21
 a21:=isAgg21
 z21:=sizeOf21
 v21:=zeroValue21
 t37:=underlying68
 a37:=isAgg68
 z37:=sizeOf68
 v37:=zeroValue68
 t46:=underlying338
 a46:=isAgg338
 z46:=sizeOf338
 v46:=zeroValue338
 t51:=underlying372
 a51:=isAgg372
 z51:=sizeOf372
 v51:=zeroValue372
 t53:=underlying270
 a53:=isAgg270
 z53:=sizeOf270
 v53:=zeroValue270
 t75:=underlying291
 a75:=isAgg291
 z75:=sizeOf291
 v75:=zeroValue291
 t76:=underlying292
 a76:=isAgg292
 z76:=sizeOf292
 v76:=zeroValue292
 t85:=underlying375
 a85:=isAgg375
 z85:=sizeOf375
 v85:=zeroValue375
 t127:=underlying423
 a127:=isAgg423
 z127:=sizeOf423
 v127:=zeroValue423
 t143:=underlying424
 a143:=isAgg424
 z143:=sizeOf424
 v143:=zeroValue424
 t145:=underlying426
 a145:=isAgg426
 z145:=sizeOf426
 v145:=zeroValue426
 t167:=underlying374
 a167:=isAgg374
 z167:=sizeOf374
 v167:=zeroValue374
 t168:=underlying377
 a168:=isAgg377
 z168:=sizeOf377
 v168:=zeroValue377
 t171:=underlying275
 a171:=isAgg275
 z171:=sizeOf275
 v171:=zeroValue275
 t173:=underlying402
 a173:=isAgg402
 z173:=sizeOf402
 v173:=zeroValue402
 t175:=underlying409
 a175:=isAgg409
 z175:=sizeOf409
 v175:=zeroValue409
 t210:=underlying412
 a210:=isAgg412
 z210:=sizeOf412
 v210:=zeroValue412
 t212:=underlying418
 a212:=isAgg418
 z212:=sizeOf418
 v212:=zeroValue418
 t213:=underlying419
 a213:=isAgg419
 z213:=sizeOf419
 t232:=underlying430
 a232:=isAgg430
 z232:=sizeOf430
 v232:=zeroValue430
 t233:=underlying431
 a233:=isAgg431
 z233:=sizeOf431
 v233:=zeroValue431
 g15:=by kernel_rfl
 g16:=by kernel_rfl
 g17:=by kernel_rfl
 g18:=by kernel_rfl
 g19:=by kernel_rfl
 t80:=underlying216
 a80:=isAgg216
 z80:=sizeOf216
 v80:=zeroValue216
 i0:=by kernel_rfl
 i2:=by kernel_rfl
 i3:=by kernel_rfl
 i4:=by kernel_rfl
 i5:=by kernel_rfl
 i9:=by kernel_rfl
 i20:=by kernel_rfl
 i21:=by kernel_rfl
 i37:=by kernel_rfl
 i46:=by kernel_rfl
 i51:=by kernel_rfl
 i53:=by kernel_rfl
 i75:=by kernel_rfl
 i76:=by kernel_rfl
 i80:=by kernel_rfl
 i85:=by kernel_rfl
 i127:=by kernel_rfl
 i143:=by kernel_rfl
 i145:=by kernel_rfl
 i167:=by kernel_rfl
 i168:=by kernel_rfl
 i171:=by kernel_rfl
 i173:=by kernel_rfl
 i175:=by kernel_rfl
 i210:=by kernel_rfl
 i212:=by kernel_rfl
 i232:=by kernel_rfl
 i233:=by kernel_rfl
 m15:=by kernel_rfl
 m16:=by kernel_rfl
 m17:=by kernel_rfl
 m18:=by kernel_rfl
 m19:=by kernel_rfl
 c0:=by kernel_rfl
 c2:=by kernel_rfl
 c3:=by kernel_rfl
 c4:=by kernel_rfl
 c5:=by kernel_rfl
 c9:=by kernel_rfl
 c20:=by kernel_rfl
 c21:=by kernel_rfl
 c37:=by kernel_rfl
 c46:=by kernel_rfl
 c51:=by kernel_rfl
 c53:=by kernel_rfl
 c75:=by kernel_rfl
 c76:=by kernel_rfl
 c80:=by kernel_rfl
 c85:=by kernel_rfl
 c127:=by kernel_rfl
 c143:=by kernel_rfl
 c145:=by kernel_rfl
 c167:=by kernel_rfl
 c168:=by kernel_rfl
 c171:=by kernel_rfl
 c173:=by kernel_rfl
 c175:=by kernel_rfl
 c210:=by kernel_rfl
 c212:=by kernel_rfl
 c213:=by kernel_rfl
 c232:=by kernel_rfl
 c233:=by kernel_rfl}
theorem q53 {P:Program} {f:FuncId} {args:List ASlot} {r:ASlot} (hr:r.toks= [])
  (h: ∀(g:Ghost) (w:World) (vs:List Value),GlobOk g w->vs.length=args.length->(∀(i:Nat) (v:Value) (s:ASlot),vs[i]? =some v->args[i]? =some s->RC g w (ve args++xf []) v s) ->
   Calls P f vs.toArray w λe w'=> ∃v,e= .returned v∧Below w.heap.size w w'∧ ∀g',RS g' w' [] v r):qh P f args [] r []:=by
 intro g w vs q d hv C;refine(h g w vs q.2 d hv).mono ?_;rintro e w' ⟨v,rfl,l,p⟩;have E:G g w g w':=by
  refine⟨l.os,l.tape,l.output,l.size,λb d m=>⟨l.block b d,m⟩,λb n d m=>⟨l.block b d,m⟩,λb n t d m=>⟨n,some t,m,jAh _,λi u _ hu=>by rw[jw (l.block b d)];exact hu⟩,λb id d m=>⟨m,jBt (jf (l.block b d)).symm⟩⟩
 refine⟨v,g,[],rfl,E,q.of E λb z=>q.1 b (jBj l.size z),by rw[hr];simp[xf],p g,λid o h=>by simp at h,C.inj,λb id h=> ?_⟩;obtain⟨o,h1,_⟩:=C.ids b id h;simp at h1
def xmn (s:List UInt8):Int:=match Lib.atoiAll s with
 | .ok v=>v
 | .range=>Lib.atoiSat s
 | _=>0
def q54 (s:List UInt8):D:=match Lib.atoiAll s with
 | .ok _=> .niliface
 | _=> .iface 377 .any
theorem xgy (s:List UInt8) (hs:s.length<=1000000):qh prog 175 [.d (.str s)] [] (.tup [.d (.int .i64 (xmn s)),.d (q54 s)]) []:=by
 refine q53 rfl λg w vs hg hl hv=> ?_;match vs,hl with
 | [v],_=>
 have h0:=hv 0 v _ rfl rfl;have z:RV g w v (.str s):=h0;cases z;have q:(ByteArray.mk s.toArray).size<=281474976710656:=by
  have:(ByteArray.mk s.toArray).size=s.length:=by simp[ByteArray.size]
  omega
 have o: ∀k,k=1∨k=2-> ∃ev,w.cell? ⟨k,0,none⟩=some ev∧(ev= .nilIface∨ ∃te pe,ev= .iface te pe):=by
  intro k hk;obtain⟨_,u,_,h2,h3⟩:=hg k (by rcases hk with rfl|rfl<;>simp[q8j])
  refine⟨u,h2,?_⟩;cases u<;>first|(exact .inl rfl)|(exact .inr ⟨_,_,rfl⟩)|cases h3
 unfold xmn q54;cases h:Lib.atoiAll s with
 |ok n=>
  refine(Any.strconv_Atoi_ok qyd ⟨s.toArray⟩ (by omega) n h w).mono ?_;rintro e w' ⟨rfl,p⟩;refine⟨_,rfl,?_,λg'=>⟨[.int .i64 n,.nilIface],rfl,rfl,λi u t l m=> ?_⟩⟩
  ·rcases p with rfl|⟨t,rfl⟩
   ·exact Below.refl _ _
   ·exact Lib.bytesWorld_below _ _ _
  ·rcases i with _| _|i<;>simp at l m
   ·subst l m;exact RV.int _ _
   ·subst l m;exact RV.niliface
 |range=>
  obtain⟨ev,E,C⟩:=o 2 (.inr rfl);refine(Any.strconv_Atoi_range qyd ⟨s.toArray⟩ q h ev w E C).mono ?_;rintro e w' ⟨N,rfl,_,_,p⟩;refine⟨_,rfl,p,λg'=>⟨[.int .i64 (Lib.atoiSat s),.iface 377 (.pointer (some ⟨N,0,none⟩))],rfl,rfl,λi u t l m=> ?_⟩⟩;rcases i with _| _|i<;>simp at l m
  ·subst l m;exact RV.int _ _
  ·subst l m;exact RV.iface _ _ _ (.any _ rfl)
 | _=>
  obtain⟨ev,E,C⟩:=o 1 (.inl rfl);refine(Any.strconv_Atoi_syntax qyd ⟨s.toArray⟩ q h ev w E C).mono ?_;rintro e w' ⟨N,rfl,_,_,p⟩;refine⟨_,rfl,p,λg'=>⟨[.int .i64 0,.iface 377 (.pointer (some ⟨N,0,none⟩))],rfl,rfl,λi u t l m=> ?_⟩⟩;rcases i with _| _|i<;>simp at l m
  ·subst l m;exact RV.int _ _
  ·subst l m;exact RV.iface _ _ _ (.any _ rfl)
theorem xmo: ∀n:Fin 33,Lib.atoiAll ((uKey (n.val:Int)).drop 2)= .ok (n.val:Int):=by decide+kernel
end Go.Proofs.YtkcdbcbpbolgkaaGreatDoor
namespace Go.Proofs.YtkcdbcbpbolgkaaGreatDoor
open Tryz
open Go.Abs
def d242:=cut prog f242 news
@[go_sem] def E242:=qm d242
def F242:=fnC d242 follows func242
def d176:=cut prog f176 news
@[go_sem] def E176:=qm d176
def F176:=fnC d176 follows func176
def d175:=cut prog f175 news
@[go_sem] def E175:=qm d175
def F175:=fnC d175 follows func175
def d93m:=cut prog f93 news [46,1000046,1000048] [18]
@[go_sem] def E93m:=qm d93m
def F93m:=fnC d93m follows func93
theorem q8c (k p:List UInt8) (h:pre p k=true):qh prog 242 [.d (.str k),.d (.str p)] [] (.d (.str (k.drop p.length))) []:=by
 have hl:p.length<=k.length:=by simp[pre]at h;exact h.1
 have ht:(k.drop p.length).take (k.length-p.length)=k.drop p.length:=jAr (by simp);have e:=qgh k p;rw[h]at e;refine F242.go ?_;refine eo ?_;first|refine cl F236 (e) ?_|refine clF F236 (e) (λ_=>by exact et3 @ql.eq_1 @qu.eq_1 @qr.eq_1) ?_
 refine eo ?_;refine qa2 ?_;refine ez2 @jA6 @ht ?_;omega
theorem xgz (k p:List UInt8) (h:pre p k=true):qh prog 176 [.d (.str k),.d (.str p)] [] (.d (.str (k.drop p.length))) []:=by
 refine F176.go ?_;refine eo ?_;first|refine cl F242 (q8c k p h) ?_|refine clF F242 (q8c k p h) (λ_=>by exact et3 @ql.eq_1 @qu.eq_1 @qr.eq_1) ?_
 exact et
def mark (n N j:Nat):List Bool:=(wd n N).take j++List.replicate (n-j) false
def mkO (l:List Bool):AObj:= .row (l.map λb=> .d (.bool b))
theorem q2x (n N:Nat):mark n N 0=List.replicate n false:=by simp[mark]
theorem q8d (n N:Nat):mark n N n=wd n N:=by simp[mark,jAr (jBt (vw n N))]
theorem q8e {n N j:Nat} (hj:j<=n):(mark n N j).length=n:=by
 rw[mark,jAc,jAl,vw,jBp];omega
theorem q8f {n N j:Nat} (d:j<n):(mark n N j).set j (N/2^j%2==1)=mark n N (j+1):=by
 have hl:((wd n N).take j).length=j:=by rw[jAl,vw];omega
 have hr:List.replicate (n-j) false=false::List.replicate (n-(j+1)) false:=by
  rw[show n-j=(n-(j+1))+1 by omega,jDs]
 have hb:(wd n N)[j]'(by rw[vw];exact d)=(N/2^j%2==1):=by
  have:=qu2 n N j d;rw[jA0,jAa (by rw[vw];exact d)]at this;exact this
 rw[mark,mark,hr,jEl _ _ (by omega),hl,jDg,List.set_cons_zero,<- jEa (show j<(wd n N).length by rw[vw];exact d),hb,jAj];rfl
theorem xnu {N:Int} (h0:0<=N) (h1:N<=1000000) (j:Nat) (hj:j<=60):(IntKind.i64.wrap (qvm 64 (N.fdiv (2^(min j 64))) 1)==1)=(N.toNat/2^j%2==1):=by
 obtain⟨n,rfl⟩: ∃n:Nat,N=n:=⟨N.toNat,by omega⟩;have e1:min j 64=j:=by omega
 have e2:((n:Int)).fdiv (2^j)=((n/2^j:Nat):Int):=by
  rw[jDe _ (by exact jFe (Int.pow_pos (by decide)))];simp
 have d:n/2^j<=n:=Nat.div_le_self _ _;rw[e1,e2,jA6];generalize n/2^j=q at d;have hq:q<2^64:=Nat.lt_of_le_of_lt d (by omega);have e:=qre 64 q 1 hq (by decide);rw[Nat.and_one_is_mod]at e;rw[show qvm 64 (q:Int) 1=((q%2:Nat):Int)from e,x9 (by unfold I64;omega),jBm];simp only[beq_iff_eq];omega
theorem qvi (hi:Nat) (r:Rd):0<=(xy 0 (hi:Nat) r).1∧(xy 0 (hi:Nat) r).1<=hi:=by
 unfold xy qdu;split
 ·simp
 ·split
  ·simp
  ·rename_i h;exact qbl (by simpa using h)
def ld1 (v:List UInt8):Int×Rd:=qco ⟨v,0,false⟩
def ld2 (r:Int) (v:List UInt8):Int×Rd:=xy 0 (ldN r) (ld1 v).2
def ld3 (r:Int) (v:List UInt8):Int×Rd:=xy 0 (ldN r) (ld2 r v).2
theorem xqq (r:Int) (v:List UInt8):ldRd r v=(((ld1 v).1,(ld2 r v).1,(ld3 r v).1),(ld3 r v).2):=rfl
def ldR (r:Int) (v:List UInt8):Nat->Rd
 |0=>(ld1 v).2
 |1=>(ld2 r v).2
 | _=>(ld3 r v).2
def ldM (n:Nat) (v:List UInt8):Nat->List Bool
 |0=>List.replicate n false
 | _=>wd n (ld2 n v).1.toNat
def ldP (n:Nat) (v:List UInt8):Nat->List Bool
 |0=>List.replicate n false
 |1=>List.replicate n false
 | _=>wd n (ld3 n v).1.toNat
theorem xv4 (r:Int) (v:List UInt8):ldR r v 0=(ld1 v).2:=rfl
theorem xv5 (r:Int) (v:List UInt8):ldR r v 1=(ld2 r v).2:=rfl
theorem xv6 (r:Int) (v:List UInt8):ldR r v 2=(ld3 r v).2:=rfl
theorem xv7 (n:Nat) (v:List UInt8):ldM n v 0=List.replicate n false:=rfl
theorem xv8 (n:Nat) (v:List UInt8):ldM n v 1=wd n (ld2 n v).1.toNat:=rfl
theorem xv9 (n:Nat) (v:List UInt8):ldM n v 2=wd n (ld2 n v).1.toNat:=rfl
theorem xwa (n:Nat) (v:List UInt8):ldP n v 0=List.replicate n false:=rfl
theorem xwb (n:Nat) (v:List UInt8):ldP n v 1=List.replicate n false:=rfl
theorem xwc (n:Nat) (v:List UInt8):ldP n v 2=wd n (ld3 n v).1.toNat:=rfl
attribute [go_sem] xv4 xv5 xv6 xv7 xv8 xv9 xwa xwb xwc
def SldO (k v:List UInt8) (s n:Nat) (rd:Rd) (m o:List Bool) (fr:Fr):St:=
 ⟨(1,true,.d (.int .i64 n))::(4,true,.d (.ptr 1 0))::(8,true,.d (.ptr 2 0))::(9,true,.d (.ptr 5 0))::(54,true,.d (.sl 1 [[.ref 3 0 1 n],[.ref 4 0 1 n]]))::(55,true,.d (.int .i64 2))::fr,
  [.row [.d (.str k),.d (.sl 1 (qe v))],.row [.d (.int .i64 0),.d (.int .i64 0),.d .nilsl,.d .nilsl],rdO rd,mkO m,mkO o,.row [.d (.int .i64 s),.d (.int .i64 (ld1 v).1),.d (.ref 3 0 1 n),.d (.ref 4 0 1 n)]],[],1⟩
def SldA (k v:List UInt8) (s n:Nat) (i:{i:Nat//i<=2}):St:=SldO k v s n (ldR n v i.val) (ldM n v i.val) (ldP n v i.val) [(56,true,.d (.int .i64 (i.val:Nat)))]
def SldB (k v:List UInt8) (s n:Nat) (j:{j:Nat//j<=n}):St:=SldO k v s n (ld2 n v).2 (mark n (ld2 n v).1.toNat j.val) (List.replicate n false)
 [(56,true,.d (.int .i64 0)),(11,true,.d (.ref 3 0 1 n)),(12,true,.d (.int .i64 (ld2 n v).1)),(66,true,.d (.int .i64 n)),(67,true,.d (.int .i64 (j.val:Nat)))]
def SldC (k v:List UInt8) (s n:Nat) (j:{j:Nat//j<=n}):St:=SldO k v s n (ld3 n v).2 (wd n (ld2 n v).1.toNat) (mark n (ld3 n v).1.toNat j.val)
 [(56,true,.d (.int .i64 1)),(11,true,.d (.ref 4 0 1 n)),(12,true,.d (.int .i64 (ld3 n v).1)),(66,true,.d (.int .i64 n)),(67,true,.d (.int .i64 (j.val:Nat)))]
theorem xmp (s:Nat) (hs:s<=32) (v:List UInt8) (X:v.length<=1000000000) (n:Nat) (h1:1<=n) (h6:n<=6):
  qh prog 93 [.d (.agg [.str (uKey (s:Nat)),.sl 1 (qe v)]),.d (.int .i64 (n:Nat))] [] (.tup [.d (.agg (ql (q5o (n:Nat) (s:Nat) (ldRd (n:Nat) v).1))),.d (.bool (rEnd (ldRd (n:Nat) v).2==0))]) []:=by
 have m:(⟨v,0,false⟩:Rd).Ok:=⟨X,jAi _⟩;have M:=xgz (uKey (s:Nat)) [117,47] rfl;have t:=xgy ((uKey (s:Nat)).drop 2) (by simp[uKey]);have kd:=xmo ⟨s,by omega⟩;simp only[xmn,q54,kd]at t;have R:=qj1 (s:Nat) (by omega) (by omega);have O:=qou v X;have q:=(qrf m).1;have C:=qov ⟨v,0,false⟩ m;change qh _ _ _ _ (.d (.int .i64 (ld1 v).1)) [rdO (ld1 v).2]at C;change (ld1 v).2.Ok at q;have z:=qhz (ld1 v).2 0 (ldN (n:Nat)) q;change qh _ _ _ _ (.d (.int .i64 (ld2 (n:Nat) v).1)) [rdO (ld2 (n:Nat) v).2]at z;have p:=(qdv q 0 (ldN (n:Nat))).1;change (ld2 (n:Nat) v).2.Ok at p;have u:=qhz (ld2 (n:Nat) v).2 0 (ldN (n:Nat)) p;change qh _ _ _ _ (.d (.int .i64 (ld3 (n:Nat) v).1)) [rdO (ld3 (n:Nat) v).2]at u;have J:=(qdv p 0 (ldN (n:Nat))).1;change (ld3 (n:Nat) v).2.Ok at J;have U:=q41 (ld3 (n:Nat) v).2 J;simp only[rdO]at O C z u U;have c1:decide (((s:Nat):Int)<0)=false:=by simp
 have c2:decide (((s:Nat):Int)>32)=false:=by simp;omega
 rw[xqq];refine F93m.goT ?_;refine eo ?_;first|refine cl F176 (M) ?_|refine clF F176 (M) (λ_=>by exact et3 @ql.eq_1 @qu.eq_1 @qr.eq_1) ?_
 simp only[List.length_cons,List.length_nil,go_sem,simprocAttr]
 (repeat(with_reducible refine ob ?_));first|refine cl F175 (t) ?_|refine clF F175 (t) (λ_=>by exact et3 @ql.eq_1 @qu.eq_1 @qr.eq_1) ?_
 refine eo2 @c1 @c2 ?_;first|refine cl F79 (R) ?_|refine clF F79 (R) (λ_=>by exact et3 @ql.eq_1 @qu.eq_1 @qr.eq_1) ?_
 refine eo1 @beq_self_eq_true.{0} ?_
 (repeat(with_reducible refine ob ?_));refine no_ ?_
 refine ez ?_;refine clO [2] F177 O ?_;refine eo ?_;refine clO [2] F178 (C) ?_ (hfit:=by first|exact⟨qd,trivial⟩|exact⟨qd,qd,trivial⟩|(refine ev3 @ql.eq_1 @qu.eq_1 @qr.eq_1 ?_;try exact⟨⟩))
 refine ez ?_;have nn:((n:Nat):Int)<=1000000000∧(n:Int)*1<=281474976710656:=by omega
 refine⟨⟨by omega,by omega,by omega,by omega⟩,⟨by omega,by omega,by omega,by omega⟩,?_⟩;have flr:List.replicate n [D.bool false]=(List.replicate n false).map encB:=by rw[jFr];rfl
 have o:ldN (n:Nat)<=63∧0<=ldN (n:Nat):=by
  have:=xuq (r:=(n:Nat)) (by omega) (by omega);rw[qxu];rw[jA6]at this⊢;omega
 have cN:IntKind.i64.wrap (IntKind.i64.wrap (1*2^(min n 64)) -1)=ldN (n:Nat):=by
  have e1:min n 64=n:=by omega
  have I:ldN (n:Nat)=2^n-1:=rfl;rw[e1,x9 (n:=1*2^n) (by rw[I]at o;unfold I64;omega),x9 (by rw[I]at o;unfold I64;omega),I];omega
 have b2:0<=(ld2 (n:Nat) v).1∧(ld2 (n:Nat) v).1<=63:=by
  have:=qvi (2^(n:Int).toNat-1) (ld1 v).2;rw[<- qxu]at this;exact⟨this.1,Int.le_trans this.2 o.1⟩
 have b3:0<=(ld3 (n:Nat) v).1∧(ld3 (n:Nat) v).1<=63:=by
  have:=qvi (2^(n:Int).toNat-1) (ld2 (n:Nat) v).2;rw[<- qxu]at this;exact⟨this.1,Int.le_trans this.2 o.1⟩
 refine qk (SldA (uKey (s:Nat)) v s n) (λi=>2-i.val) ⟨0,by omega⟩ ?_ (λi=> ?_)
 ·exact et6 @SldA.eq_1 @SldO.eq_1 @rdO.eq_1 @mkO.eq_1 @flr @jAp
 obtain⟨i,hi⟩:=i;obtain rfl|rfl|rfl:i=0∨i=1∨i=2:=by omega
 ·refine eo5 @SldA.eq_1 @SldO.eq_1 @rdO.eq_1 @mkO.eq_1 @jAp ?_;refine qa2 ?_;refine ez ?_;refine eo1 @cN ?_;refine clO [2] F179 (z) ?_ (hfit:=by first|exact⟨qd,trivial⟩|exact⟨qd,qd,trivial⟩|(refine ev3 @ql.eq_1 @qu.eq_1 @qr.eq_1 ?_;try exact⟨⟩))
  refine ez ?_;refine qk (SldB (uKey (s:Nat)) v s n) (λj=>n-j.val) ⟨0,jAi _⟩ ?_ (λj=> ?_)
  ·exact et6 @SldB.eq_1 @SldO.eq_1 @rdO.eq_1 @mkO.eq_1 @q2x @jAp
  obtain⟨j,F⟩:=j;refine eo4 @SldB.eq_1 @SldO.eq_1 @rdO.eq_1 @mkO.eq_1 ?_;refine xp _ (λh=> ?_) (λh=> ?_)
  ·have e:j<n:=by simpa using h
   have G:=xnu b2.1 (Int.le_trans b2.2 (by omega)) j (by omega);have hw:=qg (show j<9223372036854775807 by omega);have E:=q8f (N:=(ld2 (n:Nat) v|>.1).toNat) e;have l:=q8e (n:=n) (N:=(ld2 (n:Nat) v|>.1).toNat) F;simp only[jA6,G,jCo,Nat.zero_add,qoy,E,l,jAm,jBp,vw,go_sem,simprocAttr]
   (repeat(with_reducible refine ob ?_))
   refine⟨⟨j+1,e⟩,?_,by dsimp only;omega⟩;exact et5 @SldB.eq_1 @SldO.eq_1 @rdO.eq_1 @mkO.eq_1 @hw
  ·have e:j=n:=by simp at h;omega
   subst e;refine ez ?_;refine⟨⟨1,by omega⟩,?_,by dsimp only;omega⟩;exact et6 @SldA.eq_1 @SldO.eq_1 @rdO.eq_1 @mkO.eq_1 @q8d (show IntKind.i64.wrap 1=1 by decide)
 ·refine eo4 @SldA.eq_1 @SldO.eq_1 @rdO.eq_1 @mkO.eq_1 ?_;refine qa2 ?_;refine ez ?_;refine eo1 @cN ?_;refine clO [2] F179 (u) ?_ (hfit:=by first|exact⟨qd,trivial⟩|exact⟨qd,qd,trivial⟩|(refine ev3 @ql.eq_1 @qu.eq_1 @qr.eq_1 ?_;try exact⟨⟩))
  refine ez ?_;refine qk (SldC (uKey (s:Nat)) v s n) (λj=>n-j.val) ⟨0,jAi _⟩ ?_ (λj=> ?_)
  ·exact et6 @SldC.eq_1 @SldO.eq_1 @rdO.eq_1 @mkO.eq_1 @q2x @jAp
  obtain⟨j,F⟩:=j;refine eo4 @SldC.eq_1 @SldO.eq_1 @rdO.eq_1 @mkO.eq_1 ?_;refine xp _ (λh=> ?_) (λh=> ?_)
  ·have e:j<n:=by simpa using h
   have G:=xnu b3.1 (Int.le_trans b3.2 (by omega)) j (by omega);have hw:=qg (show j<9223372036854775807 by omega);have E:=q8f (N:=(ld3 (n:Nat) v|>.1).toNat) e;have l:=q8e (n:=n) (N:=(ld3 (n:Nat) v|>.1).toNat) F;simp only[jA6,G,jCo,Nat.zero_add,qoy,E,l,jAm,jBp,vw,go_sem,simprocAttr]
   (repeat(with_reducible refine ob ?_))
   refine⟨⟨j+1,e⟩,?_,by dsimp only;omega⟩;exact et5 @SldC.eq_1 @SldO.eq_1 @rdO.eq_1 @mkO.eq_1 @hw
  ·have e:j=n:=by simp at h;omega
   subst e;refine ez ?_;refine⟨⟨2,by omega⟩,?_,by dsimp only;omega⟩;exact et6 @SldA.eq_1 @SldO.eq_1 @rdO.eq_1 @mkO.eq_1 @q8d (show IntKind.i64.wrap 2=2 by decide)
 ·refine eo4 @SldA.eq_1 @SldO.eq_1 @rdO.eq_1 @mkO.eq_1 ?_;refine no_ ?_;refine ez ?_;have Z:(wd n (ld2 n v).1.toNat).length=n:=vw _ _;have Y:(wd n (ld3 n v).1.toNat).length=n:=vw _ _;have hr:ql (q5o n s ((ld1 v).1,(ld2 n v).1,(ld3 n v).1))= [.int .i64 s,.int .i64 (ld1 v).1,.sl 1 ((wd n (ld2 n v).1.toNat).map encB),.sl 1 ((wd n (ld3 n v).1.toNat).map encB)]:=rfl;rw[hr];generalize wd n (ld2 n v).1.toNat=A at Z⊢;generalize wd n (ld3 n v).1.toNat=B at Y⊢;refine qkv 3 1 (A.map encB) ?_ (qd9 _) (qiq _) (qir _) (D.okWR_noPtr (qae _));simp only[qqm,Fr.mapS,List.map_cons,List.map_nil,AObj.mapS,qxs,List.set_cons_zero,List.set_cons_succ];simp only[jAm,Z,qn0 _ _ _ _ _ (vt _),go_sem,simprocAttr];refine qkv 4 1 (B.map encB) ?_ (qd9 _) (qiq _) (qir _) (D.okWR_noPtr (qae _));simp only[qqm,Fr.mapS,List.map_cons,List.map_nil,AObj.mapS,List.set_cons_zero,List.set_cons_succ,qn0 _ _ _ _ _ (qae _)];simp only[jAm,Y,qn0 _ _ _ _ _ (vt _),qn0 _ _ _ _ _ (qae _),go_sem,simprocAttr];refine pu ?_;refine eo ?_;refine clO [2] F180 (U) ?_ (hfit:=by first|exact⟨qd,trivial⟩|exact⟨qd,qd,trivial⟩|(refine ev3 @ql.eq_1 @qu.eq_1 @qr.eq_1 ?_;try exact⟨⟩))
  refine eo ?_;exact et
def qye (n:Int) (k v:List UInt8):Ue×Bool:=match qja k with
 |some s=>(q5o n (s:Nat) (ldRd n v).1,rEnd (ldRd n v).2==0)
 |none=>(⟨0,0,[],[]⟩,false)
theorem xg0 (k:List UInt8) (hk:pre uPfx k=true) (hkl:k.length<=1000) (v:List UInt8) (hv:v.length<=1000000000) (n:Nat) (h1:1<=n) (h6:n<=6):
  qh prog 93 [.d (.agg [.str k,.sl 1 (qe v)]),.d (.int .i64 (n:Nat))] [] (.tup [.d (.agg (ql (qye (n:Nat) k v).1)),.d (.bool (qye (n:Nat) k v).2)]) []:=by
 unfold qye;cases hs:qja k with
 |some s=>
  obtain⟨q1,rfl⟩:=q5p hs;exact xmp s q1 v hv n h1 h6
 |none=>
  have l:=xgz k [117,47] hk;have h:=xgy (k.drop 2) (by rw[jAq];omega);have i: ∀s:Int,0<=s->s<=32->(uKey s==k)=false:=by
   intro s h0 h32;rw[qja,jCj]at hs;have:=hs s.toNat (by simp;omega);rw[show((s.toNat:Nat):Int)=s by omega]at this;simpa using this
  have m:q54 (k.drop 2)= .niliface∨ ∃t,q54 (k.drop 2)= .iface t .any:=by
   unfold q54;cases Lib.atoiAll (k.drop 2)with
   |ok v=>exact .inl rfl
   | _=>exact .inr ⟨_,rfl⟩
  generalize xmn (k.drop 2)=a at h;generalize q54 (k.drop 2)=e at h m;refine F93m.goT ?_;refine eo ?_;first|refine cl F176 (l) ?_|refine clF F176 (l) (λ_=>by exact et3 @ql.eq_1 @qu.eq_1 @qr.eq_1) ?_
  simp only[List.length_cons,List.length_nil,go_sem,simprocAttr];rcases m with rfl|⟨t,rfl⟩
  ·(repeat(with_reducible refine ob ?_));first|refine cl F175 (h) ?_|refine clF F175 (h) (λ_=>by exact et3 @ql.eq_1 @qu.eq_1 @qr.eq_1) ?_
   by_cases c1:a<0
   ·refine ez1 (decide_eq_true c1) ?_;refine qei (.str []) rfl ?_;refine eo ?_;refine qa2 ?_;exact et2 @ql.eq_1 @List.map_nil.{0,0}
   by_cases c2:a>32
   ·refine ez2 (decide_eq_false c1) (decide_eq_true c2) ?_;refine qei (.str []) rfl ?_;refine eo ?_;refine qa2 ?_;exact et2 @ql.eq_1 @List.map_nil.{0,0}
   ·refine eo2 (decide_eq_false c1) (decide_eq_false c2) ?_;first|refine cl F79 (qj1 a (by omega) (by omega)) ?_|refine clF F79 (qj1 a (by omega) (by omega)) (λ_=>by exact et3 @ql.eq_1 @qu.eq_1 @qr.eq_1) ?_
    refine eo1 (i a (by omega) (by omega)) ?_;refine qa2 ?_;exact et2 @ql.eq_1 @List.map_nil.{0,0}
  ·(repeat(with_reducible refine ob ?_));first|refine cl F175 (h) ?_|refine clF F175 (h) (λ_=>by exact et3 @ql.eq_1 @qu.eq_1 @qr.eq_1) ?_
   refine ez ?_;refine qei (.str []) rfl ?_;refine eo ?_;refine qa2 ?_;exact et2 @ql.eq_1 @List.map_nil.{0,0}
def d32:=cut prog f32 news
@[go_sem] def E32:=qm d32
def F32:=fnC d32 follows func32
theorem xmq {m:Cont} {p:List UInt8} {e:En} (h:e∈qa9 m p):pre p e.1=true∧ ∃x∈m.l,enOf x=e:=by
 rw[qa9,(ki _).mem_iff,preL,jAo]at h;obtain⟨y,hy,rfl⟩:=h;obtain⟨h1,h2⟩:=jBs.1 hy;exact⟨h2,y,h1,rfl⟩
def SuLd (s:Sto) (l:List En) (r:Nat) (x:Nat×List Ue):St:=
 ⟨[(1,true,.d (.int .i64 r)),(4,true,.d (.ptr 2 0)),(6,true,.d (.ptr 3 0)),(22,true,.d (.sl 2 (l.map j0))),(23,true,.d (.int .i64 l.length)),(24,true,.d (.int .i64 (x.1:Nat)))],
  [stoO s 1,mapO s.m,.row [.d (.int .i64 0),.d .nilsl],.row [.d (.int .i64 r),.own 0 4 (x.2.map ql)]],[0],1⟩
theorem xg1 (n:Nat) (h1:1<=n) (h6:n<=6):qh prog 43 [.d (.int .i64 (n:Nat))] [] (.tup [.d (.agg [.int .i64 (n:Nat),.nilsl]),.d (.int .i64 0)]) []:=by
 have c1:(decide ((n:Int)<1)||decide ((n:Int)>6))=false:=by simp;omega
 refine F43.goT ?_;refine eo1 @c1 ?_;refine no_ ?_;exact et
theorem xbl {r:Int} {l:List En} {i:Nat} (hi:i<l.length):qlp r (l.drop i)=(match ldEn r l[i]with
  |none=>none
  |some x=>(qlp r (l.drop (i+1))).map (x:: ·)):=by
 rw[jBn hi,qlp];try(cases ldEn r l[i]<;>rfl)
theorem xmr (n:Nat) (e:En):ldEn (n:Nat) e=if(qye (n:Nat) e.1 e.2).2=true then some (qye (n:Nat) e.1 e.2).1 else none:=by
 unfold ldEn qye;cases qja e.1 with
 |none=>rfl
 |some s=>simp only[xlv,beq_iff_eq]
theorem xms {n:Nat} (h:n<=6) (k v:List UInt8):(qye (n:Nat) k v).1.Sm:=by
 unfold qye;cases qja k with
 |none=>exact⟨by simp,by simp⟩
 |some s=>exact⟨by simp only[q5o,vw,jA6];omega,by simp only[q5o,vw,jA6];omega⟩
theorem xg2 (s:Sto) (r:Int) (hm:s.m.Ok) (hl:s.m.l.length<=1000) (Z: ∀x∈s.m.l,x.2.1.length<=1000∧x.2.2.length<=1000000):
  qh prog 32 [.d (.ptr 0 0),.d (.int .i64 r)] [stoO s 1,mapO s.m] (.tup [.d (.agg (qu (wv s.m r).1)),.d (.int .i64 (wv s.m r).2)]) [stoO s 1,mapO s.m]:=by
 have J:=xeb s uPfx hm hl λx hx=>(Z x hx).2;simp only[stoO,mapO]at J;by_cases E:(decide (r<1)||decide (r>6))=true
 ·have k0:=qw7 r;have h0:qmi r=(⟨0,[]⟩,2):=by unfold qmi;rw[if_pos E]
  have hx:wv s.m r=(⟨0,[]⟩,2):=by unfold wv;rw[if_pos E]
  rw[h0]at k0;simp only[qu]at k0;refine F32.goT ?_;refine eo2 @stoO.eq_1 @mapO.eq_1 ?_;first|refine cl F43 (k0) ?_|refine clF F43 (k0) (λ_=>by exact et3 @ql.eq_1 @qu.eq_1 @qr.eq_1) ?_
  refine eo ?_;refine eo1 @hx ?_;refine qa2 ?_;exact et2 @qu.eq_1 @List.map_nil.{0,0}
 have hx:wv s.m r=ldMg r (qlp r (qa9 s.m uPfx)):=by unfold wv;rw[if_neg E]
 simp only[jA1,decide_eq_true_eq,not_or]at E;obtain⟨n,rfl⟩: ∃n:Nat,r=n:=⟨r.toNat,by omega⟩;have O:(qa9 s.m uPfx).length<=1000:=by
  have:=q0p s.m uPfx;omega
 rw[hx];clear hx;have u: ∀e∈qa9 s.m uPfx,pre uPfx e.1=true∧e.1.length<=1000∧e.2.length<=1000000:=λe he=>by
  obtain⟨G,x,hx,rfl⟩:=xmq he;exact⟨G,Z x hx⟩
 generalize qa9 s.m uPfx=L at J O u⊢;generalize v:ldMg (n:Nat) (qlp (n:Nat) L)=R;have k0:=xg1 n (by omega) (by omega);refine F32.goT ?_;refine eo2 @stoO.eq_1 @mapO.eq_1 ?_;first|refine cl F43 (k0) ?_|refine clF F43 (k0) (λ_=>by exact et3 @ql.eq_1 @qu.eq_1 @qr.eq_1) ?_
 refine eo ?_;refine eo ?_;refine no_ ?_;refine eo ?_;refine clO [0,1] F92u (J) ?_ (hfit:=by first|exact⟨qd,trivial⟩|exact⟨qd,qd,trivial⟩|(refine ev3 @ql.eq_1 @qu.eq_1 @qr.eq_1 ?_;try exact⟨⟩))
 refine ez ?_;refine qk (λx:{x:Nat×List Ue//x.1<=L.length∧x.2.length=x.1∧(∀y∈x.2,y.Sm)∧qlp (n:Nat) L=(qlp (n:Nat) (L.drop x.1)).map (x.2++ ·)}=>SuLd s L n x.val) (λx=>L.length-x.val.1) ⟨(0,[]),jAi _,rfl,λy M=>(by cases M),by simp⟩ ?_ (λx=> ?_)
 ·exact et5 @SuLd.eq_1 @stoO.eq_1 @mapO.eq_1 @jAp @List.map_nil.{0,0}
 obtain⟨⟨i,l⟩,x1,Y,F,m⟩:=x;simp only at x1 Y F m;refine eo3 @SuLd.eq_1 @stoO.eq_1 @mapO.eq_1 ?_;refine xp _ (λh=> ?_) (λh=> ?_)
 ·have o:i<L.length:=by simpa using h
  obtain⟨G,q2,q3⟩:=u _ (jAg o);have C:=xg0 (L[i]).1 G q2 (L[i]).2 (by omega) n (by omega) (by omega);rw[xbl o,xmr]at m;have p:=xms (n:=n) (by omega) (L[i]).1 (L[i]).2;generalize qye (n:Nat) (L[i]).1 (L[i]).2=y at C m p;obtain⟨y,X⟩:=y;simp only at C m p;refine eo2 (qj j0 L o) @j0.eq_1 ?_
  (repeat(with_reducible refine ob ?_));first|refine cl F93m (C) ?_|refine clF F93m (C) (λ_=>by exact et3 @ql.eq_1 @qu.eq_1 @qr.eq_1) ?_
  refine ez ?_;refine⟨⟨rfl,rfl⟩,?_⟩;have hwi:=qg (show i<9223372036854775807 by omega);refine xp _ (λq=> ?_) (λq=> ?_)
  ·have hn:X=false:=by simpa using q
   subst hn;simp only[jAw,if_false,Option.map_none]at m;rw[m]at v;have hR2:R=(⟨0,[]⟩,4):=v.symm;exact et3 @hR2 @qu.eq_1 @List.map_nil.{0,0}
  ·have M:X=true:=by simpa using q
   subst M;simp only[if_true,jFj]at m;refine eo1 @ql.eq_1 ?_;refine⟨⟨(i+1,l++ [y]),o,by simp[Y],λz t=> ?_,?_⟩,?_,by dsimp only;omega⟩
   ·rcases jAt.1 t with t|t
    ·exact F z t
    ·simp at t;subst t;exact p
   ·rw[m];congr 1;funext z;simp
   ·exact et8 @SuLd.eq_1 @stoO.eq_1 @mapO.eq_1 @jA2.{0,0} @List.map_cons.{0,0} @List.map_nil.{0,0} @ql.eq_1 @hwi
 ·have U:i=L.length:=by
   have:L.length<=i:=by simpa using h
   omega
  subst U;rw[jC0,qlp,Option.map_some,jAu]at m;rw[m]at v;have I:=ye ⟨(n:Nat),l⟩ ⟨by simp only;omega,F⟩;simp only[qu]at I;refine eo ?_;first|refine cl F69 (I) ?_|refine clF F69 (I) (λ_=>by exact et3 @ql.eq_1 @qu.eq_1 @qr.eq_1) ?_
  refine ez ?_;refine xp _ (λq=> ?_) (λq=> ?_)
  ·have hm2:R=(⟨0,[]⟩,4):=by rw[<- v];unfold ldMg;exact if_neg (by simpa using q)
   exact et3 @qu.eq_1 @hm2 @List.map_nil.{0,0}
  ·have hm2:R=(⟨(n:Nat),l⟩,0):=by rw[<- v];unfold ldMg;exact if_pos (by simpa using q)
   exact et2 @qu.eq_1 @hm2
attribute [-go_sem] qfc
def d47o:=cut prog f47 news [18,35] [7] true
@[go_sem] def E47o:=qm d47o
def F47o:=fnC d47o follows func47
def p3n (p:Nat×Nat×Nat):List UInt8:=jp p.1 p.2.1 p.2.2
def p3k (p:Nat×Nat×Nat):Pr:=⟨p.1,p.2.1,p.2.2⟩
def ldQs (m:Cont) (l:List (Nat×Nat×Nat)):MapM Pr Qu:=l.foldl (λq p=>q.put (p3k p) (qde m (p3n p)).1) ⟨[],0⟩
def qyf (d:List UInt8) (n ss:Nat):Option Brk:=match qg7 d with
 |none=>none
 |some s=>if(za n ss).any (λp=>decide ((qde s.m (p3n p)).2≠0))=true then none else if(wv s.m n).2≠0 then none else if(wv s.m n).1.ents.any (λe=>decide (e.sess>ss))=true then none
  else some ⟨n,ss,s,ldQs s.m (za n ss),(wv s.m n).1,[],⟨[],0⟩⟩
def bOpP:Option Brk->D
 |some _=> .ptr 0 0
 |none=> .nilptr
def bOpE:Option Brk->Int
 |some _=>0
 |none=>4
def bOpO:Option Brk->List AObj
 |some b=>brO b
 |none=> [.none,.none,.none,.none,.none]
def qSeq (T:Nat->Sto) (L:List (Nat×Nat×Nat)):Nat->MapM Pr Qu
 |0=>⟨[],0⟩
 |k+1=>match L[k]?with
  |some p=>(qSeq T L k).put (p3k p) (qde (T k).m (p3n p)).1
  |none=>qSeq T L k
theorem q2y {T:Nat->Sto} {L:List (Nat×Nat×Nat)} {s:Sto}: ∀k,k<=L.length->(∀i,i<k->T i=s) ->qSeq T L k=ldQs s.m (L.take k)
 |0,_,_=>rfl
 |k+1,hk,h=>by
  have ih:=q2y (T:=T) (L:=L) (s:=s) k (by omega) λi hi=>h i (by omega);rw[qSeq,jAa (by omega),jAk (by omega),ldQs,jCm,<- ldQs,<- ih,h k (by omega)];rfl
theorem qvj {α:Type} (f:α->Bool): ∀(L:List α),∃k,k<=L.length∧(∀i (h:i<L.length),i<k->f L[i]=false)∧ ∀h:k<L.length,f L[k]=true
 | []=>⟨0,by simp,by simp,by simp⟩
 |x::L=>by
  by_cases d:f x=true
  ·exact⟨0,by simp,by omega,λ_=>d⟩
  ·obtain⟨k,h1,h2,h3⟩:=qvj f L;refine⟨k+1,by simpa using h1,λi h hi=> ?_,λh=> ?_⟩
   ·cases i with
    |zero=>simpa using d
    |succ i=>exact h2 i (by simpa using h) (by omega)
   ·exact h3 (by simpa using h)
def sBad:Sto:=⟨[],0,⟨[(0,[117,47],[])],1⟩⟩
theorem xg3:sBad.m.Good:=by
 refine⟨⟨by simp[sBad],by simp[sBad],by simp[sBad]⟩,by simp[sBad],λx d=> ?_⟩;simp[sBad]at d;subst d;exact⟨by decide,by decide,by decide⟩
theorem xg4 (n:Nat) (h1:1<=n) (h6:n<=6):(wv sBad.m n).2≠0:=by
 have hl:qa9 sBad.m uPfx= [([117,47],[])]:=by
  have:=ki (preL uPfx sBad.m.l);exact List.perm_singleton.1 this
 have hk:qja [117,47]=none:=by decide
 unfold wv;rw[if_neg (by simp;omega),hl];simp[qlp,ldEn,hk,ldMg]
theorem xto {m:Mg} (h:MW m):m.ents.length<=32:=by
 have:=qh5 h.inc (by intro x d;obtain⟨e,i,rfl⟩:=jAo.1 d;exact(h.en e i).s1) (by intro x d;obtain⟨e,i,rfl⟩:=jAo.1 d;exact(h.en e i).s32);rwa [jAm]at this
theorem xg5 {m:Cont} {r:Int} (h:(wv m r).2=0):MW (wv m r).1∧(wv m r).1.roles=r:=by
 revert h;unfold wv;split
 ·intro h;cases h
 ·cases qlp r (qa9 m uPfx)with
  |none=>intro h;cases h
  |some l=>
   unfold ldMg;simp only;split
   ·rename_i hv;exact λ_=>⟨y6.1 hv,rfl⟩
   ·intro h;cases h
def fr0O (n ss:Nat):Fr:= [(1,true,.d (.int .i64 (n:Nat))),(2,true,.d (.int .i64 (ss:Nat))),(6,true,.d (.ptr 6 0)),(7,true,.d (.ptr 7 0)),(8,true,.d (.ptr 5 0))]
def SopB (n ss:Nat) (s:Sto) (q:MapM Pr Qu):St:=
 ⟨fr0O n ss,[.row [.d (.int .i64 (n:Nat)),.d (.int .i64 (ss:Nat)),.d (.ptr 1 0),.d (.map 3),.d (.int .i64 (n:Nat)),.d (.sl 4 []),.own 0 10 [],.d (.map 4)],stoO s 2,mapO s.m,qmO q,.map [] 0,.row [.d (.ptr 0 0)],.row [.d .nilptr],.row [.d (.int .i64 0)],.row [.d (.sl 1 []),.d (.int .i64 0),.d (.map 9)],.map [] 0,.row [.d (.ptr 0 0)]],[0],1⟩
def SopC (n ss:Nat) (s:Sto) (q:MapM Pr Qu) (m:Mg) (i:Nat):St:=
 ⟨[(2,true,.d (.int .i64 (ss:Nat))),(6,true,.d (.ptr 6 0)),(7,true,.d (.ptr 7 0)),(8,true,.d (.ptr 5 0)),(73,true,.d (.sl 4 (m.ents.map ql))),(74,true,.d (.int .i64 m.ents.length)),(75,true,.d (.int .i64 (i:Nat)))],
  [.row (qp ⟨n,ss,s,q,m,[],⟨[],0⟩⟩),stoO s 2,mapO s.m,qmO q,.map [] 0,.row [.d (.ptr 0 0)],.row [.d .nilptr],.row [.d (.int .i64 0)]],[0],1⟩
theorem q8g (l:List UInt8) (n ss:Nat) (hp:posB (n:Nat) (ss:Nat)=true) (hb:l.length<=1000000000):
  qh prog 47 [.d (.sl 1 (qe l)),.d (.int .i64 (n:Nat)),.d (.int .i64 (ss:Nat))] [] (.tup [.d (bOpP (qyf l n ss)),.d (.int .i64 (bOpE (qyf l n ss)))]) (bOpO (qyf l n ss)):=by
 obtain⟨h1,h2,h3,h4⟩:=qu5 hp;have k0:=qx3 n ss hp;simp only[brO,zl,qp,stoO,mapO,qmO,tmO,List.map_nil,newS,qch,xa]at k0;generalize z:qyf l n ss=R;unfold qyf at z;cases hs:qg7 l with
 |none=>
  rw[hs]at z;subst z;have ks:=xpm hb hs;refine F47o.goT ?_;refine ez ?_;refine clT [2,3,4,5,6] F45n k0 ?_;refine eo ?_;refine no_ ?_;refine ez ?_;refine clO [8,9] F105 ks ?_;refine eo ?_;refine qa2 ?_;refine ez ?_;refine pu ?_;simp only[bOpP,bOpE,bOpO,go_sem,simprocAttr]
 |some s=>
  rw[hs]at z;have hsg:=(qun hs).1;have ks:=xkz hb hs;simp only[stoO,mapO]at ks;simp only at z;obtain⟨f,f1,f2,f3⟩:=qvj (λp=>decide ((qde s.m (p3n p)).2≠0)) (za n ss);generalize hL:za n ss=L at z f1 f2 f3;have hmem: ∀p∈L,p.1<100∧p.2.1<10∧p.2.2<10:=λp hp=>by
   rw[<- hL]at hp;have:=qm4.1 hp;omega
  have hT: ∃T:Nat->Sto,T 0=s∧(∀k,(T k).m.Good)∧(∀k,k<L.length->T (k+1)=T k∨(qde (T k).m (p3n (L.getD k default))).2≠0)∧(∀k,k<L.length->(qde (T k).m (p3n (L.getD k default))).2≠0->R=none)∧
    ((∀i,i<=L.length->T i=s)∧R=(if(wv s.m n).2≠0 then none else if(wv s.m n).1.ents.any (λe=>decide (e.sess>ss))=true then none
  else some ⟨n,ss,s,ldQs s.m L,(wv s.m n).1,[],⟨[],0⟩⟩)∨(wv (T L.length).m n).2≠0∧R=none):=by
   by_cases hf:f<L.length
   ·have u:=f3 hf;have o:R=none:=by
     rw[<- z,if_pos];exact jB3.2 ⟨L[f],jAg hf,u⟩
    refine⟨λk=>if k<=f then s else sBad,by simp,λk=> ?_,λk hk=> ?_,λ_ _ _=>o,.inr ⟨?_,o⟩⟩
    ·dsimp only;split
     ·exact hsg
     ·exact xg3
    ·by_cases h:k=f
     ·subst h;right;simp only[jAh,if_true];rw[jA0,jAa hf];simpa using u
     ·left;by_cases h2:k<f
      ·simp only[if_pos (show k+1<=f from h2),if_pos (show k<=f by omega)]
      ·simp only[if_neg (show¬k+1<=f by omega),if_neg (show¬k<=f by omega)]
    ·simp only[if_neg (show¬L.length<=f by omega)];exact xg4 n (by omega) (by omega)
   ·have hall:L.any (λp=>decide ((qde s.m (p3n p)).2≠0))=false:=by
     rw[jD3];intro p hp;obtain⟨i,hi,rfl⟩:=jCd hp;simpa using f2 i hi (by omega)
    refine⟨λ_=>s,rfl,λ_=>hsg,λ_ _=> .inl rfl,λk hk u=> ?_,.inl ⟨λ_ _=>rfl,?_⟩⟩
    ·exfalso;have:=f2 k hk (by omega);rw[jA0,jAa hk]at u;simp at this u;exact u this
    ·rw[<- z,if_neg (by rw[hall];simp)]
  obtain⟨T,t1,Y,F,I,G⟩:=hT;have X:=qt1 n ss (by omega) (by omega);rw[hL]at X;clear z f1 f2 f3;refine F47o.goT ?_;refine ez ?_;refine clT [2,3,4,5,6] F45n k0 ?_;refine eo ?_;refine no_ ?_;refine ez ?_;refine clO [8,9] F105 ks ?_;refine eo ?_;refine no_ ?_;refine ez ?_;refine qbc [6,7,0,8,9,3,4,5,2,1] [.row [.d (.int .i64 (n:Nat)),.d (.int .i64 (ss:Nat)),.d (.ptr 1 0),.d (.map 3),.d (.int .i64 (n:Nat)),.d (.sl 4 []),.own 80 10 [],.d (.map 4)],stoO s 2,mapO s.m,.map [] 0,.map [] 0,.row [.d (.ptr 0 0)],.row [.d .nilptr],.row [.d (.int .i64 0)],.row [.d (.sl 1 []),.d (.int .i64 0),.d (.map 9)],.map [] 0] ?_ (by exact et2 @stoO.eq_1 @mapO.eq_1) (hp:=rfl);refine pu ?_;have kp:=xl4 ⟨n,ss,s,⟨[],0⟩,⟨n,[]⟩,[],⟨[],0⟩⟩;simp only[brO,qp,stoO,mapO,qmO,tmO,List.map_nil,List.cons_append,List.nil_append]at kp;refine ez2 @stoO.eq_1 @mapO.eq_1 ?_;refine clT [0,1,2,3,4,10] F64 kp ?_;refine ez ?_;refine xdb 130 10 0 11 [(n:Nat),(ss:Nat)] (L.map q0l) (λk=>SopB n ss (T k) (qSeq T L k)) (fr0O n ss) X ?_ (λk=>rfl) (λk=>⟨_,rfl⟩) (λk vs hk=> ?_) ?_ (λvs hv=> ?_)
  ·simp only[SopB,fr0O,t1,stoO,mapO,qmO,qSeq,List.map_nil,go_sem,simprocAttr]
  ·rw[jAn,jAb]at hk;obtain⟨p,J,rfl⟩:=hk;have hkl:k<L.length:=(jAd.1 J).1;have E:L.getD k default=p:=by rw[jA0,J];rfl
   have hq1:qSeq T L (k+1)=(qSeq T L k).put (p3k p) (qde (T k).m (p3n p)).1:=by rw[qSeq,J]
   have F:=F k hkl;have I:=I k hkl;rw[E]at F I;obtain⟨m1,m2,m3⟩:=hmem p (jAe J);have kn:=xgf p.1 p.2.1 p.2.2 m1 m2 m3;have kq:=xlc (T k) (p3n p) (λx u=>by have:=(Y k).small x u;unfold kvOk at this;omega) (by simp[p3n,qit]);rw[hq1];unfold p3n at kq F I⊢;unfold p3k;generalize T k=t at kq F I⊢;generalize T (k+1)=t' at F⊢;generalize qde t.m (jp p.1 p.2.1 p.2.2)=Q at kq F I⊢;generalize qSeq T L k=q at⊢;obtain⟨x,e⟩:=Q;simp only[encQ,stoO,mapO]at kq;simp only at F I⊢;simp only[SopB,fr0O,q0l,ji,stoO,mapO,qmO,go_sem,simprocAttr]
   (repeat(with_reducible refine ob ?_));first|refine cl F107 (kn) ?_|refine clF F107 (kn) (λ_=>by exact et2 @qf.eq_1 @xk.eq_1) ?_
   refine eo ?_;refine clO [1,2] xsx (kq) ?_ (hfit:=by first|exact⟨qd,trivial⟩|exact⟨qd,qd,trivial⟩|(refine ev2 @qf.eq_1 @xk.eq_1 ?_;try exact⟨⟩))
   refine ez ?_;by_cases v:e=0
   ·subst v;have ht:t'=t:=F.resolve_right (by simp);subst ht
    (repeat(with_reducible refine ob ?_));refine no_ ?_
    simp only[q5r _ _ _ _ x,go_sem,simprocAttr];show Turn 11 _ _;refine .weak ?_ (.refl _);exact et
   ·have hb2:(e !=0)=true:=by simpa using v
    have o:=I v;subst o;refine eo1 @hb2 ?_;refine qa2 ?_;refine ez ?_;refine pu ?_;refine ez ?_;refine⟨_,.refl _,rfl,?_⟩;simp only[bOpP,bOpE,bOpO,go_sem,simprocAttr]
  ·show AWp _ _ _ _ _;simp only[jAm];have Y:=Y L.length;have hq:(∀i,i<=L.length->T i=s) ->qSeq T L L.length=ldQs s.m L:=λh=>by
    rw[q2y L.length (jAh _) (λi hi=>h i (by omega)),jAs]
   have U:(∀i,i<=L.length->T i=s) ->T L.length=s:=λh=>h _ (jAh _);generalize T L.length=t at Y G U⊢;generalize qSeq T L L.length=q at hq⊢;have hkv:=Y.small;have hfew:=Y.few;have ku:=xg2 t n Y.ok (by omega) (λx u=>by have:=hkv x u;unfold kvOk at this;omega);have Z:(wv t.m n).2≠0->R=none:=λh=>by
    rcases G with⟨G,z⟩|⟨_,z⟩
    ·rw[U G]at h;rw[z,if_pos h]
    ·exact z
   have C:(wv t.m n).2=0->R=if(wv t.m n).1.ents.any (λe=>decide (e.sess>ss))=true then none else some ⟨n,ss,t,q,(wv t.m n).1,[],⟨[],0⟩⟩:=λh=>by
    rcases G with⟨G,z⟩|⟨u,_⟩
    ·rw[hq G,U G]at*;rw[z,if_neg (by simp[h])]
    ·exact absurd h u
   have hF:(wv t.m n).2=0->(wv t.m n).1.ents.length<=32:=λh=>xto (xg5 h).1;clear G hq U F I t1;generalize wv t.m n=M at ku Z C hF⊢;obtain⟨m,e⟩:=M;simp only[qu,stoO,mapO]at ku Z C;refine eo5 @SopB.eq_1 @fr0O.eq_1 @stoO.eq_1 @mapO.eq_1 @qmO.eq_1 ?_;refine clO [1,2] F32 (ku) ?_ (hfit:=by first|exact⟨qd,trivial⟩|exact⟨qd,qd,trivial⟩|(refine ev2 @qf.eq_1 @xk.eq_1 ?_;try exact⟨⟩))
   refine ez ?_;by_cases v:e=0
   ·subst v;have C:=C rfl;have hF:m.ents.length<=32:=hF rfl
    (repeat(with_reducible refine ob ?_));refine no_ ?_
    refine ez1 @jAm.{0,0} ?_;refine qk (λi:{i:Nat//i<=m.ents.length∧ ∀e∈m.ents.take i,¬e.sess>ss}=>SopC n ss t q m i.val) (λi=>m.ents.length-i.val) ⟨0,jAi _,by simp⟩ ?_ (λi=> ?_)
    ·exact et7 @SopC.eq_1 @qp.eq_1 @stoO.eq_1 @mapO.eq_1 @qmO.eq_1 @List.map_nil.{0,0} @jAp
    obtain⟨i,hi,u⟩:=i;dsimp only;refine ez6 @SopC.eq_1 @qp.eq_1 @stoO.eq_1 @mapO.eq_1 @qmO.eq_1 @List.map_nil.{0,0} ?_;refine xp _ (λhc=> ?_) (λhc=> ?_)
    ·have O:i<m.ents.length:=by simpa using hc
     refine eo2 (qj ql m.ents O) @ql.eq_1 ?_;refine xp _ (λh2=> ?_) (λh2=> ?_)
     ·have o:R=none:=by
       rw[C,if_pos];exact jB3.2 ⟨m.ents[i],jAg O,by simpa using h2⟩
      subst o;refine ez ?_;refine pu ?_;simp only[bOpP,bOpE,bOpO,go_sem,simprocAttr]
     ·refine ez ?_;refine⟨⟨i+1,O,λe E=> ?_⟩,?_,by dsimp only;omega⟩
      ·rw[jAk O]at E;rcases jAt.1 E with E|E
       ·exact u e E
       ·simp only[jAv,jBl,or_false]at E;subst E;simpa using h2
      ·dsimp only;exact et7 @SopC.eq_1 @qp.eq_1 @stoO.eq_1 @mapO.eq_1 @qmO.eq_1 @List.map_nil.{0,0} (qg (show i<9223372036854775807 by omega))
    ·have hie:i=m.ents.length:=by simp at hc;omega
     subst hie;rw[jAs]at u;have hRs:R=some ⟨n,ss,t,q,m,[],⟨[],0⟩⟩:=by
      rw[C,if_neg];intro h;obtain⟨e,E,h⟩:=jB3.1 h;exact u e E (by simpa using h)
     subst hRs;refine ez ?_;refine pu ?_;simp only[bOpP,bOpE,bOpO,brO,qp,stoO,mapO,qmO,tmO,List.map_nil,go_sem,simprocAttr]
   ·have hb2:(e !=0)=true:=by simpa using v
    have o:=Z v;subst o;refine eo1 @hb2 ?_;refine qa2 ?_;refine ez ?_;refine pu ?_;simp only[bOpP,bOpE,bOpO,go_sem,simprocAttr]
  ·obtain⟨p,_,rfl⟩:=jAo.1 hv;exact⟨rfl,rfl⟩
end Go.Proofs.YtkcdbcbpbolgkaaGreatDoor
namespace Go.Proofs.YtkcdbcbpbolgkaaGreatDoor
open Go.Abs
structure Snap (n ss:Nat) (es:List En) (Q:Pr->Qu) (M:Mg):Prop where
 rq: ∀x,PrOk n ss x-> ∀m:Cont,m.Ok->zt m=es->Rep m x.name (Q x)
 rm: ∀m:Cont,m.Ok->zt m=es->URep m M
 qv: ∀x,PrOk n ss x->wy (Q x)=true
 qw: ∀x,PrOk n ss x->(Q x).W
 qn: ∀x,¬PrOk n ss x->Q x=noQ
 mw:MW M
 mr:M.roles=n
 ms: ∀e∈M.ents,e.sess<=ss
theorem qyg {m m':Cont} (h:m.Ok) (h':m'.Ok) (he:zt m=zt m') (k:List UInt8):mGet k m=mGet k m':=by rw[<- q7l h,<- q7l h',he]
theorem BI.noQ {n ss k j:Nat} {b:Brk} (H:BI n ss k j b) {x:Pr} (hx: ¬PrOk n ss x):b.queue x=noQ:=by
 unfold Brk.queue;rw[H.kq x hx];rfl
theorem qyh {n ss k j:Nat} {b:Brk} (H:BI n ss k j b):Snap n ss (zt b.s.m) b.queue b.m:=by
 have l:=H.st.good.ok;refine⟨λx i m e h=> ?_,λm e h k hk=> ?_,λx _=>H.qv x,λx _=>H.qw x,λx i=>H.noQ i,H.mw,H.mr,H.ms⟩
 ·have o:=H.rq x i;exact⟨(qyg e l h _).trans o.1,λd hd=>(qyg e l h _).trans (o.2 d hd)⟩
 ·rw[qyg e l h];exact H.rm k hk
theorem q8h (m:Cont) (x:Pr): ∀(L:List (Nat×Nat×Nat)) (q:MapM Pr Qu),(L.foldl (λq p=>q.put (p3k p) (qde m (p3n p)).1) q).get x=if x∈L.map p3k then some (qde m x.name).1 else q.get x
 | [],q=>by simp
 |p::L,q=>by
  rw[List.foldl_cons,q8h m x L,MapM.get_put];by_cases d:x∈L.map p3k
  ·rw[if_pos d,if_pos (show x∈(p::L).map p3k from jA9 _ d)]
  ·rw[if_neg d];by_cases e:x=p3k p
   ·subst e;rw[if_pos rfl,if_pos (show p3k p∈(p::L).map p3k from jA7)];rfl
   ·rw[if_neg e,if_neg (show¬x∈(p::L).map p3k by simp only[List.map_cons,jAv,not_or];exact⟨e,d⟩)]
theorem xg6 {n ss:Nat} {x:Pr}:x∈(za n ss).map p3k↔PrOk n ss x:=by
 constructor
 ·intro h;obtain⟨p,hp,rfl⟩:=jAo.1 h;have:=qm4.1 hp;unfold p3k;exact⟨by simp only;omega,by simp only;omega,by simp only;omega,by simp only;omega,by simp only;omega,by simp only;omega,by simp only[ne_eq];omega⟩
 ·rintro⟨a1,a2,a3,a4,a5,a6,a7⟩;refine jAo.2 ⟨(x.s.toNat,x.f.toNat,x.t.toNat),qm4.2 ?_,?_⟩
  ·simp only;omega
  ·obtain⟨s,f,t⟩:=x;simp only[p3k,Pr.mk.injEq]at*;omega
def opB (n ss:Nat) (s:Sto) (M:Mg):Brk:=⟨n,ss,s,ldQs s.m (za n ss),M,[],⟨[],0⟩⟩
theorem q2z {n ss:Nat} (hn:NS n ss) {l:List UInt8} {s:Sto} {Q:Pr->Qu} {M:Mg} (hs:qg7 l=some s) (h:Snap n ss (zt s.m) Q M):
  qyf l n ss=some (opB n ss s M)∧ ∀x,(opB n ss s M).queue x=Q x:=by
 have m:=(qun hs).1.ok;have o: ∀x,PrOk n ss x->qde s.m x.name=(Q x,0):=λx d=>xli (h.qv x d) (h.qw x d) (qu7 x) (h.rq x d s.m m rfl);have hu:wv s.m n=(M,0):=by
  have:=xa9 m h.mw (h.rm s.m m rfl);rwa [h.mr]at this
 constructor
 ·unfold qyf;rw[hs];simp only;rw[if_neg,hu,if_neg (by simp),if_neg]
  ·rfl
  ·intro i;obtain⟨e,he,i⟩:=jB3.1 i;have:=h.ms e he;simp at i;omega
  ·intro i;obtain⟨p,hp,i⟩:=jB3.1 i;have:=o (p3k p) (xg6.1 (jAo.2 ⟨p,hp,rfl⟩));have e:(p3k p).name=p3n p:=rfl;rw[e]at this;rw[this]at i;simp at i
 ·intro x;unfold Brk.queue opB ldQs;simp only;rw[q8h];by_cases d:PrOk n ss x
  ·rw[if_pos (xg6.2 d),o x d];rfl
  ·rw[if_neg (λh=>d (xg6.1 h)),h.qn x d];rfl
def ix (x:Pr):Nat:=16*x.s.toNat+(4*x.f.toNat+x.t.toNat)
structure Bx (n ss:Nat) (x:Pr):Prop where
 s1:1<=x.s
 s2:x.s<=ss
 f0:0<=x.f
 f1:x.f<n
 t0:0<=x.t
 t1:x.t<n
theorem PrOk.bx {n ss:Nat} {x:Pr} (h:PrOk n ss x):Bx n ss x:=⟨h.s1,h.s2,h.f0,h.f1,h.t0,h.t1⟩
theorem xnv {n ss:Nat} (h4:n<=4) {x y:Pr} (hx:Bx n ss x) (hy:Bx n ss y) (h:ix x=ix y):x=y:=by
 obtain⟨a1,a2,a3,a4,a5,a6⟩:=hx;obtain⟨b1,b2,b3,b4,b5,b6⟩:=hy;obtain⟨x1,x2,x3⟩:=x;obtain⟨y1,y2,y3⟩:=y;unfold ix at h;simp only[Pr.mk.injEq]at*;omega
def upd (A:Nat->Int) (i:Nat) (v:Int) (j:Nat):Int:=if j=i then v else A j
structure Hy (n ss:Nat) (b:Brk) (A C:Nat->Int) (ts:List (List OpS)) (k:Nat):Prop where
 bk:Bk b.s ts
 le:k<=ts.length
 sy:b.s.synced=((yi (ts.take k)).length:Nat)
 sn: ∀j,k<=j->j<=ts.length-> ∃es Q M,eRun [] (ts.take j)=some es∧Snap n ss es Q M∧ ∀x,Bx n ss x->A (ix x)<=(Q x).acc∧C (ix x)<=(Q x).cons∧(Q x).acc<=(b.queue x).acc∧(Q x).cons<=(b.queue x).cons
 pd: ∀o∈b.p,o.p.kind=2∧PrOk n ss o.p.key∧o.p.seq<=(b.queue o.p.key).acc
theorem xtp {n ss:Nat} (hn:NS n ss):Hy n ss (zl n ss) (λ_=>0) (λ_=>0) [] 0:=by
 refine⟨xpn,jAh _,rfl,λj _ hj=>⟨[],(zl n ss).queue,(zl n ss).m,?_,?_,λx _=> ?_⟩,λo ho=>by simp[zl]at ho⟩
 ·simp[eRun]
 ·have:=qyh (qu9 hn);rwa [show(zl n ss).s.m=qch from rfl,qh2]at this
 ·have:(zl n ss).queue x=noQ:=rfl;rw[this];simp[noQ]
theorem Hy.now {n ss:Nat} {b:Brk} {A C:Nat->Int} {ts:List (List OpS)} {k:Nat} (h:Hy n ss b A C ts k) {x:Pr} (hx:Bx n ss x):A (ix x)<=(b.queue x).acc∧C (ix x)<=(b.queue x).cons:=by
 obtain⟨es,Q,M,_,_,hq⟩:=h.sn ts.length h.le (jAh _);have:=hq x hx;omega
def Com (s s':Sto):Prop:=s'=s∨ ∃l,(xh s l).2=0∧s'=(xh s l).1
theorem qvk (b:Brk) (k:Pr) (name:List UInt8) (next:Qu):Com b.s (w7 b k name next).1.s:=by
 unfold w7;split
 ·exact .inl rfl
 split
 ·exact .inl rfl
 split
 ·exact .inl rfl
 ·rename_i h;exact .inr ⟨_,by simpa using h,rfl⟩
theorem qvl (b:Brk) (next:Mg):Com b.s (qa1 b next).1.s:=by
 unfold qa1;split
 ·exact .inl rfl
 split
 ·exact .inl rfl
 split
 ·exact .inl rfl
 ·rename_i h;exact .inr ⟨_,by simpa using h,rfl⟩
theorem xmt (b:Brk) (p:Pk):Com b.s (we b p).1.s:=by
 unfold we;split
 ·exact .inl rfl
 split
 ·have d:Com b.s (qaq b p.key p.key.name p).1.s:=by
   unfold qaq;split
   ·exact qvk _ _ _ _
   ·exact .inl rfl
  unfold qjb;split
  ·exact d
  ·exact d
 split
 ·unfold qx4;split
  ·exact .inl rfl
  ·exact qvk _ _ _ _
 ·unfold qdz;split
  ·exact .inl rfl
  ·exact qvl _ _
theorem xg7 (b:Brk) (s:Int):Com b.s (yj b s).1.s:=by
 unfold yj;split
 ·exact .inl rfl
 split
 ·exact .inl rfl
 ·exact qvl _ _
theorem qyi (s:Sto) (l:List OpS):(xh s l).1.synced=s.synced:=by
 rcases qgj s l with⟨_,c2⟩|⟨_,_,_,c4⟩
 ·rw[c2]
 ·rw[c4]
theorem Hy.step {n ss k' j':Nat} {b b':Brk} {A C:Nat->Int} {ts:List (List OpS)} {k:Nat} (h:Hy n ss b A C ts k) (hg:b.s.m.Good) (H':BI n ss k' j' b') (hc:Com b.s b'.s)
  (t: ∀x,Bx n ss x->(b.queue x).acc<=(b'.queue x).acc∧(b.queue x).cons<=(b'.queue x).cons) (hp: ∀o∈b'.p,o.p.kind=2∧PrOk n ss o.p.key∧o.p.seq<=(b'.queue o.p.key).acc): ∃i,Hy n ss b' A C i k:=by
 rcases hc with e|⟨l,h0,e⟩
 ·refine⟨ts,by rw[e];exact h.bk,h.le,by rw[e];exact h.sy,λj F E=> ?_,hp⟩;obtain⟨es,Q,M,q,p,m⟩:=h.sn j F E;refine⟨es,Q,M,q,p,λx d=> ?_⟩;have:=m x d;have:=t x d;omega
 ·have z:=xfb h.bk hg h0;have u:=h.le;rw[<- e]at z;refine⟨ts++ [l],z,by rw[jAc];omega,by rw[e,qyi,h.sy,jBq u],λj F E=> ?_,hp⟩;by_cases G:j<=ts.length
  ·rw[jBq G];obtain⟨es,Q,M,q,p,m⟩:=h.sn j F G;refine⟨es,Q,M,q,p,λx d=> ?_⟩;have:=m x d;have:=t x d;omega
  ·have v:j=(ts++ [l]).length:=by simp only[jAc,jBo]at E⊢;omega
   subst v;rw[jAs];refine⟨zt b'.s.m,b'.queue,b'.m,z.run,qyh H',λx d=> ?_⟩;have:=h.now d;have:=t x d;omega
theorem xg8 {q:Qu} {p:Pk} (h:(zk q p).2=21):p.seq<=q.acc:=by
 unfold zk at h;split at h
 ·cases h
 split at h
 ·rename_i h1;simpa using h1
 split at h
 ·cases h
 split at h
 ·cases h
 ·cases h
theorem q55 {p:Pk} (h:qo p=true) (hk:p.kind=1):(qex p).1=qr7 p:=by
 unfold qex;rw[if_neg (by simp[h,hk])]
theorem Hy.recv {n ss k j:Nat} {b:Brk} {A C:Nat->Int} {ts:List (List OpS)} {k0:Nat} (hn:NS n ss) (h:Hy n ss b A C ts k0) (H:BI n ss k j b) (hk:k<=70) (p:Pk) (hw:p.W): ∃u,Hy n ss (we b p).1 A C u k0:=by
 have hc:=xmt b p;have v:=qiu hn H hk p hw;generalize we b p=R at hc v;cases v with
 |no e _ _=>exact⟨ts,h⟩
 |dup h1 hx ho hv H'=>
  refine h.step H.st.good H' hc (λx _=>⟨jDc _,jDc _⟩) λo d=> ?_;simp only[qfb,jAt,jAv,jBl,or_false]at d;rcases d with d|rfl
  ·exact h.pd o d
  ·simp only[q55 hv h1];exact⟨rfl,hx,xg8 (q:=b.queue p.key) (p:=p) ho⟩
 |data s' c h1 hx ho hv H'=>
  have i:=qlr ho;have l: ∀x,({b with s:=s',q:=b.q.put p.key (zk (b.queue p.key) p).1,p:=b.p++ [⟨p.from_,(qex p).1⟩]}:Brk).queue x=if x=p.key then(zk (b.queue p.key) p).1 else b.queue x:=λx=>qet {b with p:=b.p++ [⟨p.from_,(qex p).1⟩]} s' p.key x _
  have m: ∀x,(b.queue x).acc<=(if x=p.key then(zk (b.queue p.key) p).1 else b.queue x).acc∧(b.queue x).cons<=(if x=p.key then(zk (b.queue p.key) p).1 else b.queue x).cons:=λx=>by
   split
   ·rename_i e;subst e;rw[i.2.2.2.2.2];simp only;have:=i.2.2.2.1;omega
   ·exact⟨jDc _,jDc _⟩
  refine h.step H.st.good H' hc (λx _=>by rw[l];exact m x) λo d=> ?_;rw[l];simp only[jAt,jAv,jBl,or_false]at d;rcases d with d|rfl
  ·have t:=h.pd o d;have h3:=m o.p.key;exact⟨t.1,t.2.1,by omega⟩
  ·have e:(qex p).1.key=p.key:=by rw[q55 hv h1];rfl
   simp only[e,if_true];rw[q55 hv h1,i.2.2.2.2.2];exact⟨rfl,hx,jDc _⟩
 |ack s' c h1 hx ho H'=>
  have i:=qj3 ho;have l: ∀x,({b with s:=s',q:=b.q.put p.key (xx (b.queue p.key) p.seq).1}:Brk).queue x=if x=p.key then(xx (b.queue p.key) p.seq).1 else b.queue x:=λx=>qet b s' p.key x _
  have m: ∀x,(b.queue x).acc<=(if x=p.key then(xx (b.queue p.key) p.seq).1 else b.queue x).acc∧(b.queue x).cons<=(if x=p.key then(xx (b.queue p.key) p.seq).1 else b.queue x).cons:=λx=>by
   split
   ·rename_i e;subst e;rw[i.2.2.2];simp only;have:=i.2.2.1;omega
   ·exact⟨jDc _,jDc _⟩
  refine h.step H.st.good H' hc (λx _=>by rw[l];exact m x) λo d=> ?_;rw[l];have t:=h.pd o d;have h3:=m o.p.key;exact⟨t.1,t.2.1,by omega⟩
 |rep s' h1 ho H'=>exact h.step H.st.good H' hc (λx _=>⟨jDc _,jDc _⟩) λo d=>h.pd o d
theorem Hy.begin {n ss k j:Nat} {b:Brk} {A C:Nat->Int} {ts:List (List OpS)} {k0:Nat} (hn:NS n ss) (h:Hy n ss b A C ts k0) (H:BI n ss k j b) (hk:k<=70) (s:Int): ∃d,Hy n ss (yj b s).1 A C d k0:=by
 have hc:=xg7 b s;rcases qgz hn H hk s with⟨e,_,l⟩|⟨s',_,_,_,l,H'⟩
 ·rw[l];exact⟨ts,h⟩
 ·rw[l]at hc⊢;exact h.step H.st.good H' hc (λx _=>⟨jDc _,jDc _⟩) λo i=>h.pd o i
theorem xg9 {s:Sto} {ts:List (List OpS)} (h:Bk s ts) (hg:s.m.Good):(∃d,Bk (qg8 s) d)∧(qg8 s).synced=((qg8 s).file.length:Nat):=by
 unfold qg8;split
 ·obtain⟨cs,h1,_⟩:=xa3 (s:=qmf s) hg;exact⟨⟨cs,h1⟩,rfl⟩
 ·exact⟨⟨ts,xpo h⟩,rfl⟩
theorem Hy.tick {n ss k j:Nat} {b:Brk} {A C A' C':Nat->Int} {ts:List (List OpS)} {k0:Nat} (h:Hy n ss b A C ts k0) (H:BI n ss k j b) (now:Int) (hA: ∀x,Bx n ss x->A' (ix x)<=(b.queue x).acc∧C' (ix x)<=(b.queue x).cons):
  ∃d k',Hy n ss (vh b now n ss) A' C' d k':=by
 obtain⟨⟨d,i⟩,h2⟩:=xg9 h.bk H.st.good;refine⟨d,d.length,i,jAh _,?_,λj hj hj'=> ?_,λo ho=>by simp[vh]at ho⟩
 ·rw[jAs,<- i.file];exact h2
 ·have:j=d.length:=by omega
  subst this;rw[jAs];refine⟨_,_,_,i.run,qyh (H.tick now),λx hx=> ?_⟩;have:=hA x hx;have e:(vh b now n ss).queue x=b.queue x:=rfl;rw[e];omega
theorem xha {n ss k j:Nat} {b:Brk} (hn:NS n ss) {ts:List (List OpS)} (d:Bk b.s ts) (H:BI n ss k j b) (K:Nat) (hK:b.s.file.length<=K):
  ∃s',qyf (b.s.file.take K) n ss=some (opB n ss s' b.m)∧ ∀x,(opB n ss s' b.m).queue x=b.queue x:=by
 obtain⟨j,s',p1,p2,e,p4,p5,p6,p7⟩:=q1o d K;have hj:j=ts.length:=by
  have:=p7 ts.length (jAh _) (by rw[jAs,<- d.file];exact hK);omega
 subst hj;rw[jAs,d.run]at e;have he:=jC7 e;have:=qyh H;rw[he]at this;exact⟨s',q2z hn p2 this⟩
theorem Hy.opens {n ss:Nat} {b:Brk} {A C:Nat->Int} {ts:List (List OpS)} {k0:Nat} (hn:NS n ss) (h:Hy n ss b A C ts k0) (K:Nat) (hK:(yi (ts.take k0)).length<=K):
  ∃s' M,qyf (b.s.file.take K) n ss=some (opB n ss s' M)∧MW M∧(∀x,((opB n ss s' M).queue x).Sm)∧ ∀x,Bx n ss x->A (ix x)<=((opB n ss s' M).queue x).acc∧C (ix x)<=((opB n ss s' M).queue x).cons∧((opB n ss s' M).queue x).acc<=(b.queue x).acc∧((opB n ss s' M).queue x).cons<=(b.queue x).cons:=by
 obtain⟨j,s',p1,p2,i,p4,p5,p6,p7⟩:=q1o h.bk K;have hj:=p7 k0 h.le hK;obtain⟨es,Q,M,q1,d,q3⟩:=h.sn j hj p1;rw[q1]at i;have he:=jC7 i;rw[he]at d;obtain⟨o1,l⟩:=q2z hn p2 d;refine⟨s',M,o1,d.mw,λx=> ?_,λx e=>by rw[l];exact q3 x e⟩;rw[l];by_cases e:PrOk n ss x
 ·exact qo0 (d.qv x e)
 ·rw[d.qn x e];exact⟨by simp[noQ],by simp[noQ]⟩
theorem xqr {n ss k j:Nat} {b:Brk} {A C:Nat->Int} {ts:List (List OpS)} {k0:Nat} (h:Hy n ss b A C ts k0) (H:BI n ss k j b) {now:Int}: ∀o∈qcr b now n ss,o.p.kind=2->PrOk n ss o.p.key∧o.p.seq<=(b.queue o.p.key).acc:=by
 intro o e l;rw[xtg,jAt]at e;rcases e with e|e
 ·exact(h.pd o e).2
 ·obtain⟨i,hi,rfl⟩:=jAo.1 e;rcases xgm.1 (jBs.1 hi).1 with⟨x,hx,hf,rfl⟩|⟨y,d,rfl⟩
  ·obtain⟨f1,_,_,_⟩:=xmc H hf;have:=(qgw f1).1;simp only at l;omega
  ·exfalso;unfold xl at d;split at d
   ·unfold wq at d;rw[jBi]at d;obtain⟨i,_,d⟩:=d;unfold qq9 qml at d;rw[jBi]at d;obtain⟨r,_,d⟩:=d;unfold qjr at d;split at d
    ·cases d
    ·simp only[jAv,jBl,or_false]at d;subst d;simp[itO,qg5]at l
   ·cases d
open Tryz
attribute [-go_sem] qfc
section
variable {P:Program} {mu:List Nat} {N:Nat} {news:List (FuncId×Nat)} {a b:Code} {A B:SCode}
theorem xu4 (ha:qhn P mu N news a=A) (hb:qhn P mu N news b=B):qhn P mu N news (.seq a b)= .seq A B:=by subst ha hb;rfl
theorem xu5 {i:Nat} (ha:qhn P mu N news a=A):qhn P mu N news (.block i a)= .block i A:=by subst ha;rfl
theorem xwd (ha:qhn P mu N news a=A):qhn P mu N news (.loop a)= .loop A:=by subst ha;rfl
end
def cut2 (P:Program) (fn:Func) (news:List (FuncId×Nat)) (mu:List Nat:= []) (ps:List Nat:= []) (rp:Bool:=false) {c:Code} {T:SCode} {L:List (List SOper)} {S:(Nat->List SOper) ->SCode}
  (_:fn.body=some c:=by rfl) (_:qhn P mu fn.ntmps news c=T:=by repeat' (first|apply xu4|apply xu5|apply xwd|(conv=>lhs;cbv)))
  (_: ∀R,qCut R ps rp T=(L,S R):=by intro R;conv=>lhs;cbv) (h:fn.body.bind (zn P mu fn.ntmps news)=some (S λk=>L.getD k []).erase:=by kernel_rfl):CutIs P fn mu news ps rp:=⟨L,S,h⟩
set_option maxHeartbeats 1000000 in
def d10r:=cut2 prog f10 news [42,188,197,67,128,206] [10,20,28,45,47,48]
@[go_sem] def E10r:=qm d10r
def F10r:=fnC d10r follows func10
def arD (A:Nat->Int):List D:=(List.range 80).map λi=> .int .i64 (A i)
theorem xhb (A:Nat->Int):(arD A).length=80:=by simp[arD]
theorem xhc (A:Nat->Int):D.noPtrL (arD A)=true:=by
 rw[D.noPtrL_iff];intro d hd;obtain⟨i,_,rfl⟩:=jAo.1 hd;rfl
attribute [go_sem] xhb xhc
theorem q56 (A:Nat->Int) {i:Nat} (h:i<80):((arD A).map ASlot.d).getD i .bad= .d (.int .i64 (A i)):=by
 rw[jA0,jAa (by rw[jAm,xhb];exact h)];simp[arD]
theorem xhd (A:Nat->Int) (i:Nat) (v:Int):((arD A).map ASlot.d).set i (.d (.int .i64 v))=(arD (upd A i v)).map ASlot.d:=by
 refine jE3 (by simp[arD]) λj h1 h2=> ?_;rw[List.getElem_set];simp only[arD,jEn,List.getElem_range,upd];by_cases h:i=j
 ·subst h;simp
 ·rw[if_neg h,if_neg (λe=>h e.symm)]
theorem xmu:(arD λ_=>0).map ASlot.d=List.replicate 80 (.d (.int .i64 0)):=by rfl
structure DuS (n ss L:Nat) where
 i:Nat
 b:Brk
 now:Int
 A:Nat->Int
 C:Nat->Int
 hi:i<=L
 H:BI n ss i i b
 Y: ∃ts k,Hy n ss b A C ts k
 h0:0<=now
 h1:now<=1000*i
def frDu (l:List Bst) (keep n ss i:Nat) (now:Int):Fr:= [(1,true,.d (.sl 11 (l.map vi))),(2,true,.d (.int .u16 (keep:Nat))),(7,true,.d (.int .i64 (n:Nat))),(8,true,.d (.int .i64 (ss:Nat))),(9,true,.d (.ptr 0 0)),(11,true,.d (.ptr 5 0)),(12,true,.d (.ptr 6 0)),(13,true,.d (.int .i64 now)),(14,true,.d (.int .i64 (i:Nat)))]
def SduA (l:List Bst) (keep n ss i:Nat) (b:Brk) (now:Int) (A C:Nat->Int):St:=
 ⟨frDu l keep n ss i now,[.row (qp b),stoO b.s 2,mapO b.s.m,qmO b.q,tmO b.t,.row ((arD A).map .d),.row ((arD C).map .d)],[0],1⟩
def SduX (l:List Bst) (keep n ss i:Nat) (b:Brk) (now:Int) (A C:Nat->Int) (out:List OutM) (m:Nat):St:=
 ⟨(15,true,.own 0 10 (out.map xk))::(16,true,.d (.int .i64 (m:Nat)))::frDu l keep n ss i now,[.row (xn b .nilsl),stoO b.s 2,mapO b.s.m,qmO b.q,tmO b.t,.row ((arD A).map .d),.row ((arD C).map .d)],[0],1⟩
def vr (b:Brk) (x y z:Nat):List ASlot:= [.d (.int .i64 b.roles),.d (.int .i64 b.sess),.d (.ptr x 0),.d (.map y),.d (.int .i64 b.m.roles),.d (.sl 4 (b.m.ents.map ql)),.d (.sl 10 (b.p.map xk)),.d (.map z)]
def SduL (l:List Bst) (keep n ss i:Nat) (b e:Brk) (now:Int) (A C:Nat->Int) (rest:Fr):St:=
 ⟨rest++frDu l keep n ss i now,[.row (xn b .nilsl),stoO b.s 2,mapO b.s.m,qmO b.q,tmO b.t,.row ((arD A).map .d),.row ((arD C).map .d),.row (vr e 8 10 11),stoO e.s 9,mapO e.s.m,qmO e.q,tmO e.t],[],1⟩
def SduF (n ss keep:Nat) (b:Brk) (A C:Nat->Int):St:=
 ⟨[(2,true,.d (.int .u16 (keep:Nat))),(7,true,.d (.int .i64 (n:Nat))),(8,true,.d (.int .i64 (ss:Nat))),(9,true,.d (.ptr 0 0)),(11,true,.d (.ptr 5 0)),(12,true,.d (.ptr 6 0))],[.row (xn b (.sl 10 (b.p.map xk))),stoO b.s 2,mapO b.s.m,qmO b.q,tmO b.t,.row ((arD A).map .d),.row ((arD C).map .d)],[],1⟩
def SduG (n ss:Nat) (b e:Brk) (A C:Nat->Int) (rest:Fr):St:=
 ⟨rest++ [(7,true,.d (.int .i64 (n:Nat))),(8,true,.d (.int .i64 (ss:Nat))),(9,true,.d (.ptr 0 0)),(11,true,.d (.ptr 5 0)),(12,true,.d (.ptr 6 0)),(23,true,.d (.ptr 7 0))],[.row (xn b (.sl 10 (b.p.map xk))),stoO b.s 2,mapO b.s.m,qmO b.q,tmO b.t,.row ((arD A).map .d),.row ((arD C).map .d),.row (vr e 8 10 11),stoO e.s 9,mapO e.s.m,qmO e.q,tmO e.t],[],1⟩
theorem xqs {n ss k j:Nat} {b:Brk} (hn:NS n ss) (H:BI n ss k j b) (hk:k<=70) (now:Int):(qcr b now n ss).length<=2000:=by
 have h1:=q77 b now (accT b now (za n ss)) (xl b.m);have h2:=q76 b now (za n ss);have hp:=qva n ss;have hq:ss*(n*n)<=32*(6*6):=jD4 hn.s32 (jD4 hn.n6 hn.n6);have ho:=qvb H.mw;have hpl:=H.pl;unfold qcr;omega
theorem xhe (ts:List (List OpS)) (n:Nat):(yi (ts.take n)).length<=(yi ts).length:=by
 have h:=qi9 (ts.map wOps) n (n+(ts.map wOps).length) (by omega);rw[<- jDh,jAr (show(ts.map wOps).length<=n+(ts.map wOps).length by omega)]at h;exact h
theorem xhf (a c:Nat):posB (kk a:Nat) (kk c:Nat)=true:=by
 have key: ∀x y:Fin 5,1<=x.val->1<=y.val->posB (x.val:Int) (y.val:Int)=true:=by decide
 have h1:1<=kk a∧kk a<=4:=by unfold kk;omega
 have h2:1<=kk c∧kk c<=4:=by unfold kk;omega
 exact key ⟨kk a,by omega⟩ ⟨kk c,by omega⟩ h1.1 h2.1
set_option maxHeartbeats 1000000 in
theorem qoh (a c keep:Nat) (ha:a<256) (hc:c<256) (hkeep:keep<65536) (l:List Bst) (hl:l.length<=maxLen) (hx: ∀x∈l,x.p.I∧x.p.values.length<=maxLen):
  qh prog 10 [.d (.agg [.int .u8 (a:Nat),.int .u8 (c:Nat)]),.d (.sl 11 (l.map vi)),.d (.int .u16 (keep:Nat))] [] (.d (.bool true)) []:=by
 have kf:=xqj l hl λx v=>(hx x v).2;have kn:=qvg a c ha hc;have I:=xhf a c;have h44:kk a<=4∧kk c<=4:=by unfold kk;omega
 refine F10r.go ?_;refine eo ?_;first|refine cl F11d (qvh) ?_|refine clF F11d (qvh) (λ_=>by exact et4 @qf.eq_1 @xk.eq_1 @encQ.eq_1 @qu.eq_1) ?_
 refine eo ?_;refine no_ ?_;refine eo ?_;first|refine cl F12 (kf) ?_|refine clF F12 (kf) (λ_=>by exact et4 @qf.eq_1 @xk.eq_1 @encQ.eq_1 @qu.eq_1) ?_
 refine ez ?_;refine xp _ (λh=> ?_) (λh=> ?_)
 ·exact et
 have O:fewB l=true:=by simpa using h
 have hl40:l.length<=40:=by
  simp only[fewB,jAf,decide_eq_true_eq]at O;omega
 have hbst: ∀x∈l,BstOk x:=λx v=>by
  simp only[fewB,jAf,jAx]at O;have:=O.1 x v;simp only[qvf,jBa,jA4,jCc,decide_eq_false_iff_not]at this;exact⟨xu0 (hx x v).1 this.1.1,xtl this.1.1,by omega,by omega⟩
 have hn:NS (kk a) (kk c):=by
  unfold kk;exact⟨by omega,by omega,by omega,by omega⟩
 generalize en:kk a=n at kn I h44 hn;generalize es:kk c=ss at kn I h44 hn;have hn6:=hn.n6;have hs32:=hn.s32;have k0:=qx3 n ss I;simp only[brO,qp,stoO,mapO,qmO,tmO]at k0;refine eo ?_;first|refine cl F37 (kn) ?_|refine clF F37 (kn) (λ_=>by exact et4 @qf.eq_1 @xk.eq_1 @encQ.eq_1 @qu.eq_1) ?_
 refine ez ?_;refine clT [1,2,3,4,5] F45n k0 ?_;refine eo ?_;refine no_ ?_;refine ez ?_;refine qbc [7,0,1,2,3,4,5,6] [.row (xt (zl n ss) 272),stoO (zl n ss).s 2,mapO (zl n ss).s.m,qmO (zl n ss).q,tmO (zl n ss).t,.row ((arD λ_=>0).map .d),.row ((arD λ_=>0).map .d),.row [.d (.int .u8 (a:Nat)),.d (.int .u8 (c:Nat))]] ?_ (by exact et6 @xt.eq_1 @mapO.eq_1 @stoO.eq_1 @qmO.eq_1 @tmO.eq_1 @xmu) (hp:=rfl);refine pu ?_;refine ez ?_;refine qk (λx:DuS n ss l.length=>SduA l keep n ss x.i x.b x.now x.A x.C) (λx=>l.length-x.i) ⟨0,zl n ss,0,λ_=>0,λ_=>0,jAi _,qu9 hn,⟨_,_,xtp hn⟩,jDc _,by simp⟩ ?_ (λx=> ?_)
 ·simp only[SduA,frDu,qp,xt,mapO,stoO,qmO,tmO,jAp,go_sem,simprocAttr]
 obtain⟨i,b,now,A,C,hi,H,⟨ts,k0,hy⟩,h0,h1⟩:=x;dsimp only;have hfb:b.s.file.length<=100000000:=by
  have h1:=H.st.file;exact jBj h1 (jBj (jAy 70000 (show i+401<=471 by omega)) (by decide))
 refine ez7 @SduA.eq_1 @frDu.eq_1 @qp.eq_1 @mapO.eq_1 @stoO.eq_1 @qmO.eq_1 @tmO.eq_1 ?_;refine xp _ (λhc1=> ?_) (λhc1=> ?_)
 ·have E:i<l.length:=by simpa using hc1
  have hs:=hbst _ (jAg E);have hs0:=hs.n0;have hs1:=hs.n1;have kr:=qsd hn H (by omega) l[i].p hs.sm hs.w;have kt:=qse hn H (by omega) (by omega) (now+l[i].n);have kb:=q8a hn H (by omega) l[i].n;have hw:IntKind.i64.wrap (now+l[i].n)=now+l[i].n:=wrap_i64 (by omega) (by omega);simp only[qj vi l E,vi,go_sem,simprocAttr]
  (repeat(with_reducible refine ob ?_))
  refine xp _ (λhk0=> ?_) (λhk0=> ?_)
  ·have H2:=(H.recv hn (by omega) l[i].p hs.w).mono (jAh _) (jEg i);have Y2: ∃ts k,Hy n ss (we b l[i].p).1 A C ts k:=by
    obtain⟨ts',h⟩:=hy.recv hn H (by omega) l[i].p hs.w;exact⟨ts',k0,h⟩
   simp only[qj vi l E,vi,go_sem,simprocAttr]
   (repeat(with_reducible refine ob ?_))
   simp only[brO,qp,stoO,mapO,qmO,tmO,qf]at kr;generalize we b l[i].p=R at kr H2 Y2;obtain⟨b1,e1,cc⟩:=R;simp only[afB,qp,stoO,mapO,qmO,tmO]at kr H2 Y2;cases cc
   ·refine clT [0,1,2,3,4,7] F21d kr ?_;refine ez ?_;refine pu ?_;refine ez ?_;refine⟨⟨i+1,b1,now,A,C,E,H2,Y2,h0,by push_cast;omega⟩,?_,by dsimp only;omega⟩;dsimp only;simp only[SduA,frDu,qp,xt,stoO,mapO,qmO,tmO,qg (show i<9223372036854775807 by omega),go_sem,simprocAttr]
   ·refine clT [0,1,2,3,4,7] F21d kr ?_;refine ez ?_;refine qbc [0,1,7,3,4,5,6,2] [.row (xt b1 288),stoO b1.s 2,mapO b1.s.m,qmO b1.q,tmO b1.t,.row ((arD A).map .d),.row ((arD C).map .d),mapO b.s.m] ?_ (by exact et5 @xt.eq_1 @mapO.eq_1 @stoO.eq_1 @qmO.eq_1 @tmO.eq_1) (hp:=rfl);refine pu ?_;refine ez ?_;refine⟨⟨i+1,b1,now,A,C,E,H2,Y2,h0,by push_cast;omega⟩,?_,by dsimp only;omega⟩;dsimp only;simp only[SduA,frDu,qp,xt,stoO,mapO,qmO,tmO,qg (show i<9223372036854775807 by omega),go_sem,simprocAttr]
  refine ez ?_;refine xp _ (λhk1=> ?_) (λhk1=> ?_)
  ·have H2:=(H.begin hn (by omega) l[i].n).mono (jAh _) (jEg i);have Y2: ∃ts k,Hy n ss (yj b l[i].n).1 A C ts k:=by
    obtain⟨ts',h⟩:=hy.begin hn H (by omega) l[i].n;exact⟨ts',k0,h⟩
   simp only[qj vi l E,vi,go_sem,simprocAttr]
   (repeat(with_reducible refine ob ?_))
   simp only[brO,qp,stoO,mapO,qmO,tmO,qf]at kb;generalize yj b l[i].n=R at kb H2 Y2;obtain⟨b1,e1,cc⟩:=R;simp only[afB,qp,stoO,mapO,qmO,tmO]at kb H2 Y2;cases cc
   ·refine clT [0,1,2,3,4,7] F41d kb ?_;refine ez ?_;refine pu ?_;refine ez ?_;refine⟨⟨i+1,b1,now,A,C,E,H2,Y2,h0,by push_cast;omega⟩,?_,by dsimp only;omega⟩;dsimp only;simp only[SduA,frDu,qp,xt,stoO,mapO,qmO,tmO,qg (show i<9223372036854775807 by omega),go_sem,simprocAttr]
   ·refine clT [0,1,2,3,4,7] F41d kb ?_;refine ez ?_;refine qbc [0,1,7,3,4,5,6,2] [.row (xt b1 320),stoO b1.s 2,mapO b1.s.m,qmO b1.q,tmO b1.t,.row ((arD A).map .d),.row ((arD C).map .d),mapO b.s.m] ?_ (by exact et5 @xt.eq_1 @mapO.eq_1 @stoO.eq_1 @qmO.eq_1 @tmO.eq_1) (hp:=rfl);refine pu ?_;refine ez ?_;refine⟨⟨i+1,b1,now,A,C,E,H2,Y2,h0,by push_cast;omega⟩,?_,by dsimp only;omega⟩;dsimp only;simp only[SduA,frDu,qp,xt,stoO,mapO,qmO,tmO,qg (show i<9223372036854775807 by omega),go_sem,simprocAttr]
  have H1:=(H.tick (now+l[i].n)).mono (jEg i) (jAh _);have hyT: ∀A' C':Nat->Int,(∀x,Bx n ss x->A' (ix x)<=((vh b (now+l[i].n) n ss).queue x).acc∧C' (ix x)<=((vh b (now+l[i].n) n ss).queue x).cons) -> ∃ts k,Hy n ss (vh b (now+l[i].n) n ss) A' C' ts k:=λA' C' h=>hy.tick H _ h;have hout: ∀o∈qcr b (now+l[i].n) n ss,o.p.kind=2->PrOk n ss o.p.key∧o.p.seq<=((vh b (now+l[i].n) n ss).queue o.p.key).acc:=xqr hy H;have hA1: ∀x,Bx n ss x->A (ix x)<=((vh b (now+l[i].n) n ss).queue x).acc∧C (ix x)<=((vh b (now+l[i].n) n ss).queue x).cons:=λx hx=>hy.now hx;obtain⟨⟨tsT,hbk⟩,Y⟩:=xg9 hy.bk H.st.good;have hbk:Bk (vh b (now+l[i].n) n ss).s tsT:=hbk;have Y:(vh b (now+l[i].n) n ss).s.synced=((vh b (now+l[i].n) n ss).s.file.length:Nat):=Y;have hp1:(vh b (now+l[i].n) n ss).p= []:=rfl;have hol:=xqs hn H (by omega) (now+l[i].n);have kt:=q79 hn H (by omega) (by omega) (now+l[i].n);generalize qcr b (now+l[i].n) n ss=out at kt hout hol;generalize vh b (now+l[i].n) n ss=b1 at kt H1 hyT hout hA1 hbk Y hp1;simp only[brO,tkN,qp,k9,stoO,mapO,qmO,tmO]at kt;have hfb1:b1.s.file.length<=100000000:=by
   have h1:=H1.st.file;exact jBj h1 (jBj (jAy 70000 (show i+1+401<=471 by omega)) (by decide))
  simp only[qj vi l E,vi,hw,go_sem,simprocAttr]
  (repeat(with_reducible refine ob ?_))
  refine clT [0,1,2,3,4,7] F14t kt ?_;refine ez ?_;refine qbc [0,1,2,3,7,5,6,4] [.row (xn b1 .nilsl),stoO b1.s 2,mapO b1.s.m,qmO b1.q,tmO b1.t,.row ((arD A).map .d),.row ((arD C).map .d),tmO b.t] ?_ (by exact et5 @xn.eq_1 @mapO.eq_1 @stoO.eq_1 @qmO.eq_1 @tmO.eq_1) (hp:=rfl);refine pu ?_;refine ez ?_;refine qk (λm:{m:Nat×(Nat->Int)//m.1<=out.length∧ ∀x,Bx n ss x->m.2 (ix x)<=(b1.queue x).acc}=>SduX l keep n ss i b1 (now+l[i].n) m.val.2 C out m.val.1) (λm=>out.length-m.val.1) ⟨(0,A),jAi _,λx hx=>(hA1 x hx).1⟩ ?_ (λm=> ?_)
  ·exact et8 @SduX.eq_1 @frDu.eq_1 @xn.eq_1 @mapO.eq_1 @stoO.eq_1 @qmO.eq_1 @tmO.eq_1 @jAp
  obtain⟨⟨m,A1⟩,hm,hA⟩:=m;dsimp only at hm hA⊢;refine ez7 @SduX.eq_1 @frDu.eq_1 @xn.eq_1 @mapO.eq_1 @stoO.eq_1 @qmO.eq_1 @tmO.eq_1 ?_;refine xp _ (λhc4=> ?_) (λhc4=> ?_)
  ·have hml:m<out.length:=by simpa using hc4
   have ho:=hout out[m] (jAg hml);simp only[qj xk out hml,xk,qf,go_sem,simprocAttr]
   (repeat(with_reducible refine ob ?_))
   refine xp _ (λhk=> ?_) (λhk=> ?_)
   ·simp only[jAf,beq_iff_eq,decide_eq_true_eq]at hk;obtain⟨hko,hsq⟩:=ho hk.1.1.1;obtain⟨x1,x2,x3,x4,x5,x6⟩:=hko.bx;have z:out[m].p.sess.toNat*16+out[m].p.from_.toNat*4+out[m].p.to.toNat*1=ix out[m].p.key:=by unfold ix Pk.key;simp only;omega
    simp only[Pk.key]at x1 x2 x3 x4 x5 x6;have J:ix out[m].p.key<80:=by rw[<- z];omega
    have hg:=q56 A1 J;refine ez ?_;refine⟨by omega,by omega,by omega,by omega,?_⟩;simp only[z,hg,go_sem,simprocAttr];refine⟨by omega,by omega,by omega,J,?_⟩;refine⟨⟨(m+1,upd A1 (ix out[m].p.key) (if out[m].p.seq>A1 (ix out[m].p.key)then out[m].p.seq else A1 (ix out[m].p.key))),hml,λx v=> ?_⟩,?_,by dsimp only;omega⟩
    ·dsimp only;unfold upd;split
     ·rename_i e;rw[xnv h44.1 v hko.bx e];have:=hA _ hko.bx;split<;>omega
     ·exact hA x v
    dsimp only;simp only[SduX,frDu,xn,mapO,stoO,qmO,tmO,xhd,qg (show m<9223372036854775807 by omega),go_sem,simprocAttr]
   ·refine ez ?_;refine⟨⟨(m+1,A1),hml,hA⟩,?_,by dsimp only;omega⟩;dsimp only;exact et8 @SduX.eq_1 @frDu.eq_1 @xn.eq_1 @mapO.eq_1 @stoO.eq_1 @qmO.eq_1 @tmO.eq_1 (qg (show m<9223372036854775807 by omega))
  ·have hme:m=out.length:=by simp at hc4;omega
   subst hme;have hnow:0<=now+l[i].n∧now+l[i].n<=1000*((i+1:Nat):Int):=by push_cast;omega
   clear kr kb hs hs0 hs1;obtain⟨s',ho1,ho2⟩:=xha hn hbk H1 (b1.s.file.length+0%(b1.s.file.length-b1.s.file.length+1)) (Nat.le_add_right _ _);have kl:=q8b b1 .nilsl rfl (by omega);have u:=qrx b1.s.file b1.s.file.length 0 (jAh _) hfb1 (by omega);have Z:=q8g (b1.s.file.take (b1.s.file.length+0%(b1.s.file.length-b1.s.file.length+1))) n ss I (by rw[jAl];omega);rw[ho1]at Z;simp only[bOpP,bOpE,bOpO]at Z;have hcm:(opB n ss s' b1.m).m=b1.m:=rfl;generalize opB n ss s' b1.m=U at Z ho2 hcm;have kmc:=q52 U (by rw[hcm];exact H1.mw.sm);have kmb:=qsf b1 .nilsl rfl H1.mw.sm;have ke:=xab U.m b1.m (by rw[hcm];exact H1.mw.sm);rw[decide_eq_true hcm]at ke;simp only[brO,brF,brX,qp,xn,stoO,mapO,qmO,tmO,v7,qu]at Z kl u kmc kmb ke;rw[<- Y]at u;refine ez ?_;refine clO [0,1,2,3,4] F38 kl ?_;refine eo ?_;first|refine cl F59 (u) ?_|refine clF F59 (u) (λ_=>by exact et4 @qf.eq_1 @xk.eq_1 @encQ.eq_1 @qu.eq_1) ?_
   refine ez ?_;refine clT [7,8,9,10,11] F47o Z ?_;refine ez ?_;refine qwi (st1:=SduL l keep n ss i b1 U (now+l[i].n) A1 C [(18,true,.d (.ptr 7 0)),(19,true,.d (.int .i64 0))]) (by try simp only[SduL,frDu,xn,vr,stoO,mapO,qmO,tmO,List.nil_append,List.cons_append,go_sem,simprocAttr]) ?_;simp only[SduL,frDu,xn,vr,stoO,mapO,qmO,tmO,List.nil_append,List.cons_append,go_sem,simprocAttr];refine clO [7,8,9,10,11] F19d kmc ?_;refine ez ?_;refine clO [0,1,2,3,4] F19d kmb ?_;refine eo ?_;first|refine cl F40 (ke) ?_|refine clF F40 (ke) (λ_=>by exact et4 @qf.eq_1 @xk.eq_1 @encQ.eq_1 @qu.eq_1) ?_
   refine eo ?_;refine no_ ?_;refine ez ?_;refine qk (λs:{s:Nat×(Nat->Int)//(1<=s.1∧s.1<=ss+1)∧ ∀x,Bx n ss x->s.2 (ix x)<=(b1.queue x).cons}=>SduL l keep n ss i b1 U (now+l[i].n) A1 s.val.2 [(18,true,.d (.ptr 7 0)),(20,true,.d (.int .i64 (s.val.1:Nat)))]) (λs=>ss+1-s.val.1) ⟨(1,C),by omega,λx hx=>(hA1 x hx).2⟩ ?_ (λs=> ?_)
   ·simp only[SduL,frDu,xn,vr,stoO,mapO,qmO,tmO,List.nil_append,List.cons_append,jE0,go_sem,simprocAttr]
   obtain⟨⟨s,C1⟩,⟨hs1,hs2⟩,hC1⟩:=s;dsimp only at hs1 hs2 hC1⊢;simp only[SduL,frDu,xn,vr,stoO,mapO,qmO,tmO,List.nil_append,List.cons_append,go_sem,simprocAttr];refine xp _ (λhd1=> ?_) (λhd1=> ?_)
   ·have hsl:s<=ss:=by simp at hd1;omega
    refine ez ?_;refine qk (λf:{f:Nat×(Nat->Int)//f.1<=n∧ ∀x,Bx n ss x->f.2 (ix x)<=(b1.queue x).cons}=>SduL l keep n ss i b1 U (now+l[i].n) A1 f.val.2 [(18,true,.d (.ptr 7 0)),(20,true,.d (.int .i64 (s:Nat))),(21,true,.d (.int .i64 (f.val.1:Nat)))]) (λf=>n-f.val.1) ⟨(0,C1),jAi _,hC1⟩ ?_ (λf=> ?_)
    ·simp only[SduL,frDu,xn,vr,stoO,mapO,qmO,tmO,List.nil_append,List.cons_append,jAp,go_sem,simprocAttr]
    obtain⟨⟨f,C2⟩,hf1,hC2⟩:=f;dsimp only at hf1 hC2⊢;simp only[SduL,frDu,xn,vr,stoO,mapO,qmO,tmO,List.nil_append,List.cons_append,go_sem,simprocAttr];refine xp _ (λhd2=> ?_) (λhd2=> ?_)
    ·have O:f<n:=by simpa using hd2
     refine ez ?_;refine qk (λt:{t:Nat×(Nat->Int)//t.1<=n∧ ∀x,Bx n ss x->t.2 (ix x)<=(b1.queue x).cons}=>SduL l keep n ss i b1 U (now+l[i].n) A1 t.val.2 [(18,true,.d (.ptr 7 0)),(20,true,.d (.int .i64 (s:Nat))),(21,true,.d (.int .i64 (f:Nat))),(22,true,.d (.int .i64 (t.val.1:Nat)))]) (λt=>n-t.val.1) ⟨(0,C2),jAi _,hC2⟩ ?_ (λt=> ?_)
     ·simp only[SduL,frDu,xn,vr,stoO,mapO,qmO,tmO,List.nil_append,List.cons_append,jAp,go_sem,simprocAttr]
     obtain⟨⟨t,C3⟩,ht1,hC3⟩:=t;dsimp only at ht1 hC3⊢;simp only[SduL,frDu,xn,vr,stoO,mapO,qmO,tmO,List.nil_append,List.cons_append,go_sem,simprocAttr];refine xp _ (λhd3=> ?_) (λhd3=> ?_)
     ·have htl:t<n:=by simpa using hd3
      have F:=q2v b1 .nilsl rfl s f t (H1.qsm _);have G:=qsh U s f t (by rw[ho2];exact H1.qsm _);have X:=xdy (U.queue ⟨s,f,t⟩) (b1.queue ⟨s,f,t⟩) (by rw[ho2];exact H1.qsm _);rw[ho2]at G X;rw[decide_eq_true rfl]at X;have z:s*16+f*4+t*1=ix ⟨s,f,t⟩:=by unfold ix;simp only[jA6];omega
      have J:ix ⟨s,f,t⟩<80:=by rw[<- z];omega
      have hset:=hC3;generalize hqq:b1.queue ⟨s,f,t⟩=qq at F G X;simp only[brF,brX,xn,stoO,mapO,qmO,tmO,encQ]at F G X;refine ez ?_;refine clO [0,1,2,3,4] F16d F ?_;refine ez ?_;refine⟨by omega,by omega,by omega,by omega,?_⟩;refine clO [7,8,9,10,11] F16d G ?_;refine ez ?_;refine clO [0,1,2,3,4] F16d F ?_;refine eo ?_;first|refine cl F39 (X) ?_|refine clF F39 (X) (λ_=>by exact et4 @qf.eq_1 @xk.eq_1 @encQ.eq_1 @qu.eq_1) ?_
      refine eo ?_;refine no_ ?_;refine ez ?_;refine⟨⟨(t+1,upd C3 (ix ⟨s,f,t⟩) qq.cons),htl,λx v=> ?_⟩,?_,by dsimp only;omega⟩
      ·dsimp only;unfold upd;split
       ·rename_i e;rw[xnv h44.1 v ⟨by simp only;omega,by simp only;omega,by simp only;omega,by simp only;omega,by simp only;omega,by simp only;omega⟩ e,hqq];exact jDc _
       ·exact hC3 x v
      dsimp only;simp only[SduL,frDu,xn,vr,stoO,mapO,qmO,tmO,List.nil_append,List.cons_append,xhd,z,qg (show t<9223372036854775807 by omega),go_sem,simprocAttr]
     ·refine ez ?_;refine⟨⟨(f+1,C3),O,hC3⟩,?_,by dsimp only;omega⟩;dsimp only;simp only[SduL,frDu,xn,vr,stoO,mapO,qmO,tmO,List.nil_append,List.cons_append,qg (show f<9223372036854775807 by omega),go_sem,simprocAttr]
    ·refine ez ?_;refine⟨⟨(s+1,C2),⟨by omega,by omega⟩,hC2⟩,?_,by dsimp only;omega⟩;dsimp only;simp only[SduL,frDu,xn,vr,stoO,mapO,qmO,tmO,List.nil_append,List.cons_append,qg (show s<9223372036854775807 by omega),go_sem,simprocAttr]
   ·obtain Y1:=hyT A1 C1 λx hx=>⟨hA x hx,hC1 x hx⟩;refine ez ?_;refine pu ?_;refine ez ?_;refine⟨⟨i+1,b1,now+l[i].n,A1,C1,E,H1,Y1,hnow.1,hnow.2⟩,?_,by dsimp only;omega⟩;dsimp only;simp only[SduA,frDu,qp,hp1,List.map_nil,stoO,mapO,qmO,tmO,qg (show i<9223372036854775807 by omega),go_sem,simprocAttr]
 ·have Y:=hy.sy;have hcl:(yi (ts.take k0)).length<=b.s.file.length:=by rw[hy.bk.file];exact xhe ts k0
  obtain⟨s',M,ho1,hMW,hcs,hcq⟩:=hy.opens hn ((yi (ts.take k0)).length+keep%(b.s.file.length-(yi (ts.take k0)).length+1)) (Nat.le_add_right _ _);have u:=qrx b.s.file (yi (ts.take k0)).length keep hcl hfb (by omega);have Z:=q8g (b.s.file.take ((yi (ts.take k0)).length+keep%(b.s.file.length-(yi (ts.take k0)).length+1))) n ss I (by rw[jAl];omega);have kl:=xmm b (by omega);have hwk:IntKind.i64.wrap (keep:Int)=(keep:Int):=wrap_i64 (by omega) (by omega);rw[ho1]at Z;simp only[bOpP,bOpE,bOpO]at Z;generalize opB n ss s' M=U at Z hcs hcq;simp only[brO,brF,brX,qp,xn,stoO,mapO,qmO,tmO,v7,qu]at Z kl u;rw[<- Y]at u;generalize (yi (ts.take k0)).length+keep%(b.s.file.length-(yi (ts.take k0)).length+1)=K at u Z;refine ez ?_;refine qwi (st1:=SduF n ss keep b A C) (by exact et6 @SduF.eq_1 @xn.eq_1 @stoO.eq_1 @mapO.eq_1 @qmO.eq_1 @tmO.eq_1) ?_;refine ez6 @SduF.eq_1 @xn.eq_1 @stoO.eq_1 @mapO.eq_1 @qmO.eq_1 @tmO.eq_1 ?_;refine clO [0,1,2,3,4] F38 kl ?_;refine eo1 @hwk ?_;first|refine cl F59 (u) ?_|refine clF F59 (u) (λ_=>by exact et4 @qf.eq_1 @xk.eq_1 @encQ.eq_1 @qu.eq_1) ?_
  refine ez ?_;refine clT [7,8,9,10,11] F47o Z ?_;refine ez ?_;refine qwi (st1:=SduG n ss b U A C [(24,true,.d (.int .i64 0))]) (by try simp only[SduG,xn,vr,stoO,mapO,qmO,tmO,List.nil_append,List.cons_append,go_sem,simprocAttr]) ?_;simp only[SduG,xn,vr,stoO,mapO,qmO,tmO,List.nil_append,List.cons_append,go_sem,simprocAttr]
  (repeat(with_reducible refine ob ?_));refine no_ ?_
  refine ez ?_;refine qk (λs:{s:Nat//1<=s∧s<=ss+1}=>SduG n ss b U A C [(25,true,.d (.int .i64 (s.val:Nat)))]) (λs=>ss+1-s.val) ⟨1,by omega⟩ ?_ (λs=> ?_)
  ·simp only[SduG,xn,vr,stoO,mapO,qmO,tmO,List.nil_append,List.cons_append,jE0,go_sem,simprocAttr]
  obtain⟨s,hs1,hs2⟩:=s;simp only[SduG,xn,vr,stoO,mapO,qmO,tmO,List.nil_append,List.cons_append,go_sem,simprocAttr];refine xp _ (λhd1=> ?_) (λhd1=> ?_)
  ·have hsl:s<=ss:=by simp at hd1;omega
   refine ez ?_;refine qk (λf:{f:Nat//f<=n}=>SduG n ss b U A C [(25,true,.d (.int .i64 (s:Nat))),(26,true,.d (.int .i64 (f.val:Nat)))]) (λf=>n-f.val) ⟨0,jAi _⟩ ?_ (λf=> ?_)
   ·simp only[SduG,xn,vr,stoO,mapO,qmO,tmO,List.nil_append,List.cons_append,jAp,go_sem,simprocAttr]
   obtain⟨f,hf1⟩:=f;simp only[SduG,xn,vr,stoO,mapO,qmO,tmO,List.nil_append,List.cons_append,go_sem,simprocAttr];refine xp _ (λhd2=> ?_) (λhd2=> ?_)
   ·have O:f<n:=by simpa using hd2
    refine ez ?_;refine qk (λt:{t:Nat//t<=n}=>SduG n ss b U A C [(25,true,.d (.int .i64 (s:Nat))),(26,true,.d (.int .i64 (f:Nat))),(27,true,.d (.int .i64 (t.val:Nat)))]) (λt=>n-t.val) ⟨0,jAi _⟩ ?_ (λt=> ?_)
    ·simp only[SduG,xn,vr,stoO,mapO,qmO,tmO,List.nil_append,List.cons_append,jAp,go_sem,simprocAttr]
    obtain⟨t,ht1⟩:=t;simp only[SduG,xn,vr,stoO,mapO,qmO,tmO,List.nil_append,List.cons_append,go_sem,simprocAttr];refine xp _ (λhd3=> ?_) (λhd3=> ?_)
    ·have htl:t<n:=by simpa using hd3
     have F:=qsh b s f t (H.qsm _);have G:=qsh U s f t (hcs _);have z:s*16+f*4+t*1=ix ⟨s,f,t⟩:=by unfold ix;simp only[jA6];omega
     have J:ix ⟨s,f,t⟩<80:=by rw[<- z];omega
     have hgA:=q56 A J;have hgC:=q56 C J;obtain⟨c1,c2,c3,c4⟩:=hcq ⟨s,f,t⟩ ⟨by simp only;omega,by simp only;omega,by simp only;omega,by simp only;omega,by simp only;omega,by simp only;omega⟩;generalize b.queue ⟨s,f,t⟩=qb at F c3 c4;generalize U.queue ⟨s,f,t⟩=qc at G c1 c2 c3 c4;have d1:decide (qc.acc<A (ix ⟨s,f,t⟩))=false:=by simp;omega
     have d2:decide (qc.cons<C (ix ⟨s,f,t⟩))=false:=by simp;omega
     have d3:decide (qc.acc>qb.acc)=false:=by simp;omega
     have d4:decide (qc.cons>qb.cons)=false:=by simp;omega
     simp only[brF,brX,xn,stoO,mapO,qmO,tmO,encQ]at F G;refine ez ?_;refine clO [7,8,9,10,11] F16d G ?_;simp only[z,hgA,hgC,d1,d2,d3,d4,go_sem,simprocAttr];refine⟨by omega,by omega,by omega,J,by omega,by omega,by omega,J,?_⟩;refine clO [0,1,2,3,4] F16d F ?_;simp only[z,d1,d2,d3,d4,go_sem,simprocAttr];refine clO [0,1,2,3,4] F16d F ?_;simp only[z,d1,d2,d3,d4,go_sem,simprocAttr]
     (repeat(with_reducible refine ob ?_));refine no_ ?_
     refine ez ?_;refine⟨⟨t+1,htl⟩,?_,by dsimp only;omega⟩;dsimp only;simp only[SduG,xn,vr,stoO,mapO,qmO,tmO,List.nil_append,List.cons_append,qg (show t<9223372036854775807 by omega),go_sem,simprocAttr]
    ·refine ez ?_;refine⟨⟨f+1,O⟩,?_,by dsimp only;omega⟩;dsimp only;simp only[SduG,xn,vr,stoO,mapO,qmO,tmO,List.nil_append,List.cons_append,qg (show f<9223372036854775807 by omega),go_sem,simprocAttr]
   ·refine ez ?_;refine⟨⟨s+1,by omega⟩,?_,by dsimp only;omega⟩;dsimp only;simp only[SduG,xn,vr,stoO,mapO,qmO,tmO,List.nil_append,List.cons_append,qg (show s<9223372036854775807 by omega),go_sem,simprocAttr]
  ·exact et
end Go.Proofs.YtkcdbcbpbolgkaaGreatDoor
