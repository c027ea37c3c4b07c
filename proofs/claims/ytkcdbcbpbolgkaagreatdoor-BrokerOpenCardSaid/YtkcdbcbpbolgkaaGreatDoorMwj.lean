/- Texts Ba. -/
import Derived.Test.YtkcdbcbpbolgkaaGreatDoorMwi
import Derived.IntWalk
set_option linter.unusedSimpArgs false
set_option linter.unusedVariables false
set_option linter.defProp false
set_option maxRecDepth 100000
noncomputable section
namespace Go.Abs
def SOp.special:SOp->Bool
 | .call .. =>true
 | .eqnilS .. =>true
 | .nextM .. =>true
 | .appendR .. =>true
 | .entryM .. =>true
 | .callT .. =>true
 | _=>false
def St.put (st:St) (dst:Option Nat) (g:Bool) (out:Out):St:=
 {fr:=ym st.fr dst g out.v,os:=jn st.os out.wrs,live:=qp st.live out,nt:=st.nt}
def stepO (P:Program) (ops:List SOper) (k:Nat) (tids:List (List Nat)) (K:List (List Nat) ->St->Prop) (dst:Option Nat) (st:St) (g:Bool) (out:Out):Prop:=
 Obl g out st.live∧ARun P ops (k+1) (tids++ [out.tags]) K (st.put dst g out)
def xz:Option Bool->(Bool->Prop) ->Prop
 |some g,F=>F g
 |none,_=>False
theorem xl9 {P:Program} {k:Nat} {tids:List (List Nat)} {K:List (List Nat) ->St->Prop} {st:St}:ARun P [] k tids K st=K tids st:=rfl
theorem xb {P:Program} {ops:List SOper} {k:Nat} {tids:List (List Nat)} {K:List (List Nat) ->St->Prop} {st:St} {dst:Option Nat} {op:SOp} {gd:Option (Nat×Bool)} (h:op.special=false):
  ARun P (⟨dst,op,gd⟩::ops) k tids K st=xz (gv st.fr gd) λg=>stepO P ops k tids K dst st g (sem (16*(st.nt+k)) op st):=by
 simp only[ARun];cases gv st.fr gd with
 |none=>rfl
 |some g=>cases op<;>first|rfl|(simp[SOp.special]at h)
section
variable {P:Program} {ops:List SOper} {k:Nat} {tids:List (List Nat)} {K:List (List Nat)→St→Prop} {st:St} {dst:Option Nat} {gd:Option (Nat×Bool)}
theorem xma {x:Opd}:ARun P (⟨dst,.mov x,gd⟩::ops) k tids K st=xz (gv st.fr gd) λg=>stepO P ops k tids K dst st g (sem (16*(st.nt+k)) (.mov x) st):=xb rfl
theorem xfx {c a b:Opd}:ARun P (⟨dst,.pick c a b,gd⟩::ops) k tids K st=xz (gv st.fr gd) λg=>stepO P ops k tids K dst st g (sem (16*(st.nt+k)) (.pick c a b) st):=xb rfl
theorem xmb {back:Nat} {x:Opd}:ARun P (⟨dst,.box back x,gd⟩::ops) k tids K st=xz (gv st.fr gd) λg=>stepO P ops k tids K dst st g (sem (16*(st.nt+k)) (.box back x) st):=xb rfl
theorem xb3 {back:Nat} {zero:List ASlot}:ARun P (⟨dst,.alloc back zero,gd⟩::ops) k tids K st=xz (gv st.fr gd) λg=>stepO P ops k tids K dst st g (sem (16*(st.nt+k)) (.alloc back zero) st):=xb rfl
theorem xb4 {zero:List D} {d:List (Nat×Nat×Opd)}:ARun P (⟨dst,.build zero d,gd⟩::ops) k tids K st=xz (gv st.fr gd) λg=>stepO P ops k tids K dst st g (sem (16*(st.nt+k)) (.build zero d) st):=xb rfl
theorem qrm {u:Bool} {es len:Nat} {zero:List D} {d:List (Nat×Nat×Opd)}:ARun P (⟨dst,.buildSlice u es len zero d,gd⟩::ops) k tids K st=xz (gv st.fr gd) λg=>stepO P ops k tids K dst st g (sem (16*(st.nt+k)) (.buildSlice u es len zero d) st):=xb rfl
theorem xfy {n:Option Nat} {x:Opd}:ARun P (⟨dst,.load n x,gd⟩::ops) k tids K st=xz (gv st.fr gd) λg=>stepO P ops k tids K dst st g (sem (16*(st.nt+k)) (.load n x) st):=xb rfl
theorem xb5 {n:Option Nat} {x v:Opd}:ARun P (⟨dst,.store n x v,gd⟩::ops) k tids K st=xz (gv st.fr gd) λg=>stepO P ops k tids K dst st g (sem (16*(st.nt+k)) (.store n x v) st):=xb rfl
theorem qxo {x:Opd}:ARun P (⟨dst,.nilCheck x,gd⟩::ops) k tids K st=xz (gv st.fr gd) λg=>stepO P ops k tids K dst st g (sem (16*(st.nt+k)) (.nilCheck x) st):=xb rfl
theorem xmc {d:BinOp} {x y:Opd}:ARun P (⟨dst,.bin d x y,gd⟩::ops) k tids K st=xz (gv st.fr gd) λg=>stepO P ops k tids K dst st g (sem (16*(st.nt+k)) (.bin d x y) st):=xb rfl
theorem xmd {neg:Bool} {x y:Opd}:ARun P (⟨dst,.eqb neg x y,gd⟩::ops) k tids K st=xz (gv st.fr gd) λg=>stepO P ops k tids K dst st g (sem (16*(st.nt+k)) (.eqb neg x y) st):=xb rfl
theorem xb6 {neg:Bool} {k':NK} {x:Opd}:ARun P (⟨dst,.eqnil neg k' x,gd⟩::ops) k tids K st=xz (gv st.fr gd) λg=>stepO P ops k tids K dst st g (sem (16*(st.nt+k)) (.eqnil neg k' x) st):=xb rfl
theorem xb7 {neg:Bool} {ks:List CK} {x y:Opd}:ARun P (⟨dst,.eqAgg neg ks x y,gd⟩::ops) k tids K st=xz (gv st.fr gd) λg=>stepO P ops k tids K dst st g (sem (16*(st.nt+k)) (.eqAgg neg ks x y) st):=xb rfl
theorem xme {x:Opd}:ARun P (⟨dst,.not x,gd⟩::ops) k tids K st=xz (gv st.fr gd) λg=>stepO P ops k tids K dst st g (sem (16*(st.nt+k)) (.not x) st):=xb rfl
theorem xmf {x:Opd}:ARun P (⟨dst,.neg x,gd⟩::ops) k tids K st=xz (gv st.fr gd) λg=>stepO P ops k tids K dst st g (sem (16*(st.nt+k)) (.neg x) st):=xb rfl
theorem xfz {k':IntKind} {x:Opd}:ARun P (⟨dst,.conv k' x,gd⟩::ops) k tids K st=xz (gv st.fr gd) λg=>stepO P ops k tids K dst st g (sem (16*(st.nt+k)) (.conv k' x) st):=xb rfl
theorem xmg {x:Opd}:ARun P (⟨dst,.i2s x,gd⟩::ops) k tids K st=xz (gv st.fr gd) λg=>stepO P ops k tids K dst st g (sem (16*(st.nt+k)) (.i2s x) st):=xb rfl
theorem xmh {x:Opd}:ARun P (⟨dst,.b2s x,gd⟩::ops) k tids K st=xz (gv st.fr gd) λg=>stepO P ops k tids K dst st g (sem (16*(st.nt+k)) (.b2s x) st):=xb rfl
theorem xmi {x:Opd}:ARun P (⟨dst,.s2b x,gd⟩::ops) k tids K st=xz (gv st.fr gd) λg=>stepO P ops k tids K dst st g (sem (16*(st.nt+k)) (.s2b x) st):=xb rfl
theorem q57 {fn:Fn} {e d:List Opd}:ARun P (⟨dst,.mkFunc fn e d,gd⟩::ops) k tids K st=xz (gv st.fr gd) λg=>stepO P ops k tids K dst st g (sem (16*(st.nt+k)) (.mkFunc fn e d) st):=xb rfl
theorem qua {u:Bool} {es bytes:Nat} {zero:List D} {l c:Opd}:ARun P (⟨dst,.makeSlice u es bytes zero l c,gd⟩::ops) k tids K st=xz (gv st.fr gd) λg=>stepO P ops k tids K dst st g (sem (16*(st.nt+k)) (.makeSlice u es bytes zero l c) st):=xb rfl
theorem qrn {back es bytes:Nat} {zero:List D} {l c:Opd}:ARun P (⟨dst,.makeSliceO back es bytes zero l c,gd⟩::ops) k tids K st=xz (gv st.fr gd) λg=>stepO P ops k tids K dst st g (sem (16*(st.nt+k)) (.makeSliceO back es bytes zero l c) st):=xb rfl
theorem xb8 {es:Nat} {x:Opd} {lo hi mx:Option Opd}:ARun P (⟨dst,.slice es x lo hi mx,gd⟩::ops) k tids K st=xz (gv st.fr gd) λg=>stepO P ops k tids K dst st g (sem (16*(st.nt+k)) (.slice es x lo hi mx) st):=xb rfl
theorem q58 {len es:Nat} {x:Opd} {lo hi mx:Option Opd}:ARun P (⟨dst,.sliceA len es x lo hi mx,gd⟩::ops) k tids K st=xz (gv st.fr gd) λg=>stepO P ops k tids K dst st g (sem (16*(st.nt+k)) (.sliceA len es x lo hi mx) st):=xb rfl
theorem q59 {x:Opd} {lo hi:Option Opd}:ARun P (⟨dst,.sliceS x lo hi,gd⟩::ops) k tids K st=xz (gv st.fr gd) λg=>stepO P ops k tids K dst st g (sem (16*(st.nt+k)) (.sliceS x lo hi) st):=xb rfl
theorem xb9 {off:Nat} {x:Opd}:ARun P (⟨dst,.faddr off x,gd⟩::ops) k tids K st=xz (gv st.fr gd) λg=>stepO P ops k tids K dst st g (sem (16*(st.nt+k)) (.faddr off x) st):=xb rfl
theorem xca {n:Option Nat} {off:Nat} {x:Opd}:ARun P (⟨dst,.field n off x,gd⟩::ops) k tids K st=xz (gv st.fr gd) λg=>stepO P ops k tids K dst st g (sem (16*(st.nt+k)) (.field n off x) st):=xb rfl
theorem xcb {es:Nat} {x i:Opd}:ARun P (⟨dst,.iaddr es x i,gd⟩::ops) k tids K st=xz (gv st.fr gd) λg=>stepO P ops k tids K dst st g (sem (16*(st.nt+k)) (.iaddr es x i) st):=xb rfl
theorem q6a {len es:Nat} {x i:Opd}:ARun P (⟨dst,.iaddrA len es x i,gd⟩::ops) k tids K st=xz (gv st.fr gd) λg=>stepO P ops k tids K dst st g (sem (16*(st.nt+k)) (.iaddrA len es x i) st):=xb rfl
theorem q6b {x i:Opd}:ARun P (⟨dst,.indexS x i,gd⟩::ops) k tids K st=xz (gv st.fr gd) λg=>stepO P ops k tids K dst st g (sem (16*(st.nt+k)) (.indexS x i) st):=xb rfl
theorem q6c {len es:Nat} {n:Option Nat} {x i:Opd}:ARun P (⟨dst,.indexA len es n x i,gd⟩::ops) k tids K st=xz (gv st.fr gd) λg=>stepO P ops k tids K dst st g (sem (16*(st.nt+k)) (.indexA len es n x i) st):=xb rfl
theorem q1o {i:Nat} {x:Opd}:ARun P (⟨dst,.extract i x,gd⟩::ops) k tids K st=xz (gv st.fr gd) λg=>stepO P ops k tids K dst st g (sem (16*(st.nt+k)) (.extract i x) st):=xb rfl
theorem xmj {x:Opd}:ARun P (⟨dst,.len x,gd⟩::ops) k tids K st=xz (gv st.fr gd) λg=>stepO P ops k tids K dst st g (sem (16*(st.nt+k)) (.len x) st):=xb rfl
theorem xf0 {x:Opd}:ARun P (⟨dst,.lenS x,gd⟩::ops) k tids K st=xz (gv st.fr gd) λg=>stepO P ops k tids K dst st g (sem (16*(st.nt+k)) (.lenS x) st):=xb rfl
theorem xcc {x:Opd}:ARun P (⟨dst,.asStr x,gd⟩::ops) k tids K st=xz (gv st.fr gd) λg=>stepO P ops k tids K dst st g (sem (16*(st.nt+k)) (.asStr x) st):=xb rfl
theorem q6d {u:Bool} {es bytes:Nat} {s x:Opd}:ARun P (⟨dst,.append u es bytes s x,gd⟩::ops) k tids K st=xz (gv st.fr gd) λg=>stepO P ops k tids K dst st g (sem (16*(st.nt+k)) (.append u es bytes s x) st):=xb rfl
theorem xf1 {es:Nat} {s x:Opd}:ARun P (⟨dst,.copy es s x,gd⟩::ops) k tids K st=xz (gv st.fr gd) λg=>stepO P ops k tids K dst st g (sem (16*(st.nt+k)) (.copy es s x) st):=xb rfl
theorem q1p {back:Nat}:ARun P (⟨dst,.makeMap back,gd⟩::ops) k tids K st=xz (gv st.fr gd) λg=>stepO P ops k tids K dst st g (sem (16*(st.nt+k)) (.makeMap back) st):=xb rfl
theorem xf2 {n:Nat} {x:Opd}:ARun P (⟨dst,.s2ap n x,gd⟩::ops) k tids K st=xz (gv st.fr gd) λg=>stepO P ops k tids K dst st g (sem (16*(st.nt+k)) (.s2ap n x) st):=xb rfl
theorem q6e {kd:KD} {z:ASlot} {c:Bool} {x y:Opd}:ARun P (⟨dst,.lookup kd z c x y,gd⟩::ops) k tids K st=xz (gv st.fr gd) λg=>stepO P ops k tids K dst st g (sem (16*(st.nt+k)) (.lookup kd z c x y) st):=xb rfl
theorem qub {kd:KD} {x y v:Opd}:ARun P (⟨dst,.mapUpdate kd x y v,gd⟩::ops) k tids K st=xz (gv st.fr gd) λg=>stepO P ops k tids K dst st g (sem (16*(st.nt+k)) (.mapUpdate kd x y v) st):=xb rfl
theorem q6f {kd:KD} {x y:Opd}:ARun P (⟨dst,.delete kd x y,gd⟩::ops) k tids K st=xz (gv st.fr gd) λg=>stepO P ops k tids K dst st g (sem (16*(st.nt+k)) (.delete kd x y) st):=xb rfl
theorem xf3 {x:Opd}:ARun P (⟨dst,.lenM x,gd⟩::ops) k tids K st=xz (gv st.fr gd) λg=>stepO P ops k tids K dst st g (sem (16*(st.nt+k)) (.lenM x) st):=xb rfl
theorem q6g {back:Nat} {x:Opd}:ARun P (⟨dst,.rangeM back x,gd⟩::ops) k tids K st=xz (gv st.fr gd) λg=>stepO P ops k tids K dst st g (sem (16*(st.nt+k)) (.rangeM back x) st):=xb rfl
theorem q1q {t:TypeId} {x:Opd}:ARun P (⟨dst,.mkIface t x,gd⟩::ops) k tids K st=xz (gv st.fr gd) λg=>stepO P ops k tids K dst st g (sem (16*(st.nt+k)) (.mkIface t x) st):=xb rfl
theorem q1r {t:TypeId} {c:Bool} {x:Opd}:ARun P (⟨dst,.assertT t c x,gd⟩::ops) k tids K st=xz (gv st.fr gd) λg=>stepO P ops k tids K dst st g (sem (16*(st.nt+k)) (.assertT t c x) st):=xb rfl
theorem q1s {back es bytes:Nat} {s x:Opd}:ARun P (⟨dst,.appendO back es bytes s x,gd⟩::ops) k tids K st=xz (gv st.fr gd) λg=>stepO P ops k tids K dst st g (sem (16*(st.nt+k)) (.appendO back es bytes s x) st):=xb rfl
theorem q6h {mx:Bool} {x y:Opd}:ARun P (⟨dst,.minmax mx x y,gd⟩::ops) k tids K st=xz (gv st.fr gd) λg=>stepO P ops k tids K dst st g (sem (16*(st.nt+k)) (.minmax mx x y) st):=xb rfl
end
theorem xmk {P:Program} {ops:List SOper} {k:Nat} {tids:List (List Nat)} {K:List (List Nat) ->St->Prop} {dst:Option Nat} {fr:Fr} {os:List AObj} {live:List Nat} {nt:Nat} {g:Bool} {v:ASlot} {ob:Prop} {rd:Option Nat}:
  stepO P ops k tids K dst ⟨fr,os,live,nt⟩ g ⟨v,ob,rd,none,[],[],[],[]⟩=((g=true->ob)∧ARun P ops (k+1) (tids++ [rd.toList]) K ⟨ym fr dst g v,os,live,nt⟩):=by
 have hl:qp live (⟨v,ob,rd,none,[],[],[],[]⟩:Out)=live:=xk rfl rfl;simp only[stepO,Obl,Out.tags,Out.wrs,St.put,Out.tame,hl];simp[jn]
theorem xml {P:Program} {ops:List SOper} {k:Nat} {tids:List (List Nat)} {K:List (List Nat) ->St->Prop} {dst:Option Nat} {fr:Fr} {os:List AObj} {live:List Nat} {nt:Nat} {g:Bool} {v:ASlot} {ob:Prop} {rd:Option Nat} {id:Nat} {o:AObj}:
  stepO P ops k tids K dst ⟨fr,os,live,nt⟩ g ⟨v,ob,rd,some (id,o),[],[],[],[]⟩=(g=true∧ob∧ARun P ops (k+1) (tids++ [id::(1000000+id)::rd.toList]) K ⟨ym fr dst g v,os.set id o,live,nt⟩):=by
 have hl:qp live (⟨v,ob,rd,some (id,o),[],[],[],[]⟩:Out)=live:=xk rfl rfl;simp only[stepO,Obl,Out.tags,Out.wrs,St.put,Out.tame,hl];cases g<;>simp[jn]
theorem xf4 {P:Program} {ops:List SOper} {k:Nat} {tids:List (List Nat)} {K:List (List Nat) ->St->Prop} {dst:Option Nat} {fr:Fr} {os:List AObj} {live:List Nat} {nt:Nat} {g:Bool} {v:ASlot} {ob:Prop} {rd:Option Nat} {cons:List Nat} {t:Nat}:
  stepO P ops k tids K dst ⟨fr,os,live,nt⟩ g ⟨v,ob,rd,none,cons,[t],[],[]⟩=(g=true∧ob∧(cons.all λt=>live.contains t)=true∧ARun P ops (k+1) (tids++ [rd.toList]) K ⟨ym fr dst g v,os,(live.filter λt=> !cons.contains t)++ [t],nt⟩):=by
 have hc:((cons.all λt=>live.contains t)=true)=(∀t∈cons,t∈live):=by simp
 rw[hc];simp only[stepO,Obl,Out.tags,Out.wrs,St.put,Out.tame,qp];cases g<;>simp[and_assoc,jn]
def qne (P:Program) (ops:List SOper) (k:Nat) (tids:List (List Nat)) (K:List (List Nat) ->St->Prop) (dst:Option Nat) (st:St) (g:Bool) (c:Option (FuncId×List ASlot)) (ok:Bool):Prop:=
 ∃n as fa r fo fo' ι q,r.toks.length<=16∧(g=true->c=some (n,as)∧ok=true∧qf P n fa fo r fo'∧(P.funcs[n]?).any (λfn=>fn.body.isSome&& !(fn.name== "runtime.NumGoroutine"))=true∧Fits st.live as fa ι fo.length (zk as fa)∧ObjFit st.os fo fo' ι∧(xi fo= []∧xi fo'= [])∧(q=true-> ∀p∈ι.zip (fo'.map (AObj.ren ι)),st.os[p.1]? =some p.2))∧
  (g=true∨(ja (16*(st.nt+k)) as fa r fo' ι q).tame)∧ARun P ops (k+1) (tids++ [(ja (16*(st.nt+k)) as fa r fo' ι q).tags]) K (st.put dst g (ja (16*(st.nt+k)) as fa r fo' ι q))
theorem xf5 {P:Program} {ops:List SOper} {k:Nat} {tids:List (List Nat)} {K:List (List Nat) ->St->Prop} {st:St} {dst:Option Nat} {f:Opd} {args:List Opd} {gd:Option (Nat×Bool)}:
  ARun P (⟨dst,.call f args,gd⟩::ops) k tids K st=xz (gv st.fr gd) λg=>qne P ops k tids K dst st g (qkf st.fr f args) (f.ok st.fr&&args.all λx=>x.ok st.fr):=by
 simp only[ARun];cases hg:gv st.fr gd with
 |none=>rfl
 |some g=>
  simp only[xz,qne];apply propext;constructor
  ·rintro⟨n,as,fa,r,fo,fo',ι,q,e,d,m,l⟩;exact⟨n,as,fa,r,fo,fo',ι,q,e,λh=>⟨(d h).callee,by rw[(d h).ok,(d h).oks];rfl,(d h).contract,(d h).body,(d h).fits,(d h).objs,(d h).noT,(d h).quiet⟩,m,l⟩
  ·rintro⟨n,as,fa,r,fo,fo',ι,q,e,d,m,l⟩;refine⟨n,as,fa,r,fo,fo',ι,q,e,λh=> ?_,m,l⟩;obtain⟨q1,i,q3,q4,q5,q6,q7,q8⟩:=d h;rw[jAf]at i;exact⟨q1,i.1,i.2,q3,q4,q5,q6,q7,e,q8⟩
theorem qnf {r:ASlot} (d:r.toks= []) (b:Nat):qe3 b r=r:=by
 have hren: ∀(b:Nat) (s:ASlot),s.toks= [] ->renT [] b s=s:=by
  intro b s hs;cases s<;>first|rfl|(simp[ASlot.toks]at hs)
 cases r with
 |tup l=>
  simp only[qe3,yd,d,ASlot.tup.injEq];have: ∀s∈l,renT [] b s=s:=λs hs=>by
   cases s with
   |own t es rows=>simp only[ASlot.toks,jCn]at d;have:=d _ hs;simp[qch]at this
   |uni t es rows=>simp only[ASlot.toks,jCn]at d;have:=d _ hs;simp[qch]at this
   | _=>rfl
  rw[jC3 this,List.map_id']
 |own t es rows=>simp[ASlot.toks]at d
 |uni t es rows=>simp[ASlot.toks]at d
 | _=>rfl
mutual
theorem qot {s:ASlot} (k:Nat) (h:s.noPtr=true):s.inK k=true:=by
 cases s with
 |d x=>exact D.inK_noPtr k h
 |own t es rows=>exact D.inKR_noPtr k h
 |uni t es rows=>exact D.inKR_noPtr k h
 |full es rows=>exact D.inKR_noPtr k h
 |rd cs=>exact D.inKL_noPtr k h
 | _=>simp[ASlot.noPtr]at h
end
theorem qu5 (os:List AObj):ObjFit os [] [] []:=⟨jD5,rfl,jAi _,trivial,by simp,rfl⟩
theorem qro (l:List ASlot):l.map (ASlot.ren [])=l:=by
 have:ASlot.ren []=id:=by funext s;rfl
 rw[this,List.map_id]
theorem zf {P:Program} {ops:List SOper} {k:Nat} {tids:List (List Nat)} {K:List (List Nat) ->St->Prop} {fr:Fr} {os:List AObj} {live:List Nat} {nt:Nat} {dst:Option Nat} {g ok:Bool} {n:FuncId} {fa as:List ASlot} {r:ASlot}
  (hc:qf P n fa [] r []) (hb:(P.funcs[n]?).any (λfn=>fn.body.isSome&& !(fn.name== "runtime.NumGoroutine"))=true) (ho:g=true->ok=true)
  (hfit:g=true->qaf as fa) (m:fa.all ASlot.noPtr=true) (l:zk as fa= []) (i:r.toks= [])
  (hK:ARun P ops (k+1) (tids++ [[]]) K ⟨ym fr dst g r,os,live,nt⟩):
  qne P ops k tids K dst ⟨fr,os,live,nt⟩ g (some (n,as)) ok:=by
 have d:=qnf i;have e:St.put (⟨fr,os,live,nt⟩:St) dst g (ja (16*(nt+k)) as fa r [] [] false)=⟨ym fr dst g r,os,live,nt⟩:=by
  simp only[St.put,ja,Out.wrs,d,qp,l,i];simp[jn,ASlot.ren]
 refine⟨n,as,fa,r,[],[],[],false,by rw[i];simp,λh=>⟨rfl,ho h,hc,hb,⟨by rw[qro];exact hfit h,jAx.2 λs hs=>qot _ (jAx.1 m s hs),by rw[l];simp,by rw[l];simp⟩,qu5 _,⟨rfl,rfl⟩,(nomatch ·)⟩,.inr ⟨by simp[ja,Out.wrs],by simp[ja,l],by simp[ja,d,i]⟩,?_⟩;rw[e];exact hK
theorem qa9 {P:Program} {ops:List SOper} {k:Nat} {tids:List (List Nat)} {K:List (List Nat) ->St->Prop} {fr:Fr} {os:List AObj} {live:List Nat} {nt:Nat} {dst:Option Nat} {g ok:Bool} {c:Option (FuncId×List ASlot)} (x:D)
  (hg:g=false) (hK:ARun P ops (k+1) (tids++ [[]]) K ⟨ym fr dst g (.d x),os,live,nt⟩):qne P ops k tids K dst ⟨fr,os,live,nt⟩ g c ok:=by
 subst hg;refine⟨0,[],[],.d x,[],[],[],false,by simp[ASlot.toks],λh=>(by cases h),.inr ⟨rfl,rfl,rfl⟩,?_⟩;have:St.put (⟨fr,os,live,nt⟩:St) dst false (ja (16*(nt+k)) [] [] (.d x) [] [] false)=⟨ym fr dst false (.d x),os,live,nt⟩:=by
  simp[St.put,ja,Out.wrs,qe3,yd,renT,qp,zk,ASlot.toks,jn,ASlot.ren]
 rw[this];exact hK
theorem xs4 {s:ASlot}:ASlot.ren [] s=s:=rfl
theorem xy6 {i:Nat} {ι:List Nat} {x:D}:ASlot.ren (i::ι) (.d x)= .d (x.ren (i::ι)):=rfl
theorem xs5 {i:Nat} {ι:List Nat} {t es:Nat} {rows:List (List D)}:ASlot.ren (i::ι) (.own t es rows)= .own t es (D.renR (i::ι) rows):=rfl
theorem xmm {i:Nat} {ι:List Nat} {es:Nat} {rows:List (List D)}:ASlot.ren (i::ι) (.full es rows)= .full es (D.renR (i::ι) rows):=rfl
theorem xwi {i:Nat} {ι:List Nat} {cs:List D}:ASlot.ren (i::ι) (.rd cs)= .rd (D.renL (i::ι) cs):=rfl
theorem xs6 {i:Nat} {ι:List Nat} {l:List ASlot}:ASlot.ren (i::ι) (.tup l)= .tup (l.map (ASlot.ren1 (i::ι))):=rfl
theorem xs7 {i:Nat} {ι:List Nat}:ASlot.ren (i::ι) .bad= .bad:=rfl
def isNone (os:List AObj) (id:Nat):Bool:=match os[id]?with|some .none=>true| _=>false
def qay:List ASlot->Bool
 | []=>true
 |s::l=>s.toks.isEmpty&&qay l
theorem qu6: ∀(l:List ASlot),qay l=true↔ ∀s∈l,s.toks= []
 | []=>by simp[qay]
 |s::l=>by simp[qay,qu6 l]
theorem qgn: ∀{l:List AObj},(l.all λo=>qay o.cells)=true->xi l= []
 | [],_=>rfl
 |o::l,h=>by
  rw[jCx,jAf]at h;simp only[xi,qgn h.2,jAu,jCn];exact(qu6 _).1 h.1
theorem xf6 {P:Program} {ops:List SOper} {k:Nat} {tids:List (List Nat)} {K:List (List Nat) ->St->Prop} {fr:Fr} {os:List AObj} {live:List Nat} {nt:Nat} {dst:Option Nat} {ok:Bool} {n:FuncId} {fa as:List ASlot} {r:ASlot} {fo fo':List AObj} (ι:List Nat)
  (hc:qf P n fa fo r fo') (hb:(P.funcs[n]?).any (λfn=>fn.body.isSome&& !(fn.name== "runtime.NumGoroutine"))=true) (ho:ok=true)
  (hfit:qaf as (fa.map (ASlot.ren ι))) (A:fa.all (ASlot.inK fo.length)=true) (C:zk as fa= []) (u:r.toks= [])
  (v:ι.Nodup) (l:ι.length=fo'.length) (z:fo.length<=fo'.length) (hold:qef ι os ι fo) (e:(ι.drop fo.length).all (isNone os)=true) (hik:fo.all (AObj.inK fo.length)=true) (htk:(fo'.all λo=>qay o.cells)=true) (q:(fo.all λo=>qay o.cells)=true)
  (hK:ARun P ops (k+1) (tids++ [ι++ι.map λi=>1000000+i]) K ⟨ym fr dst true (r.ren ι),jn os (ι.zip (fo'.map (AObj.ren ι))),live,nt⟩):
  qne P ops k tids K dst ⟨fr,os,live,nt⟩ true (some (n,as)) ok:=by
 have t:=qnf u;have d:St.put (⟨fr,os,live,nt⟩:St) dst true (ja (16*(nt+k)) as fa r fo' ι false)=⟨ym fr dst true (r.ren ι),jn os (ι.zip (fo'.map (AObj.ren ι))),live,nt⟩:=by
  simp only[St.put,ja,Out.wrs,t,qp,C,u,cond_false];simp
 have m:(ja (16*(nt+k)) as fa r fo' ι false).tags=ι++ι.map (λi=>1000000+i):=by
  simp only[Out.tags,Out.wrs,ja,cond_false];have:(ι.zip (fo'.map (AObj.ren ι))).map (·.1)=ι:=by
   rw[List.map_fst_zip (by rw[jAm];omega)]
  have h2:(ι.zip (fo'.map (AObj.ren ι))).map (λp=>1000000+p.1)=ι.map λi=>1000000+i:=by
   rw[<- this,jEa];rw[this];rfl
  simp[this,h2]
 refine⟨n,as,fa,r,fo,fo',ι,false,by rw[u];simp,λ_=>⟨rfl,ho,hc,hb,⟨hfit,A,by rw[C];simp,by rw[C];simp⟩,⟨v,l,z,hold,λid B=> ?_,hik⟩,⟨qgn q,qgn htk⟩,(nomatch ·)⟩,.inl rfl,?_⟩
 ·have:=jAx.1 e id B;unfold isNone at this;split at this
  ·rename_i h;exact h
  ·cases this
 ·rw[m,d];exact hK
def nilO (P:Program) (ops:List SOper) (k:Nat) (tids:List (List Nat)) (K:List (List Nat) ->St->Prop) (dst:Option Nat) (st:St) (g neg ok:Bool) (s:ASlot):Prop:=
 g=true∧ok=true∧ ∃es rows,s.rows=some (es,rows)∧ ∀b:Bool,(b=true->rows= []) ->ARun P ops (k+1) (tids++ [[]]) K ⟨ym st.fr dst true (.d (.bool (if neg=true then !b else b))),st.os,st.live,st.nt⟩
theorem q6i {P:Program} {ops:List SOper} {k:Nat} {tids:List (List Nat)} {K:List (List Nat) ->St->Prop} {st:St} {dst:Option Nat} {neg:Bool} {x:Opd} {gd:Option (Nat×Bool)}:
  ARun P (⟨dst,.eqnilS neg x,gd⟩::ops) k tids K st=xz (gv st.fr gd) λg=>nilO P ops k tids K dst st g neg (x.ok st.fr) (x.get st.fr):=by
 simp only[ARun];cases gv st.fr gd with
 |none=>rfl
 |some g=>
  cases g with
  |false=>simp[xz,nilO]
  |true=>
   have hn: ∀b,st.next ⟨dst,.eqnilS neg x,gd⟩ true (quu neg b)=⟨ym st.fr dst true (.d (.bool (if neg=true then !b else b))),st.os,st.live,st.nt⟩:=by
    intro b;have hl:qp st.live (quu neg b)=st.live:=xk rfl rfl;simp only[St.next,hl];rfl
   simp only[xz,nilO,hn]
def xmn (P:Program) (ops:List SOper) (k:Nat) (tids:List (List Nat)) (K:List (List Nat) ->St->Prop) (dst:Option Nat) (st:St) (g ok:Bool) (s:ASlot):Prop:=
 g=true∧ok=true∧ ∃h,s= .d (.ptr h 0)∧
  ((∃since seen last,st.os[h]? =some (.iter (.d .nilmap) since seen last)∧ARun P ops (k+1) (tids++ [[]]) K ⟨ym st.fr dst true qph,st.os,st.live,st.nt⟩)∨
   ∃mid since seen last es clock,IterOn st.os h mid since seen last es clock∧(qf8 es seen= [] ->ARun P ops (k+1) (tids++ [[]]) K ⟨ym st.fr dst true qph,st.os,st.live,st.nt⟩)∧
    ∀e∈qf8 es seen,ARun P ops (k+1) (tids++ [[]]) K ⟨ym st.fr dst true (entV e),st.os.set h (.iter (.d (.map mid)) since (seen++ [e.1]) clock),st.live,st.nt⟩)
theorem xce {P:Program} {ops:List SOper} {k:Nat} {tids:List (List Nat)} {K:List (List Nat) ->St->Prop} {st:St} {dst:Option Nat} {x:Opd} {gd:Option (Nat×Bool)}:
  ARun P (⟨dst,.nextM x,gd⟩::ops) k tids K st=xz (gv st.fr gd) λg=>xmn P ops k tids K dst st g (x.ok st.fr) (x.get st.fr):=by
 simp only[ARun];cases gv st.fr gd with
 |none=>rfl
 |some g=>
  cases g with
  |false=>simp[xz,xmn]
  |true=>
   have h1:st.next ⟨dst,.nextM x,gd⟩ true qg7=⟨ym st.fr dst true qph,st.os,st.live,st.nt⟩:=by
    have i:qp st.live qg7=st.live:=xk rfl rfl;simp only[St.next,i];rfl
   have h2: ∀h mid since seen clock e,st.next ⟨dst,.nextM x,gd⟩ true (qrb h mid since seen clock e)=⟨ym st.fr dst true (entV e),st.os.set h (.iter (.d (.map mid)) since (seen++ [e.1]) clock),st.live,st.nt⟩:=by
    intro h mid since seen clock e;have i:qp st.live (qrb h mid since seen clock e)=st.live:=xk rfl rfl;simp only[St.next,i];rfl
   simp only[xz,xmn,h1,h2]
theorem q9i {P:Program} {ops:List SOper} {k:Nat} {tids:List (List Nat)} {K:List (List Nat) ->St->Prop} {fr:Fr} {os:List AObj} {live:List Nat} {nt:Nat} {dst:Option Nat} {ok:Bool} {i mid since last clock:Nat} {seen:List Nat} {es:Ents}
  (h:IterOn os i mid since seen last es clock) (h1:qf8 es seen= [] ->ARun P ops (k+1) (tids++ [[]]) K ⟨ym fr dst true qph,os,live,nt⟩)
  (h2: ∀e∈qf8 es seen,ARun P ops (k+1) (tids++ [[]]) K ⟨ym fr dst true (entV e),os.set i (.iter (.d (.map mid)) since (seen++ [e.1]) clock),live,nt⟩) (ho:ok=true:=by rfl):
  xmn P ops k tids K dst ⟨fr,os,live,nt⟩ true ok (.d (.ptr i 0)):=⟨rfl,ho,i,rfl,.inr ⟨mid,since,seen,last,es,clock,h,h1,h2⟩⟩
def xmo (P:Program) (ops:List SOper) (k:Nat) (tids:List (List Nat)) (K:List (List Nat) ->St->Prop) (dst:Option Nat) (st:St) (g:Bool) (back es bytes:Nat) (s x:Opd):Prop:=
 g=true∧(((sem (16*(st.nt+k)) (.appendO back es bytes s x) st).ob∧ARun P ops (k+1) (tids++ [[]]) K (st.next ⟨dst,.appendR back es bytes s x,none⟩ true (sem (16*(st.nt+k)) (.appendO back es bytes s x) st)))∨
     (s.ok st.fr=true∧x.ok st.fr=true∧ ∃id n r,s.get st.fr= .d (.ref id 0 es n)∧qar es st.os (x.get st.fr)=some r∧AppR st.os es bytes back id n r∧
      ARun P ops (k+1) (tids++ [[]]) K (st.next ⟨dst,.appendR back es bytes s x,none⟩ true (qrc id id es n st.os r))∧ARun P ops (k+1) (tids++ [[]]) K (st.next ⟨dst,.appendR back es bytes s x,none⟩ true (qrc id (st.os.length-back) es n st.os r))))
theorem q1t {P:Program} {ops:List SOper} {k:Nat} {tids:List (List Nat)} {K:List (List Nat) ->St->Prop} {st:St} {dst:Option Nat} {back es bytes:Nat} {s x:Opd} {gd:Option (Nat×Bool)}:
  ARun P (⟨dst,.appendR back es bytes s x,gd⟩::ops) k tids K st=xz (gv st.fr gd) λg=>xmo P ops k tids K dst st g back es bytes s x:=by
 simp only[ARun];cases gv st.fr gd with
 |none=>rfl
 |some g=>
  cases g with
  |false=>simp[xz,xmo]
  |true=>rfl
def q9j (P:Program) (ops:List SOper) (k:Nat) (tids:List (List Nat)) (K:List (List Nat) ->St->Prop) (dst:Option Nat) (st:St) (g ok:Bool) (s:ASlot):Prop:=
 g=true∧ok=true∧ ∃h mid since seen clock es e,s= .d (.ptr h 0)∧EntryOn st.os h mid since seen clock es e∧ARun P ops (k+1) (tids++ [[]]) K ⟨ym st.fr dst true (.tup [.d e.2.1,.d e.2.2]),st.os,st.live,st.nt⟩
theorem q6j {P:Program} {ops:List SOper} {k:Nat} {tids:List (List Nat)} {K:List (List Nat) ->St->Prop} {st:St} {dst:Option Nat} {x:Opd} {gd:Option (Nat×Bool)}:
  ARun P (⟨dst,.entryM x,gd⟩::ops) k tids K st=xz (gv st.fr gd) λg=>q9j P ops k tids K dst st g (x.ok st.fr) (x.get st.fr):=by
 simp only[ARun];cases gv st.fr gd with
 |none=>rfl
 |some g=>
  cases g with
  |false=>simp[xz,q9j]
  |true=>
   have h1: ∀e,st.next ⟨dst,.entryM x,gd⟩ true (qg8 e)=⟨ym st.fr dst true (.tup [.d e.2.1,.d e.2.2]),st.os,st.live,st.nt⟩:=by
    intro e;have hl:qp st.live (qg8 e)=st.live:=xk rfl rfl;simp only[St.next,hl];rfl
   simp only[xz,q9j,h1]
theorem q1u {P:Program} {ops:List SOper} {k:Nat} {tids:List (List Nat)} {K:List (List Nat) ->St->Prop} {fr:Fr} {os:List AObj} {live:List Nat} {nt:Nat} {dst:Option Nat} {ok:Bool} {i mid since clock:Nat} {seen:List Nat} {es:Ents} {e:Nat×D×D}
  (h:EntryOn os i mid since seen clock es e) (h1:ARun P ops (k+1) (tids++ [[]]) K ⟨ym fr dst true (.tup [.d e.2.1,.d e.2.2]),os,live,nt⟩) (ho:ok=true:=by rfl):
  q9j P ops k tids K dst ⟨fr,os,live,nt⟩ true ok (.d (.ptr i 0)):=⟨rfl,ho,i,mid,since,seen,clock,es,e,rfl,h,h1⟩
theorem qng {P:Program} {ops:List SOper} {k:Nat} {tids:List (List Nat)} {K:List (List Nat) ->St->Prop} {fr:Fr} {os:List AObj} {live:List Nat} {nt:Nat} {dst:Option Nat} {neg ok:Bool} {s:ASlot} {es:Nat} {rows:List (List D)}
  (ho:ok=true) (hr:s.rows=some (es,rows)) (h: ∀b:Bool,(b=true->rows= []) ->ARun P ops (k+1) (tids++ [[]]) K ⟨ym fr dst true (.d (.bool (if neg=true then !b else b))),os,live,nt⟩):
  nilO P ops k tids K dst ⟨fr,os,live,nt⟩ true neg ok s:=⟨rfl,ho,es,rows,hr,h⟩
structure Fits0 (live:List Nat) (as fa:List ASlot):Prop where
 all:qaf as fa
 noPtr:fa.all ASlot.noPtr=true
 lv: ∀p∈zk as fa,p.1∈live
 nd1:((zk as fa).map (·.1)).Nodup
theorem qin {P:Program} {ops:List SOper} {k:Nat} {tids:List (List Nat)} {K:List (List Nat) ->St->Prop} {fr:Fr} {os:List AObj} {live:List Nat} {nt:Nat} {dst:Option Nat} {ok:Bool} {n:FuncId} {fa as:List ASlot} {r:ASlot}
  (hc:qf P n fa [] r []) (hb:(P.funcs[n]?).any (λfn=>fn.body.isSome&& !(fn.name== "runtime.NumGoroutine"))=true) (ho:ok=true)
  (hfit:Fits0 live as fa) (hnd:r.toks.Nodup) (d:r.toks.length<=16)
  (hK:ARun P ops (k+1) (tids++ [[]]) K ⟨ym fr dst true (qe3 (16*(nt+k)) r),os,(live.filter λt=> !((zk as fa).map (·.1)).contains t)++(qe3 (16*(nt+k)) r).toks,nt⟩):
  qne P ops k tids K dst ⟨fr,os,live,nt⟩ true (some (n,as)) ok:=
 ⟨n,as,fa,r,[],[],[],false,d,λ_=>⟨rfl,ho,hc,hb,⟨by rw[qro];exact hfit.all,jAx.2 λs hs=>qot _ (jAx.1 hfit.noPtr s hs),hfit.lv,hfit.nd1⟩,qu5 _,⟨rfl,rfl⟩,(nomatch ·)⟩,.inl rfl,hK⟩
def q9k (P:Program) (ops:List SOper) (k:Nat) (tids:List (List Nat)) (K:List (List Nat) ->St->Prop) (dst:Option Nat) (st:St) (g:Bool) (c:Option (FuncId×List ASlot)) (ok:Bool):Prop:=
 g=true∧ ∃n as fa r fo fo' ι H R,(c=some (n,as)∧ok=true∧qf P n fa fo r fo'∧(P.funcs[n]?).any (λfn=>fn.body.isSome&& !(fn.name== "runtime.NumGoroutine"))=true∧H=zk as fa++wz st.os ι fo∧R=r.toks++xi fo'∧
  Fits st.live as fa ι fo.length H∧ObjFit st.os fo fo' ι∧R.length<=16)∧ARun P ops (k+1) (tids++ [[]]) K (st.put dst true (qek (16*(st.nt+k)) H R r fo' ι))
theorem xcf {P:Program} {ops:List SOper} {k:Nat} {tids:List (List Nat)} {K:List (List Nat) ->St->Prop} {st:St} {dst:Option Nat} {f:Opd} {args:List Opd} {gd:Option (Nat×Bool)}:
  ARun P (⟨dst,.callT f args,gd⟩::ops) k tids K st=xz (gv st.fr gd) λg=>q9k P ops k tids K dst st g (qkf st.fr f args) (f.ok st.fr&&args.all λx=>x.ok st.fr):=by
 simp only[ARun];cases hg:gv st.fr gd with
 |none=>rfl
 |some g=>
  simp only[xz,q9k];apply propext;constructor
  ·rintro⟨rfl,n,as,fa,r,fo,fo',ι,H,R,h,e⟩;exact⟨rfl,n,as,fa,r,fo,fo',ι,H,R,⟨h.callee,by rw[h.ok,h.oks];rfl,h.contract,h.body,h.hH,h.hR,h.fits,h.objs,h.few⟩,e⟩
  ·rintro⟨rfl,n,as,fa,r,fo,fo',ι,H,R,⟨q1,d,q3,q4,q5,q6,q7,q8,q9⟩,e⟩;rw[jAf]at d;exact⟨rfl,n,as,fa,r,fo,fo',ι,H,R,⟨q1,d.1,d.2,q3,q4,q5,q6,q7,q8,q9⟩,e⟩
theorem xf7 {P:Program} {ops:List SOper} {k:Nat} {tids:List (List Nat)} {K:List (List Nat) ->St->Prop} {fr:Fr} {os:List AObj} {live:List Nat} {nt:Nat} {dst:Option Nat} {ok:Bool} {n:FuncId} {fa as:List ASlot} {r:ASlot} {fo fo':List AObj} (ι:List Nat)
  (hc:qf P n fa fo r fo') (hb:(P.funcs[n]?).any (λfn=>fn.body.isSome&& !(fn.name== "runtime.NumGoroutine"))=true)
  (hK:ARun P ops (k+1) (tids++ [[]]) K ⟨ym fr dst true ((yd (r.toks++xi fo') (16*(nt+k)) r).ren ι),jn os (ι.zip ((fo'.map (AObj.rt (r.toks++xi fo') (16*(nt+k)))).map (AObj.ren ι))),
   (live.filter λt=> !((zk as fa++wz os ι fo).map (·.1)).contains t)++((yd (r.toks++xi fo') (16*(nt+k)) r).toks++xi (fo'.map (AObj.rt (r.toks++xi fo') (16*(nt+k))))),nt⟩)
  (ho:ok=true) (hfit:qaf as (fa.map (ASlot.ren ι))) (o:fa.all (ASlot.inK fo.length)=true)
  (hl:((zk as fa++wz os ι fo).all λp=>live.contains p.1)=true) (hn:((zk as fa++wz os ι fo).map (·.1)).Nodup) (i:(r.toks++xi fo').length<=16)
  (l:ι.Nodup) (e:ι.length=fo'.length) (m:fo.length<=fo'.length) (hold:qef ι os ι fo) (d:(ι.drop fo.length).all (isNone os)=true) (hik:fo.all (AObj.inK fo.length)=true):
  q9k P ops k tids K dst ⟨fr,os,live,nt⟩ true (some (n,as)) ok:=by
 refine⟨rfl,n,as,fa,r,fo,fo',ι,_,_,⟨rfl,ho,hc,hb,rfl,rfl,⟨hfit,o,?_,hn⟩,⟨l,e,m,hold,λid q=> ?_,hik⟩,i⟩,hK⟩
 ·intro p hp;simpa using jAx.1 hl p hp
 ·have:=jAx.1 d id q;unfold isNone at this;split at this
  ·rename_i h;exact h
  ·cases this
theorem qt {P:Program} {k0:Nat} {c:Opd} {x y:SCode} {Q:SExit->St->Prop} {st:St} (t:Bool) (h1:c.ok st.fr=true) (h2:c.get st.fr= .d (.bool t)) (hx:t=true->AWp P k0 x Q st) (hy:t=false->AWp P k0 y Q st):AWp P k0 (.cond c x y) Q st:=
 ⟨t,⟨h1,h2⟩,hx,hy⟩
theorem xs8 {P:Program} {k0:Nat} {a b:SCode} {Q:SExit->St->Prop} {st:St}:AWp P k0 (.seq a b) Q st=AWp P k0 a (qil (AWp P k0 b Q) Q) st:=rfl
theorem xmp {P:Program} {k0:Nat} {Q:SExit->St->Prop} {st:St}:AWp P k0 .skip Q st=Q .normal st:=rfl
theorem xf8 {P:Program} {k0 id:Nat} {a:SCode} {Q:SExit->St->Prop} {st:St}:AWp P k0 (.block id a) Q st=AWp P k0 a (qu1 id Q) st:=rfl
theorem xmq {P:Program} {k0 id:Nat} {Q:SExit->St->Prop} {st:St}:AWp P k0 (.exit id) Q st=Q (.exit id) st:=rfl
theorem xs9 {P:Program} {k0:Nat} {Q:SExit->St->Prop} {st:St}:AWp P k0 .ret Q st=Q .ret st:=rfl
def disj:List Nat->List Nat->Bool
 | [],_=>true
 |i::l,r=> !r.contains i&&disj l r
theorem qxp: ∀(l r:List Nat),disj l r=true↔ ∀i∈l,i∉r
 | [],r=>by simp[disj]
 |i::l,r=>by simp[disj,qxp l r]
theorem xmr {l:List Nat}:disj l []=true:=(qxp l []).2 (by simp)
theorem q1v {p:Nat×Nat} {ps:List (Nat×Nat)} {tids:List (List Nat)}:qgb (p::ps) tids=(disj (tids.getD p.1 []) (tids.getD p.2 [])=true∧qgb ps tids):=by
 rw[qxp];apply propext;simp only[qgb,List.forall_mem_cons]
theorem q6k {tids:List (List Nat)}:qgb [] tids=True:=by simp[qgb]
theorem St.bump_mk {fr:Fr} {os:List AObj} {live:List Nat} {nt n:Nat}:(⟨fr,os,live,nt⟩:St).bump n=⟨fr,os,live,nt+n⟩:=rfl
theorem xms (c a:Bool):(if c=true then a else false)=(c&&a):=by cases c<;>rfl
theorem xta (c b:Bool):(if c=true then true else b)=(c||b):=by cases c<;>rfl
theorem xwj (b:Bool):(b==true)=b:=by cases b<;>rfl
theorem xwk (b:Bool):(b==false)= !b:=by cases b<;>rfl
def qu7:List Nat->Bool
 | []=>true
 |t::l=> !l.contains t&&qu7 l
theorem qu8: ∀(l:List Nat),qu7 l=true↔l.Nodup
 | []=>by simp[qu7]
 |t::l=>by simp[qu7,qu8 l]
def xmt (live live':List Nat) (ps:List (Nat×Nat)):Bool:=ps.all λp=> !live'.contains p.2||live.contains p.1
def ltB (n:Nat) (l:List Nat):Bool:=l.all λt=>decide (t<n)
theorem xmu {k0:Nat} {fr e:Fr} {os d:List AObj} {live live':List Nat} {nt i:Nat}:Weak k0 ⟨fr,os,live,nt⟩ ⟨e,d,live',i⟩↔
  frW (yq d) fr e∧osW (yq d) os d∧xmt live live' (qc9 fr e++yy os d)=true∧qu7 ((qc9 fr e++yy os d).map (·.1))=true∧qg9 k0 os d∧
  ltB (16*i) (live'++qkg e++xi d)=true:=by
 have h1:xmt live live' (qc9 fr e++yy os d)=true↔ ∀p∈qc9 fr e++yy os d,p.2∈live'->p.1∈live:=by
  simp only[xmt,jAx,jA0,jBd,List.contains_iff_mem,<- jC1];exact⟨λh p hp l=>(h p hp).resolve_left (λhn=>hn l),λh p hp=>by by_cases l:p.2∈live'<;>simp[l,h p hp]⟩
 have h2:ltB (16*i) (live'++qkg e++xi d)=true↔ ∀t∈live'++qkg e++xi d,t<16*i:=by
  simp only[ltB,jAx,decide_eq_true_eq]
 rw[h1,h2,qu8];exact⟨λh=>⟨h.fr,h.os,h.live,h.nd,h.base,h.wf⟩,λh=>⟨h.1,h.2.1,h.2.2.1,h.2.2.2.1,h.2.2.2.2.1,h.2.2.2.2.2⟩⟩
theorem xtb {keep:Nat->Bool} {os:List AObj}:osW keep os []=True:=by cases os with|nil=>rfl|cons o l=>cases o<;>rfl
theorem xmv {keep:Nat->Bool} {o:AObj} {l l':List AObj}:osW keep (o::l) (.none::l')=osW keep l l':=by cases o<;>rfl
theorem q6l {os:List AObj}:yy os []= []:=by cases os with|nil=>rfl|cons o l=>cases o<;>rfl
theorem q1w {o:AObj} {l l':List AObj}:yy (o::l) (.none::l')=yy l l':=by cases o<;>rfl
theorem xtc {keep:Nat->Bool} {cs:List ASlot}:csW keep cs []=True:=by cases cs<;>rfl
theorem q6m {cs:List ASlot}:qb5 cs []= []:=by cases cs<;>rfl
theorem qxq {os d:List AObj}:qg9 0 os d=True:=by simp[qg9]
theorem xtd {keep:Nat->Bool} {s:ASlot} {x:D}:qd5 keep s (.d x)=(s.eqvD x∧x.okW keep=true):=by cases s<;>rfl
theorem xf9 {keep:Nat->Bool} {s:ASlot}:qd5 keep s .bad=True:=by cases s<;>rfl
theorem xga {s:ASlot} {x:D}:wl s (.d x)= []:=by cases s<;>rfl
theorem q1x {s:ASlot} {es:Nat} {rows:List (List D)}:wl s (.full es rows)= []:=by cases s<;>rfl
theorem q6n {s:ASlot}:wl s .bad= []:=by cases s<;>rfl
theorem xcg {s:ASlot} {cs:List D}:wl s (.rd cs)= []:=by cases s<;>rfl
theorem q6o {t t' es d:Nat} {r r':List (List D)}:wl (.own t es r) (.own t' d r')= [(t,t')]:=rfl
def qnh (st:St):List RVar->Prop
 | []=>True
 |r::l=>r.good st∧qnh st l
theorem qrp {st:St}: ∀(l:List RVar),qnh st l↔ ∀r∈l,r.good st
 | []=>by simp[qnh]
 |r::l=>by simp[qnh,qrp l]
theorem qrq {α:Type} {x:α} {p:α->Prop}:(∀y∈some x,p y)=p x:=by simp
theorem qrr {α:Type} {p:α->Prop}:(∀y∈(none:Option α),p y)=True:=by simp
theorem xmw {k0:Nat} {rvs:List RVar} {rs:List ASlot} {objs:List AObj} {fr:Fr} {os:List AObj} {live:List Nat} {nt:Nat}:
  xfv k0 rvs rs objs ⟨fr,os,live,nt⟩=(qnh ⟨fr,os,live,nt⟩ rvs∧Weak k0 ⟨qat (rvs.map (RVar.slot ⟨fr,os,live,nt⟩)) 0,os,live,nt⟩ ⟨qat rs 0,objs,vy rs++xi objs,1⟩):=by rw[qrp];rfl
def xy7 {α:Type} (k0:Nat) (S:α->St) (μ:α->Nat) (x:α) (st':St):Prop:= ∃y,Weak k0 st' (S y)∧μ y<μ x
theorem qg {α:Type} {P:Program} {k0:Nat} {a:SCode} {Q:SExit->St->Prop} {st:St} (S:α->St) (μ:α->Nat) (d:α) (h0:Weak k0 st (S d))
  (h: ∀x,AWp P k0 a (qil (xy7 k0 S μ x) Q) (S x)):AWp P k0 (.loop a) Q st:=
 ⟨α,S,μ,d,.weak h0 (.refl _),λx=>AWp.mono a (qgl (λ_ ⟨y,h1,h2⟩=>⟨y,.weak h1 (.refl _),h2⟩) (λ_ _ h=>h)) (h x)⟩
theorem xgb {keep:Nat->Bool} {t t' es d:Nat} {r r':List (List D)}:qd5 keep (.own t es r) (.own t' d r')=((es=d∧D.eqvR r r')∧D.noPtrR r'=true):=rfl
theorem quc {keep:Nat->Bool} {t' es d:Nat} {r r':List (List D)}:qd5 keep (.full es r) (.own t' d r')=(qa2 es r d r'∧D.noPtrR r'=true):=rfl
theorem xch {keep:Nat->Bool} {es d:Nat} {r r':List (List D)}:qd5 keep (.full es r) (.full d r')=(qa2 es r d r'∧D.noPtrR r'=true):=rfl
theorem xmx {keep:Nat->Bool} {r r':List D}:qd5 keep (.rd r) (.rd r')=(D.eqvL r r'∧D.noPtrL r'=true):=rfl
theorem xte {keep:Nat->Bool} {cs d:List ASlot} {l l':List AObj}:osW keep (.row cs::l) (.row d::l')=(csW keep cs d∧osW keep l l'):=rfl
theorem q6p {cs d:List ASlot} {l l':List AObj}:yy (.row cs::l) (.row d::l')=qb5 cs d++yy l l':=rfl
theorem xmy {keep:Nat->Bool} {s s':ASlot} {l l':List ASlot}:csW keep (s::l) (s'::l')=(qd5 keep s s'∧csW keep l l'):=rfl
theorem qdr {s s':ASlot} {l l':List ASlot}:qb5 (s::l) (s'::l')=wl s s'++qb5 l l':=rfl
theorem qxr {n:Nat}:((n:Int)+1).toNat=n+1:=by omega
theorem q1y {α β:Type} {f:α->β} {l:List α}:(l.map f).take l.length=l.map f:=by rw[jAq (by simp)]
theorem D.default_eq:(default:D)= .int default default:=rfl
theorem qxs {keep:Nat->Bool} {t' e:Nat} {r':List (List D)}:qd5 keep (.d .nilsl) (.own t' e r')=(r'= []):=rfl
theorem qud {keep:Nat->Bool} {e:Nat} {r':List (List D)}:qd5 keep (.d .nilsl) (.full e r')=(r'= []):=rfl
theorem qxt {x:D} {t' e:Nat} {r':List (List D)}:wl (.d x) (.own t' e r')= []:=rfl
theorem que {t' e:Nat} {r':List (List D)}:qcq (.d .nilsl) (.own t' e r')=(r'= []):=rfl
theorem qrs {e:Nat} {r':List (List D)}:qcq (.d .nilsl) (.full e r')=(r'= []):=rfl
theorem xmz {d:Nat} {r':List (List D)}:D.eqv .nilsl (.sl d r')=(r'= []):=by simp[D.eqv]
theorem qpj {t' es d:Nat} {r r':List (List D)}:wl (.full es r) (.own t' d r')= []:=rfl
theorem xgc (t:Nat): [t].Nodup=True:=by simp
theorem qh {α β:Type} (f:α->β) (l:List α) {i:Nat} (h:i<l.length) (d:β):(l.map f).getD i d=f l[i]:=by simp[List.getD,h]
theorem zg {α:Type} {f:α->List D} (h: ∀x,D.noPtrL (f x)=true) (l:List α):D.noPtrR (l.map f)=true:=by
 induction l with
 |nil=>rfl
 |cons x l ih=>simp[D.noPtrR,h,ih]
theorem ye {α β:Type} (f:α->β) (l:List α) {i:Nat} (h:i<l.length):(l.take (i+1)).map f=(l.take i).map f++ [f l[i]]:=by
 rw[jAk h,jA2];rfl
theorem qag: ∀(a b:List D),D.noPtrL (a++b)=(D.noPtrL a&&D.noPtrL b)
 | [],b=>by simp[D.noPtrL]
 |x::a,b=>by simp[D.noPtrL,qag a b,jFk]
theorem ql5: ∀(a b:List (List D)),D.noPtrR (a++b)=(D.noPtrR a&&D.noPtrR b)
 | [],b=>by simp[D.noPtrR]
 |x::a,b=>by simp[D.noPtrR,ql5 a b,jFk]
theorem wrap_i64 {n:Int} (h1: -9223372036854775808<=n) (h2:n<=9223372036854775807):IntKind.i64.wrap n=n:=IntWalk.i64_in n ⟨h1,h2⟩
theorem qe {n:Nat} (h:n<9223372036854775807):IntKind.i64.wrap ((n:Int)+1)=((n+1:Nat):Int):=by
 rw[wrap_i64 (by omega) (by omega)];rfl
theorem qxu {k:Nat} {o o':AObj} {os d:List AObj}:qg9 (k+1) (o::os) (o'::d)=((yq [o] 0=true->yq [o'] 0=true)∧qg9 k os d):=by
 apply propext;simp only[qg9];constructor
 ·intro h;refine⟨λh0=> ?_,λid i e=> ?_⟩
  ·exact h 0 (by omega) h0
  ·exact h (id+1) (by omega) e
 ·rintro⟨h1,h2⟩ id i e;cases id with
  |zero=>exact h1 e
  |succ id=>exact h2 id (by omega) e
theorem q9l {P:Program} {mu:List Nat} {news:List (FuncId×Nat)} {f:FuncId} {fn:Func} {sc:SCode} {args rs:List ASlot} {rvs:List RVar} {objs objs':List AObj} (hm:P.follows .mixedOrders=true) (hf:P.funcs[f]? =some fn)
  (hc:fn.body.bind (zy P mu fn.ntmps news)=some sc.erase) (hr:fn.results.toList.mapM (qha P)=some rvs)
  (h:AWp P objs.length sc (q56 objs.length rvs rs objs') (qim args objs)) (hN:args.length<=fn.ntmps) (hl:rvs.length=rs.length) (d:ltB 16 (vy args++xi objs)=true):qf P f args objs (qrk rs) objs':=by
 rw[jEb]at hc;obtain⟨c,hb,hc⟩:=hc;refine qxn hm hf hb (rv:=fn.results.toList) (by simp) hr hc hN hl (λt ht=> ?_) h;simp only[ltB,jAx,decide_eq_true_eq]at d;exact d t ht
theorem xgd {rs:List ASlot} (h:rs.length≠1):qrk rs= .tup rs:=by
 match rs with
 | []=>rfl
 | [_]=>simp at h
 | _::_::_=>rfl
theorem x0q (d:D):D.eqv d d=True:=eq_true (D.eqv_refl d)
theorem xy9 (d:List D):D.eqvL d d=True:=eq_true (D.eqvL_refl d)
theorem xza (d:List (List D)):D.eqvR d d=True:=eq_true (D.eqvR_refl d)
theorem xtf {k k':IntKind} {n n':Int}:D.eqv (.int k n) (.int k' n')=(k=k'∧n=n'):=by simp[D.eqv]
theorem xm0 {b b':Bool}:D.eqv (.bool b) (.bool b')=(b=b'):=by simp[D.eqv]
theorem xtg {b b':List UInt8}:D.eqv (.str b) (.str b')=(b=b'):=by simp[D.eqv]
theorem xwm {es d:Nat} {r r':List (List D)}:D.eqv (.sl es r) (.sl d r')=qa2 es r d r':=by simp[D.eqv,qa2]
theorem xth {l l':List D}:D.eqv (.agg l) (.agg l')=D.eqvL l l':=by simp[D.eqv]
theorem xti {b b' o o':Nat}:D.eqv (.ptr b o) (.ptr b' o')=(b=b'∧o=o'):=by simp[D.eqv]
theorem xtj {b b' o o' e e' n n':Nat}:D.eqv (.ref b o e n) (.ref b' o' e' n')=(b=b'∧o=o'∧e=e'∧n=n'):=by simp[D.eqv]
theorem xtk {b b':Nat}:D.eqv (.map b) (.map b')=(b=b'):=by simp[D.eqv]
theorem xm1 {f f':Fn} {a a' b b':List D}:D.eqv (.func f a b) (.func f' a' b')=(f=f'∧D.eqvL a a'∧D.eqvL b b'):=by simp[D.eqv]
theorem xge {t t':TypeId} {a a':D}:D.eqv (.iface t a) (.iface t' a')=(t=t'∧D.eqv a a'):=by simp[D.eqv]
theorem xgf {a a':D} {l l':List D}:D.eqvL (a::l) (a'::l')=(D.eqv a a'∧D.eqvL l l'):=by simp[D.eqvL]
theorem xm2:D.eqvL [] []=True:=by simp[D.eqvL]
theorem xgg {a a':List D} {l l':List (List D)}:D.eqvR (a::l) (a'::l')=(D.eqvL a a'∧D.eqvR l l'):=by simp[D.eqvR]
theorem xm3:D.eqvR [] []=True:=by simp[D.eqvR]
theorem q1z {es:Nat} {r r':List (List D)}:qa2 es r es r'=D.eqvR r r':=by simp[qa2]
theorem q6q {es d:Nat}:qa2 es [] d []=True:=by simp[qa2,D.eqvR]
theorem qrt {α:Type} {es d:Nat} {f:α->List D}:qa2 es [] d (List.map f [])=True:=by simp[qa2,D.eqvR]
theorem xm4 {a b b':List (List D)}:D.eqvR (a++b) (a++b')=D.eqvR b b':=by
 induction a with
 |nil=>rfl
 |cons x a ih=>simp[D.eqvR,D.eqvL_refl,ih]
theorem xm5 {s:ASlot} {x:D}:qcq s (.d x)=s.eqvD x:=by cases s<;>rfl
theorem xci {t t' es d:Nat} {r r':List (List D)}:qcq (.own t es r) (.own t' d r')=(es=d∧D.eqvR r r'):=rfl
theorem qru {t' es d:Nat} {r r':List (List D)}:qcq (.full es r) (.own t' d r')=qa2 es r d r':=rfl
theorem q6r {es d:Nat} {r r':List (List D)}:qcq (.full es r) (.full d r')=qa2 es r d r':=rfl
theorem xgh {r r':List D}:qcq (.rd r) (.rd r')=D.eqvL r r':=rfl
theorem qo {x:D}:qcq (.d x) (.d x):=D.eqv_refl x
def xm6 (P:Program) (ops:List SOper) (objs:Nat) (d:List (Nat×Nat)) (Q:SExit->St->Prop) (st:St):Prop:=AWp P 0 (.region ops objs d) Q st
theorem xtl {P:Program} {k0:Nat} {ops:List SOper} {objs:Nat} {d:List (Nat×Nat)} {Q:SExit->St->Prop} {st:St}:AWp P k0 (.region ops objs d) Q st=xm6 P ops objs d Q st:=rfl
def xm7 (P:Program) (ops:List SOper) (objs:Nat) (d:List (Nat×Nat)) (Q:SExit->St->Prop) (st:St):Prop:=AWp P 0 (.region ops objs d) Q st
def regK (d:List (Nat×Nat)) (Q:SExit->St->Prop) (n:Nat) (tids:List (List Nat)) (st':St):Prop:=qgb d tids∧Q .normal (st'.bump n)
theorem xtm {d:List (Nat×Nat)} {Q:SExit->St->Prop} {n:Nat} {tids:List (List Nat)} {fr:Fr} {os:List AObj} {live:List Nat} {nt:Nat}:
  regK d Q n tids ⟨fr,os,live,nt⟩=(qgb d tids∧Q .normal (⟨fr,os,live,nt+n⟩)):=rfl
theorem xm8 {P:Program} {ops:List SOper} {objs:Nat} {d:List (Nat×Nat)} {Q:SExit->St->Prop} {fr:Fr} {os:List AObj} {live:List Nat} {nt:Nat}:
  xm7 P ops objs d Q ⟨fr,os,live,nt⟩=ARun P ops 0 [] (regK d Q ops.length) ⟨fr,os++List.replicate objs .none,live,nt⟩:=rfl
def xtn {ops d:List SOper} (_:ops=d):List SOper:=d
theorem xwn {R:List Nat} {b:Nat} {x:D}:renC R b (.d x)= .d x:=rfl
theorem xna {R:List Nat} {b:Nat}:renC R b .bad= .bad:=rfl
theorem xnb {R:List Nat} {b t es:Nat} {rows:List (List D)}:renC R b (.own t es rows)= .own (b+R.idxOf t) es rows:=by simp[renC,ASlot.toks,renT]
theorem xgi {t:Nat}: [t].idxOf t=0:=by simp
attribute [go_sem] xcf xwn xna xnb xgi AObj.rt yd renT wz
attribute [go_sem] q6i zq qh3 eqOk xs8 xtl xm8 xtm xtn xmp xf8 xmq xs9 qil qu1 q56 xl9 xma xfx xmb xb3 xb4 qrm xfy xb5 qxo xmc xmd xb6 xb7 xsu xme xmf xfz xmg xmh xmi q57 qua xb8 q59 xb9 xca xcb q6a q6b q6c q1o xmj xf0 xcc q6d qim qat vy List.flatMap_cons List.flatMap_nil ASlot.toks List.append_nil List.nil_append List.replicate Nat.zero_add Nat.add_zero xf5 qkf gv xz sem xmk xml xf4 Fr.get Opd.get Opd.ok ym if_true if_false ite_self or_false or_true true_or false_or or_self List.filter_cons List.filter_nil List.contains_cons List.contains_nil Int.cast_ofNat_Int Int.natCast_add not_false_eq_true implies_true forall_const imp_self and_self true_and and_true false_and and_false Bool.and_true Bool.true_and Bool.false_and Bool.and_false Bool.or_true Bool.true_or Bool.or_false Bool.false_or Bool.not_true Bool.not_false Bool.not_not xms xta xwj xwk Bool.false_eq_true List.length_cons List.length_nil List.length_append List.set_cons_zero List.set_cons_succ List.cons_append List.map_cons List.map_nil List.all_cons List.all_nil List.getElem?_cons_zero List.getElem?_cons_succ List.getElem?_nil List.getD_cons_zero List.getD_cons_succ List.drop_zero List.drop_succ_cons List.take_zero List.take_succ_cons List.drop_nil List.take_nil List.forall_mem_cons List.not_mem_nil false_imp_iff List.flatten_cons List.flatten_nil ASlot.toCells ASlot.dCells ASlot.dCellsOk ASlot.cellD ASlot.isCellD ASlot.isOne ASlot.asD ASlot.rows D.isCell wy yu storeAt qb1 ql AObj.cells binS qlg qof qeh hiB loB qck qqg qcl qar km qch qpf Option.map_some Option.map_none Option.isSome_some q6k St.bump_mk xmw qnh ql5 qag qu7 xmt ltB qrq qrr decide_true decide_false RVar.good RVar.slot xmu frW qc9 xtd xf9 xgb quc xch xmx qpj xgc Int.toNat_natCast List.length_map xga q1x q6n xcg q6o xtb xmv q6l q1w xtc q6m qxq qkg xi List.nodup_nil Option.some.injEq ASlot.d.injEq D.bool.injEq D.int.injEq D.agg.injEq D.sl.injEq List.cons.injEq D.okW D.okWL D.okWR D.okW_noPtr D.okWL_noPtr D.okWR_noPtr D.noPtr D.noPtrL D.noPtrR ASlot.eqvD x0q xy9 xza xtf xm0 xtg xwm xth xti xtj xtk xm1 xge xgf xm2 xgg xm3 q1z q6q qrt xm4 xm5 xci qru q6r xgh qaf qxs qud qxt que qrs xmz xte q6p xmy qdr yq Int.toNat_zero D.default_eq Option.getD_some Option.getD_none qxr q1y Nat.add_sub_cancel beq_self_eq_true ASlot.noPtr zk Bool.and_self Bool.and_self_left Bool.and_self_right bne_self_eq_false q1v disj xmr qxu D.ren D.renL D.renR xs4 xy6 xs5 xmm xwi xs6 xs7 ASlot.ren1 AObj.ren D.renL_noPtr D.renR_noPtr D.ren_noPtr D.inK D.inKL D.inKR D.inK_noPtr D.inKL_noPtr D.inKR_noPtr ASlot.inK ASlot.inKC AObj.inK jn List.zip_cons_cons List.zip_nil_left List.zip_nil_right qef xff qga q09 isNone qay List.isEmpty_nil List.isEmpty_cons List.drop_nil Option.some_inj exists_eq_left' exists_eq_left Option.toList_some Option.toList_none
end Go.Abs
