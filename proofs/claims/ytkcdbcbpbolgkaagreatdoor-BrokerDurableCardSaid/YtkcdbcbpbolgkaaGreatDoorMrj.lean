/- Texts Ba. -/
import Derived.Test.YtkcdbcbpbolgkaaGreatDoorMri
import Derived.IntWalk
set_option linter.unusedSimpArgs false
set_option linter.unusedVariables false
set_option linter.defProp false
set_option maxRecDepth 100000
noncomputable section
namespace Go.Abs
def SOp.special:SOp->Bool
 | .call .. =>true
 | .eqnilS .. =>true
 | .nextM .. =>true
 | .appendR .. =>true
 | .entryM .. =>true
 | .callT .. =>true
 | _=>false
def St.put (st:St) (dst:Option Nat) (g:Bool) (out:Out):St:=
 {fr:=ww st.fr dst g out.v,os:=jh st.os out.wrs,live:=qs st.live out,nt:=st.nt}
def stepO (P:Program) (ops:List SOper) (k:Nat) (tids:List (List Nat)) (K:List (List Nat) ->St->Prop) (dst:Option Nat) (st:St) (g:Bool) (out:Out):Prop:=
 Obl g out st.live∧ARun P ops (k+1) (tids++ [out.tags]) K (st.put dst g out)
def xq:Option Bool->(Bool->Prop) ->Prop
 |some g,F=>F g
 |none,_=>False
theorem xh5 {P:Program} {k:Nat} {tids:List (List Nat)} {K:List (List Nat) ->St->Prop} {st:St}:ARun P [] k tids K st=K tids st:=rfl
theorem xb {P:Program} {ops:List SOper} {k:Nat} {tids:List (List Nat)} {K:List (List Nat) ->St->Prop} {st:St} {dst:Option Nat} {op:SOp} {gd:Option (Nat×Bool)} (h:op.special=false):
  ARun P (⟨dst,op,gd⟩::ops) k tids K st=xq (gv st.fr gd) λg=>stepO P ops k tids K dst st g (sem (16*(st.nt+k)) op st):=by
 simp only[ARun];cases gv st.fr gd with
 |none=>rfl
 |some g=>cases op<;>first|rfl|(simp[SOp.special]at h)
section
variable {P:Program} {ops:List SOper} {k:Nat} {tids:List (List Nat)} {K:List (List Nat)→St→Prop} {st:St} {dst:Option Nat} {gd:Option (Nat×Bool)}
theorem xh6 {x:Opd}:ARun P (⟨dst,.mov x,gd⟩::ops) k tids K st=xq (gv st.fr gd) λg=>stepO P ops k tids K dst st g (sem (16*(st.nt+k)) (.mov x) st):=xb rfl
theorem xcl {c a b:Opd}:ARun P (⟨dst,.pick c a b,gd⟩::ops) k tids K st=xq (gv st.fr gd) λg=>stepO P ops k tids K dst st g (sem (16*(st.nt+k)) (.pick c a b) st):=xb rfl
theorem xh7 {back:Nat} {x:Opd}:ARun P (⟨dst,.box back x,gd⟩::ops) k tids K st=xq (gv st.fr gd) λg=>stepO P ops k tids K dst st g (sem (16*(st.nt+k)) (.box back x) st):=xb rfl
theorem q9a {back:Nat} {d:List ASlot}:ARun P (⟨dst,.alloc back d,gd⟩::ops) k tids K st=xq (gv st.fr gd) λg=>stepO P ops k tids K dst st g (sem (16*(st.nt+k)) (.alloc back d) st):=xb rfl
theorem q9b {e:List D} {d:List (Nat×Nat×Opd)}:ARun P (⟨dst,.build e d,gd⟩::ops) k tids K st=xq (gv st.fr gd) λg=>stepO P ops k tids K dst st g (sem (16*(st.nt+k)) (.build e d) st):=xb rfl
theorem qqb {u:Bool} {es len:Nat} {e:List D} {d:List (Nat×Nat×Opd)}:ARun P (⟨dst,.buildSlice u es len e d,gd⟩::ops) k tids K st=xq (gv st.fr gd) λg=>stepO P ops k tids K dst st g (sem (16*(st.nt+k)) (.buildSlice u es len e d) st):=xb rfl
theorem xcm {n:Option Nat} {x:Opd}:ARun P (⟨dst,.load n x,gd⟩::ops) k tids K st=xq (gv st.fr gd) λg=>stepO P ops k tids K dst st g (sem (16*(st.nt+k)) (.load n x) st):=xb rfl
theorem q9c {n:Option Nat} {x v:Opd}:ARun P (⟨dst,.store n x v,gd⟩::ops) k tids K st=xq (gv st.fr gd) λg=>stepO P ops k tids K dst st g (sem (16*(st.nt+k)) (.store n x v) st):=xb rfl
theorem qv9 {x:Opd}:ARun P (⟨dst,.nilCheck x,gd⟩::ops) k tids K st=xq (gv st.fr gd) λg=>stepO P ops k tids K dst st g (sem (16*(st.nt+k)) (.nilCheck x) st):=xb rfl
theorem xh8 {d:BinOp} {x y:Opd}:ARun P (⟨dst,.bin d x y,gd⟩::ops) k tids K st=xq (gv st.fr gd) λg=>stepO P ops k tids K dst st g (sem (16*(st.nt+k)) (.bin d x y) st):=xb rfl
theorem xh9 {d:Bool} {x y:Opd}:ARun P (⟨dst,.eqb d x y,gd⟩::ops) k tids K st=xq (gv st.fr gd) λg=>stepO P ops k tids K dst st g (sem (16*(st.nt+k)) (.eqb d x y) st):=xb rfl
theorem q9d {d:Bool} {k':NK} {x:Opd}:ARun P (⟨dst,.eqnil d k' x,gd⟩::ops) k tids K st=xq (gv st.fr gd) λg=>stepO P ops k tids K dst st g (sem (16*(st.nt+k)) (.eqnil d k' x) st):=xb rfl
theorem q9e {d:Bool} {ks:List CK} {x y:Opd}:ARun P (⟨dst,.eqAgg d ks x y,gd⟩::ops) k tids K st=xq (gv st.fr gd) λg=>stepO P ops k tids K dst st g (sem (16*(st.nt+k)) (.eqAgg d ks x y) st):=xb rfl
theorem xia {x:Opd}:ARun P (⟨dst,.not x,gd⟩::ops) k tids K st=xq (gv st.fr gd) λg=>stepO P ops k tids K dst st g (sem (16*(st.nt+k)) (.not x) st):=xb rfl
theorem xib {x:Opd}:ARun P (⟨dst,.neg x,gd⟩::ops) k tids K st=xq (gv st.fr gd) λg=>stepO P ops k tids K dst st g (sem (16*(st.nt+k)) (.neg x) st):=xb rfl
theorem xcn {k':IntKind} {x:Opd}:ARun P (⟨dst,.conv k' x,gd⟩::ops) k tids K st=xq (gv st.fr gd) λg=>stepO P ops k tids K dst st g (sem (16*(st.nt+k)) (.conv k' x) st):=xb rfl
theorem xic {x:Opd}:ARun P (⟨dst,.i2s x,gd⟩::ops) k tids K st=xq (gv st.fr gd) λg=>stepO P ops k tids K dst st g (sem (16*(st.nt+k)) (.i2s x) st):=xb rfl
theorem xid {x:Opd}:ARun P (⟨dst,.b2s x,gd⟩::ops) k tids K st=xq (gv st.fr gd) λg=>stepO P ops k tids K dst st g (sem (16*(st.nt+k)) (.b2s x) st):=xb rfl
theorem xie {x:Opd}:ARun P (⟨dst,.s2b x,gd⟩::ops) k tids K st=xq (gv st.fr gd) λg=>stepO P ops k tids K dst st g (sem (16*(st.nt+k)) (.s2b x) st):=xb rfl
theorem q3o {fn:Fn} {e d:List Opd}:ARun P (⟨dst,.mkFunc fn e d,gd⟩::ops) k tids K st=xq (gv st.fr gd) λg=>stepO P ops k tids K dst st g (sem (16*(st.nt+k)) (.mkFunc fn e d) st):=xb rfl
theorem qsz {u:Bool} {es bytes:Nat} {d:List D} {l c:Opd}:ARun P (⟨dst,.makeSlice u es bytes d l c,gd⟩::ops) k tids K st=xq (gv st.fr gd) λg=>stepO P ops k tids K dst st g (sem (16*(st.nt+k)) (.makeSlice u es bytes d l c) st):=xb rfl
theorem qqc {back es bytes:Nat} {d:List D} {l c:Opd}:ARun P (⟨dst,.makeSliceO back es bytes d l c,gd⟩::ops) k tids K st=xq (gv st.fr gd) λg=>stepO P ops k tids K dst st g (sem (16*(st.nt+k)) (.makeSliceO back es bytes d l c) st):=xb rfl
theorem q9f {es:Nat} {x:Opd} {lo hi mx:Option Opd}:ARun P (⟨dst,.slice es x lo hi mx,gd⟩::ops) k tids K st=xq (gv st.fr gd) λg=>stepO P ops k tids K dst st g (sem (16*(st.nt+k)) (.slice es x lo hi mx) st):=xb rfl
theorem q3p {len es:Nat} {x:Opd} {lo hi mx:Option Opd}:ARun P (⟨dst,.sliceA len es x lo hi mx,gd⟩::ops) k tids K st=xq (gv st.fr gd) λg=>stepO P ops k tids K dst st g (sem (16*(st.nt+k)) (.sliceA len es x lo hi mx) st):=xb rfl
theorem q3q {x:Opd} {lo hi:Option Opd}:ARun P (⟨dst,.sliceS x lo hi,gd⟩::ops) k tids K st=xq (gv st.fr gd) λg=>stepO P ops k tids K dst st g (sem (16*(st.nt+k)) (.sliceS x lo hi) st):=xb rfl
theorem q9g {off:Nat} {x:Opd}:ARun P (⟨dst,.faddr off x,gd⟩::ops) k tids K st=xq (gv st.fr gd) λg=>stepO P ops k tids K dst st g (sem (16*(st.nt+k)) (.faddr off x) st):=xb rfl
theorem q9h {n:Option Nat} {off:Nat} {x:Opd}:ARun P (⟨dst,.field n off x,gd⟩::ops) k tids K st=xq (gv st.fr gd) λg=>stepO P ops k tids K dst st g (sem (16*(st.nt+k)) (.field n off x) st):=xb rfl
theorem q9i {es:Nat} {x i:Opd}:ARun P (⟨dst,.iaddr es x i,gd⟩::ops) k tids K st=xq (gv st.fr gd) λg=>stepO P ops k tids K dst st g (sem (16*(st.nt+k)) (.iaddr es x i) st):=xb rfl
theorem q3r {len es:Nat} {x i:Opd}:ARun P (⟨dst,.iaddrA len es x i,gd⟩::ops) k tids K st=xq (gv st.fr gd) λg=>stepO P ops k tids K dst st g (sem (16*(st.nt+k)) (.iaddrA len es x i) st):=xb rfl
theorem q3s {x i:Opd}:ARun P (⟨dst,.indexS x i,gd⟩::ops) k tids K st=xq (gv st.fr gd) λg=>stepO P ops k tids K dst st g (sem (16*(st.nt+k)) (.indexS x i) st):=xb rfl
theorem q3t {len es:Nat} {n:Option Nat} {x i:Opd}:ARun P (⟨dst,.indexA len es n x i,gd⟩::ops) k tids K st=xq (gv st.fr gd) λg=>stepO P ops k tids K dst st g (sem (16*(st.nt+k)) (.indexA len es n x i) st):=xb rfl
theorem qzp {i:Nat} {x:Opd}:ARun P (⟨dst,.extract i x,gd⟩::ops) k tids K st=xq (gv st.fr gd) λg=>stepO P ops k tids K dst st g (sem (16*(st.nt+k)) (.extract i x) st):=xb rfl
theorem xif {x:Opd}:ARun P (⟨dst,.len x,gd⟩::ops) k tids K st=xq (gv st.fr gd) λg=>stepO P ops k tids K dst st g (sem (16*(st.nt+k)) (.len x) st):=xb rfl
theorem xco {x:Opd}:ARun P (⟨dst,.lenS x,gd⟩::ops) k tids K st=xq (gv st.fr gd) λg=>stepO P ops k tids K dst st g (sem (16*(st.nt+k)) (.lenS x) st):=xb rfl
theorem q9j {x:Opd}:ARun P (⟨dst,.asStr x,gd⟩::ops) k tids K st=xq (gv st.fr gd) λg=>stepO P ops k tids K dst st g (sem (16*(st.nt+k)) (.asStr x) st):=xb rfl
theorem q3u {u:Bool} {es bytes:Nat} {s x:Opd}:ARun P (⟨dst,.append u es bytes s x,gd⟩::ops) k tids K st=xq (gv st.fr gd) λg=>stepO P ops k tids K dst st g (sem (16*(st.nt+k)) (.append u es bytes s x) st):=xb rfl
theorem xcp {es:Nat} {s x:Opd}:ARun P (⟨dst,.copy es s x,gd⟩::ops) k tids K st=xq (gv st.fr gd) λg=>stepO P ops k tids K dst st g (sem (16*(st.nt+k)) (.copy es s x) st):=xb rfl
theorem qzq {back:Nat}:ARun P (⟨dst,.makeMap back,gd⟩::ops) k tids K st=xq (gv st.fr gd) λg=>stepO P ops k tids K dst st g (sem (16*(st.nt+k)) (.makeMap back) st):=xb rfl
theorem xcq {n:Nat} {x:Opd}:ARun P (⟨dst,.s2ap n x,gd⟩::ops) k tids K st=xq (gv st.fr gd) λg=>stepO P ops k tids K dst st g (sem (16*(st.nt+k)) (.s2ap n x) st):=xb rfl
theorem q3v {kd:KD} {z:ASlot} {c:Bool} {x y:Opd}:ARun P (⟨dst,.lookup kd z c x y,gd⟩::ops) k tids K st=xq (gv st.fr gd) λg=>stepO P ops k tids K dst st g (sem (16*(st.nt+k)) (.lookup kd z c x y) st):=xb rfl
theorem qs0 {kd:KD} {x y v:Opd}:ARun P (⟨dst,.mapUpdate kd x y v,gd⟩::ops) k tids K st=xq (gv st.fr gd) λg=>stepO P ops k tids K dst st g (sem (16*(st.nt+k)) (.mapUpdate kd x y v) st):=xb rfl
theorem q3w {kd:KD} {x y:Opd}:ARun P (⟨dst,.delete kd x y,gd⟩::ops) k tids K st=xq (gv st.fr gd) λg=>stepO P ops k tids K dst st g (sem (16*(st.nt+k)) (.delete kd x y) st):=xb rfl
theorem xcr {x:Opd}:ARun P (⟨dst,.lenM x,gd⟩::ops) k tids K st=xq (gv st.fr gd) λg=>stepO P ops k tids K dst st g (sem (16*(st.nt+k)) (.lenM x) st):=xb rfl
theorem q3x {back:Nat} {x:Opd}:ARun P (⟨dst,.rangeM back x,gd⟩::ops) k tids K st=xq (gv st.fr gd) λg=>stepO P ops k tids K dst st g (sem (16*(st.nt+k)) (.rangeM back x) st):=xb rfl
theorem qzr {t:TypeId} {x:Opd}:ARun P (⟨dst,.mkIface t x,gd⟩::ops) k tids K st=xq (gv st.fr gd) λg=>stepO P ops k tids K dst st g (sem (16*(st.nt+k)) (.mkIface t x) st):=xb rfl
theorem qzs {t:TypeId} {c:Bool} {x:Opd}:ARun P (⟨dst,.assertT t c x,gd⟩::ops) k tids K st=xq (gv st.fr gd) λg=>stepO P ops k tids K dst st g (sem (16*(st.nt+k)) (.assertT t c x) st):=xb rfl
theorem qzt {back es bytes:Nat} {s x:Opd}:ARun P (⟨dst,.appendO back es bytes s x,gd⟩::ops) k tids K st=xq (gv st.fr gd) λg=>stepO P ops k tids K dst st g (sem (16*(st.nt+k)) (.appendO back es bytes s x) st):=xb rfl
theorem q3y {mx:Bool} {x y:Opd}:ARun P (⟨dst,.minmax mx x y,gd⟩::ops) k tids K st=xq (gv st.fr gd) λg=>stepO P ops k tids K dst st g (sem (16*(st.nt+k)) (.minmax mx x y) st):=xb rfl
end
theorem xig {P:Program} {ops:List SOper} {k:Nat} {tids:List (List Nat)} {K:List (List Nat) ->St->Prop} {dst:Option Nat} {fr:Fr} {os:List AObj} {live:List Nat} {nt:Nat} {g:Bool} {v:ASlot} {ob:Prop} {rd:Option Nat}:
  stepO P ops k tids K dst ⟨fr,os,live,nt⟩ g ⟨v,ob,rd,none,[],[],[],[]⟩=((g=true->ob)∧ARun P ops (k+1) (tids++ [rd.toList]) K ⟨ww fr dst g v,os,live,nt⟩):=by
 have hl:qs live (⟨v,ob,rd,none,[],[],[],[]⟩:Out)=live:=xg rfl rfl;simp only[stepO,Obl,Out.tags,Out.wrs,St.put,Out.tame,hl];simp[jh]
theorem xih {P:Program} {ops:List SOper} {k:Nat} {tids:List (List Nat)} {K:List (List Nat) ->St->Prop} {dst:Option Nat} {fr:Fr} {os:List AObj} {live:List Nat} {nt:Nat} {g:Bool} {v:ASlot} {ob:Prop} {rd:Option Nat} {id:Nat} {o:AObj}:
  stepO P ops k tids K dst ⟨fr,os,live,nt⟩ g ⟨v,ob,rd,some (id,o),[],[],[],[]⟩=(g=true∧ob∧ARun P ops (k+1) (tids++ [id::(1000000+id)::rd.toList]) K ⟨ww fr dst g v,os.set id o,live,nt⟩):=by
 have hl:qs live (⟨v,ob,rd,some (id,o),[],[],[],[]⟩:Out)=live:=xg rfl rfl;simp only[stepO,Obl,Out.tags,Out.wrs,St.put,Out.tame,hl];cases g<;>simp[jh]
theorem xcs {P:Program} {ops:List SOper} {k:Nat} {tids:List (List Nat)} {K:List (List Nat) ->St->Prop} {dst:Option Nat} {fr:Fr} {os:List AObj} {live:List Nat} {nt:Nat} {g:Bool} {v:ASlot} {ob:Prop} {rd:Option Nat} {cons:List Nat} {t:Nat}:
  stepO P ops k tids K dst ⟨fr,os,live,nt⟩ g ⟨v,ob,rd,none,cons,[t],[],[]⟩=(g=true∧ob∧(cons.all λt=>live.contains t)=true∧ARun P ops (k+1) (tids++ [rd.toList]) K ⟨ww fr dst g v,os,(live.filter λt=> !cons.contains t)++ [t],nt⟩):=by
 have hc:((cons.all λt=>live.contains t)=true)=(∀t∈cons,t∈live):=by simp
 rw[hc];simp only[stepO,Obl,Out.tags,Out.wrs,St.put,Out.tame,qs];cases g<;>simp[and_assoc,jh]
def ql5 (P:Program) (ops:List SOper) (k:Nat) (tids:List (List Nat)) (K:List (List Nat) ->St->Prop) (dst:Option Nat) (st:St) (g:Bool) (c:Option (FuncId×List ASlot)) (ok:Bool):Prop:=
 ∃n as fa r fo fo' ι q,r.toks.length<=16∧(g=true->c=some (n,as)∧ok=true∧qh P n fa fo r fo'∧(P.funcs[n]?).any (λfn=>fn.body.isSome&& !(fn.name== "runtime.NumGoroutine"))=true∧Fits st.live as fa ι fo.length (x8 as fa)∧ObjFit st.os fo fo' ι∧(xf fo= []∧xf fo'= [])∧(q=true-> ∀p∈ι.zip (fo'.map (AObj.ren ι)),st.os[p.1]? =some p.2))∧
  (g=true∨(zr (16*(st.nt+k)) as fa r fo' ι q).tame)∧ARun P ops (k+1) (tids++ [(zr (16*(st.nt+k)) as fa r fo' ι q).tags]) K (st.put dst g (zr (16*(st.nt+k)) as fa r fo' ι q))
theorem xct {P:Program} {ops:List SOper} {k:Nat} {tids:List (List Nat)} {K:List (List Nat) ->St->Prop} {st:St} {dst:Option Nat} {f:Opd} {args:List Opd} {gd:Option (Nat×Bool)}:
  ARun P (⟨dst,.call f args,gd⟩::ops) k tids K st=xq (gv st.fr gd) λg=>ql5 P ops k tids K dst st g (qi4 st.fr f args) (f.ok st.fr&&args.all λx=>x.ok st.fr):=by
 simp only[ARun];cases hg:gv st.fr gd with
 |none=>rfl
 |some g=>
  simp only[xq,ql5];apply propext;constructor
  ·rintro⟨n,as,fa,r,fo,fo',ι,q,e,d,m,l⟩;exact⟨n,as,fa,r,fo,fo',ι,q,e,λh=>⟨(d h).callee,by rw[(d h).ok,(d h).oks];rfl,(d h).contract,(d h).body,(d h).fits,(d h).objs,(d h).noT,(d h).quiet⟩,m,l⟩
  ·rintro⟨n,as,fa,r,fo,fo',ι,q,e,d,m,l⟩;refine⟨n,as,fa,r,fo,fo',ι,q,e,λh=> ?_,m,l⟩;obtain⟨q1,i,q3,q4,q5,q6,q7,q8⟩:=d h;rw[jAf]at i;exact⟨q1,i.1,i.2,q3,q4,q5,q6,q7,e,q8⟩
theorem ql6 {r:ASlot} (d:r.toks= []) (b:Nat):qeb b r=r:=by
 have hren: ∀(b:Nat) (s:ASlot),s.toks= [] ->renT [] b s=s:=by
  intro b s hs;cases s<;>first|rfl|(simp[ASlot.toks]at hs)
 cases r with
 |tup l=>
  simp only[qeb,wm,d,ASlot.tup.injEq];have: ∀s∈l,renT [] b s=s:=λs hs=>by
   cases s with
   |own t es rows=>simp only[ASlot.toks,jCn]at d;have:=d _ hs;simp[qbt]at this
   |uni t es rows=>simp only[ASlot.toks,jCn]at d;have:=d _ hs;simp[qbt]at this
   | _=>rfl
  rw[jC4 this,List.map_id']
 |own t es rows=>simp[ASlot.toks]at d
 |uni t es rows=>simp[ASlot.toks]at d
 | _=>rfl
mutual
theorem qnl {s:ASlot} (k:Nat) (h:s.noPtr=true):s.inK k=true:=by
 cases s with
 |d x=>exact D.inK_noPtr k h
 |own t es rows=>exact D.inKR_noPtr k h
 |uni t es rows=>exact D.inKR_noPtr k h
 |full es rows=>exact D.inKR_noPtr k h
 |rd cs=>exact D.inKL_noPtr k h
 | _=>simp[ASlot.noPtr]at h
end
theorem qtr (os:List AObj):ObjFit os [] [] []:=⟨jD6,rfl,jAh _,trivial,by simp,rfl⟩
theorem qqd (l:List ASlot):l.map (ASlot.ren [])=l:=by
 have:ASlot.ren []=id:=by funext s;rfl
 rw[this,List.map_id]
theorem xz {P:Program} {ops:List SOper} {k:Nat} {tids:List (List Nat)} {K:List (List Nat) ->St->Prop} {fr:Fr} {os:List AObj} {live:List Nat} {nt:Nat} {dst:Option Nat} {g ok:Bool} {n:FuncId} {fa as:List ASlot} {r:ASlot}
  (hc:qh P n fa [] r []) (hb:(P.funcs[n]?).any (λfn=>fn.body.isSome&& !(fn.name== "runtime.NumGoroutine"))=true) (ho:g=true->ok=true)
  (hfit:g=true->yr as fa) (m:fa.all ASlot.noPtr=true) (l:x8 as fa= []) (i:r.toks= [])
  (hK:ARun P ops (k+1) (tids++ [[]]) K ⟨ww fr dst g r,os,live,nt⟩):
  ql5 P ops k tids K dst ⟨fr,os,live,nt⟩ g (some (n,as)) ok:=by
 have d:=ql6 i;have e:St.put (⟨fr,os,live,nt⟩:St) dst g (zr (16*(nt+k)) as fa r [] [] false)=⟨ww fr dst g r,os,live,nt⟩:=by
  simp only[St.put,zr,Out.wrs,d,qs,l,i];simp[jh,ASlot.ren]
 refine⟨n,as,fa,r,[],[],[],false,by rw[i];simp,λh=>⟨rfl,ho h,hc,hb,⟨by rw[qqd];exact hfit h,jAx.2 λs hs=>qnl _ (jAx.1 m s hs),by rw[l];simp,by rw[l];simp⟩,qtr _,⟨rfl,rfl⟩,(nomatch ·)⟩,.inr ⟨by simp[zr,Out.wrs],by simp[zr,l],by simp[zr,d,i]⟩,?_⟩;rw[e];exact hK
theorem qei {P:Program} {ops:List SOper} {k:Nat} {tids:List (List Nat)} {K:List (List Nat) ->St->Prop} {fr:Fr} {os:List AObj} {live:List Nat} {nt:Nat} {dst:Option Nat} {g ok:Bool} {c:Option (FuncId×List ASlot)} (x:D)
  (hg:g=false) (hK:ARun P ops (k+1) (tids++ [[]]) K ⟨ww fr dst g (.d x),os,live,nt⟩):ql5 P ops k tids K dst ⟨fr,os,live,nt⟩ g c ok:=by
 subst hg;refine⟨0,[],[],.d x,[],[],[],false,by simp[ASlot.toks],λh=>(by cases h),.inr ⟨rfl,rfl,rfl⟩,?_⟩;have:St.put (⟨fr,os,live,nt⟩:St) dst false (zr (16*(nt+k)) [] [] (.d x) [] [] false)=⟨ww fr dst false (.d x),os,live,nt⟩:=by
  simp[St.put,zr,Out.wrs,qeb,wm,renT,qs,x8,ASlot.toks,jh,ASlot.ren]
 rw[this];exact hK
theorem xn7 {s:ASlot}:ASlot.ren [] s=s:=rfl
theorem xt5 {i:Nat} {ι:List Nat} {x:D}:ASlot.ren (i::ι) (.d x)= .d (x.ren (i::ι)):=rfl
theorem xn8 {i:Nat} {ι:List Nat} {t es:Nat} {rows:List (List D)}:ASlot.ren (i::ι) (.own t es rows)= .own t es (D.renR (i::ι) rows):=rfl
theorem xii {i:Nat} {ι:List Nat} {es:Nat} {rows:List (List D)}:ASlot.ren (i::ι) (.full es rows)= .full es (D.renR (i::ι) rows):=rfl
theorem xri {i:Nat} {ι:List Nat} {cs:List D}:ASlot.ren (i::ι) (.rd cs)= .rd (D.renL (i::ι) cs):=rfl
theorem xn9 {i:Nat} {ι:List Nat} {l:List ASlot}:ASlot.ren (i::ι) (.tup l)= .tup (l.map (ASlot.ren1 (i::ι))):=rfl
theorem xoa {i:Nat} {ι:List Nat}:ASlot.ren (i::ι) .bad= .bad:=rfl
def isNone (os:List AObj) (id:Nat):Bool:=match os[id]?with|some .none=>true| _=>false
def qad:List ASlot->Bool
 | []=>true
 |s::l=>s.toks.isEmpty&&qad l
theorem qts: ∀(l:List ASlot),qad l=true↔ ∀s∈l,s.toks= []
 | []=>by simp[qad]
 |s::l=>by simp[qad,qts l]
theorem qfs: ∀{l:List AObj},(l.all λo=>qad o.cells)=true->xf l= []
 | [],_=>rfl
 |o::l,h=>by
  rw[jCy,jAf]at h;simp only[xf,qfs h.2,jAu,jCn];exact(qts _).1 h.1
theorem xcu {P:Program} {ops:List SOper} {k:Nat} {tids:List (List Nat)} {K:List (List Nat) ->St->Prop} {fr:Fr} {os:List AObj} {live:List Nat} {nt:Nat} {dst:Option Nat} {ok:Bool} {n:FuncId} {fa as:List ASlot} {r:ASlot} {fo fo':List AObj} (ι:List Nat)
  (hc:qh P n fa fo r fo') (hb:(P.funcs[n]?).any (λfn=>fn.body.isSome&& !(fn.name== "runtime.NumGoroutine"))=true) (ho:ok=true)
  (hfit:yr as (fa.map (ASlot.ren ι))) (C:fa.all (ASlot.inK fo.length)=true) (F:x8 as fa= []) (u:r.toks= [])
  (v:ι.Nodup) (l:ι.length=fo'.length) (z:fo.length<=fo'.length) (hold:qdi ι os ι fo) (e:(ι.drop fo.length).all (isNone os)=true) (hik:fo.all (AObj.inK fo.length)=true) (htk:(fo'.all λo=>qad o.cells)=true) (q:(fo.all λo=>qad o.cells)=true)
  (hK:ARun P ops (k+1) (tids++ [ι++ι.map λi=>1000000+i]) K ⟨ww fr dst true (r.ren ι),jh os (ι.zip (fo'.map (AObj.ren ι))),live,nt⟩):
  ql5 P ops k tids K dst ⟨fr,os,live,nt⟩ true (some (n,as)) ok:=by
 have t:=ql6 u;have d:St.put (⟨fr,os,live,nt⟩:St) dst true (zr (16*(nt+k)) as fa r fo' ι false)=⟨ww fr dst true (r.ren ι),jh os (ι.zip (fo'.map (AObj.ren ι))),live,nt⟩:=by
  simp only[St.put,zr,Out.wrs,t,qs,F,u,cond_false];simp
 have m:(zr (16*(nt+k)) as fa r fo' ι false).tags=ι++ι.map (λi=>1000000+i):=by
  simp only[Out.tags,Out.wrs,zr,cond_false];have:(ι.zip (fo'.map (AObj.ren ι))).map (·.1)=ι:=by
   rw[List.map_fst_zip (by rw[jAm];omega)]
  have h2:(ι.zip (fo'.map (AObj.ren ι))).map (λp=>1000000+p.1)=ι.map λi=>1000000+i:=by
   rw[<- this,jEb];rw[this];rfl
  simp[this,h2]
 refine⟨n,as,fa,r,fo,fo',ι,false,by rw[u];simp,λ_=>⟨rfl,ho,hc,hb,⟨hfit,C,by rw[F];simp,by rw[F];simp⟩,⟨v,l,z,hold,λid E=> ?_,hik⟩,⟨qfs q,qfs htk⟩,(nomatch ·)⟩,.inl rfl,?_⟩
 ·have:=jAx.1 e id E;unfold isNone at this;split at this
  ·rename_i h;exact h
  ·cases this
 ·rw[m,d];exact hK
def nilO (P:Program) (ops:List SOper) (k:Nat) (tids:List (List Nat)) (K:List (List Nat) ->St->Prop) (dst:Option Nat) (st:St) (g e ok:Bool) (s:ASlot):Prop:=
 g=true∧ok=true∧ ∃es rows,s.rows=some (es,rows)∧ ∀b:Bool,(b=true->rows= []) ->ARun P ops (k+1) (tids++ [[]]) K ⟨ww st.fr dst true (.d (.bool (if e=true then !b else b))),st.os,st.live,st.nt⟩
theorem q3z {P:Program} {ops:List SOper} {k:Nat} {tids:List (List Nat)} {K:List (List Nat) ->St->Prop} {st:St} {dst:Option Nat} {e:Bool} {x:Opd} {gd:Option (Nat×Bool)}:
  ARun P (⟨dst,.eqnilS e x,gd⟩::ops) k tids K st=xq (gv st.fr gd) λg=>nilO P ops k tids K dst st g e (x.ok st.fr) (x.get st.fr):=by
 simp only[ARun];cases gv st.fr gd with
 |none=>rfl
 |some g=>
  cases g with
  |false=>simp[xq,nilO]
  |true=>
   have hn: ∀b,st.next ⟨dst,.eqnilS e x,gd⟩ true (qth e b)=⟨ww st.fr dst true (.d (.bool (if e=true then !b else b))),st.os,st.live,st.nt⟩:=by
    intro b;have hl:qs st.live (qth e b)=st.live:=xg rfl rfl;simp only[St.next,hl];rfl
   simp only[xq,nilO,hn]
def xij (P:Program) (ops:List SOper) (k:Nat) (tids:List (List Nat)) (K:List (List Nat) ->St->Prop) (dst:Option Nat) (st:St) (g ok:Bool) (s:ASlot):Prop:=
 g=true∧ok=true∧ ∃h,s= .d (.ptr h 0)∧
  ((∃since seen last,st.os[h]? =some (.iter (.d .nilmap) since seen last)∧ARun P ops (k+1) (tids++ [[]]) K ⟨ww st.fr dst true qpq,st.os,st.live,st.nt⟩)∨
   ∃mid since seen last es clock,IterOn st.os h mid since seen last es clock∧(qf7 es seen= [] ->ARun P ops (k+1) (tids++ [[]]) K ⟨ww st.fr dst true qpq,st.os,st.live,st.nt⟩)∧
    ∀e∈qf7 es seen,ARun P ops (k+1) (tids++ [[]]) K ⟨ww st.fr dst true (entV e),st.os.set h (.iter (.d (.map mid)) since (seen++ [e.1]) clock),st.live,st.nt⟩)
theorem q9l {P:Program} {ops:List SOper} {k:Nat} {tids:List (List Nat)} {K:List (List Nat) ->St->Prop} {st:St} {dst:Option Nat} {x:Opd} {gd:Option (Nat×Bool)}:
  ARun P (⟨dst,.nextM x,gd⟩::ops) k tids K st=xq (gv st.fr gd) λg=>xij P ops k tids K dst st g (x.ok st.fr) (x.get st.fr):=by
 simp only[ARun];cases gv st.fr gd with
 |none=>rfl
 |some g=>
  cases g with
  |false=>simp[xq,xij]
  |true=>
   have h1:st.next ⟨dst,.nextM x,gd⟩ true qgb=⟨ww st.fr dst true qpq,st.os,st.live,st.nt⟩:=by
    have i:qs st.live qgb=st.live:=xg rfl rfl;simp only[St.next,i];rfl
   have h2: ∀h mid since seen clock e,st.next ⟨dst,.nextM x,gd⟩ true (qp0 h mid since seen clock e)=⟨ww st.fr dst true (entV e),st.os.set h (.iter (.d (.map mid)) since (seen++ [e.1]) clock),st.live,st.nt⟩:=by
    intro h mid since seen clock e;have i:qs st.live (qp0 h mid since seen clock e)=st.live:=xg rfl rfl;simp only[St.next,i];rfl
   simp only[xq,xij,h1,h2]
theorem xik {P:Program} {ops:List SOper} {k:Nat} {tids:List (List Nat)} {K:List (List Nat) ->St->Prop} {fr:Fr} {os:List AObj} {live:List Nat} {nt:Nat} {dst:Option Nat} {ok:Bool} {i mid since last clock:Nat} {seen:List Nat} {es:Ents}
  (h:IterOn os i mid since seen last es clock) (h1:qf7 es seen= [] ->ARun P ops (k+1) (tids++ [[]]) K ⟨ww fr dst true qpq,os,live,nt⟩)
  (h2: ∀e∈qf7 es seen,ARun P ops (k+1) (tids++ [[]]) K ⟨ww fr dst true (entV e),os.set i (.iter (.d (.map mid)) since (seen++ [e.1]) clock),live,nt⟩) (ho:ok=true:=by rfl):
  xij P ops k tids K dst ⟨fr,os,live,nt⟩ true ok (.d (.ptr i 0)):=⟨rfl,ho,i,rfl,.inr ⟨mid,since,seen,last,es,clock,h,h1,h2⟩⟩
def xil (P:Program) (ops:List SOper) (k:Nat) (tids:List (List Nat)) (K:List (List Nat) ->St->Prop) (dst:Option Nat) (st:St) (g:Bool) (back es bytes:Nat) (s x:Opd):Prop:=
 g=true∧(((sem (16*(st.nt+k)) (.appendO back es bytes s x) st).ob∧ARun P ops (k+1) (tids++ [[]]) K (st.next ⟨dst,.appendR back es bytes s x,none⟩ true (sem (16*(st.nt+k)) (.appendO back es bytes s x) st)))∨
     (s.ok st.fr=true∧x.ok st.fr=true∧ ∃id n r,s.get st.fr= .d (.ref id 0 es n)∧y7 es st.os (x.get st.fr)=some r∧AppR st.os es bytes back id n r∧
      ARun P ops (k+1) (tids++ [[]]) K (st.next ⟨dst,.appendR back es bytes s x,none⟩ true (qp1 id id es n st.os r))∧ARun P ops (k+1) (tids++ [[]]) K (st.next ⟨dst,.appendR back es bytes s x,none⟩ true (qp1 id (st.os.length-back) es n st.os r))))
theorem qzu {P:Program} {ops:List SOper} {k:Nat} {tids:List (List Nat)} {K:List (List Nat) ->St->Prop} {st:St} {dst:Option Nat} {back es bytes:Nat} {s x:Opd} {gd:Option (Nat×Bool)}:
  ARun P (⟨dst,.appendR back es bytes s x,gd⟩::ops) k tids K st=xq (gv st.fr gd) λg=>xil P ops k tids K dst st g back es bytes s x:=by
 simp only[ARun];cases gv st.fr gd with
 |none=>rfl
 |some g=>
  cases g with
  |false=>simp[xq,xil]
  |true=>rfl
def q6o (P:Program) (ops:List SOper) (k:Nat) (tids:List (List Nat)) (K:List (List Nat) ->St->Prop) (dst:Option Nat) (st:St) (g ok:Bool) (s:ASlot):Prop:=
 g=true∧ok=true∧ ∃h mid since seen clock es e,s= .d (.ptr h 0)∧EntryOn st.os h mid since seen clock es e∧ARun P ops (k+1) (tids++ [[]]) K ⟨ww st.fr dst true (.tup [.d e.2.1,.d e.2.2]),st.os,st.live,st.nt⟩
theorem q30 {P:Program} {ops:List SOper} {k:Nat} {tids:List (List Nat)} {K:List (List Nat) ->St->Prop} {st:St} {dst:Option Nat} {x:Opd} {gd:Option (Nat×Bool)}:
  ARun P (⟨dst,.entryM x,gd⟩::ops) k tids K st=xq (gv st.fr gd) λg=>q6o P ops k tids K dst st g (x.ok st.fr) (x.get st.fr):=by
 simp only[ARun];cases gv st.fr gd with
 |none=>rfl
 |some g=>
  cases g with
  |false=>simp[xq,q6o]
  |true=>
   have h1: ∀e,st.next ⟨dst,.entryM x,gd⟩ true (qgc e)=⟨ww st.fr dst true (.tup [.d e.2.1,.d e.2.2]),st.os,st.live,st.nt⟩:=by
    intro e;have hl:qs st.live (qgc e)=st.live:=xg rfl rfl;simp only[St.next,hl];rfl
   simp only[xq,q6o,h1]
theorem xcv {P:Program} {ops:List SOper} {k:Nat} {tids:List (List Nat)} {K:List (List Nat) ->St->Prop} {fr:Fr} {os:List AObj} {live:List Nat} {nt:Nat} {dst:Option Nat} {ok:Bool} {i mid since clock:Nat} {seen:List Nat} {es:Ents} {e:Nat×D×D}
  (h:EntryOn os i mid since seen clock es e) (h1:ARun P ops (k+1) (tids++ [[]]) K ⟨ww fr dst true (.tup [.d e.2.1,.d e.2.2]),os,live,nt⟩) (ho:ok=true:=by rfl):
  q6o P ops k tids K dst ⟨fr,os,live,nt⟩ true ok (.d (.ptr i 0)):=⟨rfl,ho,i,mid,since,seen,clock,es,e,rfl,h,h1⟩
theorem ql7 {P:Program} {ops:List SOper} {k:Nat} {tids:List (List Nat)} {K:List (List Nat) ->St->Prop} {fr:Fr} {os:List AObj} {live:List Nat} {nt:Nat} {dst:Option Nat} {e ok:Bool} {s:ASlot} {es:Nat} {rows:List (List D)}
  (ho:ok=true) (hr:s.rows=some (es,rows)) (h: ∀b:Bool,(b=true->rows= []) ->ARun P ops (k+1) (tids++ [[]]) K ⟨ww fr dst true (.d (.bool (if e=true then !b else b))),os,live,nt⟩):
  nilO P ops k tids K dst ⟨fr,os,live,nt⟩ true e ok s:=⟨rfl,ho,es,rows,hr,h⟩
structure Fits0 (live:List Nat) (as fa:List ASlot):Prop where
 all:yr as fa
 noPtr:fa.all ASlot.noPtr=true
 lv: ∀p∈x8 as fa,p.1∈live
 nd1:((x8 as fa).map (·.1)).Nodup
theorem qhm {P:Program} {ops:List SOper} {k:Nat} {tids:List (List Nat)} {K:List (List Nat) ->St->Prop} {fr:Fr} {os:List AObj} {live:List Nat} {nt:Nat} {dst:Option Nat} {ok:Bool} {n:FuncId} {fa as:List ASlot} {r:ASlot}
  (hc:qh P n fa [] r []) (hb:(P.funcs[n]?).any (λfn=>fn.body.isSome&& !(fn.name== "runtime.NumGoroutine"))=true) (ho:ok=true)
  (hfit:Fits0 live as fa) (hnd:r.toks.Nodup) (d:r.toks.length<=16)
  (hK:ARun P ops (k+1) (tids++ [[]]) K ⟨ww fr dst true (qeb (16*(nt+k)) r),os,(live.filter λt=> !((x8 as fa).map (·.1)).contains t)++(qeb (16*(nt+k)) r).toks,nt⟩):
  ql5 P ops k tids K dst ⟨fr,os,live,nt⟩ true (some (n,as)) ok:=
 ⟨n,as,fa,r,[],[],[],false,d,λ_=>⟨rfl,ho,hc,hb,⟨by rw[qqd];exact hfit.all,jAx.2 λs hs=>qnl _ (jAx.1 hfit.noPtr s hs),hfit.lv,hfit.nd1⟩,qtr _,⟨rfl,rfl⟩,(nomatch ·)⟩,.inl rfl,hK⟩
def q6p (P:Program) (ops:List SOper) (k:Nat) (tids:List (List Nat)) (K:List (List Nat) ->St->Prop) (dst:Option Nat) (st:St) (g:Bool) (c:Option (FuncId×List ASlot)) (ok:Bool):Prop:=
 g=true∧ ∃n as fa r fo fo' ι H R,(c=some (n,as)∧ok=true∧qh P n fa fo r fo'∧(P.funcs[n]?).any (λfn=>fn.body.isSome&& !(fn.name== "runtime.NumGoroutine"))=true∧H=x8 as fa++wj st.os ι fo∧R=r.toks++xf fo'∧
  Fits st.live as fa ι fo.length H∧ObjFit st.os fo fo' ι∧R.length<=16)∧ARun P ops (k+1) (tids++ [[]]) K (st.put dst true (qdo (16*(st.nt+k)) H R r fo' ι))
theorem q9m {P:Program} {ops:List SOper} {k:Nat} {tids:List (List Nat)} {K:List (List Nat) ->St->Prop} {st:St} {dst:Option Nat} {f:Opd} {args:List Opd} {gd:Option (Nat×Bool)}:
  ARun P (⟨dst,.callT f args,gd⟩::ops) k tids K st=xq (gv st.fr gd) λg=>q6p P ops k tids K dst st g (qi4 st.fr f args) (f.ok st.fr&&args.all λx=>x.ok st.fr):=by
 simp only[ARun];cases hg:gv st.fr gd with
 |none=>rfl
 |some g=>
  simp only[xq,q6p];apply propext;constructor
  ·rintro⟨rfl,n,as,fa,r,fo,fo',ι,H,R,h,e⟩;exact⟨rfl,n,as,fa,r,fo,fo',ι,H,R,⟨h.callee,by rw[h.ok,h.oks];rfl,h.contract,h.body,h.hH,h.hR,h.fits,h.objs,h.few⟩,e⟩
  ·rintro⟨rfl,n,as,fa,r,fo,fo',ι,H,R,⟨q1,d,q3,q4,q5,q6,q7,q8,q9⟩,e⟩;rw[jAf]at d;exact⟨rfl,n,as,fa,r,fo,fo',ι,H,R,⟨q1,d.1,d.2,q3,q4,q5,q6,q7,q8,q9⟩,e⟩
theorem xcw {P:Program} {ops:List SOper} {k:Nat} {tids:List (List Nat)} {K:List (List Nat) ->St->Prop} {fr:Fr} {os:List AObj} {live:List Nat} {nt:Nat} {dst:Option Nat} {ok:Bool} {n:FuncId} {fa as:List ASlot} {r:ASlot} {fo fo':List AObj} (ι:List Nat)
  (hc:qh P n fa fo r fo') (hb:(P.funcs[n]?).any (λfn=>fn.body.isSome&& !(fn.name== "runtime.NumGoroutine"))=true)
  (hK:ARun P ops (k+1) (tids++ [[]]) K ⟨ww fr dst true ((wm (r.toks++xf fo') (16*(nt+k)) r).ren ι),jh os (ι.zip ((fo'.map (AObj.rt (r.toks++xf fo') (16*(nt+k)))).map (AObj.ren ι))),
   (live.filter λt=> !((x8 as fa++wj os ι fo).map (·.1)).contains t)++((wm (r.toks++xf fo') (16*(nt+k)) r).toks++xf (fo'.map (AObj.rt (r.toks++xf fo') (16*(nt+k))))),nt⟩)
  (ho:ok=true) (hfit:yr as (fa.map (ASlot.ren ι))) (o:fa.all (ASlot.inK fo.length)=true)
  (hl:((x8 as fa++wj os ι fo).all λp=>live.contains p.1)=true) (hn:((x8 as fa++wj os ι fo).map (·.1)).Nodup) (i:(r.toks++xf fo').length<=16)
  (l:ι.Nodup) (e:ι.length=fo'.length) (m:fo.length<=fo'.length) (hold:qdi ι os ι fo) (d:(ι.drop fo.length).all (isNone os)=true) (hik:fo.all (AObj.inK fo.length)=true):
  q6p P ops k tids K dst ⟨fr,os,live,nt⟩ true (some (n,as)) ok:=by
 refine⟨rfl,n,as,fa,r,fo,fo',ι,_,_,⟨rfl,ho,hc,hb,rfl,rfl,⟨hfit,o,?_,hn⟩,⟨l,e,m,hold,λid q=> ?_,hik⟩,i⟩,hK⟩
 ·intro p hp;simpa using jAx.1 hl p hp
 ·have:=jAx.1 d id q;unfold isNone at this;split at this
  ·rename_i h;exact h
  ·cases this
theorem qy {P:Program} {k0:Nat} {c:Opd} {x y:SCode} {Q:SExit->St->Prop} {st:St} (t:Bool) (h1:c.ok st.fr=true) (h2:c.get st.fr= .d (.bool t)) (hx:t=true->AWp P k0 x Q st) (hy:t=false->AWp P k0 y Q st):AWp P k0 (.cond c x y) Q st:=
 ⟨t,⟨h1,h2⟩,hx,hy⟩
theorem xob {P:Program} {k0:Nat} {a b:SCode} {Q:SExit->St->Prop} {st:St}:AWp P k0 (.seq a b) Q st=AWp P k0 a (qiw (AWp P k0 b Q) Q) st:=rfl
theorem xim {P:Program} {k0:Nat} {Q:SExit->St->Prop} {st:St}:AWp P k0 .skip Q st=Q .normal st:=rfl
theorem xcx {P:Program} {k0 id:Nat} {a:SCode} {Q:SExit->St->Prop} {st:St}:AWp P k0 (.block id a) Q st=AWp P k0 a (qzn id Q) st:=rfl
theorem xin {P:Program} {k0 id:Nat} {Q:SExit->St->Prop} {st:St}:AWp P k0 (.exit id) Q st=Q (.exit id) st:=rfl
theorem xoc {P:Program} {k0:Nat} {Q:SExit->St->Prop} {st:St}:AWp P k0 .ret Q st=Q .ret st:=rfl
def disj:List Nat->List Nat->Bool
 | [],_=>true
 |i::l,r=> !r.contains i&&disj l r
theorem qwa: ∀(l r:List Nat),disj l r=true↔ ∀i∈l,i∉r
 | [],r=>by simp[disj]
 |i::l,r=>by simp[disj,qwa l r]
theorem xio {l:List Nat}:disj l []=true:=(qwa l []).2 (by simp)
theorem qzv {p:Nat×Nat} {ps:List (Nat×Nat)} {tids:List (List Nat)}:qff (p::ps) tids=(disj (tids.getD p.1 []) (tids.getD p.2 [])=true∧qff ps tids):=by
 rw[qwa];apply propext;simp only[qff,List.forall_mem_cons]
theorem q31 {tids:List (List Nat)}:qff [] tids=True:=by simp[qff]
theorem St.bump_mk {fr:Fr} {os:List AObj} {live:List Nat} {nt n:Nat}:(⟨fr,os,live,nt⟩:St).bump n=⟨fr,os,live,nt+n⟩:=rfl
theorem xip (c a:Bool):(if c=true then a else false)=(c&&a):=by cases c<;>rfl
theorem xod (c b:Bool):(if c=true then true else b)=(c||b):=by cases c<;>rfl
theorem xrj (b:Bool):(b==true)=b:=by cases b<;>rfl
theorem xrk (b:Bool):(b==false)= !b:=by cases b<;>rfl
def qtt:List Nat->Bool
 | []=>true
 |t::l=> !l.contains t&&qtt l
theorem qtu: ∀(l:List Nat),qtt l=true↔l.Nodup
 | []=>by simp[qtt]
 |t::l=>by simp[qtt,qtu l]
def xiq (live live':List Nat) (ps:List (Nat×Nat)):Bool:=ps.all λp=> !live'.contains p.2||live.contains p.1
def ltB (n:Nat) (l:List Nat):Bool:=l.all λt=>decide (t<n)
theorem xir {k0:Nat} {fr e:Fr} {os d:List AObj} {live live':List Nat} {nt i:Nat}:Weak k0 ⟨fr,os,live,nt⟩ ⟨e,d,live',i⟩↔
  frW (wx d) fr e∧osW (wx d) os d∧xiq live live' (qck fr e++yb os d)=true∧qtt ((qck fr e++yb os d).map (·.1))=true∧qgd k0 os d∧
  ltB (16*i) (live'++qi5 e++xf d)=true:=by
 have h1:xiq live live' (qck fr e++yb os d)=true↔ ∀p∈qck fr e++yb os d,p.2∈live'->p.1∈live:=by
  simp only[xiq,jAx,jA1,jBa,List.contains_iff_mem,<- jC1];exact⟨λh p hp l=>(h p hp).resolve_left (λhn=>hn l),λh p hp=>by by_cases l:p.2∈live'<;>simp[l,h p hp]⟩
 have h2:ltB (16*i) (live'++qi5 e++xf d)=true↔ ∀t∈live'++qi5 e++xf d,t<16*i:=by
  simp only[ltB,jAx,decide_eq_true_eq]
 rw[h1,h2,qtu];exact⟨λh=>⟨h.fr,h.os,h.live,h.nd,h.base,h.wf⟩,λh=>⟨h.1,h.2.1,h.2.2.1,h.2.2.2.1,h.2.2.2.2.1,h.2.2.2.2.2⟩⟩
theorem xoe {keep:Nat->Bool} {os:List AObj}:osW keep os []=True:=by cases os with|nil=>rfl|cons o l=>cases o<;>rfl
theorem xis {keep:Nat->Bool} {o:AObj} {l l':List AObj}:osW keep (o::l) (.none::l')=osW keep l l':=by cases o<;>rfl
theorem q32 {os:List AObj}:yb os []= []:=by cases os with|nil=>rfl|cons o l=>cases o<;>rfl
theorem qzw {o:AObj} {l l':List AObj}:yb (o::l) (.none::l')=yb l l':=by cases o<;>rfl
theorem xof {keep:Nat->Bool} {cs:List ASlot}:csW keep cs []=True:=by cases cs<;>rfl
theorem q33 {cs:List ASlot}:qbi cs []= []:=by cases cs<;>rfl
theorem qwb {os d:List AObj}:qgd 0 os d=True:=by simp[qgd]
theorem xog {keep:Nat->Bool} {s:ASlot} {x:D}:qc9 keep s (.d x)=(s.eqvD x∧x.okW keep=true):=by cases s<;>rfl
theorem xcy {keep:Nat->Bool} {s:ASlot}:qc9 keep s .bad=True:=by cases s<;>rfl
theorem xcz {s:ASlot} {x:D}:vy s (.d x)= []:=by cases s<;>rfl
theorem qzx {s:ASlot} {es:Nat} {rows:List (List D)}:vy s (.full es rows)= []:=by cases s<;>rfl
theorem q34 {s:ASlot}:vy s .bad= []:=by cases s<;>rfl
theorem q9n {s:ASlot} {cs:List D}:vy s (.rd cs)= []:=by cases s<;>rfl
theorem q35 {t t' es d:Nat} {r r':List (List D)}:vy (.own t es r) (.own t' d r')= [(t,t')]:=rfl
def ql8 (st:St):List RVar->Prop
 | []=>True
 |r::l=>r.good st∧ql8 st l
theorem qqe {st:St}: ∀(l:List RVar),ql8 st l↔ ∀r∈l,r.good st
 | []=>by simp[ql8]
 |r::l=>by simp[ql8,qqe l]
theorem qqf {α:Type} {x:α} {p:α->Prop}:(∀y∈some x,p y)=p x:=by simp
theorem qqg {α:Type} {p:α->Prop}:(∀y∈(none:Option α),p y)=True:=by simp
theorem xit {k0:Nat} {rvs:List RVar} {rs:List ASlot} {objs:List AObj} {fr:Fr} {os:List AObj} {live:List Nat} {nt:Nat}:
  xcj k0 rvs rs objs ⟨fr,os,live,nt⟩=(ql8 ⟨fr,os,live,nt⟩ rvs∧Weak k0 ⟨y9 (rvs.map (RVar.slot ⟨fr,os,live,nt⟩)) 0,os,live,nt⟩ ⟨y9 rs 0,objs,ve rs++xf objs,1⟩):=by rw[qqe];rfl
def xt6 {α:Type} (k0:Nat) (S:α->St) (μ:α->Nat) (x:α) (st':St):Prop:= ∃y,Weak k0 st' (S y)∧μ y<μ x
theorem qk {α:Type} {P:Program} {k0:Nat} {a:SCode} {Q:SExit->St->Prop} {st:St} (S:α->St) (μ:α->Nat) (d:α) (h0:Weak k0 st (S d))
  (h: ∀x,AWp P k0 a (qiw (xt6 k0 S μ x) Q) (S x)):AWp P k0 (.loop a) Q st:=
 ⟨α,S,μ,d,.weak h0 (.refl _),λx=>AWp.mono a (qfq (λ_ ⟨y,h1,h2⟩=>⟨y,.weak h1 (.refl _),h2⟩) (λ_ _ h=>h)) (h x)⟩
theorem xc0 {keep:Nat->Bool} {t t' es d:Nat} {r r':List (List D)}:qc9 keep (.own t es r) (.own t' d r')=((es=d∧D.eqvR r r')∧D.noPtrR r'=true):=rfl
theorem qs1 {keep:Nat->Bool} {t' es d:Nat} {r r':List (List D)}:qc9 keep (.full es r) (.own t' d r')=(qag es r d r'∧D.noPtrR r'=true):=rfl
theorem q9o {keep:Nat->Bool} {es d:Nat} {r r':List (List D)}:qc9 keep (.full es r) (.full d r')=(qag es r d r'∧D.noPtrR r'=true):=rfl
theorem xiu {keep:Nat->Bool} {r r':List D}:qc9 keep (.rd r) (.rd r')=(D.eqvL r r'∧D.noPtrL r'=true):=rfl
theorem xoh {keep:Nat->Bool} {cs d:List ASlot} {l l':List AObj}:osW keep (.row cs::l) (.row d::l')=(csW keep cs d∧osW keep l l'):=rfl
theorem q36 {cs d:List ASlot} {l l':List AObj}:yb (.row cs::l) (.row d::l')=qbi cs d++yb l l':=rfl
theorem xiv {keep:Nat->Bool} {s s':ASlot} {l l':List ASlot}:csW keep (s::l) (s'::l')=(qc9 keep s s'∧csW keep l l'):=rfl
theorem qc1 {s s':ASlot} {l l':List ASlot}:qbi (s::l) (s'::l')=vy s s'++qbi l l':=rfl
theorem qwc {n:Nat}:((n:Int)+1).toNat=n+1:=by omega
theorem qzy {α β:Type} {f:α->β} {l:List α}:(l.map f).take l.length=l.map f:=by rw[jAr (by simp)]
theorem D.default_eq:(default:D)= .int default default:=rfl
theorem qwd {keep:Nat->Bool} {t' e:Nat} {r':List (List D)}:qc9 keep (.d .nilsl) (.own t' e r')=(r'= []):=rfl
theorem qs2 {keep:Nat->Bool} {e:Nat} {r':List (List D)}:qc9 keep (.d .nilsl) (.full e r')=(r'= []):=rfl
theorem qwe {x:D} {t' e:Nat} {r':List (List D)}:vy (.d x) (.own t' e r')= []:=rfl
theorem qs3 {t' e:Nat} {r':List (List D)}:qb3 (.d .nilsl) (.own t' e r')=(r'= []):=rfl
theorem qqh {e:Nat} {r':List (List D)}:qb3 (.d .nilsl) (.full e r')=(r'= []):=rfl
theorem xiw {d:Nat} {r':List (List D)}:D.eqv .nilsl (.sl d r')=(r'= []):=by simp[D.eqv]
theorem qn8 {t' es d:Nat} {r r':List (List D)}:vy (.full es r) (.own t' d r')= []:=rfl
theorem xc1 (t:Nat): [t].Nodup=True:=by simp
theorem qj {α β:Type} (f:α->β) (l:List α) {i:Nat} (h:i<l.length) (d:β):(l.map f).getD i d=f l[i]:=by simp[List.getD,h]
theorem x7 {α:Type} {f:α->List D} (h: ∀x,D.noPtrL (f x)=true) (l:List α):D.noPtrR (l.map f)=true:=by
 induction l with
 |nil=>rfl
 |cons x l ih=>simp[D.noPtrR,h,ih]
theorem wn {α β:Type} (f:α->β) (l:List α) {i:Nat} (h:i<l.length):(l.take (i+1)).map f=(l.take i).map f++ [f l[i]]:=by
 rw[jAk h,jA2];rfl
theorem qav: ∀(a b:List D),D.noPtrL (a++b)=(D.noPtrL a&&D.noPtrL b)
 | [],b=>by simp[D.noPtrL]
 |x::a,b=>by simp[D.noPtrL,qav a b,jFn]
theorem qkt: ∀(a b:List (List D)),D.noPtrR (a++b)=(D.noPtrR a&&D.noPtrR b)
 | [],b=>by simp[D.noPtrR]
 |x::a,b=>by simp[D.noPtrR,qkt a b,jFn]
theorem wrap_i64 {n:Int} (h1: -9223372036854775808<=n) (h2:n<=9223372036854775807):IntKind.i64.wrap n=n:=IntWalk.i64_in n ⟨h1,h2⟩
theorem qg {n:Nat} (h:n<9223372036854775807):IntKind.i64.wrap ((n:Int)+1)=((n+1:Nat):Int):=by
 rw[wrap_i64 (by omega) (by omega)];rfl
theorem qwf {k:Nat} {o o':AObj} {os d:List AObj}:qgd (k+1) (o::os) (o'::d)=((wx [o] 0=true->wx [o'] 0=true)∧qgd k os d):=by
 apply propext;simp only[qgd];constructor
 ·intro h;refine⟨λh0=> ?_,λid i e=> ?_⟩
  ·exact h 0 (by omega) h0
  ·exact h (id+1) (by omega) e
 ·rintro⟨h1,h2⟩ id i e;cases id with
  |zero=>exact h1 e
  |succ id=>exact h2 id (by omega) e
theorem q6q {P:Program} {mu:List Nat} {news:List (FuncId×Nat)} {f:FuncId} {fn:Func} {sc:SCode} {args rs:List ASlot} {rvs:List RVar} {objs objs':List AObj} (hm:P.follows .mixedOrders=true) (hf:P.funcs[f]? =some fn)
  (hc:fn.body.bind (zn P mu fn.ntmps news)=some sc.erase) (hr:fn.results.toList.mapM (qge P)=some rvs)
  (h:AWp P objs.length sc (q3n objs.length rvs rs objs') (qhl args objs)) (hN:args.length<=fn.ntmps) (hl:rvs.length=rs.length) (d:ltB 16 (ve args++xf objs)=true):qh P f args objs (qp9 rs) objs':=by
 rw[jEc]at hc;obtain⟨c,hb,hc⟩:=hc;refine qv8 hm hf hb (rv:=fn.results.toList) (by simp) hr hc hN hl (λt ht=> ?_) h;simp only[ltB,jAx,decide_eq_true_eq]at d;exact d t ht
theorem xc2 {rs:List ASlot} (h:rs.length≠1):qp9 rs= .tup rs:=by
 match rs with
 | []=>rfl
 | [_]=>simp at h
 | _::_::_=>rfl
theorem xvk (d:D):D.eqv d d=True:=eq_true (D.eqv_refl d)
theorem xt8 (d:List D):D.eqvL d d=True:=eq_true (D.eqvL_refl d)
theorem xt9 (d:List (List D)):D.eqvR d d=True:=eq_true (D.eqvR_refl d)
theorem xoi {k k':IntKind} {n n':Int}:D.eqv (.int k n) (.int k' n')=(k=k'∧n=n'):=by simp[D.eqv]
theorem xix {b b':Bool}:D.eqv (.bool b) (.bool b')=(b=b'):=by simp[D.eqv]
theorem xoj {b b':List UInt8}:D.eqv (.str b) (.str b')=(b=b'):=by simp[D.eqv]
theorem xrm {es d:Nat} {r r':List (List D)}:D.eqv (.sl es r) (.sl d r')=qag es r d r':=by simp[D.eqv,qag]
theorem xok {l l':List D}:D.eqv (.agg l) (.agg l')=D.eqvL l l':=by simp[D.eqv]
theorem xol {b b' o o':Nat}:D.eqv (.ptr b o) (.ptr b' o')=(b=b'∧o=o'):=by simp[D.eqv]
theorem xom {b b' o o' e e' n n':Nat}:D.eqv (.ref b o e n) (.ref b' o' e' n')=(b=b'∧o=o'∧e=e'∧n=n'):=by simp[D.eqv]
theorem xon {b b':Nat}:D.eqv (.map b) (.map b')=(b=b'):=by simp[D.eqv]
theorem xiy {f f':Fn} {a a' b b':List D}:D.eqv (.func f a b) (.func f' a' b')=(f=f'∧D.eqvL a a'∧D.eqvL b b'):=by simp[D.eqv]
theorem xc3 {t t':TypeId} {a a':D}:D.eqv (.iface t a) (.iface t' a')=(t=t'∧D.eqv a a'):=by simp[D.eqv]
theorem xc4 {a a':D} {l l':List D}:D.eqvL (a::l) (a'::l')=(D.eqv a a'∧D.eqvL l l'):=by simp[D.eqvL]
theorem xiz:D.eqvL [] []=True:=by simp[D.eqvL]
theorem xc5 {a a':List D} {l l':List (List D)}:D.eqvR (a::l) (a'::l')=(D.eqvL a a'∧D.eqvR l l'):=by simp[D.eqvR]
theorem xi0:D.eqvR [] []=True:=by simp[D.eqvR]
theorem qzz {es:Nat} {r r':List (List D)}:qag es r es r'=D.eqvR r r':=by simp[qag]
theorem q37 {es d:Nat}:qag es [] d []=True:=by simp[qag,D.eqvR]
theorem qqi {α:Type} {es d:Nat} {f:α->List D}:qag es [] d (List.map f [])=True:=by simp[qag,D.eqvR]
theorem xi1 {a b b':List (List D)}:D.eqvR (a++b) (a++b')=D.eqvR b b':=by
 induction a with
 |nil=>rfl
 |cons x a ih=>simp[D.eqvR,D.eqvL_refl,ih]
theorem xi2 {s:ASlot} {x:D}:qb3 s (.d x)=s.eqvD x:=by cases s<;>rfl
theorem q9p {t t' es d:Nat} {r r':List (List D)}:qb3 (.own t es r) (.own t' d r')=(es=d∧D.eqvR r r'):=rfl
theorem qqj {t' es d:Nat} {r r':List (List D)}:qb3 (.full es r) (.own t' d r')=qag es r d r':=rfl
theorem q38 {es d:Nat} {r r':List (List D)}:qb3 (.full es r) (.full d r')=qag es r d r':=rfl
theorem xc6 {r r':List D}:qb3 (.rd r) (.rd r')=D.eqvL r r':=rfl
theorem qd {x:D}:qb3 (.d x) (.d x):=D.eqv_refl x
def xi3 (P:Program) (ops:List SOper) (objs:Nat) (d:List (Nat×Nat)) (Q:SExit->St->Prop) (st:St):Prop:=AWp P 0 (.region ops objs d) Q st
theorem xoo {P:Program} {k0:Nat} {ops:List SOper} {objs:Nat} {d:List (Nat×Nat)} {Q:SExit->St->Prop} {st:St}:AWp P k0 (.region ops objs d) Q st=xi3 P ops objs d Q st:=rfl
def xi4 (P:Program) (ops:List SOper) (objs:Nat) (d:List (Nat×Nat)) (Q:SExit->St->Prop) (st:St):Prop:=AWp P 0 (.region ops objs d) Q st
def regK (d:List (Nat×Nat)) (Q:SExit->St->Prop) (n:Nat) (tids:List (List Nat)) (st':St):Prop:=qff d tids∧Q .normal (st'.bump n)
theorem xop {d:List (Nat×Nat)} {Q:SExit->St->Prop} {n:Nat} {tids:List (List Nat)} {fr:Fr} {os:List AObj} {live:List Nat} {nt:Nat}:
  regK d Q n tids ⟨fr,os,live,nt⟩=(qff d tids∧Q .normal (⟨fr,os,live,nt+n⟩)):=rfl
theorem xi5 {P:Program} {ops:List SOper} {objs:Nat} {d:List (Nat×Nat)} {Q:SExit->St->Prop} {fr:Fr} {os:List AObj} {live:List Nat} {nt:Nat}:
  xi4 P ops objs d Q ⟨fr,os,live,nt⟩=ARun P ops 0 [] (regK d Q ops.length) ⟨fr,os++List.replicate objs .none,live,nt⟩:=rfl
def xoq {ops d:List SOper} (_:ops=d):List SOper:=d
theorem xrn {R:List Nat} {b:Nat} {x:D}:renC R b (.d x)= .d x:=rfl
theorem xi7 {R:List Nat} {b:Nat}:renC R b .bad= .bad:=rfl
theorem xi8 {R:List Nat} {b t es:Nat} {rows:List (List D)}:renC R b (.own t es rows)= .own (b+R.idxOf t) es rows:=by simp[renC,ASlot.toks,renT]
theorem xc7 {t:Nat}: [t].idxOf t=0:=by simp
attribute [go_sem] q9m xrn xi7 xi8 xc7 AObj.rt wm renT wj
attribute [go_sem] q3z zf qg1 eqOk xob xoo xi5 xop xoq xim xcx xin xoc qiw qzn q3n xh5 xh6 xcl xh7 q9a q9b qqb xcm q9c qv9 xh8 xh9 q9d q9e xnx xia xib xcn xic xid xie q3o qsz q9f q3q q9g q9h q9i q3r q3s q3t qzp xif xco q9j q3u qhl y9 ve List.flatMap_cons List.flatMap_nil ASlot.toks List.append_nil List.nil_append List.replicate Nat.zero_add Nat.add_zero xct qi4 gv xq sem xig xih xcs Fr.get Opd.get Opd.ok ww if_true if_false ite_self or_false or_true true_or false_or or_self List.filter_cons List.filter_nil List.contains_cons List.contains_nil Int.cast_ofNat_Int Int.natCast_add not_false_eq_true implies_true forall_const imp_self and_self true_and and_true false_and and_false Bool.and_true Bool.true_and Bool.false_and Bool.and_false Bool.or_true Bool.true_or Bool.or_false Bool.false_or Bool.not_true Bool.not_false Bool.not_not xip xod xrj xrk Bool.false_eq_true List.length_cons List.length_nil List.length_append List.set_cons_zero List.set_cons_succ List.cons_append List.map_cons List.map_nil List.all_cons List.all_nil List.getElem?_cons_zero List.getElem?_cons_succ List.getElem?_nil List.getD_cons_zero List.getD_cons_succ List.drop_zero List.drop_succ_cons List.take_zero List.take_succ_cons List.drop_nil List.take_nil List.forall_mem_cons List.not_mem_nil false_imp_iff List.flatten_cons List.flatten_nil ASlot.toCells ASlot.dCells ASlot.dCellsOk ASlot.cellD ASlot.isCellD ASlot.isOne ASlot.asD ASlot.rows D.isCell wi w6 storeAt qbf qi AObj.cells binS qj4 qm7 qdl hiB loB qbx qo4 qby y7 jx qbt qn5 Option.map_some Option.map_none Option.isSome_some q31 St.bump_mk xit ql8 qkt qav qtt xiq ltB qqf qqg decide_true decide_false RVar.good RVar.slot xir frW qck xog xcy xc0 qs1 q9o xiu qn8 xc1 Int.toNat_natCast List.length_map xcz qzx q34 q9n q35 xoe xis q32 qzw xof q33 qwb qi5 xf List.nodup_nil Option.some.injEq ASlot.d.injEq D.bool.injEq D.int.injEq D.agg.injEq D.sl.injEq List.cons.injEq D.okW D.okWL D.okWR D.okW_noPtr D.okWL_noPtr D.okWR_noPtr D.noPtr D.noPtrL D.noPtrR ASlot.eqvD xvk xt8 xt9 xoi xix xoj xrm xok xol xom xon xiy xc3 xc4 xiz xc5 xi0 qzz q37 qqi xi1 xi2 q9p qqj q38 xc6 yr qwd qs2 qwe qs3 qqh xiw xoh q36 xiv qc1 wx Int.toNat_zero D.default_eq Option.getD_some Option.getD_none qwc qzy Nat.add_sub_cancel beq_self_eq_true ASlot.noPtr x8 Bool.and_self Bool.and_self_left Bool.and_self_right bne_self_eq_false qzv disj xio qwf D.ren D.renL D.renR xn7 xt5 xn8 xii xri xn9 xoa ASlot.ren1 AObj.ren D.renL_noPtr D.renR_noPtr D.ren_noPtr D.inK D.inKL D.inKR D.inK_noPtr D.inKL_noPtr D.inKR_noPtr ASlot.inK ASlot.inKC AObj.inK jh List.zip_cons_cons List.zip_nil_left List.zip_nil_right qdi xb2 qfe qy9 isNone qad List.isEmpty_nil List.isEmpty_cons List.drop_nil Option.some_inj exists_eq_left' exists_eq_left Option.toList_some Option.toList_none
end Go.Abs
