/- Texts Lt. -/
import Derived.Test.YtkcdbcbpbolgkaaGreatDoorMrt
import Derived.Test.YtkcdbcbpbolgkaaGreatDoorRows
import Derived.LaidLaws
import Derived.FnData
set_option linter.unusedSimpArgs false
set_option linter.unusedVariables false
set_option linter.defProp false
set_option maxRecDepth 100000
noncomputable section
namespace Go.Proofs.YtkcdbcbpbolgkaaGreatDoor
open Go.Proofs.YtkcdbcbpbolgkaaGreatDoor.Tryz
open Go.Abs Go.RowKit
theorem xtq {n:Int} (h:(Lit.int .u16 n).wf=true):0<=n∧n<=65535:=by
 have h1:IntKind.u16.min=0:=by decide
 have h2:IntKind.u16.max=65535:=by decide
 simp only[Lit.wf,jAf,decide_eq_true_eq,h1,h2]at h;exact h
theorem xtr {n:Nat} {ds:List D} (h:Shp Tryz.prog (n+1) 136 ds): ∃x:Nat,ds= [.int .u16 (x:Nat)]∧x<65536:=by
 simp only[Shp,Tryz.underlying136]at h
 obtain⟨x,rfl,h⟩:=h
 have:=xtq h
 refine⟨x.toNat,?_,by omega⟩
 rw[jEt this.1]
theorem xts (n:Int):argS Tryz.prog 136 [.int .u16 n]= .d (.int .u16 n):=by simp only[argS,Tryz.underlying136];rfl
theorem q8i {W:World} {n:String} {k g t:Nat} {cs:Array Value} {fuel:Nat} {p:List MemPlace} {nm:String} {d:DataW Unit} (hk:Tryz.prog.globalNamed n=some k) (ht:(Tryz.prog.globals[k]?).map (·.type)=some 291)
  (e1:Tryz.prog.globalNamed n=some g) (e2:(Tryz.prog.globals[g]?).map (·.type)=some t) (e3:W.var? Tryz.prog n=some cs) (e4:DataW.trod (fun _=>()) Tryz.prog W 0 (fun _=>true) false fuel t cs.toList=some (.iface nm d,p)):
  ∃v,W.cell? ⟨k,0,none⟩=some v∧xhi v=true:=by
 obtain rfl:=jC7 (hk.symm.trans e1)
 obtain rfl:=jC7 (ht.symm.trans e2)
 obtain⟨_,u,v,hc,_⟩:=iface_of_trod Tryz.underlying291 e4
 have:=World.var?_cell e1 e3 0
 refine⟨.iface u v,?_,rfl⟩
 rw[this,<- jD2,hc];rfl
theorem q57 {W:World} (h:laidMet Tryz.prog Rows.brokerDurableRow.laid W):q6r W:=by
 obtain⟨ps,hv,_⟩:=h
 obtain⟨_,_,_,_,_,_,_,_,_,_,hv,_⟩:=hv
 obtain⟨_,_,_,_,_,_,_,_,_,_,hv,_⟩:=hv
 obtain⟨_,_,_,_,_,_,_,_,_,_,hv,_⟩:=hv
 obtain⟨_,_,_,_,_,_,a1,a2,a3,a4,hv,_⟩:=hv
 obtain⟨_,_,_,_,_,_,b1,b2,b3,b4,_⟩:=hv
 have r:=q8i (k:=2) (by kernel_rfl) (by kernel_rfl) a1 a2 a3 a4
 have s:=q8i (k:=1) (by kernel_rfl) (by kernel_rfl) b1 b2 b3 b4
 intro k hk
 simp only[q8j,jAv,jBl,or_false]at hk
 rcases hk with rfl|rfl
 ·exact s
 ·exact r
theorem xbm {W:World} (h:laidMetH Tryz.prog Rows.brokerDurableRow.laid W):laidMet Tryz.prog Rows.brokerDurableRow.laid W:=h
end Go.Proofs.YtkcdbcbpbolgkaaGreatDoor
