/- Texts Lt. -/
import Derived.Test.YtkcdbcbpbolgkaaGreatDoorMwt
import Derived.Test.YtkcdbcbpbolgkaaGreatDoorRows
import Derived.LaidLaws
import Derived.FnData
set_option linter.unusedSimpArgs false
set_option linter.unusedVariables false
set_option linter.defProp false
set_option maxRecDepth 100000
noncomputable section
namespace Go.Proofs.YtkcdbcbpbolgkaaGreatDoor
open Go.Proofs.YtkcdbcbpbolgkaaGreatDoor.Tryz
open Go.Abs Go.RowKit
theorem xbb {W:World} {n:String} {k g t:Nat} {cs:Array Value} {fuel:Nat} {p:List MemPlace} {nm:String} {d:DataW Unit} (hk:Tryz.prog.globalNamed n=some k) (ht:(Tryz.prog.globals[k]?).map (·.type)=some 291)
  (e1:Tryz.prog.globalNamed n=some g) (e2:(Tryz.prog.globals[g]?).map (·.type)=some t) (e3:W.var? Tryz.prog n=some cs) (e4:DataW.trod (fun _=>()) Tryz.prog W 0 (fun _=>true) false fuel t cs.toList=some (.iface nm d,p)):
  ∃v,W.cell? ⟨k,0,none⟩=some v∧xlm v=true:=by
 obtain rfl:=jDl (hk.symm.trans e1)
 obtain rfl:=jDl (ht.symm.trans e2)
 obtain⟨_,u,v,hc,_⟩:=iface_of_trod Tryz.underlying291 e4
 have:=World.var?_cell e1 e3 0
 refine⟨.iface u v,?_,rfl⟩
 rw[this,<- jD2,hc];rfl
theorem q81 {W:World} (h:laidMet Tryz.prog Rows.brokerDurableRow.laid W):q9m W:=by
 obtain⟨ps,hv,_⟩:=h
 obtain⟨_,_,_,_,_,_,_,_,_,_,hv,_⟩:=hv
 obtain⟨_,_,_,_,_,_,_,_,_,_,hv,_⟩:=hv
 obtain⟨_,_,_,_,_,_,_,_,_,_,hv,_⟩:=hv
 obtain⟨_,_,_,_,_,_,a1,a2,a3,a4,hv,_⟩:=hv
 obtain⟨_,_,_,_,_,_,b1,b2,b3,b4,_⟩:=hv
 have r:=xbb (k:=2) (by kernel_rfl) (by kernel_rfl) a1 a2 a3 a4
 have s:=xbb (k:=1) (by kernel_rfl) (by kernel_rfl) b1 b2 b3 b4
 intro k hk
 simp only[xbc,jAv,jBk,or_false]at hk
 rcases hk with rfl|rfl
 ·exact s
 ·exact r
theorem xey {W:World} (h:laidMetH Tryz.prog Rows.brokerDurableRow.laid W):laidMet Tryz.prog Rows.brokerDurableRow.laid W:=h
end Go.Proofs.YtkcdbcbpbolgkaaGreatDoor
