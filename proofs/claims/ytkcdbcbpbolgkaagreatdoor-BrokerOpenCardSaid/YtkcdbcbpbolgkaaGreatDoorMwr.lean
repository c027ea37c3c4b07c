/- Texts Fa, Fb. -/
import Derived.Test.YtkcdbcbpbolgkaaGreatDoorMwq
import Derived.Shelf.Spec.SlicesInsertGrow
set_option linter.unusedSimpArgs false
set_option linter.unusedVariables false
set_option linter.defProp false
set_option maxRecDepth 100000
noncomputable section
namespace Go.Proofs.YtkcdbcbpbolgkaaGreatDoor
open Tryz
open Go.Abs Go.RowKit Go.Lib
theorem hov (w:World) (b i off o p vc:Nat) (h d:Array Value) (e ev:TypeId) (hb:w.heap[b]? =some (.cells h e (0,0))) (l:w.heap[i]? =some (.cells d ev (0,0))) (m:i≠b) (h0:h.size≠0):
  (callFunc 226 #[.slice (some ⟨i,0,none⟩) 1 vc,.slice (some ⟨b,off,none⟩) o p]).run prog w= .ok (.value (.bool false)) w:=by
 rw[run_callFunc_extern func226 rfl (by kernel_rfl) (by kernel_rfl) (e:=Extern.SlicesOverlaps.overlaps #[46,46] #[4]) (by kernel_rfl),
  Lib.run_overlaps_apart w 46 4 163 underlying46 4 sizeOf163 ⟨i,0,none⟩ ⟨b,off,none⟩ 1 vc o p m ev e d.size h.size (by simp[World.shape?,l]) (by simp[World.shape?,hb]) h0 (by simp[World.frozen?,l]) (by simp[World.frozen?,l])]
 rfl
section
variable {P:Program} {g:Ghost} {w:World}
end
theorem flat_take {es:Nat}: ∀{rows:List (List D)},(∀r∈rows,r.length=es) -> ∀i,(rows.take i).flatten=rows.flatten.take (i*es)
 | [],_,i=>by simp
 |r::l,h,0=>by simp
 |r::l,h,i+1=>by
  have hr:r.length=es:=h r (by simp);rw[jDp,List.flatten_cons,List.flatten_cons,flat_take (λx hx=>h x (by simp[hx])) i,jEz,hr,jCy];rw[jAq (show r.length<=i*es+es by omega)];congr 2;omega
theorem flat_drop {es:Nat}: ∀{rows:List (List D)},(∀r∈rows,r.length=es) -> ∀i,(rows.drop i).flatten=rows.flatten.drop (i*es)
 | [],_,i=>by simp
 |r::l,h,0=>by simp
 |r::l,h,i+1=>by
  have hr:r.length=es:=h r (by simp);rw[jCs,List.flatten_cons,flat_drop (λx hx=>h x (by simp[hx])) i,List.drop_append,hr,jCy];rw[jDu (show r.length<=i*es+es by omega),List.nil_append];congr 1;omega
end Go.Proofs.YtkcdbcbpbolgkaaGreatDoor
