/- Texts Ly. -/
import Derived.Test.YtkcdbcbpbolgkaaGreatDoorMwu
import Derived.JoinedOf
import Derived.LaidHandle
set_option linter.unusedSimpArgs false
set_option linter.unusedVariables false
set_option linter.defProp false
set_option maxRecDepth 100000
noncomputable section
namespace Go.Proofs.YtkcdbcbpbolgkaaGreatDoor
open Go.Proofs.YtkcdbcbpbolgkaaGreatDoor.Tryz
open Go.Abs Go.ChangeShapes Go.WideShapes Go.ChangeAt Go.RowKit
theorem own:ownKnob Tryz.prog.godebug=none:=by kernel_rfl
theorem laid:laidOutB Tryz.prog=true:=by kernel_rfl
noncomputable def low:Nat:=(World.holding Tryz.prog default ⟨#[],#[],[]⟩).heap.size
abbrev xz6:ByteArray:={data:= #[118,97,108,117,101,32,111,117,116,32,111,102,32,114,97,110,103,101]}
abbrev xz7:ByteArray:={data:= #[105,110,118,97,108,105,100,32,115,121,110,116,97,120]}
def q0j:DataW Unit->Array Value
 | .agg ds=>(ds.map fun| .lit (.int k n)=>Value.int k n| _=> .nilIface).toArray
 | _=> #[]
def qtu (c:Array Value):Obj->Obj
 | .cells _ t f=> .cells c t f
 |o=>o
noncomputable def q5j (os:Os):World:=
 let w0:=World.holding Tryz.prog os ⟨#[.cells #[.string xz6] 426,.cells #[.string xz7] 426],#[],[]⟩
 {w0 with heap:=((((w0.heap.modify 1 (qtu #[.iface 424 (.pointer (some ⟨low+1,0,none⟩))])).modify 2 (qtu #[.iface 424 (.pointer (some ⟨low,0,none⟩))])).modify 3 (qtu (q0j Rows.laid_internal_strconv_uint64pow10))).modify 4
  (qtu (q0j Rows.laid_math_bits_deBruijn32tab))).modify 5 (qtu (q0j Rows.laid_math_bits_deBruijn64tab))}
theorem q0k (os:Os) (args:Array Value):laidMetH Tryz.prog Rows.brokerOpenRow.laid ((q5j os).forCall (fun _ _=>0) ⟨#[],args,[]⟩).memory:=
 laidMetH_of_parts (laidMet_of_run' 8 (by kernel_rfl) (by kernel_rfl)) (by kernel_rfl)
theorem xyq (os:Os) (started:os.Started) (H:Type) (enc:TypeId×Value->H):
  ReturnsInHanded {} Tryz.checked os 8 .any (fun w args=>(Rows.brokerOpenSpec.pre enc Tryz.prog Tryz.f8 [] false w args∧laidMetH Tryz.prog Rows.brokerOpenRow.laid w)∧sizedMet enc Tryz.prog Tryz.f8 (OpenSpec.ofChange Rows.brokerOpenSpec) false w args)
   (Rows.brokerOpenSpec.post enc Tryz.prog Tryz.f8 false true false false):=by
 refine returnsInHanded_of_change_and (C:=Tryz.checked) (X:=fun w _=>laidMetH Tryz.prog Rows.brokerOpenRow.laid w) (fun _ _ _ hh h=>h.of_heap hh) own started (by kernel_rfl) Tryz.func8
  (ChangeSpec.witness_at (enc:=enc) (C:=Tryz.checked) (os:=os) (X:=fun w _=>laidMetH Tryz.prog Rows.brokerOpenRow.laid w) false (q5j os) #[.slice none 0 0,.int .i64 0,.int .i64 0] 8 rfl (by kernel_rfl) (by kernel_rfl) (by kernel_rfl) (by kernel_rfl) (by kernel_rfl) (q0k os _)) ?_
 intro W base args ds gs before hval hW _ _ hL _
 refine xgk (n:=8) (base:=base) (tb:=4) laid (by kernel_rfl) (by kernel_rfl) (by kernel_rfl) Tryz.underlying4 rfl ?_ ?_ hW hval (q81 (xey hL))
 ·intro ds hl
  have hl':ds.length=3:=by rw[hl];kernel_rfl
  match ds,hl' with
  | [d1,d2,d3],_=>rfl
 ·rw[Tryz.params8]
  intro a1_ s1 a2_ s2 a3_ s3
  obtain⟨x1,rfl,l1⟩:=xay s1
  obtain⟨x2,rfl,i2⟩:=xez s2
  obtain⟨x3,rfl,i3⟩:=xez s3
  simp only[List.nil_append,List.cons_append,xp7,x1f,xnf]
  exact q0i x1 x2 x3 l1
end Go.Proofs.YtkcdbcbpbolgkaaGreatDoor
