/- StoreCrash returns true for every input, and its input reads behind the call as before. -/
import Derived.Test.YtinnaedmdoengaaMgp
import Derived.Test.YtinnaedmdoengaaRows
import Derived.Calls
import Derived.Orders
import Derived.Tactics
import Derived.Laws.AppendOwn
import Derived.Laws.Slices
import Derived.Laws.Closers25
import Derived.Laws.StructEq
import Derived.Laws.BytesString
import Derived.Laws.CopyRow
import Derived.MapKept
import Derived.Maps.RangeRun
import Derived.TacticsIn
import Derived.OrdersIn
import Derived.RangeFuncRecord
import Derived.RangeFuncLeaves
import Derived.IntWalk
import Derived.ProofKit
import Derived.OpenShut
import Derived.Carry
import Derived.Test.YtinnaedmdoengaaProg
import Derived.KernelRfl
import Derived.OwnWalkIn
import Derived.TacticsInMore
import Derived.LoopIn
import Derived.WalkKit
import Derived.Lib.Strings
import Derived.Lib.Slices
import Derived.Lib.Walk
import Derived.Lib.Bytealg
import Derived.Shelf.SlSortCmp.WholeK
import Derived.Shelf.SlSortCmp.NoneTotal

namespace Go.Proofs.Ytinnaedmdoengaa
open Go.Abs Go.ChangeShapes Go.WideShapes Go.ChangeAt Go.RowKit
set_option linter.unusedSimpArgs false
set_option linter.constructorNameAsVariable false
theorem q62 {n : Int} (h : (Lit.int .u16 n).wf = true) : 0 ≤ n ∧ n ≤ 65535 := by
 have h1 : IntKind.u16.min = 0 := by decide
 have h2 : IntKind.u16.max = 65535 := by decide
 simp only [Lit.wf, Bool.and_eq_true, decide_eq_true_eq, h1, h2] at h
 exact h
theorem q63 {n : Nat} {ds : List D} (h : Shp Try.prog (n + 1) 87 ds) : ∃ x : Nat, ds = [.int .u16 (x : Nat)] ∧ x < 65536 := by
 simp only [Shp, Try.underlying87] at h
 obtain ⟨x, rfl, h⟩ := h
 have := q62 h
 refine ⟨x.toNat, ?_, by omega⟩
 rw [Int.toNat_of_nonneg this.1]
theorem q64 (n : Int) : argS Try.prog 87 [.int .u16 n] = .d (.int .u16 n) := by simp only [argS, Try.underlying87]; rfl
theorem own : ownKnob Try.prog.godebug = none := by kernel_rfl
theorem xip : laidOutB Try.prog = true := by kernel_rfl
set_option maxRecDepth 100000 in
theorem q65 (os : Os) (started : os.Started) (H : Type) (enc : TypeId × Value → H) :
  ReturnsInHanded {} Try.checked os 9 .any (Rows.storeCrashSpec.pre6 enc Try.prog Try.f9 Rows.storeCrashRow.domain false) (Rows.storeCrashSpec.post enc Try.prog Try.f9 false true false false) := by
 refine returnsInHanded_of_change (C := Try.checked) own started (by kernel_rfl) Try.func9
  (ChangeSpec.witness6 (enc := enc) (C := Try.checked) false ⟨#[], #[.slice none 0 0, .int .u16 0], []⟩ 8 (by kernel_rfl) (by kernel_rfl) (by kernel_rfl) (by kernel_rfl)) ?_
 intro W base args ds gs before hval hW _ _
 refine qqj (n := 8) (base := base) (tb := 4) xip (by kernel_rfl) (by kernel_rfl) (by kernel_rfl) Try.underlying4 rfl ?_ ?_ hW hval
 ·intro ds hl
  have hl' : ds.length = 2 := by rw [hl]; kernel_rfl
  match ds, hl' with
  | [d1, d2], _ => rfl
 ·rw [Try.params9]
  intro a1 s1 a2 s2
  obtain ⟨k, rfl, k1, k2⟩ := qu3 s1
  obtain ⟨n, rfl, n1⟩ := q63 s2
  simp only [List.nil_append, List.cons_append, qu4, q64, LawOk]
  exact qg9 k n n1 k1 k2
theorem q7o : Rows.storeCrashRow.holds Try.pinned (OpenSpec.ofChange Rows.storeCrashSpec) :=
 OpenClaim.holds_of_wide 9 Try.f9 rfl rfl rfl rfl rfl rfl rfl ⟨rfl, rfl, rfl, rfl, rfl⟩ rfl rfl rfl rfl rfl (by kernel_rfl) Try.func9 (by kernel_rfl)
  (of_decide_eq_true (by kernel_rfl)) (by unfold Func.isWrapper; first | (rw [if_pos (by decide +kernel)]; kernel_rfl) | (rw [if_neg (by decide +kernel)]; exact ⟨rfl, rfl⟩))
  (fun os started H enc _ => q65 os started H enc)
theorem proved : Rows.StoreCrashSaid := q7o
end Go.Proofs.Ytinnaedmdoengaa
