/- StoreScript returns true for every input, and its input reads behind the call as before. -/
import Derived.Test.YtinnaedmdoengaaGreatMkq
import Derived.Test.YtinnaedmdoengaaGreatRows
import Derived.Calls
import Derived.Orders
import Derived.Tactics
import Derived.Laws.AppendOwn
import Derived.Laws.Slices
import Derived.Laws.Closers25
import Derived.Laws.StructEq
import Derived.Laws.BytesString
import Derived.Laws.CopyRow
import Derived.MapKept
import Derived.Maps.RangeRun
import Derived.TacticsIn
import Derived.OrdersIn
import Derived.RangeFuncRecord
import Derived.RangeFuncLeaves
import Derived.IntWalk
import Derived.ProofKit
import Derived.OpenShut
import Derived.Carry
import Derived.Test.YtinnaedmdoengaaGreatProg
import Derived.KernelRfl
import Derived.OwnWalkIn
import Derived.TacticsInMore
import Derived.LoopIn
import Derived.WalkKit
import Derived.Lib.Strings
import Derived.Lib.Slices
import Derived.Lib.Walk
import Derived.Lib.Bytealg
import Derived.Shelf.SlSortCmp.WholeK
import Derived.Shelf.SlSortCmp.NoneTotal

namespace Go.Proofs.YtinnaedmdoengaaGreat
open Go.Abs Go.ChangeShapes Go.WideShapes Go.ChangeAt Go.RowKit
set_option linter.unusedSimpArgs false
set_option linter.constructorNameAsVariable false
set_option maxRecDepth 100000
theorem x57 {n : Nat} {ds : List D} (h : Shp Tryz.prog (n + 2) 58 ds) : ∃ a b : List UInt8, ds = [.str a, .str b] := by
 rw [Shp] at h
 simp only [Tryz.underlying58, ShpA] at h
 obtain ⟨x, y, rfl, h1, x2, y2, rfl, h2, rfl⟩ := h
 obtain ⟨a, rfl, _⟩ := q2f h1
 obtain ⟨b, rfl, _⟩ := q2f h2
 exact ⟨a, b, rfl⟩
theorem x58 (a b : List UInt8) : argS Tryz.prog 58 [.str a, .str b] = .d (.agg [.str a, .str b]) := by simp only [argS, Tryz.underlying58]
theorem own : ownKnob Tryz.prog.godebug = none := by kernel_rfl
theorem zjf : laidOutB Tryz.prog = true := by kernel_rfl
set_option maxRecDepth 100000 in
theorem x59 (os : Os) (started : os.Started) (H : Type) (enc : TypeId × Value → H) :
  ReturnsInHanded {} Tryz.checked os 5 .any (Rows.storeScriptSpec.pre6 enc Tryz.prog Tryz.f5 Rows.storeScriptRow.domain false) (Rows.storeScriptSpec.post enc Tryz.prog Tryz.f5 false true false false) := by
 refine returnsInHanded_of_change (C := Tryz.checked) own started (by kernel_rfl) Tryz.func5
  (ChangeSpec.witness6 (enc := enc) (C := Tryz.checked) false ⟨#[], #[.slice none 0 0, .agg #[.string ⟨#[]⟩, .string ⟨#[]⟩], .int .u8 0], []⟩ 8 (by kernel_rfl) (by kernel_rfl) (by kernel_rfl) (by kernel_rfl)) ?_
 intro W base args ds gs before hval hW _ _
 refine qx7 (n := 8) (base := base) (tb := 4) zjf (by kernel_rfl) (by kernel_rfl) (by kernel_rfl) Tryz.underlying4 rfl ?_ ?_ hW hval
 ·intro ds hl
  have hl' : ds.length = 3 := by rw [hl]; kernel_rfl
  match ds, hl' with
  | [d1, d2, d3], _ => rfl
 ·rw [Tryz.params5]
  intro a1 s1 a2 s2 a3 s3
  obtain ⟨k, rfl, k1, k2⟩ := q5z s1
  obtain ⟨a, b, rfl⟩ := x57 s2
  obtain ⟨n, rfl, n1⟩ := x55 s3
  simp only [List.nil_append, List.cons_append, q50, x58, zga, q4b]
  exact qkn k a b n n1 k1 k2
theorem x6t : Rows.storeScriptRow.holds Tryz.pinned (OpenSpec.ofChange Rows.storeScriptSpec) :=
 OpenClaim.holds_of_wide 5 Tryz.f5 rfl rfl rfl rfl rfl rfl rfl ⟨rfl, rfl, rfl, rfl, rfl⟩ rfl rfl rfl rfl rfl (by kernel_rfl) Tryz.func5 (by kernel_rfl)
  (of_decide_eq_true (by kernel_rfl)) (by unfold Func.isWrapper; first | (rw [if_pos (by decide +kernel)]; kernel_rfl) | (rw [if_neg (by decide +kernel)]; exact ⟨rfl, rfl⟩))
  (fun os started H enc _ => x59 os started H enc)
theorem proved : Rows.StoreScriptSaid := x6t
end Go.Proofs.YtinnaedmdoengaaGreat
