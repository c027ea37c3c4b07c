/- UpgradePhases returns true for every input, and its inputs read behind the call as before. -/
import Derived.Test.YthcpckcgjplhiaaMck
import Derived.Test.YthcpckcgjplhiaaRows
import Derived.Calls
import Derived.Orders
import Derived.Tactics
import Derived.Laws.AppendOwn
import Derived.Laws.Slices
import Derived.Laws.Closers25
import Derived.Laws.StructEq
import Derived.Laws.BytesString
import Derived.Laws.CopyRow
import Derived.IntWalk
import Derived.ProofKit
import Derived.OpenShut
import Derived.Carry
import Derived.Test.YthcpckcgjplhiaaProg
import Derived.KernelRfl
import Derived.Shelf.Spec.SlicesInsertGrow
/- UpgradePhases returns true for every input, and its inputs read behind the call as before. -/
namespace Go.Proofs.Ythcpckcgjplhiaa
open Go.Abs Go.ChangeShapes Go.WideShapes Go.ChangeAt Go.RowKit
set_option linter.unusedSimpArgs false

theorem own : ownKnob Try.prog.godebug = none := by kernel_rfl
theorem laid : laidOutB Try.prog = true := by kernel_rfl

set_option maxRecDepth 100000 in
theorem lifted (os : Os) (started : os.Started) (H : Type) (enc : TypeId × Value → H) :
    ReturnsInHanded {} Try.checked os 8 .any (Rows.upgradePhasesSpec.pre6 enc Try.prog Try.f8 Rows.upgradePhasesRow.domain false) (Rows.upgradePhasesSpec.post enc Try.prog Try.f8 false true false false) := by
  refine returnsInHanded_of_change (C := Try.checked) own started (by kernel_rfl) Try.func8
    (ChangeSpec.witness6 (enc := enc) (C := Try.checked) false ⟨#[], #[.int .u8 0, .slice none 0 0], []⟩ 8 (by kernel_rfl) (by kernel_rfl) (by kernel_rfl) (by kernel_rfl)) ?_
  intro W base args ds gs before hval hW _ _
  refine law_calls (n := 8) (base := base) (tb := 4) laid (by kernel_rfl) (by kernel_rfl) (by kernel_rfl) Try.underlying4 rfl ?_ ?_ hW hval
  · intro ds hl
    have hl' : ds.length = 2 := by rw [hl]; kernel_rfl
    match ds, hl' with
    | [d1, d2], _ => rfl
  · rw [Try.params8]
    intro a1 s1 a2 s2
    obtain ⟨a, rfl, ha⟩ := shpU8 s1
    obtain ⟨l, rfl⟩ := shpSts s2
    simp only [List.nil_append, List.cons_append, argU8, argSts, LawOk]
    exact upgradePhases_ok a l ha

theorem over : Rows.upgradePhasesRow.holds Try.pinned (OpenSpec.ofChange Rows.upgradePhasesSpec) :=
  OpenClaim.holds_of_wide 8 Try.f8 rfl rfl rfl rfl rfl rfl rfl ⟨rfl, rfl, rfl, rfl, rfl⟩ rfl rfl rfl rfl rfl (by kernel_rfl) Try.func8 (by kernel_rfl)
    (of_decide_eq_true (by kernel_rfl)) (by unfold Func.isWrapper; first | (rw [if_pos (by decide +kernel)]; kernel_rfl) | (rw [if_neg (by decide +kernel)]; exact ⟨rfl, rfl⟩))
    (fun os started H enc _ => lifted os started H enc)

/-- The statement. -/
theorem proved : Rows.UpgradePhasesSaid := over
end Go.Proofs.Ythcpckcgjplhiaa
