/- UpgradeReport returns true for every input, and its input reads behind the call as before. -/
import Derived.Test.YthcpckcgjplhiaaMdk
import Derived.Test.YthcpckcgjplhiaaRows
import Derived.Calls
import Derived.Orders
import Derived.Tactics
import Derived.Laws.AppendOwn
import Derived.Laws.Slices
import Derived.Laws.Closers25
import Derived.Laws.StructEq
import Derived.Laws.BytesString
import Derived.Laws.CopyRow
import Derived.IntWalk
import Derived.ProofKit
import Derived.OpenShut
import Derived.Carry
import Derived.Test.YthcpckcgjplhiaaProg
import Derived.KernelRfl
import Derived.Shelf.Spec.SlicesInsertGrow
/- UpgradeReport returns true for every input, and its input reads behind the call as before. -/
namespace Go.Proofs.Ythcpckcgjplhiaa
open Go.Abs Go.ChangeShapes Go.WideShapes Go.ChangeAt Go.RowKit
set_option linter.unusedSimpArgs false

theorem own : ownKnob Try.prog.godebug = none := by kernel_rfl
theorem laid : laidOutB Try.prog = true := by kernel_rfl

set_option maxRecDepth 100000 in
theorem lifted (os : Os) (started : os.Started) (H : Type) (enc : TypeId × Value → H) :
    ReturnsInHanded {} Try.checked os 10 .any (Rows.upgradeReportSpec.pre6 enc Try.prog Try.f10 Rows.upgradeReportRow.domain false) (Rows.upgradeReportSpec.post enc Try.prog Try.f10 false true false false) := by
  refine returnsInHanded_of_change (C := Try.checked) own started (by kernel_rfl) Try.func10
    (ChangeSpec.witness6 (enc := enc) (C := Try.checked) false ⟨#[], #[.agg #[.int .i64 0, .slice none 0 0], .agg #[.int .i64 0, .slice none 0 0], .agg #[.int .i64 0, .int .i64 0, .int .i64 0, .int .i64 0, .int .i64 0, .int .i64 0, .int .i64 0, .slice none 0 0, .slice none 0 0]], []⟩ 8 (by kernel_rfl) (by kernel_rfl) (by kernel_rfl) (by kernel_rfl)) ?_
  intro W base args ds gs before hval hW _ _
  refine law_calls (n := 8) (base := base) (tb := 4) laid (by kernel_rfl) (by kernel_rfl) (by kernel_rfl) Try.underlying4 rfl ?_ ?_ hW hval
  · intro ds hl
    have hl' : ds.length = 3 := by rw [hl]; kernel_rfl
    match ds, hl' with
    | [d1, d2, d3], _ => rfl
  · rw [Try.params10]
    intro a1 s1 a2 s2 a3 s3
    obtain ⟨m, rfl, m1⟩ := shpM53 s1
    obtain ⟨o, rfl, o1⟩ := shpM53 s2
    obtain ⟨p, rfl, p1⟩ := shpPk46 s3
    simp only [List.nil_append, List.cons_append, argM53, argPk46, LawOk]
    exact upgradeReport_ok m o p m1 o1 p1

theorem over : Rows.upgradeReportRow.holds Try.pinned (OpenSpec.ofChange Rows.upgradeReportSpec) :=
  OpenClaim.holds_of_wide 10 Try.f10 rfl rfl rfl rfl rfl rfl rfl ⟨rfl, rfl, rfl, rfl, rfl⟩ rfl rfl rfl rfl rfl (by kernel_rfl) Try.func10 (by kernel_rfl)
    (of_decide_eq_true (by kernel_rfl)) (by unfold Func.isWrapper; first | (rw [if_pos (by decide +kernel)]; kernel_rfl) | (rw [if_neg (by decide +kernel)]; exact ⟨rfl, rfl⟩))
    (fun os started H enc _ => lifted os started H enc)

/-- The statement. -/
theorem proved : Rows.UpgradeReportSaid := over
end Go.Proofs.Ythcpckcgjplhiaa
