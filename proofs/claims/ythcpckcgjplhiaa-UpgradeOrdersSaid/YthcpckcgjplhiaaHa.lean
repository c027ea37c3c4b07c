/- UpgradeOrders returns true for every input, and its input reads behind the call as before. -/
import Derived.Test.YthcpckcgjplhiaaRows
import Derived.Test.YthcpckcgjplhiaaGk
import Derived.Test.YthcpckcgjplhiaaGs
import Derived.ProofKit
import Derived.OpenShut
namespace Go.Proofs.Ythcpckcgjplhiaa
open Go.Abs Go.ChangeShapes Go.WideShapes Go.ChangeAt Go.RowKit
set_option linter.unusedSimpArgs false

theorem own : ownKnob Try.prog.godebug = none := by kernel_rfl
theorem laid : laidOutB Try.prog = true := by kernel_rfl

set_option maxRecDepth 100000 in
theorem lifted (os : Os) (started : os.Started) (H : Type) (enc : TypeId × Value → H) :
    ReturnsInHanded {} Try.checked os 7 .any (Rows.upgradeOrdersSpec.pre6 enc Try.prog Try.f7 Rows.upgradeOrdersRow.domain false) (Rows.upgradeOrdersSpec.post enc Try.prog Try.f7 false true false false) := by
  refine returnsInHanded_of_change (C := Try.checked) own started (by kernel_rfl) Try.func7
    (ChangeSpec.witness6 (enc := enc) (C := Try.checked) false ⟨#[], #[.agg #[.int .i64 0, .slice none 0 0]], []⟩ 8 (by kernel_rfl) (by kernel_rfl) (by kernel_rfl) (by kernel_rfl)) ?_
  intro W base args ds gs before hval hW _ _
  refine law_calls (n := 8) (base := base) (tb := 4) laid (by kernel_rfl) (by kernel_rfl) (by kernel_rfl) Try.underlying4 rfl ?_ ?_ hW hval
  · intro ds hl
    have hl' : ds.length = 1 := by rw [hl]; kernel_rfl
    match ds, hl' with
    | [d1], _ => rfl
  · rw [Try.params7]
    intro a1 s1
    obtain ⟨m, rfl, m1⟩ := shpM53 s1
    simp only [List.nil_append, List.cons_append, argM53, LawOk]
    exact upgradeOrders_ok m m1

theorem over : Rows.upgradeOrdersRow.holds Try.pinned (OpenSpec.ofChange Rows.upgradeOrdersSpec) :=
  OpenClaim.holds_of_wide 7 Try.f7 rfl rfl rfl rfl rfl rfl rfl ⟨rfl, rfl, rfl, rfl, rfl⟩ rfl rfl rfl rfl rfl (by kernel_rfl) Try.func7 (by kernel_rfl)
    (of_decide_eq_true (by kernel_rfl)) (by unfold Func.isWrapper; first | (rw [if_pos (by decide +kernel)]; kernel_rfl) | (rw [if_neg (by decide +kernel)]; exact ⟨rfl, rfl⟩))
    (fun os started H enc _ => lifted os started H enc)

/-- The statement. -/
theorem proved : Rows.UpgradeOrdersSaid := over
end Go.Proofs.Ythcpckcgjplhiaa
