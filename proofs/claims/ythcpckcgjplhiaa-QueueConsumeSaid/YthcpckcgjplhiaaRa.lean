/- QueueConsume returns true for every input, and its input reads behind the call as before. -/
import Derived.Test.YthcpckcgjplhiaaRows
import Derived.Test.YthcpckcgjplhiaaDb
import Derived.ProofKit
import Derived.OpenShut
namespace Go.Proofs.Ythcpckcgjplhiaa
open Go.Abs Go.ChangeShapes Go.WideShapes Go.ChangeAt Go.RowKit
set_option linter.unusedSimpArgs false

theorem own : ownKnob Try.prog.godebug = none := by kernel_rfl
theorem laid : laidOutB Try.prog = true := by kernel_rfl

set_option maxRecDepth 100000 in
theorem lifted (os : Os) (started : os.Started) (H : Type) (enc : TypeId × Value → H) :
    ReturnsInHanded {} Try.checked os 4 .any (Rows.queueConsumeSpec.pre6 enc Try.prog Try.f4 Rows.queueConsumeRow.domain false) (Rows.queueConsumeSpec.post enc Try.prog Try.f4 false true false false) := by
  refine returnsInHanded_of_change (C := Try.checked) own started (by kernel_rfl) Try.func4
    (ChangeSpec.witness6 (enc := enc) (C := Try.checked) false ⟨#[], #[.agg #[.int .i64 0, .int .i64 0, .slice none 0 0], .int .i64 0], []⟩ 8 (by kernel_rfl) (by kernel_rfl) (by kernel_rfl) (by kernel_rfl)) ?_
  intro W base args ds gs before hval hW _ _
  refine law_calls (n := 8) (base := base) (tb := 4) laid (by kernel_rfl) (by kernel_rfl) (by kernel_rfl) Try.underlying4 rfl ?_ ?_ hW hval
  · intro ds hl
    have hl' : ds.length = 2 := by rw [hl]; kernel_rfl
    match ds, hl' with
    | [d1, d2], _ => rfl
  · rw [Try.params4]
    intro a1 s1 a2 s2
    obtain ⟨q, rfl, q1, q2⟩ := shpQ51 s1
    obtain ⟨x, rfl, _⟩ := shpI s2
    simp only [List.nil_append, List.cons_append, argQ51, argI, LawOk]
    exact queueConsume_ok q x q1 q2

theorem over : Rows.queueConsumeRow.holds Try.pinned (OpenSpec.ofChange Rows.queueConsumeSpec) :=
  OpenClaim.holds_of_wide 4 Try.f4 rfl rfl rfl rfl rfl rfl rfl ⟨rfl, rfl, rfl, rfl, rfl⟩ rfl rfl rfl rfl rfl (by kernel_rfl) Try.func4 (by kernel_rfl)
    (of_decide_eq_true (by kernel_rfl)) (by unfold Func.isWrapper; first | (rw [if_pos (by decide +kernel)]; kernel_rfl) | (rw [if_neg (by decide +kernel)]; exact ⟨rfl, rfl⟩))
    (fun os started H enc _ => lifted os started H enc)

/-- The statement. -/
theorem proved : Rows.QueueConsumeSaid := over
end Go.Proofs.Ythcpckcgjplhiaa
