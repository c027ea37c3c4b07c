/- QueueOffer returns true for every input, and its input reads behind the call as before. -/
import Derived.Test.YthcpckcgjplhiaaRows
import Derived.Test.YthcpckcgjplhiaaDc
import Derived.ProofKit
import Derived.OpenShut
namespace Go.Proofs.Ythcpckcgjplhiaa
open Go.Abs Go.ChangeShapes Go.WideShapes Go.ChangeAt Go.RowKit
set_option linter.unusedSimpArgs false

theorem own : ownKnob Try.prog.godebug = none := by kernel_rfl
theorem laid : laidOutB Try.prog = true := by kernel_rfl

set_option maxRecDepth 100000 in
theorem lifted (os : Os) (started : os.Started) (H : Type) (enc : TypeId × Value → H) :
    ReturnsInHanded {} Try.checked os 6 .any (Rows.queueOfferSpec.pre6 enc Try.prog Try.f6 Rows.queueOfferRow.domain false) (Rows.queueOfferSpec.post enc Try.prog Try.f6 false true false false) := by
  refine returnsInHanded_of_change (C := Try.checked) own started (by kernel_rfl) Try.func6
    (ChangeSpec.witness6 (enc := enc) (C := Try.checked) false ⟨#[], #[.agg #[.int .i64 0, .int .i64 0, .slice none 0 0], .agg #[.int .i64 0, .int .i64 0, .slice none 0 0], .agg #[.int .i64 0, .int .i64 0, .int .i64 0, .int .i64 0, .int .i64 0, .int .i64 0, .int .i64 0, .slice none 0 0, .slice none 0 0]], []⟩ 8 (by kernel_rfl) (by kernel_rfl) (by kernel_rfl) (by kernel_rfl)) ?_
  intro W base args ds gs before hval hW _ _
  refine law_calls (n := 8) (base := base) (tb := 4) laid (by kernel_rfl) (by kernel_rfl) (by kernel_rfl) Try.underlying4 rfl ?_ ?_ hW hval
  · intro ds hl
    have hl' : ds.length = 3 := by rw [hl]; kernel_rfl
    match ds, hl' with
    | [d1, d2, d3], _ => rfl
  · rw [Try.params6]
    intro a1 s1 a2 s2 a3 s3
    obtain ⟨a, rfl, q1, q2⟩ := shpQ51 s1
    obtain ⟨b, rfl, q3, q4⟩ := shpQ51 s2
    obtain ⟨p, rfl, q5⟩ := shpPk46 s3
    simp only [List.nil_append, List.cons_append, argQ51, argPk46, LawOk]
    exact queueOffer_ok a b p q1 q2 q3 q4 q5

theorem over : Rows.queueOfferRow.holds Try.pinned (OpenSpec.ofChange Rows.queueOfferSpec) :=
  OpenClaim.holds_of_wide 6 Try.f6 rfl rfl rfl rfl rfl rfl rfl ⟨rfl, rfl, rfl, rfl, rfl⟩ rfl rfl rfl rfl rfl (by kernel_rfl) Try.func6 (by kernel_rfl)
    (of_decide_eq_true (by kernel_rfl)) (by unfold Func.isWrapper; first | (rw [if_pos (by decide +kernel)]; kernel_rfl) | (rw [if_neg (by decide +kernel)]; exact ⟨rfl, rfl⟩))
    (fun os started H enc _ => lifted os started H enc)

/-- The statement. -/
theorem proved : Rows.QueueOfferSaid := over
end Go.Proofs.Ythcpckcgjplhiaa
