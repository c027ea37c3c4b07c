/- SamplesTexts returns true for every input, and its input reads behind the call as before. -/
import Derived.Test.YthcpckcgjplhiaaRows
import Derived.Test.YthcpckcgjplhiaaEc
import Derived.ProofKit
import Derived.OpenShut
namespace Go.Proofs.Ythcpckcgjplhiaa
open Go.Abs Go.ChangeShapes Go.WideShapes Go.ChangeAt Go.RowKit
set_option linter.unusedSimpArgs false

set_option maxRecDepth 100000
theorem shpStr {n : Nat} {ds : List D} (h : Shp Try.prog (n + 1) 9 ds) : ∃ x, ds = [.str x] := by
  simp only [Shp, Try.underlying9] at h
  obtain ⟨x, rfl, _⟩ := h
  exact ⟨x, rfl⟩
theorem argStr (s : List UInt8) : argS Try.prog 9 [.str s] = .d (.str s) := by simp only [argS, Try.underlying9]; rfl
theorem own : ownKnob Try.prog.godebug = none := by kernel_rfl
theorem laid : laidOutB Try.prog = true := by kernel_rfl

set_option maxRecDepth 100000 in
theorem lifted (os : Os) (started : os.Started) (H : Type) (enc : TypeId × Value → H) :
    ReturnsInHanded {} Try.checked os 3 .any (Rows.samplesTextsSpec.pre6 enc Try.prog Try.f3 Rows.samplesTextsRow.domain false) (Rows.samplesTextsSpec.post enc Try.prog Try.f3 false true false false) := by
  refine returnsInHanded_of_change (C := Try.checked) own started (by kernel_rfl) Try.func3
    (ChangeSpec.witness6 (enc := enc) (C := Try.checked) false ⟨#[], #[.string ⟨#[]⟩], []⟩ 8 (by kernel_rfl) (by kernel_rfl) (by kernel_rfl) (by kernel_rfl)) ?_
  intro W base args ds gs before hval hW _ _
  refine law_calls (n := 8) (base := base) (tb := 4) laid (by kernel_rfl) (by kernel_rfl) (by kernel_rfl) Try.underlying4 rfl ?_ ?_ hW hval
  · intro ds hl
    have hl' : ds.length = 1 := by rw [hl]; kernel_rfl
    match ds, hl' with
    | [d1], _ => rfl
  · rw [Try.params3]
    intro a1 s1
    obtain ⟨x, rfl⟩ := shpStr s1
    simp only [List.nil_append, LawOk, argStr]
    exact samplesTexts_ok x

theorem over : Rows.samplesTextsRow.holds Try.pinned (OpenSpec.ofChange Rows.samplesTextsSpec) :=
  OpenClaim.holds_of_wide 3 Try.f3 rfl rfl rfl rfl rfl rfl rfl ⟨rfl, rfl, rfl, rfl, rfl⟩ rfl rfl rfl rfl rfl (by kernel_rfl) Try.func3 (by kernel_rfl)
    (of_decide_eq_true (by kernel_rfl)) (by unfold Func.isWrapper; first | (rw [if_pos (by decide +kernel)]; kernel_rfl) | (rw [if_neg (by decide +kernel)]; exact ⟨rfl, rfl⟩))
    (fun os started H enc _ => lifted os started H enc)

/-- The statement. -/
theorem proved : Rows.SamplesTextsSaid := over
end Go.Proofs.Ythcpckcgjplhiaa
