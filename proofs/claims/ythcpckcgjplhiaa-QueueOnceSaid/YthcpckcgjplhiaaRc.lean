/- QueueOnce returns true for every input, and its input reads behind the call as before. -/
import Derived.Test.YthcpckcgjplhiaaRows
import Derived.Test.YthcpckcgjplhiaaDd
import Derived.ProofKit
import Derived.OpenShut
namespace Go.Proofs.Ythcpckcgjplhiaa
open Go.Abs Go.ChangeShapes Go.WideShapes Go.ChangeAt Go.RowKit
set_option linter.unusedSimpArgs false

set_option maxRecDepth 100000
theorem cells_Stp : Try.prog.cellsOf 51 = 2 := by kernel_rfl
theorem shpStps {n : Nat} {ds : List D} (h : Shp Try.prog (n + 3) 49 ds) : ∃ l : List Stp, ds = [.sl 2 (l.map encStp)] := by
  rw [Shp] at h
  simp only [Try.underlying49] at h
  obtain ⟨r, rfl, _, h⟩ := h
  have hr : ∀ x ∈ r, ∃ s : Stp, x = encStp s ∧ True := by
    intro x hx
    have := h x hx
    rw [Shp] at this
    simp only [Try.underlying51, ShpFs] at this
    obtain ⟨_, _, rfl, h1, _, _, rfl, h2, rfl⟩ := this
    obtain ⟨a1, rfl, _⟩ := shpI h1
    obtain ⟨a2, rfl, _⟩ := shpI h2
    exact ⟨⟨a1, a2⟩, rfl, trivial⟩
  obtain ⟨l, rfl, _⟩ := rows_of hr
  exact ⟨l, by rw [cells_Stp]⟩
theorem argStps (l : List Stp) : argS Try.prog 49 [.sl 2 (l.map encStp)] = .d (.sl 2 (l.map encStp)) := by simp only [argS, Try.underlying49]; rfl

theorem own : ownKnob Try.prog.godebug = none := by kernel_rfl
theorem laid : laidOutB Try.prog = true := by kernel_rfl

set_option maxRecDepth 100000 in
theorem lifted (os : Os) (started : os.Started) (H : Type) (enc : TypeId × Value → H) :
    ReturnsInHanded {} Try.checked os 5 .any (Rows.queueOnceSpec.pre6 enc Try.prog Try.f5 Rows.queueOnceRow.domain false) (Rows.queueOnceSpec.post enc Try.prog Try.f5 false true false false) := by
  refine returnsInHanded_of_change (C := Try.checked) own started (by kernel_rfl) Try.func5
    (ChangeSpec.witness6 (enc := enc) (C := Try.checked) false ⟨#[], #[.slice none 0 0], []⟩ 8 (by kernel_rfl) (by kernel_rfl) (by kernel_rfl) (by kernel_rfl)) ?_
  intro W base args ds gs before hval hW _ _
  refine law_calls (n := 8) (base := base) (tb := 4) laid (by kernel_rfl) (by kernel_rfl) (by kernel_rfl) Try.underlying4 rfl ?_ ?_ hW hval
  · intro ds hl
    have hl' : ds.length = 1 := by rw [hl]; kernel_rfl
    match ds, hl' with
    | [d1], _ => rfl
  · rw [Try.params5]
    intro a1 s1
    obtain ⟨l, rfl⟩ := shpStps s1
    simp only [List.nil_append, LawOk, argStps]
    exact queueOnce_ok l

theorem over : Rows.queueOnceRow.holds Try.pinned (OpenSpec.ofChange Rows.queueOnceSpec) :=
  OpenClaim.holds_of_wide 5 Try.f5 rfl rfl rfl rfl rfl rfl rfl ⟨rfl, rfl, rfl, rfl, rfl⟩ rfl rfl rfl rfl rfl (by kernel_rfl) Try.func5 (by kernel_rfl)
    (of_decide_eq_true (by kernel_rfl)) (by unfold Func.isWrapper; first | (rw [if_pos (by decide +kernel)]; kernel_rfl) | (rw [if_neg (by decide +kernel)]; exact ⟨rfl, rfl⟩))
    (fun os started H enc _ => lifted os started H enc)

/-- The statement. -/
theorem proved : Rows.QueueOnceSaid := over
end Go.Proofs.Ythcpckcgjplhiaa
