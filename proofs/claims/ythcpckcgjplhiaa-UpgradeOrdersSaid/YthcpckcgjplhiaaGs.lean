/- The shapes of the arguments of layer 53's statements. -/
import Derived.Test.YthcpckcgjplhiaaDa
import Derived.Test.YthcpckcgjplhiaaGa
namespace Go.Proofs.Ythcpckcgjplhiaa
open Go.Abs
set_option linter.unusedSimpArgs false
set_option maxRecDepth 100000

theorem shpB {n : Nat} {ds : List D} (h : Shp Try.prog (n + 1) 4 ds) : ∃ x, ds = encB x := by
  simp only [Shp, Try.underlying4] at h
  obtain ⟨x, rfl⟩ := h
  exact ⟨x, rfl⟩
theorem cells_bool : Try.prog.cellsOf 4 = 1 := by kernel_rfl
theorem cells_En53 : Try.prog.cellsOf 127 = 4 := by kernel_rfl

theorem shpEn53 {n : Nat} {ds : List D} (h : Shp Try.prog (n + 4) 127 ds) : ∃ x : En, ds = encEn x := by
  rw [Shp] at h
  simp only [Try.underlying127, ShpFs] at h
  obtain ⟨_, _, rfl, h1, _, _, rfl, h2, _, _, rfl, h3, _, _, rfl, h4, rfl⟩ := h
  obtain ⟨a1, rfl, _⟩ := shpI h1
  obtain ⟨a2, rfl, _⟩ := shpI h2
  rw [Shp] at h3 h4
  simp only [Try.underlying125] at h3 h4
  obtain ⟨r3, rfl, l3, h3⟩ := h3
  obtain ⟨r4, rfl, l4, h4⟩ := h4
  obtain ⟨ms, rfl, _⟩ := rows_of (Q := fun _ => True) fun r hr => (shpB (h3 r hr)).imp fun _ h => ⟨h, trivial⟩
  obtain ⟨os, rfl, _⟩ := rows_of (Q := fun _ => True) fun r hr => (shpB (h4 r hr)).imp fun _ h => ⟨h, trivial⟩
  exact ⟨⟨a1, a2, ms, os⟩, by rw [cells_bool]; rfl⟩

theorem shpM53 {n : Nat} {ds : List D} (h : Shp Try.prog (n + 6) 69 ds) : ∃ m : Mg, ds = encMg m ∧ m.ents.length ≤ maxLen := by
  rw [Shp] at h
  simp only [Try.underlying69, ShpFs] at h
  obtain ⟨_, _, rfl, h1, _, _, rfl, h2, rfl⟩ := h
  obtain ⟨a1, rfl, _⟩ := shpI h1
  rw [Shp] at h2
  simp only [Try.underlying67] at h2
  obtain ⟨r2, rfl, l2, h2⟩ := h2
  obtain ⟨es, rfl, _⟩ := rows_of (Q := fun _ => True) fun r hr => (shpEn53 (h2 r hr)).imp fun _ h => ⟨h, trivial⟩
  exact ⟨⟨a1, es⟩, by rw [cells_En53]; rfl, by simpa using l2⟩
theorem argM53 (m : Mg) : argS Try.prog 69 (encMg m) = .d (.agg (encMg m)) := by simp only [argS, Try.underlying69]
end Go.Proofs.Ythcpckcgjplhiaa
