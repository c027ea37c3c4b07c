/- The shapes of the arguments of layer 51's statements. -/
import Derived.Test.YthcpckcgjplhiaaCf
namespace Go.Proofs.Ythcpckcgjplhiaa
open Go.Abs
set_option linter.unusedSimpArgs false
set_option maxRecDepth 100000

theorem rows_of {α : Type} {enc : α → List D} {Q : α → Prop} : ∀ {rows : List (List D)}, (∀ r ∈ rows, ∃ x, r = enc x ∧ Q x) → ∃ l : List α, rows = l.map enc ∧ ∀ x ∈ l, Q x
  | [], _ => ⟨[], rfl, by simp⟩
  | r :: rows, h => by
    obtain ⟨x, rfl, hx⟩ := h r (by simp)
    obtain ⟨l, rfl, hl⟩ := rows_of (enc := enc) (Q := Q) (rows := rows) (fun r hr => h r (by simp [hr]))
    exact ⟨x :: l, rfl, by simpa using ⟨hx, hl⟩⟩

/-- An int of 64 bits. -/
def I64 (n : Int) : Prop := -9223372036854775808 ≤ n ∧ n ≤ 9223372036854775807
theorem i64_wf {n : Int} (h : (Lit.int .i64 n).wf = true) : I64 n := by
  have h1 : IntKind.i64.min = -9223372036854775808 := by decide
  have h2 : IntKind.i64.max = 9223372036854775807 := by decide
  simp only [Lit.wf, Bool.and_eq_true, decide_eq_true_eq, h1, h2] at h
  exact h

theorem shpI {n : Nat} {ds : List D} (h : Shp Try.prog (n + 1) 3 ds) : ∃ x, ds = encI x ∧ I64 x := by
  simp only [Shp, Try.underlying3] at h
  obtain ⟨x, rfl, h⟩ := h
  exact ⟨x, rfl, i64_wf h⟩

theorem shpAV {n : Nat} {ds : List D} (h : Shp Try.prog (n + 2) 122 ds) : ∃ v : AV, ds = encAV v ∧ v.s.length ≤ maxLen := by
  simp only [Shp, Try.underlying122, ShpFs, Try.underlying3, Try.underlying9] at h
  obtain ⟨_, _, rfl, ⟨a, rfl, ha⟩, _, _, rfl, ⟨b, rfl, hb⟩, _, _, rfl, ⟨c, rfl, hc⟩, rfl⟩ := h
  exact ⟨⟨a, b, c⟩, rfl, hc⟩

theorem cells_AV : Try.prog.cellsOf 122 = 3 := by kernel_rfl
theorem cells_int : Try.prog.cellsOf 3 = 1 := by kernel_rfl
theorem cells_Pk46 : Try.prog.cellsOf 62 = 9 := by kernel_rfl

theorem shpPk46 {n : Nat} {ds : List D} (h : Shp Try.prog (n + 4) 62 ds) : ∃ p : Pk, ds = encPk p ∧ p.values.length ≤ maxLen := by
  rw [Shp] at h
  simp only [Try.underlying62, ShpFs] at h
  obtain ⟨_, _, rfl, h1, _, _, rfl, h2, _, _, rfl, h3, _, _, rfl, h4, _, _, rfl, h5, _, _, rfl, h6, _, _, rfl, h7, _, _, rfl, h8, _, _, rfl, h9, rfl⟩ := h
  obtain ⟨a1, rfl, _⟩ := shpI h1
  obtain ⟨a2, rfl, _⟩ := shpI h2
  obtain ⟨a3, rfl, _⟩ := shpI h3
  obtain ⟨a4, rfl, _⟩ := shpI h4
  obtain ⟨a5, rfl, _⟩ := shpI h5
  obtain ⟨a6, rfl, _⟩ := shpI h6
  obtain ⟨a7, rfl, _⟩ := shpI h7
  rw [Shp] at h8 h9
  simp only [Try.underlying53, Try.underlying54] at h8 h9
  obtain ⟨r8, rfl, l8, h8⟩ := h8
  obtain ⟨r9, rfl, l9, h9⟩ := h9
  obtain ⟨vs, rfl, _⟩ := rows_of fun r hr => shpAV (h8 r hr)
  obtain ⟨ns, rfl, _⟩ := rows_of fun r hr => shpI (h9 r hr)
  exact ⟨⟨a1, a2, a3, a4, a5, a6, a7, vs, ns⟩, by rw [cells_AV, cells_int]; rfl, by simpa using l8⟩

theorem shpQ51 {n : Nat} {ds : List D} (h : Shp Try.prog (n + 6) 35 ds) : ∃ q : Qu, ds = encQ q ∧ q.items.length ≤ maxLen ∧ ∀ p ∈ q.items, p.values.length ≤ maxLen := by
  rw [Shp] at h
  simp only [Try.underlying35, ShpFs] at h
  obtain ⟨_, _, rfl, h1, _, _, rfl, h2, _, _, rfl, h3, rfl⟩ := h
  obtain ⟨a1, rfl, _⟩ := shpI h1
  obtain ⟨a2, rfl, _⟩ := shpI h2
  rw [Shp] at h3
  simp only [Try.underlying33] at h3
  obtain ⟨r3, rfl, l3, h3⟩ := h3
  obtain ⟨ps, rfl, hp⟩ := rows_of fun r hr => shpPk46 (h3 r hr)
  exact ⟨⟨a1, a2, ps⟩, by rw [cells_Pk46]; rfl, by simpa using l3, hp⟩

theorem argQ51 (q : Qu) : argS Try.prog 35 (encQ q) = .d (.agg (encQ q)) := by simp only [argS, Try.underlying35]
theorem argPk46 (q : Pk) : argS Try.prog 62 (encPk q) = .d (.agg (encPk q)) := by simp only [argS, Try.underlying62]
theorem argI (n : Int) : argS Try.prog 3 (encI n) = .d (.int .i64 n) := by simp only [argS, Try.underlying3]; rfl
end Go.Proofs.Ythcpckcgjplhiaa
