/- The abstract layer, part 21: the theorem on drawn orders. -/
import Derived.Test.YthcpckcgjplhiaaAt
namespace Go.Abs

theorem compOps_get {P : Program} {mu : List Nat} {N : Nat} {ops : Array Oper} : ∀ {l : List Oper} {sops : List SOper}, compOps P mu N ops l = some sops → l.length = sops.length ∧
    ∀ (i : Nat) (x : Oper) (y : SOper), l[i]? = some x → sops[i]? = some y → ∃ back, compOper P mu ops N back x = some y
  | [], sops, h => by simp [compOps] at h; subst h; simp
  | o :: l, sops, h => by
    simp only [compOps] at h
    split at h
    · rename_i y r h1 h2
      cases h
      obtain ⟨k1, k2⟩ := compOps_get h2
      refine ⟨by simp [k1], fun i x z hx hz => ?_⟩
      cases i with
      | zero => simp at hx hz; subst hx hz; exact ⟨_, h1⟩
      | succ i => exact k2 i x z (by simpa using hx) (by simpa using hz)
    · cases h

theorem chain_get {P : Program} : ∀ {l : List Done} {k : Nat} {st : St}, Chain P l k st → ∀ (i : Nat) (d : Done), l[i]? = some d →
    AOne P (16 * (st.nt + (k + i))) d.1 (ap (fun j => decide (j < k + i)) l k st) d.2.1 d.2.2
  | [], k, st, _, i, d, h => by simp at h
  | (o, gb, out) :: l, k, st, h, i, d, hd => by
    obtain ⟨h1, h2⟩ := h
    have skip : ∀ (l : List Done) (k' m : Nat) (x : St), m ≤ k' → ap (fun j => decide (j < m)) l k' x = x := by
      intro l
      induction l with
      | nil => intro k' m x _; rfl
      | cons q l ih =>
        intro k' m x hm
        obtain ⟨o', g', out'⟩ := q
        simp only [ap]
        rw [if_neg (by simp; omega)]
        exact ih (k' + 1) m x (by omega)
    cases i with
    | zero =>
      simp at hd; subst hd
      rw [Nat.add_zero, skip _ k k st (Nat.le_refl _)]
      exact h1
    | succ i =>
      have ih := chain_get h2 i d (by simpa using hd)
      rw [next_nt] at ih
      simp only [ap]
      rw [if_pos (by simp)]
      rw [show k + (i + 1) = k + 1 + i by omega]
      exact ih

theorem iss_range {P : Program} {tb : Nat} {o : SOper} {gb : Bool} {out : Out} {st : St} (h : AOne P tb o st gb out) : ∀ t ∈ out.iss, tb ≤ t ∧ t < tb + 16 := by
  obtain ⟨_, _, h3⟩ := h
  intro t ht
  cases hop : o.op with
  | call f args =>
    rw [hop] at h3
    obtain ⟨k, as, fa, r, fo, fo', ι, rfl, hfew, _⟩ := h3
    have := retok_toks ht
    omega
  | eqnilS neg x =>
    rw [hop] at h3
    obtain ⟨b, rfl, _⟩ := h3
    simp at ht
  | append u es bytes s x =>
    rw [hop] at h3
    obtain ⟨rfl, _⟩ := h3
    simp only [sem, appendOut] at ht
    split at ht
    · split at ht
      · unfold appendU at ht
        split at ht <;> first | (simp [Out.bad] at ht; done) | (simp at ht; omega)
      · split at ht
        · simp at ht; omega
        · simp [Out.bad] at ht
    · simp [Out.bad] at ht
  | copy es s x =>
    rw [hop] at h3
    obtain ⟨rfl, _⟩ := h3
    simp only [sem, copyOut] at ht
    split at ht <;> simp [Out.bad] at ht
  | sliceA len es x lo hi mx =>
    rw [hop] at h3
    obtain ⟨rfl, _⟩ := h3
    simp only [sem, sliceAOut] at ht
    split at ht <;> simp [Out.bad] at ht
  | b2s x =>
    rw [hop] at h3
    obtain ⟨rfl, _⟩ := h3
    simp only [sem] at ht
    split at ht
    · simp at ht
    · split at ht <;> simp [Out.bad] at ht
  | iaddr es x i =>
    rw [hop] at h3
    obtain ⟨rfl, _⟩ := h3
    simp only [sem] at ht
    split at ht
    · simp at ht
    · split at ht <;> simp [Out.bad] at ht
    · simp [Out.bad] at ht
  | buildSlice u es len z ps =>
    rw [hop] at h3
    obtain ⟨rfl, _⟩ := h3
    simp only [sem] at ht
    cases u <;> simp at ht
    omega
  | makeSlice u es bytes z l c =>
    rw [hop] at h3
    obtain ⟨rfl, _⟩ := h3
    simp only [sem] at ht
    split at ht
    · simp at ht; omega
    · simp [Out.bad] at ht
  | load n x =>
    rw [hop] at h3
    obtain ⟨rfl, _⟩ := h3
    simp only [sem, loadOut] at ht
    split at ht
    · split at ht <;> simp at ht
    · split at ht <;> simp at ht
    · simp [Out.bad] at ht
  | store n x v =>
    rw [hop] at h3
    obtain ⟨rfl, _⟩ := h3
    simp only [sem, storeOut] at ht
    split at ht
    · split at ht
      · simp at ht
      · split at ht <;> simp [Out.bad] at ht
    · simp [Out.bad] at ht
  | bin op x y =>
    rw [hop] at h3
    obtain ⟨rfl, _⟩ := h3
    simp only [sem, binS] at ht
    split at ht
    · split at ht <;> simp at ht
    · simp at ht
    · simp [Out.bad] at ht
  | slice es x lo hi mx =>
    rw [hop] at h3
    obtain ⟨rfl, _⟩ := h3
    simp only [sem, sliceOut] at ht
    split at ht
    · split at ht <;> simp at ht
    · split at ht <;> simp [Out.bad] at ht
  | sliceS x lo hi =>
    rw [hop] at h3
    obtain ⟨rfl, _⟩ := h3
    simp only [sem, sliceSOut] at ht
    split at ht <;> simp [Out.bad] at ht
  | field n off x =>
    rw [hop] at h3
    obtain ⟨rfl, _⟩ := h3
    simp only [sem] at ht
    split at ht
    · split at ht <;> simp at ht
    · simp [Out.bad] at ht
  | indexA len es n x i =>
    rw [hop] at h3
    obtain ⟨rfl, _⟩ := h3
    simp only [sem] at ht
    split at ht
    · split at ht <;> simp at ht
    · simp [Out.bad] at ht
  | _ =>
    rw [hop] at h3
    obtain ⟨rfl, _⟩ := h3
    simp only [sem] at ht
    first
      | (simp at ht; done)
      | (split at ht <;> simp [Out.bad] at ht)

section
variable {P : Program} {mu : List Nat} {N : Nat} {g : Ghost} {w : World} {st : St} {a : Act} {ops : Array Oper}

/-- What is used up was there. -/
theorem cons_live {tb : Nat} {o : SOper} {gb : Bool} {out : Out} (h : AOne P tb o st gb out) : ∀ t ∈ out.cons, t ∈ st.live ∧ gb = true := by
  obtain ⟨_, h2, h3⟩ := h
  intro t ht
  have hg : gb = true := by
    rcases h2 with h2 | ⟨_, h2, _⟩
    · exact h2
    · rw [h2] at ht; cases ht
  refine ⟨?_, hg⟩
  cases hop : o.op with
  | call f args =>
    rw [hop] at h3
    obtain ⟨k, as, fa, r, fo, fo', ι, rfl, _, hok⟩ := h3
    simp only [callOut, List.mem_map] at ht
    obtain ⟨p, hp, rfl⟩ := ht
    exact (hok hg).fits.lv p hp
  | eqnilS neg x =>
    rw [hop] at h3
    obtain ⟨b, rfl, _⟩ := h3
    simp at ht
  | _ => rw [hop] at h3; exact (h3.2 hg).2 t ht

end
end Go.Abs
