/- The abstract layer, part 22: whatever order is drawn. -/
import Derived.Test.YthcpckcgjplhiaaAu
namespace Go.Abs

theorem ap_congr (S S' : Nat → Bool) : ∀ (l : List Done) (k : Nat) (st : St), (∀ j, j < l.length → S (k + j) = S' (k + j)) → ap S l k st = ap S' l k st
  | [], _, _, _ => rfl
  | (o, g, out) :: l, k, st, h => by
    have h0 := h 0 (by simp)
    rw [Nat.add_zero] at h0
    simp only [ap, h0]
    exact ap_congr S S' l (k + 1) _ (fun j hj => by rw [show k + 1 + j = k + (j + 1) by omega]; exact h (j + 1) (by simp; omega))

theorem ap_none (S : Nat → Bool) : ∀ (l : List Done) (k : Nat) (st : St), (∀ j, j < l.length → S (k + j) = false) → ap S l k st = st
  | [], _, _, _ => rfl
  | (o, g, out) :: l, k, st, h => by
    have h0 := h 0 (by simp)
    rw [Nat.add_zero] at h0
    simp only [ap, h0, Bool.false_eq_true, if_false]
    exact ap_none S l (k + 1) st (fun j hj => by rw [show k + 1 + j = k + (j + 1) by omega]; exact h (j + 1) (by simp; omega))

/-- The text's order, one operation further. -/
theorem ap_succ : ∀ (l : List Done) (k i : Nat) (st : St) (d : Done), l[i]? = some d →
    ap (fun j => decide (j < k + i + 1)) l k st = (ap (fun j => decide (j < k + i)) l k st).next d.1 d.2.1 d.2.2
  | [], k, i, st, d, h => by simp at h
  | (o, g, out) :: l, k, i, st, d, h => by
    cases i with
    | zero =>
      simp at h; subst h
      simp only [ap, Nat.add_zero]
      rw [if_pos (by simp), if_neg (by simp), ap_none _ l (k + 1) _ (fun j _ => by simp only [decide_eq_false_iff_not]; omega), ap_none _ l (k + 1) _ (fun j _ => by simp only [decide_eq_false_iff_not]; omega)]
    | succ i =>
      have ih := ap_succ l (k + 1) i (st.next o g out) d (by simpa using h)
      simp only [ap]
      rw [if_pos (by simp only [decide_eq_true_eq]; omega), if_pos (by simp only [decide_eq_true_eq]; omega)]
      rw [show k + (i + 1) + 1 = k + 1 + i + 1 by omega, show k + (i + 1) = k + 1 + i by omega]
      exact ih

theorem ap_live_sub (S : Nat → Bool) (t : Nat) : ∀ (l : List Done) (k : Nat) (st : St), t ∈ (ap S l k st).live → t ∈ st.live ∨ ∃ (j : Nat) (d : Done), l[j]? = some d ∧ S (k + j) = true ∧ t ∈ d.2.2.iss
  | [], _, _, h => .inl h
  | (o, g, out) :: l, k, st, h => by
    simp only [ap] at h
    rcases ap_live_sub S t l (k + 1) _ h with h1 | ⟨j, d, hj, hs, hi⟩
    · split at h1
      · rename_i hk
        rcases mem_liveAfter.1 (show t ∈ liveAfter st.live out from h1) with ⟨h2, _⟩ | h2
        · exact .inl h2
        · exact .inr ⟨0, _, rfl, by simpa using hk, h2⟩
      · exact .inl h1
    · exact .inr ⟨j + 1, d, by simpa using hj, by rw [show k + (j + 1) = k + 1 + j by omega]; exact hs, hi⟩

section
variable {P : Program} {mu : List Nat} {N : Nat} {g : Ghost} {w : World} {st : St} {a : Act} {ops : Array Oper}

theorem appendU_wr {es bytes tk : Nat} {r : Src} {s : ASlot} : (appendU es bytes tk r s).wr = none := by unfold appendU; split <;> rfl

theorem wr_memW {tb : Nat} {o : SOper} {gb : Bool} {out : Out} (h : AOne P tb o st gb out) {id : Nat} (hw : id ∈ out.wrs.map (·.1)) : o.op.memW = true := by
  obtain ⟨_, _, h3⟩ := h
  cases hop : o.op with
  | call f args => rfl
  | eqnilS neg x => rw [hop] at h3; obtain ⟨_, rfl, _⟩ := h3; simp [Out.wrs] at hw
  | store _ _ _ => rfl
  | box _ _ => rfl
  | alloc _ _ => rfl
  | copy _ _ _ => rfl
  | append u es bytes s x =>
    rw [hop] at h3
    obtain ⟨rfl, _⟩ := h3
    unfold Out.wrs at hw
    rw [sem_mv] at hw
    simp only [sem, appendOut] at hw
    split at hw
    · split at hw
      · rw [appendU_wr] at hw; simp at hw
      · split at hw <;> simp [Out.bad] at hw
    · simp [Out.bad] at hw
  | _ =>
    rw [hop] at h3
    obtain ⟨rfl, _⟩ := h3
    unfold Out.wrs at hw
    rw [sem_mv] at hw
    simp only [sem, loadOut, binS, sliceOut, sliceSOut, sliceAOut] at hw
    first
      | (simp at hw; done)
      | (split at hw <;> first | (simp [Out.bad] at hw; done) | (split at hw <;> simp [Out.bad] at hw))

theorem touch_mem {tb : Nat} {o : SOper} {gb : Bool} {out : Out} (h : AOne P tb o st gb out) {id : Nat} (ht : id ∈ out.touch) : o.op.memW = true ∨ o.op.memR = true := by
  unfold Out.touch at ht
  rcases List.mem_append.1 ht with hw | ht
  · exact .inl (wr_memW h hw)
  · obtain ⟨_, _, h3⟩ := h
    cases hop : o.op with
    | call f args => exact .inl rfl
    | eqnilS neg x => rw [hop] at h3; obtain ⟨_, rfl, _⟩ := h3; simp at ht
    | load _ _ => exact .inr rfl
    | store _ _ _ => exact .inl rfl
    | box _ _ => exact .inl rfl
    | alloc _ _ => exact .inl rfl
    | copy _ _ _ => exact .inl rfl
    | append _ _ _ _ _ => exact .inr rfl
    | b2s _ => exact .inr rfl
    | sliceA _ _ _ _ _ _ => exact .inr rfl
    | _ =>
      rw [hop] at h3
      obtain ⟨rfl, _⟩ := h3
      simp only [sem, binS, sliceOut, sliceSOut] at ht
      first
        | (simp at ht; done)
        | (split at ht <;> first | (simp [Out.bad] at ht; done) | (split at ht <;> simp [Out.bad] at ht))

/-- What is used up stands in an operand. -/
theorem cons_slots {tb : Nat} {o : SOper} {out : Out} (h : AOne P tb o st true out) : ∀ t ∈ out.cons, ∃ x ∈ o.op.opds, x.ok st.fr = true ∧ t ∈ (x.get st.fr).toks := by
  obtain ⟨_, _, h3⟩ := h
  intro t ht
  cases hop : o.op with
  | call f args =>
    rw [hop] at h3
    obtain ⟨k, as, fa, r, fo, fo', ι, rfl, _, hok⟩ := h3
    have hok := hok rfl
    simp only [callOut, List.mem_map] at ht
    obtain ⟨p, hp, rfl⟩ := ht
    have hcal := hok.callee
    unfold callOf at hcal
    split at hcal
    · rename_i k' first caps hf
      simp only [Option.some.injEq, Prod.mk.injEq] at hcal
      obtain ⟨rfl, rfl⟩ := hcal
      have key : ∀ (l r : List ASlot) (p : Nat × Nat), p ∈ handed l r → ∃ s ∈ l, p.1 ∈ tokOf s := by
        intro l
        induction l with
        | nil => intro r p hp; simp [handed] at hp
        | cons s l ih =>
          intro r p hp
          cases r with
          | nil => cases s <;> simp [handed] at hp
          | cons f r =>
            have tail : p ∈ handed l r → ∃ s' ∈ s :: l, p.1 ∈ tokOf s' := fun h => by obtain ⟨s', h1, h2⟩ := ih r p h; exact ⟨s', List.mem_cons_of_mem _ h1, h2⟩
            cases s <;> cases f <;> simp only [handed] at hp <;> first
              | exact tail hp
              | (rcases List.mem_cons.1 hp with rfl | hp
                 · exact ⟨_, List.mem_cons_self, by simp [tokOf]⟩
                 · exact tail hp)
      obtain ⟨s, hs, hts⟩ := key _ _ p hp
      simp only [List.mem_append, List.mem_map] at hs
      rcases hs with (⟨d, _, rfl⟩ | ⟨x, hx, rfl⟩) | ⟨d, _, rfl⟩
      · simp [tokOf] at hts
      · exact ⟨x, by simp only [SOp.opds, List.mem_cons]; exact .inr hx, List.all_eq_true.1 hok.oks x hx, (tokOf_sub hts).1⟩
      · simp [tokOf] at hts
    · cases hcal
  | eqnilS neg x => rw [hop] at h3; obtain ⟨_, rfl, _⟩ := h3; simp at ht
  | append u es bytes s x =>
    rw [hop] at h3
    obtain ⟨rfl, h4⟩ := h3
    have hob := (h4 rfl).1
    simp only [sem, appendOut] at ht hob
    split at ht
    · split at ht
      · generalize hs : s.get st.fr = sl at ht
        unfold appendU at ht
        split at ht
        · simp only [List.mem_singleton] at ht
          subst ht
          exact ⟨s, by simp [SOp.opds], hob.1, by rw [hs]; simp [ASlot.toks]⟩
        · simp at ht
        · simp at ht
        · simp [Out.bad] at ht
      · split at ht
        · simp only at ht
          exact ⟨s, by simp [SOp.opds], hob.1, (tokOf_sub ht).1⟩
        · simp [Out.bad] at ht
    · simp [Out.bad] at ht
  | _ =>
    rw [hop] at h3
    obtain ⟨rfl, _⟩ := h3
    simp only [sem, loadOut, storeOut, binS, sliceOut, sliceSOut, sliceAOut, copyOut] at ht
    first
      | (simp at ht; done)
      | (split at ht <;> first | (simp [Out.bad] at ht; done) | (split at ht <;> first | (simp [Out.bad] at ht; done) | (split at ht <;> simp [Out.bad] at ht)))

end
end Go.Abs
