/- The abstract layer, part 23: regions that draw their order. -/
import Derived.Test.YthcpckcgjplhiaaAv
import Derived.Orders
namespace Go.Abs

section
variable {P : Program} {mu : List Nat} {N : Nat} {g : Ghost} {w : World} {st : St} {a : Act} {ops : Array Oper}

theorem SR.drew {T : Nat → Prop} (hs : SR N T g w st a) : SR N T g { w with drawn := w.drawn + 1 } st a := by
  have hq : Qt T g w g { w with drawn := w.drawn + 1 } st.live st.live :=
    ⟨⟨rfl, rfl, rfl, Nat.le_refl _, fun _ _ h => ⟨rfl, h⟩, fun _ _ _ h => ⟨rfl, h⟩, fun _ n t _ h => ⟨n, some t, h, Nat.le_refl _, fun _ _ _ h => h⟩, fun _ _ _ h => ⟨h, Nat.le_refl _⟩⟩,
      hs.dom, fun _ _ _ => rfl, fun _ _ h => h, fun _ _ _ _ _ h => ⟨h, rfl⟩, fun _ _ h => h, fun _ _ _ _ h => ⟨h, rfl⟩⟩
  exact hs.quiet hq (fun _ h => h) hs.wf.live

/-- The tokens of the operations that S names, with the old ones. -/
def TS (m n : Nat) (S : Nat → Bool) : Nat → Prop := fun t => t < 16 * m ∨ ∃ j, j < n ∧ S j = true ∧ 16 * (m + j) ≤ t ∧ t < 16 * (m + j) + 16

theorem indep_spec {ps : List (List Nat)} {sops : List SOper} (h : indep ps sops = true) {i j : Nat} (hij : i < j) (hu : i ∉ ps.getD j []) {x y : SOper} (hx : sops[i]? = some x) (hy : sops[j]? = some y) : x.apart y = true := by
  unfold indep at h
  have hj : j < sops.length := (List.getElem?_eq_some_iff.1 hy).1
  have := List.all_eq_true.1 (List.all_eq_true.1 h j (List.mem_range.2 hj)) i (List.mem_range.2 hij)
  rw [hx, hy] at this
  rw [List.getD_eq_getElem?_getD] at hu
  simpa [unordered, hu] using this

theorem apart_spec {x y : SOper} (h : x.apart y = true) : (∀ d, x.dst = some d → d ∉ y.looks) ∧ (∀ d, x.dst = some d → y.dst ≠ some d) ∧ (∀ d, y.dst = some d → d ∉ x.looks) := by
  refine ⟨fun d hd => ?_, fun d hd => ?_, fun d hd => ?_⟩ <;> simp [SOper.apart, hd] at h
  · exact h.1.1
  · exact h.1.2
  · exact h.2

theorem memPairs_spec {ps : List (List Nat)} {sops : List SOper} {i j : Nat} (hij : i < j) (hu : i ∉ ps.getD j []) {x y : SOper} (hx : sops[i]? = some x) (hy : sops[j]? = some y)
    (hm : (x.op.memW = true ∧ (y.op.memW = true ∨ y.op.memR = true)) ∨ ((x.op.memW = true ∨ x.op.memR = true) ∧ y.op.memW = true)) : (i, j) ∈ memPairs ps sops := by
  have hj : j < sops.length := (List.getElem?_eq_some_iff.1 hy).1
  rw [List.getD_eq_getElem?_getD] at hu
  simp only [memPairs, List.mem_flatMap, List.mem_range, List.mem_filterMap]
  refine ⟨j, hj, i, hij, ?_⟩
  rw [hx, hy]
  have : ((x.op.memW && (y.op.memR || y.op.memW)) || (x.op.memR && y.op.memW)) = true := by
    rcases hm with ⟨h1, h2 | h2⟩ | ⟨h1 | h1, h2⟩ <;> simp [h1, h2]
  simp [unordered, hu, this]

/-- All that is known of a region that draws its order. -/
structure Drawn (P : Program) (mu : List Nat) (N : Nat) (ops : Array Oper) (sops : List SOper) (st : St) (L : List Done) : Prop where
  comp : compOps P mu N ops ops.toList = some sops
  back : ∀ j, j < ops.toList.length → ∀ e ∈ direct ops.toList j, e < j
  ind : indep (preds ops.toList) sops = true
  nil : (sops.any fun o => o.op.isNilS) = false
  clean : (sops.all fun o => o.op.opds.all Opd.clean) = true
  map : L.map (·.1) = sops
  chain : Chain P L 0 st
  pairs : pairsOk (memPairs (preds ops.toList) sops) (L.map fun d => d.2.2.touch)

/-- What is known between two operations. -/
structure Midst (N : Nat) (ops : Array Oper) (st : St) (L : List Done) (S : Nat → Bool) (g : Ghost) (w : World) (a : Act) : Prop where
  closed : Closed ops.toList S
  dom : ∀ j, S j = true → j < ops.size
  sr : SR N (TS st.nt ops.size S) g w (ap S L 0 st) a
  cons : ∀ (j : Nat) (d : Done), L[j]? = some d → S j = true → ∀ t ∈ d.2.2.cons, TS st.nt ops.size S t

variable {sops : List SOper} {L : List Done} {S : Nat → Bool}

theorem Drawn.len (D : Drawn P mu N ops sops st L) : L.length = ops.size ∧ sops.length = ops.size := by
  have h1 := (compOps_get D.comp).1
  have h2 : L.length = sops.length := by rw [← D.map]; simp
  simp at h1
  omega

theorem Drawn.op (D : Drawn P mu N ops sops st L) {i : Nat} {d : Done} (h : L[i]? = some d) : sops[i]? = some d.1 := by
  rw [← D.map]; simp [h]

theorem Drawn.un (D : Drawn P mu N ops sops st L) (hc : Closed ops.toList S) {i : Nat} (hi : i < ops.size) (hd : ∀ e ∈ direct ops.toList i, S e = true) : ∀ e, S e = false → e ∉ (preds ops.toList).getD i [] := by
  intro e he hm
  have := preds_in D.back hc (i + 1) i (Nat.lt_succ_self _) (by simpa using hi) hd e hm
  rw [he] at this; cases this

/-- Two operations, of which the one stands in S and the other does not, and whose numbers stand the other way. -/
theorem Drawn.far (D : Drawn P mu N ops sops st L) (M : Midst N ops st L S g w a) {i : Nat} (hi : i < ops.size) (hS : S i = false) (hd : ∀ e ∈ direct ops.toList i, S e = true) {j : Nat} {x y : Done}
    (hx : L[i]? = some x) (hy : L[j]? = some y) (hj : S j ≠ decide (j < i)) :
    (∀ d, y.1.dst = some d → d ∉ x.1.looks ∧ x.1.dst ≠ some d) ∧
    ((x.1.op.memW = true ∧ (y.1.op.memW = true ∨ y.1.op.memR = true)) ∨ ((x.1.op.memW = true ∨ x.1.op.memR = true) ∧ y.1.op.memW = true) → ∀ id, id ∈ x.2.2.touch → id ∉ y.2.2.touch) ∨ j = i := by
  have hjn : j < ops.size := by
    have := (List.getElem?_eq_some_iff.1 hy).1
    have := D.len.1
    omega
  by_cases hji : j < i
  · have hSj : S j = false := by simpa [hji] using hj
    have hu := D.un M.closed hi hd j hSj
    obtain ⟨q1, q2, _⟩ := apart_spec (indep_spec D.ind hji hu (D.op hy) (D.op hx))
    refine .inl ⟨fun d hdd => ⟨q1 d hdd, q2 d hdd⟩, fun hm id h1 h2 => ?_⟩
    have hp := memPairs_spec hji hu (D.op hy) (D.op hx) (hm.elim (fun ⟨u, v⟩ => .inr ⟨v, u⟩) (fun ⟨u, v⟩ => .inl ⟨v, u⟩))
    exact D.pairs _ hp id (by simp [List.getD_eq_getElem?_getD, hy, h2]) (by simp [List.getD_eq_getElem?_getD, hx, h1])
  · by_cases hij : i < j
    · have hSj : S j = true := by simpa [hji] using hj
      have hu := D.un M.closed hjn (M.closed j (by simpa using hjn) hSj) i hS
      obtain ⟨q1, q2, q3⟩ := apart_spec (indep_spec D.ind hij hu (D.op hx) (D.op hy))
      refine .inl ⟨fun d hdd => ⟨q3 d hdd, fun he => q2 d he hdd⟩, fun hm id h1 h2 => ?_⟩
      have hp := memPairs_spec hij hu (D.op hx) (D.op hy) hm
      exact D.pairs _ hp id (by simp [List.getD_eq_getElem?_getD, hx, h1]) (by simp [List.getD_eq_getElem?_getD, hy, h2])
    · exact .inr (by omega)

/-- Issued ahead of being used up. -/
theorem Drawn.order (D : Drawn P mu N ops sops st L) (hlt : ∀ t ∈ st.live, t < 16 * st.nt) (t : Nat) : ∀ (i j : Nat) (d e : Done), L[i]? = some d → L[j]? = some e → t ∈ d.2.2.iss → t ∈ e.2.2.cons → i < j := by
  intro i j d e hi hj h1 h2
  have c1 := iss_range (chain_get D.chain i d hi) t h1
  obtain ⟨h3, _⟩ := cons_live (chain_get D.chain j e hj) t h2
  rcases ap_live_sub _ t L 0 st h3 with h4 | ⟨m, f, q1, q2, q3⟩
  · have := hlt t h4; omega
  · have c2 := iss_range (chain_get D.chain m f q1) t q3
    simp at q2
    omega

theorem Drawn.same (D : Drawn P mu N ops sops st L) (M : Midst N ops st L S g w a) {i : Nat} (hi : i < ops.size) (hS : S i = false) (hd : ∀ e ∈ direct ops.toList i, S e = true) {x : Done} (hx : L[i]? = some x) :
    (∀ n, n ∈ x.1.looks ∨ x.1.dst = some n → (ap S L 0 st).fr.get n = (ap (fun j => decide (j < i)) L 0 st).fr.get n) ∧
    (∀ id, id ∈ x.2.2.touch → (ap S L 0 st).os[id]? = (ap (fun j => decide (j < i)) L 0 st).os[id]?) := by
  refine ⟨fun n hn => ap_get _ _ n L 0 st st rfl (fun j d hj hdd => ?_), fun id hid => ap_obj _ _ id L 0 st st rfl rfl (fun j d hj hw => ?_)⟩
  · rw [Nat.zero_add]
    by_cases h : S j = decide (j < i)
    · exact h
    · rcases D.far M hi hS hd hx hj h with ⟨h1, _⟩ | rfl
      · have := h1 n hdd
        rcases hn with hn | hn
        · exact (this.1 hn).elim
        · exact (this.2 hn).elim
      · simp [hS] at h
  · rw [Nat.zero_add]
    by_cases h : S j = decide (j < i)
    · exact h
    · rcases D.far M hi hS hd hx hj h with ⟨_, h1⟩ | rfl
      · have hmw := wr_memW (chain_get D.chain j d hj) hw
        have htm := touch_mem (chain_get D.chain i x hx) hid
        exact (h1 (.inr ⟨htm, hmw⟩) id hid (List.mem_append_left _ hw)).elim
      · simp [hS] at h

/-- The operation may run now. -/
theorem Drawn.now (D : Drawn P mu N ops sops st L) (hlt : ∀ t ∈ st.live, t < 16 * st.nt) (M : Midst N ops st L S g w a) {i : Nat} (hi : i < ops.size) (hS : S i = false) (hd : ∀ e ∈ direct ops.toList i, S e = true) {x : Done} (hx : L[i]? = some x) :
    AOne P (16 * (st.nt + i)) x.1 (ap S L 0 st) x.2.1 x.2.2 := by
  have h0 := chain_get D.chain i x hx
  rw [Nat.zero_add] at h0
  obtain ⟨s1, s2⟩ := D.same M hi hS hd hx
  refine one_same h0 (fun n hn => s1 n (.inl hn)) (by rw [ap_os_length, ap_os_length]) s2 (fun hg t ht => ?_)
  obtain ⟨hl, _⟩ := cons_live h0 t ht
  rw [hg] at h0
  have ho := D.order hlt t
  rw [ap_live _ _ _ _ _ ho] at hl ⊢
  obtain ⟨hl1, hl2⟩ := hl
  refine ⟨?_, ?_⟩
  · rcases hl1 with hl1 | ⟨j, d, hj, hji, hti⟩
    · exact .inl hl1
    · refine .inr ⟨j, d, hj, ?_, hti⟩
      rw [Nat.zero_add]
      obtain ⟨y, hy, hok, hty⟩ := cons_slots h0 t ht
      have hcl : y.clean = true := by
        have h1 := List.all_eq_true.1 D.clean _ (List.mem_of_getElem? (D.op hx))
        exact List.all_eq_true.1 h1 y hy
      have hir := iss_range (chain_get D.chain j d hj) t hti
      rw [Nat.zero_add] at hir
      cases y with
      | k s => cases s <;> first | (simp [Opd.clean] at hcl; done) | (simp [Opd.get, ASlot.toks] at hty; done)
      | t n =>
        have hsame := s1 n (.inl (by unfold SOper.looks; exact List.mem_append_left _ (slot_of_opds hy rfl)))
        simp only [Opd.ok, Opd.get] at hok hty
        rw [← hsame] at hok hty
        cases hgt : (ap S L 0 st).fr.get n with
        | none => rw [hgt] at hok; simp at hok
        | some p =>
          obtain ⟨v, s⟩ := p
          rw [hgt] at hok hty
          simp only at hok hty
          rcases M.sr.wf.fr n s (by rw [hgt]; cases v <;> simp_all) t (by simpa using hty) with h4 | ⟨m, hm, hSm, h5, h6⟩
          · omega
          · have : m = j := by omega
            rw [← this]; exact hSm
  · rintro ⟨j, d, hj, hSj, htc⟩
    rw [Nat.zero_add] at hSj
    by_cases hji : j < i
    · exact hl2 ⟨j, d, hj, by simp [hji], htc⟩
    · have hne : j ≠ i := by rintro rfl; rw [hS] at hSj; cases hSj
      obtain ⟨hlj, _⟩ := cons_live (chain_get D.chain j d hj) t htc
      rw [ap_live _ _ _ _ _ ho] at hlj
      exact hlj.2 ⟨i, x, hx, by simp; omega, ht⟩

/-- Behind the operation. -/
theorem Drawn.step (D : Drawn P mu N ops sops st L) (hlt : ∀ t ∈ st.live, t < 16 * st.nt) (M : Midst N ops st L S g w a) {i : Nat} (hi : i < ops.size) (hS : S i = false) (hd : ∀ e ∈ direct ops.toList i, S e = true) {x : Done} (hx : L[i]? = some x)
    {g' : Ghost} {w' : World} {a' : Act} {S' : Nat → Bool} (hS' : ∀ j, S' j = (decide (j = i) || S j)) (hsr : SR N (Next (TS st.nt ops.size S) (16 * (st.nt + i))) g' w' ((ap S L 0 st).next x.1 x.2.1 x.2.2) a') :
    Midst N ops st L S' g' w' a' := by
  have hmono : ∀ j, S j = true → S' j = true := fun j h => by rw [hS', h, Bool.or_true]
  have hii : S' i = true := by rw [hS']; simp
  have hne : ∀ j, j ≠ i → S' j = S j := fun j h => by rw [hS']; simp [h]
  have hT : ∀ t, Next (TS st.nt ops.size S) (16 * (st.nt + i)) t → TS st.nt ops.size S' t := by
    rintro t ((h | ⟨j, h1, h2, h3⟩) | h)
    · exact .inl h
    · exact .inr ⟨j, h1, hmono j h2, h3⟩
    · exact .inr ⟨i, hi, hii, h⟩
  have ho := D.order hlt
  have hnow := D.now hlt M hi hS hd hx
  have hch := chain_get D.chain i x hx
  rw [Nat.zero_add] at hch
  refine ⟨fun j hj hSj e he => ?_, fun j hSj => ?_, (hsr.weakT hT).like ⟨fun k => ?_, fun id => ?_, fun t => ?_⟩, fun j d hj hSj t ht => ?_⟩
  · by_cases hji : j = i
    · subst hji; exact hmono e (hd e he)
    · exact hmono e (M.closed j hj (by rw [← hne j hji]; exact hSj) e he)
  · by_cases hji : j = i
    · subst hji; exact hi
    · exact M.dom j (by rw [← hne j hji]; exact hSj)
  · by_cases hk : x.1.dst = some k
    · have h1 : (ap S' L 0 st).fr.get k = (ap (fun j => decide (j < 0 + i + 1)) L 0 st).fr.get k := ap_get _ _ k L 0 st st rfl (fun j d hj hdd => by
        rw [Nat.zero_add, Nat.zero_add]
        by_cases hji : j = i
        · subst hji; simp [hii]
        · rw [hne j hji]
          have hlt' : decide (j < i + 1) = decide (j < i) := by congr 1; exact propext ⟨fun h => by omega, fun h => by omega⟩
          rw [hlt']
          by_cases h : S j = decide (j < i)
          · exact h
          · rcases D.far M hi hS hd hx hj h with ⟨h2, _⟩ | rfl
            · exact ((h2 k hdd).2 hk).elim
            · exact (hji rfl).elim)
      rw [h1, ap_succ L 0 i st x hx]
      simp only [St.next, putFr_get, hk, if_true]
    · have h1 : (ap S' L 0 st).fr.get k = (ap S L 0 st).fr.get k := ap_get _ _ k L 0 st st rfl (fun j d hj hdd => by
        rw [Nat.zero_add]
        refine hne j ?_
        rintro rfl
        rw [hx] at hj; cases hj
        exact hk hdd)
      rw [h1]
      simp only [St.next, putFr_get, if_neg hk]
  · by_cases hk : id ∈ x.2.2.wrs.map (·.1)
    · have h1 : (ap S' L 0 st).os[id]? = (ap (fun j => decide (j < 0 + i + 1)) L 0 st).os[id]? := ap_obj _ _ id L 0 st st rfl rfl (fun j d hj hw => by
        rw [Nat.zero_add, Nat.zero_add]
        by_cases hji : j = i
        · subst hji; simp [hii]
        · rw [hne j hji]
          have hlt' : decide (j < i + 1) = decide (j < i) := by congr 1; exact propext ⟨fun h => by omega, fun h => by omega⟩
          rw [hlt']
          by_cases h : S j = decide (j < i)
          · exact h
          · rcases D.far M hi hS hd hx hj h with ⟨_, h2⟩ | rfl
            · have hmw := wr_memW (chain_get D.chain j d hj) hw
              exact (h2 (.inl ⟨wr_memW hch hk, .inl hmw⟩) id (List.mem_append_left _ hk) (List.mem_append_left _ hw)).elim
            · exact (hji rfl).elim)
      rw [h1, ap_succ L 0 i st x hx]
      have hg : ∀ z : St, (z.next x.1 x.2.1 x.2.2).os[id]? = (setAll z.os x.2.2.wrs)[id]? := fun z => rfl
      rw [hg, hg]
      exact setAll_same _ _ _ _ (by simp only [ap_os_length]) (.inl hk)
    · have h1 : (ap S' L 0 st).os[id]? = (ap S L 0 st).os[id]? := ap_obj _ _ id L 0 st st rfl rfl (fun j d hj hw => by
        rw [Nat.zero_add]
        refine hne j ?_
        rintro rfl
        rw [hx] at hj; cases hj
        exact hk hw)
      rw [h1]
      exact (setAll_other _ _ _ hk).symm
  · have hl : t ∈ ((ap S L 0 st).next x.1 x.2.1 x.2.2).live ↔ (t ∈ (ap S L 0 st).live ∧ t ∉ x.2.2.cons) ∨ t ∈ x.2.2.iss := mem_liveAfter
    rw [hl, ap_live S' t L 0 st (ho t), ap_live S t L 0 st (ho t)]
    simp only [Nat.zero_add]
    constructor
    · rintro ⟨h1, h2⟩
      have hnc : t ∉ x.2.2.cons := fun hc => h2 ⟨i, x, hx, hii, hc⟩
      have hns : ¬ ∃ (j : Nat) (d : Done), L[j]? = some d ∧ S j = true ∧ t ∈ d.2.2.cons := fun ⟨j, d, q1, q2, q3⟩ => h2 ⟨j, d, q1, hmono j q2, q3⟩
      rcases h1 with h1 | ⟨j, d, q1, q2, q3⟩
      · exact .inl ⟨⟨.inl h1, hns⟩, hnc⟩
      · by_cases hji : j = i
        · subst hji; rw [hx] at q1; cases q1; exact .inr q3
        · exact .inl ⟨⟨.inr ⟨j, d, q1, by rw [← hne j hji]; exact q2, q3⟩, hns⟩, hnc⟩
    · rintro (⟨⟨h1, h2⟩, h3⟩ | h1)
      · refine ⟨h1.imp id fun ⟨j, d, q1, q2, q3⟩ => ⟨j, d, q1, hmono j q2, q3⟩, fun ⟨j, d, q1, q2, q3⟩ => ?_⟩
        by_cases hji : j = i
        · subst hji; rw [hx] at q1; cases q1; exact h3 q3
        · exact h2 ⟨j, d, q1, by rw [← hne j hji]; exact q2, q3⟩
      · refine ⟨.inr ⟨i, x, hx, hii, h1⟩, fun ⟨j, d, q1, q2, q3⟩ => ?_⟩
        by_cases hji : j = i
        · subst hji
          rw [hx] at q1; cases q1
          have := ho t j j x x hx hx h1 q3
          omega
        · rw [hne j hji] at q2
          have hir := iss_range hch t h1
          rcases M.cons j d q1 q2 t q3 with h4 | ⟨m, _, hSm, h5, h6⟩
          · omega
          · have : m = i := by omega
            rw [this, hS] at hSm; cases hSm
  · by_cases hji : j = i
    · subst hji
      rw [hx] at hj; cases hj
      obtain ⟨h1, _⟩ := cons_live hnow t ht
      exact hT t (.inl (M.sr.wf.live t h1))
    · exact hT t (.inl (M.cons j d hj (by rw [← hne j hji]; exact hSj) t ht))

/-- All orders. -/
theorem Drawn.any {Q : Exit → Act → World → Prop} (D : Drawn P mu N ops sops st L) (hlt : ∀ t ∈ st.live, t < 16 * st.nt)
    (hQ : ∀ g' w' a', G g w g' w' → SR N (below (st.nt + ops.size)) g' w' (ap (fun _ => true) L 0 st) a' → Q .normal a' w') :
    ∀ (fuel : Nat) (listed : Array Bool) (U : List Nat) (g' : Ghost) (w' : World) (a' : Act), listed.size = ops.size → U.length ≤ fuel → (∀ j, j < ops.size → listed.getD j false = false → j ∈ U) →
      G g w g' w' → Midst N ops st L (fun j => listed.getD j false) g' w' a' → wpAny P .any ops Q fuel listed a' w' := by
  have hdone : ∀ (listed : Array Bool) (g' : Ghost) (w' : World) (a' : Act), (∀ j, j < ops.size → listed.getD j false = true) → G g w g' w' → Midst N ops st L (fun j => listed.getD j false) g' w' a' → Q .normal a' w' := by
    intro listed g' w' a' hall hG M
    refine hQ g' w' a' hG ?_
    have h1 : ap (fun j => listed.getD j false) L 0 st = ap (fun _ => true) L 0 st := ap_congr _ _ L 0 st (fun j hj => by rw [Nat.zero_add]; exact hall j (by rw [D.len.1] at hj; exact hj))
    rw [← h1]
    refine M.sr.weakT ?_
    rintro t (h | ⟨j, h1, h2, h3, h4⟩)
    · unfold below; omega
    · unfold below; omega
  have hready : ∀ (listed : Array Bool) (i : Nat), listed.size = ops.size → i < ops.size → (i ∈ Region.ready .any ops listed ↔ listed.getD i false = false ∧ ∀ e ∈ direct ops.toList i, listed.getD e false = true) := by
    intro listed i hsz hi
    have hgt : listed.getD i true = listed.getD i false := by simp [Array.getD, hsz, hi]
    unfold Region.ready
    rw [List.mem_filter, List.mem_range]
    have hoi : ops[i]? = some ops[i] := by simp [hi]
    have hoi' : ops.toList[i]? = some ops[i] := by simp [hi]
    simp only [hoi, Option.map_some, Option.getD_some, hgt, direct, hoi', Bool.and_eq_true, Bool.not_eq_true', hi, true_and]
    refine and_congr Iff.rfl ?_
    rw [Array.all_eq_true']
    simp only [List.mem_map, List.mem_filter, Array.mem_toList_iff, Bool.or_eq_true, Bool.not_eq_true']
    constructor
    · rintro h e ⟨x, ⟨hx, hb⟩, rfl⟩
      rcases h x hx with h1 | h1
      · rw [hb] at h1; cases h1
      · exact h1
    · intro h x hx
      cases hb : Region.binds .any x with
      | false => exact .inl rfl
      | true => exact .inr (h x.on ⟨x, ⟨hx, hb⟩, rfl⟩)
  intro fuel
  induction fuel with
  | zero =>
    intro listed U g' w' a' hsz hU hm hG M
    have hall : ∀ j, j < ops.size → listed.getD j false = true := by
      intro j hj
      cases h : listed.getD j false with
      | true => rfl
      | false =>
        have := hm j hj h
        have : U = [] := by cases U with | nil => rfl | cons _ _ => simp at hU
        subst this; simp_all
    refine ⟨?_, hdone listed g' w' a' hall hG M⟩
    cases hr : Region.ready .any ops listed with
    | nil => rfl
    | cons i l =>
      have hmem : i ∈ Region.ready .any ops listed := by rw [hr]; exact List.mem_cons_self
      have hi : i < ops.size := by unfold Region.ready at hmem; exact List.mem_range.1 (List.mem_filter.1 hmem).1
      have := ((hready listed i hsz hi).1 hmem).1
      rw [hall i hi] at this; cases this
  | succ fuel ih =>
    intro listed U g' w' a' hsz hU hm hG M
    refine ⟨fun hr => hdone listed g' w' a' ?_ hG M, fun i hir => ?_⟩
    · have : ∀ (n j : Nat), j < n → j < ops.size → listed.getD j false = true := by
        intro n
        induction n with
        | zero => intro j h; omega
        | succ n ihn =>
          intro j hjn hj
          cases h : listed.getD j false with
          | true => rfl
          | false =>
            have hmem := (hready listed j hsz hj).2 ⟨h, fun e he => by
              have hej := D.back j (by simpa using hj) e he
              exact ihn e (by omega) (by omega)⟩
            rw [hr] at hmem; simp at hmem
      exact fun j hj => this (j + 1) j (Nat.lt_succ_self _) hj
    · have hi : i < ops.size := by unfold Region.ready at hir; exact List.mem_range.1 (List.mem_filter.1 hir).1
      obtain ⟨hS, hd⟩ := (hready listed i hsz hi).1 hir
      have hLi : i < L.length := by rw [D.len.1]; exact hi
      have hx : L[i]? = some L[i] := List.getElem?_eq_getElem hLi
      have hnow := D.now hlt M hi hS hd hx
      have hop : ops[i]? = some ops[i] := by simp [hi]
      obtain ⟨back, hcomp⟩ := (compOps_get D.comp).2 i ops[i] L[i].1 (by simp [hi]) (D.op hx)
      have hne : L[i].1.op.isNilS = false := by
        have := D.nil
        rw [List.any_eq_false] at this
        have := this _ (List.mem_of_getElem? (D.op hx))
        simpa using this
      have hfr : Fresh (TS st.nt ops.size fun j => listed.getD j false) (16 * (st.nt + i)) := by
        rintro t (h | ⟨j, h1, h2, h3, h4⟩) ⟨h5, h6⟩
        · omega
        · have : j = i := by omega
          subst this
          exact absurd (hS.symm.trans h2) (by simp)
      have hone := one_wp (K := wpAny P .any ops Q fuel (listed.setIfInBounds i true)) (Q := Q) hcomp M.sr hfr hnow hne (fun a'' w'' g'' hG' hsr => by
        have hset : ∀ j, (listed.setIfInBounds i true).getD j false = (decide (j = i) || listed.getD j false) := by
          intro j
          simp only [Array.getD_eq_getD_getElem?, Array.getElem?_setIfInBounds]
          by_cases hji : i = j
          · subst hji; simp [hsz, hi]
          · rw [if_neg hji]
            simp [show ¬ j = i from fun h => hji h.symm]
        refine ih (listed.setIfInBounds i true) (U.erase i) g'' w'' a'' (by simpa using hsz) ?_ (fun j hj hjf => ?_) (hG.trans hG') (D.step hlt M hi hS hd hx hset hsr)
        · rw [List.length_erase_of_mem (hm i hi hS)]
          omega
        · rw [hset] at hjf
          simp only [Bool.or_eq_false_iff, decide_eq_false_iff_not] at hjf
          exact (List.mem_erase_of_ne hjf.1).2 (hm j hj hjf.2))
      unfold wpOp
      rw [hop]
      simp only
      split
      · rename_i hw
        rw [if_pos hw] at hone
        exact .inl hone
      · rename_i hw
        rw [if_neg hw] at hone
        exact hone

/-- A REGION, in whatever order it is drawn. -/
theorem region_wp {Q : Exit → Act → World → Prop} {id : Nat} {draw : Bool} {objs : Nat} {pairs : List (Nat × Nat)} {K : St → Prop} (hm : P.follows .mixedOrders = true) {news : List (FuncId × Nat)} (hc : compRegion P mu N news ops draw = some (sops, objs, pairs))
    (hs : SR N (below st.nt) g w st a) (h : ARegion P sops objs pairs K st)
    (hQ : ∀ st' g' w' a', K st' → G g w g' w' → SR N (below st'.nt) g' w' st' a' → Q .normal a' w') : (Code.region id ops draw).wp P Q a w := by
  unfold compRegion at hc
  cases hcs : compOps P mu N ops ops.toList with
  | none => rw [hcs] at hc; cases hc
  | some sops' =>
    rw [hcs] at hc
    cases draw with
    | false =>
      simp only [Bool.false_eq_true, if_false, Option.some.injEq, Prod.mk.injEq] at hc
      obtain ⟨rfl, rfl, rfl⟩ := hc
      refine wp_region_list ?_
      refine arun_wp ops.toList sops' 0 [] _ (st.grow _) g w a hcs h (hs.grow _) (fun tids' st' a' w' g' hK hnt hG hsr => ?_)
      refine hQ _ g' w' a' hK.2 hG (SR.bump ?_ _)
      show SR N (below (st'.nt + sops'.length)) g' w' st' a'
      rw [hnt]
      exact hsr
    | true =>
      simp only [if_true] at hc
      split at hc
      · rename_i hchk
        simp only [Bool.and_eq_true, Bool.not_eq_true'] at hchk
        obtain ⟨⟨⟨c1, c2⟩, c3⟩, c4⟩ := hchk
        simp only [Option.some.injEq, Prod.mk.injEq] at hc
        obtain ⟨rfl, rfl, rfl⟩ := hc
        refine wp_region_any hm ?_
        have hsg : SR N (below st.nt) g { w with drawn := w.drawn + 1 } (st.grow (newsOf news sops' + ops.toList.countP (Op.allocs ·.op))) a := (hs.grow _).drew
        obtain ⟨L, q1, q2, q3, q4⟩ := chain_of_arun sops' 0 [] _ _ h c3
        have D : Drawn P mu N ops sops' (st.grow (newsOf news sops' + ops.toList.countP (Op.allocs ·.op))) L := ⟨hcs, edgesBack_spec c1, c2, c3, c4, q1, q2, by simpa using q3⟩
        have hG0 : G g w g { w with drawn := w.drawn + 1 } := ⟨rfl, rfl, rfl, Nat.le_refl _, fun _ _ h => ⟨rfl, h⟩, fun _ _ _ h => ⟨rfl, h⟩, fun _ n t _ h => ⟨n, some t, h, Nat.le_refl _, fun _ _ _ h => h⟩, fun _ _ _ h => ⟨h, Nat.le_refl _⟩⟩
        refine D.any (fun t ht => hsg.wf.live t ht) (fun g' w' a' hG hsr => hQ _ g' w' a' q4 (hG0.trans hG) (SR.bump ?_ _)) ops.size _ (List.range ops.size) g _ a (by simp) (by simp) (fun j hj _ => List.mem_range.2 hj) (G.refl _ _) ?_
        · show SR N (below ((ap (fun _ => true) L 0 _).nt + sops'.length)) g' w' _ a'
          rw [ap_nt, D.len.2]
          exact hsr
        · have hno : ∀ j, (Array.replicate ops.size false).getD j false = false := by
            intro j
            simp only [Array.getD_eq_getD_getElem?, Array.getElem?_replicate]
            split <;> rfl
          refine ⟨fun j _ h => ?_, fun j h => ?_, ?_, fun j d _ h => ?_⟩
          · rw [hno] at h; cases h
          · rw [hno] at h; cases h
          · rw [ap_none _ L 0 _ (fun j _ => hno _)]
            exact hsg.weakT fun t h => .inl h
          · rw [hno] at h; cases h
      · cases hc

end
end Go.Abs
