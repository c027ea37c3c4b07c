/- The abstract layer, part 8: literals of structs and arrays, cuts of strings. -/
import Derived.Test.YthcpckcgjplhiaaAg
namespace Go.Abs

section
variable {P : Program} {N tb : Nat} {T : Nat → Prop} {g : Ghost} {w : World} {st : St} {a : Act} {oper : Oper}

/-- Cells that read as a list of values of one cell each. -/
def RL (g : Ghost) (w : World) (vs : List Value) (ds : List D) : Prop :=
  vs.length = ds.length ∧ (∀ d ∈ ds, d.isCell = true) ∧ ∀ (j : Nat) (v : Value) (d : D), vs[j]? = some v → ds[j]? = some d → RV g w v d

theorem RL.agg {vs : List Value} {ds : List D} (h : RL g w vs ds) : RV g w (.agg vs.toArray) (.agg ds) := .agg vs ds h.1 h.2.1 h.2.2

theorem RL.take {vs : List Value} {ds : List D} (h : RL g w vs ds) (n : Nat) : RL g w (vs.take n) (ds.take n) :=
  ⟨by simp [h.1], fun d hd => h.2.1 d (List.mem_of_mem_take hd), fun j v d hv hd => by
    rw [List.getElem?_take] at hv hd
    split at hv
    · simp_all; exact h.2.2 j v d hv hd
    · cases hv⟩

theorem RL.drop {vs : List Value} {ds : List D} (h : RL g w vs ds) (n : Nat) : RL g w (vs.drop n) (ds.drop n) :=
  ⟨by simp [h.1], fun d hd => h.2.1 d (List.mem_of_mem_drop hd), fun j v d hv hd => h.2.2 (n + j) v d (by simpa using hv) (by simpa using hd)⟩

theorem RL.append {vs us : List Value} {ds es : List D} (h : RL g w vs ds) (k : RL g w us es) : RL g w (vs ++ us) (ds ++ es) :=
  ⟨by simp [h.1, k.1], fun d hd => by rcases List.mem_append.1 hd with hd | hd; exact h.2.1 d hd; exact k.2.1 d hd, fun j v d hv hd => by
    by_cases hj : j < vs.length
    · rw [List.getElem?_append_left hj] at hv
      rw [List.getElem?_append_left (by rw [← h.1]; exact hj)] at hd
      exact h.2.2 j v d hv hd
    · rw [List.getElem?_append_right (by omega)] at hv
      rw [List.getElem?_append_right (by rw [← h.1]; omega)] at hd
      rw [← h.1] at hd
      exact k.2.2 _ v d hv hd⟩

theorem RL.consts {vs : List Value} {ds : List D} (h : vs.mapM constD = some ds) : RL g w vs ds := by
  obtain ⟨h1, h2⟩ := mapM_some h
  refine ⟨h1, fun d hd => ?_, fun j v d hv hd => constD_rv (h2 j v d hv hd)⟩
  obtain ⟨i, hi⟩ := List.getElem?_of_mem hd
  have hlt : i < vs.length := by rw [h1]; exact (List.getElem?_eq_some_iff.1 hi).1
  exact constD_cell (h2 i vs[i] d (List.getElem?_eq_getElem hlt) hi)

/-- A value's cells. -/
theorem rl_cells {live : List Nat} {v : Value} {s : ASlot} (h : RS g w live v s) (hok : s.dCellsOk = true) : RL g w v.cells.toList s.dCells := by
  have one : ∀ d : D, RV g w v d → d.isCell = true → RL g w v.cells.toList [d] := by
    intro d hd hc
    have hv := hd.oneCell hc
    have : v.cells = #[v] := by cases v <;> first | rfl | (simp [Value.oneCell'] at hv)
    rw [this]
    refine ⟨rfl, by simpa using hc, fun j u e hu he => ?_⟩
    cases j with
    | zero => simp at hu he; subst hu he; exact hd
    | succ j => simp at hu
  cases s with
  | d x =>
    cases x with
    | agg cs =>
      obtain ⟨vs, rfl, h1, h2, h3⟩ := rv_agg (rs_d h)
      simpa [Value.cells, ASlot.dCells] using (show RL g w vs cs from ⟨h1, h2, h3⟩)
    | _ => exact one _ h rfl
  | own t es rows => exact one _ h.1 rfl
  | full es rows => exact one _ h.1 rfl
  | _ => simp [ASlot.dCellsOk] at hok

theorem foldl_set_cells : ∀ (vs : List Value) (off k : Nat) (cells : Array Value), off + k + vs.length ≤ cells.size →
    ((vs.zipIdx k).foldl (fun cs (c, j) => cs.setIfInBounds (off + j) c) cells).toList = cells.toList.take (off + k) ++ vs ++ cells.toList.drop (off + k + vs.length)
  | [], off, k, cells, h => by simp
  | v :: vs, off, k, cells, h => by
    simp only [List.zipIdx_cons, List.foldl_cons]
    rw [foldl_set_cells vs off (k + 1) _ (by simp at h ⊢; omega)]
    simp only [Array.toList_setIfInBounds, List.length_cons]
    have hlt : off + k < cells.toList.length := by simp at h ⊢; omega
    have h1 : (cells.toList.set (off + k) v).take (off + (k + 1)) = cells.toList.take (off + k) ++ [v] := by
      have hle : (cells.toList.take (off + k)).length = off + k := by simp at hlt ⊢; omega
      rw [show off + (k + 1) = off + k + 1 by omega, List.take_set, List.take_succ_eq_append_getElem hlt, List.set_append_right _ _ (by omega), hle]
      simp
    have h2 : (cells.toList.set (off + k) v).drop (off + (k + 1) + vs.length) = cells.toList.drop (off + k + (vs.length + 1)) := by
      rw [List.drop_set_of_lt (by omega)]
      congr 1
      omega
    rw [h1, h2]
    simp

theorem fill_rel (place : Nat → Option (Nat × Nat)) : ∀ (parts : List (Nat × Value)) (dparts : List (Nat × List D)) (cells : Array Value) (z : List D), RL g w cells.toList z →
    parts.length = dparts.length → (∀ (k : Nat) (p : Nat × Value) (q : Nat × List D), parts[k]? = some p → dparts[k]? = some q → place p.1 = some (q.1, q.2.length) ∧ RL g w p.2.cells.toList q.2 ∧ q.1 + q.2.length ≤ z.length) →
    ∃ cells', Instr.fill place cells parts = some cells' ∧ RL g w cells'.toList (fillD z dparts)
  | [], dparts, cells, z, hz, hl, _ => by
    cases dparts with
    | nil => exact ⟨cells, rfl, hz⟩
    | cons => simp at hl
  | (i, v) :: parts, dparts, cells, z, hz, hl, hp => by
    cases dparts with
    | nil => simp at hl
    | cons q dparts =>
      obtain ⟨off, cs⟩ := q
      obtain ⟨h1, h2, h3⟩ := hp 0 (i, v) (off, cs) rfl rfl
      have hsz : v.cells.size = cs.length := by have := h2.1; simpa using this
      have hcz : cells.size = z.length := by have := hz.1; simpa using this
      simp only at h1 h3
      have hno : ¬ (v.cells.size ≠ cs.length ∨ off + v.cells.size > cells.size) := by omega
      have hfold : ((v.cells.zipIdx.foldl (fun cs (c, j) => cs.setIfInBounds (off + j) c) cells)).toList = cells.toList.take off ++ v.cells.toList ++ cells.toList.drop (off + v.cells.toList.length) := by
        have := foldl_set_cells v.cells.toList off 0 cells (by simp; omega)
        rw [Nat.add_zero] at this
        rw [← this, ← Array.foldl_toList]
        simp
      have hrel : RL g w (v.cells.zipIdx.foldl (fun cs (c, j) => cs.setIfInBounds (off + j) c) cells).toList (z.take off ++ cs ++ z.drop (off + cs.length)) := by
        rw [hfold]
        have : v.cells.toList.length = cs.length := h2.1
        rw [this]
        exact ((hz.take off).append h2).append (hz.drop _)
      obtain ⟨cells', f1, f2⟩ := fill_rel place parts dparts _ _ hrel (by simpa using hl) (fun k p q hk hq => by
        obtain ⟨a1, a2, a3⟩ := hp (k + 1) p q (by simpa using hk) (by simpa using hq)
        refine ⟨a1, a2, ?_⟩
        simp only [List.length_append, List.length_take, List.length_drop]
        omega)
      refine ⟨cells', ?_, f2⟩
      simp only [Instr.fill, h1]
      rw [if_neg (by simpa using hno)]
      exact f1

theorem parts_rel (hs : SR N T g w st a) {t : TypeId} : ∀ {parts : List (Nat × Operand)} {ps : List (Nat × Nat × Opd)}, partsOf P t parts = some ps →
    ∀ (zl : Nat), (∀ p ∈ ps, p.2.2.ok st.fr = true ∧ (p.2.2.get st.fr).dCellsOk = true ∧ (p.2.2.get st.fr).dCells.length = p.2.1 ∧ p.1 + p.2.1 ≤ zl) →
    (parts.map fun (i, x) => (i, a.eval x)).length = (ps.map fun p => (p.1, (p.2.2.get st.fr).dCells)).length ∧
    ∀ (k : Nat) (p : Nat × Value) (q : Nat × List D), (parts.map fun (i, x) => (i, a.eval x))[k]? = some p → (ps.map fun p => (p.1, (p.2.2.get st.fr).dCells))[k]? = some q →
      placeOf P t p.1 = some (q.1, q.2.length) ∧ RL g w p.2.cells.toList q.2 ∧ q.1 + q.2.length ≤ zl := by
  intro parts ps h zl hok
  obtain ⟨h1, h2⟩ := mapM_some h
  refine ⟨by simp [h1], fun k p q hp hq => ?_⟩
  simp only [List.getElem?_map, Option.map_eq_some_iff] at hp hq
  obtain ⟨⟨i, x⟩, hi, rfl⟩ := hp
  obtain ⟨⟨off, size, y⟩, hy, rfl⟩ := hq
  have hh := h2 k _ _ hi hy
  obtain ⟨o1, o2, o3, o4⟩ := hok _ (List.mem_of_getElem? hy)
  simp only at hh o1 o2 o3 o4 ⊢
  cases hpl : placeOf P t i with
  | none => simp [hpl] at hh
  | some os =>
    cases hop : opdOf x with
    | none => simp [hpl, hop] at hh
    | some z =>
      simp [hpl, hop] at hh
      obtain ⟨e1, e2, e3⟩ := hh
      subst e3
      obtain ⟨po, psz⟩ := os
      simp only at e1 e2
      subst e1 e2
      exact ⟨by rw [o3], rl_cells (opd_rs hs hop o1) o2, by rw [o3]; exact o4⟩

theorem zeroCellsD_spec {t : TypeId} {z : List D} (h : zeroCellsD P t = some z) : ∃ i v, P.info? t = some i ∧ i.zero = some v ∧ v.cells.toList.mapM constD = some z := by
  unfold zeroCellsD at h
  split at h
  · rename_i i hi
    split at h
    · rename_i v hv; exact ⟨i, v, hi, hv, h⟩
    · cases h
  · cases h

theorem gives_build {t : TypeId} {parts : Array (Nat × Operand)} {z : List D} {ps : List (Nat × Nat × Opd)} (ho : oper.op = .build t parts) (hz : zeroCellsD P t = some z) (hp : partsOf P t parts.toList = some ps)
    (hu : (∃ fs, P.underlying t = some (.struct fs) ∧ (fs.toList.mapM fun f => (P.info? f.type).map fun i => (f.offset, i.size)).isSome = true) ∨ ∃ n e, P.underlying t = some (.array n e) ∧ (P.info? e).isSome = true) (hs : SR N T g w st a)
    (hob : (sem tb (.build z ps) st).ob) : Gives P g w st a oper (sem tb (.build z ps) st).v := by
  simp only [sem] at hob ⊢
  obtain ⟨i, v, hi, hv, hm⟩ := zeroCellsD_spec hz
  obtain ⟨l1, l2⟩ := parts_rel (P := P) hs hp z.length hob
  have hzr : RL g w v.cells.toList z := RL.consts hm
  have hparts : (parts.map fun (i, x) => (i, a.eval x)).toList = parts.toList.map fun (i, x) => (i, a.eval x) := by simp
  have fin : ∀ cells', P.built t (parts.map fun (i, x) => (i, a.eval x)).toList = some cells' → RL g w cells'.toList (fillD z (ps.map fun p => (p.1, (p.2.2.get st.fr).dCells))) →
      Gives P g w st a oper (.d (.agg (fillD z (ps.map fun p => (p.1, (p.2.2.get st.fr).dCells))))) := by
    intro cells' h1 h2
    have hrun := run_build (P := P) w t (parts.map fun (i, x) => (i, a.eval x)) cells' h1
    refine ⟨.agg cells', ?_, ?_⟩
    · simp only [execOp, ho]
      rw [Sem.run_bind]
      erw [hrun]
      simp
    · have := h2.agg
      simpa [RS, RC] using this
  rcases hu with ⟨fs, hu, hall⟩ | ⟨n, e, hu, hall⟩
  · obtain ⟨places, hpl⟩ := Option.isSome_iff_exists.1 hall
    obtain ⟨cells', f1, f2⟩ := fill_rel (g := g) (w := w) (places.toArray[·]?) _ _ v.cells z hzr l1 (fun k p q hk hq => by
      obtain ⟨a1, a2, a3⟩ := l2 k p q hk hq
      refine ⟨?_, a2, a3⟩
      obtain ⟨m1, m2⟩ := mapM_some hpl
      simp only [placeOf, hu] at a1
      cases hf : fs[p.1]? with
      | none => simp [hf] at a1
      | some f =>
        simp only [hf] at a1
        have hlt : p.1 < places.length := by rw [← m1]; simpa using (Array.getElem?_eq_some_iff.1 hf).1
        have := m2 p.1 f places[p.1] (by simpa using hf) (List.getElem?_eq_getElem hlt)
        rw [a1] at this
        simp only [List.getElem?_toArray, List.getElem?_eq_getElem hlt]
        exact this.symm)
    refine fin cells' ?_ f2
    unfold Program.built
    rw [hi, hu]
    simp only [hv, hpl]
    rw [hparts]
    exact f1
  · obtain ⟨ie, hie⟩ := Option.isSome_iff_exists.1 hall
    obtain ⟨cells', f1, f2⟩ := fill_rel (g := g) (w := w) (fun i => some (i * ie.size, ie.size)) _ _ v.cells z hzr l1 (fun k p q hk hq => by
      obtain ⟨a1, a2, a3⟩ := l2 k p q hk hq
      refine ⟨?_, a2, a3⟩
      simp only [placeOf, hu, hie, Option.map_some] at a1
      exact a1)
    refine fin cells' ?_ f2
    unfold Program.built
    rw [hi, hu]
    simp only [hv, hie]
    rw [hparts]
    exact f1

theorem gives_sliceS {t : TypeId} {x : Operand} {lo hi : Option Operand} {x' : Opd} {lo' hi' : Option Opd} (ho : oper.op = .slice t x lo hi none) (ht : P.underlying t = some .string)
    (hx : opdOf x = some x') (hlo : lo.mapM opdOf = some lo') (hhi : hi.mapM opdOf = some hi') (hs : SR N T g w st a)
    (hob : (sem tb (.sliceS x' lo' hi') st).ob) : Gives P g w st a oper (sem tb (.sliceS x' lo' hi') st).v := by
  simp only [sem] at hob ⊢
  obtain ⟨o1, o2, o3, hob⟩ := hob
  obtain ⟨n2, r2⟩ := optOpd_rs hs hlo o2
  obtain ⟨n3, r3⟩ := optOpd_rs hs hhi o3
  have r1 := opd_rs hs hx o1
  cases h1 : x'.get st.fr with
  | d p =>
    cases p with
    | str l =>
      rw [h1] at r1
      have hv := rv_str (rs_d r1)
      simp only [h1, sliceSOut] at hob ⊢
      generalize hH : hiB l.length (hi'.map (·.get st.fr)) = h at hob ⊢
      generalize hB : loB (lo'.map (·.get st.fr)) = b at hob ⊢
      obtain ⟨k2, k3, k4⟩ := hob
      have hi2 : (hi = none ∧ h = l.length) ∨ ∃ k, hi.map a.eval = some (.int k h) := by
        cases hq : hi' with
        | none => rw [hq] at hH; simp [hiB] at hH; exact .inl ⟨n3 hq, hH.symm⟩
        | some z =>
          rw [hq] at hH
          simp only [Option.map_some, hiB] at hH
          cases hv : optInt (some (z.get st.fr)) with
          | none => rw [hv] at hH; simp at hH; omega
          | some n =>
            rw [hv] at hH; simp at hH; subst hH
            exact .inr (optInt_eq (x := hi.map a.eval) (fun y hy => r3 y (by rw [hq]; exact hy)) hv)
      have lo2 : (lo = none ∧ b = 0) ∨ ∃ k, lo.map a.eval = some (.int k b) := by
        cases hq : lo' with
        | none => rw [hq] at hB; simp [loB] at hB; exact .inl ⟨n2 hq, hB.symm⟩
        | some z =>
          rw [hq] at hB
          simp only [Option.map_some, loB] at hB
          cases hv : optInt (some (z.get st.fr)) with
          | none => rw [hv] at hB; simp at hB; omega
          | some n =>
            rw [hv] at hB; simp at hB; subst hB
            exact .inr (optInt_eq (x := lo.map a.eval) (fun y hy => r2 y (by rw [hq]; exact hy)) hv)
      have hbo : (Instr.sliceBounds false l.length l.length (lo.map a.eval) (hi.map a.eval) none).run P w = .ok (b.toNat, h.toNat, l.length) w := by
        have hk3 : (b.toNat : Int) = b := by omega
        have hk4 : (h.toNat : Int) = h := by omega
        rcases hi2 with ⟨rfl, hh⟩ | ⟨kh, hh⟩ <;> rcases lo2 with ⟨rfl, hl⟩ | ⟨kl, hl⟩
        · simp [Instr.sliceBounds, hl, hh]
        · simp [Instr.sliceBounds, hl, run_sliceBound (P := P) w kl b l.length .sliceB k2 (by omega), hh]
        · simp [Instr.sliceBounds, hh, hl, run_sliceBound (P := P) w kh h l.length .sliceAlen (by omega) (by omega)]
        · simp [Instr.sliceBounds, hh, hl, run_sliceBound (P := P) w kh h l.length .sliceAlen (by omega) (by omega), run_sliceBound (P := P) w kl b h.toNat .sliceB k2 (by omega)]
      have hext : (⟨l.toArray⟩ : ByteArray).extract b.toNat h.toNat = ⟨((l.drop b.toNat).take (h.toNat - b.toNat)).toArray⟩ := by
        apply ByteArray.ext
        simp [ByteArray.data_extract, List.extract_toArray, List.extract_eq_take_drop]
      refine ⟨.string ⟨((l.drop b.toNat).take (h.toNat - b.toNat)).toArray⟩, ?_, .str _⟩
      simp only [execOp, ho, hv]
      rw [Sem.run_bind, Option.map_none, run_sliceAt_string w t _ _ _ _ ht]
      simp [Instr.slice, run_underlying ht, size_mk, hbo, hext]
    | _ => simp [h1, sliceSOut, Out.bad] at hob
  | _ => simp [h1, sliceSOut, Out.bad] at hob

end
end Go.Abs
