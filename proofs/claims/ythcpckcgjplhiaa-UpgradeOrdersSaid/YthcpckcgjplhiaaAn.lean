/- The abstract layer, part 14: new objects and stores, as operations; a slice against nil. -/
import Derived.Test.YthcpckcgjplhiaaAm
namespace Go.Abs

section
variable {P : Program} {N tb : Nat} {T : Nat → Prop} {g : Ghost} {w : World} {st : St} {a : Act} {oper : Oper} {live live' : List Nat}

theorem rc_one {v : Value} {s : ASlot} (h : RC g w live v s) (ho : s.isOne = true) : v.oneCell' = true := by
  cases s with
  | d x => exact RV.oneCell h ho
  | own t es rows => exact h.1.oneCell rfl
  | uni t es rows => obtain ⟨⟨a, c, rfl⟩, _⟩ := h; rfl
  | full es rows => exact h.1.oneCell rfl
  | rd cells => obtain ⟨b, off, n, o, f, rfl, _⟩ := h; rfl
  | _ => simp [ASlot.isOne] at ho

/-- The cells of a value that is laid into memory. -/
theorem toCells_rc {v : Value} {s : ASlot} (h : RS g w live v s) (ho : s.toCells.all ASlot.isOne = true) :
    v.cells.toList.length = s.toCells.length ∧ ∀ (i : Nat) (x : ASlot), s.toCells[i]? = some x → ∃ u, v.cells.toList[i]? = some u ∧ u.oneCell' = true ∧ RC g w live u x := by
  have one : s.toCells = [s] → RC g w live v s → s.isOne = true → v.cells.toList.length = s.toCells.length ∧ ∀ (i : Nat) (x : ASlot), s.toCells[i]? = some x → ∃ u, v.cells.toList[i]? = some u ∧ u.oneCell' = true ∧ RC g w live u x := by
    intro hc hr h1
    have hv := rc_one hr h1
    have hcells : v.cells = #[v] := by cases v <;> first | rfl | (simp [Value.oneCell'] at hv)
    rw [hc, hcells]
    refine ⟨rfl, fun i x hi => ?_⟩
    cases i with
    | zero => simp at hi; subst hi; exact ⟨v, rfl, hv, hr⟩
    | succ i => simp at hi
  cases s with
  | d x =>
    cases x with
    | agg cs =>
      obtain ⟨vs, rfl, h1, h2, h3⟩ := rv_agg (rs_d h)
      refine ⟨by simp [Value.cells, ASlot.toCells, h1], fun i x hi => ?_⟩
      simp only [ASlot.toCells, List.getElem?_map, Option.map_eq_some_iff] at hi
      obtain ⟨d, hd, rfl⟩ := hi
      have hlt : i < vs.length := by rw [h1]; exact (List.getElem?_eq_some_iff.1 hd).1
      have hr := h3 i vs[i] d (List.getElem?_eq_getElem hlt) hd
      exact ⟨vs[i], by simp [Value.cells, hlt], hr.oneCell (h2 d (List.mem_of_getElem? hd)), hr⟩
    | _ => exact one rfl h (by simpa [ASlot.toCells] using ho)
  | tup l => simp [ASlot.toCells, ASlot.isOne] at ho
  | bad => simp [ASlot.toCells, ASlot.isOne] at ho
  | _ => exact one rfl h (by simpa [ASlot.toCells] using ho)

theorem toCells_toks {s : ASlot} {p : Nat → Prop} (h : ∀ t ∈ s.toks, p t) : ∀ x ∈ s.toCells, ∀ t ∈ x.toks, p t := by
  intro x hx t ht
  cases s with
  | d y =>
    cases y with
    | agg cs => simp only [ASlot.toCells, List.mem_map] at hx; obtain ⟨d, _, rfl⟩ := hx; simp [ASlot.toks] at ht
    | _ => simp only [ASlot.toCells, List.mem_singleton] at hx; subst hx; exact h t ht
  | _ => simp only [ASlot.toCells, List.mem_singleton] at hx; subst hx; exact h t ht

/-- The state with an object written. -/
def withObj (st : St) : Option (Nat × AObj) → St
  | some (id, o) => { st with os := st.os.set id o }
  | none => st

theorem step_box {t : TypeId} {x : Operand} {y : Opd} {back : Nat} (ho : oper.op = .box t x) (hx : opdOf x = some y) (hs : SR N T g w st a) (hob : (sem tb (.box back y) st).ob) :
    ∃ v w' g', (execOp a.eval oper).run P w = .ok (.value v) w' ∧ G g w g' w' ∧ SR N T g' w' (withObj st (sem tb (.box back y) st).wr) a ∧ RS g' w' st.live v (sem tb (.box back y) st).v := by
  simp only [sem] at hob ⊢
  obtain ⟨o1, o2, o3, o4, o5⟩ := hob
  have r1 := opd_rs hs hx o1
  obtain ⟨h1, h2⟩ := toCells_rc r1 o2
  obtain ⟨q1, q2⟩ := hs.newObj (e := t) o5 (Nat.le_of_eq h1.symm) h2 (toCells_toks (opd_toks hs hx o1))
  refine ⟨.pointer (some ⟨w.heap.size, 0, none⟩), _, _, ?_, q1, q2, .ptr _ 0 _ (Ghost.at_same _ _ _)⟩
  simp [execOp, ho, Instr.box, newVar, newRow]

theorem constC_spec {v : Value} {s : ASlot} (h : constC v = some s) : s.isOne = true ∧ RC g w live v s ∧ s.toks = [] := by
  unfold constC at h
  cases hc : constD v with
  | none => simp [hc] at h
  | some d => simp [hc] at h; subst h; exact ⟨constD_cell hc, constD_rv hc, rfl⟩

theorem step_alloc {t : TypeId} {z : List ASlot} {back : Nat} (ho : oper.op = .alloc t) (hz : zeroCellsS P t = some z) (hs : SR N T g w st a) (hob : (sem tb (.alloc back z) st).ob) :
    ∃ v w' g', (execOp a.eval oper).run P w = .ok (.value v) w' ∧ G g w g' w' ∧ SR N T g' w' (withObj st (sem tb (.alloc back z) st).wr) a ∧ RS g' w' st.live v (sem tb (.alloc back z) st).v := by
  simp only [sem] at hob ⊢
  obtain ⟨o3, o4, o5⟩ := hob
  unfold zeroCellsS at hz
  split at hz
  · rename_i i hi
    split at hz
    · rename_i zv hzv
      obtain ⟨m1, m2⟩ := mapM_some hz
      obtain ⟨q1, q2⟩ := hs.newObj (e := t) (vs := zv.cells.toList) (new := z) o5 (Nat.le_of_eq m1.symm) (fun j s hj => by
        have hlt : j < zv.cells.toList.length := by rw [m1]; exact (List.getElem?_eq_some_iff.1 hj).1
        obtain ⟨c1, c2, _⟩ := constC_spec (g := g) (w := w) (live := st.live) (m2 j _ s (List.getElem?_eq_getElem hlt) hj)
        exact ⟨_, List.getElem?_eq_getElem hlt, rc_one c2 c1, c2⟩) (fun s hsz t ht => by
        obtain ⟨j, hj⟩ := List.getElem?_of_mem hsz
        have hlt : j < zv.cells.toList.length := by rw [m1]; exact (List.getElem?_eq_some_iff.1 hj).1
        obtain ⟨_, _, c3⟩ := constC_spec (g := g) (w := w) (live := st.live) (m2 j _ s (List.getElem?_eq_getElem hlt) hj)
        rw [c3] at ht
        cases ht)
      refine ⟨.pointer (some ⟨w.heap.size, 0, none⟩), _, _, ?_, q1, q2, .ptr _ 0 _ (Ghost.at_same _ _ _)⟩
      simp [execOp, ho, Instr.alloc, zeroValue, typeInfo, hi, hzv, newVar, newRow]
    · cases hz
  · cases hz

theorem setCells_length : ∀ (cs : List ASlot) (off : Nat) (new : List ASlot), (setCells cs off new).length = cs.length
  | cs, off, [] => rfl
  | cs, off, s :: r => by rw [setCells, setCells_length, List.length_set]

theorem setCells_get : ∀ (new : List ASlot) (cs : List ASlot) (off i : Nat), off + new.length ≤ cs.length →
    (setCells cs off new)[i]? = if off ≤ i ∧ i < off + new.length then new[i - off]? else cs[i]?
  | [], cs, off, i, _ => by
    have : ¬ (off ≤ i ∧ i < off + 0) := by omega
    simp only [List.length_nil, if_neg this, setCells]
  | s :: r, cs, off, i, h => by
    have ih := setCells_get r (cs.set off s) (off + 1) i (by simp at h ⊢; omega)
    simp only [setCells]
    rw [ih]
    simp only [List.length_cons]
    by_cases h1 : off + 1 ≤ i ∧ i < off + 1 + r.length
    · rw [if_pos h1, if_pos (by omega), show i - off = (i - (off + 1)) + 1 by omega, List.getElem?_cons_succ]
    · rw [if_neg h1]
      by_cases h2 : i = off
      · subst h2
        rw [if_pos (by omega), Nat.sub_self, List.getElem?_cons_zero, List.getElem?_set_self (by simp at h; omega)]
      · rw [if_neg (by omega), List.getElem?_set_ne (Ne.symm h2)]

/-- A store into an object. -/
theorem SR.stored {id off b : Nat} {new : List ASlot} {us : List Value} (hs : SR N T g w st a) (hb : g b = .obj id) (h0 : 0 < (objCells st.os id).length) (hoff : off + new.length ≤ (objCells st.os id).length)
    (hl : us.length = new.length) (hu : ∀ (i : Nat) (x : ASlot), new[i]? = some x → ∃ u, us[i]? = some u ∧ u.oneCell' = true ∧ RC g w st.live u x) (htok : ∀ s ∈ new, ∀ t ∈ s.toks, T t) :
    ∃ w', (storeCells ⟨b, off, none⟩ us).run P w = .ok () w' ∧ G g w g w' ∧ SR N T g w' { st with os := st.os.set id (.row (setCells (objCells st.os id) off new)) } a := by
  obtain ⟨c, e, hheap, hsize, hcells⟩ := ro_obj hs hb h0
  have hone : ∀ v ∈ us, v.oneCell' = true := by
    intro v hv
    obtain ⟨i, hi⟩ := List.getElem?_of_mem hv
    have hlt : i < new.length := by rw [← hl]; exact (List.getElem?_eq_some_iff.1 hi).1
    obtain ⟨u, u1, u2, _⟩ := hu i new[i] (List.getElem?_eq_getElem hlt)
    rw [hi] at u1; cases u1
    exact u2
  have hrun := run_storeCells_at P b off e us 0 c w hheap (by omega) hone
  simp only [Nat.add_zero] at hrun
  generalize hc' : (c.toList.take off ++ us ++ c.toList.drop (off + us.length)).toArray = c' at hrun
  have hnew : (w.setRow b c').heap[b]? = some (.cells c' e (0, 0)) := setRow_heap w b c c' e (0, 0) hheap
  have hother : ∀ k, k ≠ b → (w.setRow b c').heap[k]? = w.heap[k]? := fun k hk => setRow_other w b k c' hk
  have hsz : (w.setRow b c').heap.size = w.heap.size := by simp [World.setRow]
  have hlen' : c'.size = c.size := by
    rw [← hc']
    simp only [List.size_toArray, List.length_append, List.length_take, List.length_drop, Array.length_toList]
    omega
  have hget : ∀ i, c'[i]? = if off ≤ i ∧ i < off + us.length then us[i - off]? else c[i]? := by
    intro i
    have hle : (c.toList.take off).length = off := by have hq : c.toList.length = c.size := Array.length_toList; rw [List.length_take]; omega
    rw [← hc']
    simp only [List.getElem?_toArray, List.append_assoc]
    by_cases h1 : i < off
    · rw [List.getElem?_append_left (by omega), List.getElem?_take_of_lt h1, if_neg (by omega)]
      simp
    · rw [List.getElem?_append_right (by omega), hle]
      by_cases h2 : i < off + us.length
      · rw [List.getElem?_append_left (by omega), if_pos (by omega)]
      · rw [List.getElem?_append_right (by omega), if_neg (by omega), List.getElem?_drop]
        rw [show off + us.length + (i - off - us.length) = i by omega]
        simp
  have hbs : ∀ k, bsize w k ≤ bsize (w.setRow b c') k := fun k => by
    by_cases hk : k = b
    · subst hk; rw [bsize_cells hheap, bsize_cells hnew]; omega
    · exact Nat.le_of_eq (bsize_same (hother k hk)).symm
  have nrow : ∀ k n o, g k = .row n o → k ≠ b := by rintro k n o h rfl; rw [hb] at h; cases h
  have hG : G g w g (w.setRow b c') :=
    ⟨rfl, rfl, rfl, by omega, fun k hk hgk => ⟨hother k (by rintro rfl; rw [hb] at hgk; cases hgk), hgk⟩, fun k m hk hgk => ⟨hother k (nrow k _ _ hgk), hgk⟩,
      fun k m t hk hgk => ⟨m, some t, hgk, Nat.le_refl _, fun i v _ hv => by rw [cell_same (hother k (nrow k _ _ hgk))]; exact hv⟩, fun k id hk hgk => ⟨hgk, hbs k⟩⟩
  have hlt : id < st.os.length := by
    obtain ⟨o, ho, _⟩ := hs.ids b id hb
    exact (List.getElem?_eq_some_iff.1 ho).1
  refine ⟨_, hrun, hG, hs.setObj hlt hG (fun k hk => hs.dom k (by omega)) hb (fun _ _ => rfl) (fun k hk _ => hother k hk) (.inr hb) (fun k hk => hs.inj k b id hk hb) ?_ ?_⟩
  · refine ⟨c', e, hnew, by rw [setCells_length, hlen']; exact hsize, fun i s hi => ?_⟩
    rw [setCells_get new _ off i hoff] at hi
    rw [hget i, hl]
    have keep : ∀ {v : Value} {x : ASlot}, RC g w st.live v x → RC g (w.setRow b c') st.live v x := fun h => RC.keep hG hs.dom (fun k n o hk => ⟨hk, hother k (nrow k n o hk)⟩) (fun k t hk => ⟨hk, hother k (by rintro rfl; rw [hb] at hk; cases hk)⟩) h
    split at hi
    · rename_i hin
      rw [if_pos hin]
      obtain ⟨u, u1, u2, u3⟩ := hu _ s hi
      exact ⟨u, u1, u2, keep u3⟩
    · rename_i hin
      rw [if_neg hin]
      obtain ⟨v, v1, v2, v3⟩ := hcells i s hi
      exact ⟨v, v1, v2, keep v3⟩
  · intro s hsm t ht
    obtain ⟨i, hi⟩ := List.getElem?_of_mem hsm
    rw [setCells_get new _ off i hoff] at hi
    split at hi
    · exact htok s (List.mem_of_getElem? hi) t ht
    · obtain ⟨o, ho, hn⟩ := hs.ids b id hb
      refine hs.wf.os id o ho s ?_ t ht
      have : objCells st.os id = o.cells := by simp [objCells, ho]
      rw [← this]
      exact List.mem_of_getElem? hi

theorem step_store {t : TypeId} {x v : Operand} {x' v' : Opd} {n : Option Nat} (ho : oper.op = .store t x v) (hn : aggN P t = some n) (hx : opdOf x = some x') (hv : opdOf v = some v') (hs : SR N T g w st a) (hob : (sem tb (.store n x' v') st).ob) :
    ∃ w', (execOp a.eval oper).run P w = .ok .skip w' ∧ G g w g w' ∧ SR N T g w' (withObj st (sem tb (.store n x' v') st).wr) a := by
  simp only [sem] at hob ⊢
  obtain ⟨o1, o2, hob⟩ := hob
  have r1 := opd_rs hs hx o1
  have r2 := opd_rs hs hv o2
  have tk := opd_toks hs hv o2
  cases hp : x'.get st.fr with
  | d p =>
    cases p with
    | ptr id off =>
      rw [hp] at r1
      simp only [hp, storeOut] at hob ⊢
      have hrv := rs_d r1
      generalize hval : a.eval x = vx at hrv
      cases hrv with
      | ptr b _ _ hg =>
      cases n with
      | none =>
        obtain ⟨h1, h2⟩ := hob
        obtain ⟨ti, d, hi, hsz, _⟩ := aggN_none hn
        have hrc : RC g w st.live (a.eval v) (v'.get st.fr) := rc_of_rs r2 (by intro l hl; rw [hl] at h2; simp [ASlot.isOne] at h2)
        have hone := rc_one hrc h2
        have hcells : (a.eval v).cells = #[a.eval v] := by cases hvv : a.eval v <;> first | rfl | (simp [hvv, Value.oneCell'] at hone)
        obtain ⟨w', q1, q2, q3⟩ := SR.stored (P := P) (id := id) (off := off) (new := [v'.get st.fr]) (us := [a.eval v]) hs hg (by have h1' : off < (objCells st.os id).length := h1; omega) (by have h1' : off < (objCells st.os id).length := h1; simp only [List.length_singleton]; omega) rfl (fun i s hs' => by
          cases i with
          | zero => simp at hs'; subst hs'; exact ⟨_, rfl, hone, hrc⟩
          | succ i => simp at hs') (by simpa using tk)
        refine ⟨w', ?_, q2, q3⟩
        simp [execOp, ho, hval, Instr.storeAt, Instr.sureAddr, storeVar, run_sizeOf_info hi, hsz, hcells, q1]
      | some k =>
        obtain ⟨ti, hi, hsz, _⟩ := aggN_some hn
        cases hq : v'.get st.fr with
        | d q =>
          cases q with
          | agg cs =>
            simp only [hq] at hob ⊢
            obtain ⟨h1, h0, h2, h3⟩ := hob
            rw [hq] at r2
            obtain ⟨us, hus, hl, hcl, hc⟩ := rv_agg (rs_d r2)
            obtain ⟨w', q1, q2, q3⟩ := SR.stored (P := P) (id := id) (off := off) (new := cs.map .d) (us := us) hs hg h0 (by simpa [h1] using h2) (by simp [hl]) (fun i s hs' => by
              simp only [List.getElem?_map, Option.map_eq_some_iff] at hs'
              obtain ⟨d, hd, rfl⟩ := hs'
              have hlt : i < us.length := by rw [hl]; exact (List.getElem?_eq_some_iff.1 hd).1
              have hr := hc i us[i] d (List.getElem?_eq_getElem hlt) hd
              exact ⟨_, List.getElem?_eq_getElem hlt, hr.oneCell (hcl d (List.mem_of_getElem? hd)), hr⟩) (by
              intro s hs' t ht
              obtain ⟨d, _, rfl⟩ := List.mem_map.1 hs'
              simp [ASlot.toks] at ht)
            refine ⟨w', ?_, q2, q3⟩
            have hul : us.length = k := by rw [hl, h1]
            simp [execOp, ho, hval, hus, Instr.storeAt, Instr.sureAddr, storeVar, run_sizeOf_info hi, hsz, Value.cells, hul, q1]
          | _ => simp [hq, Out.bad] at hob
        | _ => simp [hq, Out.bad] at hob
    | _ => simp [hp, storeOut, Out.bad] at hob
  | _ => simp [hp, storeOut, Out.bad] at hob

/-- A slice against nil: yes or no; if yes, it has no elements. -/
theorem gives_eqnilS {neg : Bool} {t u e : TypeId} {x y : Operand} {x' : Opd} {es : Nat} {rows : List (List D)} (ho : oper.op = .binOp (if neg then .neq else .eql) t x y u) (ht : P.underlying t = some (.slice e)) (hx : opdOf x = some x')
    (hy : isNilConst y = true) (hs : SR N T g w st a) (hok : x'.ok st.fr = true) (hr : (x'.get st.fr).rows = some (es, rows)) :
    ∃ b : Bool, (b = true → rows = []) ∧ Gives P g w st a oper (.d (.bool (if neg then !b else b))) := by
  have r1 := rs_rows (opd_rs hs hx hok) hr
  have hyv : a.eval y = .slice none 0 0 := by
    unfold isNilConst at hy
    split at hy
    · rfl
    · cases hy
  have key : ∀ (b : Bool), (∃ ad n c, a.eval x = .slice ad n c ∧ ad.isNone = b) → Gives P g w st a oper (.d (.bool (if neg then !b else b))) := by
    rintro b ⟨ad, n, c, hv, hb⟩
    have heq : (Op.equal t (.slice ad n c) (.slice none 0 0)).run P w = .ok b w := run_equal_of (by
      subst hb
      rw [Op.equalIn]
      cases ad <;> simp [run_underlying ht])
    refine ⟨.bool (if neg then !b else b), ?_, .bool _⟩
    cases neg with
    | false => simp [execOp, ho, hv, hyv, eqGuard_at_slice, binOp, heq]
    | true => simp [execOp, ho, hv, hyv, eqGuard_at_slice, binOp, heq]
  rcases rv_sl r1 with ⟨⟨ad, cp, hv, _⟩, rfl⟩ | ⟨b, off, cap, n, o, f, hv, _⟩
  · exact ⟨ad.isNone, fun _ => rfl, key ad.isNone ⟨_, _, _, hv, rfl⟩⟩
  · exact ⟨false, by simp, key false ⟨_, _, _, hv, rfl⟩⟩

/-- Nothing is written. -/
theorem SR.touch (hs : SR N T g w st a) (id : Nat) : SR N T g w { st with os := st.os.set id (.row (objCells st.os id)) } a := by
  have key : ∀ (i : Nat) (o : AObj), (st.os.set id (.row (objCells st.os id)))[i]? = some o → st.os[i]? = some o ∨ (i = id ∧ o = .row (objCells st.os id)) := by
    intro i o ho
    by_cases hi : id = i
    · subst hi
      by_cases hlt : id < st.os.length
      · rw [List.getElem?_set_self hlt] at ho; cases ho; exact .inr ⟨rfl, rfl⟩
      · rw [List.getElem?_eq_none (by simp; omega)] at ho; cases ho
    · rw [List.getElem?_set_ne hi] at ho; exact .inl ho
  have cell : ∀ s ∈ objCells st.os id, ∃ o, st.os[id]? = some o ∧ s ∈ o.cells := by
    intro s hm
    unfold objCells at hm
    split at hm
    · rename_i o ho; exact ⟨o, ho, hm⟩
    · cases hm
  refine ⟨hs.dom, hs.defers, hs.size, hs.slots, fun i o ho hn => ?_, hs.inj, fun b i hb => ?_, ⟨hs.wf.live, hs.wf.fr, fun i o ho s hsm t ht => ?_⟩⟩
  · rcases key i o ho with h | ⟨rfl, rfl⟩
    · exact hs.objs i o h hn
    · unfold objCells
      cases hq : st.os[i]? with
      | none => exact .inr ⟨rfl, fun b hb => by obtain ⟨o', h1, _⟩ := hs.ids b i hb; rw [hq] at h1; cases h1⟩
      | some o' =>
        cases o' with
        | none => exact .inr ⟨rfl, fun b hb => by obtain ⟨o', h1, h2⟩ := hs.ids b i hb; rw [hq] at h1; cases h1; exact h2 rfl⟩
        | row cs => exact hs.objs i _ hq (by simp)
  · obtain ⟨o, ho, hne⟩ := hs.ids b i hb
    by_cases hi : id = i
    · subst hi
      exact ⟨_, List.getElem?_set_self (List.getElem?_eq_some_iff.1 ho).1, by simp⟩
    · exact ⟨o, by rw [List.getElem?_set_ne hi]; exact ho, hne⟩
  · rcases key i o ho with h | ⟨rfl, rfl⟩
    · exact hs.wf.os i o h s hsm t ht
    · obtain ⟨o', ho', hm⟩ := cell s hsm
      exact hs.wf.os i o' ho' s hm t ht

theorem run_copy {t u ty e : TypeId} {i : TypeInfo} (ht : P.underlying t = some (.slice e)) (hi : P.info? e = some i) {base : Option Addr} {n cap k : Nat} {x : Value} {news : List Value} {w1 : World}
    (hl : (Builtin.lenOf x).run P w = .ok k w) (hf : (Builtin.firstCells i.size (Nat.min k n) x).run P w = .ok news.toArray w) (hst : ∀ ad, base = some ad → (storeCells ad news).run P w = .ok () w1) (hn : base = none → w1 = w) :
    (Builtin.copy_ #[t, u] ty #[.slice base n cap, x]).run P w = .ok (.int .i64 (Nat.min k n)) w1 := by
  cases base with
  | none =>
    have := hn rfl
    subst this
    simp [Builtin.copy_, run_underlying ht, run_sizeOf_info hi, hl, hf, goInt]
  | some ad => simp [Builtin.copy_, run_underlying ht, run_sizeOf_info hi, hl, hf, hst ad rfl, goInt]

theorem step_copy {t u e : TypeId} {s x : Operand} {s' x' : Opd} {i : TypeInfo} (ho : oper.op = .call { callee := .builtin .copy, args := #[s, x], argTypes := #[t, u] })
    (ht : P.underlying t = some (.slice e)) (hi : P.info? e = some i) (hs' : opdOf s = some s') (hx' : opdOf x = some x') (hs : SR N T g w st a) (hob : (sem tb (.copy i.size s' x') st).ob) :
    ∃ v w' g', (execOp a.eval oper).run P w = .ok (.value v) w' ∧ G g w g' w' ∧ SR N T g' w' (withObj st (sem tb (.copy i.size s' x') st).wr) a ∧ RS g' w' st.live v (sem tb (.copy i.size s' x') st).v := by
  simp only [sem] at hob ⊢
  obtain ⟨o1, o2, hob⟩ := hob
  have rs := opd_rs hs hs' o1
  have rx := opd_rs hs hx' o2
  have tkx := opd_toks hs hx' o2
  unfold copyOut at hob ⊢
  cases hsrc : srcOf i.size st.os (x'.get st.fr) with
  | none => simp [hsrc, Out.bad] at hob
  | some r =>
    simp only [hsrc] at hob ⊢
    cases hk : s'.get st.fr with
    | d p =>
      cases p with
      | ref id off es n =>
        simp only [hk] at hob ⊢
        obtain ⟨hrok, rfl, hin⟩ := hob
        rw [hk] at rs
        have hrv := rs_d rs
        obtain ⟨hes, news, hrl, hsource, _, hpre⟩ := source_of (P := P) hs rx hsrc hrok
        have hmin : Nat.min r.rows.length n ≤ r.rows.length := Nat.min_le_left _ _
        have hf := hpre _ hmin
        have hrun : ∀ base cap w1, a.eval s = .slice base n cap → (∀ ad, base = some ad → (storeCells ad (news.take (Nat.min r.rows.length n * i.size))).run P w = .ok () w1) → (base = none → w1 = w) →
            (execOp a.eval oper).run P w = .ok (.value (.int .i64 (Nat.min r.rows.length n))) w1 := by
          intro base cap w1 hv h1 h2
          have := run_copy (P := P) (t := t) (u := u) (ty := oper.type) (cap := cap) ht hi hsource.1 hf h1 h2
          simp [execOp, ho, resolve, invoke, builtin, hv, this]
        have htk : (r.rows.take n).flatten.length = Nat.min r.rows.length n * i.size := by
          rw [flat_length (es := i.size) (fun q hq => hes q (List.mem_of_mem_take hq)), List.length_take, Nat.min_comm]
        have hnl : (news.take (Nat.min r.rows.length n * i.size)).length = Nat.min r.rows.length n * i.size := by
          have h1 := hrl.1
          rw [flat_length hes] at h1
          have := Nat.mul_le_mul_right i.size hmin
          rw [List.length_take]; omega
        have hle : Nat.min r.rows.length n * i.size ≤ n * i.size := Nat.mul_le_mul_right _ (Nat.min_le_right _ _)
        have hft : (r.rows.take n).flatten = r.rows.flatten.take (n * i.size) := flat_take hes n
        have hcells : ∀ (j : Nat) (y : ASlot), ((r.rows.take n).flatten.map ASlot.d)[j]? = some y → ∃ u, (news.take (Nat.min r.rows.length n * i.size))[j]? = some u ∧ u.oneCell' = true ∧ RC g w st.live u y := by
          intro j y hj
          simp only [List.getElem?_map, Option.map_eq_some_iff] at hj
          obtain ⟨d, hd, rfl⟩ := hj
          have hjl : j < Nat.min r.rows.length n * i.size := by rw [← htk]; exact (List.getElem?_eq_some_iff.1 hd).1
          have hjn : j < (news.take (Nat.min r.rows.length n * i.size)).length := by omega
          rw [hft, List.getElem?_take] at hd
          split at hd
          · have hn' := List.getElem?_eq_getElem hjn
            have hn2 := hn'
            rw [List.getElem?_take, if_pos hjl] at hn2
            have hr := hrl.2.2 j _ d hn2 hd
            exact ⟨_, hn', hr.oneCell (hrl.2.1 d (List.mem_of_getElem? hd)), hr⟩
          · cases hd
        have htoks : ∀ s ∈ (r.rows.take n).flatten.map ASlot.d, ∀ t ∈ s.toks, T t := by
          intro s hs t ht
          obtain ⟨d, _, rfl⟩ := List.mem_map.1 hs
          simp [ASlot.toks] at ht
        -- nothing to write
        have nothing : (r.rows.take n).flatten = [] → ∀ base cap, a.eval s = .slice base n cap →
            ∃ v w' g', (execOp a.eval oper).run P w = .ok (.value v) w' ∧ G g w g' w' ∧ SR N T g' w' (withObj st (some (storeAt st.os id off ((r.rows.take n).flatten.map .d)))) a ∧ RS g' w' st.live v (.d (.int .i64 (Nat.min r.rows.length n))) := by
          intro h0 base cap hv
          have hz : news.take (Nat.min r.rows.length n * i.size) = [] := List.eq_nil_of_length_eq_zero (by rw [hnl, ← htk, h0]; rfl)
          refine ⟨_, w, g, hrun _ _ w hv (fun ad _ => by rw [hz]; rfl) (fun _ => rfl), G.refl g w, ?_, .int _ _⟩
          rw [h0]
          exact hs.touch id
        by_cases hnil : (r.rows.take n).flatten = []
        · generalize hvv : a.eval s = v at hrv
          cases hrv with
          | ref b _ _ _ _ cap => exact nothing hnil _ _ hvv
          | refnil ad => exact nothing hnil _ _ hvv
        · have hpos : 0 < (r.rows.take n).flatten.length := by
            cases hq : (r.rows.take n).flatten with
            | nil => exact (hnil hq).elim
            | cons _ _ => simp
          generalize hvv : a.eval s = v at hrv
          cases hrv with
          | refnil ad => rw [List.take_zero] at hpos; simp at hpos
          | ref b _ _ _ _ cap hg hcap hmx hsz =>
            have hn0 : n ≠ 0 := by rintro rfl; simp at hpos
            have hin' := hin.resolve_left hn0
            obtain ⟨w', q1, q2, q3⟩ := SR.stored (P := P) (id := id) (off := off) (new := (r.rows.take n).flatten.map .d) (us := news.take (Nat.min r.rows.length n * i.size)) hs hg (by omega) (by rw [List.length_map, htk]; omega)
              (by rw [List.length_map, hnl, htk]) hcells htoks
            exact ⟨_, w', g, hrun _ _ w' hvv (fun ad had => by cases had; exact q1) (fun h => by cases h), q2, q3, .int _ _⟩
      | _ => simp [hk, Out.bad] at hob
    | _ => simp [hk, Out.bad] at hob

end
end Go.Abs
