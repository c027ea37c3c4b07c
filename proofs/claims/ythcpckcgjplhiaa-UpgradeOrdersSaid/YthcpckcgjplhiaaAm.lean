/- The abstract layer, part 13: literals of slices; new objects; stores; a slice against nil. -/
import Derived.Test.YthcpckcgjplhiaaAl
namespace Go.Abs

section
variable {P : Program} {N tb : Nat} {T : Nat → Prop} {g : Ghost} {w : World} {st : St} {a : Act} {oper : Oper} {live live' : List Nat}

theorem step_buildSlice {u : Bool} {t e : TypeId} {len : Nat} {parts : Array (Nat × Operand)} {i : TypeInfo} {z : List D} {ps : List (Nat × Nat × Opd)} (ho : oper.op = .buildSlice t len parts) (ht : P.underlying t = some (.slice e)) (hi : P.info? e = some i)
    (hz : zeroCellsD P e = some z) (hp : partsOf P t parts.toList = some ps) (hsz : i.size = z.length) (h0 : 0 < i.size) (hlim : len * i.size ≤ 16777216) (hs : SR N T g w st a) (hfr : Fresh T tb)
    (hob : (sem tb (.buildSlice u i.size len z ps) st).ob) :
    ∃ v w' g', (execOp a.eval oper).run P w = .ok (.value v) w' ∧ Qt T g w g' w' st.live (liveAfter st.live (sem tb (.buildSlice u i.size len z ps) st)) ∧
      RS g' w' (liveAfter st.live (sem tb (.buildSlice u i.size len z ps) st)) v (sem tb (.buildSlice u i.size len z ps) st).v := by
  simp only [sem] at hob ⊢
  obtain ⟨hob, hob1⟩ := hob
  obtain ⟨i', zv, hi', hzv, hzm⟩ := zeroCellsD_spec hz
  rw [hi] at hi'; cases hi'
  have hzs : i.size = zv.cells.size := by have := (mapM_some hzm).1; rw [hsz]; simpa using this.symm
  obtain ⟨l1, l2⟩ := parts_rel (P := P) hs hp (len * i.size) hob
  have hrl0 := zeroRow_rl (g := g) (w := w) hzm len i.size hzs h0
  have hzl : (List.replicate len z).flatten.length = len * i.size := by have := hrl0.1; simpa using this.symm
  obtain ⟨cells', f1, f2⟩ := fill_rel (g := g) (w := w) (fun j => some (j * i.size, i.size)) _ _ _ _ hrl0 l1 (fun k p q hk hq => by
    obtain ⟨a1, a2, a3⟩ := l2 k p q hk hq
    refine ⟨?_, a2, by rw [hzl]; exact a3⟩
    simp only [placeOf, ht, hi, Option.map_some] at a1
    exact a1)
  generalize hds : fillD (List.replicate len z).flatten (ps.map fun p => (p.1, (p.2.2.get st.fr).dCells)) = ds at f2 ⊢
  have hdl : ds.length = len * i.size := by
    rw [← hds, fillD_length, hzl]
    intro p hp'
    obtain ⟨q, hq, rfl⟩ := List.mem_map.1 hp'
    obtain ⟨_, _, o3, o4⟩ := hob q hq
    simp only
    rw [hzl, o3]
    exact o4
  have hmap : (parts.toList.map fun (i, x) => (i, a.eval x)) = parts.toList.map fun x => (x.1, a.eval x.2) := rfl
  have hrun : (execOp a.eval oper).run P w = .ok (.value (.slice (some ⟨w.heap.size, 0, none⟩) len len)) (w.alloc (.cells cells' e)) := by
    have hlim' : ¬ (len * i.size > 2 ^ 24) := by omega
    by_cases hl0 : len * i.size = 0
    · have hlen0 : len = 0 := by rcases Nat.mul_eq_zero.1 hl0 with h | h; exact h; omega
      subst hlen0
      have f1' := f1
      simp only [Nat.zero_mul, Array.range_zero', Array.map_empty] at f1'
      rw [hmap] at f1'
      simp only [execOp, ho, Instr.buildSlice, Sem.run_bind, run_underlying ht, run_sizeOf_info hi, Result.andThen_ok, Nat.zero_mul, if_true]
      simp [Array.range_zero', f1', newRow]
    · rw [hmap] at f1
      simp [execOp, ho, Instr.buildSlice, run_underlying ht, run_sizeOf_info hi, hlim', zeroValue, typeInfo, hi, hzv, f1, newRow]
      exact fun h => (hl0 h).elim
  have hnew : (w.alloc (.cells cells' e)).heap[w.heap.size]? = some (.cells cells' e (0, 0)) := heap_alloc_new w _
  obtain ⟨c1, c2, c3⟩ := getElem?_chunks len i.size ds (by omega)
  have hfl : (chunks i.size len ds).flatten = ds := by rw [c1, ← hdl, List.take_length]
  cases u with
  | false =>
    have hl : ∀ oo, liveAfter st.live { v := ASlot.full i.size (chunks i.size len ds), ob := oo } = st.live := fun oo => by simp [liveAfter]
    simp only [hl]
    have hq : Qt T g w (g.at w.heap.size (.row (len * i.size) none)) (w.alloc (.cells cells' e)) st.live st.live := Qt.newRow hs.dom w rfl rfl rfl rfl _ _ _ (fun _ _ h => h)
    have hrv := rv_newRow (cap := len) (rows := chunks i.size len ds) (vs := cells'.toList) hnew (Ghost.at_same _ _ _) (by rw [hfl, hdl]; exact Nat.le_refl _) c2 (by omega) (by rw [hfl]; exact f2.quiet hs.dom hq) (fun j u hj => by simpa using hj)
    rw [c3] at hrv
    exact ⟨_, _, _, hrun, hq, hrv, some ⟨w.heap.size, 0, none⟩, by rw [c3]⟩
  | true =>
    have hlen := hob1 rfl
    have hl : ∀ (vv : ASlot) (oo : Prop), ∀ t, T t → t ∈ liveAfter st.live { v := vv, ob := oo, iss := [tb] } → t ∈ st.live := fun vv oo t h h' => by
      rcases mem_liveAfter.1 h' with ⟨h1, _⟩ | h1
      · exact h1
      · simp at h1; exact (hfr.ne h h1).elim
    have hq := Qt.newUni hs.dom w rfl rfl rfl rfl (.cells cells' e) tb (hl (ASlot.uni tb i.size (chunks i.size len ds)) ((∀ p ∈ ps, p.2.2.ok st.fr = true ∧ (p.2.2.get st.fr).dCellsOk = true ∧ (p.2.2.get st.fr).dCells.length = p.2.1 ∧ p.1 + p.2.1 ≤ len * i.size) ∧ (true = true → len ≤ 1000)))
    have hrl3 := f2.quiet hs.dom hq
    refine ⟨_, _, _, hrun, hq, ⟨_, _, by rw [c3]⟩, fun _ => .inr ⟨w.heap.size, len, cells', e, by rw [c3], Ghost.at_same _ _ _, hnew, by rw [c3]; exact Nat.le_refl _, by unfold maxLen; omega, ?_, c2, fun j d hj => ?_⟩⟩
    · have := f2.1; simp at this; omega
    · rw [hfl] at hj
      have hlt : j < cells'.toList.length := by rw [f2.1]; exact (List.getElem?_eq_some_iff.1 hj).1
      exact ⟨hrl3.2.1 d (List.mem_of_getElem? hj), cells'.toList[j], by simp, hrl3.2.2 j _ d (List.getElem?_eq_getElem hlt) hj⟩

/-- Where rows stand as they stood. -/
theorem RC.keep {g' : Ghost} {w' : World} (htoG : G g w g' w') (hd : Dom g w) (hrow : ∀ k n o, g k = .row n o → g' k = .row n o ∧ w'.heap[k]? = w.heap[k]?) (huni : ∀ k t, g k = .uni t → g' k = .uni t ∧ w'.heap[k]? = w.heap[k]?) {v : Value} {s : ASlot} (h : RC g w live v s) : RC g' w' live v s := by
  have hk : RowsKept g w g' w' := htoG.rowsKept hd
  have hobj : ∀ k i, g k = .obj i → g' k = .obj i ∧ bsize w k ≤ bsize w' k := fun k i h => htoG.obj k i (hd.lt_obj h) h
  cases s with
  | d x => exact h.mono hk hobj
  | own t es rows =>
    refine ⟨h.1.mono hk hobj, fun hl => ?_⟩
    rcases h.2 hl with hf | ⟨c, cap, cur, e, h1, h2, h3, h4⟩
    · exact .inl hf
    · obtain ⟨r1, r2⟩ := hrow c _ _ h2
      exact .inr ⟨c, cap, cur, e, h1, r1, by rw [r2]; exact h3, h4⟩
  | uni t es rows => exact ⟨h.1, fun hl => (h.2 hl).mono (fun b hb => huni b _ hb) (fun _ _ hv => hv.mono hk hobj)⟩
  | full es rows => exact ⟨h.1.mono hk hobj, h.2⟩
  | rd cells =>
    obtain ⟨c, off, n, o, f, rfl, hg, hn, hc⟩ := h
    obtain ⟨n', o', hg', hnn, hcell⟩ := hk c n o hg
    refine ⟨c, off, n', o', f, rfl, hg', by omega, fun j d hj => ?_⟩
    obtain ⟨c1, c2, c3⟩ := hc j d hj
    have : j < cells.length := (List.getElem?_eq_some_iff.1 hj).1
    exact ⟨c1, hcell _ _ (by omega) c2, c3.mono hk hobj⟩
  | tup l => exact h.elim
  | bad => trivial

/-- The state with another object, and the model's world with its memory. -/
theorem SR.setObj {g' : Ghost} {w' : World} {st : St} {a : Act} {id b : Nat} {new : List ASlot} (hs : SR N T g w st a) (hid : id < st.os.length) (htoG : G g w g' w') (hdom : Dom g' w')
    (hb : g' b = .obj id) (hoth : ∀ k, k ≠ b → g' k = g k) (hheap : ∀ k, k ≠ b → k < w.heap.size → w'.heap[k]? = w.heap[k]?) (hgb : (st.os[id]? = some .none ∧ w.heap.size ≤ b) ∨ g b = .obj id)
    (hnew : ∀ k, g k = .obj id → k = b) (hro : RO g' w' st.live b (.row new)) (htok : ∀ s ∈ new, ∀ t ∈ s.toks, T t) :
    SR N T g' w' { st with os := st.os.set id (.row new) } a := by
  have hobj : ∀ k i, g k = .obj i → g' k = .obj i := fun k i h => (htoG.obj k i (hs.dom.lt_obj h) h).1
  have rowne : ∀ k n o, g k = .row n o → g' k = .row n o ∧ w'.heap[k]? = w.heap[k]? := by
    intro k n o h
    have hne : k ≠ b := by
      rintro rfl
      rcases hgb with ⟨_, h1⟩ | h1
      · have := hs.dom.lt_row h; omega
      · rw [h] at h1; cases h1
    exact ⟨by rw [hoth k hne]; exact h, hheap k hne (hs.dom.lt_row h)⟩
  have unine : ∀ k t, g k = .uni t → g' k = .uni t ∧ w'.heap[k]? = w.heap[k]? := by
    intro k t h
    have hne : k ≠ b := by
      rintro rfl
      rcases hgb with ⟨_, h1⟩ | h1
      · have := hs.dom.lt_uni h; omega
      · rw [h] at h1; cases h1
    exact ⟨by rw [hoth k hne]; exact h, hheap k hne (hs.dom.lt_uni h)⟩
  have hrc : ∀ {v : Value} {s : ASlot}, RC g w st.live v s → RC g' w' st.live v s := fun h => RC.keep htoG hs.dom rowne unine h
  have hrs : ∀ {v : Value} {s : ASlot}, RS g w st.live v s → RS g' w' st.live v s := by
    intro v s h
    cases s with
    | tup l =>
      obtain ⟨vs, rfl, hl, hc⟩ := h
      exact ⟨vs, rfl, hl, fun i u s hu hsl => hrc (hc i u s hu hsl)⟩
    | _ => exact rs_of_rc (hrc (rc_of_rs h (by simp)))
  refine ⟨hdom, hs.defers, hs.size, fun k v s hk => ?_, fun i o ho hn => ?_, fun k k' i hk hk' => ?_, fun k i hk => ?_, ⟨hs.wf.live, hs.wf.fr, fun i o ho s hsm t ht => ?_⟩⟩
  · obtain ⟨h1, h2⟩ := hs.slots k v s hk
    exact ⟨fun hv => hrs (h1 hv), h2⟩
  · by_cases hi : i = id
    · subst hi
      simp only [List.getElem?_set_self hid] at ho
      cases ho
      exact .inl ⟨b, hb, hro⟩
    · rw [List.getElem?_set_ne (Ne.symm hi)] at ho
      rcases hs.objs i o ho hn with ⟨c, hc, hr⟩ | ⟨hv, hno⟩
      case inr =>
        refine .inr ⟨hv, fun k hk => ?_⟩
        have hkb : k ≠ b := by rintro rfl; rw [hb] at hk; cases hk; exact hi rfl
        rw [hoth k hkb] at hk
        exact hno k hk
      have hne : c ≠ b := by
        rintro rfl
        have := hobj c i hc
        rw [hb] at this
        cases this
        exact hi rfl
      refine .inl ⟨c, hobj c i hc, ?_⟩
      cases o with
      | none => exact hr.elim
      | row cells =>
        obtain ⟨cc, e, q1, q2, q3⟩ := hr
        refine ⟨cc, e, by rw [hheap c hne (hs.dom.lt_obj hc)]; exact q1, q2, fun j s hj => ?_⟩
        obtain ⟨v, v1, v2, v3⟩ := q3 j s hj
        exact ⟨v, v1, v2, hrc v3⟩
  · by_cases h1 : k = b <;> by_cases h2 : k' = b
    · rw [h1, h2]
    · rw [h1, hb] at hk; cases hk
      rw [hoth k' h2] at hk'
      exact (h2 (hnew k' hk')).elim
    · rw [h2, hb] at hk'; cases hk'
      rw [hoth k h1] at hk
      exact (h1 (hnew k hk)).elim
    · rw [hoth k h1] at hk; rw [hoth k' h2] at hk'
      exact hs.inj k k' i hk hk'
  · by_cases h1 : k = b
    · rw [h1, hb] at hk; cases hk
      exact ⟨.row new, List.getElem?_set_self hid, by simp⟩
    · rw [hoth k h1] at hk
      obtain ⟨o, ho, hn⟩ := hs.ids k i hk
      by_cases hi : i = id
      · subst hi
        exact (h1 (hnew k hk)).elim
      · exact ⟨o, by rw [List.getElem?_set_ne (Ne.symm hi)]; exact ho, hn⟩
  · by_cases hi : i = id
    · subst hi
      simp only [List.getElem?_set_self hid] at ho
      cases ho
      exact htok s hsm t ht
    · rw [List.getElem?_set_ne (Ne.symm hi)] at ho
      exact hs.wf.os i o ho s hsm t ht

/-- A new object in a new block. -/
theorem SR.newObj {st : St} {a : Act} {id : Nat} {new : List ASlot} {vs : List Value} {e : TypeId} (hs : SR N T g w st a) (hid : st.os[id]? = some .none) (hl : new.length ≤ vs.length)
    (hv : ∀ (i : Nat) (s : ASlot), new[i]? = some s → ∃ v, vs[i]? = some v ∧ v.oneCell' = true ∧ RC g w st.live v s) (htok : ∀ s ∈ new, ∀ t ∈ s.toks, T t) :
    G g w (g.at w.heap.size (.obj id)) (w.alloc (.cells vs.toArray e)) ∧ SR N T (g.at w.heap.size (.obj id)) (w.alloc (.cells vs.toArray e)) { st with os := st.os.set id (.row new) } a := by
  have hlt : id < st.os.length := (List.getElem?_eq_some_iff.1 hid).1
  have hsz : (w.alloc (.cells vs.toArray e)).heap.size = w.heap.size + 1 := by show (w.heap.push _).size = _; simp
  have hold : ∀ b, b < w.heap.size → (w.alloc (.cells vs.toArray e)).heap[b]? = w.heap[b]? := fun b hb => heap_alloc_old w _ b hb
  have hg : ∀ b, b < w.heap.size → g.at w.heap.size (.obj id) b = g b := fun b hb => Ghost.at_ne g _ (by omega)
  have hG : G g w (g.at w.heap.size (.obj id)) (w.alloc (.cells vs.toArray e)) :=
    ⟨rfl, rfl, rfl, by omega, fun b hb hgb => ⟨hold b hb, by rw [hg b hb]; exact hgb⟩, fun b m hb hgb => ⟨hold b hb, by rw [hg b hb]; exact hgb⟩,
      fun b m u hb hgb => ⟨m, some u, by rw [hg b hb]; exact hgb, Nat.le_refl _, fun i v _ hv => by rw [cell_same (hold b hb)]; exact hv⟩, fun b i hb hgb => ⟨by rw [hg b hb]; exact hgb, Nat.le_of_eq (bsize_same (hold b hb)).symm⟩⟩
  have hdom : Dom (g.at w.heap.size (.obj id)) (w.alloc (.cells vs.toArray e)) := by
    intro b hb
    rw [hsz] at hb
    rw [Ghost.at_ne g _ (by omega)]
    exact hs.dom b (by omega)
  have hnoid : ∀ k, g k ≠ .obj id := by
    intro k hk
    obtain ⟨o, ho, hn⟩ := hs.ids k id hk
    rw [hid] at ho; cases ho
    exact hn rfl
  refine ⟨hG, hs.setObj hlt hG hdom (Ghost.at_same _ _ _) (fun k hk => Ghost.at_ne g _ hk) (fun k _ hk => hold k hk) (.inl ⟨hid, Nat.le_refl _⟩) (fun k hk => (hnoid k hk).elim) ?_ htok⟩
  refine ⟨vs.toArray, e, heap_alloc_new w _, by simpa using hl, fun i s hi => ?_⟩
  obtain ⟨v, v1, v2, v3⟩ := hv i s hi
  refine ⟨v, by simpa using v1, v2, ?_⟩
  exact RC.keep hG hs.dom (fun k n o hk => ⟨by rw [hg k (hs.dom.lt_row hk)]; exact hk, hold k (hs.dom.lt_row hk)⟩) (fun k t hk => ⟨by rw [hg k (hs.dom.lt_uni hk)]; exact hk, hold k (hs.dom.lt_uni hk)⟩) v3

end
end Go.Abs
