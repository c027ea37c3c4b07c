/- The abstract layer, part 9: steps that make memory but change none that is spoken of; putting a result into its slot. -/
import Derived.Test.YthcpckcgjplhiaaAh
namespace Go.Abs

/-- A stretch of the run that leaves all objects and all rows of living tokens alone. 'T': the old tokens. -/
structure Qt (T : Nat → Prop) (g : Ghost) (w : World) (g' : Ghost) (w' : World) (live live' : List Nat) : Prop where
  toG : G g w g' w'
  dom : Dom g' w'
  objH : ∀ b id, g b = .obj id → w'.heap[b]? = w.heap[b]?
  objB : ∀ b id, g' b = .obj id → g b = .obj id
  tok : ∀ b n t, T t → t ∈ live' → g b = .row n (some t) → g' b = .row n (some t) ∧ w'.heap[b]? = w.heap[b]?
  liv : ∀ t, T t → t ∈ live' → t ∈ live
  tokU : ∀ b t, T t → t ∈ live' → g b = .uni t → g' b = .uni t ∧ w'.heap[b]? = w.heap[b]?

section
variable {N : Nat} {T T' : Nat → Prop} {g g' : Ghost} {w w' : World} {live live' : List Nat}

theorem Qt.rv (h : Qt T g w g' w' live live') (hd : Dom g w) {v : Value} {d : D} (hv : RV g w v d) : RV g' w' v d := h.toG.rv hd hv

theorem Qt.rc (h : Qt T g w g' w' live live') (hd : Dom g w) {v : Value} {s : ASlot} (hs : RC g w live v s) (ht : ∀ t ∈ s.toks, T t) : RC g' w' live' v s := by
  cases s with
  | d x => exact h.rv hd hs
  | own t es rows =>
    refine ⟨h.rv hd hs.1, fun hl => ?_⟩
    have htb : T t := ht t (by simp [ASlot.toks])
    rcases hs.2 (h.liv t htb hl) with hf | ⟨b, cap, cur, e, rfl, hg, hh, h1, h2, h3⟩
    · exact .inl hf
    · obtain ⟨k1, k2⟩ := h.tok b _ t htb hl hg
      exact .inr ⟨b, cap, cur, e, rfl, k1, by rw [k2]; exact hh, h1, h2, h3⟩
  | uni t es rows =>
    have htb : T t := ht t (by simp [ASlot.toks])
    exact ⟨hs.1, fun hl => (hs.2 (h.liv t htb hl)).mono (fun b hb => h.tokU b t htb hl hb) (fun _ _ => h.rv hd)⟩
  | full es rows => exact ⟨h.rv hd hs.1, hs.2⟩
  | rd cells =>
    obtain ⟨b, off, n, o, f, rfl, hg, hn, hc⟩ := hs
    obtain ⟨n', o', hg', hnn, hcell⟩ := h.toG.rowsKept hd b n o hg
    refine ⟨b, off, n', o', f, rfl, hg', by omega, fun j d hj => ?_⟩
    obtain ⟨c1, c2, c3⟩ := hc j d hj
    have : j < cells.length := (List.getElem?_eq_some_iff.1 hj).1
    exact ⟨c1, hcell _ _ (by omega) c2, h.rv hd c3⟩
  | tup l => exact hs.elim
  | bad => trivial

theorem Qt.rs (h : Qt T g w g' w' live live') (hd : Dom g w) {v : Value} {s : ASlot} (hs : RS g w live v s) (ht : ∀ t ∈ s.toks, T t) : RS g' w' live' v s := by
  cases s with
  | tup l =>
    obtain ⟨vs, rfl, hl, hc⟩ := hs
    refine ⟨vs, rfl, hl, fun i u s hu hsl => h.rc hd (hc i u s hu hsl) ?_⟩
    intro t htm
    apply ht t
    cases s with
    | own t' es rows =>
      simp only [ASlot.toks, List.mem_singleton] at htm
      subst htm
      simp only [ASlot.toks, List.mem_flatMap]
      exact ⟨_, List.mem_of_getElem? hsl, by simp [tokOf]⟩
    | uni t' es rows =>
      simp only [ASlot.toks, List.mem_singleton] at htm
      subst htm
      simp only [ASlot.toks, List.mem_flatMap]
      exact ⟨_, List.mem_of_getElem? hsl, by simp [tokOf]⟩
    | tup l' => exact (hc i u _ hu hsl).elim
    | _ => simp [ASlot.toks] at htm
  | _ => exact rs_of_rc (h.rc hd (rc_of_rs hs (by simp)) ht)

theorem Qt.ro (h : Qt T g w g' w' live live') (hd : Dom g w) {b id : Nat} {o : AObj} (hb : g b = .obj id) (ho : RO g w live b o) (ht : ∀ s ∈ o.cells, ∀ t ∈ s.toks, T t) : RO g' w' live' b o := by
  cases o with
  | none => exact ho.elim
  | row cells =>
    obtain ⟨c, e, hh, hl, hc⟩ := ho
    refine ⟨c, e, by rw [h.objH b id hb]; exact hh, hl, fun i s hs => ?_⟩
    obtain ⟨v, v1, v2, v3⟩ := hc i s hs
    exact ⟨v, v1, v2, h.rc hd v3 (ht s (List.mem_of_getElem? hs))⟩

theorem SR.quiet {st : St} {a : Act} (hs : SR N T g w st a) (h : Qt T g w g' w' st.live live') (hT : ∀ t, T t → T' t) (hl : ∀ t ∈ live', T' t) :
    SR N T' g' w' { st with live := live' } a := by
  refine ⟨h.dom, hs.defers, hs.size, fun k v s hk => ?_, fun id o ho hn => ?_, fun b b' id hb hb' => ?_, fun b id hb => ?_, ⟨hl, fun k s hk t ht => ?_, fun id o ho s hs' t ht => ?_⟩⟩
  · obtain ⟨h1, h2⟩ := hs.slots k v s hk
    exact ⟨fun hv => h.rs hs.dom (h1 hv) (hs.wf.fr k s (by rw [← hv]; exact hk)), h2⟩
  · rcases hs.objs id o ho hn with ⟨b, hb, hr⟩ | ⟨hv, hno⟩
    · exact .inl ⟨b, (h.toG.obj b id (hs.dom.lt_obj hb) hb).1, h.ro hs.dom hb hr (hs.wf.os id o ho)⟩
    · exact .inr ⟨hv, fun b hb => hno b (h.objB b id hb)⟩
  · exact hs.inj b b' id (h.objB b id hb) (h.objB b' id hb')
  · exact hs.ids b id (h.objB b id hb)
  · exact hT t (hs.wf.fr k s hk t ht)
  · exact hT t (hs.wf.os id o ho s hs' t ht)

theorem Fr.get_cons (j k : Nat) (s : Bool × ASlot) (r : Fr) : Fr.get ((j, s) :: r) k = if j = k then some s else Fr.get r k := rfl

theorem SR.put {st : St} {a : Act} (hs : SR N T g w st a) {d : Nat} (hd : d < N) {v : Value} {s : ASlot} (hv : RS g w st.live v s) (ht : ∀ t ∈ s.toks, T t) :
    SR N T g w { st with fr := (d, true, s) :: st.fr } (a.put (some d) v) := by
  refine ⟨hs.dom, hs.defers, by simp [Act.put, hs.size], fun k v' s' hk => ?_, hs.objs, hs.inj, hs.ids, ⟨hs.wf.live, fun k s' hk => ?_, hs.wf.os⟩⟩
  · simp only [Fr.get_cons] at hk
    split at hk
    · rename_i hdk
      subst hdk
      cases hk
      refine ⟨fun _ => ?_, by simp⟩
      have : (a.put (some d) v).tmps.getD d undef = v := by simp [Act.put, hs.size, hd]
      rw [this]
      exact hv
    · rename_i hdk
      obtain ⟨h1, h2⟩ := hs.slots k v' s' hk
      have : (a.put (some d) v).tmps.getD k undef = a.tmps.getD k undef := by simp [Act.put, Array.getElem?_setIfInBounds_ne hdk]
      rw [this]
      exact ⟨h1, h2⟩
  · simp only [Fr.get_cons] at hk
    split at hk
    · cases hk; exact ht
    · exact hs.wf.fr k s' hk

/-- A slot whose operation was not wanted. -/
theorem SR.putUndef {st : St} {a : Act} (hs : SR N T g w st a) {d : Nat} (hd : d < N) {s : ASlot} :
    SR N T g w { st with fr := (d, false, s) :: st.fr } (a.put (some d) undef) := by
  refine ⟨hs.dom, hs.defers, by simp [Act.put, hs.size], fun k v' s' hk => ?_, hs.objs, hs.inj, hs.ids, ⟨hs.wf.live, fun k s' hk => ?_, hs.wf.os⟩⟩
  · simp only [Fr.get_cons] at hk
    split at hk
    · rename_i hdk
      subst hdk
      cases hk
      refine ⟨by simp, fun _ => ?_⟩
      simp [Act.put, hs.size, hd]
    · rename_i hdk
      obtain ⟨h1, h2⟩ := hs.slots k v' s' hk
      have : (a.put (some d) undef).tmps.getD k undef = a.tmps.getD k undef := by simp [Act.put, Array.getElem?_setIfInBounds_ne hdk]
      rw [this]
      exact ⟨h1, h2⟩
  · simp only [Fr.get_cons] at hk
    split at hk
    · cases hk
    · exact hs.wf.fr k s' hk

/-- The tokens that an operation may name: none of the old ones. -/
def Fresh (T : Nat → Prop) (tb : Nat) : Prop := ∀ t, T t → ¬ (tb ≤ t ∧ t < tb + 16)

theorem Fresh.ne {T : Nat → Prop} {tb t : Nat} (h : Fresh T tb) (ht : T t) : t ≠ tb := by
  rintro rfl; exact h t ht ⟨Nat.le_refl _, by omega⟩

theorem Qt.refl (T : Nat → Prop) {g : Ghost} {w : World} (hd : Dom g w) (live : List Nat) : Qt T g w g w live live :=
  ⟨G.refl g w, hd, fun _ _ _ => rfl, fun _ _ h => h, fun _ _ _ _ _ h => ⟨h, rfl⟩, fun _ _ h => h, fun _ _ _ _ h => ⟨h, rfl⟩⟩

/-- The ghost with a role for one block. -/
def Ghost.at (g : Ghost) (b : Nat) (r : Role) : Ghost := fun x => if x = b then r else g x

theorem Ghost.at_same (g : Ghost) (b : Nat) (r : Role) : g.at b r b = r := by simp [Ghost.at]
theorem Ghost.at_ne (g : Ghost) {b x : Nat} (r : Role) (h : x ≠ b) : g.at b r x = g x := by simp [Ghost.at, h]

/-- A new block. -/
theorem Qt.newRole (hd : Dom g w) (w1 : World) (h1 : w1.heap = w.heap) (hos : w1.os = w.os) (htape : w1.tape = w.tape) (hout : w1.output = w.output) (o : Obj) (r : Role) (hr : ∀ id, r ≠ .obj id)
    (hlive : ∀ u, T u → u ∈ live' → u ∈ live) :
    Qt T g w (g.at w.heap.size r) (w1.alloc o) live live' := by
  have hsz : (w1.alloc o).heap.size = w.heap.size + 1 := by simp [World.alloc, h1]
  have hold : ∀ b, b < w.heap.size → (w1.alloc o).heap[b]? = w.heap[b]? := fun b hb => by
    rw [heap_alloc_old w1 o b (by rw [h1]; exact hb), h1]
  have hg : ∀ b, b < w.heap.size → g.at w.heap.size r b = g b := fun b hb => Ghost.at_ne g _ (by omega)
  refine ⟨⟨hos, htape, hout, by omega, fun b hb hgb => ⟨hold b hb, by rw [hg b hb]; exact hgb⟩, fun b m hb hgb => ⟨hold b hb, by rw [hg b hb]; exact hgb⟩,
    fun b m u hb hgb => ⟨m, some u, by rw [hg b hb]; exact hgb, Nat.le_refl _, fun i v _ hv => by rw [cell_same (hold b hb)]; exact hv⟩, fun b id hb hgb => ⟨by rw [hg b hb]; exact hgb, Nat.le_of_eq (bsize_same (hold b hb)).symm⟩⟩, ?_, ?_, ?_, ?_, hlive, ?_⟩
  · intro b hb
    rw [hsz] at hb
    rw [Ghost.at_ne g _ (by omega)]
    exact hd b (by omega)
  · intro b id hgb
    exact hold b (hd.lt_obj hgb)
  · intro b id hgb
    by_cases he : b = w.heap.size
    · subst he; rw [Ghost.at_same] at hgb; exact (hr id hgb).elim
    · rwa [Ghost.at_ne g _ he] at hgb
  · intro b m u _ _ hgb
    have hb := hd.lt_row hgb
    exact ⟨by rw [hg b hb]; exact hgb, hold b hb⟩
  · intro b u _ _ hgb
    have hb := hd.lt_uni hgb
    exact ⟨by rw [hg b hb]; exact hgb, hold b hb⟩

/-- A new row. -/
theorem Qt.newRow (hd : Dom g w) (w1 : World) (h1 : w1.heap = w.heap) (hos : w1.os = w.os) (htape : w1.tape = w.tape) (hout : w1.output = w.output) (o : Obj) (n : Nat) (t : Option Nat)
    (hlive : ∀ u, T u → u ∈ live' → u ∈ live) :
    Qt T g w (g.at w.heap.size (.row n t)) (w1.alloc o) live live' := Qt.newRole hd w1 h1 hos htape hout o (.row n t) (by simp) hlive

/-- A new slice that is ours alone. -/
theorem Qt.newUni (hd : Dom g w) (w1 : World) (h1 : w1.heap = w.heap) (hos : w1.os = w.os) (htape : w1.tape = w.tape) (hout : w1.output = w.output) (o : Obj) (t : Nat)
    (hlive : ∀ u, T u → u ∈ live' → u ∈ live) :
    Qt T g w (g.at w.heap.size (.uni t)) (w1.alloc o) live live' := Qt.newRole hd w1 h1 hos htape hout o (.uni t) (by simp) hlive

end
end Go.Abs
