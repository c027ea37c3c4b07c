/- The abstract layer, part 24b: changes of view, where nothing is run: a slice that is ours alone as an object, an object as such a slice, either for good. -/
import Derived.Test.YthcpckcgjplhiaaAx
namespace Go.Abs

/-- Where a slot stands. -/
inductive Pos where
  | fr (k : Nat)
  | cell (id i : Nat)

def St.slotAt (st : St) : Pos → ASlot
  | .fr k => match st.fr.get k with | some (true, s) => s | _ => .bad
  | .cell id i => (objCells st.os id).getD i .bad

def St.setPos (st : St) (s : ASlot) : Pos → St
  | .fr k => { st with fr := (k, true, s) :: st.fr }
  | .cell id i => { st with os := st.os.set id (.row ((objCells st.os id).set i s)) }

/-- The value that stands there. -/
def At (g : Ghost) (w : World) (a : Act) : Pos → Value → Prop
  | .fr k, v => v = a.tmps.getD k undef
  | .cell id i, v => ∃ (b : Nat) (c : Array Value) (e : TypeId), g b = .obj id ∧ w.heap[b]? = some (.cells c e (0, 0)) ∧ c[i]? = some v ∧ v.oneCell' = true

/-- A slot that speaks of kept objects only. -/
def ASlot.okS (keep : Nat → Bool) : ASlot → Bool
  | .d x => x.okW keep
  | .own _ _ rows => D.okWR keep rows
  | .uni _ _ rows => D.okWR keep rows
  | .full _ rows => D.okWR keep rows
  | .rd cs => D.okWL keep cs
  | .tup l => l.all fun s => match s with | .d x => x.okW keep | .own _ _ rows => D.okWR keep rows | .uni _ _ rows => D.okWR keep rows | .full _ rows => D.okWR keep rows | .rd cs => D.okWL keep cs | _ => true
  | .bad => true

def ASlot.only (keep : Nat → Bool) (s : ASlot) : ASlot := if s.okS keep then s else .bad

/-- All slots under a map. -/
def Fr.mapS (f : ASlot → ASlot) : Fr → Fr
  | [] => []
  | (k, v, s) :: l => (k, v, f s) :: Fr.mapS f l

def AObj.mapS (f : ASlot → ASlot) : AObj → AObj
  | .none => .none
  | .row cs => .row (cs.map f)

def neId (id : Nat) (i : Nat) : Bool := !(i == id)

/-- An object's slices as they read. -/
def D.frz (id es : Nat) (rows : List (List D)) : D → D
  | .ref i off e n => if i = id ∧ off = 0 ∧ e = es ∧ n = rows.length then .sl es rows else .ref i off e n
  | d => d

def ASlot.frz (id es : Nat) (rows : List (List D)) : ASlot → ASlot
  | .d (.agg cs) => .d (.agg (cs.map (D.frz id es rows)))
  | .d x => .d (x.frz id es rows)
  | s => s

def St.u2o (st : St) (p : Pos) (t es : Nat) (rows : List (List D)) : St :=
  let s1 := st.setPos (.d (.ref st.os.length 0 es rows.length)) p
  { s1 with os := s1.os ++ [.row (rows.flatten.map .d)], live := st.live.filter fun u => !(u == t) }

def St.o2u (st : St) (p : Pos) (id es : Nat) (rows : List (List D)) : St :=
  ({ fr := Fr.mapS (ASlot.only (neId id)) st.fr, os := (st.os.map (AObj.mapS (ASlot.only (neId id)))).set id .none, live := st.live ++ [16 * st.nt], nt := st.nt + 1 } : St).setPos (.uni (16 * st.nt) es rows) p

def St.frz (st : St) (id es : Nat) (rows : List (List D)) : St :=
  { fr := Fr.mapS (fun s => (s.frz id es rows).only (neId id)) st.fr, os := (st.os.map (AObj.mapS fun s => (s.frz id es rows).only (neId id))).set id .none, live := st.live, nt := st.nt }

def St.u2own (st : St) (p : Pos) (t es : Nat) (rows : List (List D)) : St :=
  let s1 := st.setPos (.own (16 * st.nt) es rows) p
  { s1 with live := (st.live.filter fun u => !(u == t)) ++ [16 * st.nt], nt := st.nt + 1 }

/-- A position that is not in an object. -/
def Pos.notIn (id : Nat) : Pos → Prop
  | .fr _ => True
  | .cell i _ => i ≠ id

/-- CHANGES OF VIEW. -/
inductive Turn (k0 : Nat) : St → St → Prop
  | refl (st : St) : Turn k0 st st
  | weak {st st1 st2 : St} (h : Weak k0 st st1) (r : Turn k0 st1 st2) : Turn k0 st st2
  | u2o {st st2 : St} (p : Pos) (t es : Nat) (rows : List (List D)) (hp : st.slotAt p = .uni t es rows) (ht : t ∈ st.live) (r : Turn k0 (st.u2o p t es rows) st2) : Turn k0 st st2
  | o2u {st st2 : St} (p : Pos) (id es : Nat) (rows : List (List D)) (hp : st.slotAt p = .d (.ref id 0 es rows.length)) (hc : objCells st.os id = rows.flatten.map .d) (hes : ∀ r ∈ rows, r.length = es)
      (hcl : ∀ d ∈ rows.flatten, d.isCell = true) (hok : D.okWR (neId id) rows = true) (hk : k0 ≤ id) (hn : p.notIn id) (r : Turn k0 (st.o2u p id es rows) st2) : Turn k0 st st2
  | frz {st st2 : St} (id es : Nat) (rows : List (List D)) (hc : (objCells st.os id).map ASlot.cellD = rows.flatten) (hcc : (objCells st.os id).all ASlot.isCellD = true) (hes : ∀ r ∈ rows, r.length = es)
      (hok : D.okWR (neId id) rows = true) (hk : k0 ≤ id) (r : Turn k0 (st.frz id es rows) st2) : Turn k0 st st2
  | u2own {st st2 : St} (p : Pos) (t es : Nat) (rows : List (List D)) (hp : st.slotAt p = .uni t es rows) (ht : t ∈ st.live) (r : Turn k0 (st.u2own p t es rows) st2) : Turn k0 st st2

section
variable {N : Nat} {T T' : Nat → Prop} {g g0 g' : Ghost} {w w0 : World} {st st' : St} {a : Act} {k0 : Nat}

theorem mapS_get (f : ASlot → ASlot) (k : Nat) : ∀ fr : Fr, (Fr.mapS f fr).get k = (fr.get k).map fun x => (x.1, f x.2)
  | [] => rfl
  | (j, v, s) :: l => by
    simp only [Fr.mapS, Fr.get]
    split
    · rfl
    · exact mapS_get f k l

/-- The position is there. -/
def PosOk (st : St) : Pos → Prop
  | .fr _ => True
  | .cell id i => i < (objCells st.os id).length

/-- A slot's value. -/
theorem slotAt_value (hs : SR N T g w st a) {p : Pos} {s : ASlot} (h : st.slotAt p = s) (hne : s ≠ .bad) (hnt : ∀ l, s ≠ .tup l) :
    ∃ v, At g w a p v ∧ RC g w st.live v s ∧ PosOk st p := by
  subst h
  cases p with
  | fr k =>
    simp only [St.slotAt] at hne hnt ⊢
    cases hk : st.fr.get k with
    | none => rw [hk] at hne; exact (hne rfl).elim
    | some x =>
      obtain ⟨v, s⟩ := x
      cases v with
      | false => rw [hk] at hne; exact (hne rfl).elim
      | true =>
        rw [hk] at hnt
        exact ⟨_, rfl, rc_of_rs ((hs.slots k true s hk).1 rfl) hnt, trivial⟩
  | cell id i =>
    simp only [St.slotAt] at hne hnt ⊢
    by_cases hi : i < (objCells st.os id).length
    · have hg : (objCells st.os id).getD i .bad = (objCells st.os id)[i] := by simp [List.getD, hi]
      unfold objCells at hi
      cases ho : st.os[id]? with
      | none => simp [ho] at hi
      | some o =>
        rw [ho] at hi
        simp only at hi
        obtain ⟨b, hb, hr⟩ := (hs.objs id o ho (by rintro rfl; simp [AObj.cells] at hi)).block (fun h => by rw [h] at hi; simp at hi)
        have hcells : objCells st.os id = o.cells := by simp [objCells, ho]
        cases o with
        | none => exact hr.elim
        | row cs =>
          obtain ⟨c, e, q1, q2, q3⟩ := hr
          have hcells' : objCells st.os id = cs := hcells
          obtain ⟨v, v1, v2, v3⟩ := q3 i cs[i] (List.getElem?_eq_getElem hi)
          refine ⟨v, ⟨b, c, e, hb, q1, v1, v2⟩, ?_, by show i < (objCells st.os id).length; rw [hcells']; exact hi⟩
          rw [hg]
          simp only [hcells']
          exact v3
    · have hg : (objCells st.os id).getD i .bad = .bad := by simp [List.getD, hi]
      exact (hne hg).elim

/-- A slot told otherwise. -/
theorem setPos_sr (hs : SR N T g w st a) {p : Pos} {v : Value} {s' : ASlot} (hat : At g w a p v) (hp : PosOk st p)
    (hrc : RC g w st.live v s') (ht : ∀ t ∈ s'.toks, T t) : SR N T g w (st.setPos s' p) a := by
  cases p with
  | fr k =>
    refine ⟨hs.dom, hs.defers, hs.size, fun k' v' s hk => ?_, hs.objs, hs.inj, hs.ids, ⟨hs.wf.live, fun k' s hk => ?_, hs.wf.os⟩⟩
    · simp only [St.setPos, Fr.get] at hk
      split at hk
      · rename_i he
        subst he
        cases hk
        have hat' : v = a.tmps.getD k undef := hat
        exact ⟨fun _ => by rw [← hat']; exact rs_of_rc hrc, by simp⟩
      · exact hs.slots k' v' s hk
    · simp only [St.setPos, Fr.get] at hk
      split at hk
      · cases hk; exact ht
      · exact hs.wf.fr k' s hk
  | cell id i =>
    obtain ⟨b, c, e, hb, hh, hci, hone⟩ := hat
    have hp : i < (objCells st.os id).length := hp
    obtain ⟨c', e', r1, r2, r3⟩ := ro_block hs hb
    rw [hh] at r1; cases r1
    have hlt : id < st.os.length := by
      obtain ⟨o, ho, _⟩ := hs.ids b id hb
      exact (List.getElem?_eq_some_iff.1 ho).1
    refine ⟨hs.dom, hs.defers, hs.size, hs.slots, fun i' o ho hn => ?_, hs.inj, fun b' i' hb' => ?_, ⟨hs.wf.live, hs.wf.fr, fun i' o ho s hsm t htm => ?_⟩⟩
    · simp only [St.setPos] at ho
      by_cases hi : id = i'
      · subst hi
        rw [List.getElem?_set_self hlt] at ho
        cases ho
        refine .inl ⟨b, hb, c, e, hh, by rw [List.length_set]; exact r2, fun j s hj => ?_⟩
        by_cases hij : i = j
        · subst hij
          rw [List.getElem?_set_self hp] at hj
          cases hj
          exact ⟨v, hci, hone, hrc⟩
        · rw [List.getElem?_set_ne hij] at hj
          exact r3 j s hj
      · rw [List.getElem?_set_ne hi] at ho
        exact hs.objs i' o ho hn
    · simp only [St.setPos]
      obtain ⟨o, ho, hne⟩ := hs.ids b' i' hb'
      by_cases hi : id = i'
      · subst hi; exact ⟨_, List.getElem?_set_self hlt, by simp⟩
      · exact ⟨o, by rw [List.getElem?_set_ne hi]; exact ho, hne⟩
    · simp only [St.setPos] at ho
      by_cases hi : id = i'
      · subst hi
        rw [List.getElem?_set_self hlt] at ho
        cases ho
        simp only [AObj.cells] at hsm
        rcases List.mem_or_eq_of_mem_set hsm with h | h
        · obtain ⟨o, ho, _⟩ := hs.ids b id hb
          have hcells : objCells st.os id = o.cells := by simp [objCells, ho]
          exact hs.wf.os id o ho s (by rw [← hcells]; exact h) t htm
        · subst h; exact ht t htm
      · rw [List.getElem?_set_ne hi] at ho
        exact hs.wf.os i' o ho s hsm t htm

/-- One block's role may change as long as nobody outside has spoken of it. -/
theorem G.role (hG : G g0 w0 g w) (h0 : ∀ b id, g0 b = .obj id → id < k0) {b : Nat} {r : Role} (hb : (∃ t, g b = .uni t) ∨ ∃ id, g b = .obj id ∧ k0 ≤ id) : G g0 w0 (g.at b r) w := by
  have key : ∀ k, k ≠ b → g.at b r k = g k := fun k hk => Ghost.at_ne g _ hk
  refine ⟨hG.os, hG.tape, hG.output, hG.size, fun k hk h => ?_, fun k n hk h => ?_, fun k n t hk h => ?_, fun k id hk h => ?_⟩
  · obtain ⟨q1, q2⟩ := hG.out k hk h
    refine ⟨q1, ?_⟩
    rw [key k (by rintro rfl; rcases hb with ⟨t, hb⟩ | ⟨id, hb, _⟩ <;> rw [q2] at hb <;> cases hb)]; exact q2
  · obtain ⟨q1, q2⟩ := hG.rowN k n hk h
    refine ⟨q1, ?_⟩
    rw [key k (by rintro rfl; rcases hb with ⟨t, hb⟩ | ⟨id, hb, _⟩ <;> rw [q2] at hb <;> cases hb)]; exact q2
  · obtain ⟨n', o', q1, q2⟩ := hG.rowS k n t hk h
    refine ⟨n', o', ?_, q2⟩
    rw [key k (by rintro rfl; rcases hb with ⟨t, hb⟩ | ⟨id, hb, _⟩ <;> rw [q1] at hb <;> cases hb)]; exact q1
  · obtain ⟨q1, q2⟩ := hG.obj k id hk h
    refine ⟨?_, q2⟩
    rw [key k ?_]
    · exact q1
    · rintro rfl
      rcases hb with ⟨t, hb⟩ | ⟨id', hb, hk'⟩
      · rw [q1] at hb; cases hb
      · rw [q1] at hb; cases hb
        have := h0 k id h
        omega

/-- A slice that is ours alone takes another role: all else reads as before. -/
theorem rc_uniRole {t : Nat} {b : Nat} {r : Role} {live : List Nat} (hb : g b = .uni t) {v : Value} {s : ASlot} (h : RC g w live v s) : RC (g.at b r) w (live.filter fun u => !(u == t)) v s := by
  have key : ∀ k, k ≠ b → g.at b r k = g k := fun k hk => Ghost.at_ne g _ hk
  have hrk : RowsKept g w (g.at b r) w := by
    intro k n o hk
    refine ⟨n, o, ?_, Nat.le_refl _, fun _ _ _ h => h⟩
    rw [key k (by rintro rfl; rw [hb] at hk; cases hk)]; exact hk
  have hob : ∀ k id, g k = .obj id → g.at b r k = .obj id ∧ bsize w k ≤ bsize w k := by
    intro k id hk
    refine ⟨?_, Nat.le_refl _⟩
    rw [key k (by rintro rfl; rw [hb] at hk; cases hk)]; exact hk
  have hrv : ∀ {v : Value} {d : D}, RV g w v d → RV (g.at b r) w v d := fun h => h.mono hrk hob
  cases s with
  | d x => exact hrv h
  | own t' es rows =>
    refine ⟨hrv h.1, fun hl => ?_⟩
    rcases h.2 (List.mem_filter.1 hl).1 with hf | ⟨c, cap, cur, e, h1, h2, h3⟩
    · exact .inl hf
    · refine .inr ⟨c, cap, cur, e, h1, ?_, h3⟩
      rw [key c (by rintro rfl; rw [hb] at h2; cases h2)]; exact h2
  | uni t' es rows =>
    refine ⟨h.1, fun hl => (h.2 (List.mem_filter.1 hl).1).mono (fun k hk => ⟨?_, rfl⟩) (fun _ _ => hrv)⟩
    rw [key k ?_]
    · exact hk
    · rintro rfl
      rw [hb] at hk; cases hk
      have := (List.mem_filter.1 hl).2
      simp at this
  | full es rows => exact ⟨hrv h.1, h.2⟩
  | rd cells =>
    obtain ⟨c, off, n, o, f, rfl, hg, hn, hc⟩ := h
    obtain ⟨n', o', hg', hnn, hcell⟩ := hrk c n o hg
    refine ⟨c, off, n', o', f, rfl, hg', by omega, fun j d hj => ?_⟩
    obtain ⟨c1, c2, c3⟩ := hc j d hj
    have : j < cells.length := (List.getElem?_eq_some_iff.1 hj).1
    exact ⟨c1, hcell _ _ (by omega) c2, hrv c3⟩
  | tup l => exact h.elim
  | bad => trivial

theorem rs_map {live live' : List Nat} {f : ASlot → ASlot} (hf : ∀ {v : Value} {s : ASlot}, RC g w live v s → RC g' w live' v (f s)) (htup : ∀ l, f (.tup l) = .tup l ∨ f (.tup l) = .bad) (hid : ∀ l, f (.tup l) = .tup l → ∀ s ∈ l, ∀ v, RC g w live v s → RC g' w live' v s)
    {v : Value} {s : ASlot} (h : RS g w live v s) : RS g' w live' v (f s) := by
  by_cases ht : ∃ l, s = .tup l
  · obtain ⟨l, rfl⟩ := ht
    rcases htup l with h1 | h1
    · rw [h1]
      obtain ⟨vs, q1, q2, q3⟩ := h
      exact ⟨vs, q1, q2, fun i u s hu hs => hid l h1 s (List.mem_of_getElem? hs) u (q3 i u s hu hs)⟩
    · rw [h1]; trivial
  · have hn : ∀ l, s ≠ .tup l := fun l hl => ht ⟨l, hl⟩
    exact rs_of_rc (hf (rc_of_rs h hn))

/-- A block of a slice that is ours alone takes another role that is no object's. -/
theorem SR.uniRole (hs : SR N T g w st a) {t b : Nat} {r : Role} (hb : g b = .uni t) (hr : ∀ id, r ≠ .obj id) : SR N T (g.at b r) w { st with live := st.live.filter fun u => !(u == t) } a := by
  have key : ∀ k, k ≠ b → g.at b r k = g k := fun k hk => Ghost.at_ne g _ hk
  have back : ∀ k id, g.at b r k = .obj id → g k = .obj id := by
    intro k id hk
    by_cases he : k = b
    · subst he; rw [Ghost.at_same] at hk; exact (hr id hk).elim
    · rwa [key k he] at hk
  refine ⟨fun k hk => ?_, hs.defers, hs.size, fun k v s hk => ?_, fun i o ho hn => ?_, fun k k' i hk hk' => hs.inj k k' i (back k i hk) (back k' i hk'), fun k i hk => hs.ids k i (back k i hk), ⟨fun u hu => hs.wf.live u (List.mem_filter.1 hu).1, hs.wf.fr, hs.wf.os⟩⟩
  · have hne : k ≠ b := by rintro rfl; rw [hs.dom k hk] at hb; cases hb
    rw [key k hne]; exact hs.dom k hk
  · obtain ⟨h1, h2⟩ := hs.slots k v s hk
    exact ⟨fun hv => rs_map (f := id) (rc_uniRole hb) (fun l => .inl rfl) (fun l _ s _ v h => rc_uniRole hb h) (h1 hv), h2⟩
  · rcases hs.objs i o ho hn with ⟨c, hc, hro⟩ | ⟨hv, hno⟩
    case inr => exact .inr ⟨hv, fun k hk => hno k (back k i hk)⟩
    refine .inl ⟨c, by rw [key c (by rintro rfl; rw [hb] at hc; cases hc)]; exact hc, ?_⟩
    cases o with
    | none => exact hro.elim
    | row cs =>
      obtain ⟨cc, e, q1, q2, q3⟩ := hro
      exact ⟨cc, e, q1, q2, fun j s hj => by obtain ⟨v, v1, v2, v3⟩ := q3 j s hj; exact ⟨v, v1, v2, rc_uniRole hb v3⟩⟩

/-- A token is given up. -/
theorem rc_less {live : List Nat} {t : Nat} {v : Value} {s : ASlot} (h : RC g w live v s) : RC g w (live.filter fun u => !(u == t)) v s := by
  cases s with
  | own t' es rows => exact ⟨h.1, fun hl => h.2 (List.mem_filter.1 hl).1⟩
  | uni t' es rows => exact ⟨h.1, fun hl => h.2 (List.mem_filter.1 hl).1⟩
  | _ => exact h

theorem SR.less (hs : SR N T g w st a) (t : Nat) : SR N T g w { st with live := st.live.filter fun u => !(u == t) } a := by
  refine ⟨hs.dom, hs.defers, hs.size, fun k v s hk => ?_, fun i o ho hn => ?_, hs.inj, hs.ids, ⟨fun u hu => hs.wf.live u (List.mem_filter.1 hu).1, hs.wf.fr, hs.wf.os⟩⟩
  · obtain ⟨h1, h2⟩ := hs.slots k v s hk
    exact ⟨fun hv => rs_map (f := id) rc_less (fun l => .inl rfl) (fun l _ s _ v h => rc_less h) (h1 hv), h2⟩
  · rcases hs.objs i o ho hn with ⟨c, hc, hro⟩ | hv
    case inr => exact .inr hv
    refine .inl ⟨c, hc, ?_⟩
    cases o with
    | none => exact hro.elim
    | row cs =>
      obtain ⟨cc, e, q1, q2, q3⟩ := hro
      exact ⟨cc, e, q1, q2, fun j s hj => by obtain ⟨v, v1, v2, v3⟩ := q3 j s hj; exact ⟨v, v1, v2, rc_less v3⟩⟩

/-- One more object. -/
theorem SR.addObj (hs : SR N T g w st a) {t b : Nat} {cs : List ASlot} {cur : Array Value} {e : TypeId} (hb : g b = .uni t) (hh : w.heap[b]? = some (.cells cur e (0, 0))) (hl : cs.length ≤ cur.size)
    (hc : ∀ (i : Nat) (s : ASlot), cs[i]? = some s → ∃ u, cur[i]? = some u ∧ u.oneCell' = true ∧ RC g w st.live u s) (ht : ∀ s ∈ cs, s.toks = []) :
    SR N T (g.at b (.obj st.os.length)) w { st with os := st.os ++ [.row cs], live := st.live.filter fun u => !(u == t) } a := by
  have key : ∀ k, k ≠ b → g.at b (.obj st.os.length) k = g k := fun k hk => Ghost.at_ne g _ hk
  have hno : ∀ k, g k ≠ .obj st.os.length := by
    intro k hk
    obtain ⟨o, ho, _⟩ := hs.ids k _ hk
    have := (List.getElem?_eq_some_iff.1 ho).1
    omega
  have old : ∀ (i : Nat) (o : AObj), (st.os ++ [AObj.row cs])[i]? = some o → st.os[i]? = some o ∨ (i = st.os.length ∧ o = .row cs) := by
    intro i o ho
    by_cases hi : i < st.os.length
    · rw [List.getElem?_append_left hi] at ho; exact .inl ho
    · rw [List.getElem?_append_right (by omega)] at ho
      have : i - st.os.length = 0 := by have := (List.getElem?_eq_some_iff.1 ho).1; simp at this; omega
      rw [this] at ho
      simp at ho
      exact .inr ⟨by omega, ho.symm⟩
  refine ⟨fun k hk => ?_, hs.defers, hs.size, fun k v s hk => ?_, fun i o ho hn => ?_, fun k k' i hk hk' => ?_, fun k i hk => ?_, ⟨fun u hu => hs.wf.live u (List.mem_filter.1 hu).1, hs.wf.fr, fun i o ho s hsm t htm => ?_⟩⟩
  · have hne : k ≠ b := by rintro rfl; rw [hs.dom k hk] at hb; cases hb
    rw [key k hne]; exact hs.dom k hk
  · obtain ⟨h1, h2⟩ := hs.slots k v s hk
    exact ⟨fun hv => rs_map (f := id) (rc_uniRole hb) (fun l => .inl rfl) (fun l _ s _ v h => rc_uniRole hb h) (h1 hv), h2⟩
  · rcases old i o ho with h | ⟨rfl, rfl⟩
    · rcases hs.objs i o h hn with ⟨c, hc', hro⟩ | ⟨hv, hno'⟩
      case inr =>
        refine .inr ⟨hv, fun k hk => ?_⟩
        by_cases he : k = b
        · rw [he, Ghost.at_same] at hk; cases hk
          have := (List.getElem?_eq_some_iff.1 h).1
          omega
        · rw [key k he] at hk; exact hno' k hk
      refine .inl ⟨c, by rw [key c (by rintro rfl; rw [hb] at hc'; cases hc')]; exact hc', ?_⟩
      cases o with
      | none => exact hro.elim
      | row cs' =>
        obtain ⟨cc, e', q1, q2, q3⟩ := hro
        exact ⟨cc, e', q1, q2, fun j s hj => by obtain ⟨v, v1, v2, v3⟩ := q3 j s hj; exact ⟨v, v1, v2, rc_uniRole hb v3⟩⟩
    · refine .inl ⟨b, Ghost.at_same _ _ _, cur, e, hh, hl, fun j s hj => ?_⟩
      obtain ⟨v, v1, v2, v3⟩ := hc j s hj
      exact ⟨v, v1, v2, rc_uniRole hb v3⟩
  · by_cases h1 : k = b <;> by_cases h2 : k' = b
    · rw [h1, h2]
    · rw [h1, Ghost.at_same] at hk; cases hk
      rw [key k' h2] at hk'
      exact (hno k' hk').elim
    · rw [h2, Ghost.at_same] at hk'; cases hk'
      rw [key k h1] at hk
      exact (hno k hk).elim
    · rw [key k h1] at hk; rw [key k' h2] at hk'
      exact hs.inj k k' i hk hk'
  · by_cases h1 : k = b
    · rw [h1, Ghost.at_same] at hk; cases hk
      exact ⟨.row cs, by simp, by simp⟩
    · rw [key k h1] at hk
      obtain ⟨o, ho, hne⟩ := hs.ids k i hk
      exact ⟨o, by rw [List.getElem?_append_left (List.getElem?_eq_some_iff.1 ho).1]; exact ho, hne⟩
  · rcases old i o ho with h | ⟨rfl, rfl⟩
    · exact hs.wf.os i o h s hsm t htm
    · rw [ht s hsm] at htm; cases htm

/-- .. and one without memory. -/
theorem SR.addVoid (hs : SR N T g w st a) : SR N T g w { st with os := st.os ++ [.row []] } a := by
  have old : ∀ (i : Nat) (o : AObj), (st.os ++ [AObj.row []])[i]? = some o → st.os[i]? = some o ∨ (i = st.os.length ∧ o = .row []) := by
    intro i o ho
    by_cases hi : i < st.os.length
    · rw [List.getElem?_append_left hi] at ho; exact .inl ho
    · rw [List.getElem?_append_right (by omega)] at ho
      have : i - st.os.length = 0 := by have := (List.getElem?_eq_some_iff.1 ho).1; simp at this; omega
      rw [this] at ho
      simp at ho
      exact .inr ⟨by omega, ho.symm⟩
  refine ⟨hs.dom, hs.defers, hs.size, hs.slots, fun i o ho hn => ?_, hs.inj, fun k i hk => ?_, ⟨hs.wf.live, hs.wf.fr, fun i o ho s hsm t htm => ?_⟩⟩
  · rcases old i o ho with h | ⟨rfl, rfl⟩
    · exact hs.objs i o h hn
    · refine .inr ⟨rfl, fun b hb => ?_⟩
      obtain ⟨o, ho, _⟩ := hs.ids b _ hb
      have := (List.getElem?_eq_some_iff.1 ho).1
      omega
  · obtain ⟨o, ho, hne⟩ := hs.ids k i hk
    exact ⟨o, by rw [List.getElem?_append_left (List.getElem?_eq_some_iff.1 ho).1]; exact ho, hne⟩
  · rcases old i o ho with h | ⟨rfl, rfl⟩
    · exact hs.wf.os i o h s hsm t htm
    · cases hsm

/-- An object's block takes a role that is no object's. -/
structure DropG (g : Ghost) (w : World) (id : Nat) (g' : Ghost) : Prop where
  dom : Dom g' w
  row : ∀ k n o, g k = .row n o → g' k = .row n o
  uni : ∀ k t, g k = .uni t → g' k = .uni t
  obj : ∀ k i, i ≠ id → g k = .obj i → g' k = .obj i
  back : ∀ k i, g' k = .obj i → g k = .obj i ∧ i ≠ id

theorem dropG_block (hs : SR N T g w st a) {id b : Nat} {r : Role} (hb : g b = .obj id) (hr : ∀ i, r ≠ .obj i) : DropG g w id (g.at b r) := by
  have key : ∀ k, k ≠ b → g.at b r k = g k := fun k hk => Ghost.at_ne g _ hk
  refine ⟨fun k hk => ?_, fun k n o hk => ?_, fun k t hk => ?_, fun k i hi hk => ?_, fun k i hk => ?_⟩
  · have hne : k ≠ b := by rintro rfl; rw [hs.dom k hk] at hb; cases hb
    rw [key k hne]; exact hs.dom k hk
  · rw [key k (by rintro rfl; rw [hb] at hk; cases hk)]; exact hk
  · rw [key k (by rintro rfl; rw [hb] at hk; cases hk)]; exact hk
  · rw [key k (by rintro rfl; rw [hb] at hk; cases hk; exact hi rfl)]; exact hk
  · by_cases he : k = b
    · subst he; rw [Ghost.at_same] at hk; exact (hr i hk).elim
    · rw [key k he] at hk
      exact ⟨hk, by rintro rfl; exact he (hs.inj k b i hk hb)⟩

theorem dropG_none (hs : SR N T g w st a) {id : Nat} (hb : ∀ b, g b ≠ .obj id) : DropG g w id g :=
  ⟨hs.dom, fun _ _ _ h => h, fun _ _ h => h, fun _ _ _ h => h, fun k i hk => ⟨hk, by rintro rfl; exact hb k hk⟩⟩

theorem DropG.rowsKept {id : Nat} (hD : DropG g w id g') : RowsKept g w g' w := fun b n o h => ⟨n, o, hD.row b n o h, Nat.le_refl _, fun _ _ _ h => h⟩

theorem DropG.rv {id : Nat} (hD : DropG g w id g') {v : Value} {d : D} (h : RV g w v d) (hk : d.okW (neId id) = true) : RV g' w v d :=
  h.okW hD.rowsKept (fun b i hi hb => ⟨hD.obj b i (by rintro rfl; simp [neId] at hi) hb, Nat.le_refl _⟩) hk

theorem DropG.rc {id : Nat} (hD : DropG g w id g') {live : List Nat} {v : Value} {s : ASlot} (h : RC g w live v s) (hk : s.okS (neId id) = true) : RC g' w live v s := by
  have slok : ∀ {es : Nat} {rows : List (List D)}, D.okWR (neId id) rows = true → (D.sl es rows).okW (neId id) = true := fun h => by simpa only [D.okW] using h
  cases s with
  | d x => exact hD.rv h hk
  | own t es rows =>
    refine ⟨hD.rv h.1 (slok hk), fun hl => ?_⟩
    rcases h.2 hl with hf | ⟨c, cap, cur, e, h1, h2, h3⟩
    · exact .inl hf
    · exact .inr ⟨c, cap, cur, e, h1, hD.row _ _ _ h2, h3⟩
  | uni t es rows =>
    refine ⟨h.1, fun hl => ?_⟩
    rcases h.2 hl with hf | ⟨c, cap, cur, e, h1, h2, h3, h4, h5, h6, h7, h8⟩
    · exact .inl hf
    · refine .inr ⟨c, cap, cur, e, h1, hD.uni _ _ h2, h3, h4, h5, h6, h7, fun j d hj => ?_⟩
      obtain ⟨c1, u, c2, c3⟩ := h8 j d hj
      exact ⟨c1, u, c2, hD.rv c3 ((D.okWR_iff _ rows).1 hk d (List.mem_of_getElem? hj))⟩
  | full es rows => exact ⟨hD.rv h.1 (slok hk), h.2⟩
  | rd cells =>
    obtain ⟨c, off, n, o, f, rfl, hg, hn, hc⟩ := h
    refine ⟨c, off, n, o, f, rfl, hD.row _ _ _ hg, hn, fun j d hj => ?_⟩
    obtain ⟨c1, c2, c3⟩ := hc j d hj
    exact ⟨c1, c2, hD.rv c3 ((D.okWL_iff _ cells).1 hk d (List.mem_of_getElem? hj))⟩
  | tup l => exact h.elim
  | bad => trivial

/-- The map of a change of view. -/
structure MapOk (g : Ghost) (w : World) (live : List Nat) (g' : Ghost) (f : ASlot → ASlot) : Prop where
  rc : ∀ {v : Value} {s : ASlot}, RC g w live v s → RC g' w live v (f s)
  tup : ∀ l, f (.tup l) = .tup l ∨ f (.tup l) = .bad
  id : ∀ l, f (.tup l) = .tup l → ∀ s ∈ l, ∀ v, RC g w live v s → RC g' w live v s
  toks : ∀ s, ∀ t ∈ (f s).toks, t ∈ s.toks

theorem map_set_get {f : AObj → AObj} {os : List AObj} {id i : Nat} {o : AObj} (h : ((os.map f).set id .none)[i]? = some o) : (i = id ∧ o = .none) ∨ (i ≠ id ∧ ∃ o', os[i]? = some o' ∧ o = f o') := by
  by_cases hi : id = i
  · subst hi
    by_cases hlt : id < os.length
    · rw [List.getElem?_set_self (by simpa using hlt)] at h; cases h; exact .inl ⟨rfl, rfl⟩
    · rw [List.getElem?_eq_none (by simp; omega)] at h; cases h
  · rw [List.getElem?_set_ne hi, List.getElem?_map, Option.map_eq_some_iff] at h
    obtain ⟨o', h1, h2⟩ := h
    exact .inr ⟨fun h => hi h.symm, o', h1, h2.symm⟩

theorem SR.dropMap (hs : SR N T g w st a) {id : Nat} (hD : DropG g w id g') {f : ASlot → ASlot} (hf : MapOk g w st.live g' f) :
    SR N T g' w { fr := Fr.mapS f st.fr, os := (st.os.map (AObj.mapS f)).set id .none, live := st.live, nt := st.nt } a := by
  refine ⟨hD.dom, hs.defers, hs.size, fun k v s hk => ?_, fun i o ho hn => ?_, fun k k' i hk hk' => hs.inj k k' i (hD.back k i hk).1 (hD.back k' i hk').1, fun k i hk => ?_, ⟨hs.wf.live, fun k s hk t ht => ?_, fun i o ho s hsm t ht => ?_⟩⟩
  · simp only [mapS_get, Option.map_eq_some_iff] at hk
    obtain ⟨⟨v', s'⟩, h1, h2⟩ := hk
    simp only [Prod.mk.injEq] at h2
    obtain ⟨rfl, rfl⟩ := h2
    obtain ⟨q1, q2⟩ := hs.slots k v' s' h1
    exact ⟨fun hv => rs_map hf.rc hf.tup hf.id (q1 hv), q2⟩
  · rcases map_set_get ho with ⟨rfl, rfl⟩ | ⟨hi, o', h1, rfl⟩
    · exact (hn rfl).elim
    · cases o' with
      | none => exact (hn rfl).elim
      | row cs =>
        rcases hs.objs i _ h1 (by simp) with ⟨c, hc, cc, e, q1, q2, q3⟩ | ⟨hv, hno⟩
        case inr =>
          have : cs = [] := by simpa using hv
          subst this
          exact .inr ⟨rfl, fun k hk => hno k (hD.back k i hk).1⟩
        refine .inl ⟨c, hD.obj c i hi hc, cc, e, q1, by rw [List.length_map]; exact q2, fun j s hj => ?_⟩
        rw [List.getElem?_map, Option.map_eq_some_iff] at hj
        obtain ⟨s0, h0, rfl⟩ := hj
        obtain ⟨v, v1, v2, v3⟩ := q3 j s0 h0
        exact ⟨v, v1, v2, hf.rc v3⟩
  · obtain ⟨h1, h2⟩ := hD.back k i hk
    obtain ⟨o, ho, hne⟩ := hs.ids k i h1
    refine ⟨AObj.mapS f o, ?_, ?_⟩
    · rw [List.getElem?_set_ne (fun h => h2 h.symm), List.getElem?_map, ho]; rfl
    · cases o with
      | none => exact (hne rfl).elim
      | row cs => simp [AObj.mapS]
  · simp only [mapS_get, Option.map_eq_some_iff] at hk
    obtain ⟨⟨v', s'⟩, h1, h2⟩ := hk
    simp only [Prod.mk.injEq] at h2
    obtain ⟨rfl, rfl⟩ := h2
    exact hs.wf.fr k s' h1 t (hf.toks s' t ht)
  · rcases map_set_get ho with ⟨rfl, rfl⟩ | ⟨hi, o', h1, rfl⟩
    · cases hsm
    · cases o' with
      | none => cases hsm
      | row cs =>
        simp only [AObj.mapS, AObj.cells, List.mem_map] at hsm
        obtain ⟨s0, h0, rfl⟩ := hsm
        exact hs.wf.os i _ h1 s0 h0 t (hf.toks s0 t ht)

theorem only_toks (keep : Nat → Bool) (s : ASlot) : ∀ t ∈ (s.only keep).toks, t ∈ s.toks := by
  intro t ht
  unfold ASlot.only at ht
  split at ht
  · exact ht
  · cases ht

theorem only_map {id : Nat} (hD : DropG g w id g') (live : List Nat) : MapOk g w live g' (ASlot.only (neId id)) := by
  refine ⟨fun {v s} h => ?_, fun l => ?_, fun l hl s hs v h => ?_, only_toks _⟩
  · unfold ASlot.only
    split
    · rename_i hk; exact hD.rc h hk
    · trivial
  · unfold ASlot.only; split
    · exact .inl rfl
    · exact .inr rfl
  · unfold ASlot.only at hl
    split at hl
    · rename_i hk
      simp only [ASlot.okS, List.all_eq_true] at hk
      have := hk s hs
      refine hD.rc h ?_
      cases s with
      | tup l' => exact h.elim
      | bad => rfl
      | _ => exact this
    · cases hl

theorem frz_rv {id es : Nat} {rows : List (List D)} (hD : DropG g w id g') (hsl : ∀ v, RV g w v (.ref id 0 es rows.length) → RV g' w v (.sl es rows)) {v : Value} {d : D} (h : RV g w v d) (hk : (d.frz id es rows).okW (neId id) = true) :
    RV g' w v (d.frz id es rows) := by
  cases d with
  | ref i off e n =>
    simp only [D.frz] at hk ⊢
    split
    · rename_i hc
      obtain ⟨rfl, rfl, rfl, rfl⟩ := hc
      exact hsl v h
    · rename_i hc
      rw [if_neg hc] at hk
      exact hD.rv h hk
  | _ => exact hD.rv h hk

theorem frz_isCell {id es : Nat} {rows : List (List D)} (d : D) : (d.frz id es rows).isCell = d.isCell := by
  cases d <;> first | rfl | (simp only [D.frz]; split <;> rfl)

theorem frz_map {id es : Nat} {rows : List (List D)} (hD : DropG g w id g') (hsl : ∀ v, RV g w v (.ref id 0 es rows.length) → RV g' w v (.sl es rows)) (live : List Nat) : MapOk g w live g' (fun s => (s.frz id es rows).only (neId id)) := by
  have ho := only_map hD live
  refine ⟨fun {v s} h => ?_, fun l => ho.tup l, fun l hl => ho.id l hl, fun s t ht => ?_⟩
  · unfold ASlot.only
    split
    · rename_i hk
      cases s with
      | d x =>
        cases x with
        | agg cs =>
          simp only [ASlot.frz, ASlot.okS, D.okW, D.okWL_iff] at hk
          obtain ⟨vs, rfl, h1, h2, h3⟩ := rv_agg (show RV g w v (.agg cs) from h)
          refine RV.agg vs (cs.map (D.frz id es rows)) (by simpa using h1) (fun d hd => ?_) (fun j v d hv hd => ?_)
          · obtain ⟨d0, h0, rfl⟩ := List.mem_map.1 hd
            rw [frz_isCell]; exact h2 d0 h0
          · rw [List.getElem?_map, Option.map_eq_some_iff] at hd
            obtain ⟨d0, h0, rfl⟩ := hd
            exact frz_rv hD hsl (h3 j v d0 hv h0) (hk _ (List.mem_map.2 ⟨d0, List.mem_of_getElem? h0, rfl⟩))
        | _ => exact frz_rv hD hsl h hk
      | _ => exact hD.rc h hk
    · trivial
  · have := only_toks _ _ t ht
    cases s with
    | d x => cases x <;> simp [ASlot.frz, ASlot.toks] at this
    | _ => exact this

/-- One more token. -/
theorem SR.more (hs : SR N T g w st a) {t : Nat} (hT : ∀ u, T u → u ≠ t) (hTT : ∀ u, T u → T' u) (ht : T' t) (n : Nat) : SR N T' g w { st with live := st.live ++ [t], nt := n } a := by
  have rc : ∀ {v : Value} {s : ASlot}, RC g w st.live v s → (∀ u ∈ s.toks, T u) → RC g w (st.live ++ [t]) v s := by
    intro v s h hT'
    cases s with
    | own t' es rows =>
      refine ⟨h.1, fun hl => h.2 ?_⟩
      rcases List.mem_append.1 hl with h1 | h1
      · exact h1
      · simp at h1; exact (hT t' (hT' t' (by simp [ASlot.toks])) h1).elim
    | uni t' es rows =>
      refine ⟨h.1, fun hl => h.2 ?_⟩
      rcases List.mem_append.1 hl with h1 | h1
      · exact h1
      · simp at h1; exact (hT t' (hT' t' (by simp [ASlot.toks])) h1).elim
    | _ => exact h
  refine ⟨hs.dom, hs.defers, hs.size, fun k v s hk => ?_, fun i o ho hn => ?_, hs.inj, hs.ids, ⟨fun u hu => ?_, fun k s hk u hu => hTT u (hs.wf.fr k s hk u hu), fun i o ho s hsm u hu => hTT u (hs.wf.os i o ho s hsm u hu)⟩⟩
  · obtain ⟨h1, h2⟩ := hs.slots k v s hk
    refine ⟨fun hv => ?_, h2⟩
    have hw : ∀ u ∈ s.toks, T u := by subst hv; exact hs.wf.fr k s hk
    have hr := h1 hv
    by_cases ht : ∃ l, s = .tup l
    · obtain ⟨l, rfl⟩ := ht
      obtain ⟨vs, q1, q2, q3⟩ := hr
      refine ⟨vs, q1, q2, fun i u s' hu hs' => ?_⟩
      have hrc := q3 i u s' hu hs'
      refine rc hrc (fun x hx => hw x ?_)
      simp only [ASlot.toks, List.mem_flatMap]
      refine ⟨s', List.mem_of_getElem? hs', ?_⟩
      cases s' with
      | tup l' => exact hrc.elim
      | _ => exact hx
    · exact rs_of_rc (rc (rc_of_rs hr (fun l hl => ht ⟨l, hl⟩)) hw)
  · rcases hs.objs i o ho hn with ⟨b, hb, hr⟩ | hv
    case inr => exact .inr hv
    refine .inl ⟨b, hb, ?_⟩
    cases o with
    | none => exact hr.elim
    | row cs =>
      obtain ⟨c, e, q1, q2, q3⟩ := hr
      exact ⟨c, e, q1, q2, fun j s hj => by
        obtain ⟨v, v1, v2, v3⟩ := q3 j s hj
        exact ⟨v, v1, v2, rc v3 (hs.wf.os i _ ho s (List.mem_of_getElem? hj))⟩⟩
  · rcases List.mem_append.1 hu with h | h
    · exact hTT u (hs.wf.live u h)
    · simp at h; subst h; exact ht

theorem setPos_live (st : St) (s : ASlot) (p : Pos) : (st.setPos s p).live = st.live ∧ (st.setPos s p).nt = st.nt := by cases p <;> exact ⟨rfl, rfl⟩

theorem objCells_app {os : List AObj} {o : AObj} {id : Nat} (h : id < os.length) : objCells (os ++ [o]) id = objCells os id := by
  unfold objCells; rw [List.getElem?_append_left h]

theorem objCells_lt {os : List AObj} {id i : Nat} (h : i < (objCells os id).length) : id < os.length := by
  by_cases hlt : id < os.length
  · exact hlt
  · unfold objCells at h; rw [List.getElem?_eq_none (by omega)] at h; simp at h

theorem turn_u2o (hs : SR N T g w st a) (hG : G g0 w0 g w) (h0 : ∀ b id, g0 b = .obj id → id < k0) {p : Pos} {t es : Nat} {rows : List (List D)} (hp : st.slotAt p = .uni t es rows) (ht : t ∈ st.live) :
    ∃ g', SR N T g' w (st.u2o p t es rows) a ∧ G g0 w0 g' w := by
  obtain ⟨v, hat, hrc, hpos⟩ := slotAt_value hs hp (by simp) (by simp)
  rcases hrc.2 ht with ⟨ad, rfl, rfl⟩ | ⟨b, cap, cur, e, rfl, h2, h3, h4, h5, h6, h7, h8⟩
  · have h1 := setPos_sr (s' := .d (.ref st.os.length 0 es 0)) hs hat hpos (RV.refnil ad _ 0 es) (by simp [ASlot.toks])
    have h2 := h1.addVoid.less t
    refine ⟨g, ?_, hG⟩
    have hl := (setPos_live st (.d (.ref st.os.length 0 es 0)) p).1
    simp only [hl] at h2
    exact h2
  · have hfl : rows.flatten.length = rows.length * es := flat_length h7
    have hcs : (rows.flatten.map ASlot.d).length ≤ cur.size := by
      rw [List.length_map, hfl]
      have := Nat.mul_le_mul_right es h4
      omega
    have h1 := hs.addObj (cs := rows.flatten.map .d) h2 h3 hcs (fun i s hi => by
      simp only [List.getElem?_map, Option.map_eq_some_iff] at hi
      obtain ⟨d, hd, rfl⟩ := hi
      obtain ⟨c1, u, c2, c3⟩ := h8 i d hd
      exact ⟨u, c2, c3.oneCell c1, c3⟩) (fun s hsm => by obtain ⟨d, _, rfl⟩ := List.mem_map.1 hsm; rfl)
    have hrv : RV (g.at b (.obj st.os.length)) w (.slice (some ⟨b, 0, none⟩) rows.length cap) (.ref st.os.length 0 es rows.length) :=
      .ref b 0 _ es _ cap (Ghost.at_same _ _ _) h4 h5 (by rw [bsize_cells h3]; omega)
    refine ⟨g.at b (.obj st.os.length), ?_, hG.role h0 (.inl ⟨t, h2⟩)⟩
    cases p with
    | fr k => exact setPos_sr (p := .fr k) (s' := .d (.ref st.os.length 0 es rows.length)) h1 hat trivial hrv (by simp [ASlot.toks])
    | cell id i =>
      have hpos : i < (objCells st.os id).length := hpos
      have hlt := objCells_lt hpos
      obtain ⟨b', c', e', q1, q2⟩ := hat
      have hat' : At (g.at b (.obj st.os.length)) w a (.cell id i) (.slice (some ⟨b, 0, none⟩) rows.length cap) :=
        ⟨b', c', e', by rw [Ghost.at_ne g _ (by rintro rfl; rw [h2] at q1; cases q1)]; exact q1, q2⟩
      have h9 := setPos_sr (p := .cell id i) (s' := .d (.ref st.os.length 0 es rows.length)) h1 hat' (by show i < (objCells (st.os ++ [_]) id).length; rw [objCells_app hlt]; exact hpos) hrv (by simp [ASlot.toks])
      simp only [St.setPos, objCells_app hlt, List.set_append_left _ _ hlt] at h9
      exact h9

theorem turn_u2own (hs : SR N (below st.nt) g w st a) (hG : G g0 w0 g w) (h0 : ∀ b id, g0 b = .obj id → id < k0) {p : Pos} {t es : Nat} {rows : List (List D)} (hp : st.slotAt p = .uni t es rows) (ht : t ∈ st.live) :
    ∃ g', SR N (below (st.nt + 1)) g' w (st.u2own p t es rows) a ∧ G g0 w0 g' w := by
  obtain ⟨v, hat, hrc, hpos⟩ := slotAt_value hs hp (by simp) (by simp)
  have fr1 : ∀ u, below st.nt u → u ≠ 16 * st.nt := fun u hu => by unfold below at hu; omega
  have fr2 : ∀ u, below st.nt u → below (st.nt + 1) u := fun u hu => by unfold below at hu ⊢; omega
  have fr3 : below (st.nt + 1) (16 * st.nt) := by unfold below; omega
  have fin : ∀ {g1 : Ghost}, SR N (below st.nt) g1 w { st with live := st.live.filter fun u => !(u == t) } a → At g1 w a p v → RC g1 w ((st.live.filter fun u => !(u == t)) ++ [16 * st.nt]) v (.own (16 * st.nt) es rows) →
      SR N (below (st.nt + 1)) g1 w (st.u2own p t es rows) a := by
    intro g1 h1 h2 h3
    have h4 := h1.more fr1 fr2 fr3 (st.nt + 1)
    have h5 := setPos_sr (s' := .own (16 * st.nt) es rows) h4 h2 (by cases p <;> exact hpos) h3 (by simp [ASlot.toks]; exact fr3)
    cases p <;> exact h5
  rcases hrc.2 ht with ⟨ad, rfl, rfl⟩ | ⟨b, cap, cur, e, rfl, h2, h3, h4, h5, h6, h7, h8⟩
  · exact ⟨g, fin (hs.less t) hat ⟨.nilsl ad 0 es (fun _ => rfl), fun _ => .inl ⟨ad, rfl⟩⟩, hG⟩
  · have hfl : rows.flatten.length = rows.length * es := flat_length h7
    have h1 := hs.uniRole (r := .row (rows.length * es) (some (16 * st.nt))) h2 (by simp)
    have hob : ∀ k i, g k = .obj i → g.at b (.row (rows.length * es) (some (16 * st.nt))) k = .obj i ∧ bsize w k ≤ bsize w k := fun k i hk => ⟨by rw [Ghost.at_ne g _ (by rintro rfl; rw [h2] at hk; cases hk)]; exact hk, Nat.le_refl _⟩
    have hrk : RowsKept g w (g.at b (.row (rows.length * es) (some (16 * st.nt)))) w := fun k n o hk => ⟨n, o, by rw [Ghost.at_ne g _ (by rintro rfl; rw [h2] at hk; cases hk)]; exact hk, Nat.le_refl _, fun _ _ _ h => h⟩
    refine ⟨_, fin h1 ?_ ⟨?_, fun _ => .inr ⟨b, cap, cur, e, rfl, Ghost.at_same _ _ _, h3, h4, h5, h6⟩⟩, hG.role h0 (.inl ⟨t, h2⟩)⟩
    · cases p with
      | fr k => exact hat
      | cell id i =>
        obtain ⟨b', c', e', q1, q2⟩ := hat
        exact ⟨b', c', e', (hob b' id q1).1, q2⟩
    · refine rv_newRow (vs := (List.range rows.flatten.length).map fun j => cur.getD j undef) h3 (Ghost.at_same _ _ _) (Nat.le_of_eq hfl) h7 h4 ⟨by simp, fun d hd => ?_, fun j v d hv hd => ?_⟩ (fun j u hj => ?_)
      · obtain ⟨j, hj⟩ := List.getElem?_of_mem hd
        exact (h8 j d hj).1
      · obtain ⟨_, u, c2, c3⟩ := h8 j d hd
        have hlt : j < rows.flatten.length := (List.getElem?_eq_some_iff.1 hd).1
        rw [List.getElem?_map, List.getElem?_range hlt] at hv
        simp only [Option.map_some, Option.some.injEq] at hv
        have : cur.getD j undef = u := by simp [Array.getD_eq_getD_getElem?, c2]
        rw [← hv, this]
        exact c3.mono hrk hob
      · have hlt : j < rows.flatten.length := by have := (List.getElem?_eq_some_iff.1 hj).1; simpa using this
        obtain ⟨_, u', c2, _⟩ := h8 j _ (List.getElem?_eq_getElem hlt)
        rw [List.getElem?_map, List.getElem?_range hlt] at hj
        simp only [Option.map_some, Option.some.injEq] at hj
        have : cur.getD j undef = u' := by simp [Array.getD_eq_getD_getElem?, c2]
        rw [← hj, this]
        exact c2

theorem turn_frz (hs : SR N T g w st a) (hG : G g0 w0 g w) (h0 : ∀ b id, g0 b = .obj id → id < k0) {id es : Nat} {rows : List (List D)} (hc : (objCells st.os id).map ASlot.cellD = rows.flatten) (hcc : (objCells st.os id).all ASlot.isCellD = true)
    (hes : ∀ r ∈ rows, r.length = es) (hok : D.okWR (neId id) rows = true) (hk : k0 ≤ id) : ∃ g', SR N T g' w (st.frz id es rows) a ∧ G g0 w0 g' w := by
  have hlen : (objCells st.os id).length = rows.flatten.length := by rw [← hc, List.length_map]
  by_cases hb : ∃ b, g b = .obj id
  · obtain ⟨b, hb⟩ := hb
    have hD := dropG_block (r := .row rows.flatten.length none) hs hb (by simp)
    refine ⟨_, hs.dropMap hD (frz_map hD (fun v h => ?_) st.live), hG.role h0 (.inr ⟨id, hb, hk⟩)⟩
    generalize hy : D.ref id 0 es rows.length = y at h
    cases h with
    | ref b' off' id' es' len cap hg hcap hm hsz =>
      cases hy
      have : b' = b := hs.inj b' b id hg hb
      subst this
      by_cases h00 : rows.flatten = []
      · exact .sl b' 0 cap es _ none rows (fun _ => undef) (Ghost.at_same _ _ _) (by omega) hcap hes (by simp [h00]) (by simp [h00]) (by simp [h00])
      · have hpos : 0 < rows.flatten.length := by
          cases hq : rows.flatten with
          | nil => exact (h00 hq).elim
          | cons _ _ => simp
        obtain ⟨c, e, q1, q2, q3⟩ := ro_obj hs hb (by omega)
        have cell : ∀ (j : Nat) (d : D), rows.flatten[j]? = some d → ∃ u, c[j]? = some u ∧ RV g w u d ∧ d.isCell = true := by
          intro j d hj
          rw [← hc, List.getElem?_map, Option.map_eq_some_iff] at hj
          obtain ⟨s, h1, rfl⟩ := hj
          obtain ⟨u, u1, _, u3⟩ := q3 j s h1
          obtain ⟨v1, v2⟩ := cellD_rv (st := st) u3 (List.all_eq_true.1 hcc s (List.mem_of_getElem? h1))
          exact ⟨u, u1, v1, v2⟩
        refine .sl b' 0 cap es _ none rows (fun j => c.getD j undef) (Ghost.at_same _ _ _) (by omega) hcap hes (fun d hd => ?_) (fun j d hj => ?_) (fun j d hj => ?_)
        · obtain ⟨j, hj⟩ := List.getElem?_of_mem hd
          obtain ⟨_, _, _, h⟩ := cell j d hj
          exact h
        · obtain ⟨u, u1, _⟩ := cell j d hj
          rw [Nat.zero_add]
          simp [World.cell?, q1, u1]
        · obtain ⟨u, u1, u2, _⟩ := cell j d hj
          have : c.getD j undef = u := by simp [Array.getD_eq_getD_getElem?, u1]
          rw [this]
          exact hD.rv u2 ((D.okWR_iff _ rows).1 hok d (List.mem_of_getElem? hj))
    | refnil ad id' off' es' =>
      simp only [D.ref.injEq] at hy
      have hr0 : rows = [] := List.eq_nil_of_length_eq_zero hy.2.2.2
      rw [hr0]
      exact .nilsl ad 0 _ (fun _ => rfl)
    | _ => cases hy
  · have hb' : ∀ b, g b ≠ .obj id := fun b h => hb ⟨b, h⟩
    have hD := dropG_none hs hb'
    refine ⟨g, hs.dropMap hD (frz_map hD (fun v h => ?_) st.live), hG⟩
    generalize hy : D.ref id 0 es rows.length = y at h
    cases h with
    | ref b' off' id' es' len cap hg hcap hm hsz => cases hy; exact (hb' b' hg).elim
    | refnil ad id' off' es' =>
      simp only [D.ref.injEq] at hy
      have hr0 : rows = [] := List.eq_nil_of_length_eq_zero hy.2.2.2
      rw [hr0]
      exact .nilsl ad 0 _ (fun _ => rfl)
    | _ => cases hy

theorem objCells_map_set {f : ASlot → ASlot} {os : List AObj} {id i : Nat} (h : i ≠ id) : objCells ((os.map (AObj.mapS f)).set id .none) i = (objCells os i).map f := by
  unfold objCells
  rw [List.getElem?_set_ne (fun h' => h h'.symm), List.getElem?_map]
  cases os[i]? with
  | none => rfl
  | some o => cases o <;> rfl

theorem turn_o2u (hs : SR N (below st.nt) g w st a) (hG : G g0 w0 g w) (h0 : ∀ b id, g0 b = .obj id → id < k0) {p : Pos} {id es : Nat} {rows : List (List D)} (hp : st.slotAt p = .d (.ref id 0 es rows.length))
    (hc : objCells st.os id = rows.flatten.map .d) (hes : ∀ r ∈ rows, r.length = es) (hcl : ∀ d ∈ rows.flatten, d.isCell = true) (hok : D.okWR (neId id) rows = true) (hk : k0 ≤ id) (hn : p.notIn id) :
    ∃ g', SR N (below (st.nt + 1)) g' w (st.o2u p id es rows) a ∧ G g0 w0 g' w := by
  obtain ⟨v, hat, hrc, hpos⟩ := slotAt_value hs hp (by simp) (by simp)
  have fr1 : ∀ u, below st.nt u → u ≠ 16 * st.nt := fun u hu => by unfold below at hu; omega
  have fr2 : ∀ u, below st.nt u → below (st.nt + 1) u := fun u hu => by unfold below at hu ⊢; omega
  have fr3 : below (st.nt + 1) (16 * st.nt) := by unfold below; omega
  have fin : ∀ {g1 : Ghost}, DropG g w id g1 → UniOk g1 w (16 * st.nt) es rows v → SR N (below (st.nt + 1)) g1 w (st.o2u p id es rows) a := by
    intro g1 hD h3
    have h1 := hs.dropMap hD (only_map hD st.live)
    have h4 := h1.more fr1 fr2 fr3 (st.nt + 1)
    have hhead : ∃ a c, v = .slice a rows.length c := by
      have hrc' : RV g w v (.ref id 0 es rows.length) := hrc
      generalize hy : D.ref id 0 es rows.length = y at hrc'
      cases hrc' <;> first | (simp only [D.ref.injEq] at hy; rw [hy.2.2.2]; exact ⟨_, _, rfl⟩) | cases hy
    have hat' : At g1 w a p v := by
      cases p with
      | fr k => exact hat
      | cell i j =>
        obtain ⟨b', c', e', q1, q2⟩ := hat
        exact ⟨b', c', e', hD.obj b' i hn q1, q2⟩
    refine setPos_sr (s' := .uni (16 * st.nt) es rows) h4 hat' ?_ ⟨hhead, fun _ => h3⟩ (by simp [ASlot.toks]; exact fr3)
    cases p with
    | fr k => trivial
    | cell i j =>
      have hpos : j < (objCells st.os i).length := hpos
      show j < (objCells ((st.os.map _).set id .none) i).length
      rw [objCells_map_set hn, List.length_map]
      exact hpos
  have hrv : RV g w v (.ref id 0 es rows.length) := hrc
  generalize hy : D.ref id 0 es rows.length = y at hrv
  cases hrv with
  | ref b off' id' es' len cap hg hcap hm hsz =>
    cases hy
    have hD := dropG_block (r := .uni (16 * st.nt)) hs hg (by simp)
    refine ⟨_, fin hD ?_, hG.role h0 (.inr ⟨id, hg, hk⟩)⟩
    · obtain ⟨c, e, q1, q2, q3⟩ := ro_block hs hg
      rw [bsize_cells q1] at hsz
      refine .inr ⟨b, cap, c, e, rfl, Ghost.at_same _ _ _, q1, hcap, hm, by omega, hes, fun j d hj => ?_⟩
      obtain ⟨u, u1, _, u3⟩ := q3 j (.d d) (by rw [hc, List.getElem?_map, hj]; rfl)
      exact ⟨hcl d (List.mem_of_getElem? hj), u, u1, hD.rv u3 ((D.okWR_iff _ rows).1 hok d (List.mem_of_getElem? hj))⟩
  | refnil ad id' off' es' =>
    simp only [D.ref.injEq] at hy
    have hr0 : rows = [] := List.eq_nil_of_length_eq_zero hy.2.2.2
    subst hr0
    by_cases hb : ∃ b, g b = .obj id
    · obtain ⟨b, hb⟩ := hb
      have hD := dropG_block (r := .uni (16 * st.nt)) hs hb (by simp)
      exact ⟨_, fin hD (.inl ⟨ad, rfl, rfl⟩), hG.role h0 (.inr ⟨id, hb, hk⟩)⟩
    · have hD := dropG_none hs (fun b h => hb ⟨b, h⟩)
      exact ⟨g, fin hD (.inl ⟨ad, rfl, rfl⟩), hG⟩
  | _ => cases hy

/-- SOUND: nothing has been run. -/
theorem Turn.sr (h : Turn k0 st st') (hs : SR N (Go.Abs.below st.nt) g w st a) (hG : G g0 w0 g w) (h0 : ∀ b id, g0 b = .obj id → id < k0) : ∃ g', SR N (Go.Abs.below st'.nt) g' w st' a ∧ G g0 w0 g' w := by
  induction h generalizing g with
  | refl st => exact ⟨g, hs, hG⟩
  | weak h _ ih =>
    obtain ⟨g1, h1, h2⟩ := h.sr hs hG h0
    exact ih h1 h2
  | u2o p t es rows hp ht _ ih =>
    obtain ⟨g1, h1, h2⟩ := turn_u2o hs hG h0 hp ht
    refine ih ?_ h2
    rename_i st1 _ _
    have : (st1.u2o p t es rows).nt = st1.nt := (setPos_live st1 _ p).2
    rw [this]
    exact h1
  | o2u p id es rows hp hc hes hcl hok hk hn _ ih =>
    obtain ⟨g1, h1, h2⟩ := turn_o2u hs hG h0 hp hc hes hcl hok hk hn
    refine ih ?_ h2
    rename_i st1 _ _
    have : (st1.o2u p id es rows).nt = st1.nt + 1 := (setPos_live _ _ p).2
    rw [this]
    exact h1
  | frz id es rows hc hcc hes hok hk _ ih =>
    obtain ⟨g1, h1, h2⟩ := turn_frz hs hG h0 hc hcc hes hok hk
    exact ih h1 h2
  | u2own p t es rows hp ht _ ih =>
    obtain ⟨g1, h1, h2⟩ := turn_u2own hs hG h0 hp ht
    exact ih h1 h2

theorem Turn.trans {st1 : St} (h : Turn k0 st st1) (h' : Turn k0 st1 st') : Turn k0 st st' := by
  induction h with
  | refl => exact h'
  | weak h _ ih => exact .weak h (ih h')
  | u2o p t es rows hp ht _ ih => exact .u2o p t es rows hp ht (ih h')
  | o2u p id es rows hp hc hes hcl hok hk hn _ ih => exact .o2u p id es rows hp hc hes hcl hok hk hn (ih h')
  | frz id es rows hc hcc hes hok hk _ ih => exact .frz id es rows hc hcc hes hok hk (ih h')
  | u2own p t es rows hp ht _ ih => exact .u2own p t es rows hp ht (ih h')

end
end Go.Abs
