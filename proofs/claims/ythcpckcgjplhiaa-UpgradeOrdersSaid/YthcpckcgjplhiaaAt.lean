/- The abstract layer, part 20: regions that draw their order, the end. -/
import Derived.Test.YthcpckcgjplhiaaAs
namespace Go.Abs

section
variable {P : Program} {mu : List Nat} {N tb : Nat} {T : Nat → Prop} {g : Ghost} {w : World} {st : St} {a : Act} {ops : Array Oper}

theorem rc_live {live live' : List Nat} (h : ∀ t, t ∈ live' ↔ t ∈ live) {v : Value} {s : ASlot} (hr : RC g w live v s) : RC g w live' v s := by
  cases s with
  | own t es rows => exact ⟨hr.1, fun ht => hr.2 ((h t).1 ht)⟩
  | uni t es rows => exact ⟨hr.1, fun ht => hr.2 ((h t).1 ht)⟩
  | _ => exact hr

theorem rs_live {live live' : List Nat} (h : ∀ t, t ∈ live' ↔ t ∈ live) {v : Value} {s : ASlot} (hr : RS g w live v s) : RS g w live' v s := by
  cases s with
  | tup l => obtain ⟨vs, h1, h2, h3⟩ := hr; exact ⟨vs, h1, h2, fun i u s hu hs => rc_live h (h3 i u s hu hs)⟩
  | _ => exact rs_of_rc (rc_live h (rc_of_rs hr (by simp)))

/-- States that read alike. -/
structure St.Like (st st' : St) : Prop where
  fr : ∀ k : Nat, st'.fr.get k = st.fr.get k
  os : ∀ id : Nat, st'.os[id]? = st.os[id]?
  live : ∀ t : Nat, t ∈ st'.live ↔ t ∈ st.live

theorem SR.like {st' : St} (hs : SR N T g w st a) (h : st.Like st') : SR N T g w st' a := by
  refine ⟨hs.dom, hs.defers, hs.size, fun k v s hk => ?_, fun id o ho hn => ?_, hs.inj, fun b id hb => ?_, ⟨fun t ht => hs.wf.live t ((h.live t).1 ht), fun k s hk => hs.wf.fr k s (by rw [← h.fr]; exact hk), fun id o ho => hs.wf.os id o (by rw [← h.os]; exact ho)⟩⟩
  · rw [h.fr] at hk
    obtain ⟨h1, h2⟩ := hs.slots k v s hk
    exact ⟨fun hv => rs_live h.live (h1 hv), h2⟩
  · rw [h.os] at ho
    rcases hs.objs id o ho hn with ⟨b, hb, hr⟩ | hv
    case inr => exact .inr hv
    refine .inl ⟨b, hb, ?_⟩
    cases o with
    | none => exact hr.elim
    | row cells =>
      obtain ⟨c, e, q1, q2, q3⟩ := hr
      exact ⟨c, e, q1, q2, fun i s hi => by obtain ⟨v, v1, v2, v3⟩ := q3 i s hi; exact ⟨v, v1, v2, rc_live h.live v3⟩⟩
  · obtain ⟨o, ho, hn⟩ := hs.ids b id hb
    exact ⟨o, by rw [h.os]; exact ho, hn⟩

theorem objsIn_same {κ : List Nat} {os os' : List AObj} : ∀ {ι : List Nat} {fo : List AObj}, objsIn κ os ι fo → (∀ id ∈ ι, os'[id]? = os[id]?) → objsIn κ os' ι fo
  | ι, [], _, _ => by cases ι <;> trivial
  | [], _ :: _, h, _ => h.elim
  | id :: ι, o :: fo, h, hs => by
    obtain ⟨⟨c, h1, h2⟩, h3⟩ := h
    exact ⟨⟨c, by rw [hs id List.mem_cons_self]; exact h1, h2⟩, objsIn_same h3 fun i hi => hs i (List.mem_cons_of_mem _ hi)⟩

theorem one_same {o : SOper} {gb : Bool} {out : Out} {st' : St} (h : AOne P tb o st gb out) (hf : ∀ n ∈ o.looks, st'.fr.get n = st.fr.get n) (hl : st'.os.length = st.os.length)
    (ho : ∀ id, id ∈ out.touch → st'.os[id]? = st.os[id]?) (hc : gb = true → ∀ t ∈ out.cons, t ∈ st'.live) : AOne P tb o st' gb out := by
  obtain ⟨h1, h2, h3⟩ := h
  have hopds : ∀ n, n ∈ o.op.opds.flatMap Opd.slot → st'.fr.get n = st.fr.get n := fun n hn => hf n (by unfold SOper.looks; exact List.mem_append_left _ hn)
  refine ⟨?_, h2, ?_⟩
  · cases hg : o.guard with
    | none => rw [hg] at h1; exact h1
    | some p =>
      obtain ⟨k, b⟩ := p
      rw [hg] at h1
      have := hf k (by unfold SOper.looks; rw [hg]; simp)
      simp only [gv, this] at h1 ⊢
      exact h1
  · cases hop : o.op with
    | call f args =>
      rw [hop] at h3 hopds
      obtain ⟨k, as, fa, r, fo, fo', ι, rfl, hfew, hok⟩ := h3
      have hx : ∀ x ∈ (SOp.call f args).opds, x.get st'.fr = x.get st.fr ∧ x.ok st'.fr = x.ok st.fr := fun x hx => opd_same fun n hn => hopds n (slot_of_opds hx hn)
      obtain ⟨f1, f2⟩ := hx f (by simp [SOp.opds])
      have ha : ∀ x ∈ args, x.get st'.fr = x.get st.fr ∧ x.ok st'.fr = x.ok st.fr := fun x hm => hx x (by simp only [SOp.opds, List.mem_cons]; exact .inr hm)
      have hm : (args.map fun x => x.get st'.fr) = args.map fun x => x.get st.fr := List.map_congr_left fun x h => (ha x h).1
      refine ⟨k, as, fa, r, fo, fo', ι, rfl, hfew, fun hg => ?_⟩
      have q := hok hg
      have hcal : callOf st'.fr f args = callOf st.fr f args := by unfold callOf; rw [f1, hm]
      have hto : ∀ id ∈ ι, st'.os[id]? = st.os[id]? := fun id hid => ho id (by
        simp only [Out.touch, Out.wrs, callOut, List.mem_append, List.mem_map]
        left
        obtain ⟨j, hj⟩ := List.mem_iff_getElem?.1 hid
        have hjl : j < fo'.length := by rw [← q.objs.len]; exact (List.getElem?_eq_some_iff.1 hj).1
        refine ⟨(id, (fo'.map (AObj.ren ι))[j]'(by simpa using hjl)), ?_, rfl⟩
        simp only [Option.toList]
        right
        refine List.mem_iff_getElem?.2 ⟨j, ?_⟩
        rw [List.getElem?_zip_eq_some]
        exact ⟨hj, List.getElem?_eq_getElem _⟩)
      refine ⟨by rw [hcal]; exact q.callee, by rw [f2]; exact q.ok, ?_, q.contract, q.body, ⟨q.fits.all, q.fits.inK, fun p hp => ?_, q.fits.nd1⟩, ⟨q.objs.nd, q.objs.len, q.objs.le, objsIn_same q.objs.olds hto, fun id hid => by rw [hto id (List.mem_of_mem_drop hid)]; exact q.objs.news id hid, q.objs.inK, q.objs.toks⟩, q.nodup, q.few⟩
      · rw [List.all_eq_true]
        intro x hxm
        rw [(ha x hxm).2]
        exact List.all_eq_true.1 q.oks x hxm
      · exact hc hg p.1 (by simp only [callOut, List.mem_map]; exact ⟨p, hp, rfl⟩)
    | eqnilS neg x => rw [hop] at h3; exact h3
    | _ =>
      rw [hop] at h3 hopds
      obtain ⟨rfl, hob⟩ := h3
      have hsame := sem_same (tb := tb) (st' := st') hopds hl ho
      simp only
      refine ⟨hsame.symm, fun hg => ⟨(hob hg).1, hc hg⟩⟩

/-! ### The order's graph -/

def direct (l : List Oper) (j : Nat) : List Nat := match l[j]? with | some o => (o.after.toList.filter (Region.binds .any)).map (·.on) | none => []

theorem preds_spec : ∀ (l : List Oper) (acc : List (List Nat)) (pre : List Oper), acc.length = pre.length →
    (∀ j, j < pre.length → acc.getD j [] = ((direct pre j).flatMap fun e => e :: (acc.take j).getD e []).eraseDups) →
    let r := l.foldl (init := acc) fun acc o => acc ++ [((o.after.toList.filter (Region.binds .any)).flatMap fun e => e.on :: acc.getD e.on []).eraseDups]
    r.length = (pre ++ l).length ∧ ∀ j, j < (pre ++ l).length → r.getD j [] = ((direct (pre ++ l) j).flatMap fun e => e :: (r.take j).getD e []).eraseDups
  | [], acc, pre, hl, h => by simpa [hl] using h
  | o :: l, acc, pre, hl, h => by
    have ih := preds_spec l (acc ++ [((o.after.toList.filter (Region.binds .any)).flatMap fun e => e.on :: acc.getD e.on []).eraseDups]) (pre ++ [o]) (by simp [hl]) (fun j hj => by
      by_cases hjl : j < pre.length
      · have h1 := h j hjl
        have h2 : (acc ++ [((o.after.toList.filter (Region.binds .any)).flatMap fun e => e.on :: acc.getD e.on []).eraseDups]).getD j [] = acc.getD j [] := by
          simp only [List.getD_eq_getElem?_getD]
          rw [List.getElem?_append_left (by omega)]
        have h3 : direct (pre ++ [o]) j = direct pre j := by
          unfold direct
          rw [List.getElem?_append_left hjl]
        have h4 : (acc ++ [((o.after.toList.filter (Region.binds .any)).flatMap fun e => e.on :: acc.getD e.on []).eraseDups]).take j = acc.take j := by
          rw [List.take_append_of_le_length (by omega)]
        rw [h2, h3, h4]
        exact h1
      · have hj' : j = pre.length := by simp at hj; omega
        subst hj'
        have h2 : (acc ++ [((o.after.toList.filter (Region.binds .any)).flatMap fun e => e.on :: acc.getD e.on []).eraseDups]).getD pre.length [] = ((o.after.toList.filter (Region.binds .any)).flatMap fun e => e.on :: acc.getD e.on []).eraseDups := by
          simp [List.getD_eq_getElem?_getD, ← hl]
        have h3 : direct (pre ++ [o]) pre.length = (o.after.toList.filter (Region.binds .any)).map (·.on) := by
          unfold direct
          simp
        have h4 : (acc ++ [((o.after.toList.filter (Region.binds .any)).flatMap fun e => e.on :: acc.getD e.on []).eraseDups]).take pre.length = acc := by
          rw [← hl, List.take_left']
          rfl
        rw [h2, h3, h4, List.flatMap_map])
    simpa [List.append_assoc] using ih

theorem preds_eq (l : List Oper) : (preds l).length = l.length ∧ ∀ j, j < l.length → (preds l).getD j [] = ((direct l j).flatMap fun e => e :: ((preds l).take j).getD e []).eraseDups := by
  have := preds_spec l [] [] rfl (by simp)
  simpa [preds] using this

/-- A set of operations that holds, with each, all that must run ahead of it. -/
def Closed (l : List Oper) (S : Nat → Bool) : Prop := ∀ j, j < l.length → S j = true → ∀ e ∈ direct l j, S e = true

theorem preds_in {l : List Oper} {S : Nat → Bool} (hb : ∀ j, j < l.length → ∀ e ∈ direct l j, e < j) (hc : Closed l S) :
    ∀ (n j : Nat), j < n → j < l.length → (∀ e ∈ direct l j, S e = true) → ∀ i ∈ (preds l).getD j [], S i = true
  | 0, j, h, _, _ => by omega
  | n + 1, j, hjn, hj, hd => by
    intro i hi
    rw [(preds_eq l).2 j hj, List.mem_eraseDups, List.mem_flatMap] at hi
    obtain ⟨e, he, hie⟩ := hi
    have hej := hb j hj e he
    rcases List.mem_cons.1 hie with rfl | hie
    · exact hd i he
    · have ht : ((preds l).take j).getD e [] = (preds l).getD e [] := by
        simp only [List.getD_eq_getElem?_getD]
        rw [List.getElem?_take_of_lt hej]
      rw [ht] at hie
      exact preds_in hb hc n e (by omega) (by omega) (hc e (by omega) (hd e he)) i hie

theorem edgesBack_spec {l : List Oper} (h : edgesBack l = true) : ∀ j, j < l.length → ∀ e ∈ direct l j, e < j := by
  intro j hj e he
  unfold edgesBack at h
  rw [List.all_eq_true] at h
  have hm : (l[j], j) ∈ l.zipIdx := by
    rw [List.mem_zipIdx_iff_getElem?]
    simp [hj]
  have := h _ hm
  unfold direct at he
  rw [List.getElem?_eq_getElem hj] at he
  simp only [List.mem_map] at he
  obtain ⟨x, hx, rfl⟩ := he
  exact of_decide_eq_true (List.all_eq_true.1 this x hx)

end
end Go.Abs
