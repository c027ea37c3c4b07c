/- The abstract layer, part 19: regions that draw their order: whatever order is drawn, the end is that of the text's order. -/
import Derived.Test.YthcpckcgjplhiaaAr
namespace Go.Abs

/-- A region's operations with what each comes to. -/
abbrev Done := SOper × Bool × Out

/-- The text's order, step by step. -/
def Chain (P : Program) : List Done → Nat → St → Prop
  | [], _, _ => True
  | (o, g, out) :: l, k, st => AOne P (16 * (st.nt + k)) o st g out ∧ Chain P l (k + 1) (st.next o g out)

/-- The state behind those operations that S names. -/
def ap (S : Nat → Bool) : List Done → Nat → St → St
  | [], _, st => st
  | (o, g, out) :: l, k, st => ap S l (k + 1) (if S k then st.next o g out else st)

theorem chain_of_arun {P : Program} : ∀ (sops : List SOper) (k : Nat) (tids : List (List Nat)) (K : List (List Nat) → St → Prop) (st : St), ARun P sops k tids K st → (sops.any fun o => o.op.isNilS) = false →
    ∃ l : List Done, l.map (·.1) = sops ∧ Chain P l k st ∧ K (tids ++ l.map fun d => d.2.2.touch) (ap (fun _ => true) l k st)
  | [], k, tids, K, st, h, _ => ⟨[], rfl, trivial, by simpa [ap, ARun] using h⟩
  | o :: sops, k, tids, K, st, h, hn => by
    simp only [List.any_cons, Bool.or_eq_false_iff] at hn
    simp only [ARun] at h
    cases hg : gv st.fr o.guard with
    | none => rw [hg] at h; exact h.elim
    | some gb =>
      rw [hg] at h
      have fin : ∀ (out : Out) (td : List Nat), AOne P (16 * (st.nt + k)) o st gb out → ARun P sops (k + 1) (tids ++ [td]) K (st.next o gb out) → out.touch = td →
          ∃ l : List Done, l.map (·.1) = o :: sops ∧ Chain P l k st ∧ K (tids ++ l.map fun d => d.2.2.touch) (ap (fun _ => true) l k st) := by
        intro out td h1 h2 h3
        obtain ⟨l, q1, q2, q3⟩ := chain_of_arun sops (k + 1) _ K _ h2 hn.2
        refine ⟨(o, gb, out) :: l, by simp [q1], ⟨h1, q2⟩, ?_⟩
        simp only [List.map_cons, h3, ap, if_true]
        simpa [List.append_assoc] using q3
      cases hop : o.op with
      | call f args =>
        rw [hop] at h
        obtain ⟨n, as, fa, r, fo, fo', ι, r1, r2, r3, r4⟩ := h
        exact fin _ _ ⟨hg, r3, by rw [hop]; exact ⟨n, as, fa, r, fo, fo', ι, rfl, r1, r2⟩⟩ r4 rfl
      | eqnilS neg x => rw [hop] at hn; simp [SOp.isNilS] at hn
      | _ =>
        rw [hop] at h
        exact fin _ _ ⟨hg, h.1.2, by rw [hop]; exact ⟨rfl, h.1.1⟩⟩ h.2 rfl

theorem ap_nt (S : Nat → Bool) : ∀ (l : List Done) (k : Nat) (st : St), (ap S l k st).nt = st.nt
  | [], _, _ => rfl
  | (o, g, out) :: l, k, st => by
    simp only [ap]
    rw [ap_nt S l]
    split <;> rfl

theorem withObj_os_length (st : St) (x : Option (Nat × AObj)) : (withObj st x).os.length = st.os.length := by
  unfold withObj; split <;> simp

theorem ap_os_length (S : Nat → Bool) : ∀ (l : List Done) (k : Nat) (st : St), (ap S l k st).os.length = st.os.length
  | [], _, _ => rfl
  | (o, g, out) :: l, k, st => by
    simp only [ap]
    rw [ap_os_length S l]
    split
    · exact setAll_length out.wrs st.os
    · rfl

theorem putFr_get (fr : Fr) (dst : Option Nat) (g : Bool) (v : ASlot) (k : Nat) : (putFr fr dst g v).get k = if dst = some k then some (g, v) else fr.get k := by
  cases dst with
  | none => simp [putFr]
  | some d =>
    simp only [putFr, Fr.get_cons, Option.some.injEq]

/-- A slot depends on the operations alone that write it. -/
theorem ap_get (S S' : Nat → Bool) (s : Nat) : ∀ (l : List Done) (k : Nat) (st st' : St), st.fr.get s = st'.fr.get s →
    (∀ (j : Nat) (d : Done), l[j]? = some d → d.1.dst = some s → S (k + j) = S' (k + j)) → (ap S l k st).fr.get s = (ap S' l k st').fr.get s
  | [], k, st, st', h, _ => h
  | (o, g, out) :: l, k, st, st', h, hw => by
    simp only [ap]
    refine ap_get S S' s l (k + 1) _ _ ?_ (fun j d hj hd => by have := hw (j + 1) d (by simpa using hj) hd; rw [show k + 1 + j = k + (j + 1) by omega]; exact this)
    by_cases hd : o.dst = some s
    · have := hw 0 (o, g, out) rfl hd
      rw [Nat.add_zero] at this
      rw [this]
      split
      · simp only [St.next, putFr_get, hd, if_true]
      · exact h
    · have : ∀ x : St, (x.next o g out).fr.get s = x.fr.get s := fun x => by simp only [St.next, putFr_get, if_neg hd]
      split <;> split <;> first | exact h | (simp only [this]; exact h)

/-- An object depends on the operations alone that write it. -/
theorem ap_obj (S S' : Nat → Bool) (id : Nat) : ∀ (l : List Done) (k : Nat) (st st' : St), st.os[id]? = st'.os[id]? → st.os.length = st'.os.length →
    (∀ (j : Nat) (d : Done), l[j]? = some d → id ∈ d.2.2.wrs.map (·.1) → S (k + j) = S' (k + j)) → (ap S l k st).os[id]? = (ap S' l k st').os[id]?
  | [], k, st, st', h, _, _ => h
  | (o, g, out) :: l, k, st, st', h, hl, hw => by
    simp only [ap]
    have hlen : ∀ x : St, (x.next o g out).os.length = x.os.length := fun x => setAll_length out.wrs x.os
    refine ap_obj S S' id l (k + 1) _ _ ?_ (by split <;> split <;> simp only [hlen, hl]) (fun j d hj hd => by have := hw (j + 1) d (by simpa using hj) hd; rw [show k + 1 + j = k + (j + 1) by omega]; exact this)
    have hg : ∀ x : St, (x.next o g out).os[id]? = (setAll x.os out.wrs)[id]? := fun x => rfl
    by_cases hd : id ∈ out.wrs.map (·.1)
    · have := hw 0 (o, g, out) rfl hd
      rw [Nat.add_zero] at this
      rw [this]
      split
      · rw [hg, hg]
        exact setAll_same _ _ _ _ hl (.inl hd)
      · exact h
    · have hne : ∀ x : St, (x.next o g out).os[id]? = x.os[id]? := fun x => by rw [hg, setAll_other _ _ _ hd]
      split <;> split <;> first | exact h | (simp only [hne]; exact h)

/-- Tokens: issued and not used up. -/
theorem ap_live (S : Nat → Bool) (t : Nat) : ∀ (l : List Done) (k : Nat) (st : St), (∀ (i j : Nat) (d e : Done), l[i]? = some d → l[j]? = some e → t ∈ d.2.2.iss → t ∈ e.2.2.cons → i < j) →
    (t ∈ (ap S l k st).live ↔ (t ∈ st.live ∨ ∃ (j : Nat) (d : Done), l[j]? = some d ∧ S (k + j) = true ∧ t ∈ d.2.2.iss) ∧ ¬ ∃ (j : Nat) (d : Done), l[j]? = some d ∧ S (k + j) = true ∧ t ∈ d.2.2.cons)
  | [], k, st, _ => by simp [ap]
  | (o, g, out) :: l, k, st, h => by
    have ih := ap_live S t l (k + 1) (if S k then st.next o g out else st) (fun i j d e hi hj h1 h2 => by have := h (i + 1) (j + 1) d e (by simpa using hi) (by simpa using hj) h1 h2; omega)
    simp only [ap]
    rw [ih]
    have shift : ∀ p : Done → Prop, (∃ (j : Nat) (d : Done), ((o, g, out) :: l)[j]? = some d ∧ S (k + j) = true ∧ p d) ↔ (S k = true ∧ p (o, g, out)) ∨ ∃ (j : Nat) (d : Done), l[j]? = some d ∧ S (k + 1 + j) = true ∧ p d := by
      intro p
      constructor
      · rintro ⟨j, d, hj, hs, hp⟩
        cases j with
        | zero => simp at hj; subst hj; exact .inl ⟨by simpa using hs, hp⟩
        | succ j => exact .inr ⟨j, d, by simpa using hj, by rw [show k + 1 + j = k + (j + 1) by omega]; exact hs, hp⟩
      · rintro (⟨hs, hp⟩ | ⟨j, d, hj, hs, hp⟩)
        · exact ⟨0, _, rfl, by simpa using hs, hp⟩
        · exact ⟨j + 1, d, by simpa using hj, by rw [show k + (j + 1) = k + 1 + j by omega]; exact hs, hp⟩
    rw [shift (fun d => t ∈ d.2.2.iss), shift (fun d => t ∈ d.2.2.cons)]
    by_cases hk : S k = true
    · simp only [hk, if_true, true_and]
      have hm : t ∈ (st.next o g out).live ↔ (t ∈ st.live ∧ t ∉ out.cons) ∨ t ∈ out.iss := mem_liveAfter
      rw [hm]
      by_cases hi : t ∈ out.iss
      · have hnc : t ∉ out.cons := fun hc => by have := h 0 0 _ _ rfl rfl hi hc; omega
        simp only [hi, hnc, not_false_eq_true, and_true, or_true, true_or, false_or]
      · by_cases hc : t ∈ out.cons
        · simp only [hi, hc, not_true_eq_false, and_false, or_false, false_or, true_or, not_true_eq_false, and_false, iff_false]
          rintro ⟨⟨j, d, hj, _, hji⟩, hno⟩
          have := h (j + 1) 0 d _ (by simpa using hj) rfl hji hc
          omega
        · simp only [hi, hc, not_false_eq_true, and_true, or_false, false_or]
    · simp only [hk, Bool.false_eq_true, if_false, false_and, false_or]


/-! ### An operation sees only what it looks at -/

theorem slot_of_opds {o : SOp} {x : Opd} {n : Nat} (hx : x ∈ o.opds) (hn : x = .t n) : n ∈ o.opds.flatMap Opd.slot :=
  List.mem_flatMap.2 ⟨x, hx, by subst hn; simp [Opd.slot]⟩

theorem opd_same {fr fr' : Fr} {x : Opd} (h : ∀ n, x = .t n → fr'.get n = fr.get n) : x.get fr' = x.get fr ∧ x.ok fr' = x.ok fr := by
  cases x with
  | t n => simp [Opd.get, Opd.ok, h n rfl]
  | k s => exact ⟨rfl, rfl⟩

theorem objCells_same {os os' : List AObj} {id : Nat} (h : os'[id]? = os[id]?) : objCells os' id = objCells os id := by simp [objCells, h]

theorem loadOut_same {n : Option Nat} {os os' : List AObj} {s : ASlot} (h : ∀ id, (loadOut n os s).rd = some id → os'[id]? = os[id]?) : loadOut n os' s = loadOut n os s := by
  cases s with
  | d p =>
    cases p with
    | ptr id off =>
      have hid : os'[id]? = os[id]? := h id (by cases n <;> rfl)
      cases n <;> simp only [loadOut, objCells_same hid]
    | _ => rfl
  | _ => rfl

theorem storeOut_same {n : Option Nat} {os os' : List AObj} {p v : ASlot} (h : ∀ id x, (storeOut n os p v).wr = some (id, x) → os'[id]? = os[id]?) : storeOut n os' p v = storeOut n os p v := by
  cases p with
  | d q =>
    cases q with
    | ptr id off =>
      cases n with
      | none =>
        have hid : os'[id]? = os[id]? := h id _ rfl
        simp only [storeOut, storeAt, objCells_same hid]
      | some k =>
        cases v with
        | d r =>
          cases r with
          | agg cs =>
            have hid : os'[id]? = os[id]? := h id _ rfl
            simp only [storeOut, storeAt, objCells_same hid]
          | _ => rfl
        | _ => rfl
    | _ => rfl
  | _ => rfl

theorem srcOf_notRef {es : Nat} {os os' : List AObj} {x : ASlot} (h : ∀ id off e n, x ≠ .d (.ref id off e n)) : srcOf es os' x = srcOf es os x := by
  cases x with
  | d y => cases y <;> first | rfl | exact (h _ _ _ _ rfl).elim
  | _ => rfl

theorem refSrc_same {es : Nat} {os os' : List AObj} {x : ASlot} (h : ∀ r id, refSrc es os x = some r → r.rd = some id → os'[id]? = os[id]?) : refSrc es os' x = refSrc es os x := by
  cases x with
  | d y =>
    cases y with
    | ref id off e n =>
      by_cases he : e = es
      · have hid : os'[id]? = os[id]? := h ⟨refRows os id off es n, some id, refOk os id off es n⟩ id (by simp only [refSrc, if_pos he]) rfl
        simp only [refSrc, if_pos he, refRows, refOk, objCells_same hid]
      · simp only [refSrc, if_neg he]
    | _ => rfl
  | _ => rfl

theorem appendOut_same {u : Bool} {es bytes tk : Nat} {os os' : List AObj} {s x : ASlot} (h : ∀ id, (appendOut u es bytes tk os s x).rd = some id → os'[id]? = os[id]?) : appendOut u es bytes tk os' s x = appendOut u es bytes tk os s x := by
  by_cases hx : ∃ id off e n, x = .d (.ref id off e n)
  · obtain ⟨id, off, e, n, rfl⟩ := hx
    by_cases he : e = es
    · have e1 : ∀ os : List AObj, srcOf es os (.d (.ref id off e n)) = some ⟨refRows os id off es n, some id, refOk os id off es n⟩ := fun os => by
        simp only [srcOf, ASlot.rows, refSrc, if_pos he]
      unfold appendOut at h ⊢
      rw [e1] at h
      rw [e1, e1]
      cases u with
      | false =>
        cases hr : s.rows with
        | none => rfl
        | some p =>
          simp only [hr] at h ⊢
          have hid : os'[id]? = os[id]? := h id rfl
          simp only [refRows, refOk, objCells_same hid]
      | true =>
        simp only at h ⊢
        unfold appendU at h ⊢
        split at h <;> first | rfl | (have hid : os'[id]? = os[id]? := h id rfl; simp only [refRows, refOk, objCells_same hid])
    · have e1 : ∀ os : List AObj, srcOf es os (.d (.ref id off e n)) = none := fun os => by
        simp only [srcOf, ASlot.rows, refSrc, if_neg he]
      simp only [appendOut, e1]
  · have : srcOf es os' x = srcOf es os x := srcOf_notRef fun id off e n hq => hx ⟨id, off, e, n, hq⟩
    simp only [appendOut, this]

theorem copyOut_same {es : Nat} {os os' : List AObj} {s x : ASlot} (h : ∀ id, (copyOut es os s x).rd = some id ∨ (∃ o, (copyOut es os s x).wr = some (id, o)) → os'[id]? = os[id]?) : copyOut es os' s x = copyOut es os s x := by
  have hs : ∀ (r : Src) (os1 : List AObj) (id off e n : Nat), srcOf es os x = some r → s = .d (.ref id off e n) → os'[id]? = os[id]? := fun r os1 id off e n h1 h2 => h id (.inr (by subst h2; simp only [copyOut, h1]; exact ⟨_, rfl⟩))
  by_cases hx : ∃ id off e n, x = .d (.ref id off e n)
  · obtain ⟨id, off, e, n, rfl⟩ := hx
    by_cases he : e = es
    · have e1 : ∀ os : List AObj, srcOf es os (.d (.ref id off e n)) = some ⟨refRows os id off es n, some id, refOk os id off es n⟩ := fun os => by
        simp only [srcOf, ASlot.rows, refSrc, if_pos he]
      unfold copyOut at h ⊢
      rw [e1] at h
      rw [e1, e1]
      split at h
      · rename_i r id2 off2 e2 n2 hr
        cases hr
        have h1 : os'[id]? = os[id]? := h id (.inl rfl)
        have h2 : os'[id2]? = os[id2]? := h id2 (.inr ⟨_, rfl⟩)
        simp only [refRows, refOk, storeAt, objCells_same h1, objCells_same h2]
      · rename_i hne
        split
        · rename_i r id2 off2 e2 n2 hr
          exact (hne _ _ _ _ _ rfl rfl).elim
        · rfl
    · have e1 : ∀ os : List AObj, srcOf es os (.d (.ref id off e n)) = none := fun os => by
        simp only [srcOf, ASlot.rows, refSrc, if_neg he]
      simp only [copyOut, e1]
  · have hq : srcOf es os' x = srcOf es os x := srcOf_notRef fun id off e n hq => hx ⟨id, off, e, n, hq⟩
    cases hr : srcOf es os x with
    | none => simp only [copyOut, hq, hr]
    | some r =>
      cases s with
      | d y =>
        cases y with
        | ref id off e n =>
          have h1 := hs r os id off e n hr rfl
          simp only [copyOut, hq, hr, storeAt, objCells_same h1]
        | _ => simp only [copyOut, hq, hr]
      | _ => simp only [copyOut, hq, hr]

theorem sliceAOut_same {len es : Nat} {os os' : List AObj} {x : ASlot} {lo hi mx : Option ASlot} (h : ∀ id, (sliceAOut len es os x lo hi mx).rd = some id → os'[id]? = os[id]?) : sliceAOut len es os' x lo hi mx = sliceAOut len es os x lo hi mx := by
  cases x with
  | d y =>
    cases y with
    | ptr id off =>
      have hid : os'[id]? = os[id]? := h id rfl
      simp only [sliceAOut, objCells_same hid]
    | _ => rfl
  | _ => rfl

theorem sem_same {tb : Nat} {o : SOp} {st st' : St} (hf : ∀ n, n ∈ o.opds.flatMap Opd.slot → st'.fr.get n = st.fr.get n) (hl : st'.os.length = st.os.length)
    (ho : ∀ id, id ∈ (sem tb o st).touch → st'.os[id]? = st.os[id]?) : sem tb o st' = sem tb o st := by
  have hx : ∀ x ∈ o.opds, x.get st'.fr = x.get st.fr ∧ x.ok st'.fr = x.ok st.fr := fun x hx => opd_same fun n hn => hf n (slot_of_opds hx hn)
  cases o with
  | box back x =>
    obtain ⟨h1, h2⟩ := hx x (by simp [SOp.opds])
    have h3 := ho (st.os.length - back) (by simp [sem, Out.touch, Out.wrs])
    simp only [sem, h1, h2, hl, h3]
  | alloc back z =>
    have h3 := ho (st.os.length - back) (by simp [sem, Out.touch, Out.wrs])
    simp only [sem, hl, h3]
  | load n x =>
    obtain ⟨h1, h2⟩ := hx x (by simp [SOp.opds])
    have h3 : loadOut n st'.os (x.get st.fr) = loadOut n st.os (x.get st.fr) := loadOut_same fun id hid => ho id (by
      simp only [sem, Out.touch, List.mem_append, hid]
      simp)
    simp only [sem, h1, h2, h3]
  | store n x v =>
    obtain ⟨h1, h2⟩ := hx x (by simp [SOp.opds])
    obtain ⟨k1, k2⟩ := hx v (by simp [SOp.opds])
    have h3 : storeOut n st'.os (x.get st.fr) (v.get st.fr) = storeOut n st.os (x.get st.fr) (v.get st.fr) := storeOut_same fun id y hid => ho id (by
      simp only [sem, Out.touch, Out.wrs, hid]
      simp)
    simp only [sem, h1, h2, k1, k2, h3]
  | build z ps =>
    have h1 : ∀ p ∈ ps, p.2.2.get st'.fr = p.2.2.get st.fr ∧ p.2.2.ok st'.fr = p.2.2.ok st.fr := fun p hp => hx _ (by simp only [SOp.opds, List.mem_map]; exact ⟨p, hp, rfl⟩)
    have h2 : (ps.map fun p => (p.1, (p.2.2.get st'.fr).dCells)) = ps.map fun p => (p.1, (p.2.2.get st.fr).dCells) := List.map_congr_left fun p hp => by rw [(h1 p hp).1]
    simp only [sem, h2]
    congr 1
    apply propext
    constructor
    · intro h p hp; have := h p hp; rwa [(h1 p hp).1, (h1 p hp).2] at this
    · intro h p hp; rw [(h1 p hp).1, (h1 p hp).2]; exact h p hp
  | buildSlice u es len z ps =>
    have h1 : ∀ p ∈ ps, p.2.2.get st'.fr = p.2.2.get st.fr ∧ p.2.2.ok st'.fr = p.2.2.ok st.fr := fun p hp => hx _ (by simp only [SOp.opds, List.mem_map]; exact ⟨p, hp, rfl⟩)
    have h2 : (ps.map fun p => (p.1, (p.2.2.get st'.fr).dCells)) = ps.map fun p => (p.1, (p.2.2.get st.fr).dCells) := List.map_congr_left fun p hp => by rw [(h1 p hp).1]
    simp only [sem, h2]
    congr 1
    apply propext
    refine and_congr_left fun _ => ?_
    constructor
    · intro h p hp; have := h p hp; rwa [(h1 p hp).1, (h1 p hp).2] at this
    · intro h p hp; rw [(h1 p hp).1, (h1 p hp).2]; exact h p hp
  | mkFunc fn a b =>
    have ha : ∀ x ∈ a, x.get st'.fr = x.get st.fr ∧ x.ok st'.fr = x.ok st.fr := fun x h => hx x (by simp only [SOp.opds, List.mem_append]; exact .inl h)
    have hb : ∀ x ∈ b, x.get st'.fr = x.get st.fr ∧ x.ok st'.fr = x.ok st.fr := fun x h => hx x (by simp only [SOp.opds, List.mem_append]; exact .inr h)
    have h1 : (a.map fun x => (x.get st'.fr).cellD) = a.map fun x => (x.get st.fr).cellD := List.map_congr_left fun x h => by rw [(ha x h).1]
    have h2 : (b.map fun x => (x.get st'.fr).cellD) = b.map fun x => (x.get st.fr).cellD := List.map_congr_left fun x h => by rw [(hb x h).1]
    simp only [sem, h1, h2]
    congr 1
    apply propext
    constructor
    · intro h
      exact ⟨fun x hxa => by have := h.1 x hxa; rwa [(ha x hxa).1, (ha x hxa).2] at this, fun x hxb => by have := h.2 x hxb; rwa [(hb x hxb).1, (hb x hxb).2] at this⟩
    · intro h
      exact ⟨fun x hxa => by rw [(ha x hxa).1, (ha x hxa).2]; exact h.1 x hxa, fun x hxb => by rw [(hb x hxb).1, (hb x hxb).2]; exact h.2 x hxb⟩
  | slice es x lo hi mx =>
    obtain ⟨h1, h2⟩ := hx x (by simp [SOp.opds])
    have ol : ∀ y ∈ lo, y.get st'.fr = y.get st.fr ∧ y.ok st'.fr = y.ok st.fr := fun y hy => hx y (by simp only [SOp.opds, List.mem_cons, List.mem_append, Option.mem_toList]; exact .inr (.inl (.inl hy)))
    have oh : ∀ y ∈ hi, y.get st'.fr = y.get st.fr ∧ y.ok st'.fr = y.ok st.fr := fun y hy => hx y (by simp only [SOp.opds, List.mem_cons, List.mem_append, Option.mem_toList]; exact .inr (.inl (.inr hy)))
    have om : ∀ y ∈ mx, y.get st'.fr = y.get st.fr ∧ y.ok st'.fr = y.ok st.fr := fun y hy => hx y (by simp only [SOp.opds, List.mem_cons, List.mem_append, Option.mem_toList]; exact .inr (.inr hy))
    have e1 : lo.map (·.get st'.fr) = lo.map (·.get st.fr) := by cases lo with | none => rfl | some y => simp [(ol y rfl).1]
    have e2 : hi.map (·.get st'.fr) = hi.map (·.get st.fr) := by cases hi with | none => rfl | some y => simp [(oh y rfl).1]
    have e3 : mx.map (·.get st'.fr) = mx.map (·.get st.fr) := by cases mx with | none => rfl | some y => simp [(om y rfl).1]
    have f1 : (∀ y ∈ lo, y.ok st'.fr = true) = (∀ y ∈ lo, y.ok st.fr = true) := by cases lo with | none => simp | some y => simp [(ol y rfl).2]
    have f2 : (∀ y ∈ hi, y.ok st'.fr = true) = (∀ y ∈ hi, y.ok st.fr = true) := by cases hi with | none => simp | some y => simp [(oh y rfl).2]
    have f3 : (∀ y ∈ mx, y.ok st'.fr = true) = (∀ y ∈ mx, y.ok st.fr = true) := by cases mx with | none => simp | some y => simp [(om y rfl).2]
    simp only [sem, h1, h2, e1, e2, e3, f1, f2, f3]
  | sliceA len es x lo hi mx =>
    obtain ⟨h1, h2⟩ := hx x (by simp [SOp.opds])
    have ol : ∀ y ∈ lo, y.get st'.fr = y.get st.fr ∧ y.ok st'.fr = y.ok st.fr := fun y hy => hx y (by simp only [SOp.opds, List.mem_cons, List.mem_append, Option.mem_toList]; exact .inr (.inl (.inl hy)))
    have oh : ∀ y ∈ hi, y.get st'.fr = y.get st.fr ∧ y.ok st'.fr = y.ok st.fr := fun y hy => hx y (by simp only [SOp.opds, List.mem_cons, List.mem_append, Option.mem_toList]; exact .inr (.inl (.inr hy)))
    have om : ∀ y ∈ mx, y.get st'.fr = y.get st.fr ∧ y.ok st'.fr = y.ok st.fr := fun y hy => hx y (by simp only [SOp.opds, List.mem_cons, List.mem_append, Option.mem_toList]; exact .inr (.inr hy))
    have e1 : lo.map (·.get st'.fr) = lo.map (·.get st.fr) := by cases lo with | none => rfl | some y => simp [(ol y rfl).1]
    have e2 : hi.map (·.get st'.fr) = hi.map (·.get st.fr) := by cases hi with | none => rfl | some y => simp [(oh y rfl).1]
    have e3 : mx.map (·.get st'.fr) = mx.map (·.get st.fr) := by cases mx with | none => rfl | some y => simp [(om y rfl).1]
    have f1 : (∀ y ∈ lo, y.ok st'.fr = true) = (∀ y ∈ lo, y.ok st.fr = true) := by cases lo with | none => simp | some y => simp [(ol y rfl).2]
    have f2 : (∀ y ∈ hi, y.ok st'.fr = true) = (∀ y ∈ hi, y.ok st.fr = true) := by cases hi with | none => simp | some y => simp [(oh y rfl).2]
    have f3 : (∀ y ∈ mx, y.ok st'.fr = true) = (∀ y ∈ mx, y.ok st.fr = true) := by cases mx with | none => simp | some y => simp [(om y rfl).2]
    have h3 : sliceAOut len es st'.os (x.get st.fr) (lo.map (·.get st.fr)) (hi.map (·.get st.fr)) (mx.map (·.get st.fr)) = sliceAOut len es st.os (x.get st.fr) (lo.map (·.get st.fr)) (hi.map (·.get st.fr)) (mx.map (·.get st.fr)) :=
      sliceAOut_same fun id hid => ho id (by simp only [sem, Out.touch, List.mem_append, hid]; simp)
    simp only [sem, h1, h2, e1, e2, e3, f1, f2, f3, h3]
  | append u es bytes x y =>
    obtain ⟨h1, h2⟩ := hx x (by simp [SOp.opds])
    obtain ⟨k1, k2⟩ := hx y (by simp [SOp.opds])
    have h3 : appendOut u es bytes tb st'.os (x.get st.fr) (y.get st.fr) = appendOut u es bytes tb st.os (x.get st.fr) (y.get st.fr) := appendOut_same fun id hid => ho id (by
      simp only [sem, Out.touch, List.mem_append, hid]
      simp)
    simp only [sem, h1, h2, k1, k2, h3]
  | copy es x y =>
    obtain ⟨h1, h2⟩ := hx x (by simp [SOp.opds])
    obtain ⟨k1, k2⟩ := hx y (by simp [SOp.opds])
    have h3 : copyOut es st'.os (x.get st.fr) (y.get st.fr) = copyOut es st.os (x.get st.fr) (y.get st.fr) := copyOut_same fun id hid => ho id (by
      rcases hid with hid | ⟨o, hid⟩
      · simp only [sem, Out.touch, List.mem_append, hid]
        simp
      · simp only [sem, Out.touch, Out.wrs, List.mem_append, hid]
        simp)
    simp only [sem, h1, h2, k1, k2, h3]
  | b2s x =>
    obtain ⟨h1, h2⟩ := hx x (by simp [SOp.opds])
    cases hr : (x.get st.fr).rows with
    | some p => simp only [sem, h1, h2, hr]
    | none =>
      have h3 : refSrc 1 st'.os (x.get st.fr) = refSrc 1 st.os (x.get st.fr) := refSrc_same fun r id hq hid => ho id (by
        simp only [sem, hr, hq, Out.touch, List.mem_append, hid]
        simp)
      simp only [sem, h1, h2, hr, h3]
  | sliceS x lo hi =>
    obtain ⟨h1, h2⟩ := hx x (by simp [SOp.opds])
    have ol : ∀ y ∈ lo, y.get st'.fr = y.get st.fr ∧ y.ok st'.fr = y.ok st.fr := fun y hy => hx y (by simp only [SOp.opds, List.mem_cons, List.mem_append, Option.mem_toList]; exact .inr (.inl hy))
    have oh : ∀ y ∈ hi, y.get st'.fr = y.get st.fr ∧ y.ok st'.fr = y.ok st.fr := fun y hy => hx y (by simp only [SOp.opds, List.mem_cons, List.mem_append, Option.mem_toList]; exact .inr (.inr hy))
    have e1 : lo.map (·.get st'.fr) = lo.map (·.get st.fr) := by cases lo with | none => rfl | some y => simp [(ol y rfl).1]
    have e2 : hi.map (·.get st'.fr) = hi.map (·.get st.fr) := by cases hi with | none => rfl | some y => simp [(oh y rfl).1]
    have f1 : (∀ y ∈ lo, y.ok st'.fr = true) = (∀ y ∈ lo, y.ok st.fr = true) := by cases lo with | none => simp | some y => simp [(ol y rfl).2]
    have f2 : (∀ y ∈ hi, y.ok st'.fr = true) = (∀ y ∈ hi, y.ok st.fr = true) := by cases hi with | none => simp | some y => simp [(oh y rfl).2]
    simp only [sem, h1, h2, e1, e2, f1, f2]
  | pick c x y =>
    obtain ⟨h1, h2⟩ := hx c (by simp [SOp.opds])
    obtain ⟨k1, k2⟩ := hx x (by simp [SOp.opds])
    obtain ⟨m1, m2⟩ := hx y (by simp [SOp.opds])
    simp only [sem, h1, h2, k1, k2, m1, m2]
  | bin _ x y | eqb _ x y | eqAgg _ _ x y | makeSlice _ _ _ _ x y | iaddr _ x y | iaddrA _ _ x y | indexS x y | indexA _ _ _ x y | minmax _ x y =>
    obtain ⟨h1, h2⟩ := hx x (by simp [SOp.opds])
    obtain ⟨k1, k2⟩ := hx y (by simp [SOp.opds])
    simp only [sem, h1, h2, k1, k2]
  | mov x | nilCheck x | eqnil _ _ x | not x | neg x | conv _ x | i2s x | s2b x | faddr _ x | field _ _ x | extract _ x | len x | lenS x | asStr x =>
    obtain ⟨h1, h2⟩ := hx x (by simp [SOp.opds])
    simp only [sem, h1, h2]
  | eqnilS _ _ | call _ _ => rfl

end Go.Abs
