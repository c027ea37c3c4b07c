/- The abstract layer, part 24: forgetting (what a loop's head and a function's end are told). -/
import Derived.Test.YthcpckcgjplhiaaAw
namespace Go.Abs

mutual
/-- A value that speaks of kept objects only. -/
def D.okW (keep : Nat → Bool) : D → Bool
  | .sl _ rows => D.okWR keep rows
  | .agg cs => D.okWL keep cs
  | .ptr id _ => keep id
  | .ref id _ _ _ => keep id
  | .map id => keep id
  | .func _ a b => D.okWL keep a && D.okWL keep b
  | .iface _ d => D.okW keep d
  | _ => true
def D.okWL (keep : Nat → Bool) : List D → Bool
  | [] => true
  | d :: l => D.okW keep d && D.okWL keep l
def D.okWR (keep : Nat → Bool) : List (List D) → Bool
  | [] => true
  | r :: l => D.okWL keep r && D.okWR keep l
end

theorem D.okWL_iff (keep : Nat → Bool) : ∀ (l : List D), D.okWL keep l = true ↔ ∀ d ∈ l, d.okW keep = true
  | [] => by simp [D.okWL]
  | d :: l => by simp [D.okWL, D.okWL_iff keep l]

theorem D.okWR_iff (keep : Nat → Bool) : ∀ (l : List (List D)), D.okWR keep l = true ↔ ∀ d ∈ l.flatten, d.okW keep = true
  | [] => by simp [D.okWR]
  | r :: l => by
    simp only [D.okWR, Bool.and_eq_true, D.okWL_iff, D.okWR_iff keep l, List.flatten_cons, List.mem_append]
    constructor
    · rintro ⟨h1, h2⟩ d (h | h)
      · exact h1 d h
      · exact h2 d h
    · exact fun h => ⟨fun d hd => h d (.inl hd), fun d hd => h d (.inr hd)⟩

mutual
theorem D.okW_noPtr {keep : Nat → Bool} : ∀ {d : D}, d.noPtr = true → d.okW keep = true
  | .sl _ rows, h => D.okWR_noPtr (by simpa only [D.noPtr] using h)
  | .agg cs, h => D.okWL_noPtr (by simpa only [D.noPtr] using h)
  | .func _ a b, h => by
    simp only [D.noPtr, Bool.and_eq_true] at h
    simp only [D.okW, D.okWL_noPtr h.1, D.okWL_noPtr h.2, Bool.and_self]
  | .iface _ d, h => D.okW_noPtr (d := d) (by simpa only [D.noPtr] using h)
  | .ptr .., h => by simp [D.noPtr] at h
  | .ref .., h => by simp [D.noPtr] at h
  | .map _, h => by simp [D.noPtr] at h
  | .int .., _ => rfl
  | .bool _, _ => rfl
  | .str _, _ => rfl
  | .nilptr, _ => rfl
  | .nilfunc, _ => rfl
  | .niliface, _ => rfl
  | .nilmap, _ => rfl
  | .nilsl, _ => rfl
theorem D.okWL_noPtr {keep : Nat → Bool} : ∀ {l : List D}, D.noPtrL l = true → D.okWL keep l = true
  | [], _ => rfl
  | d :: l, h => by
    simp only [D.noPtrL, Bool.and_eq_true] at h
    simp only [D.okWL, D.okW_noPtr h.1, D.okWL_noPtr h.2, Bool.and_self]
theorem D.okWR_noPtr {keep : Nat → Bool} : ∀ {l : List (List D)}, D.noPtrR l = true → D.okWR keep l = true
  | [], _ => rfl
  | r :: l, h => by
    simp only [D.noPtrR, Bool.and_eq_true] at h
    simp only [D.okWR, D.okWL_noPtr h.1, D.okWR_noPtr h.2, Bool.and_self]
end

/-- What speaks of kept objects only stays readable where these stay. -/
theorem RV.okW {g g' : Ghost} {w w' : World} {keep : Nat → Bool} {v : Value} {d : D} (h : RV g w v d) (hr : RowsKept g w g' w') (ho : ∀ (b id : Nat), keep id = true → g b = .obj id → g' b = .obj id ∧ bsize w b ≤ bsize w' b) (hk : d.okW keep = true) : RV g' w' v d := by
  induction h with
  | int k n => exact .int k n
  | bool b => exact .bool b
  | str s => exact .str s
  | nilsl a c es hn => exact .nilsl a c es hn
  | sl b off cap es n o rows f hg hn hcap hes hcl hcell _ ih =>
    obtain ⟨n', o', hg', hnn, hc⟩ := hr b n o hg
    rw [D.okW, D.okWR_iff] at hk
    refine .sl b off cap es n' o' rows f hg' (by omega) hcap hes hcl (fun j d hj => hc _ _ ?_ (hcell j d hj)) (fun j d hj => ih j d hj (hk d (List.mem_of_getElem? hj)))
    have := (List.getElem?_eq_some_iff.1 hj).1
    omega
  | agg vs ds hl hcl _ ih =>
    rw [D.okW, D.okWL_iff] at hk
    exact .agg vs ds hl hcl (fun j v d hv hd => ih j v d hv hd (hk d (List.mem_of_getElem? hd)))
  | ptr b off id hg => exact .ptr b off id (ho b id (by simpa only [D.okW] using hk) hg).1
  | ref b off id es len cap hg hcap hm hsz =>
    obtain ⟨h1, h2⟩ := ho b id (by simpa only [D.okW] using hk) hg
    exact .ref b off id es len cap h1 hcap hm (Nat.le_trans hsz h2)
  | refnil a id off es => exact .refnil a id off es
  | nilptr => exact .nilptr
  | func fn vf vc df dc hf hc _ _ i1 i2 =>
    rw [D.okW, Bool.and_eq_true, D.okWL_iff, D.okWL_iff] at hk
    exact .func fn vf vc df dc hf hc (fun j v d hv hd => i1 j v d hv hd (hk.1 d (List.mem_of_getElem? hd))) (fun j v d hv hd => i2 j v d hv hd (hk.2 d (List.mem_of_getElem? hd)))
  | nilfunc => exact .nilfunc
  | iface t v d _ ih => exact .iface t v d (ih (by simpa [D.okW] using hk))
  | niliface => exact .niliface
  | map b id hg => exact .map b id (ho b id (by simpa only [D.okW] using hk) hg).1
  | nilmap => exact .nilmap
  | nils => exact .nils

/-- A slot under a weaker reading. -/
def slotW (keep : Nat → Bool) : ASlot → ASlot → Prop
  | s, .d x => s.eqvD x ∧ x.okW keep = true
  | .own _ es rows, .own _ es' rows' => (es = es' ∧ D.eqvR rows rows') ∧ D.noPtrR rows' = true
  | .uni _ es rows, .uni _ es' rows' => (es = es' ∧ rows = rows') ∧ D.noPtrR rows' = true
  | .full _ rows, .uni _ _ rows' => rows = [] ∧ rows' = []
  | .d .nilsl, .uni _ _ rows' => rows' = []
  | .full es rows, .own _ es' rows' => rowsEqv es rows es' rows' ∧ D.noPtrR rows' = true
  | .full es rows, .full es' rows' => rowsEqv es rows es' rows' ∧ D.noPtrR rows' = true
  | .d .nilsl, .own _ _ rows' => rows' = []
  | .d .nilsl, .full _ rows' => rows' = []
  | .rd cs, .rd cs' => D.eqvL cs cs' ∧ D.noPtrL cs' = true
  | _, .bad => True
  | _, _ => False

def tokPair : ASlot → ASlot → List (Nat × Nat)
  | .own t _ _, .own t' _ _ => [(t, t')]
  | .uni t _ _, .uni t' _ _ => [(t, t')]
  | _, _ => []

def pairsFr (fr : Fr) : Fr → List (Nat × Nat)
  | [] => []
  | (k, _, s') :: l => match fr.get k with
    | some (_, s) => tokPair s s' ++ pairsFr fr l
    | none => pairsFr fr l

def pairsCs : List ASlot → List ASlot → List (Nat × Nat)
  | s :: l, s' :: l' => tokPair s s' ++ pairsCs l l'
  | _, _ => []

def pairsOs : List AObj → List AObj → List (Nat × Nat)
  | .row cs :: l, .row cs' :: l' => pairsCs cs cs' ++ pairsOs l l'
  | _ :: l, _ :: l' => pairsOs l l'
  | _, _ => []

def keepOf (os : List AObj) (id : Nat) : Bool := match os[id]? with | some (.row _) => true | _ => false

def frW (keep : Nat → Bool) (fr : Fr) : Fr → Prop
  | [] => True
  | (k, v, s') :: l => (match fr.get k with
    | some (v', s) => v' = v ∧ (v = true → slotW keep s s')
    | none => False) ∧ frW keep fr l

def csW (keep : Nat → Bool) : List ASlot → List ASlot → Prop
  | s :: l, s' :: l' => slotW keep s s' ∧ csW keep l l'
  | _, [] => True
  | [], _ :: _ => False

def osW (keep : Nat → Bool) : List AObj → List AObj → Prop
  | .row cs :: l, .row cs' :: l' => csW keep cs cs' ∧ osW keep l l'
  | _ :: l, .none :: l' => osW keep l l'
  | _, [] => True
  | _, _ => False

def frToks : Fr → List Nat
  | [] => []
  | (_, _, s) :: l => s.toks ++ frToks l

def osToks : List AObj → List Nat
  | [] => []
  | o :: l => o.cells.flatMap ASlot.toks ++ osToks l

/-- The first k objects stay. -/
def baseKept (k0 : Nat) (os os' : List AObj) : Prop := ∀ id, id < k0 → keepOf os id = true → keepOf os' id = true

structure Weak (k0 : Nat) (st st' : St) : Prop where
  fr : frW (keepOf st'.os) st.fr st'.fr
  os : osW (keepOf st'.os) st.os st'.os
  live : ∀ p ∈ pairsFr st.fr st'.fr ++ pairsOs st.os st'.os, p.2 ∈ st'.live → p.1 ∈ st.live
  nd : ((pairsFr st.fr st'.fr ++ pairsOs st.os st'.os).map (·.1)).Nodup
  base : baseKept k0 st.os st'.os
  wf : ∀ t ∈ st'.live ++ frToks st'.fr ++ osToks st'.os, t < 16 * st'.nt

/-- The ghost behind the forgetting. -/
def wkG (hs : List (Nat × Nat)) (keep : Nat → Bool) (g : Ghost) : Ghost := fun b =>
  match g b with
  | .row n (some t) => .row n (pairOf hs t)
  | .uni t => match pairOf hs t with | some t' => .uni t' | none => .out
  | .obj id => if keep id then .obj id else .out
  | r => r

section
variable {P : Program} {N : Nat} {T : Nat → Prop} {g g0 : Ghost} {w w0 : World} {st st' : St} {a : Act} {hs : List (Nat × Nat)} {keep : Nat → Bool} {live live' : List Nat}

theorem rowsKept_wk : RowsKept g w (wkG hs keep g) w := by
  intro b n o hg
  refine ⟨n, o.bind (pairOf hs), ?_, Nat.le_refl _, fun _ _ _ h => h⟩
  unfold wkG
  rw [hg]
  cases o <;> rfl

theorem rv_okW {v : Value} {d : D} (h : RV g w v d) (hk : d.okW keep = true) : RV (wkG hs keep g) w v d :=
  h.okW rowsKept_wk (fun b id hk hg => ⟨by unfold wkG; rw [hg]; simp [hk], Nat.le_refl _⟩) hk

theorem rv_es {v : Value} {es es' : Nat} {rows : List (List D)} (h : RV g w v (.sl es rows)) (he : es = es' ∨ rows = []) : RV g w v (.sl es' rows) := by
  rcases he with rfl | rfl
  · exact h
  · cases h with
    | nilsl a c _ hn => exact .nilsl a c _ hn
    | sl b off cap _ n o _ f hg hn hcap hes hcl hcell hrv => exact .sl b off cap es' n o [] f hg hn hcap (by simp) hcl hcell hrv

theorem rc_weak {v : Value} {s s' : ASlot} (hnd : (hs.map (·.1)).Nodup) (hm : ∀ p ∈ tokPair s s', p ∈ hs) (hl : ∀ p ∈ hs, p.2 ∈ live' → p.1 ∈ live) (h : RS g w live v s) (hw : slotW keep s s') :
    RC (wkG hs keep g) w live' v s' := by
  have hr := rowsKept_wk (g := g) (w := w) (hs := hs) (keep := keep)
  have sl : ∀ {es : Nat} {rows : List (List D)}, RV g w v (.sl es rows) → D.noPtrR rows = true → RV (wkG hs keep g) w v (.sl es rows) := fun h1 h2 => h1.mono_noPtr hr (by simpa only [D.noPtr] using h2)
  cases s' with
  | d x =>
    have h2 : s.eqvD x ∧ x.okW keep = true := by cases s <;> simpa only [slotW] using hw
    exact rv_okW (eqvD_rv h h2.1) h2.2
  | own t' es' rows' =>
    cases s with
    | own t es rows =>
      obtain ⟨⟨rfl, he⟩, h3⟩ := hw
      refine ⟨sl (rowsEqv_rv h.1 ⟨.inl rfl, he⟩) h3, fun hlv => ?_⟩
      have hmem := hm (t, t') (by simp [tokPair])
      have hp := pairOf_of_mem hnd hmem
      rcases ownOk_eqv (h.2 (hl _ hmem hlv)) he with hf | ⟨b, cap, cur, e, q1, q2, q3⟩
      · exact .inl hf
      · refine .inr ⟨b, cap, cur, e, q1, ?_, q3⟩
        unfold wkG
        rw [q2]
        simp only [hp]
    | full es rows => exact ⟨sl (rowsEqv_rv h.1 hw.1) hw.2, fun _ => .inl (full_eqv h.2 hw.1.2)⟩
    | d y =>
      obtain ⟨rfl, rfl⟩ : v = .slice none 0 0 ∧ rows' = [] := by
        cases y <;> first | exact hw.elim | skip
        have h' : RV g w v .nilsl := h
        cases h'
        exact ⟨rfl, hw⟩
      exact ⟨.nilsl none 0 es' (fun _ => rfl), fun _ => .inl ⟨none, rfl⟩⟩
    | _ => exact hw.elim
  | uni t' es' rows' =>
    cases s with
    | uni t es rows =>
      obtain ⟨⟨rfl, rfl⟩, h3⟩ := hw
      refine ⟨h.1, fun hlv => ?_⟩
      have hmem := hm (t, t') (by simp [tokPair])
      have hp := pairOf_of_mem hnd hmem
      rcases h.2 (hl _ hmem hlv) with hf | ⟨b, cap, cur, e, q1, q2, q3, q4, q5, q6, q7, q8⟩
      · exact .inl hf
      · refine .inr ⟨b, cap, cur, e, q1, ?_, q3, q4, q5, q6, q7, fun j d hj => ?_⟩
        · unfold wkG
          rw [q2]
          simp only [hp]
        · obtain ⟨c1, u, c2, c3⟩ := q8 j d hj
          exact ⟨c1, u, c2, c3.mono_noPtr hr ((D.noPtrR_iff rows).1 h3 d (List.mem_of_getElem? hj))⟩
    | full es rows =>
      obtain ⟨rfl, rfl⟩ := hw
      obtain ⟨a, rfl⟩ := h.2
      exact ⟨⟨a, 0, rfl⟩, fun _ => .inl ⟨a, rfl, rfl⟩⟩
    | d y =>
      obtain ⟨rfl, rfl⟩ : v = .slice none 0 0 ∧ rows' = [] := by
        cases y <;> first | exact hw.elim | skip
        have h' : RV g w v .nilsl := h
        cases h'
        exact ⟨rfl, hw⟩
      exact ⟨⟨none, 0, rfl⟩, fun _ => .inl ⟨none, rfl, rfl⟩⟩
    | _ => exact hw.elim
  | full es' rows' =>
    cases s with
    | full es rows => exact ⟨sl (rowsEqv_rv h.1 hw.1) hw.2, full_eqv h.2 hw.1.2⟩
    | d y =>
      obtain ⟨rfl, rfl⟩ : v = .slice none 0 0 ∧ rows' = [] := by
        cases y <;> first | exact hw.elim | skip
        have h' : RV g w v .nilsl := h
        cases h'
        exact ⟨rfl, hw⟩
      exact ⟨.nilsl none 0 es' (fun _ => rfl), none, rfl⟩
    | _ => exact hw.elim
  | rd cs' =>
    cases s with
    | rd cs =>
      obtain ⟨he, h3⟩ := hw
      obtain ⟨b, off, n, o, fn, rfl, hg, hn, hcc⟩ := rd_eqv (live := live) h he
      obtain ⟨n', o', hg', hnn, hcell⟩ := hr b n o hg
      refine ⟨b, off, n', o', fn, rfl, hg', by omega, fun j d hj => ?_⟩
      obtain ⟨c1, c2, c3⟩ := hcc j d hj
      have hjl : j < cs'.length := (List.getElem?_eq_some_iff.1 hj).1
      exact ⟨c1, hcell _ _ (by omega) c2, c3.mono_noPtr hr ((D.noPtrL_iff cs').1 h3 d (List.mem_of_getElem? hj))⟩
    | _ => exact hw.elim
  | tup l => cases s <;> exact hw.elim
  | bad => trivial

theorem slotW_tup {s : ASlot} {l : List ASlot} : ¬ slotW keep s (.tup l) := by cases s <;> simp [slotW]

theorem frW_get {fr : Fr} : ∀ {fr' : Fr}, frW keep fr fr' → ∀ (k : Nat) (v : Bool) (s' : ASlot), fr'.get k = some (v, s') →
    ∃ s, fr.get k = some (v, s) ∧ (v = true → slotW keep s s') ∧ ∀ p ∈ tokPair s s', p ∈ pairsFr fr fr'
  | [], _, k, v, s', h => by simp [Fr.get] at h
  | (j, v', s'') :: l, hw, k, v, s', h => by
    obtain ⟨h1, h2⟩ := hw
    simp only [Fr.get] at h
    split at h
    · rename_i hj
      subst hj
      cases h
      cases hg : fr.get j with
      | none => rw [hg] at h1; exact h1.elim
      | some p =>
        obtain ⟨u, s⟩ := p
        rw [hg] at h1
        obtain ⟨rfl, h4⟩ := h1
        refine ⟨s, rfl, h4, fun p hp => ?_⟩
        simp only [pairsFr, hg]
        exact List.mem_append_left _ hp
    · obtain ⟨s, q1, q2, q3⟩ := frW_get h2 k v s' h
      refine ⟨s, q1, q2, fun p hp => ?_⟩
      simp only [pairsFr]
      split
      · exact List.mem_append_right _ (q3 p hp)
      · exact q3 p hp

theorem csW_get : ∀ {l l' : List ASlot}, csW keep l l' → l'.length ≤ l.length ∧ ∀ (i : Nat) (s' : ASlot), l'[i]? = some s' → ∃ s, l[i]? = some s ∧ slotW keep s s' ∧ ∀ p ∈ tokPair s s', p ∈ pairsCs l l'
  | _, [], _ => by simp
  | [], _ :: _, h => h.elim
  | s :: l, s' :: l', h => by
    obtain ⟨h1, h2⟩ := h
    obtain ⟨k1, k2⟩ := csW_get h2
    refine ⟨by simp; omega, fun i u hi => ?_⟩
    cases i with
    | zero => simp at hi; subst hi; exact ⟨s, rfl, h1, fun p hp => List.mem_append_left _ hp⟩
    | succ i =>
      obtain ⟨u', q1, q2, q3⟩ := k2 i u (by simpa using hi)
      exact ⟨u', by simpa using q1, q2, fun p hp => List.mem_append_right _ (q3 p hp)⟩

theorem osW_get : ∀ {l l' : List AObj}, osW keep l l' → ∀ (i : Nat) (cs' : List ASlot), l'[i]? = some (.row cs') → ∃ cs, l[i]? = some (.row cs) ∧ csW keep cs cs' ∧ ∀ p ∈ pairsCs cs cs', p ∈ pairsOs l l'
  | l, [], _, i, cs', h => by simp at h
  | [], o' :: l', hw, i, cs', h => by cases o' <;> exact hw.elim
  | o :: l, .none :: l', hw, i, cs', h => by
    have h2 : osW keep l l' := by cases o <;> exact hw
    cases i with
    | zero => simp at h
    | succ i =>
      obtain ⟨cs, q1, q2, q3⟩ := osW_get h2 i cs' (by simpa using h)
      refine ⟨cs, by simpa using q1, q2, fun p hp => ?_⟩
      cases o <;> exact q3 p hp
  | .none :: l, .row _ :: l', hw, i, cs', h => hw.elim
  | .row cs :: l, .row cs'' :: l', hw, i, cs', h => by
    obtain ⟨h1, h2⟩ := hw
    cases i with
    | zero => simp at h; subst h; exact ⟨cs, rfl, h1, fun p hp => List.mem_append_left _ hp⟩
    | succ i =>
      obtain ⟨u, q1, q2, q3⟩ := osW_get h2 i cs' (by simpa using h)
      exact ⟨u, by simpa using q1, q2, fun p hp => List.mem_append_right _ (q3 p hp)⟩

theorem frToks_get : ∀ {fr : Fr} {k : Nat} {v : Bool} {s : ASlot}, fr.get k = some (v, s) → ∀ t ∈ s.toks, t ∈ frToks fr
  | [], k, v, s, h, t, ht => by simp [Fr.get] at h
  | (j, v', s') :: l, k, v, s, h, t, ht => by
    simp only [Fr.get] at h
    simp only [frToks, List.mem_append]
    split at h
    · cases h; exact .inl ht
    · exact .inr (frToks_get h t ht)

theorem osToks_get : ∀ {os : List AObj} {id : Nat} {o : AObj}, os[id]? = some o → ∀ s ∈ o.cells, ∀ t ∈ s.toks, t ∈ osToks os
  | [], id, o, h, s, hs, t, ht => by simp at h
  | o' :: l, id, o, h, s, hs, t, ht => by
    simp only [osToks, List.mem_append, List.mem_flatMap]
    cases id with
    | zero => simp at h; subst h; exact .inl ⟨s, hs, ht⟩
    | succ id => exact .inr (osToks_get (by simpa using h) s hs t ht)

/-- Forgetting is sound. -/
theorem Weak.sr {k0 : Nat} (h : Weak k0 st st') (hr : SR N T g w st a) (hG : G g0 w0 g w) (h0 : ∀ b id, g0 b = .obj id → id < k0) :
    ∃ g', SR N (below st'.nt) g' w st' a ∧ G g0 w0 g' w := by
  let hs := pairsFr st.fr st'.fr ++ pairsOs st.os st'.os
  have back : ∀ b id, wkG hs (keepOf st'.os) g b = .obj id → g b = .obj id := by
    intro b id hb
    unfold wkG at hb
    split at hb
    · cases hb
    · split at hb <;> cases hb
    · split at hb
      · cases hb; assumption
      · cases hb
    · exact hb
  refine ⟨wkG hs (keepOf st'.os) g, ⟨fun b hb => ?_, hr.defers, hr.size, fun k v s' hk => ?_, fun id o ho hn => ?_, fun b b' id hb hb' => ?_, fun b id hb => ?_, ?_⟩, ?_⟩
  · unfold wkG; rw [hr.dom b hb]
  · obtain ⟨s, q1, q2, q3⟩ := frW_get h.fr k v s' hk
    obtain ⟨r1, r2⟩ := hr.slots k v s q1
    exact ⟨fun hv => rs_of_rc (rc_weak h.nd (fun p hp => List.mem_append_left _ (q3 p hp)) h.live (r1 hv) (q2 hv)), r2⟩
  · cases o with
    | none => exact (hn rfl).elim
    | row cs' =>
      obtain ⟨cs, q1, q2, q3⟩ := osW_get h.os id cs' ho
      obtain ⟨k1, k2⟩ := csW_get q2
      rcases hr.objs id (.row cs) q1 (by simp) with ⟨b, hb, c, e, r1, r2, r3⟩ | ⟨hv, hno⟩
      case inr =>
        have hc0 : cs = [] := by simpa using hv
        subst hc0
        have : cs' = [] := List.eq_nil_of_length_eq_zero (by simpa using k1)
        subst this
        exact .inr ⟨rfl, fun b hb => hno b (back b id hb)⟩
      refine .inl ⟨b, by unfold wkG; rw [hb]; simp [keepOf, ho], c, e, r1, by omega, fun i s' hi => ?_⟩
      obtain ⟨s, p1, p2, p3⟩ := k2 i s' hi
      obtain ⟨v, v1, v2, v3⟩ := r3 i s p1
      exact ⟨v, v1, v2, rc_weak h.nd (fun p hp => List.mem_append_right _ (q3 p (p3 p hp))) h.live (rs_of_rc v3) p2⟩
  · exact hr.inj b b' id (back b id hb) (back b' id hb')
  · unfold wkG at hb
    split at hb
    · cases hb
    · split at hb <;> cases hb
    · rename_i id' hg
      split at hb
      · rename_i hk
        cases hb
        unfold keepOf at hk
        split at hk
        · rename_i cs hcs
          exact ⟨_, hcs, by simp⟩
        · cases hk
      · cases hb
    · rename_i r hn1 hn0 hn2
      exact (hn2 id hb).elim
  · refine ⟨fun t ht => h.wf t ?_, fun k s hk t ht => h.wf t ?_, fun id o ho s hsm t ht => h.wf t ?_⟩
    · simp only [List.mem_append]; exact .inl (.inl ht)
    · simp only [List.mem_append]; exact .inl (.inr (frToks_get hk t ht))
    · simp only [List.mem_append]; exact .inr (osToks_get ho s hsm t ht)
  · refine ⟨hG.os, hG.tape, hG.output, hG.size, fun b hb hg => ?_, fun b n hb hg => ?_, fun b n t hb hg => ?_, fun b id hb hg => ?_⟩
    · obtain ⟨q1, q2⟩ := hG.out b hb hg
      exact ⟨q1, by unfold wkG; rw [q2]⟩
    · obtain ⟨q1, q2⟩ := hG.rowN b n hb hg
      exact ⟨q1, by unfold wkG; rw [q2]⟩
    · obtain ⟨n', o', q1, q2, q3⟩ := hG.rowS b n t hb hg
      obtain ⟨n'', o'', r1, r2, r3⟩ := rowsKept_wk (hs := hs) (keep := keepOf st'.os) (w := w) b n' o' q1
      exact ⟨n'', o'', r1, by omega, fun i u hi hu => r3 i u (by omega) (q3 i u hi hu)⟩
    · obtain ⟨hgb, hbz⟩ := hG.obj b id hb hg
      obtain ⟨o, ho, hn⟩ := hr.ids b id hgb
      have hk : keepOf st.os id = true := by
        unfold keepOf; rw [ho]
        cases o with
        | none => exact (hn rfl).elim
        | row _ => rfl
      unfold wkG
      rw [hgb]
      simp [h.base id (h0 b id hg) hk, hbz]

end
end Go.Abs
