/- The abstract layer, part 15: contracts of functions, and their use at a call. -/
import Derived.Test.YthcpckcgjplhiaaAn
namespace Go.Abs

structure ObjsOk (g : Ghost) (w : World) (live : List Nat) (os : List AObj) : Prop where
  objs : ∀ (id : Nat) (o : AObj), os[id]? = some o → o ≠ .none → ∃ b, g b = .obj id ∧ RO g w live b o
  inj : ∀ (b b' id : Nat), g b = .obj id → g b' = .obj id → b = b'
  ids : ∀ (b id : Nat), g b = .obj id → ∃ o, os[id]? = some o ∧ o ≠ .none

def toksOf (l : List ASlot) : List Nat := l.flatMap ASlot.toks

/-- THE CONTRACT OF A FUNCTION: called with such arguments, over such objects, it returns such a result, and leaves such objects. -/
def ACall (P : Program) (f : FuncId) (args : List ASlot) (objs : List AObj) (r : ASlot) (objs' : List AObj) : Prop :=
  ∀ (g : Ghost) (w : World) (vs : List Value), Dom g w → vs.length = args.length →
    (∀ (i : Nat) (v : Value) (s : ASlot), vs[i]? = some v → args[i]? = some s → RC g w (toksOf args) v s) → ObjsOk g w (toksOf args) objs →
    Calls P f vs.toArray w fun e w' => ∃ v g' live', e = .returned v ∧ G g w g' w' ∧ Dom g' w' ∧ (∀ t ∈ r.toks, t ∈ live') ∧ RS g' w' live' v r ∧ ObjsOk g' w' live' objs'

/-- An argument as the contract wants it. -/
def matchA : ASlot → ASlot → Prop
  | s, .d x => s.eqvD x
  | .own _ es rows, .own _ es' rows' => es = es' ∧ D.eqvR rows rows'
  | .full es rows, .own _ es' rows' => rowsEqv es rows es' rows'
  | .full es rows, .full es' rows' => rowsEqv es rows es' rows'
  | .d .nilsl, .own _ _ rows' => rows' = []
  | .d .nilsl, .full _ rows' => rows' = []
  | .rd cs, .rd cs' => D.eqvL cs cs'
  | _, _ => False

def matchAll : List ASlot → List ASlot → Prop
  | [], [] => True
  | s :: l, f :: r => matchA s f ∧ matchAll l r
  | _, _ => False

/-- The tokens that are handed over: the caller's, and the contract's name for each. -/
def handed : List ASlot → List ASlot → List (Nat × Nat)
  | .own t _ _ :: l, .own t' _ _ :: r => (t, t') :: handed l r
  | _ :: l, _ :: r => handed l r
  | _, _ => []

def ASlot.noPtr : ASlot → Bool
  | .d x => x.noPtr
  | .own _ _ rows => D.noPtrR rows
  | .full _ rows => D.noPtrR rows
  | .rd cs => D.noPtrL cs
  | _ => false

/-- A result's tokens, under new names. -/
def renT (toks : List Nat) (base : Nat) : ASlot → ASlot
  | .own t es rows => .own (base + toks.idxOf t) es rows
  | s => s

def retok (base : Nat) (r : ASlot) : ASlot :=
  match r with
  | .tup l => .tup (l.map (renT r.toks base))
  | s => renT r.toks base s

theorem renT_toks {toks : List Nat} {base t : Nat} {s : ASlot} (hn : ∀ l, s ≠ .tup l) (h : t ∈ (renT toks base s).toks) : ∃ u ∈ s.toks, t = base + toks.idxOf u := by
  cases s with
  | own u es rows => simp [renT, ASlot.toks] at h ⊢; exact h
  | tup l => exact (hn l rfl).elim
  | _ => simp [renT, ASlot.toks] at h

theorem tokOf_sub {s : ASlot} {t : Nat} (h : t ∈ tokOf s) : t ∈ s.toks ∧ ∀ l, s ≠ .tup l := by
  cases s <;> simp [tokOf] at h
  subst h
  exact ⟨by simp [ASlot.toks], by simp⟩

theorem retok_toks {base t : Nat} {r : ASlot} (h : t ∈ (retok base r).toks) : base ≤ t ∧ t < base + r.toks.length := by
  have fin : ∀ u, u ∈ r.toks → t = base + r.toks.idxOf u → base ≤ t ∧ t < base + r.toks.length := by
    intro u hu ht
    have := List.idxOf_lt_length_of_mem hu
    omega
  by_cases hr : ∃ l, r = .tup l
  · obtain ⟨l, rfl⟩ := hr
    simp only [retok, ASlot.toks, List.mem_flatMap, List.mem_map] at h
    obtain ⟨s, ⟨s', hs', rfl⟩, hts⟩ := h
    obtain ⟨h1, h2⟩ := tokOf_sub hts
    have hn : ∀ l, s' ≠ .tup l := by intro l' hl; subst hl; exact h2 _ rfl
    obtain ⟨u, hu, ht⟩ := renT_toks hn h1
    refine fin u ?_ ht
    simp only [ASlot.toks, List.mem_flatMap]
    refine ⟨s', hs', ?_⟩
    cases s' <;> simp [ASlot.toks] at hu
    · subst hu; simp [tokOf]
    · exact (hn _ rfl).elim
  · have hn : ∀ l, r ≠ .tup l := fun l h => hr ⟨l, h⟩
    have he : retok base r = renT r.toks base r := by cases r <;> first | rfl | exact (hn _ rfl).elim
    rw [he] at h
    obtain ⟨u, hu, ht⟩ := renT_toks hn h
    exact fin u hu ht

def pairOf (l : List (Nat × Nat)) (t : Nat) : Option Nat := (l.find? (·.1 == t)).map (·.2)

theorem pairOf_mem {l : List (Nat × Nat)} {t t' : Nat} (h : pairOf l t = some t') : (t, t') ∈ l := by
  unfold pairOf at h
  cases hf : l.find? (·.1 == t) with
  | none => simp [hf] at h
  | some p =>
    simp [hf] at h
    have h1 := List.find?_some hf
    have h2 := List.mem_of_find?_eq_some hf
    obtain ⟨p1, p2⟩ := p
    simp at h1 h
    subst h1 h
    exact h2

theorem pairOf_none {l : List (Nat × Nat)} {t : Nat} (h : pairOf l t = none) : t ∉ l.map (·.1) := by
  intro hm
  obtain ⟨p, hp, rfl⟩ := List.mem_map.1 hm
  unfold pairOf at h
  simp only [Option.map_eq_none_iff, List.find?_eq_none] at h
  exact h p hp (by simp)

theorem pairOf_of_mem {l : List (Nat × Nat)} (hn : (l.map (·.1)).Nodup) {t t' : Nat} (h : (t, t') ∈ l) : pairOf l t = some t' := by
  cases hp : pairOf l t with
  | none => exact (pairOf_none hp (List.mem_map.2 ⟨(t, t'), h, rfl⟩)).elim
  | some u =>
    have := pairOf_mem hp
    congr 1
    induction l with
    | nil => cases h
    | cons q l ih =>
      simp only [List.map_cons, List.nodup_cons] at hn
      have hp' : ∀ x, (t, x) ∈ l → q.1 ≠ t := fun x hx he => hn.1 (List.mem_map.2 ⟨(t, x), hx, he.symm⟩)
      rcases List.mem_cons.1 h with h1 | h1 <;> rcases List.mem_cons.1 this with h2 | h2
      · rw [← h1] at h2; cases h2; rfl
      · exact (hp' u h2 (by rw [← h1])).elim
      · exact (hp' t' h1 (by rw [← h2])).elim
      · refine ih hn.2 h1 ?_ h2
        unfold pairOf at hp ⊢
        rw [List.find?_cons_of_neg (by simpa using hp' u h2)] at hp
        exact hp

/-- The ghost as the callee has it. -/
def calleeG (hs : List (Nat × Nat)) (g : Ghost) : Ghost := fun b =>
  match g b with
  | .row n (some t) => .row n (pairOf hs t)
  | .row n none => .row n none
  | _ => .out

/-- The ghost behind the call. -/
def backG (hs : List (Nat × Nat)) (size : Nat) (ren : Nat → Option Nat) (g g1 : Ghost) : Ghost := fun b =>
  if b < size then
    match g b with
    | .row n (some t) => match pairOf hs t with
      | some _ => match g1 b with
        | .row n' o => .row n' (o.bind ren)
        | _ => .row n none
      | none => .row n (some t)
    | r => r
  else match g1 b with
    | .row n' o => .row n' (o.bind ren)
    | _ => .out

section
variable {P : Program} {T : Nat → Prop} {g : Ghost} {w : World} {live : List Nat}

theorem asD_rv {v : Value} {s : ASlot} {x : D} (h : RS g w live v s) (hd : s.asD = some x) : RV g w v x := by
  cases s <;> simp [ASlot.asD] at hd <;> subst hd
  · exact h
  · exact h.1
  · exact h.1

theorem eqvD_rv {v : Value} {s : ASlot} {x : D} (h : RS g w live v s) (hd : s.eqvD x) : RV g w v x := by
  cases s with
  | d y => exact RV.eqv h hd
  | own t es rows => exact RV.eqv h.1 hd
  | full es rows => exact RV.eqv h.1 hd
  | _ => exact hd.elim

theorem rowsEqv_rv {v : Value} {es es' : Nat} {rows rows' : List (List D)} (h : RV g w v (.sl es rows)) (he : rowsEqv es rows es' rows') : RV g w v (.sl es' rows') :=
  h.eqv (by simp only [D.eqv]; exact he)

theorem full_eqv {v : Value} {rows rows' : List (List D)} (h : ∃ a, v = .slice a rows.length rows.length) (he : D.eqvR rows rows') : ∃ a, v = .slice a rows'.length rows'.length := by
  rw [← (D.eqvR_flat he).2.1]; exact h

theorem ownOk_eqv {t es : Nat} {v : Value} {rows rows' : List (List D)} (h : OwnOk g w t es rows v) (he : D.eqvR rows rows') : OwnOk g w t es rows' v := by
  unfold OwnOk
  rw [← (D.eqvR_flat he).2.1]; exact h

/-- A pointer to cells that stand for good, up to the element size of empty slices. -/
theorem rd_eqv {v : Value} {cs cs' : List D} (h : RC g w live v (.rd cs)) (he : D.eqvL cs cs') : RC g w live v (.rd cs') := by
  obtain ⟨b, off, n, o, f, rfl, hg, hn, hcc⟩ := h
  refine ⟨b, off, n, o, f, rfl, hg, by rw [← D.eqvL_length he]; exact hn, fun j d' hj => ?_⟩
  obtain ⟨d, hd, hdd⟩ := D.eqvL_get he j d' hj
  obtain ⟨c1, c2, c3⟩ := hcc j d hd
  exact ⟨by rw [D.eqv_isCell hdd]; exact c1, c2, c3.eqv hdd⟩

theorem nil_own {v : Value} {y : D} {t es : Nat} {rows : List (List D)} (h : RS g w live v (.d y)) (hm : matchA (.d y) (.own t es rows)) : v = .slice none 0 0 ∧ rows = [] := by
  cases y <;> first | exact hm.elim | skip
  have h' : RV g w v .nilsl := h
  cases h'
  exact ⟨rfl, hm⟩

theorem nil_full {v : Value} {y : D} {es : Nat} {rows : List (List D)} (h : RS g w live v (.d y)) (hm : matchA (.d y) (.full es rows)) : v = .slice none 0 0 ∧ rows = [] := by
  cases y <;> first | exact hm.elim | skip
  have h' : RV g w v .nilsl := h
  cases h'
  exact ⟨rfl, hm⟩

theorem matchAll_get : ∀ {l r : List ASlot}, matchAll l r → l.length = r.length ∧ ∀ (i : Nat) (s f : ASlot), l[i]? = some s → r[i]? = some f → matchA s f
  | [], [], _ => by simp
  | s :: l, f :: r, h => by
    obtain ⟨h1, h2⟩ := h
    obtain ⟨k1, k2⟩ := matchAll_get h2
    refine ⟨by simp [k1], fun i s' f' hs hf => ?_⟩
    cases i with
    | zero => simp at hs hf; subst hs hf; exact h1
    | succ i => exact k2 i s' f' (by simpa using hs) (by simpa using hf)
  | [], _ :: _, h => h.elim
  | _ :: _, [], h => h.elim

theorem handed_get : ∀ {l r : List ASlot} (i t es : Nat) (rows : List (List D)) (t' es' : Nat) (rows' : List (List D)), l[i]? = some (.own t es rows) → r[i]? = some (.own t' es' rows') → (t, t') ∈ handed l r
  | [], _, i, t, es, rows, t', es', rows', h, _ => by simp at h
  | s :: l, [], i, t, es, rows, t', es', rows', _, h => by simp at h
  | s :: l, f :: r, i, t, es, rows, t', es', rows', hs, hf => by
    cases i with
    | zero => simp at hs hf; subst hs hf; simp [handed]
    | succ i =>
      have ih := handed_get (l := l) (r := r) i t es rows t' es' rows' (by simpa using hs) (by simpa using hf)
      cases s <;> cases f <;> simp [handed] <;> first | exact ih | exact .inr ih

/-- Fits of all arguments at a call. -/
structure Fits (live : List Nat) (as fa : List ASlot) : Prop where
  all : matchAll as fa
  noPtr : fa.all ASlot.noPtr = true
  lv : ∀ p ∈ handed as fa, p.1 ∈ live
  nd1 : ((handed as fa).map (·.1)).Nodup

theorem rowsKept_callee (hs : List (Nat × Nat)) (g : Ghost) (w : World) : RowsKept g w (calleeG hs g) w := by
  intro b n o hg
  refine ⟨n, o.bind (pairOf hs), ?_, Nat.le_refl _, fun _ _ _ h => h⟩
  unfold calleeG
  rw [hg]
  cases o <;> rfl

theorem call_pure {f : FuncId} {as fa : List ASlot} {r : ASlot} (hc : ACall P f fa [] r []) (hd : Dom g w) (hfit : Fits live as fa) (hrt : r.toks.Nodup) (base : Nat) (hfr : Fresh T base) (hfew : r.toks.length ≤ 16)
    {vs : List Value} (hvl : vs.length = as.length) (hv : ∀ (i : Nat) (v : Value) (s : ASlot), vs[i]? = some v → as[i]? = some s → RS g w live v s) :
    Calls P f vs.toArray w fun e w' => ∃ v g', e = .returned v ∧
      Qt T g w g' w' live ((live.filter fun t => !((handed as fa).map (·.1)).contains t) ++ (retok base r).toks) ∧
      RS g' w' ((live.filter fun t => !((handed as fa).map (·.1)).contains t) ++ (retok base r).toks) v (retok base r) := by
  obtain ⟨ml, mg⟩ := matchAll_get hfit.all
  have hrk := rowsKept_callee (handed as fa) g w
  have hdom : Dom (calleeG (handed as fa) g) w := fun b hb => by unfold calleeG; rw [hd b hb]
  have hnoobj : ∀ b id, calleeG (handed as fa) g b ≠ .obj id := by
    intro b id h
    unfold calleeG at h
    split at h <;> cases h
  have hargs : ∀ (i : Nat) (v : Value) (s : ASlot), vs[i]? = some v → fa[i]? = some s → RC (calleeG (handed as fa) g) w (toksOf fa) v s := by
    intro i v s hvi hfi
    have hlt : i < as.length := by rw [ml]; exact (List.getElem?_eq_some_iff.1 hfi).1
    have hai := List.getElem?_eq_getElem hlt
    have hm := mg i _ s hai hfi
    have hrs := hv i v _ hvi hai
    have hnp : s.noPtr = true := List.all_eq_true.1 hfit.noPtr s (List.mem_of_getElem? hfi)
    generalize hA : as[i] = actual at hm hrs hai
    cases s with
    | d x => exact (eqvD_rv hrs hm).mono_noPtr hrk hnp
    | own t' es' rows' =>
      cases actual with
      | own t es rows =>
        obtain ⟨rfl, he⟩ := hm
        have hmem := handed_get i t es rows t' es rows' hai hfi
        have hpair := pairOf_of_mem hfit.nd1 hmem
        refine ⟨(rowsEqv_rv hrs.1 ⟨.inl rfl, he⟩).mono_noPtr hrk hnp, fun _ => ?_⟩
        rcases ownOk_eqv (hrs.2 (hfit.lv _ hmem)) he with hf | ⟨b, cap, cur, e, h1, h2, h3⟩
        · exact .inl hf
        · refine .inr ⟨b, cap, cur, e, h1, ?_, h3⟩
          unfold calleeG
          rw [h2]
          simp only [hpair]
      | full es rows => exact ⟨(rowsEqv_rv hrs.1 hm).mono_noPtr hrk hnp, fun _ => .inl (full_eqv hrs.2 hm.2)⟩
      | d y =>
        obtain ⟨rfl, rfl⟩ := nil_own hrs hm
        exact ⟨.nilsl none 0 es' (fun _ => rfl), fun _ => .inl ⟨none, rfl⟩⟩
      | _ => exact hm.elim
    | full es' rows' =>
      cases actual with
      | full es rows => exact ⟨(rowsEqv_rv hrs.1 hm).mono_noPtr hrk hnp, full_eqv hrs.2 hm.2⟩
      | d y =>
        obtain ⟨rfl, rfl⟩ := nil_full hrs hm
        exact ⟨.nilsl none 0 es' (fun _ => rfl), none, rfl⟩
      | _ => exact hm.elim
    | rd cs' =>
      cases actual with
      | rd cs =>
        obtain ⟨b, off, n, o, fn, rfl, hg, hn, hcc⟩ := rd_eqv (live := live) hrs hm
        obtain ⟨n', o', hg', hnn, hcell⟩ := hrk b n o hg
        refine ⟨b, off, n', o', fn, rfl, hg', by omega, fun j d hj => ?_⟩
        obtain ⟨c1, c2, c3⟩ := hcc j d hj
        have hjl : j < cs'.length := (List.getElem?_eq_some_iff.1 hj).1
        have hnpd : d.noPtr = true := (D.noPtrL_iff cs').1 hnp d (List.mem_of_getElem? hj)
        exact ⟨c1, hcell _ _ (by omega) c2, c3.mono_noPtr hrk hnpd⟩
      | _ => exact hm.elim
    | _ => simp [ASlot.noPtr] at hnp
  have hobjs : ObjsOk (calleeG (handed as fa) g) w (toksOf fa) [] :=
    ⟨fun id o h => by simp at h, fun b b' id h => (hnoobj b id h).elim, fun b id h => (hnoobj b id h).elim⟩
  refine (hc _ w vs hdom (by rw [hvl, ml]) hargs hobjs).mono ?_
  rintro e w' ⟨v, g1, live1, rfl, hG, hdom1, hlive1, hrs1, hobjs1⟩
  have hno1 : ∀ b id, g1 b ≠ .obj id := fun b id h => by obtain ⟨o, ho, _⟩ := hobjs1.ids b id h; simp at ho
  -- what the callee's ghost says of blocks that were there
  have cOut : ∀ b, g b = .out → calleeG (handed as fa) g b = .out := fun b h => by unfold calleeG; rw [h]
  have cObj : ∀ b id, g b = .obj id → calleeG (handed as fa) g b = .out := fun b id h => by unfold calleeG; rw [h]
  have cNone : ∀ b n, g b = .row n none → calleeG (handed as fa) g b = .row n none := fun b n h => by unfold calleeG; rw [h]
  have cSome : ∀ b n t, g b = .row n (some t) → calleeG (handed as fa) g b = .row n (pairOf (handed as fa) t) := fun b n t h => by unfold calleeG; rw [h]
  let ren : Nat → Option Nat := fun u => if u ∈ r.toks then some (base + r.toks.idxOf u) else none
  refine ⟨v, backG (handed as fa) w.heap.size ren g g1, rfl, ?_, ?_⟩
  · have bOut : ∀ b, b < w.heap.size → g b = .out → backG (handed as fa) w.heap.size ren g g1 b = .out := fun b hb h => by unfold backG; rw [if_pos hb, h]
    have bObj : ∀ b id, b < w.heap.size → g b = .obj id → backG (handed as fa) w.heap.size ren g g1 b = .obj id := fun b id hb h => by unfold backG; rw [if_pos hb, h]
    have bNone : ∀ b n, b < w.heap.size → g b = .row n none → backG (handed as fa) w.heap.size ren g g1 b = .row n none := fun b n hb h => by unfold backG; rw [if_pos hb, h]
    have bKeep : ∀ b n t, b < w.heap.size → g b = .row n (some t) → pairOf (handed as fa) t = none → backG (handed as fa) w.heap.size ren g g1 b = .row n (some t) := fun b n t hb h hp => by unfold backG; rw [if_pos hb, h]; simp only [hp]
    refine ⟨⟨hG.os, hG.tape, hG.output, hG.size, fun b hb h => ⟨(hG.out b hb (cOut b h)).1, bOut b hb h⟩, fun b n hb h => ⟨(hG.rowN b n hb (cNone b n h)).1, bNone b n hb h⟩, fun b n t hb h => ?_, fun b id hb h => bObj b id hb h⟩, fun b hb => ?_, fun b id h => ?_, fun b id h => ?_, fun b n t htb htl h => ?_, fun t htb htl => ?_⟩
    · cases hp : pairOf (handed as fa) t with
      | none =>
        have hcb := cSome b n t h
        rw [hp] at hcb
        obtain ⟨h1, _⟩ := hG.rowN b n hb hcb
        exact ⟨n, some t, bKeep b n t hb h hp, Nat.le_refl _, fun i u _ hu => by rw [cell_same h1]; exact hu⟩
      | some t' =>
        have hcb := cSome b n t h
        rw [hp] at hcb
        obtain ⟨n', o', q1, q2, q3⟩ := hG.rowS b n t' hb hcb
        refine ⟨n', o'.bind ren, ?_, q2, q3⟩
        unfold backG
        rw [if_pos hb, h]
        simp only [hp, q1]
    · unfold backG
      have := hG.size
      rw [if_neg (by omega), hdom1 b hb]
    · exact (hG.out b (hd.lt_obj h) (cObj b id h)).1
    · unfold backG at h
      split at h
      · split at h
        · split at h
          · split at h <;> cases h
          · cases h
        · exact h
      · split at h <;> cases h
    · have hb := hd.lt_row h
      have hnt : t ∉ (handed as fa).map (·.1) := by
        rcases List.mem_append.1 htl with h1 | h1
        · simpa using (List.mem_filter.1 h1).2
        · exfalso
          have := retok_toks h1
          exact hfr t htb ⟨by omega, by omega⟩
      have hp : pairOf (handed as fa) t = none := by
        cases hp : pairOf (handed as fa) t with
        | none => rfl
        | some t' => exact (hnt (List.mem_map.2 ⟨(t, t'), pairOf_mem hp, rfl⟩)).elim
      have hcb := cSome b n t h
      rw [hp] at hcb
      exact ⟨bKeep b n t hb h hp, (hG.rowN b n hb hcb).1⟩
    · rcases List.mem_append.1 htl with h1 | h1
      · exact (List.mem_filter.1 h1).1
      · exfalso
        have := retok_toks h1
        exact hfr t htb ⟨by omega, by omega⟩
  · have hrow : RowsKept g1 w' (backG (handed as fa) w.heap.size ren g g1) w' := by
      intro b n o h
      unfold backG
      by_cases hb : b < w.heap.size
      · rw [if_pos hb]
        cases hg : g b with
        | out => rw [(hG.out b hb (cOut b hg)).2] at h; cases h
        | obj id => rw [(hG.out b hb (cObj b id hg)).2] at h; cases h
        | row m om =>
          cases om with
          | none =>
            rw [(hG.rowN b m hb (cNone b m hg)).2] at h
            cases h
            exact ⟨_, _, rfl, Nat.le_refl _, fun _ _ _ h => h⟩
          | some t =>
            cases hp : pairOf (handed as fa) t with
            | none =>
              have hcb := cSome b m t hg
              rw [hp] at hcb
              rw [(hG.rowN b m hb hcb).2] at h
              cases h
              simp only [hp]
              exact ⟨_, _, rfl, Nat.le_refl _, fun _ _ _ h => h⟩
            | some t' =>
              simp only [hp, h]
              exact ⟨_, _, rfl, Nat.le_refl _, fun _ _ _ h => h⟩
      · rw [if_neg hb, h]
        exact ⟨_, _, rfl, Nat.le_refl _, fun _ _ _ h => h⟩
    have hown : ∀ b n u, g1 b = .row n (some u) → backG (handed as fa) w.heap.size ren g g1 b = .row n (ren u) := by
      intro b n u h
      unfold backG
      by_cases hb : b < w.heap.size
      · rw [if_pos hb]
        cases hg : g b with
        | out => rw [(hG.out b hb (cOut b hg)).2] at h; cases h
        | obj id => rw [(hG.out b hb (cObj b id hg)).2] at h; cases h
        | row m om =>
          cases om with
          | none => rw [(hG.rowN b m hb (cNone b m hg)).2] at h; cases h
          | some t =>
            cases hp : pairOf (handed as fa) t with
            | none =>
              have hcb := cSome b m t hg
              rw [hp] at hcb
              rw [(hG.rowN b m hb hcb).2] at h
              cases h
            | some t' => simp only [hp, h]; rfl
      · rw [if_neg hb, h]; rfl
    have hrc : ∀ {u : Value} {s : ASlot}, RC g1 w' live1 u s → (∀ t ∈ s.toks, t ∈ r.toks) → RC (backG (handed as fa) w.heap.size ren g g1) w' ((live.filter fun t => !((handed as fa).map (·.1)).contains t) ++ (retok base r).toks) u (renT r.toks base s) := by
      intro u s h ht
      cases s with
      | d x => exact h.mono_noObj hrow hno1
      | own t es rows =>
        have htm : t ∈ r.toks := ht t (by simp [ASlot.toks])
        refine ⟨h.1.mono_noObj hrow hno1, fun _ => ?_⟩
        rcases h.2 (hlive1 t htm) with hf | ⟨b, cap, cur, e, h1, h2, h3⟩
        · exact .inl hf
        · refine .inr ⟨b, cap, cur, e, h1, ?_, h3⟩
          rw [hown b _ t h2]
          simp only [ren, if_pos htm]
      | full es rows => exact ⟨h.1.mono_noObj hrow hno1, h.2⟩
      | rd cells =>
        obtain ⟨b, off, n, o, fn, rfl, hg, hn, hcc⟩ := h
        obtain ⟨n', o', hg', hnn, hcell⟩ := hrow b n o hg
        refine ⟨b, off, n', o', fn, rfl, hg', by omega, fun j d hj => ?_⟩
        obtain ⟨c1, c2, c3⟩ := hcc j d hj
        have hjl : j < cells.length := (List.getElem?_eq_some_iff.1 hj).1
        exact ⟨c1, hcell _ _ (by omega) c2, c3.mono_noObj hrow hno1⟩
      | tup l => exact h.elim
      | bad => trivial
    cases r with
    | tup l =>
      obtain ⟨us, rfl, hl, hcs⟩ := hrs1
      refine ⟨us, rfl, by simp [hl], fun i u s hu hs' => ?_⟩
      simp only [List.getElem?_map, Option.map_eq_some_iff] at hs'
      obtain ⟨s0, hs0, rfl⟩ := hs'
      refine hrc (hcs i u s0 hu hs0) (fun t htt => ?_)
      cases s0 with
      | own t' es rows =>
        simp only [ASlot.toks, List.mem_singleton] at htt
        subst htt
        simp only [ASlot.toks, List.mem_flatMap]
        exact ⟨_, List.mem_of_getElem? hs0, by simp [tokOf]⟩
      | tup l' => exact (hcs i u _ hu hs0).elim
      | _ => simp [ASlot.toks] at htt
    | _ => exact rs_of_rc (hrc (rc_of_rs hrs1 (by simp)) (fun t h => h))

end
end Go.Abs
