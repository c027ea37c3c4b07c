/- The abstract layer, part 16: one operation, of whatever kind but a call. -/
import Derived.Test.YthcpckcgjplhiaaAo
namespace Go.Abs

section
variable {P : Program} {N tb : Nat} {T : Nat → Prop} {g : Ghost} {w : World} {st : St} {a : Act} {oper : Oper}

/-- The tokens behind an operation. -/
def Next (T : Nat → Prop) (tb : Nat) : Nat → Prop := fun t => T t ∨ (tb ≤ t ∧ t < tb + 16)

/-- What an operation comes to. -/
def Does (P : Program) (N : Nat) (T : Nat → Prop) (tb : Nat) (g : Ghost) (w : World) (st : St) (a : Act) (oper : Oper) (out : Out) : Prop :=
  ∃ n v w' g', (execOp a.eval oper).run P w = .ok n w' ∧ (n = .value v ∨ (n = .skip ∧ v = undef)) ∧ G g w g' w' ∧
    SR N (Next T tb) g' w' { withObj st out.wr with live := liveAfter st.live out } a ∧ RS g' w' (liveAfter st.live out) v out.v ∧ ∀ t ∈ out.v.toks, Next T tb t

theorem liveAfter_pure {live : List Nat} {o : Out} (h1 : o.cons = []) (h2 : o.iss = []) : liveAfter live o = live := by
  simp [liveAfter, h1, h2]

theorem does_gives {out : Out} (hs : SR N T g w st a) (h : Gives P g w st a oper out.v) (hw : out.wr = none) (hc : out.cons = []) (hi : out.iss = []) (ht : ∀ t ∈ out.v.toks, T t) : Does P N T tb g w st a oper out := by
  obtain ⟨v, h1, h2⟩ := h
  refine ⟨_, v, w, g, h1, .inl rfl, G.refl g w, ?_, ?_, fun t htm => .inl (ht t htm)⟩
  · rw [hw, liveAfter_pure hc hi]
    exact hs.quiet (Qt.refl _ hs.dom _) (fun _ h => .inl h) (fun t htm => .inl (hs.wf.live t htm))
  · rw [liveAfter_pure hc hi]; exact h2

theorem does_step {out : Out} (hs : SR N T g w st a) (h : ∃ v w' g', (execOp a.eval oper).run P w = .ok (.value v) w' ∧ Qt T g w g' w' st.live (liveAfter st.live out) ∧ RS g' w' (liveAfter st.live out) v out.v)
    (hw : out.wr = none) (hi : ∀ t ∈ out.iss, Next T tb t) (ht : ∀ t ∈ out.v.toks, Next T tb t) : Does P N T tb g w st a oper out := by
  obtain ⟨v, w', g', h1, h2, h3⟩ := h
  refine ⟨_, v, w', g', h1, .inl rfl, h2.toG, ?_, h3, ht⟩
  rw [hw]
  exact hs.quiet h2 (fun _ h => .inl h) (fun t htm => by
    rcases mem_liveAfter.1 htm with ⟨h, _⟩ | h
    · exact .inl (hs.wf.live t h)
    · exact hi t h)

theorem does_obj {out : Out} (h : ∃ v w' g', (execOp a.eval oper).run P w = .ok (.value v) w' ∧ G g w g' w' ∧ SR N T g' w' (withObj st out.wr) a ∧ RS g' w' st.live v out.v)
    (hc : out.cons = []) (hi : out.iss = []) (ht : ∀ t ∈ out.v.toks, T t) : Does P N T tb g w st a oper out := by
  obtain ⟨v, w', g', h1, h2, h3, h4⟩ := h
  have hl : (withObj st out.wr).live = st.live := by unfold withObj; split <;> rfl
  refine ⟨_, v, w', g', h1, .inl rfl, h2, ?_, ?_, fun t htm => .inl (ht t htm)⟩
  · rw [liveAfter_pure hc hi, ← hl]
    exact h3.quiet (live' := (withObj st out.wr).live) (Qt.refl _ h3.dom _) (fun _ h => .inl h) (fun t htm => .inl (h3.wf.live t htm))
  · rw [liveAfter_pure hc hi]; exact h4

theorem load_toks (hs : SR N T g w st a) (n : Option Nat) (s : ASlot) : ∀ t ∈ (loadOut n st.os s).v.toks, T t := by
  intro t ht
  unfold loadOut at ht
  split at ht
  · rename_i id off
    split at ht
    · simp only at ht
      by_cases h : off < (objCells st.os id).length
      · have hg : (objCells st.os id).getD off .bad = (objCells st.os id)[off] := by simp [List.getD, h]
        rw [hg] at ht
        have hm : (objCells st.os id)[off] ∈ objCells st.os id := List.getElem_mem h
        unfold objCells at h hm ht
        cases ho : st.os[id]? with
        | none => simp [ho] at h
        | some o =>
          simp only [ho] at hm ht
          exact hs.wf.os id o ho _ hm t ht
      · have hg : (objCells st.os id).getD off .bad = .bad := by simp [List.getD, h]
        rw [hg] at ht
        simp [ASlot.toks] at ht
    · simp [ASlot.toks] at ht
  · split at ht <;> simp [ASlot.toks] at ht
  · simp [Out.bad, ASlot.toks] at ht

theorem extract_toks {l : List ASlot} {i t : Nat} (h : t ∈ (l.getD i .bad).toks) (hn : ∀ x ∈ l, ∀ m, x ≠ .tup m) : t ∈ (ASlot.tup l).toks := by
  by_cases hi : i < l.length
  · have hg : l.getD i .bad = l[i] := by simp [List.getD, hi]
    rw [hg] at h
    simp only [ASlot.toks, List.mem_flatMap]
    refine ⟨l[i], List.getElem_mem hi, ?_⟩
    cases hx : l[i] <;> rw [hx] at h <;> simp [ASlot.toks] at h
    · subst h; simp [tokOf]
    · subst h; simp [tokOf]
    · exact (hn _ (List.getElem_mem hi) _ hx).elim
  · have hg : l.getD i .bad = .bad := by simp [List.getD, hi]
    rw [hg] at h
    simp [ASlot.toks] at h

theorem opdOf_eq_none {α : Type} {x : Option α} : x = none → ∀ y, x ≠ some y := by rintro rfl y h; cases h

theorem gives_minmax {mx : Bool} {x y : Operand} {x' y' : Opd} {ts : Array TypeId} (ho : (oper.op = .call { callee := .builtin .min, args := #[x, y], argTypes := ts } ∧ mx = false) ∨ (oper.op = .call { callee := .builtin .max, args := #[x, y], argTypes := ts } ∧ mx = true))
    (hx : opdOf x = some x') (hy : opdOf y = some y') (hs : SR N T g w st a) (hob : (sem tb (.minmax mx x' y') st).ob) : Gives P g w st a oper (sem tb (.minmax mx x' y') st).v := by
  simp only [sem] at hob ⊢
  cases h1 : x'.get st.fr with
  | d p =>
    cases p with
    | int k1 n =>
      cases h2 : y'.get st.fr with
      | d q =>
        cases q with
        | int k2 m =>
          simp only [h1, h2] at hob ⊢
          obtain ⟨o1, o2, rfl⟩ := hob
          have r1 := opd_rs hs hx o1
          have r2 := opd_rs hs hy o2
          rw [h1] at r1; rw [h2] at r2
          have e1 := rv_int (rs_d r1)
          have e2 := rv_int (rs_d r2)
          rcases ho with ⟨ho, rfl⟩ | ⟨ho, rfl⟩
          · exact ⟨_, by simp [execOp, ho, resolve, invoke, builtin, Builtin.min_, Builtin.min2, e1, e2], .int _ _⟩
          · exact ⟨_, by simp [execOp, ho, resolve, invoke, builtin, Builtin.max_, Builtin.max2, e1, e2], .int _ _⟩
        | _ => simp [h1, h2, Out.bad] at hob
      | _ => simp [h1, h2, Out.bad] at hob
    | _ => simp [h1, Out.bad] at hob
  | _ => simp [h1, Out.bad] at hob

set_option linter.unusedSimpArgs false in
/-- ONE OPERATION, HELD AGAINST THE MODEL's. -/
theorem sem_sound {uu : Bool} {back : Nat} {o : SOp} (hc : compOp P uu back oper.op = some o) (hs : SR N T g w st a) (hfr : Fresh T tb) (hob : (sem tb o st).ob) (hlv : ∀ t ∈ (sem tb o st).cons, t ∈ st.live) : Does P N T tb g w st a oper (sem tb o st) := by
  generalize hop : oper.op = op at hc
  cases op with
  | move x =>
    simp only [compOp, Option.map_eq_some_iff] at hc
    obtain ⟨y, hx, rfl⟩ := hc
    exact does_gives hs (gives_mov (.inl hop) hx hs hob) rfl rfl rfl (opd_toks hs hx (by first | exact hob | exact hob.1))
  | assign x =>
    simp only [compOp, Option.map_eq_some_iff] at hc
    obtain ⟨y, hx, rfl⟩ := hc
    exact does_gives hs (gives_mov (.inr hop) hx hs hob) rfl rfl rfl (opd_toks hs hx (by first | exact hob | exact hob.1))
  | pick c x y =>
    simp only [compOp] at hc
    split at hc
    · rename_i c' x' y' h1 h2 h3
      cases hc
      have hg := gives_pick (P := P) hop h1 h2 h3 hs hob
      refine does_gives hs hg ?_ ?_ ?_ ?_ <;> simp only [sem] <;> split <;> first | rfl | simp [Out.bad, ASlot.toks]
    · cases hc
  | box t x =>
    simp only [compOp, Option.map_eq_some_iff] at hc
    obtain ⟨y, hx, rfl⟩ := hc
    exact does_obj (step_box hop hx hs hob) rfl rfl (by simp [sem, ASlot.toks])
  | alloc t =>
    simp only [compOp, Option.map_eq_some_iff] at hc
    obtain ⟨z, hz, rfl⟩ := hc
    exact does_obj (step_alloc hop hz hs hob) rfl rfl (by simp [sem, ASlot.toks])
  | build t parts =>
    simp only [compOp] at hc
    split at hc
    · rename_i z ps fs h1 h2 h3
      split at hc
      · rename_i h4; cases hc
        exact does_gives hs (gives_build hop h1 h2 (.inl ⟨fs, h3, h4⟩) hs hob) rfl rfl rfl (by simp [sem, ASlot.toks])
      · cases hc
    · rename_i z ps n e h1 h2 h3
      split at hc
      · rename_i h4; cases hc
        exact does_gives hs (gives_build hop h1 h2 (.inr ⟨n, e, h3, h4⟩) hs hob) rfl rfl rfl (by simp [sem, ASlot.toks])
      · cases hc
    · cases hc
  | buildSlice t len parts =>
    simp only [compOp] at hc
    split at hc
    · rename_i e ht
      split at hc
      · rename_i z ps i h1 h2 h3
        split at hc
        · rename_i h4; cases hc
          refine does_step hs (step_buildSlice hop ht h3 h1 h2 h4.1 h4.2.1 h4.2.2 hs hfr hob) ?_ ?_ ?_ <;> simp only [sem] <;> first | rfl | (cases uu <;> simp [ASlot.toks, Next])
        · cases hc
      · cases hc
    · cases hc
  | load t x =>
    simp only [compOp] at hc
    split at hc
    · rename_i n y h1 h2
      cases hc
      refine does_gives hs (gives_load hop h1 h2 hs hob) ?_ ?_ ?_ (load_toks hs n _) <;> simp only [sem, loadOut] <;> split <;> first | rfl | (split <;> rfl)
    · cases hc
  | store t x v =>
    simp only [compOp] at hc
    split at hc
    · rename_i n y z h1 h2 h3
      cases hc
      obtain ⟨w', q1, q2, q3⟩ := step_store hop h1 h2 h3 hs hob
      have hcons : (sem tb (.store n y z) st).cons = [] ∧ (sem tb (.store n y z) st).iss = [] ∧ (sem tb (.store n y z) st).v = .bad := by
        simp only [sem, storeOut]
        split
        · split
          · exact ⟨rfl, rfl, rfl⟩
          · split <;> exact ⟨rfl, rfl, rfl⟩
        · exact ⟨rfl, rfl, rfl⟩
      have hl : (withObj st (sem tb (.store n y z) st).wr).live = st.live := by unfold withObj; split <;> rfl
      refine ⟨_, undef, w', g, q1, .inr ⟨rfl, rfl⟩, q2, ?_, ?_, ?_⟩
      · rw [liveAfter_pure hcons.1 hcons.2.1, ← hl]
        exact q3.quiet (live' := (withObj st (sem tb (.store n y z) st).wr).live) (Qt.refl _ q3.dom _) (fun _ h => .inl h) (fun t htm => .inl (q3.wf.live t htm))
      · rw [hcons.2.2]; trivial
      · rw [hcons.2.2]; simp [ASlot.toks]
    · cases hc
  | nilCheck x =>
    simp only [compOp, Option.map_eq_some_iff] at hc
    obtain ⟨y, hx, rfl⟩ := hc
    exact does_gives hs (gives_nilCheck hop hx hs hob) rfl rfl rfl (opd_toks hs hx (by first | exact hob | exact hob.1))
  | binOp b t x y u =>
    have hbin : ∀ s1 s2 : ASlot, (binS b s1 s2).wr = none ∧ (binS b s1 s2).cons = [] ∧ (binS b s1 s2).iss = [] ∧ (binS b s1 s2).v.toks = [] := by
      intro s1 s2
      unfold binS
      split
      · split <;> (refine ⟨rfl, rfl, rfl, ?_⟩) <;> first | rfl | (unfold binInt; split <;> rfl)
      · refine ⟨rfl, rfl, rfl, ?_⟩
        unfold binStr
        split <;> rfl
      · exact ⟨rfl, rfl, rfl, rfl⟩
    simp only [compOp] at hc
    split at hc
    · rename_i x' y' k h1 h2 h3
      cases hc
      obtain ⟨q1, q2, q3, q4⟩ := hbin (x'.get st.fr) (y'.get st.fr)
      exact does_gives hs (gives_bin hop h1 h2 hs hob) q1 q2 q3 (by simp only [sem]; rw [q4]; simp)
    · rename_i x' y' h1 h2 h3
      cases hc
      obtain ⟨q1, q2, q3, q4⟩ := hbin (x'.get st.fr) (y'.get st.fr)
      exact does_gives hs (gives_bin hop h1 h2 hs hob) q1 q2 q3 (by simp only [sem]; rw [q4]; simp)
    · rename_i x' y' h1 h2 h3
      split at hc
      · cases hc
        refine does_gives hs (gives_eqb (neg := false) hop h3 h1 h2 hs hob) ?_ ?_ ?_ ?_ <;> simp only [sem] <;> split <;> first | rfl | simp [Out.bad, ASlot.toks]
      · cases hc
        refine does_gives hs (gives_eqb (neg := true) hop h3 h1 h2 hs hob) ?_ ?_ ?_ ?_ <;> simp only [sem] <;> split <;> first | rfl | simp [Out.bad, ASlot.toks]
      · cases hc
    · split at hc
      · split at hc
        · cases hc; simp [sem, Out.bad] at hob
        · cases hc; simp [sem, Out.bad] at hob
        · cases hc
      · cases hc
    · rename_i x' y' fs h1 h2 h3
      split at hc
      · rename_i ks hk
        cases hc
        refine does_gives hs (gives_eqAgg (neg := false) hop h1 h2 hk hs hob) ?_ ?_ ?_ ?_ <;> simp only [sem] <;> split <;> first | rfl | simp [Out.bad, ASlot.toks]
      · rename_i ks hk
        cases hc
        refine does_gives hs (gives_eqAgg (neg := true) hop h1 h2 hk hs hob) ?_ ?_ ?_ ?_ <;> simp only [sem] <;> split <;> first | rfl | simp [Out.bad, ASlot.toks]
      · cases hc
    · rename_i x' y' d _ _ _ _ _ h1 h2 h3
      split at hc
      · rename_i k hk
        cases hc
        refine does_gives hs (gives_eqnil (neg := false) hop h1 h3 hk hs hob) ?_ ?_ ?_ ?_ <;> simp only [sem] <;> split <;> first | rfl | simp [Out.bad, ASlot.toks]
      · rename_i k hk
        cases hc
        refine does_gives hs (gives_eqnil (neg := true) hop h1 h3 hk hs hob) ?_ ?_ ?_ ?_ <;> simp only [sem] <;> split <;> first | rfl | simp [Out.bad, ASlot.toks]
      · cases hc
    · cases hc
  | unOp b t x =>
    simp only [compOp] at hc
    split at hc
    · rename_i y hx
      cases hc
      refine does_gives hs (gives_not hop hx hs hob) ?_ ?_ ?_ ?_ <;> simp only [sem] <;> split <;> first | rfl | simp [Out.bad, ASlot.toks]
    · rename_i y hx
      cases hc
      refine does_gives hs (gives_neg hop hx hs hob) ?_ ?_ ?_ ?_ <;> simp only [sem] <;> split <;> first | rfl | simp [Out.bad, ASlot.toks]
    · cases hc
  | convert s t x =>
    simp only [compOp] at hc
    split at hc
    · rename_i j k y h1 h2 h3
      cases hc
      refine does_gives hs (gives_conv hop h1 h2 h3 hs hob) ?_ ?_ ?_ ?_ <;> simp only [sem] <;> split <;> first | rfl | simp [Out.bad, ASlot.toks]
    · rename_i y h1 h2 h3
      cases hc
      refine does_gives hs (gives_asStr hop h1 h2 h3 hs hob) ?_ ?_ ?_ ?_ <;> simp only [sem] <;> split <;> first | rfl | simp [Out.bad, ASlot.toks]
    · rename_i j y h1 h2 h3
      cases hc
      refine does_gives hs (gives_i2s hop h1 h2 h3 hs hob) ?_ ?_ ?_ ?_ <;> simp only [sem] <;> split <;> first | rfl | simp [Out.bad, ASlot.toks]
    · rename_i e y h1 h2 h3
      split at hc
      · rename_i h4
        cases hc
        cases hr : (y.get st.fr).rows with
        | some p =>
          obtain ⟨es, r⟩ := p
          refine does_gives hs (gives_b2s hr hop h1 h4 h2 h3 hs hob) ?_ ?_ ?_ ?_ <;> simp only [sem, hr] <;> first | rfl | simp [Out.bad, ASlot.toks]
        | none =>
          cases hr2 : refSrc 1 st.os (y.get st.fr) with
          | some r => refine does_gives hs (gives_b2s_ref hr hr2 hop h1 h4 h2 h3 hs hob) ?_ ?_ ?_ ?_ <;> simp only [sem, hr, hr2] <;> first | rfl | simp [Out.bad, ASlot.toks]
          | none => simp [sem, hr, hr2, Out.bad] at hob
      · cases hc
    · rename_i e y h1 h2 h3
      split at hc
      · rename_i h4
        cases hc
        refine does_step hs (step_s2b hop h1 h2 h4 h3 hs hob) ?_ ?_ ?_ <;> simp only [sem] <;> split <;> first | rfl | simp [Out.bad, ASlot.toks]
      · cases hc
    · cases hc
  | makeFunc fn first captured =>
    simp only [compOp] at hc
    split at hc
    · rename_i f' c' h1 h2
      cases hc
      exact does_gives hs (gives_mkFunc hop h1 h2 hs hob) rfl rfl rfl (by simp [sem, ASlot.toks])
    · cases hc
  | makeSlice t l c =>
    simp only [compOp] at hc
    split at hc
    · rename_i e ht
      split at hc
      · rename_i z i l' c' h1 h2 h3 h4
        split at hc
        · rename_i h5
          cases hc
          refine does_step hs (step_makeSlice hop ht h2 h1 h5.1 h5.2 h3 h4 hs hfr hob) ?_ ?_ ?_ <;> simp only [sem] <;> split <;> first | rfl | (simp [Out.bad, ASlot.toks]; done) | (cases uu <;> simp [ASlot.toks, Next])
        · cases hc
      · cases hc
    · cases hc
  | slice t x lo hi mx =>
    simp only [compOp] at hc
    split at hc
    · rename_i e x' lo' hi' mx' h1 h2 h3 h4 h5
      simp only [Option.map_eq_some_iff] at hc
      obtain ⟨i, hi', rfl⟩ := hc
      refine does_gives hs (gives_slice hop h1 hi' h2 h3 h4 h5 hs hob) ?_ ?_ ?_ ?_ <;> simp only [sem, sliceOut] <;> split <;> first | rfl | (simp [Out.bad, ASlot.toks]; done) | (split <;> first | rfl | simp [Out.bad, ASlot.toks])
    · rename_i x' lo' hi' h1 h2 h3 h4 h5
      cases hc
      have hmx : mx = none := by
        cases mx with
        | none => rfl
        | some m => cases hm : opdOf m <;> simp [hm] at h5
      subst hmx
      refine does_gives hs (gives_sliceS hop h1 h2 h3 h4 hs hob) ?_ ?_ ?_ ?_ <;> simp only [sem, sliceSOut] <;> split <;> first | rfl | simp [Out.bad, ASlot.toks]
    · rename_i n e x' lo' hi' mx' h1 h2 h3 h4 h5
      split at hc
      · rename_i i h7
        split at hc
        · cases hc
          refine does_gives hs (gives_sliceA hop h1 h7 h2 h3 h4 h5 hs hob) ?_ ?_ ?_ ?_ <;> simp only [sem, sliceAOut] <;> split <;> first | rfl | simp [Out.bad, ASlot.toks]
        · cases hc
      · cases hc
    · cases hc
  | fieldAddr t x f =>
    simp only [compOp] at hc
    split at hc
    · rename_i fs y h1 h2
      split at hc
      · rename_i fl h3
        split at hc
        · rename_i i h4
          split at hc
          · cases hc
          · rename_i h5
            cases hc
            refine does_gives hs (gives_faddr hop h1 h3 h4 h5 h2 hs hob) ?_ ?_ ?_ ?_ <;> simp only [sem] <;> split <;> first | rfl | simp [Out.bad, ASlot.toks]
        · cases hc
      · cases hc
    · cases hc
  | field t x f =>
    simp only [compOp] at hc
    split at hc
    · rename_i fs y h1 h2
      split at hc
      · rename_i fl h3
        simp only [Option.map_eq_some_iff] at hc
        obtain ⟨n, hn, rfl⟩ := hc
        refine does_gives hs (gives_field hop h1 h3 hn h2 hs hob) ?_ ?_ ?_ ?_ <;> simp only [sem] <;> split <;> first | rfl | (simp [Out.bad, ASlot.toks]; done) | (split <;> first | rfl | simp [ASlot.toks])
      · cases hc
    · cases hc
  | indexAddr t x i =>
    simp only [compOp] at hc
    split at hc
    · rename_i e x' i' h1 h2 h3
      split at hc
      · rename_i ti h4
        split at hc
        · cases hc
          refine does_gives hs (gives_iaddr hop h1 h4 h2 h3 hs hob) ?_ ?_ ?_ ?_ <;> simp only [sem] <;> split <;> first | rfl | (simp [Out.bad, ASlot.toks]; done) | (split <;> first | rfl | simp [Out.bad, ASlot.toks])
        · cases hc
      · cases hc
    · rename_i n e x' i' h1 h2 h3
      split at hc
      · rename_i ti h4
        split at hc
        · cases hc
          refine does_gives hs (gives_iaddrA hop h1 h4 h2 h3 hs hob) ?_ ?_ ?_ ?_ <;> simp only [sem] <;> split <;> first | rfl | simp [Out.bad, ASlot.toks]
        · cases hc
      · cases hc
    · cases hc
  | index t x i =>
    simp only [compOp] at hc
    split at hc
    · rename_i x' i' h1 h2 h3
      cases hc
      refine does_gives hs (gives_indexS hop h1 h2 h3 hs hob) ?_ ?_ ?_ ?_ <;> simp only [sem] <;> split <;> first | rfl | simp [Out.bad, ASlot.toks]
    · rename_i n e x' i' h1 h2 h3
      split at hc
      · rename_i ti k h4 h5
        cases hc
        refine does_gives hs (gives_indexA hop h1 h4 h5 h2 h3 hs hob) ?_ ?_ ?_ ?_ <;> simp only [sem] <;> split <;> first | rfl | (simp [Out.bad, ASlot.toks]; done) | (split <;> first | rfl | simp [ASlot.toks])
      · cases hc
    · cases hc
  | extract x i =>
    simp only [compOp, Option.map_eq_some_iff] at hc
    obtain ⟨y, hx, rfl⟩ := hc
    refine does_gives hs (gives_extract hop hx hs hob) ?_ ?_ ?_ ?_
    · simp only [sem]; split <;> rfl
    · simp only [sem]; split <;> rfl
    · simp only [sem]; split <;> rfl
    · simp only [sem] at hob ⊢
      split
      · rename_i l hl
        simp only [hl] at hob
        intro t ht
        have hrs := opd_rs hs hx hob.1
        rw [hl] at hrs
        obtain ⟨vs, _, hlen, hc⟩ := hrs
        have hmem := extract_toks ht (fun s hsl m hm => by
          obtain ⟨j, hj⟩ := List.getElem?_of_mem hsl
          have hlt : j < vs.length := by rw [hlen]; exact (List.getElem?_eq_some_iff.1 hj).1
          have := hc j _ s (List.getElem?_eq_getElem hlt) hj
          rw [hm] at this
          exact this.elim)
        have := opd_toks hs hx hob.1 t
        rw [hl] at this
        exact this hmem
      · simp [Out.bad, ASlot.toks]
  | call c =>
    obtain ⟨callee, args, argTypes⟩ := c
    cases callee with
    | value f =>
      simp only [compOp] at hc
      split at hc
      · cases hc; simp [sem, Out.bad] at hob
      · cases hc
    | invoke r m => simp [compOp] at hc
    | builtin b =>
    by_cases hlen : b = .len
    · subst hlen
      simp only [compOp] at hc
      split at hc
      · rename_i x t ha hty
        have ea : args = #[x] := by apply Array.ext'; simpa using ha
        have et : argTypes = #[t] := by apply Array.ext'; simpa using hty
        subst ea et
        split at hc
        · rename_i y h1 h2
          cases hc
          refine does_gives hs (gives_lenS hop h2 h1 hs hob) ?_ ?_ ?_ ?_ <;> simp only [sem] <;> split <;> first | rfl | simp [Out.bad, ASlot.toks]
        · rename_i y e h1 h2
          cases hc
          refine does_gives hs (gives_len hop h2 h1 hs hob) ?_ ?_ ?_ ?_ <;> simp only [sem] <;> split <;> first | rfl | simp [Out.bad, ASlot.toks]
        · cases hc
      · cases hc
    by_cases happ : b = .append
    · subst happ
      simp only [compOp] at hc
      split at hc
      · rename_i s x t u ha hty
        have ea : args = #[s, x] := by apply Array.ext'; simpa using ha
        have et : argTypes = #[t, u] := by apply Array.ext'; simpa using hty
        subst ea et
        have fin : ∀ (es bytes : Nat) (s' x' : Opd), (∃ v w' g', (execOp a.eval oper).run P w = .ok (.value v) w' ∧ Qt T g w g' w' st.live (liveAfter st.live (sem tb (.append uu es bytes s' x') st)) ∧
            RS g' w' (liveAfter st.live (sem tb (.append uu es bytes s' x') st)) v (sem tb (.append uu es bytes s' x') st).v) → Does P N T tb g w st a oper (sem tb (.append uu es bytes s' x') st) := by
          intro es bytes s' x' h
          have hU : ∀ (r : Src) (s : ASlot), (appendU es bytes tb r s).wr = none ∧ (∀ t ∈ (appendU es bytes tb r s).iss, Next T tb t) ∧ ∀ t ∈ (appendU es bytes tb r s).v.toks, Next T tb t := by
            intro r s
            unfold appendU
            split <;> simp [ASlot.toks, Next, Out.bad]
          cases uu with
          | true =>
            refine does_step hs h ?_ ?_ ?_ <;> simp only [sem, appendOut] <;> split <;> first | exact (hU _ _).1 | exact (hU _ _).2.1 | exact (hU _ _).2.2 | rfl | (simp [Out.bad, ASlot.toks]; done)
          | false => refine does_step hs h ?_ ?_ ?_ <;> simp only [sem, appendOut] <;> split <;> first | rfl | (simp [Out.bad, ASlot.toks]; done) | (split <;> first | rfl | (simp [Out.bad, ASlot.toks]; done) | (simp [ASlot.toks, Next]))
        have both : ∀ {e : TypeId} {i : TypeInfo} {z : List D} {s' x' : Opd}, P.underlying t = some (.slice e) → P.info? e = some i → zeroCellsD P e = some z → i.size = z.length → 0 < i.bytes →
            ((∃ f, P.underlying u = some (.slice f)) ∨ P.underlying u = some .string) → opdOf s = some s' → opdOf x = some x' → (sem tb (.append uu i.size i.bytes s' x') st).ob →
            (∀ t ∈ (sem tb (.append uu i.size i.bytes s' x') st).cons, t ∈ st.live) →
            ∃ v w' g', (execOp a.eval oper).run P w = .ok (.value v) w' ∧ Qt T g w g' w' st.live (liveAfter st.live (sem tb (.append uu i.size i.bytes s' x') st)) ∧
            RS g' w' (liveAfter st.live (sem tb (.append uu i.size i.bytes s' x') st)) v (sem tb (.append uu i.size i.bytes s' x') st).v := by
          intro e i z s' x' q1 q2 q3 q4 q5 q6 q7 q8 q9 q10
          cases uu with
          | true => exact step_append_uni hop q1 q2 q3 q4 q5 q6 q7 q8 hs hfr q9 q10
          | false => exact step_append_own hop q1 q2 q3 q4 q5 q6 q7 q8 hs hfr q9 q10
        split at hc
        · rename_i e f a' b' h1 h2 h3 h4
          split at hc
          · rename_i i z h5 h6
            split at hc
            · rename_i h7
              cases hc
              exact fin _ _ _ _ (both h1 h5 h6 h7.1 h7.2.2 (.inl ⟨f, h2⟩) h3 h4 hob hlv)
            · cases hc
          · cases hc
        · rename_i e a' b' h1 h2 h3 h4
          split at hc
          · rename_i i z h5 h6
            split at hc
            · rename_i h7
              cases hc
              exact fin _ _ _ _ (both h1 h5 h6 h7.1 h7.2.2 (.inr h2) h3 h4 hob hlv)
            · cases hc
          · cases hc
        · cases hc
      · cases hc
    by_cases hcpy : b = .copy
    · subst hcpy
      simp only [compOp] at hc
      split at hc
      · rename_i s x t u ha hty
        have ea : args = #[s, x] := by apply Array.ext'; simpa using ha
        have et : argTypes = #[t, u] := by apply Array.ext'; simpa using hty
        subst ea et
        have fin : ∀ (es : Nat) (s' x' : Opd), (∃ v w' g', (execOp a.eval oper).run P w = .ok (.value v) w' ∧ G g w g' w' ∧ SR N T g' w' (withObj st (sem tb (.copy es s' x') st).wr) a ∧ RS g' w' st.live v (sem tb (.copy es s' x') st).v) →
            Does P N T tb g w st a oper (sem tb (.copy es s' x') st) := by
          intro es s' x' h
          refine does_obj h ?_ ?_ ?_ <;> simp only [sem, copyOut] <;> split <;> first | rfl | simp [Out.bad, ASlot.toks]
        split at hc
        · rename_i e f a' b' h1 h2 h3 h4
          simp only [Option.map_eq_some_iff] at hc
          obtain ⟨i, h5, rfl⟩ := hc
          exact fin _ _ _ (step_copy hop h1 h5 h3 h4 hs hob)
        · rename_i e a' b' h1 h2 h3 h4
          split at hc
          · rename_i i h5
            split at hc
            · cases hc
              exact fin _ _ _ (step_copy hop h1 h5 h3 h4 hs hob)
            · cases hc
          · cases hc
        · cases hc
      · cases hc
    by_cases hmin : b = .min
    · subst hmin
      simp only [compOp] at hc
      split at hc
      · rename_i x y ha
        have ea : args = #[x, y] := by apply Array.ext'; simpa using ha
        subst ea
        split at hc
        · rename_i x' y' h1 h2
          cases hc
          refine does_gives hs (gives_minmax (mx := false) (.inl ⟨hop, rfl⟩) h1 h2 hs hob) ?_ ?_ ?_ ?_ <;> simp only [sem] <;> split <;> first | rfl | simp [Out.bad, ASlot.toks]
        · cases hc
      · cases hc
    by_cases hmax : b = .max
    · subst hmax
      simp only [compOp] at hc
      split at hc
      · rename_i x y ha
        have ea : args = #[x, y] := by apply Array.ext'; simpa using ha
        subst ea
        split at hc
        · rename_i x' y' h1 h2
          cases hc
          refine does_gives hs (gives_minmax (mx := true) (.inr ⟨hop, rfl⟩) h1 h2 hs hob) ?_ ?_ ?_ ?_ <;> simp only [sem] <;> split <;> first | rfl | simp [Out.bad, ASlot.toks]
        · cases hc
      · cases hc
    · cases b <;> first | (exact (hlen rfl).elim) | (exact (happ rfl).elim) | (exact (hcpy rfl).elim) | (exact (hmin rfl).elim) | (exact (hmax rfl).elim) | (simp [compOp] at hc)
  | _ => simp [compOp] at hc

end
end Go.Abs
