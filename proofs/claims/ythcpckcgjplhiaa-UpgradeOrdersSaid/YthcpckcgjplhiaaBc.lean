/- The abstract layer, part 29: a law's row from its contract. -/
import Derived.Test.YthcpckcgjplhiaaBb
import Derived.Carry
namespace Go.Abs
open Go.ChangeShapes Go.RowKit

/-- An argument's slot. -/
def argS (P : Program) (t : TypeId) (ds : List D) : ASlot :=
  match P.underlying t with
  | some (.struct _) => .d (.agg ds)
  | some (.array _ _) => .d (.agg ds)
  | _ => .d (ds.headD default)

/-- What is to be shown of a law: its contract, for whatever arguments of these types. -/
def LawOk (P : Program) (n : Nat) (K : List ASlot → Prop) : List TypeId → List ASlot → Prop
  | [], acc => K acc
  | t :: ts, acc => ∀ ds, Shp P n t ds → LawOk P n K ts (acc ++ [argS P t ds])

section
variable {H : Type} {enc : TypeId × Value → H} {P : Program} {W W' : World}

theorem shp_one {n : Nat} {t : TypeId} {ds : List D} (h : Shp P n t ds) (h1 : ∀ fs, P.underlying t ≠ some (.struct fs)) (h2 : ∀ m e, P.underlying t ≠ some (.array m e)) : ∃ d, ds = [d] := by
  cases n with
  | zero => exact h.elim
  | succ n =>
    unfold Shp at h
    split at h
    · obtain ⟨b, rfl⟩ := h; exact ⟨_, rfl⟩
    · obtain ⟨b, rfl, _⟩ := h; exact ⟨_, rfl⟩
    · obtain ⟨b, rfl, _⟩ := h; exact ⟨_, rfl⟩
    · obtain ⟨b, rfl, _⟩ := h; exact ⟨_, rfl⟩
    · rename_i fs hu; exact (h1 fs hu).elim
    · rename_i m e hu; exact (h2 m e hu).elim
    · exact h.elim

theorem arg_rc {n base : Nat} {t : TypeId} {v : Value} {d : DataW H} {ps : List MemPlace} (hp : plainT P n t = true) (h : DataW.Trod enc P W 0 (fun _ => true) true t v d ps) (hv : Value.okWide P W .any base t v) :
    ∃ ds, Shp P n t ds ∧ RC (outG W) W [] v (argS P t ds) := by
  obtain ⟨fuel, h⟩ := h
  obtain ⟨ds, hrl, hs⟩ := trod_rv n fuel t _ _ hp h
  refine ⟨ds, hs, ?_⟩
  unfold argS
  have agg : (∃ cs, v = .agg cs) → RC (outG W) W [] v (.d (.agg ds)) := by
    rintro ⟨cs, rfl⟩
    have := hrl.agg
    simpa [Value.cells, RC] using this
  unfold Value.okWide at hv
  split
  · rename_i fs hu
    rw [hu] at hv
    obtain ⟨cs, hcs, _⟩ := hv
    exact agg ⟨cs, hcs⟩
  · rename_i m e hu
    rw [hu] at hv
    obtain ⟨cs, hcs, _⟩ := hv
    exact agg ⟨cs, hcs⟩
  · rename_i h1 h2
    obtain ⟨d, rfl⟩ := shp_one hs h1 h2
    have hl := hrl.1
    cases v with
    | agg cs =>
      exfalso
      have hwide : Cell.okWide P W .any base t (.agg cs) := by
        split at hv
        · rename_i fs hu; exact (h1 fs hu).elim
        · rename_i m e hu; exact (h2 m e hu).elim
        · exact hv
      unfold Cell.okWide at hwide
      split at hwide <;> first | (rename_i hx; cases hx; done) | skip
      all_goals first | (rename_i hx _; cases hx; done) | (simp [Cell.ok] at hwide; done) | skip
    | _ => exact hrl.2.2 0 _ d rfl rfl

theorem trodAll_below {ts : List TypeId} (hl : laidOutB P = true) (hr : (ts.all fun t => P.readableRec t && decide (t < P.types.size)) = true) (hb : Below W.heap.size W W') : ∀ {vs : List Value} {ds : List (DataW H)} {ps : List MemPlace},
    DataW.TrodAll enc P W 0 (fun _ => true) true ts vs ds ps → (∀ x ∈ ps, x.block < W.heap.size) → DataW.TrodAll enc P W' 0 (fun b => decide (b < W.heap.size)) true ts vs ds ps := by
  induction ts with
  | nil =>
    intro vs ds ps h _
    obtain ⟨rfl, rfl, rfl⟩ := trodAll_nil h
    exact trodAll_mk0
  | cons t ts ih =>
    intro vs ds ps h hlt
    simp only [List.all_cons, Bool.and_eq_true, decide_eq_true_eq] at hr
    obtain ⟨v, vs', d, ds', p, q, rfl, rfl, rfl, h1, h2⟩ := trodAll_cons h
    exact ⟨p, q, Below.trod hl hr.1.1 hr.1.2 h1 hb (fun x hx => hlt x (List.mem_append_left _ hx)), ih (by simpa using hr.2) h2 (fun x hx => hlt x (List.mem_append_right _ hx)), rfl⟩

theorem law_args {n base : Nat} {K : List ASlot → Prop} : ∀ {ts : List TypeId} {vs : List Value} {ds : List (DataW H)} {ps : List MemPlace} {acc : List ASlot} {us : List Value}, (ts.all (plainT P n)) = true → LawOk P n K ts acc →
    DataW.TrodAll enc P W 0 (fun _ => true) true ts vs ds ps → (∀ (j : Nat) (t : TypeId) (v : Value), ts[j]? = some t → vs[j]? = some v → Value.okWide P W .any base t v) →
    us.length = acc.length → (∀ (i : Nat) (v : Value) (s : ASlot), us[i]? = some v → acc[i]? = some s → RC (outG W) W [] v s) → (∀ s ∈ acc, s.toks = []) →
    ∃ slots, K slots ∧ (us ++ vs).length = slots.length ∧ (∀ (i : Nat) (v : Value) (s : ASlot), (us ++ vs)[i]? = some v → slots[i]? = some s → RC (outG W) W [] v s) ∧ ∀ s ∈ slots, s.toks = []
  | [], vs, ds, ps, acc, us, _, hk, h, _, hl, hr, ht => by
    obtain ⟨rfl, rfl, rfl⟩ := trodAll_nil h
    rw [List.append_nil]
    exact ⟨acc, hk, hl, hr, ht⟩
  | t :: ts, vs, ds, ps, acc, us, hp, hk, h, hv, hl, hr, ht => by
    simp only [List.all_cons, Bool.and_eq_true] at hp
    obtain ⟨v, vs', d, ds', p, q, rfl, rfl, rfl, h1, h2⟩ := trodAll_cons h
    obtain ⟨dl, hs, hrc⟩ := arg_rc hp.1 h1 (hv 0 t v rfl rfl)
    have := law_args (us := us ++ [v]) hp.2 (hk dl hs) h2 (fun j t' v' ht hv' => hv (j + 1) t' v' (by simpa using ht) (by simpa using hv')) (by simp [hl]) (fun i u s hu hs' => by
      by_cases hi : i < us.length
      · rw [List.getElem?_append_left hi] at hu
        rw [List.getElem?_append_left (by omega)] at hs'
        exact hr i u s hu hs'
      · rw [List.getElem?_append_right (by omega)] at hu
        rw [List.getElem?_append_right (by omega)] at hs'
        rw [hl] at hu
        cases hj : i - acc.length with
        | zero => rw [hj] at hu hs'; simp at hu hs'; subst hu hs'; exact hrc
        | succ j => rw [hj] at hu; simp at hu) (fun s hs' => by
      rcases List.mem_append.1 hs' with h | h
      · exact ht s h
      · simp at h; subst h; unfold argS; split <;> rfl)
    rw [List.append_assoc] at this
    exact this

/-- A LAW's ROW, FROM ITS CONTRACT. -/
theorem law_calls {fid : FuncId} {f : Func} {s : ChangeSpec} {apart fresh handsOn : Bool} {n base : Nat} {tb : TypeId} {args : Array Value} {ds gs : List (DataW H)} {before : List MemPlace}
    (hl : laidOutB P = true) (hts : (f.params.toList.all fun t => P.readableRec t && decide (t < P.types.size)) = true) (hp : (f.params.toList.all (plainT P n)) = true)
    (hret : f.resultTypes = #[tb]) (htb : P.underlying tb = some .bool) (hvars : s.vars = [])
    (hfn : ∀ ds : List (DataW H), ds.length = f.params.toList.length → s.fn H ds = { results := [.lit (.bool true)], args := ds })
    (hc : LawOk P n (fun slots => ACall P fid slots [] (.d (.bool true)) []) f.params.toList [])
    (hW : DataW.Whole enc P f.params.toList s.vars apart W args.toList ds gs before)
    (hval : ∀ (j : Nat) (t : TypeId) (v : Value), f.params[j]? = some t → args[j]? = some v → Value.okWide P W .any base t v) :
    Calls P fid args W fun e W' => ∃ v, e = .returned v ∧ s.post enc P f apart fresh handsOn false W args v W' := by
  have hW0 := hW
  obtain ⟨p, q, hA, hV, rfl, _, _⟩ := hW
  rw [hvars] at hV
  obtain ⟨rfl, rfl⟩ := trodVars_none hV
  obtain ⟨slots, hk, q1, q2, q3⟩ := law_args (us := []) hp hc hA (fun j t v ht hv => hval j t v (by simpa using ht) (by simpa using hv)) rfl (by simp) (by simp)
  have htk : toksOf slots = [] := by
    unfold toksOf
    rw [List.flatMap_eq_nil_iff]
    exact q3
  have hobj : ∀ b id, outG W b ≠ .obj id := by
    intro b id h
    unfold outG at h
    split at h <;> cases h
  have hcall := hk (outG W) W args.toList (outG_dom W) (by simpa using q1) (by rw [htk]; simpa using q2) ⟨fun id o h => by simp at h, fun b b' id h => (hobj b id h).elim, fun b id h => (hobj b id h).elim⟩
  refine hcall.mono ?_
  rintro e W' ⟨v, g', live', rfl, hG, hdom, _, hrs, _⟩
  have hv : v = .bool true := rv_bool (rs_d hrs)
  subst hv
  have hb : Below W.heap.size W W' := by
    refine ⟨hG.os, hG.tape, hG.output, hG.size, fun b hb => ?_⟩
    cases hg : outG W b with
    | out => exact (hG.out b hb hg).1
    | row m o =>
      cases o with
      | none => exact (hG.rowN b m hb hg).1
      | some t =>
        unfold outG at hg
        split at hg <;> cases hg
    | uni t =>
      unfold outG at hg
      split at hg <;> cases hg
    | obj id => exact (hobj b id hg).elim
  have hlen : ds.length = f.params.toList.length := by
    have : ∀ {ts : List TypeId} {vs : List Value} {ds : List (DataW H)} {ps : List MemPlace}, DataW.TrodAll enc P W 0 (fun _ => true) true ts vs ds ps → ds.length = ts.length := by
      intro ts
      induction ts with
      | nil => intro vs ds ps h; obtain ⟨_, rfl, _⟩ := trodAll_nil h; rfl
      | cons t ts ih => intro vs ds ps h; obtain ⟨v, vs', d, ds', p, q, rfl, rfl, rfl, _, h2⟩ := trodAll_cons h; simp [ih h2]
    exact this hA
  have hlt : ∀ x ∈ p ++ [], x.block < W.heap.size := fun x hx => hW0.lt x hx
  refine ⟨_, rfl, ds, [], p ++ [], [], p, [], hW0, ?_, ?_, ?_, ?_, fun h => by cases h⟩
  · rw [List.append_nil, hfn ds hlen, hret]
    exact trodAll_mk1 (shut_bool htb true)
  · rw [List.append_nil, hfn ds hlen]
    exact trodAll_below hl hts hb hA (fun x hx => hlt x (by simpa using hx))
  · rw [List.append_nil, hfn ds hlen, hvars]
    exact rfl
  · refine World.keptBut_mono (fun x hx => ⟨hx, .inr (.inl ?_)⟩) (hb.frame (· ∈ p ++ []))
    simpa using hx

end
end Go.Abs
