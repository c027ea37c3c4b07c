/- The abstract layer, part 17: one operation of a region, with its guard; calls; regions in the order of the text. -/
import Derived.Test.YthcpckcgjplhiaaAp
namespace Go.Abs

/-- Is an operation wanted? (none: not known) -/
def gv (fr : Fr) : Option (Nat × Bool) → Option Bool
  | none => some true
  | some (k, b) => match fr.get k with
    | some (v, .d (.bool c)) => some (v && (c == b))
    | _ => none

def putFr (fr : Fr) (dst : Option Nat) (g : Bool) (v : ASlot) : Fr :=
  match dst with
  | some d => (d, g, v) :: fr
  | none => fr

/-- The state behind an operation. -/
def St.next (st : St) (o : SOper) (g : Bool) (out : Out) : St :=
  { fr := putFr st.fr o.dst g out.v, os := setAll st.os out.wrs, live := liveAfter st.live out, nt := st.nt }

/-- An operation that may also be left out. -/
def Out.tame (out : Out) : Prop := out.wrs = [] ∧ out.cons = [] ∧ out.iss = []

/-- The function and the arguments of a call. -/
def callOf (fr : Fr) (f : Opd) (args : List Opd) : Option (FuncId × List ASlot) :=
  match f.get fr with
  | .d (.func (.func k) first caps) => some (k, first.map .d ++ args.map (·.get fr) ++ caps.map .d)
  | _ => none

def callOut (tb : Nat) (as fa : List ASlot) (r : ASlot) (fo' : List AObj) (ι : List Nat) : Out :=
  { v := (retok tb r).ren ι, ob := True, cons := (handed as fa).map (·.1), iss := (retok tb r).toks, mv := ι.zip (fo'.map (AObj.ren ι)) }

/-- A call that may be made, by a contract. -/
structure CallOk (P : Program) (st : St) (f : Opd) (args : List Opd) (k : FuncId) (as fa : List ASlot) (r : ASlot) (fo fo' : List AObj) (ι : List Nat) : Prop where
  callee : callOf st.fr f args = some (k, as)
  ok : f.ok st.fr = true
  oks : (args.all fun x => x.ok st.fr) = true
  contract : ACall P k fa fo r fo'
  body : (P.funcs[k]?).any (fun fn => fn.body.isSome && !(fn.name == "runtime.NumGoroutine")) = true
  fits : Fits st.live as fa ι fo.length
  objs : ObjFit st.os fo fo' ι
  nodup : r.toks.Nodup
  few : r.toks.length ≤ 16

/-- What is known of one operation's outcome. -/
def AOne (P : Program) (tb : Nat) (o : SOper) (st : St) (g : Bool) (out : Out) : Prop :=
  gv st.fr o.guard = some g ∧ (g = true ∨ out.tame) ∧
  match o.op with
  | .call f args => ∃ k as fa r fo fo' ι, out = callOut tb as fa r fo' ι ∧ r.toks.length ≤ 16 ∧ (g = true → CallOk P st f args k as fa r fo fo' ι)
  | .eqnilS neg _ => ∃ (b : Bool), out = { v := .d (.bool (if neg then !b else b)), ob := True } ∧ g = true
  | op => out = sem tb op st ∧ (g = true → out.ob ∧ ∀ t ∈ out.cons, t ∈ st.live)

section
variable {P : Program} {mu : List Nat} {N tb : Nat} {T : Nat → Prop} {g : Ghost} {w : World} {st : St} {a : Act} {oper : Oper} {ops : Array Oper}

theorem compOper_spec {back : Nat} {o : SOper} (h : compOper P mu ops N back oper = some o) :
    compOp P (oper.dst.any mu.contains) back oper.op = some o.op ∧ o.dst = oper.dst ∧ (∀ d, oper.dst = some d → d < N) ∧
    match oper.guard with
    | none => o.guard = none
    | some (j, b) => ∃ d, (ops[j]?).bind (·.dst) = some d ∧ o.guard = some (d, b) := by
  unfold compOper at h
  split at h
  · cases h
  · rename_i op hop
    split at h
    · rename_i hd
      have hd' : ∀ d, oper.dst = some d → d < N := by
        intro d hdd
        rw [hdd] at hd
        simpa using hd
      split at h
      · rename_i hg
        cases h
        exact ⟨hop, rfl, hd', by rw [hg]⟩
      · rename_i j b hg
        split at h
        · rename_i d hj
          cases h
          exact ⟨hop, rfl, hd', by rw [hg]; exact ⟨d, hj, rfl⟩⟩
        · cases h
    · cases h

theorem wanted_gv {back : Nat} {o : SOper} {gb : Bool} (h : compOper P mu ops N back oper = some o) (hs : SR N T g w st a) (hg : gv st.fr o.guard = some gb) : Region.wanted oper (yielded ops a.tmps) = gb := by
  obtain ⟨_, _, _, hgd⟩ := compOper_spec h
  cases hq : oper.guard with
  | none =>
    rw [hq] at hgd
    simp only at hgd
    rw [hgd] at hg
    simp [gv] at hg
    simp [Region.wanted, hq, hg]
  | some p =>
    obtain ⟨j, b⟩ := p
    rw [hq] at hgd
    obtain ⟨d, hd, hgd⟩ := hgd
    rw [hgd] at hg
    simp only [gv] at hg
    split at hg
    · rename_i v c hget
      cases hg
      obtain ⟨h1, h2⟩ := hs.slots d v _ hget
      simp only [Region.wanted, hq, yielded, hd, Option.bind_some]
      cases v with
      | true =>
        have := rv_bool (rs_d (h1 rfl))
        have hlt : a.tmps[d]? = some (.bool c) := by
          cases hx : a.tmps[d]? with
          | none => simp [Array.getD_eq_getD_getElem?, hx, undef] at this
          | some u => simp [Array.getD_eq_getD_getElem?, hx] at this; rw [this]
        rw [hlt]
        cases c <;> cases b <;> rfl
      | false =>
        have := h2 rfl
        cases hx : a.tmps[d]? with
        | none => rfl
        | some u =>
          simp [Array.getD_eq_getD_getElem?, hx] at this
          rw [this]
          rfl
    · cases hg

theorem setAll_nil (os : List AObj) : setAll os [] = os := rfl

theorem wrs_plain {out : Out} (st : St) (hm : out.mv = []) : setAll st.os out.wrs = (withObj st out.wr).os := by
  unfold Out.wrs
  rw [hm, List.append_nil]
  cases out.wr with
  | none => rfl
  | some p => rfl

theorem sem_mv (o : SOp) (st : St) : (sem tb o st).mv = [] := by
  cases o <;> simp only [sem, loadOut, storeOut, binS, appendOut, appendU, copyOut, sliceOut, sliceSOut, sliceAOut, Out.bad] <;> (repeat' split) <;> rfl

theorem withObj_none (st : St) : withObj st none = st := rfl

theorem withObj_fields (st : St) (x : Option (Nat × AObj)) : (withObj st x).fr = st.fr ∧ (withObj st x).live = st.live ∧ (withObj st x).nt = st.nt := by
  unfold withObj; split <;> exact ⟨rfl, rfl, rfl⟩

/-- Behind an operation that was left out. -/
theorem skip_next {back : Nat} {o : SOper} {out : Out} (h : compOper P mu ops N back oper = some o) (hs : SR N T g w st a) (ht : out.tame) :
    SR N T g w (st.next o false out) (a.put oper.dst undef) := by
  obtain ⟨_, hdst, hd, _⟩ := compOper_spec h
  obtain ⟨t1, t2, t3⟩ := ht
  have hn : st.next o false out = { st with fr := putFr st.fr o.dst false out.v } := by
    unfold St.next
    rw [t1, setAll_nil, liveAfter_pure t2 t3]
  rw [hn, hdst]
  cases hdd : oper.dst with
  | none => exact hs
  | some d => exact hs.putUndef (hd d hdd)

/-- Behind an operation that was carried out. -/
theorem done_next {back : Nat} {o : SOper} {out : Out} {g' : Ghost} {w' : World} {v : Value} (h : compOper P mu ops N back oper = some o)
    (hs : SR N T g' w' { st with os := setAll st.os out.wrs, live := liveAfter st.live out } a) (hv : RS g' w' (liveAfter st.live out) v out.v) (htk : ∀ t ∈ out.v.toks, T t) :
    SR N T g' w' (st.next o true out) (a.put oper.dst v) := by
  obtain ⟨_, hdst, hd, _⟩ := compOper_spec h
  have hn : st.next o true out = { ({ st with os := setAll st.os out.wrs, live := liveAfter st.live out } : St) with fr := putFr st.fr o.dst true out.v } := rfl
  rw [hn, hdst]
  cases hdd : oper.dst with
  | none => exact hs
  | some d => exact hs.put (hd d hdd) hv htk

theorem SR.weakT {T' : Nat → Prop} (hs : SR N T g w st a) (h : ∀ t, T t → T' t) : SR N T' g w st a :=
  hs.quiet (Qt.refl T hs.dom _) h (fun t ht => h t (hs.wf.live t ht))

theorem args_rs (hs : SR N T g w st a) {l : List Operand} {r : List Opd} (h : l.mapM opdOf = some r) (hok : (r.all fun x => x.ok st.fr) = true) :
    (l.map a.eval).length = (r.map fun x => x.get st.fr).length ∧ ∀ (i : Nat) (v : Value) (s : ASlot), (l.map a.eval)[i]? = some v → (r.map fun x => x.get st.fr)[i]? = some s → RS g w st.live v s := by
  obtain ⟨h1, h2⟩ := mapM_some h
  refine ⟨by simp [h1], fun j v s hv hsl => ?_⟩
  simp only [List.getElem?_map, Option.map_eq_some_iff] at hv hsl
  obtain ⟨y, hy, rfl⟩ := hv
  obtain ⟨x, hx, rfl⟩ := hsl
  exact opd_rs hs (h2 j y x hy hx) (List.all_eq_true.1 hok x (List.mem_of_getElem? hx))

theorem rs_append {live : List Nat} {us vs : List Value} {ss ts : List ASlot} (h1 : us.length = ss.length) (hr : ∀ (i : Nat) (v : Value) (s : ASlot), us[i]? = some v → ss[i]? = some s → RS g w live v s)
    (hq : ∀ (i : Nat) (v : Value) (s : ASlot), vs[i]? = some v → ts[i]? = some s → RS g w live v s) : ∀ (i : Nat) (v : Value) (s : ASlot), (us ++ vs)[i]? = some v → (ss ++ ts)[i]? = some s → RS g w live v s := by
  intro i v s hv hs
  by_cases hi : i < us.length
  · rw [List.getElem?_append_left hi] at hv
    rw [List.getElem?_append_left (by omega)] at hs
    exact hr i v s hv hs
  · rw [List.getElem?_append_right (by omega)] at hv
    rw [List.getElem?_append_right (by omega), ← h1] at hs
    exact hq _ v s hv hs

/-- A call, by its contract. -/
theorem call_sound {f : Operand} {args : Array Operand} {argTypes : Array TypeId} {f' : Opd} {args' : List Opd} {k : FuncId} {as fa : List ASlot} {r : ASlot} {fo fo' : List AObj} {ι : List Nat} (ho : oper.op = .call { callee := .value f, args, argTypes })
    (hf : opdOf f = some f') (ha : args.toList.mapM opdOf = some args') (hs : SR N T g w st a) (hfr : Fresh T tb) (h : CallOk P st f' args' k as fa r fo fo' ι) {K : Act → World → Prop} {Q : Exit → Act → World → Prop}
    (hK : ∀ v w' g', G g w g' w' → SR N (Next T tb) g' w' { st with os := setAll st.os (callOut tb as fa r fo' ι).wrs, live := liveAfter st.live (callOut tb as fa r fo' ι) } a →
      RS g' w' (liveAfter st.live (callOut tb as fa r fo' ι)) v (callOut tb as fa r fo' ι).v → K (a.put oper.dst v) w') : oper.wp P a w K Q := by
  have hcal := h.callee
  unfold callOf at hcal
  cases hfg : f'.get st.fr with
  | d x =>
    cases x with
    | func fn first caps =>
      cases fn with
      | func k' =>
        rw [hfg] at hcal
        simp only [Option.some.injEq, Prod.mk.injEq] at hcal
        obtain ⟨rfl, rfl⟩ := hcal
        have hrf := opd_rs hs hf h.ok
        rw [hfg] at hrf
        have hrv := rs_d hrf
        generalize hfv : a.eval f = fv at hrv
        cases hrv with
        | func _ vf vc _ _ l1 l2 r1 r2 =>
        obtain ⟨la, ra⟩ := args_rs hs ha h.oks
        have hb := h.body
        cases hfn : P.funcs[k']? with
        | none => rw [hfn] at hb; simp at hb
        | some fn =>
          rw [hfn] at hb
          simp only [Option.any_some, Bool.and_eq_true] at hb
          obtain ⟨hb1, hb2⟩ := hb
          have hname : fn.body.isNone = false := by cases hbb : fn.body <;> simp [hbb] at hb1 ⊢
          have hng : (fn.name == "runtime.NumGoroutine") = false := by simpa using hb2
          have hrun : (execOp a.eval oper).run P w = .ok (.enter k' (vf ++ args.toList.map a.eval ++ vc).toArray) w := by
            have harr : vf.toArray ++ args.map a.eval ++ vc.toArray = (vf ++ args.toList.map a.eval ++ vc).toArray := by apply Array.ext'; simp
            simp only [execOp, ho, resolve, hfv, Deferred.ofValue, Sem.run_bind, Sem.run_pure, Result.andThen_ok, invoke, callFunc, run_program, hfn, hname, hng, harr, Bool.false_eq_true, if_false]
          unfold Oper.wp
          rw [hrun]
          show Calls P k' _ w _
          have hvl : (vf ++ args.toList.map a.eval ++ vc).length = (first.map ASlot.d ++ args'.map (fun x => x.get st.fr) ++ caps.map ASlot.d).length := by
            simp only [List.length_append, List.length_map] at la ⊢
            omega
          have hvr := rs_append (g := g) (w := w) (live := st.live) (us := vf ++ args.toList.map a.eval) (vs := vc) (ss := first.map ASlot.d ++ args'.map fun x => x.get st.fr) (ts := caps.map ASlot.d) (by simp only [List.length_append, List.length_map] at la ⊢; omega)
            (rs_append (by simp [l1]) (fun i v s hv hsl => by
              simp only [List.getElem?_map, Option.map_eq_some_iff] at hsl
              obtain ⟨d, hd, rfl⟩ := hsl
              exact r1 i v d hv hd) ra) (fun i v s hv hsl => by
              simp only [List.getElem?_map, Option.map_eq_some_iff] at hsl
              obtain ⟨d, hd, rfl⟩ := hsl
              exact r2 i v d hv hd)
          have hlt : ∀ id ∈ ι, id < st.os.length := by
            intro id hid
            obtain ⟨j, hj⟩ := List.mem_iff_getElem?.1 hid
            by_cases hjl : j < fo.length
            · obtain ⟨id', c, h1, h2, _⟩ := objsIn_get h.objs.olds j _ (List.getElem?_eq_getElem hjl)
              rw [hj] at h1; cases h1
              exact (List.getElem?_eq_some_iff.1 h2).1
            · have hm : id ∈ ι.drop fo.length := by
                refine List.mem_iff_getElem?.2 ⟨j - fo.length, ?_⟩
                rw [List.getElem?_drop, show fo.length + (j - fo.length) = j by omega]
                exact hj
              exact (List.getElem?_eq_some_iff.1 (h.objs.news id hm)).1
          refine (call_objs h.contract hs.dom h.fits h.objs h.nodup tb hfr h.few hs.objs hs.inj hs.ids hvl hvr).mono ?_
          rintro e w' ⟨v, g', rfl, hq, hr, o1, o2, o3⟩
          have hla : liveAfter st.live (callOut tb (first.map ASlot.d ++ args'.map (fun x => x.get st.fr) ++ caps.map ASlot.d) fa r fo' ι) = (st.live.filter fun t => !((handed (first.map ASlot.d ++ args'.map (fun x => x.get st.fr) ++ caps.map ASlot.d) fa).map (·.1)).contains t) ++ (retok tb r).toks := rfl
          have hwr : (callOut tb (first.map ASlot.d ++ args'.map (fun x => x.get st.fr) ++ caps.map ASlot.d) fa r fo' ι).wrs = ι.zip (fo'.map (AObj.ren ι)) := rfl
          refine hK v w' g' hq.toG ?_ (by rw [hla]; exact hr)
          rw [hla, hwr]
          refine hs.quietX hq (fun _ h => .inl h) (fun t htm => ?_) h.objs.nd (by rw [List.length_map]; exact h.objs.len) hlt o1 o2 o3 (fun o ho s hs' => ?_)
          · rcases List.mem_append.1 htm with h1 | h1
            · exact .inl (hs.wf.live t (List.mem_filter.1 h1).1)
            · have := retok_toks h1
              have := h.few
              exact .inr ⟨by omega, by omega⟩
          · obtain ⟨o0, ho0, rfl⟩ := List.mem_map.1 ho
            cases o0 with
            | none => simp [AObj.ren, AObj.cells] at hs'
            | row cs =>
              obtain ⟨s0, hs0, rfl⟩ := List.mem_map.1 hs'
              rw [ren1_toks]
              exact h.objs.toks _ ho0 s0 hs0
      | _ => rw [hfg] at hcal; simp at hcal
    | _ => rw [hfg] at hcal; simp at hcal
  | _ => rw [hfg] at hcal; simp at hcal

theorem compOp_call {uu : Bool} {back : Nat} {mo : Op} {f : Opd} {args : List Opd} (h : compOp P uu back mo = some (.call f args)) :
    ∃ f0 ma aty, mo = .call { callee := .value f0, args := ma, argTypes := aty } ∧ opdOf f0 = some f ∧ ma.toList.mapM opdOf = some args := by
  cases mo with
  | call c =>
    obtain ⟨callee, margs, argTypes⟩ := c
    cases callee with
    | value f0 =>
      simp only [compOp] at h
      split at h
      · rename_i a0 l0 h2 h3
        cases h
        exact ⟨f0, margs, argTypes, rfl, h2, h3⟩
      · cases h
    | invoke _ _ => simp [compOp] at h
    | builtin b =>
      exfalso
      cases b <;> simp only [compOp] at h <;> (repeat' split at h) <;> first | (cases h; done) | (simp only [Option.map_eq_some_iff] at h; obtain ⟨_, _, h⟩ := h; cases h)
  | _ =>
    exfalso
    simp only [compOp, Option.map_eq_some_iff] at h
    first
      | (obtain ⟨_, _, h⟩ := h; cases h; done)
      | ((repeat' split at h) <;> first | (cases h; done) | (simp only [Option.map_eq_some_iff] at h; obtain ⟨_, _, h⟩ := h; cases h))

/-- ONE OPERATION OF A REGION. -/
theorem one_wp {back : Nat} {o : SOper} {gb : Bool} {out : Out} {K : Act → World → Prop} {Q : Exit → Act → World → Prop} (hc : compOper P mu ops N back oper = some o) (hs : SR N T g w st a) (hfr : Fresh T tb)
    (h1 : AOne P tb o st gb out) (hne : o.op.isNilS = false) (hK : ∀ a' w' g', G g w g' w' → SR N (Next T tb) g' w' (st.next o gb out) a' → K a' w') :
    if Region.wanted oper (yielded ops a.tmps) then oper.wp P a w K Q else K (a.put oper.dst undef) w := by
  obtain ⟨hgv, htame, hop⟩ := h1
  rw [wanted_gv hc hs hgv]
  cases gb with
  | false =>
    rw [if_neg (by simp)]
    exact hK _ _ g (G.refl g w) ((skip_next hc hs (by simpa using htame)).weakT fun _ h => .inl h)
  | true =>
    rw [if_pos rfl]
    obtain ⟨hco, _, _, _⟩ := compOper_spec hc
    have plain : out = sem tb o.op st → (out.ob ∧ ∀ t ∈ out.cons, t ∈ st.live) → oper.wp P a w K Q := by
      intro he hob
      subst he
      obtain ⟨n, v, w', g', r1, r2, r3, r4, r5, r6⟩ := sem_sound hco hs hfr hob.1 hob.2
      unfold Oper.wp
      rw [r1]
      have hfin := hK _ _ g' r3 (done_next hc (by rw [wrs_plain st (sem_mv _ _)]; have := withObj_fields st (sem tb o.op st).wr; exact (by rw [← this.1, ← this.2.2]; exact r4)) r5 r6)
      rcases r2 with rfl | ⟨rfl, rfl⟩
      · exact hfin
      · exact hfin
    cases hoo : o.op with
    | call f args =>
      rw [hoo] at hop hco
      obtain ⟨k, as, fa, r, fo, fo', ι, rfl, hfew, hok⟩ := hop
      have hok := hok rfl
      obtain ⟨f0, ma, aty, hmo, h2, h3⟩ := compOp_call hco
      refine call_sound hmo h2 h3 hs hfr hok (fun v w' g' q1 q2 q3 => hK _ _ g' q1 (done_next hc q2 q3 (fun t ht => ?_)))
      have ht : t ∈ ((retok tb r).ren ι).toks := ht
      rw [ren_toks] at ht
      have := retok_toks ht
      exact .inr ⟨by omega, by omega⟩
    | eqnilS neg x => rw [hoo] at hne; simp [SOp.isNilS] at hne
    | _ => rw [hoo] at hop; exact plain (by rw [hoo]; exact hop.1) (hop.2 rfl)

end
end Go.Abs
