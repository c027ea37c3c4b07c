/- Texts Aq, Ar, As, At, Au, Av, Aw, Ax, Axb. -/
import Derived.Test.YtkcdbcbpbolgkaaGreatDoorMqe
import Derived.TacticsIn
import Derived.OrdersIn
set_option linter.unusedSimpArgs false
set_option linter.unusedVariables false
namespace Go.Abs
def Fw (ro : Option Nat) : Fence := { Fence.wide with round := ro }
theorem xgf {ro : Option Nat} {n : Nat} {P : Program} {f : FuncId} {args : Array Value} {w : World} {R : Ending → World → Prop} (h : Calls P f args w R) : CallsIn (Fw ro) n P f args w R :=
 (callsIn_wide (n := n)).2 h
theorem qc4 {P : Program} {uu oo : Bool} {back : Nat} {mo : Op} {x : SOp} (h : xa P uu oo back mo = some x) : ∀ c, mo ≠ .defer c := by
 rintro c rfl
 simp [xa] at h
def gv (fr : Fr) : Option (Nat × Bool) → Option Bool
 | none => some true
 | some (k, b) => match fr.get k with
  | some (v, .d (.bool c)) => some (v && (c == b))
  | _ => none
def ww (fr : Fr) (dst : Option Nat) (g : Bool) (v : ASlot) : Fr :=
 match dst with
 | some d => (d, g, v) :: fr
 | none => fr
def St.next (st : St) (o : SOper) (g : Bool) (out : Out) : St :=
 {fr := ww st.fr o.dst g out.v, os := jd st.os out.wrs, live := qn st.live out, nt := st.nt }
def Out.tame (out : Out) : Prop := out.wrs = [] ∧ out.cons = [] ∧ out.iss = []
def qi1 (fr : Fr) (f : Opd) (args : List Opd) : Option (FuncId × List ASlot) :=
 match f.get fr with
 | .d (.func (.func k) first caps) => some (k, first.map .d ++ args.map (·.get fr) ++ caps.map .d)
 | _ => none
def zn (tb : Nat) (as fa : List ASlot) (r : ASlot) (fo' : List AObj) (ι : List Nat) (q : Bool) : Out :=
 {v := (qeh tb r).ren ι, ob := True, cons := (xu as fa).map (·.1), iss := (qeh tb r).toks, mv := bif q then [] else ι.zip (fo'.map (AObj.ren ι)), rds := bif q then ι else [] }
def qdx (tb : Nat) (H : List (Nat × Nat)) (R : List Nat) (r : ASlot) (fo' : List AObj) (ι : List Nat) : Out :=
 {v := (wq R tb r).ren ι, ob := True, cons := H.map (·.1), iss := (wq R tb r).toks ++ xh (fo'.map (AObj.rt R tb)), mv := ι.zip ((fo'.map (AObj.rt R tb)).map (AObj.ren ι)) }
structure CallOkT (P : Program) (st : St) (f : Opd) (args : List Opd) (k : FuncId) (as fa : List ASlot) (r : ASlot) (fo fo' : List AObj) (ι : List Nat) (H : List (Nat × Nat)) (R : List Nat) : Prop where
 callee : qi1 st.fr f args = some (k, as)
 ok : f.ok st.fr = true
 oks : (args.all fun x => x.ok st.fr) = true
 contract : qg P k fa fo r fo'
 body : (P.funcs[k]?).any (fun fn => fn.body.isSome && !(fn.name == "runtime.NumGoroutine")) = true
 hH : H = xu as fa ++ vm st.os ι fo
 hR : R = r.toks ++ xh fo'
 fits : Fits st.live as fa ι fo.length H
 objs : ObjFit st.os fo fo' ι
 few : R.length ≤ 16
structure CallOk (P : Program) (st : St) (f : Opd) (args : List Opd) (k : FuncId) (as fa : List ASlot) (r : ASlot) (fo fo' : List AObj) (ι : List Nat) (q : Bool) : Prop where
 callee : qi1 st.fr f args = some (k, as)
 ok : f.ok st.fr = true
 oks : (args.all fun x => x.ok st.fr) = true
 contract : qg P k fa fo r fo'
 body : (P.funcs[k]?).any (fun fn => fn.body.isSome && !(fn.name == "runtime.NumGoroutine")) = true
 fits : Fits st.live as fa ι fo.length (xu as fa)
 objs : ObjFit st.os fo fo' ι
 noT : xh fo = [] ∧ xh fo' = []
 few : r.toks.length ≤ 16
 quiet : q = true → ∀ p ∈ ι.zip (fo'.map (AObj.ren ι)), st.os[p.1]? = some p.2
def AOne (P : Program) (tb : Nat) (o : SOper) (st : St) (g : Bool) (out : Out) : Prop :=
 gv st.fr o.guard = some g ∧ (g = true ∨ out.tame) ∧
 match o.op with
 | .call f args => ∃ k as fa r fo fo' ι q, out = zn tb as fa r fo' ι q ∧ r.toks.length ≤ 16 ∧ (g = true → CallOk P st f args k as fa r fo fo' ι q)
 | .eqnilS neg _ => ∃ (b : Bool), out = { v := .d (.bool (if neg then !b else b)), ob := True } ∧ g = true
 | op => out = sem tb op st ∧ (g = true → out.ob ∧ ∀ t ∈ out.cons, t ∈ st.live)
section
variable {P : Program} {mu : List Nat} {N tb : Nat} {T : Nat → Prop} {g : Ghost} {w : World} {st : St} {a : Act} {oper : Oper} {ops : Array Oper}
theorem vn {back : Nat} {o : SOper} (h : qdv P mu ops N back oper = some o) :
  xa P (oper.dst.any mu.contains) (oper.dst.any fun d => mu.contains (d + 1000000)) back oper.op = some o.op ∧ o.dst = oper.dst ∧ (∀ d, oper.dst = some d → d < N) ∧
  match oper.guard with
  | none => o.guard = none
  | some (j, b) => ∃ d, (ops[j]?).bind (·.dst) = some d ∧ o.guard = some (d, b) := by
 unfold qdv at h
 split at h
 ·cases h
 ·rename_i op hop
  split at h
  ·rename_i hd
   have hd' : ∀ d, oper.dst = some d → d < N := by
    intro d hdd
    rw [hdd] at hd
    simpa using hd
   split at h
   ·rename_i hg
    cases h
    exact ⟨hop, rfl, hd', by rw [hg]⟩
   ·rename_i j b hg
    split at h
    ·rename_i d hj
     cases h
     exact ⟨hop, rfl, hd', by rw [hg]; exact ⟨d, hj, rfl⟩⟩
    ·cases h
  ·cases h
theorem qfx {back : Nat} {o : SOper} {gb : Bool} (h : qdv P mu ops N back oper = some o) (hs : SR N T g w st a) (hg : gv st.fr o.guard = some gb) : Region.wanted oper (yielded ops a.tmps) = gb := by
 obtain ⟨_, _, _, hgd⟩ := vn h
 cases hq : oper.guard with
 | none =>
  rw [hq] at hgd
  simp only at hgd
  rw [hgd] at hg
  simp [gv] at hg
  simp [Region.wanted, hq, hg]
 | some p =>
  obtain ⟨j, b⟩ := p
  rw [hq] at hgd
  obtain ⟨d, hd, hgd⟩ := hgd
  rw [hgd] at hg
  simp only [gv] at hg
  split at hg
  ·rename_i v c hget
   cases hg
   obtain ⟨h1, h2⟩ := hs.slots d v _ hget
   simp only [Region.wanted, hq, yielded, hd, Option.bind_some]
   cases v with
   | true =>
    have := y9 (wj (h1 rfl))
    have hlt : a.tmps[d]? = some (.bool c) := by
     cases hx : a.tmps[d]? with
     | none => simp [Array.getD_eq_getD_getElem?, hx, undef] at this
     | some u => simp [Array.getD_eq_getD_getElem?, hx] at this; rw [this]
    rw [hlt]
    cases c <;> cases b <;> rfl
   | false =>
    have := h2 rfl
    cases hx : a.tmps[d]? with
    | none => rfl
    | some u =>
     simp [Array.getD_eq_getD_getElem?, hx] at this
     rw [this]
     rfl
  ·cases hg
theorem q70 (os : List AObj) : jd os [] = os := rfl
theorem xa9 {out : Out} (st : St) (hm : out.mv = []) : jd st.os out.wrs = (zu st out.wr).os := by
 unfold Out.wrs
 rw [hm, List.append_nil]
 cases out.wr with
 | none => rfl
 | some p => rfl
theorem xba (o : SOp) (st : St) : (sem tb o st).mv = [] := by
 cases o <;> simp only [sem, wm, w6, binS, jw, qai, jj, kz, xy, vj, qa7, jx, qak, w7, qdu, qaj, wn, Out.bad] <;> (repeat' split) <;> rfl
theorem qsj (st : St) (x : Option (Nat × AObj)) : (zu st x).fr = st.fr ∧ (zu st x).live = st.live ∧ (zu st x).nt = st.nt := by
 unfold zu; split <;> exact ⟨rfl, rfl, rfl⟩
theorem xbb {back : Nat} {o : SOper} {out : Out} (h : qdv P mu ops N back oper = some o) (hs : SR N T g w st a) (ht : out.tame) :
  SR N T g w (st.next o false out) (a.put oper.dst undef) := by
 obtain ⟨_, hdst, hd, _⟩ := vn h
 obtain ⟨t1, t2, t3⟩ := ht
 have hn : st.next o false out = { st with fr := ww st.fr o.dst false out.v } := by
  unfold St.next
  rw [t1, q70, xd t2 t3]
 rw [hn, hdst]
 cases hdd : oper.dst with
 | none => exact hs
 | some d => exact hs.putUndef (hd d hdd)
theorem qc5 {back : Nat} {o : SOper} {out : Out} {g' : Ghost} {w' : World} {v : Value} (h : qdv P mu ops N back oper = some o)
  (hs : SR N T g' w' { st with os := jd st.os out.wrs, live := qn st.live out } a) (hv : RS g' w' (qn st.live out) v out.v) (htk : ∀ t ∈ out.v.toks, T t) :
  SR N T g' w' (st.next o true out) (a.put oper.dst v) := by
 obtain ⟨_, hdst, hd, _⟩ := vn h
 have hn : st.next o true out = { ({ st with os := jd st.os out.wrs, live := qn st.live out } : St) with fr := ww st.fr o.dst true out.v } := rfl
 rw [hn, hdst]
 cases hdd : oper.dst with
 | none => exact hs
 | some d => exact hs.put (hd d hdd) hv htk
theorem SR.weakT {T' : Nat → Prop} (hs : SR N T g w st a) (h : ∀ t, T t → T' t) : SR N T' g w st a :=
 hs.quiet (Qt.refl T hs.dom _) h (fun t ht => h t (hs.wf.live t ht))
theorem xme (hs : SR N T g w st a) {l : List Operand} {r : List Opd} (h : l.mapM qp = some r) (hok : (r.all fun x => x.ok st.fr) = true) :
  (l.map a.eval).length = (r.map fun x => x.get st.fr).length ∧ ∀ (i : Nat) (v : Value) (s : ASlot), (l.map a.eval)[i]? = some v → (r.map fun x => x.get st.fr)[i]? = some s → RS g w st.live v s := by
 obtain ⟨h1, h2⟩ := jy h
 refine ⟨by simp [h1], fun j v s hv hsl => ?_⟩
 simp only [List.getElem?_map, Option.map_eq_some_iff] at hv hsl
 obtain ⟨y, hy, rfl⟩ := hv
 obtain ⟨x, hx, rfl⟩ := hsl
 exact xc hs (h2 j y x hy hx) (List.all_eq_true.1 hok x (List.mem_of_getElem? hx))
theorem qyq {live : List Nat} {us vs : List Value} {ss ts : List ASlot} (h1 : us.length = ss.length) (hr : ∀ (i : Nat) (v : Value) (s : ASlot), us[i]? = some v → ss[i]? = some s → RS g w live v s)
  (hq : ∀ (i : Nat) (v : Value) (s : ASlot), vs[i]? = some v → ts[i]? = some s → RS g w live v s) : ∀ (i : Nat) (v : Value) (s : ASlot), (us ++ vs)[i]? = some v → (ss ++ ts)[i]? = some s → RS g w live v s := by
 intro i v s hv hs
 by_cases hi : i < us.length
 ·rw [List.getElem?_append_left hi] at hv
  rw [List.getElem?_append_left (by omega)] at hs
  exact hr i v s hv hs
 ·rw [List.getElem?_append_right (by omega)] at hv
  rw [List.getElem?_append_right (by omega), ← h1] at hs
  exact hq _ v s hv hs
theorem qyr : ∀ (l : List (Nat × AObj)) (os : List AObj), (∀ p ∈ l, os[p.1]? = some p.2) → jd os l = os
 | [], _, _ => rfl
 | (id, o) :: l, os, h => by
  have h0 : os[id]? = some o := h (id, o) List.mem_cons_self
  have h1 : os.set id o = os := by
   apply List.ext_getElem?
   intro j
   rw [List.getElem?_set]
   split
   ·rename_i e
    subst e
    rw [h0, if_pos (List.getElem?_eq_some_iff.1 h0).1]
   ·rfl
  rw [jd, h1]
  exact qyr l os fun p hp => h p (List.mem_cons_of_mem _ hp)
theorem qpw {f : Operand} {args : Array Operand} {argTypes : Array TypeId} {f' : Opd} {args' : List Opd} {k : FuncId} {as fa : List ASlot} {r : ASlot} {fo fo' : List AObj} {ι : List Nat} {H : List (Nat × Nat)} {R : List Nat} (ho : oper.op = .call { callee := .value f, args, argTypes })
  (hf : qp f = some f') (ha : args.toList.mapM qp = some args') (hs : SR N T g w st a) (hfr : Fresh T tb) (h : CallOkT P st f' args' k as fa r fo fo' ι H R) {K : Act → World → Prop} {Q : Exit → Act → World → Prop}
  (hK : ∀ v w' g', G g w g' w' → SR N (Next T tb) g' w' { st with os := jd st.os (qdx tb H R r fo' ι).wrs, live := qn st.live (qdx tb H R r fo' ι) } a →
   RS g' w' (qn st.live (qdx tb H R r fo' ι)) v (qdx tb H R r fo' ι).v → K (a.put oper.dst v) w') {ro : Option Nat} : oper.wpIn (Fw ro) 0 P a w K Q := by
 have hcal := h.callee
 unfold qi1 at hcal
 cases hfg : f'.get st.fr with
 | d x =>
  cases x with
  | func fn first caps =>
   cases fn with
   | func k' =>
    rw [hfg] at hcal
    simp only [Option.some.injEq, Prod.mk.injEq] at hcal
    obtain ⟨rfl, rfl⟩ := hcal
    have hrf := xc hs hf h.ok
    rw [hfg] at hrf
    have hrv := wj hrf
    generalize hfv : a.eval f = fv at hrv
    cases hrv with
    | func _ vf vc _ _ l1 l2 r1 r2 =>
    obtain ⟨la, ra⟩ := xme hs ha h.oks
    have hb := h.body
    cases hfn : P.funcs[k']? with
    | none => rw [hfn] at hb; simp at hb
    | some fn =>
     rw [hfn] at hb
     simp only [Option.any_some, Bool.and_eq_true] at hb
     obtain ⟨hb1, hb2⟩ := hb
     have hname : fn.body.isNone = false := by cases hbb : fn.body <;> simp [hbb] at hb1 ⊢
     have hng : (fn.name == "runtime.NumGoroutine") = false := by simpa using hb2
     have hrun : (execOp a.eval oper).run P w = .ok (.enter k' (vf ++ args.toList.map a.eval ++ vc).toArray) w := by
      have harr : vf.toArray ++ args.map a.eval ++ vc.toArray = (vf ++ args.toList.map a.eval ++ vc).toArray := by apply Array.ext'; simp
      simp only [execOp, ho, resolve, hfv, Deferred.ofValue, Sem.run_bind, Sem.run_pure, Result.andThen_ok, invoke, callFunc, run_program, hfn, hname, hng, harr, Bool.false_eq_true, if_false]
     refine ⟨fun _ _ => trivial, ?_⟩
     rw [Oper.semAt_eq _ _ _ (by intro c; rw [ho]; simp), hrun]
     refine ⟨(fun h => by cases h), xgf ?_⟩
     have hvl : (vf ++ args.toList.map a.eval ++ vc).length = (first.map ASlot.d ++ args'.map (fun x => x.get st.fr) ++ caps.map ASlot.d).length := by
      simp only [List.length_append, List.length_map] at la ⊢
      omega
     have hvr := qyq (g := g) (w := w) (live := st.live) (us := vf ++ args.toList.map a.eval) (vs := vc) (ss := first.map ASlot.d ++ args'.map fun x => x.get st.fr) (ts := caps.map ASlot.d) (by simp only [List.length_append, List.length_map] at la ⊢; omega)
      (qyq (by simp [l1]) (fun i v s hv hsl => by
       simp only [List.getElem?_map, Option.map_eq_some_iff] at hsl
       obtain ⟨d, hd, rfl⟩ := hsl
       exact r1 i v d hv hd) ra) (fun i v s hv hsl => by
       simp only [List.getElem?_map, Option.map_eq_some_iff] at hsl
       obtain ⟨d, hd, rfl⟩ := hsl
       exact r2 i v d hv hd)
     have hlt : ∀ id ∈ ι, id < st.os.length := by
      intro id hid
      obtain ⟨j, hj⟩ := List.mem_iff_getElem?.1 hid
      by_cases hjl : j < fo.length
      ·obtain ⟨id', c, h1, h2, _⟩ := qd8 h.objs.olds j _ (List.getElem?_eq_getElem hjl)
       rw [hj] at h1; cases h1
       exact (List.getElem?_eq_some_iff.1 h2).1
      ·have hm : id ∈ ι.drop fo.length := by
        refine List.mem_iff_getElem?.2 ⟨j - fo.length, ?_⟩
        rw [List.getElem?_drop, show fo.length + (j - fo.length) = j by omega]
        exact hj
       exact (List.getElem?_eq_some_iff.1 (h.objs.news id hm)).1
     refine (xa7 h.hH h.hR h.contract hs.dom h.fits h.objs tb hfr h.few hs.objs hs.inj hs.ids hvl hvr).mono ?_
     rintro e w' ⟨v, g', rfl, hq, hr, o1, o2, o3⟩
     have hI : ∀ t, t ∈ (wq R tb r).toks ++ xh (fo'.map (AObj.rt R tb)) → tb ≤ t ∧ t < tb + 16 := fun t ht => by
      have := qlu h.hR ht
      have := h.few
      omega
     refine hK v w' g' hq.toG ?_ hr
     refine hs.quietX hq (fun _ h => .inl h) (fun t htm => ?_) h.objs.nd (by rw [List.length_map, List.length_map]; exact h.objs.len) hlt o1 o2 o3 (fun o ho s hs' t ht => ?_)
     ·rcases List.mem_append.1 htm with h1 | h1
      ·exact .inl (hs.wf.live t (List.mem_filter.1 h1).1)
      ·exact .inr (hI t h1)
     ·obtain ⟨o0, ho0, rfl⟩ := List.mem_map.1 ho
      refine .inr (hI t (List.mem_append_right _ ?_))
      cases o0 with
      | row cs =>
       obtain ⟨s0, hs0, rfl⟩ := List.mem_map.1 hs'
       rw [qym] at ht
       exact qpq ho0 hs0 ht
      | _ => cases hs'
   | _ => rw [hfg] at hcal; simp at hcal
  | _ => rw [hfg] at hcal; simp at hcal
 | _ => rw [hfg] at hcal; simp at hcal
theorem q71 {f : Operand} {args : Array Operand} {argTypes : Array TypeId} {f' : Opd} {args' : List Opd} {k : FuncId} {as fa : List ASlot} {r : ASlot} {fo fo' : List AObj} {ι : List Nat} {q : Bool} (ho : oper.op = .call { callee := .value f, args, argTypes })
  (hf : qp f = some f') (ha : args.toList.mapM qp = some args') (hs : SR N T g w st a) (hfr : Fresh T tb) (h : CallOk P st f' args' k as fa r fo fo' ι q) {K : Act → World → Prop} {Q : Exit → Act → World → Prop}
  (hK : ∀ v w' g', G g w g' w' → SR N (Next T tb) g' w' { st with os := jd st.os (zn tb as fa r fo' ι q).wrs, live := qn st.live (zn tb as fa r fo' ι q) } a →
   RS g' w' (qn st.live (zn tb as fa r fo' ι q)) v (zn tb as fa r fo' ι q).v → K (a.put oper.dst v) w') {ro : Option Nat} : oper.wpIn (Fw ro) 0 P a w K Q := by
 have hO := h.noT.1
 have hO' := h.noT.2
 have hout : qdx tb (xu as fa) r.toks r fo' ι = zn tb as fa r fo' ι false := by
  simp only [qdx, zn, qeh, xgc hO', hO', List.append_nil, cond_false]
 have hq : jd st.os (zn tb as fa r fo' ι q).wrs = jd st.os (zn tb as fa r fo' ι false).wrs := by
  have hqt := h.quiet
  cases q with
  | false => rfl
  | true =>
   have : jd st.os (ι.zip (fo'.map (AObj.ren ι))) = st.os := qyr _ _ (hqt rfl)
   simp only [zn, Out.wrs, cond_true, cond_false]
   exact this.symm
 refine qpw ho hf ha hs hfr (H := xu as fa) (R := r.toks) ⟨h.callee, h.ok, h.oks, h.contract, h.body, by rw [qnc hO, List.append_nil], by rw [hO', List.append_nil], h.fits, h.objs, h.few⟩ (fun v w' g' q1 q2 q3 => ?_)
 rw [hout] at q2 q3
 refine hK v w' g' q1 ?_ q3
 rw [hq]
 exact q2
theorem q2t {uu oo : Bool} {back : Nat} {mo : Op} {f : Opd} {args : List Opd} (h : xa P uu oo back mo = some (.call f args)) :
  ∃ f0 ma aty, mo = .call { callee := .value f0, args := ma, argTypes := aty } ∧ qp f0 = some f ∧ ma.toList.mapM qp = some args := by
 cases mo with
 | call c =>
  obtain ⟨callee, margs, argTypes⟩ := c
  cases callee with
  | value f0 =>
   simp only [xa] at h
   split at h
   ·rename_i a0 l0 h2 h3
    cases uu <;> cases h
    exact ⟨f0, margs, argTypes, rfl, h2, h3⟩
   ·cases h
  | invoke _ _ => simp [xa] at h
  | builtin b =>
   exfalso
   cases b <;> simp only [xa, qbh] at h <;> (repeat' split at h) <;> first | (cases h; done) | (simp only [Option.map_eq_some_iff] at h; obtain ⟨_, _, h⟩ := h; cases h)
 | makeMap t r => exfalso; cases r <;> simp [xa] at h
 | next x s => exfalso; cases s <;> simp [xa] at h
 | _ =>
  exfalso
  simp only [xa, mkSl, Option.map_eq_some_iff] at h
  first
   | (obtain ⟨_, _, h⟩ := h; cases h; done)
   | ((repeat' split at h) <;> first | (cases h; done) | (simp only [Option.map_eq_some_iff] at h; obtain ⟨_, _, h⟩ := h; cases h))
theorem qys {uu oo : Bool} {back : Nat} {mo : Op} {f : Opd} {args : List Opd} (h : xa P uu oo back mo = some (.callT f args)) :
  ∃ f0 ma aty, mo = .call { callee := .value f0, args := ma, argTypes := aty } ∧ qp f0 = some f ∧ ma.toList.mapM qp = some args := by
 cases mo with
 | call c =>
  obtain ⟨callee, margs, argTypes⟩ := c
  cases callee with
  | value f0 =>
   simp only [xa] at h
   split at h
   ·rename_i a0 l0 h2 h3
    cases uu <;> cases h
    exact ⟨f0, margs, argTypes, rfl, h2, h3⟩
   ·cases h
  | invoke _ _ => simp [xa] at h
  | builtin b =>
   exfalso
   cases b <;> simp only [xa, qbh] at h <;> (repeat' split at h) <;> first | (cases h; done) | (simp only [Option.map_eq_some_iff] at h; obtain ⟨_, _, h⟩ := h; cases h)
 | makeMap t r => exfalso; cases r <;> simp [xa] at h
 | next x s => exfalso; cases s <;> simp [xa] at h
 | _ =>
  exfalso
  simp only [xa, mkSl, Option.map_eq_some_iff] at h
  first
   | (obtain ⟨_, _, h⟩ := h; cases h; done)
   | ((repeat' split at h) <;> first | (cases h; done) | (simp only [Option.map_eq_some_iff] at h; obtain ⟨_, _, h⟩ := h; cases h))
theorem qau (a : Act) (d : Option Tmp) (v : Value) : (a.put d v).defers = a.defers := by cases d <;> rfl
theorem xk8 {back : Nat} {o : SOper} {gb : Bool} {out : Out} {K : Act → World → Prop} {Q : Exit → Act → World → Prop} (hc : qdv P mu ops N back oper = some o) (hs : SR N T g w st a) (hfr : Fresh T tb)
  (h1 : AOne P tb o st gb out) (hne : o.op.isNilS = false) (hK : ∀ a' w' g', a'.defers = a.defers → G g w g' w' → SR N (Next T tb) g' w' (st.next o gb out) a' → K a' w') {ro : Option Nat} :
  if Region.wanted oper (yielded ops a.tmps) then oper.wpIn (Fw ro) 0 P a w K Q else ((∀ f, oper.about P w a.eval = some f → (Fw ro).fn f) ∧ K (a.put oper.dst undef) w) := by
 obtain ⟨hgv, htame, hop⟩ := h1
 rw [qfx hc hs hgv]
 cases gb with
 | false =>
  rw [if_neg (by simp)]
  exact ⟨fun _ _ => trivial, hK _ _ g (qau ..) (G.refl g w) ((xbb hc hs (by simpa using htame)).weakT fun _ h => .inl h)⟩
 | true =>
  rw [if_pos rfl]
  obtain ⟨hco, _, _, _⟩ := vn hc
  have plain : out = sem tb o.op st → (out.ob ∧ ∀ t ∈ out.cons, t ∈ st.live) → oper.wpIn (Fw ro) 0 P a w K Q := by
   intro he hob
   subst he
   obtain ⟨n, v, w', g', r1, r2, r3, r4, r5, r6⟩ := xa8 hco hs hfr hob.1 hob.2
   refine ⟨fun _ _ => trivial, ?_⟩
   rw [Oper.semAt_eq _ _ _ (qc4 hco), r1]
   have hfin := hK _ _ g' (qau ..) r3 (qc5 hc (by rw [xa9 st (xba _ _)]; have := qsj st (sem tb o.op st).wr; exact (by rw [← this.1, ← this.2.2]; exact r4)) r5 r6)
   rcases r2 with rfl | ⟨rfl, rfl⟩
   ·exact hfin
   ·exact hfin
  cases hoo : o.op with
  | call f args =>
   rw [hoo] at hop hco
   obtain ⟨k, as, fa, r, fo, fo', ι, qb, rfl, hfew, hok⟩ := hop
   have hok := hok rfl
   obtain ⟨f0, ma, aty, hmo, h2, h3⟩ := q2t hco
   refine q71 hmo h2 h3 hs hfr hok (fun v w' g' q1 q2 q3 => hK _ _ g' (qau ..) q1 (qc5 hc q2 q3 (fun t ht => ?_)))
   have ht : t ∈ ((qeh tb r).ren ι).toks := ht
   rw [qvh] at ht
   have := qta ht
   exact .inr ⟨by omega, by omega⟩
  | eqnilS neg x => rw [hoo] at hne; simp [SOp.isNilS] at hne
  | _ => rw [hoo] at hop; exact plain (by rw [hoo]; exact hop.1) (hop.2 rfl)
end
end Go.Abs
namespace Go.Abs
def Out.touch (out : Out) : List Nat := out.wrs.map (·.1) ++ (out.rd.toList ++ out.rds)
def Out.tags (out : Out) : List Nat := out.wrs.map (·.1) ++ (out.wrs.map (fun p => 1000000 + p.1) ++ (out.rd.toList ++ out.rds.map fun i => 1000000 + i))
theorem qtc {x y : Out} {id : Nat} (h1 : id ∈ x.touch) (h2 : id ∈ y.wrs.map (·.1)) : ∃ i, i ∈ x.tags ∧ i ∈ y.tags := by
 have hy : 1000000 + id ∈ y.wrs.map (fun p => 1000000 + p.1) := by
  grind
 unfold Out.touch at h1
 unfold Out.tags
 rcases List.mem_append.1 h1 with h | h
 ·exact ⟨id, List.mem_append_left _ h, List.mem_append_left _ h2⟩
 ·rcases List.mem_append.1 h with h | h
  ·exact ⟨id, List.mem_append_right _ (List.mem_append_right _ (List.mem_append_left _ h)), List.mem_append_left _ h2⟩
  ·exact ⟨1000000 + id, List.mem_append_right _ (List.mem_append_right _ (List.mem_append_right _ (List.mem_map.2 ⟨id, h, rfl⟩))), List.mem_append_right _ (List.mem_append_left _ hy)⟩
def qtd (neg b : Bool) : Out := { v := .d (.bool (if neg then !b else b)), ob := True }
def qgk : Out := { v := qpn, ob := True }
def qpx (iid mid since : Nat) (seen : List Nat) (clock : Nat) (e : Nat × D × D) : Out := { v := entV e, ob := True, wr := some (iid, .iter (.d (.map mid)) since (seen ++ [e.1]) clock) }
def qpy (id id' es n : Nat) (os : List AObj) (r : Src) : Out := { v := .d (.ref id' 0 es (n + r.rows.length)), ob := True, wr := some (id', .row (yo os id es n r)) }
def qgl (e : Nat × D × D) : Out := { v := .tup [.d e.2.1, .d e.2.2], ob := True }
def Obl (g : Bool) (out : Out) (live : List Nat) : Prop := (g = true → out.ob ∧ ∀ t ∈ out.cons, t ∈ live) ∧ (g = true ∨ out.tame)
def ARun (P : Program) : List SOper → Nat → List (List Nat) → (List (List Nat) → St → Prop) → St → Prop
 | [], _, tids, K, st => K tids st
 | o :: ops, k, tids, K, st =>
  match gv st.fr o.guard with
  | none => False
  | some g =>
   match o.op with
   | .call f args => ∃ n as fa r fo fo' ι q, r.toks.length ≤ 16 ∧ (g = true → CallOk P st f args n as fa r fo fo' ι q) ∧ (g = true ∨ (zn (16 * (st.nt + k)) as fa r fo' ι q).tame) ∧
     ARun P ops (k + 1) (tids ++ [(zn (16 * (st.nt + k)) as fa r fo' ι q).tags]) K (st.next o g (zn (16 * (st.nt + k)) as fa r fo' ι q))
   | .eqnilS neg x => g = true ∧ x.ok st.fr = true ∧ ∃ es rows, (x.get st.fr).rows = some (es, rows) ∧
     ∀ b : Bool, (b = true → rows = []) → ARun P ops (k + 1) (tids ++ [[]]) K (st.next o g (qtd neg b))
   | .nextM x => g = true ∧ x.ok st.fr = true ∧ ∃ iid, x.get st.fr = .d (.ptr iid 0) ∧
     ((∃ since seen last, st.os[iid]? = some (.iter (.d .nilmap) since seen last) ∧ ARun P ops (k + 1) (tids ++ [[]]) K (st.next o g qgk)) ∨
      ∃ mid since seen last es clock, IterOn st.os iid mid since seen last es clock ∧ (qgg es seen = [] → ARun P ops (k + 1) (tids ++ [[]]) K (st.next o g qgk)) ∧
       ∀ e ∈ qgg es seen, ARun P ops (k + 1) (tids ++ [[]]) K (st.next o g (qpx iid mid since seen clock e)))
   | .appendR back es bytes s x => g = true ∧ (((sem (16 * (st.nt + k)) (.appendO back es bytes s x) st).ob ∧ ARun P ops (k + 1) (tids ++ [[]]) K (st.next o g (sem (16 * (st.nt + k)) (.appendO back es bytes s x) st))) ∨
     (s.ok st.fr = true ∧ x.ok st.fr = true ∧ ∃ id n r, s.get st.fr = .d (.ref id 0 es n) ∧ y8 es st.os (x.get st.fr) = some r ∧ AppR st.os es bytes back id n r ∧
      ARun P ops (k + 1) (tids ++ [[]]) K (st.next o g (qpy id id es n st.os r)) ∧ ARun P ops (k + 1) (tids ++ [[]]) K (st.next o g (qpy id (st.os.length - back) es n st.os r))))
   | .callT f args => g = true ∧ ∃ n as fa r fo fo' ι H R, CallOkT P st f args n as fa r fo fo' ι H R ∧ ARun P ops (k + 1) (tids ++ [[]]) K (st.next o g (qdx (16 * (st.nt + k)) H R r fo' ι))
   | .entryM x => g = true ∧ x.ok st.fr = true ∧ ∃ iid mid since seen clock es e, x.get st.fr = .d (.ptr iid 0) ∧ EntryOn st.os iid mid since seen clock es e ∧
     ARun P ops (k + 1) (tids ++ [[]]) K (st.next o g (qgl e))
   | op => Obl g (sem (16 * (st.nt + k)) op st) st.live ∧ ARun P ops (k + 1) (tids ++ [(sem (16 * (st.nt + k)) op st).tags]) K (st.next o g (sem (16 * (st.nt + k)) op st))
def qfo (pairs : List (Nat × Nat)) (tids : List (List Nat)) : Prop :=
 ∀ p ∈ pairs, ∀ i ∈ tids.getD p.1 [], i ∉ tids.getD p.2 []
def St.grow (st : St) (n : Nat) : St := { st with os := st.os ++ List.replicate n .none }
def St.bump (st : St) (n : Nat) : St := { st with nt := st.nt + n }
def xbc (P : Program) (ops : List SOper) (objs : Nat) (pairs : List (Nat × Nat)) (Q : St → Prop) (st : St) : Prop :=
 ARun P ops 0 [] (fun tids st' => qfo pairs tids ∧ Q (st'.bump ops.length)) (st.grow objs)
section
variable {P : Program} {mu : List Nat} {N tb : Nat} {T : Nat → Prop} {g : Ghost} {w : World} {st : St} {a : Act} {ops : Array Oper}
theorem qde (os : List AObj) (n id : Nat) (o : AObj) (ho : o ≠ .none) : (os ++ List.replicate n AObj.none)[id]? = some o ↔ os[id]? = some o := by
 grind
theorem SR.grow (hs : SR N T g w st a) (n : Nat) : SR N T g w (st.grow n) a := by
 refine ⟨hs.dom, hs.defers, hs.size, hs.slots, fun id o ho hn => hs.objs id o ((qde _ _ _ _ hn).1 ho) hn, hs.inj, fun b id hb => ?_, ⟨hs.wf.live, hs.wf.fr, fun id o ho s hsm t ht => ?_⟩⟩
 ·obtain ⟨o, ho, hn⟩ := hs.ids b id hb
  exact ⟨o, (qde _ _ _ _ hn).2 ho, hn⟩
 ·by_cases hn : o = .none
  ·grind [AObj.cells]
  ·exact hs.wf.os id o ((qde _ _ _ _ hn).1 ho) s hsm t ht
theorem SR.bump (hs : SR N T g w st a) (n : Nat) : SR N T g w (st.bump n) a := ⟨hs.dom, hs.defers, hs.size, hs.slots, hs.objs, hs.inj, hs.ids, ⟨hs.wf.live, hs.wf.fr, hs.wf.os⟩⟩
def below (n : Nat) : Nat → Prop := fun t => t < 16 * n
theorem qpz (n : Nat) : Fresh (below n) (16 * n) := fun t h h2 => by grind [below]
theorem qte (n : Nat) : ∀ t, Next (below n) (16 * n) t → below (n + 1) t := by
 intro t h
 unfold below at *
 rcases h with h | h
 ·omega
 ·omega
theorem qbk (st : St) (o : SOper) (g : Bool) (out : Out) : (st.next o g out).nt = st.nt := rfl
theorem q2u {uu oo : Bool} {back : Nat} {mo : Op} {neg : Bool} {x : Opd} (h : xa P uu oo back mo = some (.eqnilS neg x)) :
  ∃ t x0 y0 u e, mo = .binOp (if neg then .neq else .eql) t x0 y0 u ∧ qp x0 = some x ∧ P.underlying t = some (.slice e) ∧ qh6 y0 = true := by
 cases mo with
 | binOp op t x0 y0 u =>
  simp only [xa] at h
  split at h
  ·cases h
  ·cases h
  ·grind
  ·rename_i a b e h1 h2 h3
   split at h
   ·rename_i hy
    split at h
    ·cases h; grind
    ·cases h; grind
    grind
   grind
  all_goals grind
 | call c =>
  exfalso
  obtain ⟨callee, margs, argTypes⟩ := c
  cases callee with
  | value f0 => cases uu <;> simp only [xa, qx1] at h <;> grind
  | invoke _ _ => simp [xa] at h
  | builtin b => cases b <;> simp only [xa, qbh] at h <;> (repeat' split at h) <;> first | grind | simp_all
 | makeMap t r => exfalso; cases r <;> simp [xa] at h
 | next x s => exfalso; cases s <;> simp [xa] at h
 | _ =>
  exfalso
  simp only [xa, mkSl, Option.map_eq_some_iff] at h
  first
   | (obtain ⟨_, _, h⟩ := h; cases h; done)
   | ((repeat' split at h) <;> first | (cases h; done) | (simp only [Option.map_eq_some_iff] at h; obtain ⟨_, _, h⟩ := h; cases h))
theorem qyt {uu oo : Bool} {back : Nat} {mo : Op} {x : Opd} (h : xa P uu oo back mo = some (.nextM x)) : ∃ x0, mo = .next x0 false ∧ qp x0 = some x := by
 cases mo with
 | next x0 s =>
  cases s with
  | false =>
   simp only [xa, mkSl, Option.map_eq_some_iff] at h
   grind
  | true => simp [xa] at h
 | call c =>
  exfalso
  obtain ⟨callee, margs, argTypes⟩ := c
  cases callee with
  | value f0 => cases uu <;> simp only [xa, qx1] at h <;> grind
  | invoke _ _ => simp [xa] at h
  | builtin b => cases b <;> simp only [xa, qbh] at h <;> (repeat' split at h) <;> first | grind | simp_all
 | makeMap t r => exfalso; cases r <;> simp [xa] at h
 | _ =>
  exfalso
  simp only [xa, mkSl, Option.map_eq_some_iff] at h
  first
   | (obtain ⟨_, _, h⟩ := h; cases h; done)
   | ((repeat' split at h) <;> first | (cases h; done) | (simp only [Option.map_eq_some_iff] at h; obtain ⟨_, _, h⟩ := h; cases h))
theorem qsk {uu oo : Bool} {back bk es bytes : Nat} {mo : Op} {s' x' : Opd} (h : xa P uu oo back mo = some (.appendR bk es bytes s' x')) :
  ∃ s0 x0 t u e i z, mo = .call { callee := .builtin .append, args := #[s0, x0], argTypes := #[t, u] } ∧ P.underlying t = some (.slice e) ∧ P.info? e = some i ∧ jc P e = some z ∧ i.size = z.length ∧ 0 < i.bytes ∧
   ((∃ f, P.underlying u = some (.slice f)) ∨ P.underlying u = some .string) ∧ qp s0 = some s' ∧ qp x0 = some x' ∧ es = i.size ∧ bytes = i.bytes := by
 have mk : ∀ {a b : Nat} {y v : Opd}, some (qbh uu oo back a b y v) = some (SOp.appendR bk es bytes s' x') → es = a ∧ bytes = b ∧ s' = y ∧ x' = v := by
  intro a b y v h
  unfold qbh at h
  grind
 cases mo with
 | call c =>
  obtain ⟨callee, margs, argTypes⟩ := c
  cases callee with
  | value f0 => exfalso; cases uu <;> simp only [xa, qx1] at h <;> grind
  | invoke _ _ => simp_all [xa]
  | builtin b =>
   by_cases happ : b = .append
   ·subst happ
    simp only [xa] at h
    split at h
    ·rename_i s x t u ha hty
     have ea : margs = #[s, x] := by grind
     have et : argTypes = #[t, u] := by grind
     grind
    grind
   ·exfalso
    cases b <;> simp only [xa, qbh] at h <;> (repeat' split at h) <;> first | grind | grind | simp_all
 | makeMap t r => exfalso; cases r <;> simp [xa] at h
 | next x s => exfalso; cases s <;> simp [xa] at h
 | _ =>
  exfalso
  simp only [xa, mkSl, Option.map_eq_some_iff] at h
  first
   | (obtain ⟨_, _, h⟩ := h; cases h; done)
   | ((repeat' split at h) <;> first | (cases h; done) | (simp only [Option.map_eq_some_iff] at h; obtain ⟨_, _, h⟩ := h; cases h))
theorem qvj {uu oo : Bool} {back : Nat} {mo : Op} {x : Opd} (h : xa P uu oo back mo = some (.entryM x)) : ∃ x0, mo = .entry x0 ∧ qp x0 = some x := by
 cases mo with
 | entry x0 =>
  simp only [xa, mkSl, Option.map_eq_some_iff] at h
  grind
 | next x s => exfalso; cases s <;> simp [xa] at h
 | call c =>
  exfalso
  obtain ⟨callee, margs, argTypes⟩ := c
  cases callee with
  | value f0 => cases uu <;> simp only [xa, qx1] at h <;> grind
  | invoke _ _ => simp [xa] at h
  | builtin b => cases b <;> simp only [xa, qbh] at h <;> (repeat' split at h) <;> first | grind | simp_all
 | makeMap t r => exfalso; cases r <;> simp [xa] at h
 | _ =>
  exfalso
  simp only [xa, mkSl, Option.map_eq_some_iff] at h
  first
   | (obtain ⟨_, _, h⟩ := h; cases h; done)
   | ((repeat' split at h) <;> first | (cases h; done) | (simp only [Option.map_eq_some_iff] at h; obtain ⟨_, _, h⟩ := h; cases h))
theorem qhh {ro : Option Nat} {Q : Exit → Act → World → Prop} : ∀ (l : List Oper) (sops : List SOper) (k : Nat) (tids : List (List Nat)) (K : List (List Nat) → St → Prop) (st : St) (g : Ghost) (w : World) (a : Act),
  qfm P mu N ops l = some sops → ARun P sops k tids K st → SR N (below (st.nt + k)) g w st a →
  (∀ tids' st' a' w' g', a'.defers = a.defers → K tids' st' → st'.nt = st.nt → G g w g' w' → SR N (below (st.nt + k + sops.length)) g' w' st' a' → Q .normal a' w') → wpListIn (Fw ro) 0 P ops Q l a w
 | [], sops, k, tids, K, st, g, w, a, hc, hr, hs, hQ => by
  simp [qfm] at hc; subst hc
  exact hQ tids st a w g rfl hr rfl (G.refl g w) (by omega)
 | oper :: l, sops, k, tids, K, st, g, w, a, hc, hr, hs, hQ => by
  simp only [qfm] at hc
  split at hc
  ·rename_i o rest h1 h2
   cases hc
   simp only [ARun] at hr
   cases hg : gv st.fr o.guard with
   | none => grind
   | some gb =>
    rw [hg] at hr
    have fin : ∀ out : Out, AOne P (16 * (st.nt + k)) o st gb out → o.op.isNilS = false → (∃ td, ARun P rest (k + 1) (tids ++ [td]) K (st.next o gb out)) → wpListIn (Fw ro) 0 P ops Q (oper :: l) a w := by
     rintro out h3 hne ⟨td, h4⟩
     refine wpListIn_step (fun K' hK' => xk8 h1 hs (qpz _) h3 hne (fun a' w' g' hdf hG hs' => hK' a' w' ?_))
     refine qhh l rest (k + 1) (tids ++ [td]) K (st.next o gb out) g' w' a' h2 h4 (by rw [qbk, ← Nat.add_assoc]; exact hs'.weakT (qte _)) (fun tids' st' a'' w'' g'' q0 q1 q2 q3 q4 => hQ tids' st' a'' w'' g'' (q0.trans hdf) q1 q2 (hG.trans q3) ?_)
     grind [qbk, List.length_cons]
    cases hop : o.op with
    | call f args =>
     rw [hop] at hr
     obtain ⟨n, as, fa, r, fo, fo', ι, q, r1, r2, r3, r4⟩ := hr
     exact fin _ ⟨hg, r3, by grind⟩ (by rw [hop]; rfl) ⟨_, r4⟩
    | eqnilS neg x =>
     rw [hop] at hr
     obtain ⟨r1, r2, es, rows, r3, r4⟩ := hr
     subst r1
     obtain ⟨hco, hdst, hd, _⟩ := vn h1
     rw [hop] at hco
     obtain ⟨t, x0, y0, u, e, hmo, hx, ht, hy⟩ := q2u hco
     obtain ⟨b, hb, v, hv1, hv2⟩ := qyg hmo ht hx hy hs r2 r3
     refine wpListIn_step (fun K' hK' => ?_)
     rw [qfx h1 hs hg, if_pos rfl]
     refine ⟨fun _ _ => trivial, ?_⟩
     rw [Oper.semAt_eq _ _ _ (qc4 hco), hv1]
     refine hK' _ _ (qhh l rest (k + 1) _ K (st.next o true (qtd neg b)) g w (a.put oper.dst v) h2 (r4 b hb) ?_ (fun tids' st' a'' w'' g'' q0 q1 q2 q3 q4 => hQ tids' st' a'' w'' g'' (q0.trans (qau ..)) q1 q2 q3 ?_))
     ·refine qc5 h1 ?_ ?_ (by simp [qtd, ASlot.toks])
      ·have : qn st.live (qtd neg b) = st.live := xd rfl rfl
       rw [this]
       exact (hs.weakT fun t h => by grind [qbk, below])
      ·exact hv2
     grind [qbk, List.length_cons]
    | nextM x =>
     rw [hop] at hr
     obtain ⟨r1, r2, iid, r3, r4⟩ := hr
     subst r1
     obtain ⟨hco, hdst, hd, _⟩ := vn h1
     rw [hop] at hco
     obtain ⟨x0, hmo, hx⟩ := qyt hco
     refine wpListIn_step (fun K' hK' => ?_)
     rw [qfx h1 hs hg, if_pos rfl]
     refine ⟨fun _ _ => trivial, ?_⟩
     rw [Oper.semAt_eq _ _ _ (qc4 hco)]
     have xsn : (∃ v, (execOp a.eval oper).run P w = .ok (.value v) w ∧ RS g w st.live v qpn) → ARun P rest (k + 1) (tids ++ [[]]) K (st.next o true qgk) →
       (match (execOp a.eval oper).run P w with | .ok n w' => (match n with | .value v => K' (a.put oper.dst v) w' | _ => True) | _ => True) ∧ ∃ v, (execOp a.eval oper).run P w = .ok (.value v) w ∧ wpListIn (Fw ro) 0 P ops Q l (a.put oper.dst v) w := by
      rintro ⟨v, hv1, hv2⟩ hr4
      have hfin : wpListIn (Fw ro) 0 P ops Q l (a.put oper.dst v) w := by
       refine qhh l rest (k + 1) _ K (st.next o true qgk) g w (a.put oper.dst v) h2 hr4 ?_ (fun tids' st' a'' w'' g'' q0 q1 q2 q3 q4 => hQ tids' st' a'' w'' g'' (q0.trans (qau ..)) q1 q2 q3 ?_)
       ·refine qc5 h1 ?_ ?_ (by simp [qgk, qpn, ASlot.toks, qbx])
        ·have : qn st.live qgk = st.live := xd rfl rfl
         rw [this]
         exact (hs.weakT fun t h => by grind [qbk, below])
        ·have : qn st.live qgk = st.live := xd rfl rfl
         rw [this]
         exact hv2
       grind [qbk, List.length_cons]
      grind
     rcases r4 with ⟨since, seen, last, r5, r6⟩ | ⟨mid, since, seen, last, es, clock, r5, r6, r7⟩
     ·obtain ⟨v, hv, hw'⟩ := (xsn (qyk hmo hx hs r2 r3 r5) r6).2
      rw [hv]
      exact hK' _ _ hw'
     ·rcases q7w hmo hx hs r2 r3 r5 with ⟨hl, hov⟩ | ⟨e, he, v, w', hv1, hv2, hv3, hv4⟩
      ·obtain ⟨v, hv, hw'⟩ := (xsn hov (r6 hl)).2
       rw [hv]
       exact hK' _ _ hw'
      ·rw [hv1]
       refine hK' _ _ (qhh l rest (k + 1) _ K (st.next o true (qpx iid mid since seen clock e)) g w' (a.put oper.dst v) h2 (r7 e he) ?_ (fun tids' st' a'' w'' g'' q0 q1 q2 q3 q4 => hQ tids' st' a'' w'' g'' (q0.trans (qau ..)) q1 q2 (hv2.trans q3) ?_))
       ·refine qc5 h1 ?_ ?_ (by simp [qpx, entV, ASlot.toks, qbx])
        ·have : qn st.live (qpx iid mid since seen clock e) = st.live := xd rfl rfl
         rw [this]
         exact (hv3.weakT fun t h => by grind [qbk, below])
        ·have : qn st.live (qpx iid mid since seen clock e) = st.live := xd rfl rfl
         rw [this]
         exact hv4
       grind [qbk, List.length_cons]
    | appendR back es bytes s' x' =>
     rw [hop] at hr
     obtain ⟨r1, r2⟩ := hr
     subst r1
     obtain ⟨hco, hdst, hd, _⟩ := vn h1
     rw [hop] at hco
     obtain ⟨s0, x0, t, u, e, i, z, hmo, q1, q2, q3, q4, q5, q6, q7, q8, rfl, rfl⟩ := qsk hco
     have go : ∀ {out : Out} {v : Value} {w' : World} {g' : Ghost}, out.cons = [] → out.iss = [] → out.v.toks = [] → (execOp a.eval oper).run P w = .ok (.value v) w' → G g w g' w' → SR N (below (st.nt + k)) g' w' (zu st out.wr) a → RS g' w' st.live v out.v → out.mv = [] →
       ARun P rest (k + 1) (tids ++ [[]]) K (st.next o true out) → wpListIn (Fw ro) 0 P ops Q (oper :: l) a w := by
      intro out v w' g' hcons hiss htoks hv1 hv2 hv3 hv4 hw2 hr4
      refine wpListIn_step (fun K' hK' => ?_)
      rw [qfx h1 hs hg, if_pos rfl]
      refine ⟨fun _ _ => trivial, ?_⟩
      rw [Oper.semAt_eq _ _ _ (qc4 hco), hv1]
      have hl : qn st.live out = st.live := xd hcons hiss
      have hwo : zu st out.wr = { st with os := jd st.os out.wrs } := by
       unfold Out.wrs
       rw [hw2]
       cases out.wr <;> simp [zu, jd]
      rw [hwo] at hv3
      refine hK' _ _ (qhh l rest (k + 1) _ K (st.next o true out) g' w' (a.put oper.dst v) h2 hr4 ?_ (fun tids' st' a'' w'' g'' q0 q1 q2 q3 q4 => hQ tids' st' a'' w'' g'' (q0.trans (qau ..)) q1 q2 (hv2.trans q3) ?_))
      ·refine qc5 h1 ?_ ?_ (by grind)
       ·rw [hl]
        exact (hv3.weakT fun t h => by grind [qbk, below])
       grind
      grind [qbk, List.length_cons]
     rcases r2 with ⟨r3, r4⟩ | ⟨o1, o2, id, n, r, k1, k2, k3, k4, k5⟩
     ·grind [qm8, sem, jj, Out.bad, ASlot.toks]
     ·obtain ⟨v, w', g', hv1, hv2, hv⟩ := qyl hmo q1 q2 q3 q4 q5 q6 q7 q8 hs o1 o2 k1 k2 k3
      rcases hv with ⟨hv3, hv4⟩ | ⟨hv3, hv4⟩
      ·exact go (out := qpy id id i.size n st.os r) rfl rfl rfl hv1 hv2 hv3 hv4 rfl k4
      ·exact go (out := qpy id (st.os.length - back) i.size n st.os r) rfl rfl rfl hv1 hv2 hv3 hv4 rfl k5
    | callT f args =>
     rw [hop] at hr
     obtain ⟨r1, n, as, fa, r, fo, fo', ι, H, R, r2, r3⟩ := hr
     subst r1
     obtain ⟨hco, hdst, hd, _⟩ := vn h1
     rw [hop] at hco
     obtain ⟨f0, ma, aty, hmo, m2, m3⟩ := qys hco
     refine wpListIn_step (fun K' hK' => ?_)
     rw [qfx h1 hs hg, if_pos rfl]
     refine qpw hmo m2 m3 hs (qpz _) r2 (fun v w' g' e1 e2 e3 => hK' _ _ (qhh l rest (k + 1) _ K (st.next o true (qdx (16 * (st.nt + k)) H R r fo' ι)) g' w' (a.put oper.dst v) h2 r3 ?_ (fun tids' st' a'' w'' g'' q0 q1 q2 q3 q4 => hQ tids' st' a'' w'' g'' (q0.trans (qau ..)) q1 q2 (e1.trans q3) ?_)))
     ·rw [qbk, ← Nat.add_assoc]
      refine (qc5 h1 e2 e3 (fun t ht => ?_)).weakT (qte _)
      have ht : t ∈ ((wq R (16 * (st.nt + k)) r).ren ι).toks := ht
      rw [qvh] at ht
      have := qlu r2.hR (List.mem_append_left _ ht)
      have := r2.few
      exact .inr ⟨by omega, by omega⟩
     grind [qbk, List.length_cons]
    | entryM x =>
     rw [hop] at hr
     obtain ⟨r1, r2, iid, mid, since, seen, clock, es, e, r3, r4, r5⟩ := hr
     subst r1
     obtain ⟨hco, hdst, hd, _⟩ := vn h1
     rw [hop] at hco
     obtain ⟨x0, hmo, hx⟩ := qvj hco
     obtain ⟨v, hv1, hv2⟩ := q2q hmo hx hs r2 r3 r4
     refine wpListIn_step (fun K' hK' => ?_)
     rw [qfx h1 hs hg, if_pos rfl]
     refine ⟨fun _ _ => trivial, ?_⟩
     rw [Oper.semAt_eq _ _ _ (qc4 hco), hv1]
     refine hK' _ _ (qhh l rest (k + 1) _ K (st.next o true (qgl e)) g w (a.put oper.dst v) h2 r5 ?_ (fun tids' st' a'' w'' g'' q0 q1 q2 q3 q4 => hQ tids' st' a'' w'' g'' (q0.trans (qau ..)) q1 q2 q3 ?_))
     ·refine qc5 h1 ?_ ?_ (by simp [qgl, ASlot.toks, qbx])
      ·have : qn st.live (qgl e) = st.live := xd rfl rfl
       rw [this]
       exact (hs.weakT fun t h => by grind [qbk, below])
      ·have : qn st.live (qgl e) = st.live := xd rfl rfl
       rw [this]
       exact hv2
     grind [qbk, List.length_cons]
    | _ =>
     rw [hop] at hr
     exact fin _ ⟨hg, hr.1.2, by rw [hop]; exact ⟨rfl, hr.1.1⟩⟩ (by rw [hop]; rfl) ⟨_, hr.2⟩
  grind
end
end Go.Abs
namespace Go.Abs
abbrev Done := SOper × Bool × Out
def xbd (P : Program) : List Done → Nat → St → Prop
 | [], _, _ => True
 | (o, g, out) :: l, k, st => AOne P (16 * (st.nt + k)) o st g out ∧ xbd P l (k + 1) (st.next o g out)
def ap (S : Nat → Bool) : List Done → Nat → St → St
 | [], _, st => st
 | (o, g, out) :: l, k, st => ap S l (k + 1) (if S k then st.next o g out else st)
theorem qkf {P : Program} : ∀ (sops : List SOper) (k : Nat) (tids : List (List Nat)) (K : List (List Nat) → St → Prop) (st : St), ARun P sops k tids K st → (sops.any fun o => o.op.isNilS) = false →
  ∃ l : List Done, l.map (·.1) = sops ∧ xbd P l k st ∧ K (tids ++ l.map fun d => d.2.2.tags) (ap (fun _ => true) l k st)
 | [], k, tids, K, st, h, _ => ⟨[], rfl, trivial, by grind [ap, ARun]⟩
 | o :: sops, k, tids, K, st, h, hn => by
  simp only [List.any_cons, Bool.or_eq_false_iff] at hn
  simp only [ARun] at h
  cases hg : gv st.fr o.guard with
  | none => grind
  | some gb =>
   rw [hg] at h
   have fin : ∀ (out : Out) (td : List Nat), AOne P (16 * (st.nt + k)) o st gb out → ARun P sops (k + 1) (tids ++ [td]) K (st.next o gb out) → out.tags = td →
     ∃ l : List Done, l.map (·.1) = o :: sops ∧ xbd P l k st ∧ K (tids ++ l.map fun d => d.2.2.tags) (ap (fun _ => true) l k st) := by
    intro out td h1 h2 h3
    obtain ⟨l, q1, q2, q3⟩ := qkf sops (k + 1) _ K _ h2 hn.2
    refine ⟨(o, gb, out) :: l, by simp [q1], ⟨h1, q2⟩, ?_⟩
    simp_all [List.map_cons, ap, if_true, List.append_assoc]
   cases hop : o.op with
   | call f args =>
    rw [hop] at h
    obtain ⟨n, as, fa, r, fo, fo', ι, q, r1, r2, r3, r4⟩ := h
    exact fin _ _ ⟨hg, r3, by grind⟩ r4 rfl
   | eqnilS neg x => grind [SOp.isNilS]
   | nextM x => grind [SOp.isNilS]
   | appendR _ _ _ _ _ => grind [SOp.isNilS]
   | callT _ _ => grind [SOp.isNilS]
   | entryM x => grind [SOp.isNilS]
   | _ =>
    rw [hop] at h
    exact fin _ _ ⟨hg, h.1.2, by rw [hop]; exact ⟨rfl, h.1.1⟩⟩ h.2 rfl
theorem xpr (S : Nat → Bool) : ∀ (l : List Done) (k : Nat) (st : St), (ap S l k st).nt = st.nt
 | [], _, _ => rfl
 | (o, g, out) :: l, k, st => by
  simp only [ap]
  rw [xpr S l]
  split <;> rfl
theorem qhi (S : Nat → Bool) : ∀ (l : List Done) (k : Nat) (st : St), (ap S l k st).os.length = st.os.length
 | [], _, _ => rfl
 | (o, g, out) :: l, k, st => by
  simp only [ap]
  rw [qhi S l]
  split
  ·exact qgj out.wrs st.os
  ·rfl
theorem qkg (fr : Fr) (dst : Option Nat) (g : Bool) (v : ASlot) (k : Nat) : (ww fr dst g v).get k = if dst = some k then some (g, v) else fr.get k := by
 cases dst with
 | none => rfl
 | some d =>
  simp [ww, Fr.get_cons, Option.some.injEq]
theorem q5f (S S' : Nat → Bool) (s : Nat) : ∀ (l : List Done) (k : Nat) (st st' : St), st.fr.get s = st'.fr.get s →
  (∀ (j : Nat) (d : Done), l[j]? = some d → d.1.dst = some s → S (k + j) = S' (k + j)) → (ap S l k st).fr.get s = (ap S' l k st').fr.get s
 | [], k, st, st', h, _ => h
 | (o, g, out) :: l, k, st, st', h, hw => by
  simp only [ap]
  refine q5f S S' s l (k + 1) _ _ ?_ (fun j d hj hd => by have := hw (j + 1) d (by grind) hd; grind)
  by_cases hd : o.dst = some s
  ·have := hw 0 (o, g, out) rfl hd
   rw [Nat.add_zero] at this
   rw [this]
   split
   all_goals simp_all [St.next, qkg, if_true]
  ·have : ∀ x : St, (x.next o g out).fr.get s = x.fr.get s := fun x => by simp only [St.next, qkg, if_neg hd]
   grind
theorem q5g (S S' : Nat → Bool) (id : Nat) : ∀ (l : List Done) (k : Nat) (st st' : St), st.os[id]? = st'.os[id]? → st.os.length = st'.os.length →
  (∀ (j : Nat) (d : Done), l[j]? = some d → id ∈ d.2.2.wrs.map (·.1) → S (k + j) = S' (k + j)) → (ap S l k st).os[id]? = (ap S' l k st').os[id]?
 | [], k, st, st', h, _, _ => h
 | (o, g, out) :: l, k, st, st', h, hl, hw => by
  simp only [ap]
  have hlen : ∀ x : St, (x.next o g out).os.length = x.os.length := fun x => qgj out.wrs x.os
  refine q5g S S' id l (k + 1) _ _ ?_ (by split <;> split <;> simp only [hlen, hl]) (fun j d hj hd => by have := hw (j + 1) d (by simpa using hj) hd; rw [show k + 1 + j = k + (j + 1) by omega]; exact this)
  have hg : ∀ x : St, (x.next o g out).os[id]? = (jd x.os out.wrs)[id]? := fun x => rfl
  by_cases hd : id ∈ out.wrs.map (·.1)
  ·have := hw 0 (o, g, out) rfl hd
   rw [Nat.add_zero] at this
   rw [this]
   split
   ·rw [hg, hg]
    exact qi9 _ _ _ _ hl (.inl hd)
   ·exact h
  ·have hne : ∀ x : St, (x.next o g out).os[id]? = x.os[id]? := fun x => by rw [hg, qam _ _ _ hd]
   split <;> split <;> first | exact h | (simp only [hne]; exact h)
theorem qp0 (S : Nat → Bool) (t : Nat) : ∀ (l : List Done) (k : Nat) (st : St), (∀ (i j : Nat) (d e : Done), l[i]? = some d → l[j]? = some e → t ∈ d.2.2.iss → t ∈ e.2.2.cons → i < j) →
  (t ∈ (ap S l k st).live ↔ (t ∈ st.live ∨ ∃ (j : Nat) (d : Done), l[j]? = some d ∧ S (k + j) = true ∧ t ∈ d.2.2.iss) ∧ ¬ ∃ (j : Nat) (d : Done), l[j]? = some d ∧ S (k + j) = true ∧ t ∈ d.2.2.cons)
 | [], k, st, _ => by simp [ap]
 | (o, g, out) :: l, k, st, h => by
  have ih := qp0 S t l (k + 1) (if S k then st.next o g out else st) (fun i j d e hi hj h1 h2 => by have := h (i + 1) (j + 1) d e (by grind) (by grind) h1 h2; omega)
  simp only [ap]
  rw [ih]
  have shift : ∀ p : Done → Prop, (∃ (j : Nat) (d : Done), ((o, g, out) :: l)[j]? = some d ∧ S (k + j) = true ∧ p d) ↔ (S k = true ∧ p (o, g, out)) ∨ ∃ (j : Nat) (d : Done), l[j]? = some d ∧ S (k + 1 + j) = true ∧ p d := by
   intro p
   constructor
   ·rintro ⟨j, d, hj, hs, hp⟩
    cases j with
    | zero => grind
    | succ j => grind
   ·rintro (⟨hs, hp⟩ | ⟨j, d, hj, hs, hp⟩)
    ·exact ⟨0, _, rfl, by omega, hp⟩
    ·exact ⟨j + 1, d, by grind, by grind, hp⟩
  rw [shift (fun d => t ∈ d.2.2.iss), shift (fun d => t ∈ d.2.2.cons)]
  by_cases hk : S k = true
  ·simp only [hk, if_true, true_and]
   have hm : t ∈ (st.next o g out).live ↔ (t ∈ st.live ∧ t ∉ out.cons) ∨ t ∈ out.iss := jf
   rw [hm]
   by_cases hi : t ∈ out.iss
   ·have hnc : t ∉ out.cons := fun hc => by have := h 0 0 _ _ rfl rfl hi hc; omega
    grind
   ·by_cases hc : t ∈ out.cons
    ·simp only [hi, hc, not_true_eq_false, and_false, or_false, false_or, true_or, not_true_eq_false, and_false, iff_false]
     rintro ⟨⟨j, d, hj, _, hji⟩, hno⟩
     have := h (j + 1) 0 d _ (by grind) rfl hji hc
     omega
    grind
  grind
theorem qhj {o : SOp} {x : Opd} {n : Nat} (hx : x ∈ o.opds) (hn : x = .t n) : n ∈ o.opds.flatMap Opd.slot :=
 List.mem_flatMap.2 ⟨x, hx, by grind [Opd.slot]⟩
theorem q5h {fr fr' : Fr} {x : Opd} (h : ∀ n, x = .t n → fr'.get n = fr.get n) : x.get fr' = x.get fr ∧ x.ok fr' = x.ok fr := by
 cases x with
 | t n => simp [Opd.get, Opd.ok, h n rfl]
 | k s => exact ⟨rfl, rfl⟩
theorem vo {os os' : List AObj} {id : Nat} (h : os'[id]? = os[id]?) : qh os' id = qh os id := by simp [qh, h]
theorem qtf {os os' : List AObj} {id : Nat} (h : os'[id]? = os[id]?) : qgh os' id = qgh os id := by simp [qgh, h]
theorem qyu {n : Option Nat} {os os' : List AObj} {s : ASlot} (h : ∀ id, (wm n os s).rd = some id → os'[id]? = os[id]?) : wm n os' s = wm n os s := by
 cases s with
 | d p =>
  cases p with
  | ptr id off =>
   have hid : os'[id]? = os[id]? := h id (by cases n <;> rfl)
   cases n <;> simp only [wm, vo hid]
  | _ => rfl
 | _ => rfl
theorem qvk {n : Option Nat} {os os' : List AObj} {p v : ASlot} (h : ∀ id x, (w6 n os p v).wr = some (id, x) → os'[id]? = os[id]?) : w6 n os' p v = w6 n os p v := by
 cases p with
 | d q =>
  cases q with
  | ptr id off =>
   cases n with
   | none =>
    have hid : os'[id]? = os[id]? := h id _ rfl
    grind [w6, storeAt, vo]
   | some k =>
    cases v with
    | d r =>
     cases r with
     | agg cs =>
      have hid : os'[id]? = os[id]? := h id _ rfl
      grind [w6, storeAt, vo]
     | _ => rfl
    | _ => rfl
  | _ => rfl
 | _ => rfl
theorem qhk {es : Nat} {os os' : List AObj} {x : ASlot} (h : ∀ id off e n, x ≠ .d (.ref id off e n)) : y8 es os' x = y8 es os x := by
 cases x with
 | d y => cases y <;> first | rfl | grind
 | _ => rfl
theorem qp1 {es : Nat} {os os' : List AObj} {x : ASlot} (h : ∀ r id, qbp es os x = some r → r.rd = some id → os'[id]? = os[id]?) : qbp es os' x = qbp es os x := by
 cases x with
 | d y =>
  cases y with
  | ref id off e n =>
   by_cases he : e = es
   ·have hid : os'[id]? = os[id]? := h ⟨qa6 os id off es n, some id, qsc os id off es n⟩ id (by simp only [qbp, if_pos he]) rfl
    simp only [qbp, if_pos he, qa6, qsc, vo hid]
   simp_all [qbp, if_neg]
  | _ => rfl
 | _ => rfl
theorem qsl {u : Bool} {es bytes tk : Nat} {os os' : List AObj} {s x : ASlot} (h : ∀ id, (jw u es bytes tk os s x).rd = some id → os'[id]? = os[id]?) : jw u es bytes tk os' s x = jw u es bytes tk os s x := by
 by_cases hx : ∃ id off e n, x = .d (.ref id off e n)
 ·obtain ⟨id, off, e, n, rfl⟩ := hx
  by_cases he : e = es
  ·have e1 : ∀ os : List AObj, y8 es os (.d (.ref id off e n)) = some ⟨qa6 os id off es n, some id, qsc os id off es n⟩ := fun os => by
    simp only [y8, ASlot.rows, qbp, if_pos he]
   unfold jw at h ⊢
   rw [e1] at h
   rw [e1, e1]
   cases u with
   | false =>
    cases hr : s.rows with
    | none => rfl
    | some p =>
     simp only [hr] at h ⊢
     have hid : os'[id]? = os[id]? := h id rfl
     grind [qa6, qsc, vo]
   | true =>
    simp only at h ⊢
    unfold qai at h ⊢
    split at h <;> first | rfl | (have hid : os'[id]? = os[id]? := h id rfl; grind [qa6, qsc, vo])
  ·have e1 : ∀ os : List AObj, y8 es os (.d (.ref id off e n)) = none := fun os => by
    simp only [y8, ASlot.rows, qbp, if_neg he]
   grind [jw]
 grind [y8, qhk, id, jw]
theorem qyv {es : Nat} {os os' : List AObj} {s x : ASlot} (h : ∀ id, (w7 es os s x).rd = some id ∨ (∃ o, (w7 es os s x).wr = some (id, o)) → os'[id]? = os[id]?) : w7 es os' s x = w7 es os s x := by
 have hs : ∀ (r : Src) (os1 : List AObj) (id off e n : Nat), y8 es os x = some r → s = .d (.ref id off e n) → os'[id]? = os[id]? := fun r os1 id off e n h1 h2 => h id (.inr (by subst h2; simp only [w7, h1]; exact ⟨_, rfl⟩))
 by_cases hx : ∃ id off e n, x = .d (.ref id off e n)
 ·obtain ⟨id, off, e, n, rfl⟩ := hx
  by_cases he : e = es
  ·have e1 : ∀ os : List AObj, y8 es os (.d (.ref id off e n)) = some ⟨qa6 os id off es n, some id, qsc os id off es n⟩ := fun os => by
    simp only [y8, ASlot.rows, qbp, if_pos he]
   unfold w7 at h ⊢
   rw [e1] at h
   rw [e1, e1]
   split at h
   ·rename_i r id2 off2 e2 n2 hr
    cases hr
    have h1 : os'[id]? = os[id]? := h id (.inl rfl)
    have h2 : os'[id2]? = os[id2]? := h id2 (.inr ⟨_, rfl⟩)
    grind [qa6, qsc, storeAt, vo, qtf]
   grind
  ·have e1 : ∀ os : List AObj, y8 es os (.d (.ref id off e n)) = none := fun os => by
    simp only [y8, ASlot.rows, qbp, if_neg he]
   simp_all [w7]
 ·have hq : y8 es os' x = y8 es os x := qhk fun id off e n hq => hx ⟨id, off, e, n, hq⟩
  cases hr : y8 es os x with
  | none => simp_all [w7]
  | some r =>
   cases s with
   | d y =>
    cases y with
    | ref id off e n =>
     have h1 := hs r os id off e n hr rfl
     simp only [w7, hq, hr, storeAt, vo h1, qtf h1]
    | _ => simp_all [w7]
   | _ => simp_all [w7]
theorem q73 {es : Nat} {os os' : List AObj} {x : ASlot} (h : ∀ r id, y8 es os x = some r → r.rd = some id → os'[id]? = os[id]?) : y8 es os' x = y8 es os x := by
 by_cases hx : ∃ id off e n, x = .d (.ref id off e n)
 ·obtain ⟨id, off, e, n, rfl⟩ := hx
  grind [y8, ASlot.rows, qp1]
 grind [qhk, id]
theorem qp2 {back es bytes : Nat} {os os' : List AObj} {s x : ASlot} (hl : os'.length = os.length) (h : ∀ id, (jj back es bytes os s x).rd = some id ∨ (∃ o, (jj back es bytes os s x).wr = some (id, o)) → os'[id]? = os[id]?) :
  jj back es bytes os' s x = jj back es bytes os s x := by
 have hsrc : y8 es os' x = y8 es os x := q73 fun r id h1 h2 => h id (.inl (by grind [jj]))
 unfold jj at h ⊢
 rw [hsrc]
 cases hr : y8 es os x with
 | none => rfl
 | some r =>
  simp_all
theorem qsn {len es : Nat} {os os' : List AObj} {x : ASlot} {lo hi mx : Option ASlot} (h : ∀ id, (wn len es os x lo hi mx).rd = some id → os'[id]? = os[id]?) : wn len es os' x lo hi mx = wn len es os x lo hi mx := by
 cases x with
 | d y =>
  cases y with
  | ptr id off =>
   have hid : os'[id]? = os[id]? := h id rfl
   simp only [wn, vo hid]
  | _ => rfl
 | _ => rfl
theorem qel {os os' : List AObj} {id : Nat} (h : os'[id]? = os[id]?) : yj os' id = yj os id ∧ jt os' id = jt os id ∧ qo2 os' id = qo2 os id := by simp [yj, jt, qo2, h]
theorem qso {kd : KD} {z : ASlot} {c : Bool} {os os' : List AObj} {x k : ASlot} (h : ∀ id, (kz kd z c os x k).rd = some id → os'[id]? = os[id]?) : kz kd z c os' x k = kz kd z c os x k := by
 cases x with
 | d y =>
  cases y with
  | map id =>
   cases k with
   | d q =>
    obtain ⟨e1, e2, e3⟩ := qel (h id rfl)
    grind [kz]
   | _ => rfl
  | nilmap => cases k <;> rfl
  | _ => rfl
 | _ => rfl
theorem qly {kd : KD} {os os' : List AObj} {x k v : ASlot} (h : ∀ id o, (xy kd os x k v).wr = some (id, o) → os'[id]? = os[id]?) : xy kd os' x k v = xy kd os x k v := by
 cases x with
 | d y =>
  cases y with
  | map id =>
   cases k with
   | d q =>
    cases v with
    | d u =>
     obtain ⟨e1, e2, e3⟩ := qel (h id _ rfl)
     grind [xy]
    | _ => rfl
   | _ => rfl
  | _ => rfl
 | _ => rfl
theorem qsp {kd : KD} {os os' : List AObj} {x k : ASlot} (h : ∀ id o, (vj kd os x k).wr = some (id, o) → os'[id]? = os[id]?) : vj kd os' x k = vj kd os x k := by
 cases x with
 | d y =>
  cases y with
  | map id =>
   cases k with
   | d q =>
    obtain ⟨e1, e2, e3⟩ := qel (h id _ rfl)
    grind [vj]
   | _ => rfl
  | _ => rfl
 | _ => rfl
theorem qyw {os os' : List AObj} {x : ASlot} (h : ∀ id, (qa7 os x).rd = some id → os'[id]? = os[id]?) : qa7 os' x = qa7 os x := by
 cases x with
 | d y =>
  cases y with
  | map id =>
   obtain ⟨e1, e2, e3⟩ := qel (h id rfl)
   grind [qa7]
  | _ => rfl
 | _ => rfl
theorem qsq {back : Nat} {os os' : List AObj} {x : ASlot} (hl : os'.length = os.length) (h : ∀ id, (jx back os x).rd = some id ∨ (∃ o, (jx back os x).wr = some (id, o)) → os'[id]? = os[id]?) : jx back os' x = jx back os x := by
 cases x with
 | d y =>
  cases y with
  | map id =>
   obtain ⟨e1, e2, e3⟩ := qel (h id (.inl rfl))
   have h2 : os'[os.length - back]? = os[os.length - back]? := h _ (.inr ⟨_, rfl⟩)
   grind [jx]
  | nilmap =>
   have h2 : os'[os.length - back]? = os[os.length - back]? := h _ (.inr ⟨_, rfl⟩)
   grind [jx]
  | _ => rfl
 | _ => rfl
theorem xgg {tb : Nat} {o : SOp} {st st' : St} (hf : ∀ n, n ∈ o.opds.flatMap Opd.slot → st'.fr.get n = st.fr.get n) (hl : st'.os.length = st.os.length)
  (ho : ∀ id, id ∈ (sem tb o st).touch → st'.os[id]? = st.os[id]?) : sem tb o st' = sem tb o st := by
 have hx : ∀ x ∈ o.opds, x.get st'.fr = x.get st.fr ∧ x.ok st'.fr = x.ok st.fr := fun x hx => q5h fun n hn => hf n (qhj hx hn)
 cases o with
 | box back x =>
  grind [SOp.opds, sem, Out.touch, Out.wrs]
 | makeMap back =>
  grind [sem, Out.touch, Out.wrs]
 | lookup kd z c x k =>
  obtain ⟨h1, h2⟩ := hx x (by simp [SOp.opds])
  obtain ⟨k1, k2⟩ := hx k (by simp [SOp.opds])
  grind [kz, qso, id, sem, Out.touch]
 | mapUpdate kd x k v =>
  obtain ⟨h1, h2⟩ := hx x (by simp [SOp.opds])
  obtain ⟨k1, k2⟩ := hx k (by simp [SOp.opds])
  obtain ⟨m1, m2⟩ := hx v (by simp [SOp.opds])
  have h3 : xy kd st'.os (x.get st.fr) (k.get st.fr) (v.get st.fr) = xy kd st.os (x.get st.fr) (k.get st.fr) (v.get st.fr) := qly fun id o hid => ho id (by
   grind [sem, Out.touch, Out.wrs])
  grind [sem]
 | delete kd x k =>
  obtain ⟨h1, h2⟩ := hx x (by simp [SOp.opds])
  obtain ⟨k1, k2⟩ := hx k (by simp [SOp.opds])
  have h3 : vj kd st'.os (x.get st.fr) (k.get st.fr) = vj kd st.os (x.get st.fr) (k.get st.fr) := qsp fun id o hid => ho id (by
   grind [sem, Out.touch, Out.wrs])
  grind [sem]
 | lenM x =>
  obtain ⟨h1, h2⟩ := hx x (by simp [SOp.opds])
  grind [qa7, qyw, id, sem, Out.touch]
 | rangeM back x =>
  obtain ⟨h1, h2⟩ := hx x (by simp [SOp.opds])
  have h3 : jx back st'.os (x.get st.fr) = jx back st.os (x.get st.fr) := qsq hl fun id hid => ho id (by
   grind [sem, Out.touch, Out.wrs])
  grind [sem]
 | alloc back z =>
  grind [sem, Out.touch, Out.wrs]
 | makeSliceO back es bytes z x y =>
  grind [SOp.opds, sem, Out.touch, Out.wrs]
 | load n x =>
  obtain ⟨h1, h2⟩ := hx x (by simp [SOp.opds])
  grind [wm, qyu, id, sem, Out.touch]
 | store n x v =>
  obtain ⟨h1, h2⟩ := hx x (by simp [SOp.opds])
  obtain ⟨k1, k2⟩ := hx v (by simp [SOp.opds])
  have h3 : w6 n st'.os (x.get st.fr) (v.get st.fr) = w6 n st.os (x.get st.fr) (v.get st.fr) := qvk fun id y hid => ho id (by
   grind [sem, Out.touch, Out.wrs])
  grind [sem]
 | build z ps =>
  have h1 : ∀ p ∈ ps, p.2.2.get st'.fr = p.2.2.get st.fr ∧ p.2.2.ok st'.fr = p.2.2.ok st.fr := fun p hp => hx _ (by simp only [SOp.opds, List.mem_map]; grind)
  have h2 : (ps.map fun p => (p.1, (p.2.2.get st'.fr).dCells)) = ps.map fun p => (p.1, (p.2.2.get st.fr).dCells) := List.map_congr_left fun p hp => by grind
  simp only [sem, h2]
  congr 1
  grind
 | buildSlice u es len z ps =>
  have h1 : ∀ p ∈ ps, p.2.2.get st'.fr = p.2.2.get st.fr ∧ p.2.2.ok st'.fr = p.2.2.ok st.fr := fun p hp => hx _ (by simp only [SOp.opds, List.mem_map]; grind)
  have h2 : (ps.map fun p => (p.1, (p.2.2.get st'.fr).dCells)) = ps.map fun p => (p.1, (p.2.2.get st.fr).dCells) := List.map_congr_left fun p hp => by grind
  simp only [sem, h2]
  congr 1
  grind
 | mkFunc fn a b =>
  have ha : ∀ x ∈ a, x.get st'.fr = x.get st.fr ∧ x.ok st'.fr = x.ok st.fr := fun x h => hx x (by grind [SOp.opds])
  have hb : ∀ x ∈ b, x.get st'.fr = x.get st.fr ∧ x.ok st'.fr = x.ok st.fr := fun x h => hx x (by grind [SOp.opds])
  have h1 : (a.map fun x => (x.get st'.fr).cellD) = a.map fun x => (x.get st.fr).cellD := List.map_congr_left fun x h => by grind
  have h2 : (b.map fun x => (x.get st'.fr).cellD) = b.map fun x => (x.get st.fr).cellD := List.map_congr_left fun x h => by grind
  simp only [sem, h1, h2]
  simp_all
 | slice es x lo hi mx =>
  obtain ⟨h1, h2⟩ := hx x (by simp [SOp.opds])
  have ol : ∀ y ∈ lo, y.get st'.fr = y.get st.fr ∧ y.ok st'.fr = y.ok st.fr := fun y hy => hx y (by simp_all [SOp.opds, List.mem_cons, List.mem_append, Option.mem_toList])
  have oh : ∀ y ∈ hi, y.get st'.fr = y.get st.fr ∧ y.ok st'.fr = y.ok st.fr := fun y hy => hx y (by simp_all [SOp.opds, List.mem_cons, List.mem_append, Option.mem_toList])
  have om : ∀ y ∈ mx, y.get st'.fr = y.get st.fr ∧ y.ok st'.fr = y.ok st.fr := fun y hy => hx y (by simp_all [SOp.opds, List.mem_cons, List.mem_append, Option.mem_toList])
  have e1 : lo.map (·.get st'.fr) = lo.map (·.get st.fr) := by cases lo with | none => rfl | some y => grind
  have e2 : hi.map (·.get st'.fr) = hi.map (·.get st.fr) := by cases hi with | none => rfl | some y => grind
  have e3 : mx.map (·.get st'.fr) = mx.map (·.get st.fr) := by cases mx with | none => rfl | some y => grind
  have f1 : (∀ y ∈ lo, y.ok st'.fr = true) = (∀ y ∈ lo, y.ok st.fr = true) := by grind
  have f2 : (∀ y ∈ hi, y.ok st'.fr = true) = (∀ y ∈ hi, y.ok st.fr = true) := by grind
  have f3 : (∀ y ∈ mx, y.ok st'.fr = true) = (∀ y ∈ mx, y.ok st.fr = true) := by grind
  grind [sem]
 | sliceA len es x lo hi mx =>
  obtain ⟨h1, h2⟩ := hx x (by simp [SOp.opds])
  have ol : ∀ y ∈ lo, y.get st'.fr = y.get st.fr ∧ y.ok st'.fr = y.ok st.fr := fun y hy => hx y (by simp_all [SOp.opds, List.mem_cons, List.mem_append, Option.mem_toList])
  have oh : ∀ y ∈ hi, y.get st'.fr = y.get st.fr ∧ y.ok st'.fr = y.ok st.fr := fun y hy => hx y (by simp_all [SOp.opds, List.mem_cons, List.mem_append, Option.mem_toList])
  have om : ∀ y ∈ mx, y.get st'.fr = y.get st.fr ∧ y.ok st'.fr = y.ok st.fr := fun y hy => hx y (by simp_all [SOp.opds, List.mem_cons, List.mem_append, Option.mem_toList])
  have e1 : lo.map (·.get st'.fr) = lo.map (·.get st.fr) := by cases lo with | none => rfl | some y => grind
  have e2 : hi.map (·.get st'.fr) = hi.map (·.get st.fr) := by cases hi with | none => rfl | some y => grind
  have e3 : mx.map (·.get st'.fr) = mx.map (·.get st.fr) := by cases mx with | none => rfl | some y => grind
  have f1 : (∀ y ∈ lo, y.ok st'.fr = true) = (∀ y ∈ lo, y.ok st.fr = true) := by grind
  have f2 : (∀ y ∈ hi, y.ok st'.fr = true) = (∀ y ∈ hi, y.ok st.fr = true) := by grind
  have f3 : (∀ y ∈ mx, y.ok st'.fr = true) = (∀ y ∈ mx, y.ok st.fr = true) := by grind
  have h3 : wn len es st'.os (x.get st.fr) (lo.map (·.get st.fr)) (hi.map (·.get st.fr)) (mx.map (·.get st.fr)) = wn len es st.os (x.get st.fr) (lo.map (·.get st.fr)) (hi.map (·.get st.fr)) (mx.map (·.get st.fr)) :=
   qsn fun id hid => ho id (by grind [sem, Out.touch])
  grind [sem]
 | append u es bytes x y =>
  obtain ⟨h1, h2⟩ := hx x (by simp [SOp.opds])
  obtain ⟨k1, k2⟩ := hx y (by simp [SOp.opds])
  have h3 : jw u es bytes tb st'.os (x.get st.fr) (y.get st.fr) = jw u es bytes tb st.os (x.get st.fr) (y.get st.fr) := qsl fun id hid => ho id (by
   grind [sem, Out.touch])
  grind [sem]
 | appendO back es bytes x y =>
  obtain ⟨h1, h2⟩ := hx x (by simp [SOp.opds])
  obtain ⟨k1, k2⟩ := hx y (by simp [SOp.opds])
  have h3 : jj back es bytes st'.os (x.get st.fr) (y.get st.fr) = jj back es bytes st.os (x.get st.fr) (y.get st.fr) := qp2 hl fun id hid => ho id (by
   grind [sem, Out.touch, Out.wrs])
  grind [sem]
 | copy es x y =>
  obtain ⟨h1, h2⟩ := hx x (by simp [SOp.opds])
  obtain ⟨k1, k2⟩ := hx y (by simp [SOp.opds])
  have h3 : w7 es st'.os (x.get st.fr) (y.get st.fr) = w7 es st.os (x.get st.fr) (y.get st.fr) := qyv fun id hid => ho id (by
   grind [sem, Out.touch, Out.wrs])
  grind [sem]
 | b2s x =>
  obtain ⟨h1, h2⟩ := hx x (by simp [SOp.opds])
  grind [sem, qbp, qp1, id, Out.touch]
 | sliceS x lo hi =>
  obtain ⟨h1, h2⟩ := hx x (by simp [SOp.opds])
  have ol : ∀ y ∈ lo, y.get st'.fr = y.get st.fr ∧ y.ok st'.fr = y.ok st.fr := fun y hy => hx y (by simp_all [SOp.opds, List.mem_cons, List.mem_append, Option.mem_toList])
  have oh : ∀ y ∈ hi, y.get st'.fr = y.get st.fr ∧ y.ok st'.fr = y.ok st.fr := fun y hy => hx y (by simp_all [SOp.opds, List.mem_cons, List.mem_append, Option.mem_toList])
  have e1 : lo.map (·.get st'.fr) = lo.map (·.get st.fr) := by cases lo with | none => rfl | some y => grind
  have e2 : hi.map (·.get st'.fr) = hi.map (·.get st.fr) := by cases hi with | none => rfl | some y => grind
  have f1 : (∀ y ∈ lo, y.ok st'.fr = true) = (∀ y ∈ lo, y.ok st.fr = true) := by grind
  have f2 : (∀ y ∈ hi, y.ok st'.fr = true) = (∀ y ∈ hi, y.ok st.fr = true) := by grind
  grind [sem]
 | pick c x y =>
  grind [SOp.opds, sem]
 | bin _ x y | eqb _ x y | eqAgg _ _ x y | makeSlice _ _ _ _ x y | iaddr _ x y | iaddrA _ _ x y | indexS x y | indexA _ _ _ x y | minmax _ x y =>
  grind [SOp.opds, sem]
 | mov x | nilCheck x | eqnil _ _ x | not x | neg x | conv _ x | i2s x | s2b x | faddr _ x | field _ _ x | extract _ x | len x | lenS x | asStr x | mkIface _ x | assertT _ _ x | s2ap _ x =>
  grind [SOp.opds, sem]
 | eqnilS _ _ | nextM _ | entryM _ | appendR _ _ _ _ _ | call _ _ | callT _ _ => rfl
end Go.Abs
namespace Go.Abs
section
variable {P : Program} {mu : List Nat} {N tb : Nat} {T : Nat → Prop} {g : Ghost} {w : World} {st : St} {a : Act} {ops : Array Oper}
theorem qvl {live live' : List Nat} (h : ∀ t, t ∈ live' ↔ t ∈ live) {v : Value} {s : ASlot} (hr : RC g w live v s) : RC g w live' v s := by
 cases s with
 | own t es rows => exact ⟨hr.1, fun ht => hr.2 ((h t).1 ht)⟩
 | uni t es rows => exact ⟨hr.1, fun ht => hr.2 ((h t).1 ht)⟩
 | _ => exact hr
theorem xmf {live live' : List Nat} (h : ∀ t, t ∈ live' ↔ t ∈ live) {v : Value} {s : ASlot} (hr : RS g w live v s) : RS g w live' v s := by
 cases s with
 | tup l => obtain ⟨vs, h1, h2, h3⟩ := hr; exact ⟨vs, h1, h2, fun i u s hu hs => qvl h (h3 i u s hu hs)⟩
 | _ => exact je (qvl h (qas hr (by simp)))
structure St.Like (st st' : St) : Prop where
 fr : ∀ k : Nat, st'.fr.get k = st.fr.get k
 os : ∀ id : Nat, st'.os[id]? = st.os[id]?
 live : ∀ t : Nat, t ∈ st'.live ↔ t ∈ st.live
theorem SR.like {st' : St} (hs : SR N T g w st a) (h : st.Like st') : SR N T g w st' a := by
 refine ⟨hs.dom, hs.defers, hs.size, fun k v s hk => ?_, fun id o ho hn => ?_, hs.inj, fun b id hb => ?_, ⟨fun t ht => hs.wf.live t ((h.live t).1 ht), fun k s hk => hs.wf.fr k s (by rw [← h.fr]; exact hk), fun id o ho => hs.wf.os id o (by rw [← h.os]; exact ho)⟩⟩
 ·rw [h.fr] at hk
  obtain ⟨h1, h2⟩ := hs.slots k v s hk
  exact ⟨fun hv => xmf h.live (h1 hv), h2⟩
 ·rw [h.os] at ho
  rcases hs.objs id o ho hn with ⟨b, hb, hr⟩ | hv
  case inr => exact .inr hv
  refine .inl ⟨b, hb, ?_⟩
  cases o with
  | none => exact hr.elim
  | row cells =>
   obtain ⟨c, e, q1, q2, q3⟩ := hr
   exact ⟨c, e, q1, q2, fun i s hi => by obtain ⟨v, v1, v2, v3⟩ := q3 i s hi; exact ⟨v, v1, v2, qvl h.live v3⟩⟩
  | map es clock => exact hr
  | iter m since seen last => exact IterIs.mono (R := fun v => RC g w st.live v m) (R' := fun v => RC g w st'.live v m) hr rfl (fun o hv => qvl h.live hv)
 ·obtain ⟨o, ho, hn⟩ := hs.ids b id hb
  exact ⟨o, by rw [h.os]; exact ho, hn⟩
theorem qp3 {κ : List Nat} {os os' : List AObj} : ∀ {ι : List Nat} {fo : List AObj}, qdq κ os ι fo → (∀ id ∈ ι, os'[id]? = os[id]?) → qdq κ os' ι fo
 | ι, [], _, _ => by cases ι <;> trivial
 | [], _ :: _, h, _ => h.elim
 | id :: ι, o :: fo, h, hs => by
  obtain ⟨⟨c, h1, h2⟩, h3⟩ := h
  exact ⟨⟨c, by rw [hs id List.mem_cons_self]; exact h1, h2⟩, qp3 h3 fun i hi => hs i (List.mem_cons_of_mem _ hi)⟩
theorem xgh {o : SOper} {gb : Bool} {out : Out} {st' : St} (h : AOne P tb o st gb out) (hf : ∀ n ∈ o.looks, st'.fr.get n = st.fr.get n) (hl : st'.os.length = st.os.length)
  (ho : ∀ id, id ∈ out.touch → st'.os[id]? = st.os[id]?) (hc : gb = true → ∀ t ∈ out.cons, t ∈ st'.live) : AOne P tb o st' gb out := by
 obtain ⟨h1, h2, h3⟩ := h
 have hopds : ∀ n, n ∈ o.op.opds.flatMap Opd.slot → st'.fr.get n = st.fr.get n := fun n hn => hf n (by unfold SOper.looks; exact List.mem_append_left _ hn)
 refine ⟨?_, h2, ?_⟩
 ·cases hg : o.guard with
  | none => rw [hg] at h1; exact h1
  | some p =>
   obtain ⟨k, b⟩ := p
   rw [hg] at h1
   have := hf k (by unfold SOper.looks; rw [hg]; simp)
   simp only [gv, this] at h1 ⊢
   exact h1
 ·cases hop : o.op with
  | call f args =>
   rw [hop] at h3 hopds
   obtain ⟨k, as, fa, r, fo, fo', ι, qb, rfl, hfew, hok⟩ := h3
   have hx : ∀ x ∈ (SOp.call f args).opds, x.get st'.fr = x.get st.fr ∧ x.ok st'.fr = x.ok st.fr := fun x hx => q5h fun n hn => hopds n (qhj hx hn)
   obtain ⟨f1, f2⟩ := hx f (by simp [SOp.opds])
   have ha : ∀ x ∈ args, x.get st'.fr = x.get st.fr ∧ x.ok st'.fr = x.ok st.fr := fun x hm => hx x (by simp only [SOp.opds, List.mem_cons]; exact .inr hm)
   have hm : (args.map fun x => x.get st'.fr) = args.map fun x => x.get st.fr := List.map_congr_left fun x h => (ha x h).1
   refine ⟨k, as, fa, r, fo, fo', ι, qb, rfl, hfew, fun hg => ?_⟩
   have q := hok hg
   have hcal : qi1 st'.fr f args = qi1 st.fr f args := by unfold qi1; rw [f1, hm]
   have hto : ∀ id ∈ ι, st'.os[id]? = st.os[id]? := fun id hid => ho id (by
    cases qb with
    | true => exact List.mem_append_right _ (List.mem_append_right _ hid)
    | false =>
    simp only [Out.touch, Out.wrs, zn, List.mem_append, List.mem_map, cond_false]
    left
    obtain ⟨j, hj⟩ := List.mem_iff_getElem?.1 hid
    have hjl : j < fo'.length := by rw [← q.objs.len]; exact (List.getElem?_eq_some_iff.1 hj).1
    refine ⟨(id, (fo'.map (AObj.ren ι))[j]'(by simpa using hjl)), ?_, rfl⟩
    simp only [Option.toList]
    right
    refine List.mem_iff_getElem?.2 ⟨j, ?_⟩
    rw [List.getElem?_zip_eq_some]
    exact ⟨hj, List.getElem?_eq_getElem _⟩)
   refine ⟨by rw [hcal]; exact q.callee, by rw [f2]; exact q.ok, ?_, q.contract, q.body, ⟨q.fits.all, q.fits.inK, fun p hp => ?_, q.fits.nd1⟩, ⟨q.objs.nd, q.objs.len, q.objs.le, qp3 q.objs.olds hto, fun id hid => by rw [hto id (List.mem_of_mem_drop hid)]; exact q.objs.news id hid, q.objs.inK⟩, q.noT, q.few, fun hq p hp => by rw [hto p.1 (List.of_mem_zip hp).1]; exact q.quiet hq p hp⟩
   ·rw [List.all_eq_true]
    intro x hxm
    rw [(ha x hxm).2]
    exact List.all_eq_true.1 q.oks x hxm
   ·exact hc hg p.1 (by simp only [zn, List.mem_map]; exact ⟨p, hp, rfl⟩)
  | eqnilS neg x => rw [hop] at h3; exact h3
  | _ =>
   rw [hop] at h3 hopds
   obtain ⟨rfl, hob⟩ := h3
   have hsame := xgg (tb := tb) (st' := st') hopds hl ho
   simp only
   refine ⟨hsame.symm, fun hg => ⟨(hob hg).1, hc hg⟩⟩
def qbb (l : List Oper) (j : Nat) : List Nat := match l[j]? with | some o => (o.after.toList.filter (Region.binds .any)).map (·.on) | none => []
theorem qtg : ∀ (l : List Oper) (acc : List (List Nat)) (pre : List Oper), acc.length = pre.length →
  (∀ j, j < pre.length → acc.getD j [] = ((qbb pre j).flatMap fun e => e :: (acc.take j).getD e []).eraseDups) →
  let r := l.foldl (init := acc) fun acc o => acc ++ [((o.after.toList.filter (Region.binds .any)).flatMap fun e => e.on :: acc.getD e.on []).eraseDups]
  r.length = (pre ++ l).length ∧ ∀ j, j < (pre ++ l).length → r.getD j [] = ((qbb (pre ++ l) j).flatMap fun e => e :: (r.take j).getD e []).eraseDups
 | [], acc, pre, hl, h => by simpa [hl] using h
 | o :: l, acc, pre, hl, h => by
  have ih := qtg l (acc ++ [((o.after.toList.filter (Region.binds .any)).flatMap fun e => e.on :: acc.getD e.on []).eraseDups]) (pre ++ [o]) (by simp [hl]) (fun j hj => by
   by_cases hjl : j < pre.length
   ·have h1 := h j hjl
    have h2 : (acc ++ [((o.after.toList.filter (Region.binds .any)).flatMap fun e => e.on :: acc.getD e.on []).eraseDups]).getD j [] = acc.getD j [] := by
     simp only [List.getD_eq_getElem?_getD]
     rw [List.getElem?_append_left (by omega)]
    have h3 : qbb (pre ++ [o]) j = qbb pre j := by
     unfold qbb
     rw [List.getElem?_append_left hjl]
    have h4 : (acc ++ [((o.after.toList.filter (Region.binds .any)).flatMap fun e => e.on :: acc.getD e.on []).eraseDups]).take j = acc.take j := by
     rw [List.take_append_of_le_length (by omega)]
    rw [h2, h3, h4]
    exact h1
   ·have hj' : j = pre.length := by simp at hj; omega
    subst hj'
    have h2 : (acc ++ [((o.after.toList.filter (Region.binds .any)).flatMap fun e => e.on :: acc.getD e.on []).eraseDups]).getD pre.length [] = ((o.after.toList.filter (Region.binds .any)).flatMap fun e => e.on :: acc.getD e.on []).eraseDups := by
     simp [List.getD_eq_getElem?_getD, ← hl]
    have h3 : qbb (pre ++ [o]) pre.length = (o.after.toList.filter (Region.binds .any)).map (·.on) := by
     unfold qbb
     simp
    have h4 : (acc ++ [((o.after.toList.filter (Region.binds .any)).flatMap fun e => e.on :: acc.getD e.on []).eraseDups]).take pre.length = acc := by
     rw [← hl, List.take_left']
     rfl
    rw [h2, h3, h4, List.flatMap_map])
  simpa [List.append_assoc] using ih
theorem xgi (l : List Oper) : (qn3 l).length = l.length ∧ ∀ j, j < l.length → (qn3 l).getD j [] = ((qbb l j).flatMap fun e => e :: ((qn3 l).take j).getD e []).eraseDups := by
 have := qtg l [] [] rfl (by simp)
 simpa [qn3] using this
def xbe (l : List Oper) (S : Nat → Bool) : Prop := ∀ j, j < l.length → S j = true → ∀ e ∈ qbb l j, S e = true
theorem q5i {l : List Oper} {S : Nat → Bool} (hb : ∀ j, j < l.length → ∀ e ∈ qbb l j, e < j) (hc : xbe l S) :
  ∀ (n j : Nat), j < n → j < l.length → (∀ e ∈ qbb l j, S e = true) → ∀ i ∈ (qn3 l).getD j [], S i = true
 | 0, j, h, _, _ => by omega
 | n + 1, j, hjn, hj, hd => by
  intro i hi
  rw [(xgi l).2 j hj, List.mem_eraseDups, List.mem_flatMap] at hi
  obtain ⟨e, he, hie⟩ := hi
  have hej := hb j hj e he
  rcases List.mem_cons.1 hie with rfl | hie
  ·exact hd i he
  ·have ht : ((qn3 l).take j).getD e [] = (qn3 l).getD e [] := by
    simp only [List.getD_eq_getElem?_getD]
    rw [List.getElem?_take_of_lt hej]
   rw [ht] at hie
   exact q5i hb hc n e (by omega) (by omega) (hc e (by omega) (hd e he)) i hie
theorem qsr {l : List Oper} (h : qo4 l = true) : ∀ j, j < l.length → ∀ e ∈ qbb l j, e < j := by
 intro j hj e he
 unfold qo4 at h
 rw [List.all_eq_true] at h
 have hm : (l[j], j) ∈ l.zipIdx := by
  rw [List.mem_zipIdx_iff_getElem?]
  simp [hj]
 have := h _ hm
 unfold qbb at he
 rw [List.getElem?_eq_getElem hj] at he
 simp only [List.mem_map] at he
 obtain ⟨x, hx, rfl⟩ := he
 exact of_decide_eq_true (List.all_eq_true.1 this x hx)
end
end Go.Abs
namespace Go.Abs
theorem qja {P : Program} {mu : List Nat} {N : Nat} {ops : Array Oper} : ∀ {l : List Oper} {sops : List SOper}, qfm P mu N ops l = some sops → l.length = sops.length ∧
  ∀ (i : Nat) (x : Oper) (y : SOper), l[i]? = some x → sops[i]? = some y → ∃ back, qdv P mu ops N back x = some y
 | [], sops, h => by simp [qfm] at h; subst h; simp
 | o :: l, sops, h => by
  simp only [qfm] at h
  split at h
  ·rename_i y r h1 h2
   cases h
   obtain ⟨k1, k2⟩ := qja h2
   refine ⟨by simp [k1], fun i x z hx hz => ?_⟩
   cases i with
   | zero => simp at hx hz; subst hx hz; exact ⟨_, h1⟩
   | succ i => exact k2 i x z (by simpa using hx) (by simpa using hz)
  ·cases h
theorem qan {P : Program} : ∀ {l : List Done} {k : Nat} {st : St}, xbd P l k st → ∀ (i : Nat) (d : Done), l[i]? = some d →
  AOne P (16 * (st.nt + (k + i))) d.1 (ap (fun j => decide (j < k + i)) l k st) d.2.1 d.2.2
 | [], k, st, _, i, d, h => by simp at h
 | (o, gb, out) :: l, k, st, h, i, d, hd => by
  obtain ⟨h1, h2⟩ := h
  have skip : ∀ (l : List Done) (k' m : Nat) (x : St), m ≤ k' → ap (fun j => decide (j < m)) l k' x = x := by
   intro l
   induction l with
   | nil => intro k' m x _; rfl
   | cons q l ih =>
    intro k' m x hm
    obtain ⟨o', g', out'⟩ := q
    simp only [ap]
    rw [if_neg (by simp; omega)]
    exact ih (k' + 1) m x (by omega)
  cases i with
  | zero =>
   simp at hd; subst hd
   rw [Nat.add_zero, skip _ k k st (Nat.le_refl _)]
   exact h1
  | succ i =>
   have ih := qan h2 i d (by simpa using hd)
   rw [qbk] at ih
   simp only [ap]
   rw [if_pos (by simp)]
   rw [show k + (i + 1) = k + 1 + i by omega]
   exact ih
theorem qkh {P : Program} {tb : Nat} {o : SOper} {gb : Bool} {out : Out} {st : St} (h : AOne P tb o st gb out) : ∀ t ∈ out.iss, tb ≤ t ∧ t < tb + 16 := by
 obtain ⟨_, _, h3⟩ := h
 intro t ht
 cases hop : o.op with
 | call f args =>
  rw [hop] at h3
  obtain ⟨k, as, fa, r, fo, fo', ι, qb, rfl, hfew, _⟩ := h3
  have := qta ht
  omega
 | eqnilS neg x =>
  rw [hop] at h3
  obtain ⟨b, rfl, _⟩ := h3
  simp at ht
 | append u es bytes s x =>
  rw [hop] at h3
  obtain ⟨rfl, _⟩ := h3
  simp only [sem, jw] at ht
  split at ht
  ·split at ht
   ·unfold qai at ht
    split at ht <;> first | (simp [Out.bad] at ht; done) | (simp at ht; omega)
   ·split at ht
    ·simp at ht; omega
    ·simp [Out.bad] at ht
  ·simp [Out.bad] at ht
 | copy es s x =>
  rw [hop] at h3
  obtain ⟨rfl, _⟩ := h3
  simp only [sem, w7] at ht
  split at ht <;> simp [Out.bad] at ht
 | makeSliceO back es bytes z l c =>
  rw [hop] at h3
  obtain ⟨rfl, _⟩ := h3
  simp only [sem] at ht
  split at ht <;> simp [Out.bad] at ht
 | appendO back es bytes s x =>
  rw [hop] at h3
  obtain ⟨rfl, _⟩ := h3
  simp only [sem, jj] at ht
  split at ht <;> simp [Out.bad] at ht
 | sliceA len es x lo hi mx =>
  rw [hop] at h3
  obtain ⟨rfl, _⟩ := h3
  simp only [sem, wn] at ht
  split at ht <;> simp [Out.bad] at ht
 | b2s x =>
  rw [hop] at h3
  obtain ⟨rfl, _⟩ := h3
  simp only [sem] at ht
  split at ht
  ·simp at ht
  ·split at ht <;> simp [Out.bad] at ht
 | iaddr es x i =>
  rw [hop] at h3
  obtain ⟨rfl, _⟩ := h3
  simp only [sem] at ht
  split at ht
  ·simp at ht
  ·split at ht <;> simp [Out.bad] at ht
  ·simp [Out.bad] at ht
 | buildSlice u es len z ps =>
  rw [hop] at h3
  obtain ⟨rfl, _⟩ := h3
  simp only [sem] at ht
  cases u <;> simp at ht
  omega
 | makeSlice u es bytes z l c =>
  rw [hop] at h3
  obtain ⟨rfl, _⟩ := h3
  simp only [sem] at ht
  split at ht
  ·simp at ht; omega
  ·simp [Out.bad] at ht
 | load n x =>
  rw [hop] at h3
  obtain ⟨rfl, _⟩ := h3
  simp only [sem, wm] at ht
  split at ht
  ·split at ht <;> simp at ht
  ·split at ht <;> simp at ht
  ·simp [Out.bad] at ht
 | store n x v =>
  rw [hop] at h3
  obtain ⟨rfl, _⟩ := h3
  simp only [sem, w6] at ht
  split at ht
  ·split at ht
   ·simp at ht
   ·split at ht <;> simp [Out.bad] at ht
  ·simp [Out.bad] at ht
 | bin op x y =>
  rw [hop] at h3
  obtain ⟨rfl, _⟩ := h3
  simp only [sem, binS] at ht
  split at ht
  ·split at ht <;> simp at ht
  ·simp at ht
  ·simp [Out.bad] at ht
 | slice es x lo hi mx =>
  rw [hop] at h3
  obtain ⟨rfl, _⟩ := h3
  simp only [sem, qdu] at ht
  split at ht
  ·split at ht <;> simp at ht
  ·split at ht <;> simp [Out.bad] at ht
 | sliceS x lo hi =>
  rw [hop] at h3
  obtain ⟨rfl, _⟩ := h3
  simp only [sem, qaj] at ht
  split at ht <;> simp [Out.bad] at ht
 | field n off x =>
  rw [hop] at h3
  obtain ⟨rfl, _⟩ := h3
  simp only [sem] at ht
  split at ht
  ·split at ht <;> simp at ht
  ·simp [Out.bad] at ht
 | indexA len es n x i =>
  rw [hop] at h3
  obtain ⟨rfl, _⟩ := h3
  simp only [sem] at ht
  split at ht
  ·split at ht <;> simp at ht
  ·simp [Out.bad] at ht
 | _ =>
  rw [hop] at h3
  obtain ⟨rfl, _⟩ := h3
  simp only [sem, kz, xy, vj, qa7, jx, qak] at ht
  first
   | (simp at ht; done)
   | (simp [Out.bad] at ht; done)
   | (split at ht <;> simp [Out.bad] at ht)
section
variable {P : Program} {mu : List Nat} {N : Nat} {g : Ghost} {w : World} {st : St} {a : Act} {ops : Array Oper}
theorem qki {tb : Nat} {o : SOper} {gb : Bool} {out : Out} (h : AOne P tb o st gb out) : ∀ t ∈ out.cons, t ∈ st.live ∧ gb = true := by
 obtain ⟨_, h2, h3⟩ := h
 intro t ht
 have hg : gb = true := by
  rcases h2 with h2 | ⟨_, h2, _⟩
  ·exact h2
  ·rw [h2] at ht; cases ht
 refine ⟨?_, hg⟩
 cases hop : o.op with
 | call f args =>
  rw [hop] at h3
  obtain ⟨k, as, fa, r, fo, fo', ι, qb, rfl, _, hok⟩ := h3
  simp only [zn, List.mem_map] at ht
  obtain ⟨p, hp, rfl⟩ := ht
  exact (hok hg).fits.lv p hp
 | eqnilS neg x =>
  rw [hop] at h3
  obtain ⟨b, rfl, _⟩ := h3
  simp at ht
 | _ => rw [hop] at h3; exact (h3.2 hg).2 t ht
end
end Go.Abs
namespace Go.Abs
theorem q5j (S S' : Nat → Bool) : ∀ (l : List Done) (k : Nat) (st : St), (∀ j, j < l.length → S (k + j) = S' (k + j)) → ap S l k st = ap S' l k st
 | [], _, _, _ => rfl
 | (o, g, out) :: l, k, st, h => by
  have h0 := h 0 (by simp)
  rw [Nat.add_zero] at h0
  simp only [ap, h0]
  exact q5j S S' l (k + 1) _ (fun j hj => by rw [show k + 1 + j = k + (j + 1) by omega]; exact h (j + 1) (by simp; omega))
theorem qvm (S : Nat → Bool) : ∀ (l : List Done) (k : Nat) (st : St), (∀ j, j < l.length → S (k + j) = false) → ap S l k st = st
 | [], _, _, _ => rfl
 | (o, g, out) :: l, k, st, h => by
  have h0 := h 0 (by simp)
  rw [Nat.add_zero] at h0
  simp only [ap, h0, Bool.false_eq_true, if_false]
  exact qvm S l (k + 1) st (fun j hj => by rw [show k + 1 + j = k + (j + 1) by omega]; exact h (j + 1) (by simp; omega))
theorem q2v : ∀ (l : List Done) (k i : Nat) (st : St) (d : Done), l[i]? = some d →
  ap (fun j => decide (j < k + i + 1)) l k st = (ap (fun j => decide (j < k + i)) l k st).next d.1 d.2.1 d.2.2
 | [], k, i, st, d, h => by simp at h
 | (o, g, out) :: l, k, i, st, d, h => by
  cases i with
  | zero =>
   simp at h; subst h
   simp only [ap, Nat.add_zero]
   rw [if_pos (by simp), if_neg (by simp), qvm _ l (k + 1) _ (fun j _ => by simp only [decide_eq_false_iff_not]; omega), qvm _ l (k + 1) _ (fun j _ => by simp only [decide_eq_false_iff_not]; omega)]
  | succ i =>
   have ih := q2v l (k + 1) i (st.next o g out) d (by simpa using h)
   simp only [ap]
   rw [if_pos (by simp only [decide_eq_true_eq]; omega), if_pos (by simp only [decide_eq_true_eq]; omega)]
   rw [show k + (i + 1) + 1 = k + 1 + i + 1 by omega, show k + (i + 1) = k + 1 + i by omega]
   exact ih
theorem qp4 (S : Nat → Bool) (t : Nat) : ∀ (l : List Done) (k : Nat) (st : St), t ∈ (ap S l k st).live → t ∈ st.live ∨ ∃ (j : Nat) (d : Done), l[j]? = some d ∧ S (k + j) = true ∧ t ∈ d.2.2.iss
 | [], _, _, h => .inl h
 | (o, g, out) :: l, k, st, h => by
  simp only [ap] at h
  rcases qp4 S t l (k + 1) _ h with h1 | ⟨j, d, hj, hs, hi⟩
  ·split at h1
   ·rename_i hk
    rcases jf.1 (show t ∈ qn st.live out from h1) with ⟨h2, _⟩ | h2
    ·exact .inl h2
    ·exact .inr ⟨0, _, rfl, by simpa using hk, h2⟩
   ·exact .inl h1
  ·exact .inr ⟨j + 1, d, by simpa using hj, by rw [show k + (j + 1) = k + 1 + j by omega]; exact hs, hi⟩
section
variable {P : Program} {mu : List Nat} {N : Nat} {g : Ghost} {w : World} {st : St} {a : Act} {ops : Array Oper}
theorem q74 {es bytes tk : Nat} {r : Src} {s : ASlot} : (qai es bytes tk r s).wr = none := by unfold qai; split <;> rfl
theorem qvn {tb : Nat} {o : SOper} {gb : Bool} {out : Out} (h : AOne P tb o st gb out) {id : Nat} (hw : id ∈ out.wrs.map (·.1)) : o.op.memW = true := by
 obtain ⟨_, _, h3⟩ := h
 cases hop : o.op with
 | call f args => rfl
 | eqnilS neg x => rw [hop] at h3; obtain ⟨_, rfl, _⟩ := h3; simp [Out.wrs] at hw
 | store _ _ _ => rfl
 | box _ _ => rfl
 | makeMap _ => rfl
 | mapUpdate _ _ _ _ => rfl
 | delete _ _ _ => rfl
 | rangeM _ _ => rfl
 | alloc _ _ => rfl
 | copy _ _ _ => rfl
 | appendO _ _ _ _ _ => rfl
 | makeSliceO _ _ _ _ _ _ => rfl
 | append u es bytes s x =>
  rw [hop] at h3
  obtain ⟨rfl, _⟩ := h3
  unfold Out.wrs at hw
  rw [xba] at hw
  simp only [sem, jw] at hw
  split at hw
  ·split at hw
   ·rw [q74] at hw; simp at hw
   ·split at hw <;> simp [Out.bad] at hw
  ·simp [Out.bad] at hw
 | _ =>
  rw [hop] at h3
  obtain ⟨rfl, _⟩ := h3
  unfold Out.wrs at hw
  rw [xba] at hw
  simp only [sem, wm, binS, qdu, qaj, wn, kz, qa7, qak] at hw
  first
   | (simp at hw; done)
   | (simp [Out.bad] at hw; done)
   | (split at hw <;> first | (simp [Out.bad] at hw; done) | (split at hw <;> simp [Out.bad] at hw))
theorem xbf {tb : Nat} {o : SOper} {gb : Bool} {out : Out} (h : AOne P tb o st gb out) {id : Nat} (ht : id ∈ out.touch) : o.op.memW = true ∨ o.op.memR = true := by
 unfold Out.touch at ht
 rcases List.mem_append.1 ht with hw | ht
 ·exact .inl (qvn h hw)
 ·obtain ⟨_, _, h3⟩ := h
  cases hop : o.op with
  | call f args => exact .inl rfl
  | eqnilS neg x => rw [hop] at h3; obtain ⟨_, rfl, _⟩ := h3; simp at ht
  | load _ _ => exact .inr rfl
  | store _ _ _ => exact .inl rfl
  | box _ _ => exact .inl rfl
  | makeMap _ => exact .inl rfl
  | mapUpdate _ _ _ _ => exact .inl rfl
  | delete _ _ _ => exact .inl rfl
  | rangeM _ _ => exact .inl rfl
  | lookup _ _ _ _ _ => exact .inr rfl
  | lenM _ => exact .inr rfl
  | alloc _ _ => exact .inl rfl
  | copy _ _ _ => exact .inl rfl
  | appendO _ _ _ _ _ => exact .inl rfl
  | makeSliceO _ _ _ _ _ _ => exact .inl rfl
  | append _ _ _ _ _ => exact .inr rfl
  | b2s _ => exact .inr rfl
  | sliceA _ _ _ _ _ _ => exact .inr rfl
  | _ =>
   rw [hop] at h3
   obtain ⟨rfl, _⟩ := h3
   simp only [sem, binS, qdu, qaj, qak] at ht
   first
    | (simp at ht; done)
    | (simp [Out.bad] at ht; done)
    | (split at ht <;> first | (simp [Out.bad] at ht; done) | (split at ht <;> simp [Out.bad] at ht))
theorem q75 {tb : Nat} {o : SOper} {out : Out} (h : AOne P tb o st true out) : ∀ t ∈ out.cons, ∃ x ∈ o.op.opds, x.ok st.fr = true ∧ t ∈ (x.get st.fr).toks := by
 obtain ⟨_, _, h3⟩ := h
 intro t ht
 cases hop : o.op with
 | call f args =>
  rw [hop] at h3
  obtain ⟨k, as, fa, r, fo, fo', ι, qb, rfl, _, hok⟩ := h3
  have hok := hok rfl
  simp only [zn, List.mem_map] at ht
  obtain ⟨p, hp, rfl⟩ := ht
  have hcal := hok.callee
  unfold qi1 at hcal
  split at hcal
  ·rename_i k' first caps hf
   simp only [Option.some.injEq, Prod.mk.injEq] at hcal
   obtain ⟨rfl, rfl⟩ := hcal
   have key : ∀ (l r : List ASlot) (p : Nat × Nat), p ∈ xu l r → ∃ s ∈ l, p.1 ∈ qbx s := by
    intro l
    induction l with
    | nil => intro r p hp; simp [xu] at hp
    | cons s l ih =>
     intro r p hp
     cases r with
     | nil => cases s <;> simp [xu] at hp
     | cons f r =>
      have tail : p ∈ xu l r → ∃ s' ∈ s :: l, p.1 ∈ qbx s' := fun h => by obtain ⟨s', h1, h2⟩ := ih r p h; exact ⟨s', List.mem_cons_of_mem _ h1, h2⟩
      cases s <;> cases f <;> simp only [xu] at hp <;> first
       | exact tail hp
       | (
        rcases List.mem_cons.1 hp with rfl | hp
        ·exact ⟨_, List.mem_cons_self, by simp [qbx]⟩
        ·exact tail hp)
   obtain ⟨s, hs, hts⟩ := key _ _ p hp
   simp only [List.mem_append, List.mem_map] at hs
   rcases hs with (⟨d, _, rfl⟩ | ⟨x, hx, rfl⟩) | ⟨d, _, rfl⟩
   ·simp [qbx] at hts
   ·exact ⟨x, by simp only [SOp.opds, List.mem_cons]; exact .inr hx, List.all_eq_true.1 hok.oks x hx, (qkc hts).1⟩
   ·simp [qbx] at hts
  ·cases hcal
 | eqnilS neg x => rw [hop] at h3; obtain ⟨_, rfl, _⟩ := h3; simp at ht
 | append u es bytes s x =>
  rw [hop] at h3
  obtain ⟨rfl, h4⟩ := h3
  have hob := (h4 rfl).1
  simp only [sem, jw] at ht hob
  split at ht
  ·split at ht
   ·generalize hs : s.get st.fr = sl at ht
    unfold qai at ht
    split at ht
    ·simp only [List.mem_singleton] at ht
     subst ht
     exact ⟨s, by simp [SOp.opds], hob.1, by rw [hs]; simp [ASlot.toks]⟩
    ·simp at ht
    ·simp at ht
    ·simp [Out.bad] at ht
   ·split at ht
    ·simp only at ht
     exact ⟨s, by simp [SOp.opds], hob.1, (qkc ht).1⟩
    ·simp [Out.bad] at ht
  ·simp [Out.bad] at ht
 | _ =>
  rw [hop] at h3
  obtain ⟨rfl, _⟩ := h3
  simp only [sem, wm, w6, binS, qdu, qaj, wn, w7, jj, kz, xy, vj, qa7, jx, qak] at ht
  first
   | (simp at ht; done)
   | (simp [Out.bad] at ht; done)
   | (split at ht <;> first | (simp [Out.bad] at ht; done) | (split at ht <;> first | (simp [Out.bad] at ht; done) | (split at ht <;> simp [Out.bad] at ht)))
end
end Go.Abs
namespace Go.Abs
section
variable {P : Program} {mu : List Nat} {N : Nat} {g : Ghost} {w : World} {st : St} {a : Act} {ops : Array Oper}
def TS (m n : Nat) (S : Nat → Bool) : Nat → Prop := fun t => t < 16 * m ∨ ∃ j, j < n ∧ S j = true ∧ 16 * (m + j) ≤ t ∧ t < 16 * (m + j) + 16
theorem qth {ps : List (List Nat)} {sops : List SOper} (h : xf6 ps sops = true) {i j : Nat} (hij : i < j) (hu : i ∉ ps.getD j []) {x y : SOper} (hx : sops[i]? = some x) (hy : sops[j]? = some y) : x.apart y = true := by
 unfold xf6 at h
 grind [List.getElem?_eq_some_iff, List.all_eq_true, qjz]
theorem qti {x y : SOper} (h : x.apart y = true) : (∀ d, x.dst = some d → d ∉ y.looks) ∧ (∀ d, x.dst = some d → y.dst ≠ some d) ∧ (∀ d, y.dst = some d → d ∉ x.looks) := by
 grind [SOper.apart]
theorem qkj {ps : List (List Nat)} {sops : List SOper} {i j : Nat} (hij : i < j) (hu : i ∉ ps.getD j []) {x y : SOper} (hx : sops[i]? = some x) (hy : sops[j]? = some y)
  (hm : (x.op.memW = true ∧ (y.op.memW = true ∨ y.op.memR = true)) ∨ ((x.op.memW = true ∨ x.op.memR = true) ∧ y.op.memW = true)) : (i, j) ∈ qog ps sops := by
 have hj : j < sops.length := (List.getElem?_eq_some_iff.1 hy).1
 rw [List.getD_eq_getElem?_getD] at hu
 simp only [qog, List.mem_flatMap, List.mem_range, List.mem_filterMap]
 grind [qjz]
structure Drawn (P : Program) (mu : List Nat) (N : Nat) (ops : Array Oper) (sops : List SOper) (st : St) (L : List Done) : Prop where
 comp : qfm P mu N ops ops.toList = some sops
 back : ∀ j, j < ops.toList.length → ∀ e ∈ qbb ops.toList j, e < j
 ind : xf6 (qn3 ops.toList) sops = true
 nil : (sops.any fun o => o.op.isNilS) = false
 clean : (sops.all fun o => o.op.opds.all Opd.clean) = true
 map : L.map (·.1) = sops
 chain : xbd P L 0 st
 pairs : qfo (qog (qn3 ops.toList) sops) (L.map fun d => d.2.2.tags)
structure Midst (N : Nat) (ops : Array Oper) (st : St) (L : List Done) (S : Nat → Bool) (g : Ghost) (w : World) (a : Act) : Prop where
 closed : xbe ops.toList S
 dom : ∀ j, S j = true → j < ops.size
 sr : SR N (TS st.nt ops.size S) g w (ap S L 0 st) a
 cons : ∀ (j : Nat) (d : Done), L[j]? = some d → S j = true → ∀ t ∈ d.2.2.cons, TS st.nt ops.size S t
variable {sops : List SOper} {L : List Done} {S : Nat → Bool}
theorem Drawn.len (D : Drawn P mu N ops sops st L) : L.length = ops.size ∧ sops.length = ops.size := by
 have h1 := (qja D.comp).1
 have h2 : L.length = sops.length := by rw [← D.map]; simp
 grind
theorem Drawn.op (D : Drawn P mu N ops sops st L) {i : Nat} {d : Done} (h : L[i]? = some d) : sops[i]? = some d.1 := by
 rw [← D.map]; simp [h]
theorem Drawn.un (D : Drawn P mu N ops sops st L) (hc : xbe ops.toList S) {i : Nat} (hi : i < ops.size) (hd : ∀ e ∈ qbb ops.toList i, S e = true) : ∀ e, S e = false → e ∉ (qn3 ops.toList).getD i [] := by
 intro e he hm
 have := q5i D.back hc (i + 1) i (Nat.lt_succ_self _) (by omega) hd e hm
 grind
theorem Drawn.far (D : Drawn P mu N ops sops st L) (M : Midst N ops st L S g w a) {i : Nat} (hi : i < ops.size) (hS : S i = false) (hd : ∀ e ∈ qbb ops.toList i, S e = true) {j : Nat} {x y : Done}
  (hx : L[i]? = some x) (hy : L[j]? = some y) (hj : S j ≠ decide (j < i)) :
  (∀ d, y.1.dst = some d → d ∉ x.1.looks ∧ x.1.dst ≠ some d) ∧
  ((x.1.op.memW = true ∧ (y.1.op.memW = true ∨ y.1.op.memR = true)) ∨ ((x.1.op.memW = true ∨ x.1.op.memR = true) ∧ y.1.op.memW = true) → ∀ id, id ∈ x.2.2.touch → id ∉ y.2.2.wrs.map (·.1)) ∨ j = i := by
 have hjn : j < ops.size := by
  have := (List.getElem?_eq_some_iff.1 hy).1
  have := D.len.1
  omega
 by_cases hji : j < i
 ·have hSj : S j = false := by grind
  have hu := D.un M.closed hi hd j hSj
  obtain ⟨q1, q2, _⟩ := qti (qth D.ind hji hu (D.op hy) (D.op hx))
  refine .inl ⟨fun d hdd => ⟨q1 d hdd, q2 d hdd⟩, fun hm id h1 h2 => ?_⟩
  have hp := qkj hji hu (D.op hy) (D.op hx) (hm.elim (fun ⟨u, v⟩ => .inr ⟨v, u⟩) (fun ⟨u, v⟩ => .inl ⟨v, u⟩))
  obtain ⟨t, t1, t2⟩ := qtc h1 h2
  exact D.pairs _ hp t (by grind) (by grind)
 ·by_cases hij : i < j
  ·have hSj : S j = true := by grind
   have hu := D.un M.closed hjn (M.closed j (by omega) hSj) i hS
   obtain ⟨q1, q2, q3⟩ := qti (qth D.ind hij hu (D.op hx) (D.op hy))
   refine .inl ⟨fun d hdd => ⟨q3 d hdd, fun he => q2 d he hdd⟩, fun hm id h1 h2 => ?_⟩
   have hp := qkj hij hu (D.op hx) (D.op hy) hm
   obtain ⟨t, t1, t2⟩ := qtc h1 h2
   exact D.pairs _ hp t (by grind) (by grind)
  omega
theorem Drawn.order (D : Drawn P mu N ops sops st L) (hlt : ∀ t ∈ st.live, t < 16 * st.nt) (t : Nat) : ∀ (i j : Nat) (d e : Done), L[i]? = some d → L[j]? = some e → t ∈ d.2.2.iss → t ∈ e.2.2.cons → i < j := by
 intro i j d e hi hj h1 h2
 have c1 := qkh (qan D.chain i d hi) t h1
 obtain ⟨h3, _⟩ := qki (qan D.chain j e hj) t h2
 rcases qp4 _ t L 0 st h3 with h4 | ⟨m, f, q1, q2, q3⟩
 ·grind
 ·have c2 := qkh (qan D.chain m f q1) t q3
  grind
theorem Drawn.same (D : Drawn P mu N ops sops st L) (M : Midst N ops st L S g w a) {i : Nat} (hi : i < ops.size) (hS : S i = false) (hd : ∀ e ∈ qbb ops.toList i, S e = true) {x : Done} (hx : L[i]? = some x) :
  (∀ n, n ∈ x.1.looks ∨ x.1.dst = some n → (ap S L 0 st).fr.get n = (ap (fun j => decide (j < i)) L 0 st).fr.get n) ∧
  (∀ id, id ∈ x.2.2.touch → (ap S L 0 st).os[id]? = (ap (fun j => decide (j < i)) L 0 st).os[id]?) := by
 refine ⟨fun n hn => q5f _ _ n L 0 st st rfl (fun j d hj hdd => ?_), fun id hid => q5g _ _ id L 0 st st rfl rfl (fun j d hj hw => ?_)⟩
 ·rw [Nat.zero_add]
  by_cases h : S j = decide (j < i)
  ·exact h
  ·rcases D.far M hi hS hd hx hj h with ⟨h1, _⟩ | rfl
   all_goals grind
 ·rw [Nat.zero_add]
  by_cases h : S j = decide (j < i)
  ·exact h
  ·rcases D.far M hi hS hd hx hj h with ⟨_, h1⟩ | rfl
   ·have hmw := qvn (qan D.chain j d hj) hw
    have htm := xbf (qan D.chain i x hx) hid
    grind
   grind
theorem Drawn.now (D : Drawn P mu N ops sops st L) (hlt : ∀ t ∈ st.live, t < 16 * st.nt) (M : Midst N ops st L S g w a) {i : Nat} (hi : i < ops.size) (hS : S i = false) (hd : ∀ e ∈ qbb ops.toList i, S e = true) {x : Done} (hx : L[i]? = some x) :
  AOne P (16 * (st.nt + i)) x.1 (ap S L 0 st) x.2.1 x.2.2 := by
 have h0 := qan D.chain i x hx
 rw [Nat.zero_add] at h0
 obtain ⟨s1, s2⟩ := D.same M hi hS hd hx
 refine xgh h0 (fun n hn => s1 n (.inl hn)) (by grind [qhi]) s2 (fun hg t ht => ?_)
 obtain ⟨hl, _⟩ := qki h0 t ht
 rw [hg] at h0
 have ho := D.order hlt t
 rw [qp0 _ _ _ _ _ ho] at hl ⊢
 obtain ⟨hl1, hl2⟩ := hl
 refine ⟨?_, ?_⟩
 ·rcases hl1 with hl1 | ⟨j, d, hj, hji, hti⟩
  ·grind
  ·refine .inr ⟨j, d, hj, ?_, hti⟩
   rw [Nat.zero_add]
   obtain ⟨y, hy, hok, hty⟩ := q75 h0 t ht
   have hcl : y.clean = true := by
    have h1 := List.all_eq_true.1 D.clean _ (List.mem_of_getElem? (D.op hx))
    grind
   have hir := qkh (qan D.chain j d hj) t hti
   rw [Nat.zero_add] at hir
   cases y with
   | k s => cases s <;> first | (simp [Opd.clean] at hcl; done) | grind [Opd.get, ASlot.toks]
   | t n =>
    have hsame := s1 n (.inl (by unfold SOper.looks; exact List.mem_append_left _ (qhj hy rfl)))
    simp only [Opd.ok, Opd.get] at hok hty
    rw [← hsame] at hok hty
    cases hgt : (ap S L 0 st).fr.get n with
    | none => grind
    | some p =>
     obtain ⟨v, s⟩ := p
     rw [hgt] at hok hty
     simp only at hok hty
     rcases M.sr.wf.fr n s (by grind) t (by omega) with h4 | ⟨m, hm, hSm, h5, h6⟩
     all_goals grind
 ·rintro ⟨j, d, hj, hSj, htc⟩
  rw [Nat.zero_add] at hSj
  by_cases hji : j < i
  ·grind
  ·have hne : j ≠ i := by grind
   obtain ⟨hlj, _⟩ := qki (qan D.chain j d hj) t htc
   rw [qp0 _ _ _ _ _ ho] at hlj
   grind
theorem Drawn.step (D : Drawn P mu N ops sops st L) (hlt : ∀ t ∈ st.live, t < 16 * st.nt) (M : Midst N ops st L S g w a) {i : Nat} (hi : i < ops.size) (hS : S i = false) (hd : ∀ e ∈ qbb ops.toList i, S e = true) {x : Done} (hx : L[i]? = some x)
  {g' : Ghost} {w' : World} {a' : Act} {S' : Nat → Bool} (hS' : ∀ j, S' j = (decide (j = i) || S j)) (hsr : SR N (Next (TS st.nt ops.size S) (16 * (st.nt + i))) g' w' ((ap S L 0 st).next x.1 x.2.1 x.2.2) a') :
  Midst N ops st L S' g' w' a' := by
 have hmono : ∀ j, S j = true → S' j = true := fun j h => by grind
 have hii : S' i = true := by grind
 have hne : ∀ j, j ≠ i → S' j = S j := fun j h => by grind
 have hT : ∀ t, Next (TS st.nt ops.size S) (16 * (st.nt + i)) t → TS st.nt ops.size S' t := by
  rintro t ((h | ⟨j, h1, h2, h3⟩) | h)
  ·exact .inl h
  ·exact .inr ⟨j, h1, hmono j h2, h3⟩
  ·exact .inr ⟨i, hi, hii, h⟩
 have ho := D.order hlt
 have hnow := D.now hlt M hi hS hd hx
 have hch := qan D.chain i x hx
 rw [Nat.zero_add] at hch
 refine ⟨fun j hj hSj e he => ?_, fun j hSj => ?_, (hsr.weakT hT).like ⟨fun k => ?_, fun id => ?_, fun t => ?_⟩, fun j d hj hSj t ht => ?_⟩
 ·by_cases hji : j = i
  ·grind
  ·exact hmono e (M.closed j hj (by grind) e he)
 ·by_cases hji : j = i
  ·omega
  ·exact M.dom j (by grind)
 ·by_cases hk : x.1.dst = some k
  ·have h1 : (ap S' L 0 st).fr.get k = (ap (fun j => decide (j < 0 + i + 1)) L 0 st).fr.get k := q5f _ _ k L 0 st st rfl (fun j d hj hdd => by
    rw [Nat.zero_add, Nat.zero_add]
    by_cases hji : j = i
    ·grind
    ·rw [hne j hji]
     have hlt' : decide (j < i + 1) = decide (j < i) := by grind
     rw [hlt']
     by_cases h : S j = decide (j < i)
     ·exact h
     ·rcases D.far M hi hS hd hx hj h with ⟨h2, _⟩ | rfl
      all_goals grind)
   rw [h1, q2v L 0 i st x hx]
   simp_all [St.next, qkg, if_true]
  ·have h1 : (ap S' L 0 st).fr.get k = (ap S L 0 st).fr.get k := q5f _ _ k L 0 st st rfl (fun j d hj hdd => by
    grind)
   simp_all [St.next, qkg, if_neg]
 ·by_cases hk : id ∈ x.2.2.wrs.map (·.1)
  ·have h1 : (ap S' L 0 st).os[id]? = (ap (fun j => decide (j < 0 + i + 1)) L 0 st).os[id]? := q5g _ _ id L 0 st st rfl rfl (fun j d hj hw => by
    rw [Nat.zero_add, Nat.zero_add]
    by_cases hji : j = i
    ·grind
    ·rw [hne j hji]
     have hlt' : decide (j < i + 1) = decide (j < i) := by grind
     rw [hlt']
     by_cases h : S j = decide (j < i)
     ·exact h
     ·rcases D.far M hi hS hd hx hj h with ⟨_, h2⟩ | rfl
      ·have hmw := qvn (qan D.chain j d hj) hw
       exact (h2 (.inl ⟨qvn hch hk, .inl hmw⟩) id (List.mem_append_left _ hk) hw).elim
      omega)
   rw [h1, q2v L 0 i st x hx]
   have hg : ∀ z : St, (z.next x.1 x.2.1 x.2.2).os[id]? = (jd z.os x.2.2.wrs)[id]? := fun z => rfl
   grind [qi9, qhi]
  ·have h1 : (ap S' L 0 st).os[id]? = (ap S L 0 st).os[id]? := q5g _ _ id L 0 st st rfl rfl (fun j d hj hw => by
    grind)
   rw [h1]
   exact (qam _ _ _ hk).symm
 ·have hl : t ∈ ((ap S L 0 st).next x.1 x.2.1 x.2.2).live ↔ (t ∈ (ap S L 0 st).live ∧ t ∉ x.2.2.cons) ∨ t ∈ x.2.2.iss := jf
  rw [hl, qp0 S' t L 0 st (ho t), qp0 S t L 0 st (ho t)]
  simp only [Nat.zero_add]
  constructor
  ·rintro ⟨h1, h2⟩
   have hnc : t ∉ x.2.2.cons := fun hc => h2 ⟨i, x, hx, hii, hc⟩
   have hns : ¬ ∃ (j : Nat) (d : Done), L[j]? = some d ∧ S j = true ∧ t ∈ d.2.2.cons := fun ⟨j, d, q1, q2, q3⟩ => h2 ⟨j, d, q1, hmono j q2, q3⟩
   rcases h1 with h1 | ⟨j, d, q1, q2, q3⟩
   ·grind
   grind
  ·rintro (⟨⟨h1, h2⟩, h3⟩ | h1)
   ·refine ⟨h1.imp id fun ⟨j, d, q1, q2, q3⟩ => ⟨j, d, q1, hmono j q2, q3⟩, fun ⟨j, d, q1, q2, q3⟩ => ?_⟩
    grind
   ·refine ⟨.inr ⟨i, x, hx, hii, h1⟩, fun ⟨j, d, q1, q2, q3⟩ => ?_⟩
    by_cases hji : j = i
    ·grind
    ·rw [hne j hji] at q2
     have hir := qkh hch t h1
     rcases M.cons j d q1 q2 t q3 with h4 | ⟨m, _, hSm, h5, h6⟩
     ·omega
     ·have : m = i := by omega
      grind
 ·by_cases hji : j = i
  ·subst hji
   rw [hx] at hj; cases hj
   obtain ⟨h1, _⟩ := qki hnow t ht
   exact hT t (.inl (M.sr.wf.live t h1))
  ·exact hT t (.inl (M.cons j d hj (by grind) t ht))
theorem Drawn.any {ro : Option Nat} {ds : List Deferred} {Q : Exit → Act → World → Prop} (D : Drawn P mu N ops sops st L) (hlt : ∀ t ∈ st.live, t < 16 * st.nt)
  (hQ : ∀ g' w' a', a'.defers = ds → G g w g' w' → SR N (below (st.nt + ops.size)) g' w' (ap (fun _ => true) L 0 st) a' → Q .normal a' w') :
  ∀ (fuel : Nat) (listed : Array Bool) (U : List Nat) (g' : Ghost) (w' : World) (a' : Act), listed.size = ops.size → U.length ≤ fuel → (∀ j, j < ops.size → listed.getD j false = false → j ∈ U) →
   a'.defers = ds → G g w g' w' → Midst N ops st L (fun j => listed.getD j false) g' w' a' → wpAnyIn (Fw ro) 0 P .any ops Q fuel listed a' w' := by
 have hdone : ∀ (listed : Array Bool) (g' : Ghost) (w' : World) (a' : Act), (∀ j, j < ops.size → listed.getD j false = true) → a'.defers = ds → G g w g' w' → Midst N ops st L (fun j => listed.getD j false) g' w' a' → Q .normal a' w' := by
  intro listed g' w' a' hall hdf hG M
  refine hQ g' w' a' hdf hG ?_
  have h1 : ap (fun j => listed.getD j false) L 0 st = ap (fun _ => true) L 0 st := q5j _ _ L 0 st (fun j hj => by rw [Nat.zero_add]; exact hall j (by rw [D.len.1] at hj; exact hj))
  rw [← h1]
  refine M.sr.weakT ?_
  rintro t (h | ⟨j, h1, h2, h3, h4⟩)
  all_goals grind [below]
 have hready : ∀ (listed : Array Bool) (i : Nat), listed.size = ops.size → i < ops.size → (i ∈ Region.ready .any ops listed ↔ listed.getD i false = false ∧ ∀ e ∈ qbb ops.toList i, listed.getD e false = true) := by
  intro listed i hsz hi
  have hgt : listed.getD i true = listed.getD i false := by grind
  unfold Region.ready
  rw [List.mem_filter, List.mem_range]
  have hoi : ops[i]? = some ops[i] := by simp
  have hoi' : ops.toList[i]? = some ops[i] := by simp
  simp only [hoi, Option.map_some, Option.getD_some, hgt, qbb, hoi', Bool.and_eq_true, Bool.not_eq_true', hi, true_and]
  refine and_congr Iff.rfl ?_
  rw [Array.all_eq_true']
  grind
 intro fuel
 induction fuel with
 | zero =>
  intro listed U g' w' a' hsz hU hm hdf hG M
  have hall : ∀ j, j < ops.size → listed.getD j false = true := by
   grind
  refine ⟨?_, hdone listed g' w' a' hall hdf hG M⟩
  simp_all [Region.ready, any, nil, List.mem_cons_self, List.mem_range]
 | succ fuel ih =>
  intro listed U g' w' a' hsz hU hm hdf hG M
  refine ⟨fun hr => hdone listed g' w' a' ?_ hdf hG M, fun i hir => ?_⟩
  ·have : ∀ (n j : Nat), j < n → j < ops.size → listed.getD j false = true := by
    intro n
    induction n with
    | zero => simp
    | succ n ihn =>
     intro j hjn hj
     cases h : listed.getD j false with
     | true => rfl
     | false =>
      have hmem := (hready listed j hsz hj).2 ⟨h, fun e he => by
       have hej := D.back j (by omega) e he
       grind⟩
      grind
   grind
  ·have hi : i < ops.size := by grind [Region.ready]
   obtain ⟨hS, hd⟩ := (hready listed i hsz hi).1 hir
   have hLi : i < L.length := by rw [D.len.1]; exact hi
   have hx : L[i]? = some L[i] := List.getElem?_eq_getElem hLi
   have hnow := D.now hlt M hi hS hd hx
   have hop : ops[i]? = some ops[i] := by simp
   obtain ⟨back, hcomp⟩ := (qja D.comp).2 i ops[i] L[i].1 (by simp) (D.op hx)
   have hne : L[i].1.op.isNilS = false := by
    have := D.nil
    rw [List.any_eq_false] at this
    have := this _ (List.mem_of_getElem? (D.op hx))
    grind
   have hfr : Fresh (TS st.nt ops.size fun j => listed.getD j false) (16 * (st.nt + i)) := by
    rintro t (h | ⟨j, h1, h2, h3, h4⟩) ⟨h5, h6⟩
    all_goals grind
   have hone := xk8 (ro := ro) (K := wpAnyIn (Fw ro) 0 P .any ops Q fuel (listed.setIfInBounds i true)) (Q := Q) hcomp M.sr hfr hnow hne (fun a'' w'' g'' hdf' hG' hsr => by
    have hset : ∀ j, (listed.setIfInBounds i true).getD j false = (decide (j = i) || listed.getD j false) := by
     intro j
     simp only [Array.getD_eq_getD_getElem?, Array.getElem?_setIfInBounds]
     grind
    refine ih (listed.setIfInBounds i true) (U.erase i) g'' w'' a'' (by grind) ?_ (fun j hj hjf => ?_) (hdf'.trans hdf) (hG.trans hG') (D.step hlt M hi hS hd hx hset hsr)
    all_goals grind)
   simp_all [wpOpIn, if_pos, if_neg]
theorem xbg {ro : Option Nat} {Q : Exit → Act → World → Prop} {id : Nat} {draw : Bool} {objs : Nat} {pairs : List (Nat × Nat)} {K : St → Prop} (hm : P.follows .mixedOrders = true) {news : List (FuncId × Nat)} (hc : qlr P mu N news ops draw = some (sops, objs, pairs))
  (hs : SR N (below st.nt) g w st a) (h : xbc P sops objs pairs K st)
  (hQ : ∀ st' g' w' a', a'.defers = a.defers → K st' → G g w g' w' → SR N (below st'.nt) g' w' st' a' → Q .normal a' w') : (Code.region id ops draw).wpIn (Fw ro) 0 P Q a w := by
 unfold qlr at hc
 cases hcs : qfm P mu N ops ops.toList with
 | none => grind
 | some sops' =>
  rw [hcs] at hc
  cases draw with
  | false =>
   simp only [Bool.false_eq_true, if_false, Option.some.injEq, Prod.mk.injEq] at hc
   obtain ⟨rfl, rfl, rfl⟩ := hc
   refine wpIn_region_list ?_
   refine qhh ops.toList sops' 0 [] _ (st.grow _) g w a hcs h (hs.grow _) (fun tids' st' a' w' g' hdf hK hnt hG hsr => ?_)
   refine hQ _ g' w' a' hdf hK.2 hG (SR.bump ?_ _)
   show SR N (below (st'.nt + sops'.length)) g' w' st' a'
   grind
  | true =>
   simp only [if_true] at hc
   split at hc
   ·rename_i hchk
    simp only [Bool.and_eq_true, Bool.not_eq_true'] at hchk
    obtain ⟨⟨⟨c1, c2⟩, c3⟩, c4⟩ := hchk
    simp only [Option.some.injEq, Prod.mk.injEq] at hc
    obtain ⟨rfl, rfl, rfl⟩ := hc
    refine wpIn_region_any hm ?_
    have hsg : SR N (below st.nt) g { w with drawn := w.drawn + 1 } (st.grow (qx2 news sops' + ops.toList.countP (Op.allocs ·.op))) a := (hs.grow _).drew
    obtain ⟨L, q1, q2, q3, q4⟩ := qkf sops' 0 [] _ _ h c3
    have D : Drawn P mu N ops sops' (st.grow (qx2 news sops' + ops.toList.countP (Op.allocs ·.op))) L := ⟨hcs, qsr c1, c2, c3, c4, q1, q2, by grind⟩
    have hG0 : G g w g { w with drawn := w.drawn + 1 } := ⟨rfl, rfl, rfl, Nat.le_refl _, fun _ _ h => ⟨rfl, h⟩, fun _ _ _ h => ⟨rfl, h⟩, fun _ n t _ h => ⟨n, some t, h, Nat.le_refl _, fun _ _ _ h => h⟩, fun _ _ _ h => ⟨h, Nat.le_refl _⟩⟩
    refine D.any (fun t ht => hsg.wf.live t ht) (fun g' w' a' hdf hG hsr => hQ _ g' w' a' hdf q4 (hG0.trans hG) (SR.bump ?_ _)) ops.size _ (List.range ops.size) g _ a (by simp) (by simp) (fun j hj _ => List.mem_range.2 hj) rfl (G.refl _ _) ?_
    ·show SR N (below ((ap (fun _ => true) L 0 _).nt + sops'.length)) g' w' _ a'
     rw [xpr, D.len.2]
     exact hsr
    ·have hno : ∀ j, (Array.replicate ops.size false).getD j false = false := by
      intro j
      simp only [Array.getD_eq_getD_getElem?, Array.getElem?_replicate]
      grind
     refine ⟨fun j _ h => ?_, fun j h => ?_, ?_, fun j d _ h => ?_⟩
     ·grind
     ·grind
     ·rw [qvm _ L 0 _ (fun j _ => hno _)]
      exact hsg.weakT fun t h => .inl h
     grind
   grind
end
end Go.Abs
namespace Go.Abs
mutual
def D.okW (keep : Nat → Bool) : D → Bool
 | .sl _ rows => D.okWR keep rows
 | .agg cs => D.okWL keep cs
 | .ptr id _ => keep id
 | .ref id _ _ _ => keep id
 | .map id => keep id
 | .func _ a b => D.okWL keep a && D.okWL keep b
 | .iface _ d => D.okW keep d
 | _ => true
def D.okWL (keep : Nat → Bool) : List D → Bool
 | [] => true
 | d :: l => D.okW keep d && D.okWL keep l
def D.okWR (keep : Nat → Bool) : List (List D) → Bool
 | [] => true
 | r :: l => D.okWL keep r && D.okWR keep l
end
theorem D.okWL_iff (keep : Nat → Bool) : ∀ (l : List D), D.okWL keep l = true ↔ ∀ d ∈ l, d.okW keep = true
 | [] => by simp [D.okWL]
 | d :: l => by simp [D.okWL, D.okWL_iff keep l]
theorem D.okWR_iff (keep : Nat → Bool) : ∀ (l : List (List D)), D.okWR keep l = true ↔ ∀ d ∈ l.flatten, d.okW keep = true
 | [] => by simp [D.okWR]
 | r :: l => by
  simp only [D.okWR, Bool.and_eq_true, D.okWL_iff, D.okWR_iff keep l, List.flatten_cons, List.mem_append]
  constructor
  ·rintro ⟨h1, h2⟩ d (h | h)
   ·exact h1 d h
   ·exact h2 d h
  ·exact fun h => ⟨fun d hd => h d (.inl hd), fun d hd => h d (.inr hd)⟩
mutual
theorem D.okW_noPtr {keep : Nat → Bool} : ∀ {d : D}, d.noPtr = true → d.okW keep = true
 | .sl _ rows, h => D.okWR_noPtr (by simpa only [D.noPtr] using h)
 | .agg cs, h => D.okWL_noPtr (by simpa only [D.noPtr] using h)
 | .func _ a b, h => by
  simp only [D.noPtr, Bool.and_eq_true] at h
  simp only [D.okW, D.okWL_noPtr h.1, D.okWL_noPtr h.2, Bool.and_self]
 | .iface _ d, h => D.okW_noPtr (d := d) (by simpa only [D.noPtr] using h)
 | .ptr .., h => by simp [D.noPtr] at h
 | .ref .., h => by simp [D.noPtr] at h
 | .map _, h => by simp [D.noPtr] at h
 | .int .., _ => rfl
 | .bool _, _ => rfl
 | .str _, _ => rfl
 | .nilptr, _ => rfl
 | .nilfunc, _ => rfl
 | .niliface, _ => rfl
 | .nilmap, _ => rfl
 | .nilsl, _ => rfl
 | .any, _ => rfl
theorem D.okWL_noPtr {keep : Nat → Bool} : ∀ {l : List D}, D.noPtrL l = true → D.okWL keep l = true
 | [], _ => rfl
 | d :: l, h => by
  simp only [D.noPtrL, Bool.and_eq_true] at h
  simp only [D.okWL, D.okW_noPtr h.1, D.okWL_noPtr h.2, Bool.and_self]
theorem D.okWR_noPtr {keep : Nat → Bool} : ∀ {l : List (List D)}, D.noPtrR l = true → D.okWR keep l = true
 | [], _ => rfl
 | r :: l, h => by
  simp only [D.noPtrR, Bool.and_eq_true] at h
  simp only [D.okWR, D.okWL_noPtr h.1, D.okWR_noPtr h.2, Bool.and_self]
end
theorem RV.okW {g g' : Ghost} {w w' : World} {keep : Nat → Bool} {v : Value} {d : D} (h : RV g w v d) (hr : RowsKept g w g' w') (ho : ∀ (b id : Nat), keep id = true → g b = .obj id → g' b = .obj id ∧ qc2 w b ≤ qc2 w' b) (hk : d.okW keep = true) : RV g' w' v d := by
 induction h with
 | int k n => exact .int k n
 | bool b => exact .bool b
 | str s => exact .str s
 | nilsl a c es hn => exact .nilsl a c es hn
 | sl b off cap es n o rows f hg hn hcap hes hcl hcell _ ih =>
  obtain ⟨n', o', hg', hnn, hc⟩ := hr b n o hg
  rw [D.okW, D.okWR_iff] at hk
  refine .sl b off cap es n' o' rows f hg' (by omega) hcap hes hcl (fun j d hj => hc _ _ ?_ (hcell j d hj)) (fun j d hj => ih j d hj (hk d (List.mem_of_getElem? hj)))
  have := (List.getElem?_eq_some_iff.1 hj).1
  omega
 | agg vs ds hl hcl _ ih =>
  rw [D.okW, D.okWL_iff] at hk
  exact .agg vs ds hl hcl (fun j v d hv hd => ih j v d hv hd (hk d (List.mem_of_getElem? hd)))
 | ptr b off id hg => exact .ptr b off id (ho b id (by simpa only [D.okW] using hk) hg).1
 | ref b off id es len cap hg hcap hm hsz =>
  obtain ⟨h1, h2⟩ := ho b id (by simpa only [D.okW] using hk) hg
  exact .ref b off id es len cap h1 hcap hm (Nat.le_trans hsz h2)
 | refnil a id off es => exact .refnil a id off es
 | nilptr => exact .nilptr
 | func fn vf vc df dc hf hc _ _ i1 i2 =>
  rw [D.okW, Bool.and_eq_true, D.okWL_iff, D.okWL_iff] at hk
  exact .func fn vf vc df dc hf hc (fun j v d hv hd => i1 j v d hv hd (hk.1 d (List.mem_of_getElem? hd))) (fun j v d hv hd => i2 j v d hv hd (hk.2 d (List.mem_of_getElem? hd)))
 | nilfunc => exact .nilfunc
 | iface t v d _ ih => exact .iface t v d (ih (by simpa [D.okW] using hk))
 | niliface => exact .niliface
 | map b id hg => exact .map b id (ho b id (by simpa only [D.okW] using hk) hg).1
 | nilmap => exact .nilmap
 | nils => exact .nils
 | any v hv => exact .any v hv
def qdf (keep : Nat → Bool) : ASlot → ASlot → Prop
 | s, .d x => s.eqvD x ∧ x.okW keep = true
 | .own _ es rows, .own _ es' rows' => (es = es' ∧ D.eqvR rows rows') ∧ D.noPtrR rows' = true
 | .uni _ es rows, .uni _ es' rows' => (es = es' ∧ rows = rows') ∧ D.noPtrR rows' = true
 | .full _ rows, .uni _ _ rows' => rows = [] ∧ rows' = []
 | .d .nilsl, .uni _ _ rows' => rows' = []
 | .full es rows, .own _ es' rows' => qah es rows es' rows' ∧ D.noPtrR rows' = true
 | .full es rows, .full es' rows' => qah es rows es' rows' ∧ D.noPtrR rows' = true
 | .d .nilsl, .own _ _ rows' => rows' = []
 | .d .nilsl, .full _ rows' => rows' = []
 | .rd cs, .rd cs' => D.eqvL cs cs' ∧ D.noPtrL cs' = true
 | _, .bad => True
 | _, _ => False
def wd : ASlot → ASlot → List (Nat × Nat)
 | .own t _ _, .own t' _ _ => [(t, t')]
 | .uni t _ _, .uni t' _ _ => [(t, t')]
 | _, _ => []
def qcq (fr : Fr) : Fr → List (Nat × Nat)
 | [] => []
 | (k, _, s') :: l => match fr.get k with
  | some (_, s) => wd s s' ++ qcq fr l
  | none => qcq fr l
def qbl : List ASlot → List ASlot → List (Nat × Nat)
 | s :: l, s' :: l' => wd s s' ++ qbl l l'
 | _, _ => []
def ya : List AObj → List AObj → List (Nat × Nat)
 | .row cs :: l, .row cs' :: l' => qbl cs cs' ++ ya l l'
 | _ :: l, _ :: l' => ya l l'
 | _, _ => []
def wx (os : List AObj) (id : Nat) : Bool := match os[id]? with | some .none => false | some _ => true | _ => false
def frW (keep : Nat → Bool) (fr : Fr) : Fr → Prop
 | [] => True
 | (k, v, s') :: l => (match fr.get k with
  | some (v', s) => v' = v ∧ (v = true → qdf keep s s')
  | none => False) ∧ frW keep fr l
def csW (keep : Nat → Bool) : List ASlot → List ASlot → Prop
 | s :: l, s' :: l' => qdf keep s s' ∧ csW keep l l'
 | _, [] => True
 | [], _ :: _ => False
def osW (keep : Nat → Bool) : List AObj → List AObj → Prop
 | .row cs :: l, .row cs' :: l' => csW keep cs cs' ∧ osW keep l l'
 | .map es c :: l, .map es' c' :: l' => (es = es' ∧ c = c') ∧ osW keep l l'
 | .iter m a b c :: l, .iter m' a' b' c' :: l' => (qdf keep m m' ∧ wd m m' = [] ∧ a = a' ∧ b = b' ∧ c = c') ∧ osW keep l l'
 | _ :: l, .none :: l' => osW keep l l'
 | [], .none :: l' => osW keep [] l'
 | _, [] => True
 | _, _ => False
def qi2 : Fr → List Nat
 | [] => []
 | (_, _, s) :: l => s.toks ++ qi2 l
def qgm (k0 : Nat) (os os' : List AObj) : Prop := ∀ id, id < k0 → wx os id = true → wx os' id = true
structure Weak (k0 : Nat) (st st' : St) : Prop where
 fr : frW (wx st'.os) st.fr st'.fr
 os : osW (wx st'.os) st.os st'.os
 live : ∀ p ∈ qcq st.fr st'.fr ++ ya st.os st'.os, p.2 ∈ st'.live → p.1 ∈ st.live
 nd : ((qcq st.fr st'.fr ++ ya st.os st'.os).map (·.1)).Nodup
 base : qgm k0 st.os st'.os
 wf : ∀ t ∈ st'.live ++ qi2 st'.fr ++ xh st'.os, t < 16 * st'.nt
def wkG (hs : List (Nat × Nat)) (keep : Nat → Bool) (g : Ghost) : Ghost := fun b =>
 match g b with
 | .row n (some t) => .row n (k8 hs t)
 | .uni t => match k8 hs t with | some t' => .uni t' | none => .out
 | .obj id => if keep id then .obj id else .out
 | r => r
section
variable {P : Program} {N : Nat} {T : Nat → Prop} {g g0 : Ghost} {w w0 : World} {st st' : St} {a : Act} {hs : List (Nat × Nat)} {keep : Nat → Bool} {live live' : List Nat}
theorem qem : RowsKept g w (wkG hs keep g) w := by
 intro b n o hg
 refine ⟨n, o.bind (k8 hs), ?_, Nat.le_refl _, fun _ _ _ h => h⟩
 unfold wkG
 rw [hg]
 cases o <;> rfl
theorem xps {v : Value} {d : D} (h : RV g w v d) (hk : d.okW keep = true) : RV (wkG hs keep g) w v d :=
 h.okW qem (fun b id hk hg => ⟨by unfold wkG; rw [hg]; simp [hk], Nat.le_refl _⟩) hk
theorem q2w {v : Value} {s s' : ASlot} (hnd : (hs.map (·.1)).Nodup) (hm : ∀ p ∈ wd s s', p ∈ hs) (hl : ∀ p ∈ hs, p.2 ∈ live' → p.1 ∈ live) (h : RS g w live v s) (hw : qdf keep s s') :
  RC (wkG hs keep g) w live' v s' := by
 have hr := qem (g := g) (w := w) (hs := hs) (keep := keep)
 have sl : ∀ {es : Nat} {rows : List (List D)}, RV g w v (.sl es rows) → D.noPtrR rows = true → RV (wkG hs keep g) w v (.sl es rows) := fun h1 h2 => h1.mono_noPtr hr (by simpa only [D.noPtr] using h2)
 cases s' with
 | d x =>
  have h2 : s.eqvD x ∧ x.okW keep = true := by cases s <;> simpa only [qdf] using hw
  exact xps (qvi h h2.1) h2.2
 | own t' es' rows' =>
  cases s with
  | own t es rows =>
   obtain ⟨⟨rfl, he⟩, h3⟩ := hw
   refine ⟨sl (qbq h.1 ⟨.inl rfl, he⟩) h3, fun hlv => ?_⟩
   have hmem := hm (t, t') (by simp [wd])
   have hp := qb8 hnd hmem
   rcases qps (h.2 (hl _ hmem hlv)) he with hf | ⟨b, cap, cur, e, q1, q2, q3⟩
   ·exact .inl hf
   ·refine .inr ⟨b, cap, cur, e, q1, ?_, q3⟩
    unfold wkG
    rw [q2]
    simp only [hp]
  | full es rows => exact ⟨sl (qbq h.1 hw.1) hw.2, fun _ => .inl (qoj h.2 hw.1.2)⟩
  | d y =>
   obtain ⟨rfl, rfl⟩ : v = .slice none 0 0 ∧ rows' = [] := by
    cases y <;> first | exact hw.elim | skip
    have h' : RV g w v .nilsl := h
    cases h'
    exact ⟨rfl, hw⟩
   exact ⟨.nilsl none 0 es' (fun _ => rfl), fun _ => .inl ⟨none, rfl⟩⟩
  | _ => exact hw.elim
 | uni t' es' rows' =>
  cases s with
  | uni t es rows =>
   obtain ⟨⟨rfl, rfl⟩, h3⟩ := hw
   refine ⟨h.1, fun hlv => ?_⟩
   have hmem := hm (t, t') (by simp [wd])
   have hp := qb8 hnd hmem
   rcases h.2 (hl _ hmem hlv) with hf | ⟨b, cap, cur, e, q1, q2, q3, q4, q5, q6, q7, q8⟩
   ·exact .inl hf
   ·refine .inr ⟨b, cap, cur, e, q1, ?_, q3, q4, q5, q6, q7, fun j d hj => ?_⟩
    ·unfold wkG
     rw [q2]
     simp only [hp]
    ·obtain ⟨c1, u, c2, c3⟩ := q8 j d hj
     exact ⟨c1, u, c2, c3.mono_noPtr hr ((D.noPtrR_iff rows).1 h3 d (List.mem_of_getElem? hj))⟩
  | full es rows =>
   obtain ⟨rfl, rfl⟩ := hw
   obtain ⟨a, rfl⟩ := h.2
   exact ⟨⟨a, 0, rfl⟩, fun _ => .inl ⟨a, rfl, rfl⟩⟩
  | d y =>
   obtain ⟨rfl, rfl⟩ : v = .slice none 0 0 ∧ rows' = [] := by
    cases y <;> first | exact hw.elim | skip
    have h' : RV g w v .nilsl := h
    cases h'
    exact ⟨rfl, hw⟩
   exact ⟨⟨none, 0, rfl⟩, fun _ => .inl ⟨none, rfl, rfl⟩⟩
  | _ => exact hw.elim
 | full es' rows' =>
  cases s with
  | full es rows => exact ⟨sl (qbq h.1 hw.1) hw.2, qoj h.2 hw.1.2⟩
  | d y =>
   obtain ⟨rfl, rfl⟩ : v = .slice none 0 0 ∧ rows' = [] := by
    cases y <;> first | exact hw.elim | skip
    have h' : RV g w v .nilsl := h
    cases h'
    exact ⟨rfl, hw⟩
   exact ⟨.nilsl none 0 es' (fun _ => rfl), none, rfl⟩
  | _ => exact hw.elim
 | rd cs' =>
  cases s with
  | rd cs =>
   obtain ⟨he, h3⟩ := hw
   obtain ⟨b, off, n, o, fn, rfl, hg, hn, hcc⟩ := xk6 (live := live) h he
   obtain ⟨n', o', hg', hnn, hcell⟩ := hr b n o hg
   refine ⟨b, off, n', o', fn, rfl, hg', by omega, fun j d hj => ?_⟩
   obtain ⟨c1, c2, c3⟩ := hcc j d hj
   have hjl : j < cs'.length := (List.getElem?_eq_some_iff.1 hj).1
   exact ⟨c1, hcell _ _ (by omega) c2, c3.mono_noPtr hr ((D.noPtrL_iff cs').1 h3 d (List.mem_of_getElem? hj))⟩
  | _ => exact hw.elim
 | tup l => cases s <;> exact hw.elim
 | bad => trivial
theorem qyx {s : ASlot} {l : List ASlot} : ¬ qdf keep s (.tup l) := by cases s <;> simp [qdf]
theorem qvo {fr : Fr} : ∀ {fr' : Fr}, frW keep fr fr' → ∀ (k : Nat) (v : Bool) (s' : ASlot), fr'.get k = some (v, s') →
  ∃ s, fr.get k = some (v, s) ∧ (v = true → qdf keep s s') ∧ ∀ p ∈ wd s s', p ∈ qcq fr fr'
 | [], _, k, v, s', h => by simp [Fr.get] at h
 | (j, v', s'') :: l, hw, k, v, s', h => by
  obtain ⟨h1, h2⟩ := hw
  simp only [Fr.get] at h
  split at h
  ·rename_i hj
   subst hj
   cases h
   cases hg : fr.get j with
   | none => rw [hg] at h1; exact h1.elim
   | some p =>
    obtain ⟨u, s⟩ := p
    rw [hg] at h1
    obtain ⟨rfl, h4⟩ := h1
    refine ⟨s, rfl, h4, fun p hp => ?_⟩
    simp only [qcq, hg]
    exact List.mem_append_left _ hp
  ·obtain ⟨s, q1, q2, q3⟩ := qvo h2 k v s' h
   refine ⟨s, q1, q2, fun p hp => ?_⟩
   simp only [qcq]
   split
   ·exact List.mem_append_right _ (q3 p hp)
   ·exact q3 p hp
theorem xbh : ∀ {l l' : List ASlot}, csW keep l l' → l'.length ≤ l.length ∧ ∀ (i : Nat) (s' : ASlot), l'[i]? = some s' → ∃ s, l[i]? = some s ∧ qdf keep s s' ∧ ∀ p ∈ wd s s', p ∈ qbl l l'
 | _, [], _ => by simp
 | [], _ :: _, h => h.elim
 | s :: l, s' :: l', h => by
  obtain ⟨h1, h2⟩ := h
  obtain ⟨k1, k2⟩ := xbh h2
  refine ⟨by simp; omega, fun i u hi => ?_⟩
  cases i with
  | zero => simp at hi; subst hi; exact ⟨s, rfl, h1, fun p hp => List.mem_append_left _ hp⟩
  | succ i =>
   obtain ⟨u', q1, q2, q3⟩ := k2 i u (by simpa using hi)
   exact ⟨u', by simpa using q1, q2, fun p hp => List.mem_append_right _ (q3 p hp)⟩
theorem qlz : ∀ {l l' : List AObj}, osW keep l l' → ∀ (i : Nat) (cs' : List ASlot), l'[i]? = some (.row cs') → ∃ cs, l[i]? = some (.row cs) ∧ csW keep cs cs' ∧ ∀ p ∈ qbl cs cs', p ∈ ya l l'
 | l, [], _, i, cs', h => by simp at h
 | [], .none :: l', hw, i, cs', h => by
  cases i with
  | zero => simp at h
  | succ i =>
   obtain ⟨cs, q1, _⟩ := qlz (l := []) (show osW keep [] l' from hw) i cs' (by simpa using h)
   simp at q1
 | [], .row _ :: l', hw, i, cs', h => hw.elim
 | [], .map .. :: l', hw, i, cs', h => hw.elim
 | [], .iter .. :: l', hw, i, cs', h => hw.elim
 | o :: l, .none :: l', hw, i, cs', h => by
  have h2 : osW keep l l' := by cases o <;> exact hw
  cases i with
  | zero => simp at h
  | succ i =>
   obtain ⟨cs, q1, q2, q3⟩ := qlz h2 i cs' (by simpa using h)
   refine ⟨cs, by simpa using q1, q2, fun p hp => ?_⟩
   cases o <;> exact q3 p hp
 | .none :: l, .row _ :: l', hw, i, cs', h => hw.elim
 | .row cs :: l, .row cs'' :: l', hw, i, cs', h => by
  obtain ⟨h1, h2⟩ := hw
  cases i with
  | zero => simp at h; subst h; exact ⟨cs, rfl, h1, fun p hp => List.mem_append_left _ hp⟩
  | succ i =>
   obtain ⟨u, q1, q2, q3⟩ := qlz h2 i cs' (by simpa using h)
   exact ⟨u, by simpa using q1, q2, fun p hp => List.mem_append_right _ (q3 p hp)⟩
 | .map _ _ :: l, .map _ _ :: l', hw, i, cs', h => by
  cases i with
  | zero => simp at h
  | succ i =>
   obtain ⟨u, q1, q2, q3⟩ := qlz hw.2 i cs' (by simpa using h)
   exact ⟨u, by simpa using q1, q2, q3⟩
 | .iter _ _ _ _ :: l, .iter _ _ _ _ :: l', hw, i, cs', h => by
  cases i with
  | zero => simp at h
  | succ i =>
   obtain ⟨u, q1, q2, q3⟩ := qlz hw.2 i cs' (by simpa using h)
   exact ⟨u, by simpa using q1, q2, q3⟩
theorem q2x : ∀ {l l' : List AObj}, osW keep l l' → ∀ (i : Nat) (es : List (Nat × D × D)) (c : Nat), l'[i]? = some (.map es c) → l[i]? = some (.map es c)
 | l, [], _, i, es, c, h => by simp at h
 | o :: l, o' :: l', hw, 0, es, c, h => by
  simp at h
  subst h
  cases o with
  | map es1 c1 => obtain ⟨⟨rfl, rfl⟩, _⟩ := hw; rfl
  | _ => exact hw.elim
 | o :: l, o' :: l', hw, i + 1, es, c, h => by
  have h2 : osW keep l l' := by cases o <;> cases o' <;> first | exact hw | exact hw.2 | exact hw.elim
  simpa using q2x h2 i es c (by simpa using h)
 | [], .none :: l', hw, 0, es, c, h => by simp at h
 | [], .none :: l', hw, i + 1, es, c, h => by
  have := q2x (l := []) (show osW keep [] l' from hw) i es c (by simpa using h)
  simp at this
 | [], .row _ :: l', hw, i, es, c, h => hw.elim
 | [], .map .. :: l', hw, i, es, c, h => hw.elim
 | [], .iter .. :: l', hw, i, es, c, h => hw.elim
theorem qvp : ∀ {l l' : List AObj}, osW keep l l' → ∀ (i : Nat) (m' : ASlot) (a : Nat) (b : List Nat) (c : Nat), l'[i]? = some (.iter m' a b c) → ∃ m, l[i]? = some (.iter m a b c) ∧ qdf keep m m' ∧ wd m m' = []
 | l, [], _, i, _, _, _, _, h => by simp at h
 | o :: l, o' :: l', hw, 0, _, _, _, _, h => by
  simp at h
  subst h
  cases o with
  | iter m1 a1 b1 c1 => obtain ⟨⟨h1, h2, rfl, rfl, rfl⟩, _⟩ := hw; exact ⟨m1, rfl, h1, h2⟩
  | _ => exact hw.elim
 | o :: l, o' :: l', hw, i + 1, m', a, b, c, h => by
  have h2 : osW keep l l' := by cases o <;> cases o' <;> first | exact hw | exact hw.2 | exact hw.elim
  simpa using qvp h2 i m' a b c (by simpa using h)
 | [], .none :: l', hw, 0, _, _, _, _, h => by simp at h
 | [], .none :: l', hw, i + 1, m', a, b, c, h => by
  obtain ⟨m, q1, _⟩ := qvp (l := []) (show osW keep [] l' from hw) i m' a b c (by simpa using h)
  simp at q1
 | [], .row _ :: l', hw, i, _, _, _, _, h => hw.elim
 | [], .map .. :: l', hw, i, _, _, _, _, h => hw.elim
 | [], .iter .. :: l', hw, i, _, _, _, _, h => hw.elim
theorem ql0 : ∀ {fr : Fr} {k : Nat} {v : Bool} {s : ASlot}, fr.get k = some (v, s) → ∀ t ∈ s.toks, t ∈ qi2 fr
 | [], k, v, s, h, t, ht => by simp [Fr.get] at h
 | (j, v', s') :: l, k, v, s, h, t, ht => by
  simp only [Fr.get] at h
  simp only [qi2, List.mem_append]
  split at h
  ·cases h; exact .inl ht
  ·exact .inr (ql0 h t ht)
theorem Weak.srD {k0 : Nat} (h : Weak k0 st st') (hr : SR N T g w st a) (hG : G g0 w0 g w) (h0 : ∀ b id, g0 b = .obj id → id < k0) :
  ∃ g', SR N (below st'.nt) g' w st' a ∧ G g0 w0 g' w ∧ (∀ b, g b = .out → g' b = .out) ∧ (∀ b id, g b = .obj id → g' b = .obj id ∨ g' b = .out) ∧ RowsKept g w g' w ∧ ∀ b id, wx st'.os id = true → g b = .obj id → g' b = .obj id := by
 let hs := qcq st.fr st'.fr ++ ya st.os st'.os
 have back : ∀ b id, wkG hs (wx st'.os) g b = .obj id → g b = .obj id := by
  intro b id hb
  unfold wkG at hb
  split at hb
  ·cases hb
  ·split at hb <;> cases hb
  ·split at hb
   ·cases hb; assumption
   ·cases hb
  ·exact hb
 refine ⟨wkG hs (wx st'.os) g, ⟨⟨fun b hb => ?_, hr.dom.2.ghost fun b n h => by unfold wkG; rw [h]⟩, hr.defers, hr.size, fun k v s' hk => ?_, fun id o ho hn => ?_, fun b b' id hb hb' => ?_, fun b id hb => ?_, ?_⟩, ?_, ?_, fun b id hb => ?_, qem, fun b id hk hb => by unfold wkG; rw [hb]; simp [hk]⟩
 ·unfold wkG; rw [hr.dom.1 b hb]
 ·obtain ⟨s, q1, q2, q3⟩ := qvo h.fr k v s' hk
  obtain ⟨r1, r2⟩ := hr.slots k v s q1
  exact ⟨fun hv => je (q2w h.nd (fun p hp => List.mem_append_left _ (q3 p hp)) h.live (r1 hv) (q2 hv)), r2⟩
 ·cases o with
  | none => exact (hn rfl).elim
  | row cs' =>
   obtain ⟨cs, q1, q2, q3⟩ := qlz h.os id cs' ho
   obtain ⟨k1, k2⟩ := xbh q2
   rcases hr.objs id (.row cs) q1 (by simp) with ⟨b, hb, c, e, r1, r2, r3⟩ | ⟨hv, hno⟩
   case inr =>
    have hc0 : cs = [] := by simpa using hv
    subst hc0
    have : cs' = [] := List.eq_nil_of_length_eq_zero (by simpa using k1)
    subst this
    exact .inr ⟨rfl, fun b hb => hno b (back b id hb)⟩
   refine .inl ⟨b, by unfold wkG; rw [hb]; simp [wx, ho], c, e, r1, by omega, fun i s' hi => ?_⟩
   obtain ⟨s, p1, p2, p3⟩ := k2 i s' hi
   obtain ⟨v, v1, v2, v3⟩ := r3 i s p1
   exact ⟨v, v1, v2, q2w h.nd (fun p hp => List.mem_append_right _ (q3 p (p3 p hp))) h.live (je v3) p2⟩
  | map es c =>
   have q1 := q2x h.os id es c ho
   rcases hr.objs id _ q1 (by simp) with ⟨b, hb, hro⟩ | ⟨hv, _⟩
   ·exact .inl ⟨b, by unfold wkG; rw [hb]; simp [wx, ho], MapIs.mono hro qem rfl⟩
   ·cases hv
  | iter m' since seen last =>
   obtain ⟨m, q1, q2, q3⟩ := qvp h.os id m' since seen last ho
   rcases hr.objs id _ q1 (by simp) with ⟨b, hb, hro⟩ | ⟨hv, _⟩
   ·refine .inl ⟨b, by unfold wkG; rw [hb]; simp [wx, ho], IterIs.mono (R := fun v => RC g w st.live v m) (R' := fun v => RC (wkG hs (wx st'.os) g) w st'.live v m') hro rfl (fun o hv => ?_)⟩
    exact q2w h.nd (fun p hp => by rw [q3] at hp; cases hp) h.live (je hv) q2
   ·cases hv
 ·exact hr.inj b b' id (back b id hb) (back b' id hb')
 ·unfold wkG at hb
  split at hb
  ·cases hb
  ·split at hb <;> cases hb
  ·rename_i id' hg
   split at hb
   ·rename_i hk
    cases hb
    unfold wx at hk
    split at hk
    ·cases hk
    ·rename_i o hno hcs
     exact ⟨o, hcs, fun h => by subst h; exact hno rfl⟩
    ·cases hk
   ·cases hb
  ·rename_i r hn1 hn0 hn2
   exact (hn2 id hb).elim
 ·refine ⟨fun t ht => h.wf t ?_, fun k s hk t ht => h.wf t ?_, fun id o ho s hsm t ht => h.wf t ?_⟩
  ·simp only [List.mem_append]; exact .inl (.inl ht)
  ·simp only [List.mem_append]; exact .inl (.inr (ql0 hk t ht))
  ·simp only [List.mem_append]; exact .inr (qh8 ho s hsm t ht)
 ·refine ⟨hG.os, hG.tape, hG.output, hG.size, fun b hb hg => ?_, fun b n hb hg => ?_, fun b n t hb hg => ?_, fun b id hb hg => ?_⟩
  ·obtain ⟨q1, q2⟩ := hG.out b hb hg
   exact ⟨q1, by unfold wkG; rw [q2]⟩
  ·obtain ⟨q1, q2⟩ := hG.rowN b n hb hg
   exact ⟨q1, by unfold wkG; rw [q2]⟩
  ·obtain ⟨n', o', q1, q2, q3⟩ := hG.rowS b n t hb hg
   obtain ⟨n'', o'', r1, r2, r3⟩ := qem (hs := hs) (keep := wx st'.os) (w := w) b n' o' q1
   exact ⟨n'', o'', r1, by omega, fun i u hi hu => r3 i u (by omega) (q3 i u hi hu)⟩
  ·obtain ⟨hgb, hbz⟩ := hG.obj b id hb hg
   obtain ⟨o, ho, hn⟩ := hr.ids b id hgb
   have hk : wx st.os id = true := by
    unfold wx; rw [ho]
    cases o with
    | none => exact (hn rfl).elim
    | _ => rfl
   unfold wkG
   rw [hgb]
   simp [h.base id (h0 b id hg) hk, hbz]
 ·intro b hb
  unfold wkG; rw [hb]
 ·unfold wkG; rw [hb]
  simp only
  split
  ·exact .inl rfl
  ·exact .inr rfl
theorem Weak.sr {k0 : Nat} (h : Weak k0 st st') (hr : SR N T g w st a) (hG : G g0 w0 g w) (h0 : ∀ b id, g0 b = .obj id → id < k0) :
  ∃ g', SR N (below st'.nt) g' w st' a ∧ G g0 w0 g' w ∧ ∀ b, g b = .out → g' b = .out := by
 obtain ⟨g', h1, h2, h3, _⟩ := h.srD hr hG h0
 exact ⟨g', h1, h2, h3⟩
end
end Go.Abs
namespace Go.Abs
inductive Pos where
 | fr (k : Nat)
 | cell (id i : Nat)
def St.slotAt (st : St) : Pos → ASlot
 | .fr k => match st.fr.get k with | some (true, s) => s | _ => .bad
 | .cell id i => (qh st.os id).getD i .bad
def St.setPos (st : St) (s : ASlot) : Pos → St
 | .fr k => { st with fr := (k, true, s) :: st.fr }
 | .cell id i => { st with os := st.os.set id (.row ((qh st.os id).set i s)) }
def At (g : Ghost) (w : World) (a : Act) : Pos → Value → Prop
 | .fr k, v => v = a.tmps.getD k undef
 | .cell id i, v => ∃ (b : Nat) (c : Array Value) (e : TypeId), g b = .obj id ∧ w.heap[b]? = some (.cells c e (0, 0)) ∧ c[i]? = some v ∧ v.oneCell' = true
def ASlot.okS (keep : Nat → Bool) : ASlot → Bool
 | .d x => x.okW keep
 | .own _ _ rows => D.okWR keep rows
 | .uni _ _ rows => D.okWR keep rows
 | .full _ rows => D.okWR keep rows
 | .rd cs => D.okWL keep cs
 | .tup l => l.all fun s => match s with | .d x => x.okW keep | .own _ _ rows => D.okWR keep rows | .uni _ _ rows => D.okWR keep rows | .full _ rows => D.okWR keep rows | .rd cs => D.okWL keep cs | _ => true
 | .bad => true
def ASlot.only (keep : Nat → Bool) (s : ASlot) : ASlot := if s.okS keep then s else .bad
def Fr.mapS (f : ASlot → ASlot) : Fr → Fr
 | [] => []
 | (k, v, s) :: l => (k, v, f s) :: Fr.mapS f l
def AObj.mapS (f : ASlot → ASlot) : AObj → AObj
 | .none => .none
 | .row cs => .row (cs.map f)
 | .map es c => .map es c
 | .iter m a b c => .iter (f m) a b c
def neId (id : Nat) (i : Nat) : Bool := !(i == id)
def D.frz (id es : Nat) (rows : List (List D)) : D → D
 | .ref i off e n => if i = id ∧ off = 0 ∧ e = es ∧ n = rows.length then .sl es rows else .ref i off e n
 | d => d
def ASlot.frz (id es : Nat) (rows : List (List D)) : ASlot → ASlot
 | .d (.agg cs) => .d (.agg (cs.map (D.frz id es rows)))
 | .d x => .d (x.frz id es rows)
 | s => s
def St.u2o (st : St) (p : Pos) (t es : Nat) (rows : List (List D)) : St :=
 let s1 := st.setPos (.d (.ref st.os.length 0 es rows.length)) p
 {s1 with os := s1.os ++ [.row (rows.flatten.map .d)], live := st.live.filter fun u => !(u == t) }
def St.o2u (st : St) (p : Pos) (id es : Nat) (rows : List (List D)) : St :=
 ({ fr := Fr.mapS (ASlot.only (neId id)) st.fr, os := (st.os.map (AObj.mapS (ASlot.only (neId id)))).set id .none, live := st.live ++ [16 * st.nt], nt := st.nt + 1 } : St).setPos (.uni (16 * st.nt) es rows) p
def St.frz (st : St) (id es : Nat) (rows : List (List D)) : St :=
 {fr := Fr.mapS (fun s => (s.frz id es rows).only (neId id)) st.fr, os := (st.os.map (AObj.mapS fun s => (s.frz id es rows).only (neId id))).set id .none, live := st.live, nt := st.nt }
def St.u2own (st : St) (p : Pos) (t es : Nat) (rows : List (List D)) : St :=
 let s1 := st.setPos (.own (16 * st.nt) es rows) p
 {s1 with live := (st.live.filter fun u => !(u == t)) ++ [16 * st.nt], nt := st.nt + 1 }
def Pos.notIn (id : Nat) : Pos → Prop
 | .fr _ => True
 | .cell i _ => i ≠ id
def q76 (κ : List Nat) (os' : List AObj) : List Nat → List AObj → Prop
 | [], [] => True
 | id :: ι, o :: os => os'[id]? = some (o.ren κ) ∧ q76 κ os' ι os
 | _, _ => False
def xgj (k0 n : Nat) (ι : List Nat) : Bool := (List.range n).all ι.contains && ι.all (fun i => Nat.blt i n) && ((List.range n).all fun i => !Nat.blt i k0 || ι.getD i n == i)
def St.renN (st : St) (ι : List Nat) (os' : List AObj) : St := { st with fr := Fr.mapS (ASlot.ren ι) st.fr, os := os' }
inductive Turn (k0 : Nat) : St → St → Prop
 | refl (st : St) : Turn k0 st st
 | weak {st st1 st2 : St} (h : Weak k0 st st1) (r : Turn k0 st1 st2) : Turn k0 st st2
 | u2o {st st2 : St} (p : Pos) (t es : Nat) (rows : List (List D)) (hp : st.slotAt p = .uni t es rows) (ht : t ∈ st.live) (r : Turn k0 (st.u2o p t es rows) st2) : Turn k0 st st2
 | o2u {st st2 : St} (p : Pos) (id es : Nat) (rows : List (List D)) (hp : st.slotAt p = .d (.ref id 0 es rows.length)) (hrow : qgh st.os id = true) (hc : qh st.os id = rows.flatten.map .d) (hes : ∀ r ∈ rows, r.length = es)
   (hcl : ∀ d ∈ rows.flatten, d.isCell = true) (hok : D.okWR (neId id) rows = true) (hk : k0 ≤ id) (hn : p.notIn id) (r : Turn k0 (st.o2u p id es rows) st2) : Turn k0 st st2
 | frz {st st2 : St} (id es : Nat) (rows : List (List D)) (hc : (qh st.os id).map ASlot.cellD = rows.flatten) (hcc : (qh st.os id).all ASlot.isCellD = true) (hes : ∀ r ∈ rows, r.length = es)
   (hok : D.okWR (neId id) rows = true) (hk : k0 ≤ id) (r : Turn k0 (st.frz id es rows) st2) : Turn k0 st st2
 | u2own {st st2 : St} (p : Pos) (t es : Nat) (rows : List (List D)) (hp : st.slotAt p = .uni t es rows) (ht : t ∈ st.live) (r : Turn k0 (st.u2own p t es rows) st2) : Turn k0 st st2
 | ren {st st2 : St} (ι : List Nat) (os' : List AObj) (hn : ι.Nodup) (hl : ι ≠ []) (hp : xgj k0 os'.length ι = true) (ho : q76 ι os' ι st.os) (r : Turn k0 (st.renN ι os') st2) : Turn k0 st st2
section
variable {N : Nat} {T T' : Nat → Prop} {g g0 g' : Ghost} {w w0 : World} {st st' : St} {a : Act} {k0 : Nat}
theorem qkk (f : ASlot → ASlot) (k : Nat) : ∀ fr : Fr, (Fr.mapS f fr).get k = (fr.get k).map fun x => (x.1, f x.2)
 | [] => rfl
 | (j, v, s) :: l => by
  simp only [Fr.mapS, Fr.get]
  split
  ·rfl
  ·exact qkk f k l
def xpt (st : St) : Pos → Prop
 | .fr _ => True
 | .cell id i => i < (qh st.os id).length
theorem qhl (hs : SR N T g w st a) {p : Pos} {s : ASlot} (h : st.slotAt p = s) (hne : s ≠ .bad) (hnt : ∀ l, s ≠ .tup l) :
  ∃ v, At g w a p v ∧ RC g w st.live v s ∧ xpt st p := by
 subst h
 cases p with
 | fr k =>
  simp only [St.slotAt] at hne hnt ⊢
  cases hk : st.fr.get k with
  | none => grind
  | some x =>
   obtain ⟨v, s⟩ := x
   cases v with
   | false => grind
   | true =>
    rw [hk] at hnt
    exact ⟨_, rfl, qas ((hs.slots k true s hk).1 rfl) hnt, trivial⟩
 | cell id i =>
  simp only [St.slotAt] at hne hnt ⊢
  by_cases hi : i < (qh st.os id).length
  ·have hg : (qh st.os id).getD i .bad = (qh st.os id)[i] := by grind
   unfold qh at hi
   cases ho : st.os[id]? with
   | none => grind
   | some o =>
    rw [ho] at hi
    simp only at hi
    obtain ⟨b, hb, hr⟩ := (hs.objs id o ho (by rintro rfl; grind [AObj.cells])).block (fun h => by grind)
    have hcells : qh st.os id = o.cells := by simp [qh, ho]
    cases o with
    | none => exact hr.elim
    | row cs =>
     obtain ⟨c, e, q1, q2, q3⟩ := hr
     have hcells' : qh st.os id = cs := hcells
     obtain ⟨v, v1, v2, v3⟩ := q3 i cs[i] (List.getElem?_eq_getElem hi)
     refine ⟨v, ⟨b, c, e, hb, q1, v1, v2⟩, ?_, by show i < (qh st.os id).length; grind⟩
     grind
    | map _ _ => grind [AObj.cells]
    | iter _ _ _ _ => grind [AObj.cells]
  grind
theorem qhm (hs : SR N T g w st a) {p : Pos} {v : Value} {s' : ASlot} (hat : At g w a p v) (hp : xpt st p)
  (hrc : RC g w st.live v s') (ht : ∀ t ∈ s'.toks, T t) : SR N T g w (st.setPos s' p) a := by
 cases p with
 | fr k =>
  refine ⟨hs.dom, hs.defers, hs.size, fun k' v' s hk => ?_, hs.objs, hs.inj, hs.ids, ⟨hs.wf.live, fun k' s hk => ?_, hs.wf.os⟩⟩
  ·simp only [St.setPos, Fr.get] at hk
   split at hk
   ·rename_i he
    subst he
    cases hk
    have hat' : v = a.tmps.getD k undef := hat
    exact ⟨fun _ => by rw [← hat']; exact je hrc, by simp⟩
   ·exact hs.slots k' v' s hk
  ·simp only [St.setPos, Fr.get] at hk
   split at hk
   ·grind
   ·exact hs.wf.fr k' s hk
 | cell id i =>
  obtain ⟨b, c, e, hb, hh, hci, hone⟩ := hat
  have hp : i < (qh st.os id).length := hp
  obtain ⟨c', e', r1, r2, r3⟩ := qoh hs hb (q5a (by omega))
  rw [hh] at r1; cases r1
  have hlt : id < st.os.length := by
   obtain ⟨o, ho, _⟩ := hs.ids b id hb
   grind
  refine ⟨hs.dom, hs.defers, hs.size, hs.slots, fun i' o ho hn => ?_, hs.inj, fun b' i' hb' => ?_, ⟨hs.wf.live, hs.wf.fr, fun i' o ho s hsm t htm => ?_⟩⟩
  ·simp only [St.setPos] at ho
   by_cases hi : id = i'
   ·subst hi
    rw [List.getElem?_set_self hlt] at ho
    cases ho
    refine .inl ⟨b, hb, c, e, hh, by grind, fun j s hj => ?_⟩
    by_cases hij : i = j
    ·subst hij
     rw [List.getElem?_set_self hp] at hj
     cases hj
     exact ⟨v, hci, hone, hrc⟩
    ·rw [List.getElem?_set_ne hij] at hj
     exact r3 j s hj
   ·rw [List.getElem?_set_ne hi] at ho
    exact hs.objs i' o ho hn
  ·simp only [St.setPos]
   obtain ⟨o, ho, hne⟩ := hs.ids b' i' hb'
   grind
  ·simp only [St.setPos] at ho
   by_cases hi : id = i'
   ·subst hi
    rw [List.getElem?_set_self hlt] at ho
    cases ho
    simp only [AObj.cells] at hsm
    rcases List.mem_or_eq_of_mem_set hsm with h | h
    ·obtain ⟨o, ho, _⟩ := hs.ids b id hb
     have hcells : qh st.os id = o.cells := by simp [qh, ho]
     exact hs.wf.os id o ho s (by grind) t htm
    grind
   ·rw [List.getElem?_set_ne hi] at ho
    exact hs.wf.os i' o ho s hsm t htm
theorem qkl {b : Nat} {r : Role} (hb : (∃ t, g b = .uni t) ∨ ∃ id, g b = .obj id ∧ k0 ≤ id) : ∀ k, g k = .out → g.at b r k = .out := fun k hk => by
 rw [Ghost.at_ne g _ (by grind)]
 exact hk
theorem G.role (hG : G g0 w0 g w) (h0 : ∀ b id, g0 b = .obj id → id < k0) {b : Nat} {r : Role} (hb : (∃ t, g b = .uni t) ∨ ∃ id, g b = .obj id ∧ k0 ≤ id) : G g0 w0 (g.at b r) w := by
 have key : ∀ k, k ≠ b → g.at b r k = g k := fun k hk => Ghost.at_ne g _ hk
 refine ⟨hG.os, hG.tape, hG.output, hG.size, fun k hk h => ?_, fun k n hk h => ?_, fun k n t hk h => ?_, fun k id hk h => ?_⟩
 ·obtain ⟨q1, q2⟩ := hG.out k hk h
  grind
 ·obtain ⟨q1, q2⟩ := hG.rowN k n hk h
  grind
 ·obtain ⟨n', o', q1, q2⟩ := hG.rowS k n t hk h
  grind
 ·obtain ⟨q1, q2⟩ := hG.obj k id hk h
  grind
theorem qne {t b : Nat} {r : Role} (hb : g b = .uni t) : RowsKept g w (g.at b r) w := fun k n o hg => ⟨n, o, by rw [Ghost.at_ne g _ (by grind)]; exact hg, Nat.le_refl _, fun _ _ _ h => h⟩
theorem qav {t : Nat} {b : Nat} {r : Role} {live : List Nat} (hb : g b = .uni t) {v : Value} {s : ASlot} (h : RC g w live v s) : RC (g.at b r) w (live.filter fun u => !(u == t)) v s := by
 have key : ∀ k, k ≠ b → g.at b r k = g k := fun k hk => Ghost.at_ne g _ hk
 have hrk : RowsKept g w (g.at b r) w := by
  intro k n o hk
  grind
 have hob : ∀ k id, g k = .obj id → g.at b r k = .obj id ∧ qc2 w k ≤ qc2 w k := by
  grind
 have hrv : ∀ {v : Value} {d : D}, RV g w v d → RV (g.at b r) w v d := fun h => h.mono hrk hob
 cases s with
 | d x => exact hrv h
 | own t' es rows =>
  refine ⟨hrv h.1, fun hl => ?_⟩
  rcases h.2 (List.mem_filter.1 hl).1 with hf | ⟨c, cap, cur, e, h1, h2, h3⟩
  ·exact .inl hf
  ·refine .inr ⟨c, cap, cur, e, h1, ?_, h3⟩
   grind
 | uni t' es rows =>
  refine ⟨h.1, fun hl => (h.2 (List.mem_filter.1 hl).1).mono (fun k hk => ⟨?_, rfl⟩) (fun _ _ => hrv)⟩
  grind
 | full es rows => exact ⟨hrv h.1, h.2⟩
 | rd cells =>
  obtain ⟨c, off, n, o, f, rfl, hg, hn, hc⟩ := h
  obtain ⟨n', o', hg', hnn, hcell⟩ := hrk c n o hg
  refine ⟨c, off, n', o', f, rfl, hg', by omega, fun j d hj => ?_⟩
  grind
 | tup l => exact h.elim
 | bad => trivial
theorem q5k {live live' : List Nat} {f : ASlot → ASlot} (hf : ∀ {v : Value} {s : ASlot}, RC g w live v s → RC g' w live' v (f s)) (htup : ∀ l, f (.tup l) = .tup l ∨ f (.tup l) = .bad) (hid : ∀ l, f (.tup l) = .tup l → ∀ s ∈ l, ∀ v, RC g w live v s → RC g' w live' v s)
  {v : Value} {s : ASlot} (h : RS g w live v s) : RS g' w live' v (f s) := by
 by_cases ht : ∃ l, s = .tup l
 ·obtain ⟨l, rfl⟩ := ht
  rcases htup l with h1 | h1
  ·rw [h1]
   obtain ⟨vs, q1, q2, q3⟩ := h
   exact ⟨vs, q1, q2, fun i u s hu hs => hid l h1 s (List.mem_of_getElem? hs) u (q3 i u s hu hs)⟩
  ·rw [h1]; trivial
 grind [je, qas]
theorem SR.uniRole (hs : SR N T g w st a) {t b : Nat} {r : Role} (hb : g b = .uni t) (hr : ∀ id, r ≠ .obj id) : SR N T (g.at b r) w { st with live := st.live.filter fun u => !(u == t) } a := by
 have key : ∀ k, k ≠ b → g.at b r k = g k := fun k hk => Ghost.at_ne g _ hk
 have back : ∀ k id, g.at b r k = .obj id → g k = .obj id := by
  grind [id, Ghost.at_same]
 refine ⟨⟨fun k hk => ?_, hs.dom.2.ghost fun k n hk => by rw [key k (by rintro rfl; rw [hb] at hk; cases hk)]; exact hk⟩, hs.defers, hs.size, fun k v s hk => ?_, fun i o ho hn => ?_, fun k k' i hk hk' => hs.inj k k' i (back k i hk) (back k' i hk'), fun k i hk => hs.ids k i (back k i hk), ⟨fun u hu => hs.wf.live u (List.mem_filter.1 hu).1, hs.wf.fr, hs.wf.os⟩⟩
 ·have hne : k ≠ b := by rintro rfl; rw [hs.dom.1 k hk] at hb; cases hb
  rw [key k hne]; exact hs.dom.1 k hk
 ·obtain ⟨h1, h2⟩ := hs.slots k v s hk
  exact ⟨fun hv => q5k (f := id) (qav hb) (fun l => .inl rfl) (fun l _ s _ v h => qav hb h) (h1 hv), h2⟩
 ·rcases hs.objs i o ho hn with ⟨c, hc, hro⟩ | ⟨hv, hno⟩
  case inr => exact .inr ⟨hv, fun k hk => hno k (back k i hk)⟩
  refine .inl ⟨c, by grind, ?_⟩
  cases o with
  | none => grind
  | row cs =>
   obtain ⟨cc, e, q1, q2, q3⟩ := hro
   exact ⟨cc, e, q1, q2, fun j s hj => by grind [qav]⟩
  | map es clock => exact MapIs.mono hro (qne hb) rfl
  | iter m since seen last => exact IterIs.mono (R := fun v => RC g w st.live v m) (R' := fun v => RC _ w (st.live.filter fun u => !(u == t)) v m) hro rfl (fun o hv => qav hb hv)
theorem qvq {live : List Nat} {t : Nat} {v : Value} {s : ASlot} (h : RC g w live v s) : RC g w (live.filter fun u => !(u == t)) v s := by
 cases s with
 | own t' es rows => exact ⟨h.1, fun hl => h.2 (List.mem_filter.1 hl).1⟩
 | uni t' es rows => exact ⟨h.1, fun hl => h.2 (List.mem_filter.1 hl).1⟩
 | _ => exact h
theorem SR.less (hs : SR N T g w st a) (t : Nat) : SR N T g w { st with live := st.live.filter fun u => !(u == t) } a := by
 refine ⟨hs.dom, hs.defers, hs.size, fun k v s hk => ?_, fun i o ho hn => ?_, hs.inj, hs.ids, ⟨fun u hu => hs.wf.live u (List.mem_filter.1 hu).1, hs.wf.fr, hs.wf.os⟩⟩
 ·obtain ⟨h1, h2⟩ := hs.slots k v s hk
  exact ⟨fun hv => q5k (f := id) qvq (fun l => .inl rfl) (fun l _ s _ v h => qvq h) (h1 hv), h2⟩
 ·rcases hs.objs i o ho hn with ⟨c, hc, hro⟩ | hv
  case inr => exact .inr hv
  refine .inl ⟨c, hc, ?_⟩
  cases o with
  | none => grind
  | row cs =>
   obtain ⟨cc, e, q1, q2, q3⟩ := hro
   exact ⟨cc, e, q1, q2, fun j s hj => by obtain ⟨v, v1, v2, v3⟩ := q3 j s hj; simp_all [qvq]⟩
  | map es clock => exact hro
  | iter m since seen last => exact IterIs.mono (R := fun v => RC g w st.live v m) (R' := fun v => RC g w (st.live.filter fun u => !(u == t)) v m) hro rfl (fun o hv => qvq hv)
theorem SR.addObj (hs : SR N T g w st a) {t b : Nat} {cs : List ASlot} {cur : Array Value} {e : TypeId} (hb : g b = .uni t) (hh : w.heap[b]? = some (.cells cur e (0, 0))) (hl : cs.length ≤ cur.size)
  (hc : ∀ (i : Nat) (s : ASlot), cs[i]? = some s → ∃ u, cur[i]? = some u ∧ u.oneCell' = true ∧ RC g w st.live u s) (ht : ∀ s ∈ cs, s.toks = []) :
  SR N T (g.at b (.obj st.os.length)) w { st with os := st.os ++ [.row cs], live := st.live.filter fun u => !(u == t) } a := by
 have key : ∀ k, k ≠ b → g.at b (.obj st.os.length) k = g k := fun k hk => Ghost.at_ne g _ hk
 have hno : ∀ k, g k ≠ .obj st.os.length := by
  intro k hk
  obtain ⟨o, ho, _⟩ := hs.ids k _ hk
  grind
 have old : ∀ (i : Nat) (o : AObj), (st.os ++ [AObj.row cs])[i]? = some o → st.os[i]? = some o ∨ (i = st.os.length ∧ o = .row cs) := by
  grind
 refine ⟨⟨fun k hk => ?_, hs.dom.2.ghost fun k n hk => by rw [key k (by rintro rfl; rw [hb] at hk; cases hk)]; exact hk⟩, hs.defers, hs.size, fun k v s hk => ?_, fun i o ho hn => ?_, fun k k' i hk hk' => ?_, fun k i hk => ?_, ⟨fun u hu => hs.wf.live u (List.mem_filter.1 hu).1, hs.wf.fr, fun i o ho s hsm t htm => ?_⟩⟩
 ·have hne : k ≠ b := by grind
  rw [key k hne]; exact hs.dom.1 k hk
 ·obtain ⟨h1, h2⟩ := hs.slots k v s hk
  exact ⟨fun hv => q5k (f := id) (qav hb) (fun l => .inl rfl) (fun l _ s _ v h => qav hb h) (h1 hv), h2⟩
 ·rcases old i o ho with h | ⟨rfl, rfl⟩
  ·rcases hs.objs i o h hn with ⟨c, hc', hro⟩ | ⟨hv, hno'⟩
   case inr =>
    refine .inr ⟨hv, fun k hk => ?_⟩
    grind [Ghost.at_same, List.getElem?_eq_some_iff]
   refine .inl ⟨c, by grind, ?_⟩
   cases o with
   | none => grind
   | row cs' =>
    obtain ⟨cc, e', q1, q2, q3⟩ := hro
    exact ⟨cc, e', q1, q2, fun j s hj => by grind [qav]⟩
   | map es clock => exact MapIs.mono hro (qne hb) rfl
   | iter m since seen last => exact IterIs.mono (R := fun v => RC g w st.live v m) (R' := fun v => RC _ w (st.live.filter fun u => !(u == t)) v m) hro rfl (fun o hv => qav hb hv)
  ·refine .inl ⟨b, Ghost.at_same _ _ _, cur, e, hh, hl, fun j s hj => ?_⟩
   grind [qav]
 ·by_cases h1 : k = b <;> by_cases h2 : k' = b
  ·omega
  ·grind [Ghost.at_same]
  ·grind [Ghost.at_same]
  ·rw [key k h1] at hk; rw [key k' h2] at hk'
   exact hs.inj k k' i hk hk'
 ·by_cases h1 : k = b
  ·simp_all [Ghost.at_same]
  ·rw [key k h1] at hk
   obtain ⟨o, ho, hne⟩ := hs.ids k i hk
   grind
 ·rcases old i o ho with h | ⟨rfl, rfl⟩
  ·exact hs.wf.os i o h s hsm t htm
  ·rw [ht s hsm] at htm; cases htm
theorem SR.addVoid (hs : SR N T g w st a) : SR N T g w { st with os := st.os ++ [.row []] } a := by
 have old : ∀ (i : Nat) (o : AObj), (st.os ++ [AObj.row []])[i]? = some o → st.os[i]? = some o ∨ (i = st.os.length ∧ o = .row []) := by
  grind
 refine ⟨hs.dom, hs.defers, hs.size, hs.slots, fun i o ho hn => ?_, hs.inj, fun k i hk => ?_, ⟨hs.wf.live, hs.wf.fr, fun i o ho s hsm t htm => ?_⟩⟩
 ·rcases old i o ho with h | ⟨rfl, rfl⟩
  ·exact hs.objs i o h hn
  ·refine .inr ⟨rfl, fun b hb => ?_⟩
   obtain ⟨o, ho, _⟩ := hs.ids b _ hb
   grind
 ·obtain ⟨o, ho, hne⟩ := hs.ids k i hk
  grind
 ·rcases old i o ho with h | ⟨rfl, rfl⟩
  ·exact hs.wf.os i o h s hsm t htm
  ·cases hsm
structure DropG (g : Ghost) (w : World) (id : Nat) (g' : Ghost) : Prop where
 dom : Dom g' w
 row : ∀ k n o, g k = .row n o → g' k = .row n o
 uni : ∀ k t, g k = .uni t → g' k = .uni t
 obj : ∀ k i, i ≠ id → g k = .obj i → g' k = .obj i
 back : ∀ k i, g' k = .obj i → g k = .obj i ∧ i ≠ id
theorem DropG.kept {id : Nat} (hD : DropG g w id g') : RowsKept g w g' w := fun _ n o hg => ⟨n, o, hD.row _ n o hg, Nat.le_refl _, fun _ _ _ h => h⟩
theorem qjb (hs : SR N T g w st a) {id b : Nat} {r : Role} (hb : g b = .obj id) (hr : ∀ i, r ≠ .obj i) : DropG g w id (g.at b r) := by
 have key : ∀ k, k ≠ b → g.at b r k = g k := fun k hk => Ghost.at_ne g _ hk
 refine ⟨⟨fun k hk => ?_, hs.dom.2.ghost fun k n hk => by rw [key k (by rintro rfl; rw [hb] at hk; cases hk)]; exact hk⟩, fun k n o hk => ?_, fun k t hk => ?_, fun k i hi hk => ?_, fun k i hk => ?_⟩
 ·have hne : k ≠ b := by rintro rfl; rw [hs.dom.1 k hk] at hb; cases hb
  rw [key k hne]; exact hs.dom.1 k hk
 ·grind
 ·grind
 ·grind
 ·by_cases he : k = b
  ·grind [Ghost.at_same]
  ·rw [key k he] at hk
   exact ⟨hk, by rintro rfl; exact he (hs.inj k b i hk hb)⟩
theorem qtj (hs : SR N T g w st a) {id : Nat} (hb : ∀ b, g b ≠ .obj id) : DropG g w id g :=
 ⟨hs.dom, fun _ _ _ h => h, fun _ _ h => h, fun _ _ _ h => h, fun k i hk => ⟨hk, by grind⟩⟩
theorem DropG.rowsKept {id : Nat} (hD : DropG g w id g') : RowsKept g w g' w := fun b n o h => ⟨n, o, hD.row b n o h, Nat.le_refl _, fun _ _ _ h => h⟩
theorem DropG.rv {id : Nat} (hD : DropG g w id g') {v : Value} {d : D} (h : RV g w v d) (hk : d.okW (neId id) = true) : RV g' w v d :=
 h.okW hD.rowsKept (fun b i hi hb => ⟨hD.obj b i (by rintro rfl; grind [neId]) hb, Nat.le_refl _⟩) hk
theorem DropG.rc {id : Nat} (hD : DropG g w id g') {live : List Nat} {v : Value} {s : ASlot} (h : RC g w live v s) (hk : s.okS (neId id) = true) : RC g' w live v s := by
 have slok : ∀ {es : Nat} {rows : List (List D)}, D.okWR (neId id) rows = true → (D.sl es rows).okW (neId id) = true := fun h => by grind [D.okW]
 cases s with
 | d x => exact hD.rv h hk
 | own t es rows =>
  refine ⟨hD.rv h.1 (slok hk), fun hl => ?_⟩
  rcases h.2 hl with hf | ⟨c, cap, cur, e, h1, h2, h3⟩
  ·exact .inl hf
  ·exact .inr ⟨c, cap, cur, e, h1, hD.row _ _ _ h2, h3⟩
 | uni t es rows =>
  refine ⟨h.1, fun hl => ?_⟩
  rcases h.2 hl with hf | ⟨c, cap, cur, e, h1, h2, h3, h4, h5, h6, h7, h8⟩
  ·exact .inl hf
  ·refine .inr ⟨c, cap, cur, e, h1, hD.uni _ _ h2, h3, h4, h5, h6, h7, fun j d hj => ?_⟩
   obtain ⟨c1, u, c2, c3⟩ := h8 j d hj
   exact ⟨c1, u, c2, hD.rv c3 ((D.okWR_iff _ rows).1 hk d (List.mem_of_getElem? hj))⟩
 | full es rows => exact ⟨hD.rv h.1 (slok hk), h.2⟩
 | rd cells =>
  obtain ⟨c, off, n, o, f, rfl, hg, hn, hc⟩ := h
  refine ⟨c, off, n, o, f, rfl, hD.row _ _ _ hg, hn, fun j d hj => ?_⟩
  obtain ⟨c1, c2, c3⟩ := hc j d hj
  exact ⟨c1, c2, hD.rv c3 ((D.okWL_iff _ cells).1 hk d (List.mem_of_getElem? hj))⟩
 | tup l => exact h.elim
 | bad => trivial
structure MapOk (g : Ghost) (w : World) (live : List Nat) (g' : Ghost) (f : ASlot → ASlot) : Prop where
 rc : ∀ {v : Value} {s : ASlot}, RC g w live v s → RC g' w live v (f s)
 tup : ∀ l, f (.tup l) = .tup l ∨ f (.tup l) = .bad
 id : ∀ l, f (.tup l) = .tup l → ∀ s ∈ l, ∀ v, RC g w live v s → RC g' w live v s
 toks : ∀ s, ∀ t ∈ (f s).toks, t ∈ s.toks
theorem qp5 {f : AObj → AObj} {os : List AObj} {id i : Nat} {o : AObj} (h : ((os.map f).set id .none)[i]? = some o) : (i = id ∧ o = .none) ∨ (i ≠ id ∧ ∃ o', os[i]? = some o' ∧ o = f o') := by
 grind
theorem SR.dropMap (hs : SR N T g w st a) {id : Nat} (hD : DropG g w id g') {f : ASlot → ASlot} (hf : MapOk g w st.live g' f) :
  SR N T g' w { fr := Fr.mapS f st.fr, os := (st.os.map (AObj.mapS f)).set id .none, live := st.live, nt := st.nt } a := by
 refine ⟨hD.dom, hs.defers, hs.size, fun k v s hk => ?_, fun i o ho hn => ?_, fun k k' i hk hk' => hs.inj k k' i (hD.back k i hk).1 (hD.back k' i hk').1, fun k i hk => ?_, ⟨hs.wf.live, fun k s hk t ht => ?_, fun i o ho s hsm t ht => ?_⟩⟩
 ·simp only [qkk, Option.map_eq_some_iff] at hk
  obtain ⟨⟨v', s'⟩, h1, h2⟩ := hk
  simp only [Prod.mk.injEq] at h2
  obtain ⟨rfl, rfl⟩ := h2
  obtain ⟨q1, q2⟩ := hs.slots k v' s' h1
  exact ⟨fun hv => q5k hf.rc hf.tup hf.id (q1 hv), q2⟩
 ·rcases qp5 ho with ⟨rfl, rfl⟩ | ⟨hi, o', h1, rfl⟩
  ·grind
  ·cases o' with
   | none => exact (hn rfl).elim
   | row cs =>
    rcases hs.objs i _ h1 (by simp) with ⟨c, hc, cc, e, q1, q2, q3⟩ | ⟨hv, hno⟩
    case inr =>
     have : cs = [] := by grind
     subst this
     exact .inr ⟨rfl, fun k hk => hno k (hD.back k i hk).1⟩
    refine .inl ⟨c, hD.obj c i hi hc, cc, e, q1, by grind, fun j s hj => ?_⟩
    rw [List.getElem?_map, Option.map_eq_some_iff] at hj
    obtain ⟨s0, h0, rfl⟩ := hj
    obtain ⟨v, v1, v2, v3⟩ := q3 j s0 h0
    exact ⟨v, v1, v2, hf.rc v3⟩
   | map es c =>
    rcases hs.objs i _ h1 (by simp) with ⟨b, hb, hro⟩ | ⟨hv, _⟩
    ·exact .inl ⟨b, hD.obj b i hi hb, MapIs.mono hro hD.kept rfl⟩
    grind
   | iter m since seen last =>
    rcases hs.objs i _ h1 (by simp) with ⟨b, hb, hro⟩ | ⟨hv, _⟩
    ·exact .inl ⟨b, hD.obj b i hi hb, IterIs.mono (R := fun v => RC g w st.live v m) (R' := fun v => RC g' w st.live v (f m)) hro rfl (fun o hv => hf.rc hv)⟩
    grind
 ·obtain ⟨h1, h2⟩ := hD.back k i hk
  obtain ⟨o, ho, hne⟩ := hs.ids k i h1
  refine ⟨AObj.mapS f o, ?_, ?_⟩
  ·grind
  ·cases o with
   | none => grind
   | _ => simp [AObj.mapS]
 ·simp only [qkk, Option.map_eq_some_iff] at hk
  obtain ⟨⟨v', s'⟩, h1, h2⟩ := hk
  simp only [Prod.mk.injEq] at h2
  obtain ⟨rfl, rfl⟩ := h2
  exact hs.wf.fr k s' h1 t (hf.toks s' t ht)
 ·rcases qp5 ho with ⟨rfl, rfl⟩ | ⟨hi, o', h1, rfl⟩
  ·cases hsm
  ·cases o' with
   | none => cases hsm
   | row cs =>
    simp only [AObj.mapS, AObj.cells, List.mem_map] at hsm
    obtain ⟨s0, h0, rfl⟩ := hsm
    exact hs.wf.os i _ h1 s0 h0 t (hf.toks s0 t ht)
   | _ => cases hsm
theorem qyy (keep : Nat → Bool) (s : ASlot) : ∀ t ∈ (s.only keep).toks, t ∈ s.toks := by
 intro t ht
 unfold ASlot.only at ht
 split at ht
 ·exact ht
 ·cases ht
theorem q5l {id : Nat} (hD : DropG g w id g') (live : List Nat) : MapOk g w live g' (ASlot.only (neId id)) := by
 refine ⟨fun {v s} h => ?_, fun l => ?_, fun l hl s hs v h => ?_, qyy _⟩
 ·unfold ASlot.only
  split
  ·rename_i hk; exact hD.rc h hk
  ·trivial
 ·unfold ASlot.only; simp
 ·unfold ASlot.only at hl
  split at hl
  ·rename_i hk
   simp only [ASlot.okS, List.all_eq_true] at hk
   have := hk s hs
   refine hD.rc h ?_
   cases s with
   | tup l' => exact h.elim
   | bad => rfl
   | _ => exact this
  grind
theorem xk9 {id es : Nat} {rows : List (List D)} (hD : DropG g w id g') (hsl : ∀ v, RV g w v (.ref id 0 es rows.length) → RV g' w v (.sl es rows)) {v : Value} {d : D} (h : RV g w v d) (hk : (d.frz id es rows).okW (neId id) = true) :
  RV g' w v (d.frz id es rows) := by
 cases d with
 | ref i off e n =>
  simp only [D.frz] at hk ⊢
  split
  ·grind
  ·rename_i hc
   rw [if_neg hc] at hk
   exact hD.rv h hk
 | _ => exact hD.rv h hk
theorem q77 {id es : Nat} {rows : List (List D)} (d : D) : (d.frz id es rows).isCell = d.isCell := by
 cases d <;> first | rfl | (simp only [D.frz]; split <;> rfl)
theorem xbi {id es : Nat} {rows : List (List D)} (hD : DropG g w id g') (hsl : ∀ v, RV g w v (.ref id 0 es rows.length) → RV g' w v (.sl es rows)) (live : List Nat) : MapOk g w live g' (fun s => (s.frz id es rows).only (neId id)) := by
 have ho := q5l hD live
 refine ⟨fun {v s} h => ?_, fun l => ho.tup l, fun l hl => ho.id l hl, fun s t ht => ?_⟩
 ·unfold ASlot.only
  split
  ·rename_i hk
   cases s with
   | d x =>
    cases x with
    | agg cs =>
     simp only [ASlot.frz, ASlot.okS, D.okW, D.okWL_iff] at hk
     obtain ⟨vs, rfl, h1, h2, h3⟩ := qdp (show RV g w v (.agg cs) from h)
     refine RV.agg vs (cs.map (D.frz id es rows)) (by grind) (fun d hd => ?_) (fun j v d hv hd => ?_)
     ·obtain ⟨d0, h0, rfl⟩ := List.mem_map.1 hd
      grind [q77]
     ·rw [List.getElem?_map, Option.map_eq_some_iff] at hd
      obtain ⟨d0, h0, rfl⟩ := hd
      exact xk9 hD hsl (h3 j v d0 hv h0) (hk _ (List.mem_map.2 ⟨d0, List.mem_of_getElem? h0, rfl⟩))
    | _ => exact xk9 hD hsl h hk
   | _ => exact hD.rc h hk
  ·trivial
 ·have := qyy _ _ t ht
  cases s with
  | d x => cases x <;> simp [ASlot.frz, ASlot.toks] at this
  | _ => exact this
theorem SR.more (hs : SR N T g w st a) {t : Nat} (hT : ∀ u, T u → u ≠ t) (hTT : ∀ u, T u → T' u) (ht : T' t) (n : Nat) : SR N T' g w { st with live := st.live ++ [t], nt := n } a := by
 have rc : ∀ {v : Value} {s : ASlot}, RC g w st.live v s → (∀ u ∈ s.toks, T u) → RC g w (st.live ++ [t]) v s := by
  intro v s h hT'
  cases s with
  | own t' es rows =>
   refine ⟨h.1, fun hl => h.2 ?_⟩
   grind [ASlot.toks]
  | uni t' es rows =>
   refine ⟨h.1, fun hl => h.2 ?_⟩
   grind [ASlot.toks]
  | _ => exact h
 refine ⟨hs.dom, hs.defers, hs.size, fun k v s hk => ?_, fun i o ho hn => ?_, hs.inj, hs.ids, ⟨fun u hu => ?_, fun k s hk u hu => hTT u (hs.wf.fr k s hk u hu), fun i o ho s hsm u hu => hTT u (hs.wf.os i o ho s hsm u hu)⟩⟩
 ·obtain ⟨h1, h2⟩ := hs.slots k v s hk
  refine ⟨fun hv => ?_, h2⟩
  have hw : ∀ u ∈ s.toks, T u := by subst hv; exact hs.wf.fr k s hk
  have hr := h1 hv
  by_cases ht : ∃ l, s = .tup l
  ·obtain ⟨l, rfl⟩ := ht
   obtain ⟨vs, q1, q2, q3⟩ := hr
   refine ⟨vs, q1, q2, fun i u s' hu hs' => ?_⟩
   have hrc := q3 i u s' hu hs'
   refine rc hrc (fun x hx => hw x ?_)
   simp only [ASlot.toks, List.mem_flatMap]
   refine ⟨s', List.mem_of_getElem? hs', ?_⟩
   cases s' with
   | tup l' => exact hrc.elim
   | _ => exact hx
  grind [je, qas]
 ·rcases hs.objs i o ho hn with ⟨b, hb, hr⟩ | hv
  case inr => exact .inr hv
  refine .inl ⟨b, hb, ?_⟩
  cases o with
  | none => grind
  | row cs =>
   obtain ⟨c, e, q1, q2, q3⟩ := hr
   exact ⟨c, e, q1, q2, fun j s hj => by
    obtain ⟨v, v1, v2, v3⟩ := q3 j s hj
    exact ⟨v, v1, v2, rc v3 (hs.wf.os i _ ho s (List.mem_of_getElem? hj))⟩⟩
  | map es clock => exact hr
  | iter m since seen last => exact IterIs.mono (R := fun v => RC g w st.live v m) (R' := fun v => RC g w _ v m) hr rfl (fun o hv => rc hv (by grind [qpe]))
 ·rcases List.mem_append.1 hu with h | h
  ·exact hTT u (hs.wf.live u h)
  grind
theorem qjc (st : St) (s : ASlot) (p : Pos) : (st.setPos s p).live = st.live ∧ (st.setPos s p).nt = st.nt := by cases p <;> exact ⟨rfl, rfl⟩
theorem qnf {os : List AObj} {o : AObj} {id : Nat} (h : id < os.length) : qh (os ++ [o]) id = qh os id := by
 grind [qh, List.getElem?_append_left]
theorem q2y {os : List AObj} {id i : Nat} (h : i < (qh os id).length) : id < os.length := by
 grind [id, qh, List.getElem?_eq_none]
theorem xgk (hs : SR N T g w st a) (hG : G g0 w0 g w) (h0 : ∀ b id, g0 b = .obj id → id < k0) {p : Pos} {t es : Nat} {rows : List (List D)} (hp : st.slotAt p = .uni t es rows) (ht : t ∈ st.live) :
  ∃ g', SR N T g' w (st.u2o p t es rows) a ∧ G g0 w0 g' w ∧ ∀ b, g b = .out → g' b = .out := by
 obtain ⟨v, hat, hrc, hpos⟩ := qhl hs hp (by simp) (by simp)
 rcases hrc.2 ht with ⟨ad, rfl, rfl⟩ | ⟨b, cap, cur, e, rfl, h2, h3, h4, h5, h6, h7, h8⟩
 ·have h1 := qhm (s' := .d (.ref st.os.length 0 es 0)) hs hat hpos (RV.refnil ad _ 0 es) (by simp [ASlot.toks])
  have h2 := h1.addVoid.less t
  refine ⟨g, ?_, hG, fun _ h => h⟩
  have hl := (qjc st (.d (.ref st.os.length 0 es 0)) p).1
  simp only [hl] at h2
  exact h2
 ·have hfl : rows.flatten.length = rows.length * es := xf h7
  have hcs : (rows.flatten.map ASlot.d).length ≤ cur.size := by
   rw [List.length_map, hfl]
   have := Nat.mul_le_mul_right es h4
   omega
  have h1 := hs.addObj (cs := rows.flatten.map .d) h2 h3 hcs (fun i s hi => by
   simp only [List.getElem?_map, Option.map_eq_some_iff] at hi
   obtain ⟨d, hd, rfl⟩ := hi
   obtain ⟨c1, u, c2, c3⟩ := h8 i d hd
   exact ⟨u, c2, c3.oneCell c1, c3⟩) (fun s hsm => by obtain ⟨d, _, rfl⟩ := List.mem_map.1 hsm; rfl)
  have hrv : RV (g.at b (.obj st.os.length)) w (.slice (some ⟨b, 0, none⟩) rows.length cap) (.ref st.os.length 0 es rows.length) :=
   .ref b 0 _ es _ cap (Ghost.at_same _ _ _) h4 h5 (by grind [vi])
  refine ⟨g.at b (.obj st.os.length), ?_, hG.role h0 (.inl ⟨t, h2⟩), qkl (k0 := k0) (.inl ⟨t, h2⟩)⟩
  cases p with
  | fr k => exact qhm (p := .fr k) (s' := .d (.ref st.os.length 0 es rows.length)) h1 hat trivial hrv (by simp [ASlot.toks])
  | cell id i =>
   have hpos : i < (qh st.os id).length := hpos
   have hlt := q2y hpos
   obtain ⟨b', c', e', q1, q2⟩ := hat
   have hat' : At (g.at b (.obj st.os.length)) w a (.cell id i) (.slice (some ⟨b, 0, none⟩) rows.length cap) :=
    ⟨b', c', e', by rw [Ghost.at_ne g _ (by grind)]; exact q1, q2⟩
   have h9 := qhm (p := .cell id i) (s' := .d (.ref st.os.length 0 es rows.length)) h1 hat' (by show i < (qh (st.os ++ [_]) id).length; grind [qnf]) hrv (by simp [ASlot.toks])
   simp only [St.setPos, qnf hlt, List.set_append_left _ _ hlt] at h9
   exact h9
theorem q78 (hs : SR N (below st.nt) g w st a) (hG : G g0 w0 g w) (h0 : ∀ b id, g0 b = .obj id → id < k0) {p : Pos} {t es : Nat} {rows : List (List D)} (hp : st.slotAt p = .uni t es rows) (ht : t ∈ st.live) :
  ∃ g', SR N (below (st.nt + 1)) g' w (st.u2own p t es rows) a ∧ G g0 w0 g' w ∧ ∀ b, g b = .out → g' b = .out := by
 obtain ⟨v, hat, hrc, hpos⟩ := qhl hs hp (by simp) (by simp)
 have fr1 : ∀ u, below st.nt u → u ≠ 16 * st.nt := fun u hu => by grind [below]
 have fr2 : ∀ u, below st.nt u → below (st.nt + 1) u := fun u hu => by grind [below]
 have fr3 : below (st.nt + 1) (16 * st.nt) := by grind [below]
 have fin : ∀ {g1 : Ghost}, SR N (below st.nt) g1 w { st with live := st.live.filter fun u => !(u == t) } a → At g1 w a p v → RC g1 w ((st.live.filter fun u => !(u == t)) ++ [16 * st.nt]) v (.own (16 * st.nt) es rows) →
   SR N (below (st.nt + 1)) g1 w (st.u2own p t es rows) a := by
  intro g1 h1 h2 h3
  have h4 := h1.more fr1 fr2 fr3 (st.nt + 1)
  have h5 := qhm (s' := .own (16 * st.nt) es rows) h4 h2 (by cases p <;> exact hpos) h3 (by grind [ASlot.toks])
  cases p <;> exact h5
 rcases hrc.2 ht with ⟨ad, rfl, rfl⟩ | ⟨b, cap, cur, e, rfl, h2, h3, h4, h5, h6, h7, h8⟩
 ·exact ⟨g, fin (hs.less t) hat ⟨.nilsl ad 0 es (fun _ => rfl), fun _ => .inl ⟨ad, rfl⟩⟩, hG, fun _ h => h⟩
 ·have hfl : rows.flatten.length = rows.length * es := xf h7
  have h1 := hs.uniRole (r := .row (rows.length * es) (some (16 * st.nt))) h2 (by simp)
  have hob : ∀ k i, g k = .obj i → g.at b (.row (rows.length * es) (some (16 * st.nt))) k = .obj i ∧ qc2 w k ≤ qc2 w k := fun k i hk => ⟨by rw [Ghost.at_ne g _ (by grind)]; exact hk, Nat.le_refl _⟩
  have hrk : RowsKept g w (g.at b (.row (rows.length * es) (some (16 * st.nt)))) w := fun k n o hk => ⟨n, o, by rw [Ghost.at_ne g _ (by grind)]; exact hk, Nat.le_refl _, fun _ _ _ h => h⟩
  refine ⟨_, fin h1 ?_ ⟨?_, fun _ => .inr ⟨b, cap, cur, e, rfl, Ghost.at_same _ _ _, h3, h4, h5, h6⟩⟩, hG.role h0 (.inl ⟨t, h2⟩), qkl (k0 := k0) (.inl ⟨t, h2⟩)⟩
  ·cases p with
   | fr k => exact hat
   | cell id i =>
    obtain ⟨b', c', e', q1, q2⟩ := hat
    exact ⟨b', c', e', (hob b' id q1).1, q2⟩
  ·refine qfv (vs := (List.range rows.flatten.length).map fun j => cur.getD j undef) h3 (Ghost.at_same _ _ _) (Nat.le_of_eq hfl) h7 h4 ⟨by simp, fun d hd => ?_, fun j v d hv hd => ?_⟩ (fun j u hj => ?_)
   ·grind [List.getElem?_of_mem]
   ·obtain ⟨_, u, c2, c3⟩ := h8 j d hd
    have hlt : j < rows.flatten.length := (List.getElem?_eq_some_iff.1 hd).1
    rw [List.getElem?_map, List.getElem?_range hlt] at hv
    simp only [Option.map_some, Option.some.injEq] at hv
    have : cur.getD j undef = u := by simp_all
    rw [← hv, this]
    exact c3.mono hrk hob
   ·have hlt : j < rows.flatten.length := by grind
    obtain ⟨_, u', c2, _⟩ := h8 j _ (List.getElem?_eq_getElem hlt)
    rw [List.getElem?_map, List.getElem?_range hlt] at hj
    simp_all
theorem xgl (hs : SR N T g w st a) (hG : G g0 w0 g w) (h0 : ∀ b id, g0 b = .obj id → id < k0) {id es : Nat} {rows : List (List D)} (hc : (qh st.os id).map ASlot.cellD = rows.flatten) (hcc : (qh st.os id).all ASlot.isCellD = true)
  (hes : ∀ r ∈ rows, r.length = es) (hok : D.okWR (neId id) rows = true) (hk : k0 ≤ id) : ∃ g', SR N T g' w (st.frz id es rows) a ∧ G g0 w0 g' w ∧ ∀ b, g b = .out → g' b = .out := by
 have hlen : (qh st.os id).length = rows.flatten.length := by grind
 by_cases hb : ∃ b, g b = .obj id
 ·obtain ⟨b, hb⟩ := hb
  have hD := qjb (r := .row rows.flatten.length none) hs hb (by simp)
  refine ⟨_, hs.dropMap hD (xbi hD (fun v h => ?_) st.live), hG.role h0 (.inr ⟨id, hb, hk⟩), qkl (k0 := k0) (.inr ⟨id, hb, hk⟩)⟩
  generalize hy : D.ref id 0 es rows.length = y at h
  cases h with
  | ref b' off' id' es' len cap hg hcap hm hsz =>
   cases hy
   have : b' = b := hs.inj b' b id hg hb
   subst this
   by_cases h00 : rows.flatten = []
   ·exact .sl b' 0 cap es _ none rows (fun _ => undef) (Ghost.at_same _ _ _) (by omega) hcap hes (by grind) (by grind) (by grind)
   ·have hpos : 0 < rows.flatten.length := by
     grind
    obtain ⟨c, e, q1, q2, q3⟩ := qs6 hs hb (by omega)
    have cell : ∀ (j : Nat) (d : D), rows.flatten[j]? = some d → ∃ u, c[j]? = some u ∧ RV g w u d ∧ d.isCell = true := by
     intro j d hj
     rw [← hc, List.getElem?_map, Option.map_eq_some_iff] at hj
     obtain ⟨s, h1, rfl⟩ := hj
     grind [qu9, List.all_eq_true, List.mem_of_getElem?]
    refine .sl b' 0 cap es _ none rows (fun j => c.getD j undef) (Ghost.at_same _ _ _) (by omega) hcap hes (fun d hd => ?_) (fun j d hj => ?_) (fun j d hj => ?_)
    ·grind [List.getElem?_of_mem]
    ·obtain ⟨u, u1, _⟩ := cell j d hj
     simp_all [Nat.zero_add, World.cell?]
    ·obtain ⟨u, u1, u2, _⟩ := cell j d hj
     have : c.getD j undef = u := by simp_all
     rw [this]
     exact hD.rv u2 ((D.okWR_iff _ rows).1 hok d (List.mem_of_getElem? hj))
  | refnil ad id' off' es' =>
   simp only [D.ref.injEq] at hy
   have hr0 : rows = [] := List.eq_nil_of_length_eq_zero hy.2.2.2
   rw [hr0]
   exact .nilsl ad 0 _ (fun _ => rfl)
  | _ => cases hy
 ·have hb' : ∀ b, g b ≠ .obj id := fun b h => hb ⟨b, h⟩
  have hD := qtj hs hb'
  refine ⟨g, hs.dropMap hD (xbi hD (fun v h => ?_) st.live), hG, fun _ h => h⟩
  generalize hy : D.ref id 0 es rows.length = y at h
  cases h with
  | ref b' off' id' es' len cap hg hcap hm hsz => grind
  | refnil ad id' off' es' =>
   simp only [D.ref.injEq] at hy
   have hr0 : rows = [] := List.eq_nil_of_length_eq_zero hy.2.2.2
   rw [hr0]
   exact .nilsl ad 0 _ (fun _ => rfl)
  | _ => cases hy
theorem qn4 {f : ASlot → ASlot} {os : List AObj} {id i : Nat} (h : i ≠ id) : qh ((os.map (AObj.mapS f)).set id .none) i = (qh os i).map f := by
 unfold qh
 rw [List.getElem?_set_ne (fun h' => h h'.symm), List.getElem?_map]
 cases os[i]? with
 | none => rfl
 | some o => cases o <;> rfl
theorem xgm (hs : SR N (below st.nt) g w st a) (hG : G g0 w0 g w) (h0 : ∀ b id, g0 b = .obj id → id < k0) {p : Pos} {id es : Nat} {rows : List (List D)} (hp : st.slotAt p = .d (.ref id 0 es rows.length))
  (hrow : qgh st.os id = true) (hc : qh st.os id = rows.flatten.map .d) (hes : ∀ r ∈ rows, r.length = es) (hcl : ∀ d ∈ rows.flatten, d.isCell = true) (hok : D.okWR (neId id) rows = true) (hk : k0 ≤ id) (hn : p.notIn id) :
  ∃ g', SR N (below (st.nt + 1)) g' w (st.o2u p id es rows) a ∧ G g0 w0 g' w ∧ ∀ b, g b = .out → g' b = .out := by
 obtain ⟨v, hat, hrc, hpos⟩ := qhl hs hp (by simp) (by simp)
 have fr1 : ∀ u, below st.nt u → u ≠ 16 * st.nt := fun u hu => by grind [below]
 have fr2 : ∀ u, below st.nt u → below (st.nt + 1) u := fun u hu => by grind [below]
 have fr3 : below (st.nt + 1) (16 * st.nt) := by grind [below]
 have fin : ∀ {g1 : Ghost}, DropG g w id g1 → UniOk g1 w (16 * st.nt) es rows v → SR N (below (st.nt + 1)) g1 w (st.o2u p id es rows) a := by
  intro g1 hD h3
  have h1 := hs.dropMap hD (q5l hD st.live)
  have h4 := h1.more fr1 fr2 fr3 (st.nt + 1)
  have hhead : ∃ a c, v = .slice a rows.length c := by
   have hrc' : RV g w v (.ref id 0 es rows.length) := hrc
   generalize hy : D.ref id 0 es rows.length = y at hrc'
   cases hrc' <;> first | (grind) | cases hy
  have hat' : At g1 w a p v := by
   cases p with
   | fr k => exact hat
   | cell i j =>
    obtain ⟨b', c', e', q1, q2⟩ := hat
    exact ⟨b', c', e', hD.obj b' i hn q1, q2⟩
  refine qhm (s' := .uni (16 * st.nt) es rows) h4 hat' ?_ ⟨hhead, fun _ => h3⟩ (by grind [ASlot.toks])
  cases p with
  | fr k => trivial
  | cell i j =>
   have hpos : j < (qh st.os i).length := hpos
   show j < (qh ((st.os.map _).set id .none) i).length
   rw [qn4 hn, List.length_map]
   omega
 have hrv : RV g w v (.ref id 0 es rows.length) := hrc
 generalize hy : D.ref id 0 es rows.length = y at hrv
 cases hrv with
 | ref b off' id' es' len cap hg hcap hm hsz =>
  cases hy
  have hD := qjb (r := .uni (16 * st.nt)) hs hg (by simp)
  refine ⟨_, fin hD ?_, hG.role h0 (.inr ⟨id, hg, hk⟩), qkl (k0 := k0) (.inr ⟨id, hg, hk⟩)⟩
  ·obtain ⟨c, e, q1, q2, q3⟩ := qoh hs hg hrow
   rw [vi q1] at hsz
   refine .inr ⟨b, cap, c, e, rfl, Ghost.at_same _ _ _, q1, hcap, hm, by omega, hes, fun j d hj => ?_⟩
   obtain ⟨u, u1, _, u3⟩ := q3 j (.d d) (by grind)
   exact ⟨hcl d (List.mem_of_getElem? hj), u, u1, hD.rv u3 ((D.okWR_iff _ rows).1 hok d (List.mem_of_getElem? hj))⟩
 | refnil ad id' off' es' =>
  simp only [D.ref.injEq] at hy
  have hr0 : rows = [] := List.eq_nil_of_length_eq_zero hy.2.2.2
  subst hr0
  by_cases hb : ∃ b, g b = .obj id
  ·obtain ⟨b, hb⟩ := hb
   have hD := qjb (r := .uni (16 * st.nt)) hs hb (by simp)
   exact ⟨_, fin hD (.inl ⟨ad, rfl, rfl⟩), hG.role h0 (.inr ⟨id, hb, hk⟩), qkl (k0 := k0) (.inr ⟨id, hb, hk⟩)⟩
  ·have hD := qtj hs (fun b h => hb ⟨b, h⟩)
   exact ⟨g, fin hD (.inl ⟨ad, rfl, rfl⟩), hG, fun _ h => h⟩
 | _ => cases hy
theorem qyz {κ : List Nat} {os' : List AObj} : ∀ {ι : List Nat} {os : List AObj}, q76 κ os' ι os → ι.length = os.length ∧ ∀ (i : Nat) (o : AObj) (id : Nat), os[i]? = some o → ι[i]? = some id → os'[id]? = some (o.ren κ)
 | [], [], _ => by simp
 | id :: ι, o :: os, h => by
  obtain ⟨h1, h2⟩ := h
  obtain ⟨k1, k2⟩ := qyz h2
  refine ⟨by simp [k1], fun i x j hx hj => ?_⟩
  cases i with
  | zero => simp at hx hj; subst hx; subst hj; exact h1
  | succ i => exact k2 i x j (by simpa using hx) (by simpa using hj)
 | [], _ :: _, h => h.elim
 | _ :: _, [], h => h.elim
theorem xpu {g' : Ghost} {ι : List Nat} {live : List Nat} (hrv : ∀ {v : Value} {d : D}, RV g w v d → RV g' w v (d.ren ι)) (hrow : ∀ b n o, g b = .row n o → g' b = .row n o) (huni : ∀ b t, g b = .uni t → g' b = .uni t)
  {v : Value} {s : ASlot} (h : RC g w live v s) : RC g' w live v (s.ren1 ι) := by
 cases s with
 | d x => exact hrv h
 | own t es rows =>
  have hl : (D.renR ι rows).length = rows.length := by rw [D.renR_map, List.length_map]
  refine ⟨hrv h.1, fun hlv => ?_⟩
  unfold qxz
  rw [hl]
  rcases h.2 hlv with hf | ⟨b, cap, cur, e, q1, q2, q3⟩
  ·grind
  ·exact .inr ⟨b, cap, cur, e, q1, hrow _ _ _ q2, q3⟩
 | uni t es rows =>
  have hl : (D.renR ι rows).length = rows.length := by rw [D.renR_map, List.length_map]
  refine ⟨by rw [hl]; exact h.1, fun hlv => ?_⟩
  unfold UniOk
  rw [hl]
  rcases h.2 hlv with ⟨ad, h1, h2⟩ | ⟨b, cap, cur, e, h1, h2, h3, h4, h5, h6, h7, h8⟩
  ·grind
  ·refine .inr ⟨b, cap, cur, e, h1, huni _ _ h2, h3, h4, h5, h6, fun r hr => ?_, fun j d hj => ?_⟩
   ·rw [D.renR_map] at hr
    grind
   ·rw [qke, List.getElem?_map, Option.map_eq_some_iff] at hj
    obtain ⟨d', hd', rfl⟩ := hj
    grind [yz]
 | full es rows =>
  have hl : (D.renR ι rows).length = rows.length := by rw [D.renR_map, List.length_map]
  refine ⟨hrv h.1, ?_⟩
  rw [hl]; exact h.2
 | rd cs =>
  obtain ⟨b, off, n, o, f, rfl, hg, hn, hcc⟩ := h
  have hl : (D.renL ι cs).length = cs.length := by rw [D.renL_map, List.length_map]
  refine ⟨b, off, n, o, f, rfl, hrow _ _ _ hg, by omega, fun j d hj => ?_⟩
  rw [D.renL_map, List.getElem?_map, Option.map_eq_some_iff] at hj
  obtain ⟨d', hd', rfl⟩ := hj
  grind [yz]
 | tup l => exact h.elim
 | bad => trivial
theorem xgn {ι : List Nat} (h : ι ≠ []) (s : ASlot) : s.ren ι = match s with | .tup l => .tup (l.map (ASlot.ren1 ι)) | s => s.ren1 ι := by
 cases ι with
 | nil => grind
 | cons i ι => rfl
theorem xbj {α : Type} {l : List α} (hn : l.Nodup) {i j : Nat} (hi : i < l.length) (hj : j < l.length) (h : l[i] = l[j]) : i = j := by
 induction l generalizing i j with
 | nil => grind
 | cons x l ih =>
  grind
theorem xgo (hs : SR N T g w st a) (hG : G g0 w0 g w) (h0 : ∀ b id, g0 b = .obj id → id < k0) {ι : List Nat} {os' : List AObj} (hn : ι.Nodup) (hl : ι ≠ []) (hp : xgj k0 os'.length ι = true) (ho : q76 ι os' ι st.os) :
  ∃ g', SR N T g' w (st.renN ι os') a ∧ G g0 w0 g' w ∧ ∀ b, g b = .out → g' b = .out := by
 obtain ⟨r1, r2⟩ := qyz ho
 simp only [xgj, Bool.and_eq_true, List.all_eq_true, List.mem_range, List.contains_iff_mem, Bool.or_eq_true, Bool.not_eq_true', beq_iff_eq] at hp
 obtain ⟨⟨p1, p2⟩, p3⟩ := hp
 let g' : Ghost := fun b => match g b with | .obj id => .obj (ι.getD id 0) | r => r
 have go : ∀ b id, g b = .obj id → g' b = .obj (ι.getD id 0) := fun b id h => by grind
 have gout : ∀ b, g b = .out → g' b = .out := fun b h => by grind
 have grow : ∀ b n o, g b = .row n o → g' b = .row n o := fun b n o h => by grind
 have guni : ∀ b t, g b = .uni t → g' b = .uni t := fun b t h => by grind
 have gback : ∀ b j, g' b = .obj j → ∃ id, g b = .obj id ∧ j = ι.getD id 0 := fun b j h => by
  grind
 have hid : ∀ b id, g b = .obj id → ∃ o, st.os[id]? = some o ∧ o ≠ .none ∧ ι[id]? = some (ι.getD id 0) := fun b id h => by
  obtain ⟨o, h1, h2⟩ := hs.ids b id h
  grind
 have hrk : RowsKept g w g' w := fun b n o h => ⟨n, o, grow b n o h, Nat.le_refl _, fun _ _ _ h => h⟩
 have hrv : ∀ {v : Value} {d : D}, RV g w v d → RV g' w v (d.ren ι) := fun h => h.up hrk (fun b j hb => go b j hb)
 have rc : ∀ {v : Value} {s : ASlot}, RC g w st.live v s → RC g' w st.live v (s.ren1 ι) := fun h => xpu hrv grow guni h
 have hne : ∀ o : AObj, o ≠ .none → o.ren ι ≠ .none := fun o h => by cases o <;> simp [AObj.ren] at h ⊢
 have inj : ∀ i j : Nat, i < ι.length → j < ι.length → ι.getD i 0 = ι.getD j 0 → i = j := fun i j hi hj h => by
  grind [List.getElem?_eq_getElem, xbj]
 refine ⟨g', ⟨⟨fun b hb => gout b (hs.dom.1 b hb), hs.dom.2.ghost fun b n h => grow b n none h⟩, trivial, hs.size, fun k v s hk => ?_, fun j o' hj hno => ?_, fun b b' j h h' => ?_, fun b j h => ?_, ⟨hs.wf.live, fun k s hk t ht => ?_, fun j o' hj s hsm t ht => ?_⟩⟩, ?_, gout⟩
 ·simp only [St.renN, qkk, Option.map_eq_some_iff] at hk
  obtain ⟨⟨v', s0⟩, h1, h2⟩ := hk
  cases h2
  obtain ⟨q1, q2⟩ := hs.slots k _ s0 h1
  refine ⟨fun hv => ?_, q2⟩
  rw [xgn hl]
  have hrs := q1 hv
  cases s0 with
  | tup l =>
   obtain ⟨vs, e1, e2, e3⟩ := hrs
   refine ⟨vs, e1, by simp [e2], fun i u s hu hsl => ?_⟩
   rw [List.getElem?_map, Option.map_eq_some_iff] at hsl
   obtain ⟨s1, hs1, rfl⟩ := hsl
   exact rc (e3 i u s1 hu hs1)
  | _ => exact je (rc (qas hrs (by simp)))
 ·have hjl : j < os'.length := (List.getElem?_eq_some_iff.1 hj).1
  obtain ⟨i, hi⟩ := List.mem_iff_getElem?.1 (p1 j hjl)
  have hil : i < st.os.length := by grind
  have hoi := List.getElem?_eq_getElem hil
  have h1 := r2 i _ j hoi hi
  have hj' : os'[j]? = some o' := hj
  rw [hj'] at h1
  have h1 : o' = (st.os[i]).ren ι := by grind
  have hni : st.os[i] ≠ .none := fun he => hno (by rw [h1, he]; rfl)
  have hgi : ι.getD i 0 = j := by grind
  rcases hs.objs i _ hoi hni with ⟨b, hb, hro⟩ | ⟨hv, hno'⟩
  ·refine .inl ⟨b, by grind, ?_⟩
   rw [h1]
   generalize st.os[i] = o at hro
   cases o with
   | none => exact hro.elim
   | row cells =>
    obtain ⟨cc, e, q1, q2, q3⟩ := hro
    refine ⟨cc, e, q1, by grind, fun m s hm => ?_⟩
    rw [List.getElem?_map, Option.map_eq_some_iff] at hm
    obtain ⟨s0, hs0, rfl⟩ := hm
    obtain ⟨v, v1, v2, v3⟩ := q3 m s0 hs0
    exact ⟨v, v1, v2, rc v3⟩
   | map es clock => exact MapIs.mono hro hrk rfl
   | iter m since seen last => exact IterIs.mono (R := fun v => RC g w st.live v m) (R' := fun v => RC g' w st.live v (m.ren1 ι)) hro rfl (fun o hv => rc hv)
  ·refine .inr ⟨by rw [h1, hv]; rfl, fun b hb => ?_⟩
   grind
 ·obtain ⟨id, h1, h2⟩ := gback b j h
  obtain ⟨id', h3, h4⟩ := gback b' j h'
  obtain ⟨_, _, _, h5⟩ := hid b id h1
  obtain ⟨_, _, _, h6⟩ := hid b' id' h3
  have : id = id' := inj id id' (List.getElem?_eq_some_iff.1 h5).1 (List.getElem?_eq_some_iff.1 h6).1 (by omega)
  subst this
  exact hs.inj b b' id h1 h3
 ·obtain ⟨id, h1, rfl⟩ := gback b j h
  obtain ⟨o, h2, h3, h4⟩ := hid b id h1
  exact ⟨_, r2 id o _ h2 h4, hne o h3⟩
 ·simp only [St.renN, qkk, Option.map_eq_some_iff] at hk
  obtain ⟨⟨v', s0⟩, h1, h2⟩ := hk
  cases h2
  rw [qvh] at ht
  exact hs.wf.fr k s0 h1 t ht
 ·have hjl : j < os'.length := (List.getElem?_eq_some_iff.1 hj).1
  obtain ⟨i, hi⟩ := List.mem_iff_getElem?.1 (p1 j hjl)
  have hil : i < st.os.length := by grind
  have hoi := List.getElem?_eq_getElem hil
  have h1 := r2 i _ j hoi hi
  have hj' : os'[j]? = some o' := hj
  rw [hj'] at h1
  have h1 : o' = (st.os[i]).ren ι := by grind
  subst h1
  generalize hoe : st.os[i] = o at hsm hoi
  cases o with
  | row cells =>
   obtain ⟨s0, hs0, rfl⟩ := List.mem_map.1 hsm
   rw [qym] at ht
   exact hs.wf.os i _ hoi s0 hs0 t ht
  | _ => grind [AObj.ren, AObj.cells]
 ·refine ⟨hG.os, hG.tape, hG.output, hG.size, fun b hb hg => ?_, fun b n hb hg => ?_, fun b n t hb hg => ?_, fun b id hb hg => ?_⟩
  ·obtain ⟨q1, q2⟩ := hG.out b hb hg
   grind
  ·obtain ⟨q1, q2⟩ := hG.rowN b n hb hg
   grind
  ·obtain ⟨n', o', q1, q2, q3⟩ := hG.rowS b n t hb hg
   grind
  ·obtain ⟨q1, q2⟩ := hG.obj b id hb hg
   obtain ⟨o, h1, h2, h3⟩ := hid b id q1
   have hlt : id < os'.length := by
    grind [id, List.Nodup.length_le_of_subset, List.range, Nat.blt_eq]
   have hk := h0 b id hg
   have hfix : ι.getD id os'.length = id := by
    grind [id, Nat.blt_eq]
   grind
theorem Turn.sr (h : Turn k0 st st') (hs : SR N (Go.Abs.below st.nt) g w st a) (hG : G g0 w0 g w) (h0 : ∀ b id, g0 b = .obj id → id < k0) : ∃ g', SR N (Go.Abs.below st'.nt) g' w st' a ∧ G g0 w0 g' w ∧ ∀ b, g b = .out → g' b = .out := by
 induction h generalizing g with
 | refl st => grind
 | weak h _ ih =>
  obtain ⟨g1, h1, h2, h3⟩ := h.sr hs hG h0
  grind
 | u2o p t es rows hp ht _ ih =>
  obtain ⟨g1, h1, h2, h3⟩ := xgk hs hG h0 hp ht
  rename_i st1 _ _
  have : (st1.u2o p t es rows).nt = st1.nt := (qjc st1 _ p).2
  grind
 | o2u p id es rows hp hrow hc hes hcl hok hk hn _ ih =>
  obtain ⟨g1, h1, h2, h3⟩ := xgm hs hG h0 hp hrow hc hes hcl hok hk hn
  rename_i st1 _ _
  have : (st1.o2u p id es rows).nt = st1.nt + 1 := (qjc _ _ p).2
  grind
 | frz id es rows hc hcc hes hok hk _ ih =>
  obtain ⟨g1, h1, h2, h3⟩ := xgl hs hG h0 hc hcc hes hok hk
  obtain ⟨g2, k1, k2, k3⟩ := ih h1 h2
  grind
 | u2own p t es rows hp ht _ ih =>
  obtain ⟨g1, h1, h2, h3⟩ := q78 hs hG h0 hp ht
  obtain ⟨g2, k1, k2, k3⟩ := ih h1 h2
  grind
 | ren ι os' hn hl hp ho _ ih =>
  obtain ⟨g1, h1, h2, h3⟩ := xgo hs hG h0 hn hl hp ho
  obtain ⟨g2, k1, k2, k3⟩ := ih h1 h2
  grind
theorem Turn.trans {st1 : St} (h : Turn k0 st st1) (h' : Turn k0 st1 st') : Turn k0 st st' := by
 induction h with
 | refl => exact h'
 | weak h _ ih => grind [weak]
 | u2o p t es rows hp ht _ ih => grind [u2o]
 | o2u p id es rows hp hrow hc hes hcl hok hk hn _ ih => grind [o2u, id]
 | frz id es rows hc hcc hes hok hk _ ih => grind [frz, id]
 | u2own p t es rows hp ht _ ih => grind [u2own]
 | ren ι os' hn hl hp ho _ ih => grind [ren]
end
end Go.Abs
