/- Texts Bc, Bd, Be, Bf, Bg, Bh, Kr. -/
import Derived.Test.YtkcdbcbpbolgkaaGreatDoorMqj
import Derived.Carry
set_option linter.unusedSimpArgs false
set_option linter.unusedVariables false
namespace Go.Abs
open Go.ChangeShapes Go.RowKit
def argS (P : Program) (t : TypeId) (ds : List D) : ASlot :=
 match P.underlying t with
 | some (.struct _) => .d (.agg ds)
 | some (.array _ _) => .d (.agg ds)
 | _ => .d (ds.headD default)
def xhx (P : Program) (n : Nat) (K : List ASlot → Prop) : List TypeId → List ASlot → Prop
 | [], acc => K acc
 | t :: ts, acc => ∀ ds, Shp P n t ds → xhx P n K ts (acc ++ [argS P t ds])
section
variable {H : Type} {enc : TypeId × Value → H} {P : Program} {W W' : World}
theorem xm0 {n : Nat} {t : TypeId} {ds : List D} (h : Shp P n t ds) (h1 : ∀ fs, P.underlying t ≠ some (.struct fs)) (h2 : ∀ m e, P.underlying t ≠ some (.array m e)) : ∃ d, ds = [d] := by
 cases n with
 | zero => exact h.elim
 | succ n =>
  unfold Shp at h
  split at h
  ·obtain ⟨b, rfl⟩ := h; exact ⟨_, rfl⟩
  ·obtain ⟨b, rfl, _⟩ := h; exact ⟨_, rfl⟩
  ·obtain ⟨b, rfl, _⟩ := h; exact ⟨_, rfl⟩
  ·obtain ⟨b, rfl, _⟩ := h; exact ⟨_, rfl⟩
  ·rename_i fs hu; exact (h1 fs hu).elim
  ·rename_i m e hu; exact (h2 m e hu).elim
  ·exact h.elim
theorem xp2 {n base : Nat} {t : TypeId} {v : Value} {d : DataW H} {ps : List MemPlace} (hp : qko P n t = true) (h : DataW.Trod enc P W 0 (fun _ => true) true t v d ps) (hv : Value.okWide P W .any base t v) :
  ∃ ds, Shp P n t ds ∧ RC (outG W) W [] v (argS P t ds) := by
 obtain ⟨fuel, h⟩ := h
 obtain ⟨ds, hrl, hs⟩ := qv1 n fuel t _ _ hp h
 refine ⟨ds, hs, ?_⟩
 unfold argS
 have agg : (∃ cs, v = .agg cs) → RC (outG W) W [] v (.d (.agg ds)) := by
  rintro ⟨cs, rfl⟩
  have := hrl.agg
  simpa [Value.cells, RC] using this
 unfold Value.okWide at hv
 split
 ·rename_i fs hu
  rw [hu] at hv
  obtain ⟨cs, hcs, _⟩ := hv
  exact agg ⟨cs, hcs⟩
 ·rename_i m e hu
  rw [hu] at hv
  obtain ⟨cs, hcs, _⟩ := hv
  exact agg ⟨cs, hcs⟩
 ·rename_i h1 h2
  obtain ⟨d, rfl⟩ := xm0 hs h1 h2
  have hl := hrl.1
  cases v with
  | agg cs =>
   exfalso
   have hwide : Cell.okWide P W .any base t (.agg cs) := by
    split at hv
    ·rename_i fs hu; exact (h1 fs hu).elim
    ·rename_i m e hu; exact (h2 m e hu).elim
    ·exact hv
   unfold Cell.okWide at hwide
   split at hwide <;> first | (rename_i hx; cases hx; done) | skip
   all_goals first | (rename_i hx _; cases hx; done) | (simp [Cell.ok] at hwide; done) | skip
  | _ => exact hrl.2.2 0 _ d rfl rfl
theorem qv2 {ts : List TypeId} (hl : laidOutB P = true) (hr : (ts.all fun t => P.readableRec t && decide (t < P.types.size)) = true) (hb : Below W.heap.size W W') : ∀ {vs : List Value} {ds : List (DataW H)} {ps : List MemPlace},
  DataW.TrodAll enc P W 0 (fun _ => true) true ts vs ds ps → (∀ x ∈ ps, x.block < W.heap.size) → DataW.TrodAll enc P W' 0 (fun b => decide (b < W.heap.size)) true ts vs ds ps := by
 induction ts with
 | nil =>
  intro vs ds ps h _
  obtain ⟨rfl, rfl, rfl⟩ := trodAll_nil h
  exact trodAll_mk0
 | cons t ts ih =>
  intro vs ds ps h hlt
  simp only [List.all_cons, Bool.and_eq_true, decide_eq_true_eq] at hr
  obtain ⟨v, vs', d, ds', p, q, rfl, rfl, rfl, h1, h2⟩ := trodAll_cons h
  exact ⟨p, q, Below.trod hl hr.1.1 hr.1.2 h1 hb (fun x hx => hlt x (List.mem_append_left _ hx)), ih (by simpa using hr.2) h2 (fun x hx => hlt x (List.mem_append_right _ hx)), rfl⟩
theorem q5u {n base : Nat} {K : List ASlot → Prop} : ∀ {ts : List TypeId} {vs : List Value} {ds : List (DataW H)} {ps : List MemPlace} {acc : List ASlot} {us : List Value}, (ts.all (qko P n)) = true → xhx P n K ts acc →
  DataW.TrodAll enc P W 0 (fun _ => true) true ts vs ds ps → (∀ (j : Nat) (t : TypeId) (v : Value), ts[j]? = some t → vs[j]? = some v → Value.okWide P W .any base t v) →
  us.length = acc.length → (∀ (i : Nat) (v : Value) (s : ASlot), us[i]? = some v → acc[i]? = some s → RC (outG W) W [] v s) → (∀ s ∈ acc, s.toks = []) →
  ∃ slots, K slots ∧ (us ++ vs).length = slots.length ∧ (∀ (i : Nat) (v : Value) (s : ASlot), (us ++ vs)[i]? = some v → slots[i]? = some s → RC (outG W) W [] v s) ∧ ∀ s ∈ slots, s.toks = []
 | [], vs, ds, ps, acc, us, _, hk, h, _, hl, hr, ht => by
  obtain ⟨rfl, rfl, rfl⟩ := trodAll_nil h
  rw [List.append_nil]
  exact ⟨acc, hk, hl, hr, ht⟩
 | t :: ts, vs, ds, ps, acc, us, hp, hk, h, hv, hl, hr, ht => by
  simp only [List.all_cons, Bool.and_eq_true] at hp
  obtain ⟨v, vs', d, ds', p, q, rfl, rfl, rfl, h1, h2⟩ := trodAll_cons h
  obtain ⟨dl, hs, hrc⟩ := xp2 hp.1 h1 (hv 0 t v rfl rfl)
  have := q5u (us := us ++ [v]) hp.2 (hk dl hs) h2 (fun j t' v' ht hv' => hv (j + 1) t' v' (by simpa using ht) (by simpa using hv')) (by simp [hl]) (fun i u s hu hs' => by
   by_cases hi : i < us.length
   ·rw [List.getElem?_append_left hi] at hu
    rw [List.getElem?_append_left (by omega)] at hs'
    exact hr i u s hu hs'
   ·rw [List.getElem?_append_right (by omega)] at hu
    rw [List.getElem?_append_right (by omega)] at hs'
    rw [hl] at hu
    cases hj : i - acc.length with
    | zero => rw [hj] at hu hs'; simp at hu hs'; subst hu hs'; exact hrc
    | succ j => rw [hj] at hu; simp at hu) (fun s hs' => by
   rcases List.mem_append.1 hs' with h | h
   ·exact ht s h
   ·simp at h; subst h; unfold argS; split <;> rfl)
  rw [List.append_assoc] at this
  exact this
theorem xce {fid : FuncId} {f : Func} {s : ChangeSpec} {apart fresh handsOn : Bool} {n base : Nat} {tb : TypeId} {args : Array Value} {ds gs : List (DataW H)} {before : List MemPlace}
  (hl : laidOutB P = true) (hts : (f.params.toList.all fun t => P.readableRec t && decide (t < P.types.size)) = true) (hp : (f.params.toList.all (qko P n)) = true)
  (hret : f.resultTypes = #[tb]) (htb : P.underlying tb = some .bool) (hvars : s.vars = [])
  (hfn : ∀ ds : List (DataW H), ds.length = f.params.toList.length → s.fn H ds = { results := [.lit (.bool true)], args := ds })
  (hc : xhx P n (fun slots => qg P fid slots [] (.d (.bool true)) []) f.params.toList [])
  (hW : DataW.Whole enc P f.params.toList s.vars apart W args.toList ds gs before)
  (hval : ∀ (j : Nat) (t : TypeId) (v : Value), f.params[j]? = some t → args[j]? = some v → Value.okWide P W .any base t v) (hgl : xcc W := by exact q8q) :
  Calls P fid args W fun e W' => ∃ v, e = .returned v ∧ s.post enc P f apart fresh handsOn false W args v W' := by
 have hW0 := hW
 obtain ⟨p, q, hA, hV, rfl, _, _⟩ := hW
 rw [hvars] at hV
 obtain ⟨rfl, rfl⟩ := trodVars_none hV
 obtain ⟨slots, hk, q1, q2, q3⟩ := q5u (us := []) hp hc hA (fun j t v ht hv => hval j t v (by simpa using ht) (by simpa using hv)) rfl (by simp) (by simp)
 have htk : vy slots = [] := by
  unfold vy
  rw [List.flatMap_eq_nil_iff]
  exact q3
 have hobj : ∀ b id, outG W b ≠ .obj id := by
  intro b id h
  unfold outG at h
  split at h <;> cases h
 have hcall := hk (outG W) W args.toList (xhu W hgl) (by simpa using q1) (by rw [htk]; simpa [xh] using q2) ⟨fun id o h => by simp at h, fun b b' id h => (hobj b id h).elim, fun b id h => (hobj b id h).elim⟩
 refine hcall.mono ?_
 rintro e W' ⟨v, g', live', rfl, hG, hdom, _, hrs, _⟩
 have hv : v = .bool true := y9 (wj hrs)
 subst hv
 have hb : Below W.heap.size W W' := by
  refine ⟨hG.os, hG.tape, hG.output, hG.size, fun b hb => ?_⟩
  cases hg : outG W b with
  | out => exact (hG.out b hb hg).1
  | row m o =>
   cases o with
   | none => exact (hG.rowN b m hb hg).1
   | some t =>
    unfold outG at hg
    split at hg <;> cases hg
  | uni t =>
   unfold outG at hg
   split at hg <;> cases hg
  | obj id => exact (hobj b id hg).elim
 have hlen : ds.length = f.params.toList.length := by
  have : ∀ {ts : List TypeId} {vs : List Value} {ds : List (DataW H)} {ps : List MemPlace}, DataW.TrodAll enc P W 0 (fun _ => true) true ts vs ds ps → ds.length = ts.length := by
   intro ts
   induction ts with
   | nil => intro vs ds ps h; obtain ⟨_, rfl, _⟩ := trodAll_nil h; rfl
   | cons t ts ih => intro vs ds ps h; obtain ⟨v, vs', d, ds', p, q, rfl, rfl, rfl, _, h2⟩ := trodAll_cons h; simp [ih h2]
  exact this hA
 have hlt : ∀ x ∈ p ++ [], x.block < W.heap.size := fun x hx => hW0.lt x hx
 refine ⟨_, rfl, ds, [], p ++ [], [], p, [], hW0, ?_, ?_, ?_, ?_, fun h => by cases h⟩
 ·rw [List.append_nil, hfn ds hlen, hret]
  exact trodAll_mk1 (shut_bool htb true)
 ·rw [List.append_nil, hfn ds hlen]
  exact qv2 hl hts hb hA (fun x hx => hlt x (by simpa using hx))
 ·rw [List.append_nil, hfn ds hlen, hvars]
  exact rfl
 ·refine World.keptBut_mono (fun x hx => ⟨hx, .inr (.inl ?_)⟩) (hb.frame (· ∈ p ++ []))
  simpa using hx
end
end Go.Abs
namespace Go.Abs
structure FnIs (P : Program) (f : FuncId) (fn : Func) (mu : List Nat) (news : List (FuncId × Nat)) (sc : SCode) (rvs : List RVar) (N : Nat) : Prop where
 fol : P.follows .mixedOrders = true
 isf : P.funcs[f]? = some fn
 code : fn.body.bind (zm P mu fn.ntmps news) = some sc.erase
 res : fn.results.toList.mapM (qgn P) = some rvs
 num : fn.ntmps = N
 body : (P.funcs[f]?).any (fun fn => fn.body.isSome && !(fn.name == "runtime.NumGoroutine")) = true
section
variable {P : Program} {f : FuncId} {fn : Func} {mu : List Nat} {news : List (FuncId × Nat)} {sc : SCode} {rvs : List RVar} {N : Nat} {args rs : List ASlot} {r : ASlot} {objs objs' : List AObj}
theorem FnIs.go (F : FnIs P f fn mu news sc rvs N) (h : AWp P objs.length sc (q2z objs.length rvs [r] objs') (qhn args objs)) (hN : args.length ≤ N := by simp) (hl : rvs.length = 1 := by rfl) (hw : ltB 16 (vy args ++ xh objs) = true := by first | rfl | simp only [go_sem]) :
  qg P f args objs r objs' :=
 q5s (rs := [r]) F.fol F.isf F.code F.res h (by rw [F.num]; exact hN) (by rw [hl]; rfl) hw
theorem FnIs.goT (F : FnIs P f fn mu news sc rvs N) (h : AWp P objs.length sc (q2z objs.length rvs rs objs') (qhn args objs)) (hN : args.length ≤ N := by simp) (hl : rvs.length = rs.length := by rfl) (hn : rs.length ≠ 1 := by simp) (hw : ltB 16 (vy args ++ xh objs) = true := by first | rfl | simp only [go_sem]) :
  qg P f args objs (.tup rs) objs' := by
 rw [← xb6 hn]
 exact q5s F.fol F.isf F.code F.res h (by rw [F.num]; exact hN) hl hw
end
theorem ev {p q : Prop} (h : q) (e : p = q := by conv => lhs; simp only [go_sem, Nat.reduceAdd, Nat.reduceMul, Nat.reduceSub, Nat.reduceEqDiff, Nat.reduceLT, Nat.reduceLeDiff, Nat.reduceBEq, reduceIte, reduceCtorEq, Int.reduceAdd, Int.reduceLT, Int.reduceLE, Int.reduceGT, Int.reduceGE, Int.reduceEq, Int.reduceNe, Int.reduceBEq, Int.reduceBNe, Int.reduceToNat, Int.reduceNeg]) : p := e ▸ h
theorem evT {p : Prop} (e : p = True := by simp only [go_sem, Nat.reduceAdd, Nat.reduceMul, Nat.reduceSub, Nat.reduceEqDiff, Nat.reduceLT, Nat.reduceLeDiff, Nat.reduceBEq, reduceIte, reduceCtorEq, Int.reduceAdd, Int.reduceLT, Int.reduceLE, Int.reduceGT, Int.reduceGE, Int.reduceEq, Int.reduceNe, Int.reduceBEq, Int.reduceBNe, Int.reduceToNat, Int.reduceNeg]) : p := of_eq_true e
theorem ev1 {A1 p q : Prop} (a1 : A1) (h : q) (e : A1 → p = q := by intro z1; conv => lhs; simp only [z1, go_sem, Nat.reduceAdd, Nat.reduceMul, Nat.reduceSub, Nat.reduceEqDiff, Nat.reduceLT, Nat.reduceLeDiff, Nat.reduceBEq, reduceIte, reduceCtorEq, Int.reduceAdd, Int.reduceLT, Int.reduceLE, Int.reduceGT, Int.reduceGE, Int.reduceEq, Int.reduceNe, Int.reduceBEq, Int.reduceBNe, Int.reduceToNat, Int.reduceNeg]) : p := (e a1).mpr h
theorem ev2 {A1 A2 p q : Prop} (a1 : A1) (a2 : A2) (h : q) (e : A1 → A2 → p = q := by intro z1 z2; conv => lhs; simp only [z1, z2, go_sem, Nat.reduceAdd, Nat.reduceMul, Nat.reduceSub, Nat.reduceEqDiff, Nat.reduceLT, Nat.reduceLeDiff, Nat.reduceBEq, reduceIte, reduceCtorEq, Int.reduceAdd, Int.reduceLT, Int.reduceLE, Int.reduceGT, Int.reduceGE, Int.reduceEq, Int.reduceNe, Int.reduceBEq, Int.reduceBNe, Int.reduceToNat, Int.reduceNeg]) : p := (e a1 a2).mpr h
theorem ev3 {A1 A2 A3 p q : Prop} (a1 : A1) (a2 : A2) (a3 : A3) (h : q) (e : A1 → A2 → A3 → p = q := by intro z1 z2 z3; conv => lhs; simp only [z1, z2, z3, go_sem, Nat.reduceAdd, Nat.reduceMul, Nat.reduceSub, Nat.reduceEqDiff, Nat.reduceLT, Nat.reduceLeDiff, Nat.reduceBEq, reduceIte, reduceCtorEq, Int.reduceAdd, Int.reduceLT, Int.reduceLE, Int.reduceGT, Int.reduceGE, Int.reduceEq, Int.reduceNe, Int.reduceBEq, Int.reduceBNe, Int.reduceToNat, Int.reduceNeg]) : p := (e a1 a2 a3).mpr h
theorem ev4 {A1 A2 A3 A4 p q : Prop} (a1 : A1) (a2 : A2) (a3 : A3) (a4 : A4) (h : q) (e : A1 → A2 → A3 → A4 → p = q := by intro z1 z2 z3 z4; conv => lhs; simp only [z1, z2, z3, z4, go_sem, Nat.reduceAdd, Nat.reduceMul, Nat.reduceSub, Nat.reduceEqDiff, Nat.reduceLT, Nat.reduceLeDiff, Nat.reduceBEq, reduceIte, reduceCtorEq, Int.reduceAdd, Int.reduceLT, Int.reduceLE, Int.reduceGT, Int.reduceGE, Int.reduceEq, Int.reduceNe, Int.reduceBEq, Int.reduceBNe, Int.reduceToNat, Int.reduceNeg]) : p := (e a1 a2 a3 a4).mpr h
theorem ev5 {A1 A2 A3 A4 A5 p q : Prop} (a1 : A1) (a2 : A2) (a3 : A3) (a4 : A4) (a5 : A5) (h : q) (e : A1 → A2 → A3 → A4 → A5 → p = q := by intro z1 z2 z3 z4 z5; conv => lhs; simp only [z1, z2, z3, z4, z5, go_sem, Nat.reduceAdd, Nat.reduceMul, Nat.reduceSub, Nat.reduceEqDiff, Nat.reduceLT, Nat.reduceLeDiff, Nat.reduceBEq, reduceIte, reduceCtorEq, Int.reduceAdd, Int.reduceLT, Int.reduceLE, Int.reduceGT, Int.reduceGE, Int.reduceEq, Int.reduceNe, Int.reduceBEq, Int.reduceBNe, Int.reduceToNat, Int.reduceNeg]) : p := (e a1 a2 a3 a4 a5).mpr h
theorem ev6 {A1 A2 A3 A4 A5 A6 p q : Prop} (a1 : A1) (a2 : A2) (a3 : A3) (a4 : A4) (a5 : A5) (a6 : A6) (h : q) (e : A1 → A2 → A3 → A4 → A5 → A6 → p = q := by intro z1 z2 z3 z4 z5 z6; conv => lhs; simp only [z1, z2, z3, z4, z5, z6, go_sem, Nat.reduceAdd, Nat.reduceMul, Nat.reduceSub, Nat.reduceEqDiff, Nat.reduceLT, Nat.reduceLeDiff, Nat.reduceBEq, reduceIte, reduceCtorEq, Int.reduceAdd, Int.reduceLT, Int.reduceLE, Int.reduceGT, Int.reduceGE, Int.reduceEq, Int.reduceNe, Int.reduceBEq, Int.reduceBNe, Int.reduceToNat, Int.reduceNeg]) : p := (e a1 a2 a3 a4 a5 a6).mpr h
theorem ev7 {A1 A2 A3 A4 A5 A6 A7 p q : Prop} (a1 : A1) (a2 : A2) (a3 : A3) (a4 : A4) (a5 : A5) (a6 : A6) (a7 : A7) (h : q) (e : A1 → A2 → A3 → A4 → A5 → A6 → A7 → p = q := by intro z1 z2 z3 z4 z5 z6 z7; conv => lhs; simp only [z1, z2, z3, z4, z5, z6, z7, go_sem, Nat.reduceAdd, Nat.reduceMul, Nat.reduceSub, Nat.reduceEqDiff, Nat.reduceLT, Nat.reduceLeDiff, Nat.reduceBEq, reduceIte, reduceCtorEq, Int.reduceAdd, Int.reduceLT, Int.reduceLE, Int.reduceGT, Int.reduceGE, Int.reduceEq, Int.reduceNe, Int.reduceBEq, Int.reduceBNe, Int.reduceToNat, Int.reduceNeg]) : p := (e a1 a2 a3 a4 a5 a6 a7).mpr h
theorem ev8 {A1 A2 A3 A4 A5 A6 A7 A8 p q : Prop} (a1 : A1) (a2 : A2) (a3 : A3) (a4 : A4) (a5 : A5) (a6 : A6) (a7 : A7) (a8 : A8) (h : q) (e : A1 → A2 → A3 → A4 → A5 → A6 → A7 → A8 → p = q := by intro z1 z2 z3 z4 z5 z6 z7 z8; conv => lhs; simp only [z1, z2, z3, z4, z5, z6, z7, z8, go_sem, Nat.reduceAdd, Nat.reduceMul, Nat.reduceSub, Nat.reduceEqDiff, Nat.reduceLT, Nat.reduceLeDiff, Nat.reduceBEq, reduceIte, reduceCtorEq, Int.reduceAdd, Int.reduceLT, Int.reduceLE, Int.reduceGT, Int.reduceGE, Int.reduceEq, Int.reduceNe, Int.reduceBEq, Int.reduceBNe, Int.reduceToNat, Int.reduceNeg]) : p := (e a1 a2 a3 a4 a5 a6 a7 a8).mpr h
theorem ob {p q : Prop} (k : q) (h : p := by first | omega | (simp_all; done) | grind) : p ∧ q := ⟨h, k⟩
section
variable {P : Program} {f : FuncId} {fn : Func} {mu : List Nat} {news : List (FuncId × Nat)} {sc : SCode} {rvs : List RVar} {N : Nat}
variable {ops : List SOper} {k : Nat} {tids : List (List Nat)} {K : List (List Nat) → St → Prop} {fr : Fr} {os : List AObj} {live : List Nat} {nt : Nat} {dst : Option Nat} {g ok : Bool} {fa as : List ASlot} {r : ASlot} {fo fo' : List AObj}
theorem cl (F : FnIs P f fn mu news sc rvs N) (hc : qg P f fa [] r []) (hK : ARun P ops (k + 1) (tids ++ [[]]) K ⟨ww fr dst g r, os, live, nt⟩)
  (ho : g = true → ok = true := by first | exact fun h => h | exact fun _ => rfl | (intro h; simp only [h, Bool.and_self, Bool.and_true]))
  (hfit : g = true → yp as fa := by intro _; first | exact trivial | exact ⟨qc, trivial⟩ | exact ⟨qc, qc, trivial⟩ | exact ⟨qc, qc, qc, trivial⟩ | exact ⟨qc, qc, qc, qc, trivial⟩ | exact evT)
  (hnp : fa.all ASlot.noPtr = true := by first | rfl | exact evT) (hh : xu as fa = [] := by rfl) (hr : r.toks = [] := by rfl) :
  ql2 P ops k tids K dst ⟨fr, os, live, nt⟩ g (some (f, as)) ok := xw hc F.body ho hfit hnp hh hr hK
theorem clF (F : FnIs P f fn mu news sc rvs N) (hc : qg P f fa [] r []) (hfit : g = true → yp as fa) (hK : ARun P ops (k + 1) (tids ++ [[]]) K ⟨ww fr dst g r, os, live, nt⟩)
  (ho : g = true → ok = true := by first | exact fun h => h | exact fun _ => rfl | (intro h; simp only [h, Bool.and_self, Bool.and_true]))
  (hnp : fa.all ASlot.noPtr = true := by first | rfl | exact evT) (hh : xu as fa = [] := by rfl) (hr : r.toks = [] := by rfl) :
  ql2 P ops k tids K dst ⟨fr, os, live, nt⟩ g (some (f, as)) ok := xw hc F.body ho hfit hnp hh hr hK
theorem xcf (hK : ARun P ops (k + 1) (tids ++ [[]]) K ⟨ww fr dst g (.d (.bool false)), os, live, nt⟩) {c : Option (FuncId × List ASlot)} (hg : g = false := by rfl) : ql2 P ops k tids K dst ⟨fr, os, live, nt⟩ g c ok :=
 qkm (.bool false) hg hK
theorem clO (ι : List Nat) (F : FnIs P f fn mu news sc rvs N) (hc : qg P f fa fo r fo') (hK : ARun P ops (k + 1) (tids ++ [ι ++ ι.map fun i => 1000000 + i]) K ⟨ww fr dst true (r.ren ι), jd os (ι.zip (fo'.map (AObj.ren ι))), live, nt⟩)
  (ho : ok = true := by first | rfl | exact evT)
  (hfit : yp as (fa.map (ASlot.ren ι)) := by first | exact ⟨qc, trivial⟩ | exact ⟨qc, qc, trivial⟩ | exact evT)
  (hin : fa.all (ASlot.inK fo.length) = true := by first | rfl | exact evT) (hh : xu as fa = [] := by rfl) (hr : r.toks = [] := by rfl)
  (hnd : ι.Nodup := by decide) (hlen : ι.length = fo'.length := by rfl) (hle : fo.length ≤ fo'.length := by simp) (hold : qdq ι os ι fo := by exact evT)
  (hnew : (ι.drop fo.length).all (isNone os) = true := by first | rfl | exact evT) (hik : fo.all (AObj.inK fo.length) = true := by first | rfl | exact evT) (htk : (fo'.all fun o => qae o.cells) = true := by first | rfl | exact evT) (htf : (fo.all fun o => qae o.cells) = true := by first | rfl | exact evT) :
  ql2 P ops k tids K dst ⟨fr, os, live, nt⟩ true (some (f, as)) ok := xby ι hc F.body ho hfit hin hh hr hnd hlen hle hold hnew hik htk htf hK
theorem clT (ι : List Nat) (F : FnIs P f fn mu news sc rvs N) (hc : qg P f fa fo r fo')
  (hK : ARun P ops (k + 1) (tids ++ [[]]) K ⟨ww fr dst true ((wq (r.toks ++ xh fo') (16 * (nt + k)) r).ren ι), jd os (ι.zip ((fo'.map (AObj.rt (r.toks ++ xh fo') (16 * (nt + k)))).map (AObj.ren ι))),
   (live.filter fun t => !((xu as fa ++ vm os ι fo).map (·.1)).contains t) ++ ((wq (r.toks ++ xh fo') (16 * (nt + k)) r).toks ++ xh (fo'.map (AObj.rt (r.toks ++ xh fo') (16 * (nt + k))))), nt⟩)
  (ho : ok = true := by first | rfl | exact evT)
  (hfit : yp as (fa.map (ASlot.ren ι)) := by first | exact ⟨qc, trivial⟩ | exact ⟨qc, qc, trivial⟩ | exact evT)
  (hin : fa.all (ASlot.inK fo.length) = true := by first | rfl | exact evT)
  (hl : ((xu as fa ++ vm os ι fo).all fun p => live.contains p.1) = true := by first | rfl | exact evT) (hn : ((xu as fa ++ vm os ι fo).map (·.1)).Nodup := by first | exact evT | decide) (hfew : (r.toks ++ xh fo').length ≤ 16 := by first | exact evT | decide)
  (hnd : ι.Nodup := by decide) (hlen : ι.length = fo'.length := by rfl) (hle : fo.length ≤ fo'.length := by simp) (hold : qdq ι os ι fo := by exact evT)
  (hnew : (ι.drop fo.length).all (isNone os) = true := by first | rfl | exact evT) (hik : fo.all (AObj.inK fo.length) = true := by first | rfl | exact evT) :
  q5r P ops k tids K dst ⟨fr, os, live, nt⟩ true (some (f, as)) ok := xb0 ι hc F.body hK ho hfit hin hl hn hfew hnd hlen hle hold hnew hik
theorem clA (F : FnIs P f fn mu news sc rvs N) (hc : qg P f fa [] r []) (hK : ARun P ops (k + 1) (tids ++ [[]]) K ⟨ww fr dst true (qeh (16 * (nt + k)) r), os, (live.filter fun t => !((xu as fa).map (·.1)).contains t) ++ (qeh (16 * (nt + k)) r).toks, nt⟩)
  (ho : ok = true := by first | rfl | exact evT)
  (h1 : yp as fa := by first | exact trivial | exact ⟨qc, trivial⟩ | exact ⟨qc, qc, trivial⟩ | exact evT) (h2 : fa.all ASlot.noPtr = true := by first | rfl | exact evT) (h3 : ∀ p ∈ xu as fa, p.1 ∈ live := by first | (intro p hp; cases hp; done) | simp [xu]) (h4 : ((xu as fa).map (·.1)).Nodup := by first | exact List.nodup_nil | simp [xu])
  (hnd : r.toks.Nodup := by first | exact List.nodup_nil | simp [ASlot.toks]) (hfew : r.toks.length ≤ 16 := by simp [ASlot.toks]) :
  ql2 P ops k tids K dst ⟨fr, os, live, nt⟩ true (some (f, as)) ok := qho hc F.body ho ⟨h1, h2, h3, h4⟩ hnd hfew hK
end
section
variable {P : Program} {k0 : Nat} {a x y : SCode} {Q : SExit → St → Prop} {st : St} {c : Opd}
theorem xq (t : Bool) (hx : t = true → AWp P k0 x Q st) (hy : t = false → AWp P k0 y Q st) (h1 : c.ok st.fr = true := by rfl) (h2 : c.get st.fr = .d (.bool t) := by rfl) : AWp P k0 (.cond c x y) Q st := qs t h1 h2 hx hy
theorem no_ (hy : AWp P k0 y Q st) (h1 : c.ok st.fr = true := by rfl) (h2 : c.get st.fr = .d (.bool false) := by rfl) : AWp P k0 (.cond c x y) Q st := qs false h1 h2 (fun h => Bool.noConfusion h) (fun _ => hy)
theorem qck (hx : AWp P k0 x Q st) (h1 : c.ok st.fr = true := by rfl) (h2 : c.get st.fr = .d (.bool true) := by rfl) : AWp P k0 (.cond c x y) Q st := qs true h1 h2 (fun _ => hx) (fun h => Bool.noConfusion h)
theorem xp4 {f : Opd} {ps : List Nat} (gf : FuncId) (caps : List D) (ι : List Nat) (fo : List AObj) (vals : List (List D)) (S : Nat → St) (fr0 : Fr) (hseq : ASeq P gf caps fo vals) (hwk : Weak k0 st (S 0))
  (hround : ∀ k vs, vals[k]? = some vs → AWp P (S k).os.length x (qit (fun st2 => AWp P st2.os.length y (qit (fun st3 => Turn k0 { st3 with fr := fr0 } (S (k + 1))) (fun _ _ => False)) st2) (fun _ _ => False)) { S k with fr := jk ps vs fr0 })
  (hK : Q .normal (S vals.length)) (hvl : ∀ vs ∈ vals, vs.length = ps.length ∧ D.noPtrL vs = true)
  (hob : qdq ι st.os ι fo) (hSn : ∀ k id, id ∈ ι → wx (S k).os id = false)
  (h1 : f.ok st.fr = true := by rfl) (h2 : f.get st.fr = .d (.func (.func gf) [] (caps.map (D.ren ι))) := by rfl) (hin : ∀ d ∈ caps, d.inK fo.length = true := by simp [D.inK]) (hnd : ι.Nodup := by decide) (hlen : ι.length = fo.length := by rfl)
  (hik : fo.all (AObj.inK fo.length) = true := by first | rfl | simp only [go_sem]) (hge : ∀ id ∈ ι, k0 ≤ id := by simp) (hfr : fr0.plain = true := by rfl) (hSf : ∀ k, (S k).fr = fr0 := by intro _; rfl) :
  AWp P k0 (.rangeFunc f ps x y) Q st :=
 .inl ⟨gf, caps, ι, fo, vals, S, fr0, ⟨h1, h2, hseq, hin, hnd, hlen, hob, hik, hge, hvl, hfr, hSf, hSn, hwk⟩, hround, hK⟩
theorem xm1 {f : Opd} {ps : List Nat} (gf : FuncId) (ibx ib K : Nat) (ins : List Int) (vals : List (List D)) (S : Nat → St) (fr0 : Fr) (hseq : xgp P gf ins vals) (hwk : Weak K st (S 0))
  (hSx : ∀ k, (S k).os[ibx]? = some (.row [.d (.ptr ib 0)])) (hSb : ∀ k, ∃ rest, (S k).os[ib]? = some (.row (ins.map (fun x => .d (.int .i64 x)) ++ rest)))
  (hround : ∀ k vs, vals[k]? = some vs → AWp P (S k).os.length x (qit (fun st2 => AWp P st2.os.length y (rndQ K fr0 (S (k + 1)) Q) st2) (fun _ _ => False)) { S k with fr := jk ps vs fr0 })
  (hK : Q .normal (S vals.length)) (hvl : ∀ vs ∈ vals, vs.length = ps.length ∧ D.noPtrL vs = true) (hk : k0 ≤ K := by omega) (hix : ibx < K := by omega) (hib : ib < K := by omega) (hne : ins ≠ [] := by simp)
  (h1 : f.ok st.fr = true := by rfl) (h2 : f.get st.fr = .d (.func (.func gf) [] [.ptr ibx 0]) := by rfl) (hfr : fr0.plain = true := by rfl) (hSf : ∀ k, (S k).fr = fr0 := by intro _; rfl) :
  AWp P k0 (.rangeFunc f ps x y) Q st :=
 .inr ⟨gf, ibx, ib, K, ins, vals, S, fr0, ⟨h1, h2, hseq, hk, hix, hib, hSx, hSb, hne, hvl, hfr, hSf, hwk⟩, hround, hK⟩
theorem pu (h : AWp P k0 a Q st) : AWp P k0 (.pause a) Q st := ⟨st, .refl st, h⟩
theorem qqh (p : Pos) (t es : Nat) (rows : List (List D)) (h : AWp P k0 (.pause a) Q (st.u2o p t es rows)) (hp : st.slotAt p = .uni t es rows := by rfl) (ht : t ∈ st.live := by simp) : AWp P k0 (.pause a) Q st := by
 obtain ⟨st', h1, h2⟩ := h
 exact ⟨st', .u2o p t es rows hp ht h1, h2⟩
theorem xhy (p : Pos) (t es : Nat) (rows : List (List D)) (h : AWp P k0 (.pause a) Q (st.u2own p t es rows)) (hp : st.slotAt p = .uni t es rows := by rfl) (ht : t ∈ st.live := by simp) : AWp P k0 (.pause a) Q st := by
 obtain ⟨st', h1, h2⟩ := h
 exact ⟨st', .u2own p t es rows hp ht h1, h2⟩
theorem qqi (p : Pos) (id es : Nat) (rows : List (List D)) (h : AWp P k0 (.pause a) Q (st.o2u p id es rows)) (hc : qh st.os id = rows.flatten.map .d) (hes : ∀ r ∈ rows, r.length = es)
  (hcl : ∀ d ∈ rows.flatten, d.isCell = true) (hok : D.okWR (neId id) rows = true) (hp : st.slotAt p = .d (.ref id 0 es rows.length) := by rfl) (hrow : qgh st.os id = true := by rfl) (hk : k0 ≤ id := by omega) (hn : p.notIn id := by first | trivial | decide) : AWp P k0 (.pause a) Q st := by
 obtain ⟨st', h1, h2⟩ := h
 exact ⟨st', .o2u p id es rows hp hrow hc hes hcl hok hk hn h1, h2⟩
theorem qqj (id es : Nat) (rows : List (List D)) (h : AWp P k0 (.pause a) Q (st.frz id es rows)) (hc : (qh st.os id).map ASlot.cellD = rows.flatten) (hcc : (qh st.os id).all ASlot.isCellD = true) (hes : ∀ r ∈ rows, r.length = es)
  (hok : D.okWR (neId id) rows = true) (hk : k0 ≤ id := by omega) : AWp P k0 (.pause a) Q st := by
 obtain ⟨st', h1, h2⟩ := h
 exact ⟨st', .frz id es rows hc hcc hes hok hk h1, h2⟩
theorem qbc (ι : List Nat) (os' : List AObj) (h : AWp P k0 (.pause a) Q (st.renN ι os')) (ho : q76 ι os' ι st.os) (hp : xgj k0 os'.length ι = true := by decide) (hn : ι.Nodup := by decide) (hl : ι ≠ [] := by simp) : AWp P k0 (.pause a) Q st := by
 obtain ⟨st', h1, h2⟩ := h
 exact ⟨st', .ren ι os' hn hl hp ho h1, h2⟩
theorem xm2 {st1 : St} (h0 : Weak k0 st st1) (h : AWp P k0 a Q st1) : AWp P k0 (.pause a) Q st := ⟨st1, .weak h0 (.refl _), h⟩
end
section
variable {fr : Fr} {os : List AObj} {live : List Nat} {nt : Nat}
theorem xp5 {k t es : Nat} {rows : List (List D)} : St.u2o ⟨fr, os, live, nt⟩ (.fr k) t es rows = ⟨(k, true, .d (.ref os.length 0 es rows.length)) :: fr, os ++ [.row (rows.flatten.map .d)], live.filter fun u => !(u == t), nt⟩ := rfl
theorem xhz {id i t es : Nat} {rows : List (List D)} : St.u2o ⟨fr, os, live, nt⟩ (.cell id i) t es rows = ⟨fr, os.set id (.row ((qh os id).set i (.d (.ref os.length 0 es rows.length)))) ++ [.row (rows.flatten.map .d)], live.filter fun u => !(u == t), nt⟩ := rfl
theorem xh0 {k t es : Nat} {rows : List (List D)} : St.u2own ⟨fr, os, live, nt⟩ (.fr k) t es rows = ⟨(k, true, .own (16 * nt) es rows) :: fr, os, (live.filter fun u => !(u == t)) ++ [16 * nt], nt + 1⟩ := rfl
theorem q8r {id i t es : Nat} {rows : List (List D)} : St.u2own ⟨fr, os, live, nt⟩ (.cell id i) t es rows = ⟨fr, os.set id (.row ((qh os id).set i (.own (16 * nt) es rows))), (live.filter fun u => !(u == t)) ++ [16 * nt], nt + 1⟩ := rfl
theorem xp6 {k id es : Nat} {rows : List (List D)} : St.o2u ⟨fr, os, live, nt⟩ (.fr k) id es rows = ⟨(k, true, .uni (16 * nt) es rows) :: Fr.mapS (ASlot.only (neId id)) fr, (os.map (AObj.mapS (ASlot.only (neId id)))).set id .none, live ++ [16 * nt], nt + 1⟩ := rfl
theorem xh1 {j i id es : Nat} {rows : List (List D)} : St.o2u ⟨fr, os, live, nt⟩ (.cell j i) id es rows =
  ⟨Fr.mapS (ASlot.only (neId id)) fr, ((os.map (AObj.mapS (ASlot.only (neId id)))).set id .none).set j (.row ((qh ((os.map (AObj.mapS (ASlot.only (neId id)))).set id .none) j).set i (.uni (16 * nt) es rows))), live ++ [16 * nt], nt + 1⟩ := rfl
theorem qzh {id es : Nat} {rows : List (List D)} : St.frz ⟨fr, os, live, nt⟩ id es rows = ⟨Fr.mapS (fun s => (s.frz id es rows).only (neId id)) fr, (os.map (AObj.mapS fun s => (s.frz id es rows).only (neId id))).set id .none, live, nt⟩ := rfl
end
theorem xcg {keep : Nat → Bool} {t t' es es' : Nat} {r r' : List (List D)} : qdf keep (.uni t es r) (.uni t' es' r') = ((es = es' ∧ r = r') ∧ D.noPtrR r' = true) := rfl
theorem qsx {keep : Nat → Bool} {t' es es' : Nat} {r r' : List (List D)} : qdf keep (.full es r) (.uni t' es' r') = (r = [] ∧ r' = []) := rfl
theorem qv3 {keep : Nat → Bool} {t' es' : Nat} {r' : List (List D)} : qdf keep (.d .nilsl) (.uni t' es' r') = (r' = []) := rfl
theorem q3l {t t' es es' : Nat} {r r' : List (List D)} : wd (.uni t es r) (.uni t' es' r') = [(t, t')] := rfl
theorem qn6 {t' es es' : Nat} {r r' : List (List D)} : wd (.full es r) (.uni t' es' r') = [] := rfl
theorem qv4 {x : D} {t' es' : Nat} {r' : List (List D)} : wd (.d x) (.uni t' es' r') = [] := rfl
theorem q8s {t t' es es' : Nat} {r r' : List (List D)} : qb7 (.uni t es r) (.uni t' es' r') = (es = es' ∧ r = r') := rfl
theorem qsy {t' es' : Nat} {r' : List (List D)} : qb7 (.d .nilsl) (.uni t' es' r') = (r' = []) := rfl
theorem xm3 {i : Nat} {ι : List Nat} {t es : Nat} {rows : List (List D)} : ASlot.ren (i :: ι) (.uni t es rows) = .uni t es (D.renR (i :: ι) rows) := rfl
attribute [go_sem] xcg qsx qv3 q3l qn6 qv4 q8s qsy xm3
attribute [go_sem] xp5 xhz xh0 q8r xp6 xh1 qzh Fr.mapS AObj.mapS ASlot.only ASlot.okS neId ASlot.frz D.frz
attribute [go_sem] qy4 q27 qst q28 xbv q29 q8l q3c xbu qy5 qy6 kz xy vj qa7 jx qak yj jt qo2 qgf qpn entV KD.fit
theorem q8t (b t es : Nat) (rows : List (List D)) : qeh b (.own t es rows) = .own b es rows := by simp [qeh, wq, renT, ASlot.toks]
theorem q8u (b t es : Nat) (rows : List (List D)) : qeh b (.uni t es rows) = .uni b es rows := by simp [qeh, wq, renT, ASlot.toks]
attribute [go_sem] q8t q8u
theorem xm4 {fr : Fr} {os : List AObj} {live : List Nat} {nt : Nat} {ι : List Nat} {os' : List AObj} : St.renN ⟨fr, os, live, nt⟩ ι os' = ⟨Fr.mapS (ASlot.ren ι) fr, os', live, nt⟩ := rfl
theorem qzi (ds : List D) : ∀ l : List ASlot, qbl (ds.map .d) l = [] := by
 induction ds with
 | nil => intro l; rfl
 | cons d ds ih =>
  intro l
  cases l with
  | nil => rfl
  | cons s l => cases s <;> simp [qbl, wd, ih]
theorem xch (ds : List D) : (ds.map ASlot.d).flatMap ASlot.toks = [] := by induction ds <;> simp_all [ASlot.toks]
theorem xh2 (keep : Nat → Bool) (ds : List D) : csW keep (ds.map .d) (ds.map .d) = (D.okWL keep ds = true) := by
 induction ds with
 | nil => simp [csW, D.okWL]
 | cons d ds ih => simp only [List.map_cons, csW, ih, D.okWL, Bool.and_eq_true]; simp [qdf, ASlot.eqvD, D.eqv_refl]
theorem q3m (ds : List D) : qae (ds.map .d) = true := by
 induction ds with
 | nil => rfl
 | cons d ds ih => simpa [qae, ASlot.toks] using ih
theorem xci (ι : List Nat) (ds : List D) : (ds.map ASlot.d).map (ASlot.ren1 ι) = (D.renL ι ds).map .d := by rw [D.renL_map]; simp [ASlot.ren1]
theorem qzj (ds : List D) : (ds.map ASlot.d).all ASlot.isCellD = ds.all D.isCell := by induction ds <;> simp_all [ASlot.isCellD]
theorem q8v (ds : List D) : (ds.map ASlot.d).all ASlot.isOne = ds.all D.isCell := by induction ds <;> simp_all [ASlot.isOne]
theorem qtr (ds : List D) : (ds.map ASlot.d).map ASlot.cellD = ds := by induction ds <;> simp_all [ASlot.cellD]
theorem qzk (ds : List D) : qfn (ds.map .d) (ds.map .d) = True := by
 induction ds with
 | nil => simp [qfn]
 | cons d ds ih => simp [qfn, qyn, ASlot.eqvD, D.eqv_refl, ih]
theorem xh3 (k : Nat) (ds : List D) : (ds.map ASlot.d).all (ASlot.inKC k) = D.inKL k ds := by
 induction ds with
 | nil => rfl
 | cons d ds ih =>
  simp only [List.map_cons, List.all_cons, D.inKL] at ih ⊢
  rw [ih]; rfl
theorem xcj (ds : List D) (n : Nat) : (ds.map ASlot.d).drop n = (ds.drop n).map .d := by rw [List.map_drop]
theorem xck (ds : List D) (n : Nat) : (ds.map ASlot.d).take n = (ds.take n).map .d := by rw [List.map_take]
attribute [go_sem] qzi xch xh2 q3m xci qzj q8v qtr xcj xck qzk xh3
theorem xh4 {keep : Nat → Bool} {es es' : List (Nat × D × D)} {c c' : Nat} {l l' : List AObj} : osW keep (.map es c :: l) (.map es' c' :: l') = ((es = es' ∧ c = c') ∧ osW keep l l') := rfl
theorem xcl {keep : Nat → Bool} {m m' : ASlot} {a a' c c' : Nat} {b b' : List Nat} {l l' : List AObj} : osW keep (.iter m a b c :: l) (.iter m' a' b' c' :: l') = ((qdf keep m m' ∧ wd m m' = [] ∧ a = a' ∧ b = b' ∧ c = c') ∧ osW keep l l') := rfl
theorem qzl {es : List (Nat × D × D)} {c : Nat} {o : AObj} {l l' : List AObj} : ya (.map es c :: l) (o :: l') = ya l l' := by cases o <;> rfl
theorem qv5 {m : ASlot} {a c : Nat} {b : List Nat} {o : AObj} {l l' : List AObj} : ya (.iter m a b c :: l) (o :: l') = ya l l' := by cases o <;> rfl
theorem q3n {keep : Nat → Bool} {l' : List AObj} : osW keep [] (.none :: l') = osW keep [] l' := rfl
theorem qzm {l' : List AObj} : ya [] l' = [] := by cases l' <;> rfl
attribute [go_sem] q3n qzm
attribute [go_sem] xh4 xcl qzl qv5
attribute [go_sem] jk xm4 q76
attribute [go_sem] qgh qp9 qy7 jj ASlot.void xbt q3a q21 ASlot.len? qbp qai fits w7 wn qsc
end Go.Abs
namespace Go.Abs
section
variable {P : Program} {T : Nat → Prop} {g : Ghost} {w : World} {live live' : List Nat}
def qfp (cur : Array Value) (off : Nat) (news : List Value) : Array Value := (cur.toList.take off ++ news ++ cur.toList.drop (off + news.length)).toArray
theorem qts (cur : Array Value) (off : Nat) (news : List Value) : (qfp cur off news).toList = cur.toList.take off ++ news ++ cur.toList.drop (off + news.length) := rfl
theorem qd9 (cur : Array Value) (off : Nat) (news : List Value) (h : off + news.length ≤ cur.size) : (qfp cur off news).size = cur.size := by
 have hq : cur.toList.length = cur.size := Array.length_toList
 simp only [qfp, List.size_toArray, List.length_append, List.length_take, List.length_drop]
 omega
theorem qkp {t u ty e : TypeId} {i : TypeInfo} (ht : P.underlying t = some (.slice e)) (hi : P.info? e = some i) (W : World) (d doff dn dc : Nat) (cur : Array Value) (e0 : TypeId) (hd : W.heap[d]? = some (.cells cur e0 (0, 0)))
  (s soff sn sc : Nat) (curs : Array Value) (e1 : TypeId) (hs : W.heap[s]? = some (.cells curs e1 (0, 0))) (k : Nat) (hk : k = Nat.min sn dn) (h1 : doff + k * i.size ≤ cur.size) (h2 : soff + k * i.size ≤ curs.size)
  (hone : ∀ v ∈ (curs.toList.drop soff).take (k * i.size), v.oneCell' = true) :
  (Builtin.copy_ #[t, u] ty #[.slice (some ⟨d, doff, none⟩) dn dc, .slice (some ⟨s, soff, none⟩) sn sc]).run P W = .ok (.int .i64 k) (W.setRow d (qfp cur doff ((curs.toList.drop soff).take (k * i.size)))) := by
 subst hk
 have hq : curs.toList.length = curs.size := Array.length_toList
 have hlen : ((curs.toList.drop soff).take (Nat.min sn dn * i.size)).length = Nat.min sn dn * i.size := by rw [List.length_take, List.length_drop]; omega
 have hf : (Builtin.firstCells i.size (Nat.min sn dn) (.slice (some ⟨s, soff, none⟩) sn sc)).run P W = .ok ((curs.toList.drop soff).take (Nat.min sn dn * i.size)).toArray W := by
  refine run_firstCells_some (P := P) W i.size _ _ _ _ _ hlen (fun j v hj => ?_)
  rw [List.getElem?_take] at hj
  split at hj
  ·rw [Addr.add_lit]
   simpa [World.cell?, hs] using hj
  ·cases hj
 have hst := run_storeCells_at P d doff e0 ((curs.toList.drop soff).take (Nat.min sn dn * i.size)) 0 cur W hd (by rw [hlen]; omega) hone
 have := q5d (P := P) (w := W) (u := u) (ty := ty) ht hi (base := some ⟨d, doff, none⟩) (n := dn) (cap := dc) (k := sn) (x := .slice (some ⟨s, soff, none⟩) sn sc) (w1 := W.setRow d (qfp cur doff ((curs.toList.drop soff).take (Nat.min sn dn * i.size))))
  (by simp [Builtin.lenOf]) hf (fun ad had => by cases had; simpa [qfp] using hst) (fun h => by cases h)
 exact this
theorem Qt.setUni (hd : Dom g w) {W : World} (hos : W.os = w.os) (htape : W.tape = w.tape) (hout : W.output = w.output) {b t : Nat} (hg : g b = .uni t) (hsz : W.heap.size = w.heap.size)
  (hh : ∀ k, k ≠ b → W.heap[k]? = w.heap[k]?) : Qt (fun _ => False) g w g W live live' := by
 have hne : ∀ {k : Nat} {r : Role}, g k = r → (∀ u, r ≠ .uni u) → k ≠ b := fun h hr => by rintro rfl; rw [hg] at h; exact hr t h.symm
 refine ⟨⟨hos, htape, hout, by omega, fun k _ hgk => ⟨hh k (hne hgk (by simp)), hgk⟩, fun k m _ hgk => ⟨hh k (hne hgk (by simp)), hgk⟩,
  fun k m u _ hgk => ⟨m, some u, hgk, Nat.le_refl _, fun i v _ hv => by rw [ky (hh k (hne hgk (by simp)))]; exact hv⟩, fun k id _ hgk => ⟨hgk, Nat.le_of_eq (ji (hh k (hne hgk (by simp)))).symm⟩⟩,
  ⟨?_, hd.2.same fun k m _ hgk => ⟨hh k (hne hgk (by simp)), hgk⟩⟩, fun k id hgk => hh k (hne hgk (by simp)), fun k id h => h, fun _ _ _ h => h.elim, fun _ h => h.elim, fun _ _ h => h.elim⟩
 intro k hk
 rw [hsz] at hk
 exact hd.1 k hk
theorem Qt.addUni (hd : Dom g w) {W : World} (hos : W.os = w.os) (htape : W.tape = w.tape) (hout : W.output = w.output) (t : Nat) (hsz : W.heap.size = w.heap.size + 1)
  (hh : ∀ k, k < w.heap.size → W.heap[k]? = w.heap[k]?) : Qt (fun _ => False) g w (g.at w.heap.size (.uni t)) W live live' := by
 have hg : ∀ b, b < w.heap.size → g.at w.heap.size (.uni t) b = g b := fun b hb => Ghost.at_ne g _ (by omega)
 refine ⟨⟨hos, htape, hout, by omega, fun k hk hgk => ⟨hh k hk, by rw [hg k hk]; exact hgk⟩, fun k m hk hgk => ⟨hh k hk, by rw [hg k hk]; exact hgk⟩,
  fun k m u hk hgk => ⟨m, some u, by rw [hg k hk]; exact hgk, Nat.le_refl _, fun i v _ hv => by rw [ky (hh k hk)]; exact hv⟩, fun k id hk hgk => ⟨by rw [hg k hk]; exact hgk, Nat.le_of_eq (ji (hh k hk)).symm⟩⟩,
  ⟨?_, hd.2.same fun k m hk hgk => ⟨hh k hk, by rw [hg k hk]; exact hgk⟩⟩, fun k id hgk => hh k (hd.lt_obj hgk), fun k id h => ?_, fun _ _ _ h => h.elim, fun _ h => h.elim, fun _ _ h => h.elim⟩
 ·intro k hk
  rw [hsz] at hk
  rw [Ghost.at_ne g _ (by omega)]
  exact hd.1 k (by omega)
 ·by_cases hk : k = w.heap.size
  ·subst hk; rw [Ghost.at_same] at h; cases h
  ·rwa [Ghost.at_ne g _ hk] at h
theorem qzn {g' : Ghost} {W : World} {b cap tk es : Nat} {c : Array Value} {e : TypeId} {rows : List (List D)} {L : List Value} (hg : g' b = .uni tk) (hh : W.heap[b]? = some (.cells c e (0, 0))) (hn : rows.length ≤ cap) (hm : cap ≤ maxLen)
  (hcs : cap * es ≤ c.size) (hes : ∀ r ∈ rows, r.length = es) (hrl : RL g' W L rows.flatten) (hL : ∀ (j : Nat) (u : Value), L[j]? = some u → c[j]? = some u) :
  RC g' W live (.slice (some ⟨b, 0, none⟩) rows.length cap) (.uni tk es rows) := by
 refine ⟨⟨_, _, rfl⟩, fun _ => .inr ⟨b, cap, c, e, rfl, hg, hh, hn, hm, hcs, hes, fun j d hj => ?_⟩⟩
 have hlt : j < L.length := by rw [hrl.1]; exact (List.getElem?_eq_some_iff.1 hj).1
 exact ⟨hrl.2.1 d (List.mem_of_getElem? hj), L[j], hL j _ (List.getElem?_eq_getElem hlt), hrl.2.2 j _ d (List.getElem?_eq_getElem hlt) hj⟩
theorem xcm {t es : Nat} {l : List (List D)} {v : Value} (h : UniOk g w t es l v) (hne : l ≠ []) :
  ∃ (b cap : Nat) (cur : Array Value) (e : TypeId), v = .slice (some ⟨b, 0, none⟩) l.length cap ∧ g b = .uni t ∧ w.heap[b]? = some (.cells cur e (0, 0)) ∧ l.length ≤ cap ∧ cap ≤ maxLen ∧ cap * es ≤ cur.size ∧ (∀ r ∈ l, r.length = es) ∧
   RL g w (cur.toList.take (l.length * es)) l.flatten := by
 rcases h with ⟨ad, rfl, rfl⟩ | ⟨b, cap, cur, e, rfl, h2, h3, h4, h5, h6, h7, h8⟩
 ·exact (hne rfl).elim
 ·have hfl : l.flatten.length = l.length * es := xf h7
  have hrow : l.length * es ≤ cap * es := Nat.mul_le_mul_right _ h4
  have hlen : (cur.toList.take (l.length * es)).length = l.length * es := by have hq : cur.toList.length = cur.size := Array.length_toList; rw [List.length_take]; omega
  refine ⟨b, cap, cur, e, rfl, h2, h3, h4, h5, h6, h7, ⟨by rw [hlen, hfl], fun d hd => ?_, fun j v d hv hd => ?_⟩⟩
  ·obtain ⟨j, hj⟩ := List.getElem?_of_mem hd
   exact (h8 j d hj).1
  ·obtain ⟨_, u, c2, c3⟩ := h8 j d hd
   rw [List.getElem?_take] at hv
   split at hv
   ·simp only [Array.getElem?_toList] at hv
    rw [c2] at hv; cases hv
    exact c3
   ·cases hv
theorem RL.ones {vs : List Value} {ds : List D} (h : RL g w vs ds) : ∀ v ∈ vs, v.oneCell' = true := by
 intro v hv
 obtain ⟨j, hj⟩ := List.getElem?_of_mem hv
 have hlt : j < ds.length := by rw [← h.1]; exact (List.getElem?_eq_some_iff.1 hj).1
 exact (h.2.2 j v _ hj (List.getElem?_eq_getElem hlt)).oneCell (h.2.1 _ (List.getElem_mem hlt))
end
end Go.Abs
namespace Go.Abs
section
variable {P : Program} {ops : List SOper} {k : Nat} {tids : List (List Nat)} {K : List (List Nat) → St → Prop} {fr : Fr} {os : List AObj} {live : List Nat} {nt : Nat} {dst : Option Nat} {back es bytes : Nat} {s x : Opd} {r : Src}
theorem qtt (hr : y8 es os (x.get fr) = some r) (hK : ARun P ops (k + 1) (tids ++ [[]]) K ⟨ww fr dst true (.d (.ref (os.length - back) 0 es r.rows.length)), os.set (os.length - back) (.row (r.rows.flatten.map .d)), live, nt⟩)
  (hf : fits bytes r.rows.length) (hn : os[os.length - back]? = some .none := by rfl) (hb : 0 < back ∧ back ≤ os.length := by simp) (hok : r.ok := by trivial) (hv : (s.get fr).void = true := by rfl) (h1 : s.ok fr = true := by rfl) (h2 : x.ok fr = true := by rfl) :
  xg6 P ops k tids K dst ⟨fr, os, live, nt⟩ true back es bytes s x := by
 have e : sem (16 * (nt + k)) (.appendO back es bytes s x) ⟨fr, os, live, nt⟩ = { v := .d (.ref (os.length - back) 0 es r.rows.length), ob := s.ok fr = true ∧ x.ok fr = true ∧ r.ok ∧ (s.get fr).void = true ∧ fits bytes r.rows.length ∧ 0 < back ∧ back ≤ os.length ∧ os[os.length - back]? = some .none, rd := r.rd, wr := some (os.length - back, .row (r.rows.flatten.map .d)) } := by
  simp only [sem, jj, hr]
 refine ⟨rfl, .inl ?_⟩
 rw [e]
 refine ⟨⟨h1, h2, hok, hv, hf, hb.1, hb.2, hn⟩, ?_⟩
 have hl : ∀ (v : ASlot) (ob : Prop) (rd : Option Nat) (wr : Option (Nat × AObj)), qn live { v := v, ob := ob, rd := rd, wr := wr } = live := fun _ _ _ _ => xd rfl rfl
 simp only [St.next, hl]
 exact hK
theorem qqk (id n : Nat) (hr : y8 es os (x.get fr) = some r)
  (hA : ARun P ops (k + 1) (tids ++ [[]]) K ⟨ww fr dst true (.d (.ref id 0 es (n + r.rows.length))), os.set id (.row (yo os id es n r)), live, nt⟩)
  (hB : ARun P ops (k + 1) (tids ++ [[]]) K ⟨ww fr dst true (.d (.ref (os.length - back) 0 es (n + r.rows.length))), os.set (os.length - back) (.row (yo os id es n r)), live, nt⟩)
  (hl : n * es ≤ (qh os id).length) (hf : (n + r.rows.length) * bytes ≤ 140737488355328) (hi : n + r.rows.length ≤ 9223372036854775807) (hp : 0 < r.rows.length := by simp)
  (hs : s.get fr = .d (.ref id 0 es n) := by rfl) (hrow : qgh os id = true := by rfl) (hn : os[os.length - back]? = some .none := by rfl) (hok : r.ok := by trivial) (h1 : s.ok fr = true := by rfl) (h2 : x.ok fr = true := by rfl) :
  xg6 P ops k tids K dst ⟨fr, os, live, nt⟩ true back es bytes s x := by
 have hlv : ∀ id' : Nat, qn live (qpy id id' es n os r) = live := fun _ => xd rfl rfl
 refine ⟨rfl, .inr ⟨h1, h2, id, n, r, hs, hr, ⟨hok, hrow, hl, hp, hf, hi, hn⟩, ?_, ?_⟩⟩
 ·simp only [St.next, hlv]
  exact hA
 ·simp only [St.next, hlv]
  exact hB
end
attribute [go_sem] qy8
end Go.Abs
namespace Go.Abs
def SCode.opens : SCode → Bool
 | .pause _ => true
 | .seq a _ => a.opens
 | .block _ a => a.opens
 | _ => false
theorem qv6 {P : Program} {k0 : Nat} : ∀ (c : SCode) {Q : SExit → St → Prop} {st st' : St}, c.opens = true → Turn k0 st st' → AWp P k0 c Q st' → AWp P k0 c Q st
 | .pause _, _, _, _, _, t, ⟨s, h1, h2⟩ => ⟨s, t.trans h1, h2⟩
 | .seq a _, _, _, _, h, t, hr => qv6 a h t hr
 | .block _ a, _, _, _, h, t, hr => qv6 a h t hr
def xsu (k0 : Nat) {α : Type} (S : α → St) (st : St) : Prop := ∃ x, Weak k0 st (S x)
theorem xm5 {P : Program} {k0 : Nat} {c rest : SCode} {Q : SExit → St → Prop} {st : St} {α : Type} (S : α → St) (h1 : AWp P k0 c (qit (xsu k0 S) Q) st) (h2 : ∀ x, AWp P k0 rest Q (S x)) (hp : rest.opens = true := by rfl) :
  AWp P k0 c (qit (AWp P k0 rest Q) Q) st :=
 AWp.mono c (qfy (fun _ ⟨x, hx⟩ => qv6 rest hp (.weak hx (.refl _)) (h2 x)) fun _ _ h => h) h1
end Go.Abs
namespace Go.Abs
def SCode.regs : SCode → List (List SOper)
 | .region ops _ _ => [ops]
 | .seq a b => a.regs ++ b.regs
 | .cond _ a b => a.regs ++ b.regs
 | .block _ a => a.regs
 | .loop a => a.regs ++ [[]]
 | .rangeFunc _ _ a b => a.regs ++ b.regs ++ [[], []]
 | .pause a => a.regs
 | _ => []
def pz (ps : List Nat) (k : Nat) (a : SCode) : SCode := if ps.contains k then .pause a else a
def SCode.skel (R : Nat → List SOper) (ps : List Nat) (rp : Bool) : SCode → Nat → SCode
 | .region _ o p, k => pz ps k (.region (R k) o p)
 | .seq a b, k => .seq (a.skel R ps rp k) (b.skel R ps rp (k + a.regs.length))
 | .cond c a b, k => .cond c (a.skel R ps rp k) (b.skel R ps rp (k + a.regs.length))
 | .block i a, k => .block i (a.skel R ps rp k)
 | .loop a, k => pz ps (k + a.regs.length) (.loop (a.skel R ps rp k))
 | .rangeFunc f q a b, k => pz ps (k + (a.regs ++ b.regs).length) (.rangeFunc f q (a.skel R ps rp k) (b.skel R ps rp (k + a.regs.length)))
 | .ret, _ => if rp then .pause .ret else .ret
 | .pause a, k => a.skel R ps rp k
 | .skip, _ => .skip
 | .exit i, _ => .exit i
def xm6 (acc : List Nat) (n : Nat) : List Edge → Nat
 | [] => 0
 | e :: l => if Region.binds .any e then (1 <<< e.on ||| acc.getD (n - 1 - e.on) 0) ||| xm6 acc n l else xm6 acc n l
def qMem (sops : List SOper) : List Oper → List Nat → Nat → List (Nat × Bool × Bool × Nat)
 | o :: l, acc, n => match sops with
  | s :: t => let m := xm6 acc n o.after.toList
   if s.op.memR || s.op.memW then (n, s.op.memR, s.op.memW, m) :: qMem t l (m :: acc) (n + 1) else qMem t l (m :: acc) (n + 1)
  | [] => []
 | [], _, _ => []
def qRow (j : Nat × Bool × Bool × Nat) : List (Nat × Bool × Bool × Nat) → List (Nat × Nat)
 | [] => []
 | i :: l => if (((i.2.2.1 && (j.2.1 || j.2.2.1)) || (i.2.1 && j.2.2.1)) && (j.2.2.2 >>> i.1) % 2 == 0) = true then (i.1, j.1) :: qRow j l else qRow j l
def xlc (pre : List (Nat × Bool × Bool × Nat)) : List (Nat × Bool × Bool × Nat) → List (Nat × Nat)
 | [] => []
 | j :: l => qRow j pre ++ xlc (pre ++ [j]) l
section
variable (P : Program) (mu : List Nat) (N : Nat) (news : List (FuncId × Nat))
def qOps (ops : Array Oper) : List Oper → Option (List SOper × Nat)
 | [] => some ([], 0)
 | o :: l => match qOps ops l with
  | some (r, n) => match qdv P mu ops N (if Op.allocs o.op then n + 1 else n) o with
   | some x => some (x :: r, if Op.allocs o.op then n + 1 else n)
   | none => none
  | none => none
def xm7 (ops : Array Oper) (draw : Bool) : SCode := match qOps P mu N ops ops.toList with
 | some (sops, n) => .region sops (qx2 news sops + n) (if draw && sops.any (·.op.memW) then xlc [] (qMem sops ops.toList [] 0) else [])
 | none => .skip
def qv7 : Code → SCode
 | .region _ ops draw => xm7 P mu N news ops draw
 | .seq a b => .seq (qv7 a) (qv7 b)
 | .cond c a b => .cond ((qp c).getD (.t 0)) (qv7 a) (qv7 b)
 | .block id a => .block id (qv7 a)
 | .loop a => .loop (qv7 a)
 | .exit id => .exit id
 | .ret => .ret
 | .rangeFunc f ps a b => .rangeFunc ((qp f).getD (.t 0)) ps.toList (qv7 a) (qv7 b)
 | _ => .skip
end
def qCut (R : Nat → List SOper) (ps : List Nat) (rp : Bool) (c : SCode) : List (List SOper) × SCode := (c.regs, c.skel R ps rp 0)
structure CutIs (P : Program) (fn : Func) (mu : List Nat) (news : List (FuncId × Nat)) (ps : List Nat) (rp : Bool) where
 L : List (List SOper)
 S : (Nat → List SOper) → SCode
 h : fn.body.bind (zm P mu fn.ntmps news) = some (S fun k => L.getD k []).erase
section
variable {P : Program} {fn : Func} {mu : List Nat} {news : List (FuncId × Nat)} {ps : List Nat} {rp : Bool}
def CutIs.reg (d : CutIs P fn mu news ps rp) (k : Nat) : List SOper := d.L.getD k []
def CutIs.top (d : CutIs P fn mu news ps rp) : SCode := d.S d.reg
theorem CutIs.code (d : CutIs P fn mu news ps rp) : fn.body.bind (zm P mu fn.ntmps news) = some d.top.erase := d.h
def qv8 (d : CutIs P fn mu news ps rp) : Nat → List (List SOper) → Prop
 | _, [] => True
 | k, r :: l => (∀ {o : Nat} {p : List (Nat × Nat)} {Q : SExit → St → Prop} {st : St}, xho P (d.reg k) o p Q st = xhp P r o p Q st) ∧ qv8 d (k + 1) l
def xcn (d : CutIs P fn mu news ps rp) (L : List (List SOper)) (t : SCode) : Prop := (∀ {k0 : Nat} {Q : SExit → St → Prop} {st : St}, AWp P k0 d.top Q st = AWp P k0 t Q st) ∧ qv8 d 0 L
theorem xco (d : CutIs P fn mu news ps rp) : ∀ (l : List (List SOper)) (k : Nat), (∀ i r, l[i]? = some r → d.L[k + i]? = some r) → qv8 d k l
 | [], _, _ => trivial
 | r :: l, k, h => by
  refine ⟨fun {o p Q st} => ?_, xco d l (k + 1) fun i x hx => ?_⟩
  ·have := h 0 r rfl
   rw [Nat.add_zero] at this
   rw [CutIs.reg, List.getD_eq_getElem?_getD, this]; rfl
  ·have := h (i + 1) x hx
   rwa [show k + (i + 1) = k + 1 + i by omega] at this
def cut (P : Program) (fn : Func) (news : List (FuncId × Nat)) (mu : List Nat := []) (ps : List Nat := []) (rp : Bool := false) {L : List (List SOper)} {S : (Nat → List SOper) → SCode}
  (_ : ∀ R, (fn.body.map fun c => qCut R ps rp (qv7 P mu fn.ntmps news c)) = some (L, S R) := by intro R; conv => lhs; cbv) (h : fn.body.bind (zm P mu fn.ntmps news) = some (S fun k => L.getD k []).erase := by kernel_rfl) : CutIs P fn mu news ps rp := ⟨L, S, h⟩
theorem ql (d : CutIs P fn mu news ps rp) {L : List (List SOper)} {S : (Nat → List SOper) → SCode} {q : Prop} (hL : d.L = L := by conv => lhs; cbv) (hS : ∀ R, d.S R = S R := by intro R; conv => lhs; cbv)
  (e : xcn d L (S d.reg) = q := by conv => lhs; simp only [xcn, qv8, Nat.reduceAdd, Nat.zero_add]) : q := by
 rw [← e]
 refine ⟨fun {k0 Q st} => by rw [CutIs.top, hS], xco d L 0 fun i r hi => ?_⟩
 rw [Nat.zero_add, hL]; exact hi
theorem fnC (d : CutIs P fn mu news ps rp) {f : FuncId} {rvs : List RVar} {N : Nat} (h0 : P.follows .mixedOrders = true) (h1 : P.funcs[f]? = some fn)
  (h3 : fn.results.toList.mapM (qgn P) = some rvs := by conv => lhs; cbv) (h4 : fn.ntmps = N := by conv => lhs; cbv)
  (h5 : (P.funcs[f]?).any (fun fn => fn.body.isSome && !(fn.name == "runtime.NumGoroutine")) = true := by kernel_rfl) : FnIs P f fn mu news d.top rvs N := ⟨h0, h1, d.code, h3, h4, h5⟩
end
end Go.Abs
namespace Go.Abs
section
variable {P : Program} {g : Ghost} {w : World}
theorem qv9 {f : FuncId} {fn : Func} {c : Code} {args rs : List ASlot} {objs objs' : List AObj} {rv : List ResultVar} {rvs : List RVar}
  (hf : P.funcs[f]? = some fn) (hb : fn.body = some c) (hr : fn.results = rv.toArray) (hrv : rv.mapM (qgn P) = some rvs)
  (hN : args.length ≤ fn.ntmps) (hl : rvs.length = rs.length) (hw : ∀ t ∈ vy args ++ xh objs, t < 16)
  (h : ∀ (g : Ghost) (w : World) (vs : List Value), vs.length = args.length → Dom g w → SR fn.ntmps (below 1) g w (qhn args objs) { tmps := vs.toArray ++ Array.replicate (fn.ntmps - vs.toArray.size) undef, defers := [] } → (∀ b id, g b = .obj id → id < objs.length) →
   c.wpIn (Fw none) 0 P (fun e a' w' => ∃ e' st' g', e = SExit.real e' ∧ q2z objs.length rvs rs objs' e' st' ∧ SR fn.ntmps (below st'.nt) g' w' st' a' ∧ G g w g' w' ∧ Marks g w g' w' a'.defers) { tmps := vs.toArray ++ Array.replicate (fn.ntmps - vs.toArray.size) undef, defers := [] } w) : qg P f args objs (qp6 rs) objs' := by
 intro g w vs hd hvl hv ho
 have hs := q5o (N := fn.ntmps) hd hvl hN hv ho hw
 have h0 : ∀ b id, g b = .obj id → id < objs.length := fun b id hb => by
  obtain ⟨o, ho', _⟩ := ho.ids b id hb
  exact (List.getElem?_eq_some_iff.1 ho').1
 obtain ⟨hvl', hvg⟩ := jy hrv
 refine (callsIn_wide (n := 0)).1 (callsIn_of_wp_marks (F := Fence.wide) hf hb trivial (wpIn_mono (h g w vs hvl hd hs h0) ?_))
 rintro _ a' w' ⟨e, st', g', rfl, hq, hs', hG', hM'⟩
 have fin : xbn objs.length rvs rs objs' st' → ∀ w', SR fn.ntmps (below st'.nt) g' w' st' a' → G g w g' w' → ∃ v, (results fn a'.tmps).run P w' = .ok v w' ∧
   ∃ v' g'' live', Ending.returned v = .returned v' ∧ G g w g'' w' ∧ Dom g'' w' ∧ (∀ t ∈ (qp6 rs).toks ++ xh objs', t ∈ live') ∧ RS g'' w' live' v' (qp6 rs) ∧ ObjsOk g'' w' live' objs' := by
  rintro ⟨hgood, hwk⟩ w' hs' hG'
  have hone : ∀ (i : Nat), i < rv.length → ∃ v, ∀ (x : ResultVar) (y : RVar), rv[i]? = some x → rvs[i]? = some y → (qi3 a'.tmps x).run P w' = .ok v w' ∧ RS g' w' st'.live v (y.slot st') ∧ ∀ t ∈ (y.slot st').toks, below st'.nt t := by
   intro i hi
   have h1 : rv[i]? = some rv[i] := List.getElem?_eq_getElem hi
   have h2 : rvs[i]? = some (rvs[i]'(by omega)) := List.getElem?_eq_getElem (by omega)
   obtain ⟨v, q1, q2, q3⟩ := qtm hs' (hvg i _ _ h1 h2) (hgood _ (List.mem_of_getElem? h2))
   refine ⟨v, fun x y hx hy => ?_⟩
   rw [h1] at hx; cases hx
   rw [h2] at hy; cases hy
   exact ⟨q1, q2, q3⟩
  let us : List Value := (List.range rv.length).map fun i => if hi : i < rv.length then Classical.choose (hone i hi) else undef
  have husl : us.length = rv.length := by simp [us]
  have hus : ∀ (i : Nat) (x : ResultVar) (y : RVar) (u : Value), rv[i]? = some x → rvs[i]? = some y → us[i]? = some u → (qi3 a'.tmps x).run P w' = .ok u w' ∧ RS g' w' st'.live u (y.slot st') ∧ ∀ t ∈ (y.slot st').toks, below st'.nt t := by
   intro i x y u hx hy hu
   have hi : i < rv.length := (List.getElem?_eq_some_iff.1 hx).1
   have : u = Classical.choose (hone i hi) := by
    simp only [us, List.getElem?_map, List.getElem?_range hi, Option.map_some, Option.some.injEq, dif_pos hi] at hu
    exact hu.symm
   rw [this]
   exact Classical.choose_spec (hone i hi) x y hx hy
  have hrun : (results fn a'.tmps).run P w' = .ok (resV us) w' := qp7 hr husl (fun i x v hx hv' => by
   have hi : i < rvs.length := by rw [← hvl']; exact (List.getElem?_eq_some_iff.1 hx).1
   exact (hus i x rvs[i] v hx (List.getElem?_eq_getElem hi) hv').1)
  have hvirt : SR us.length (below st'.nt) g' w' { st' with fr := qaa (rvs.map (RVar.slot st')) 0 } { tmps := us.toArray, defers := [] } := by
   have hget : ∀ (k : Nat) (v : Bool) (s : ASlot), (qaa (rvs.map (RVar.slot st')) 0).get k = some (v, s) → v = true ∧ ∃ x y u, rv[k]? = some x ∧ rvs[k]? = some y ∧ us[k]? = some u ∧ s = y.slot st' := by
    intro k v s hk
    obtain ⟨rfl, i, hki, hs⟩ := qgo _ 0 k v s hk
    rw [Nat.zero_add] at hki
    subst hki
    simp only [List.getElem?_map, Option.map_eq_some_iff] at hs
    obtain ⟨y, hy, rfl⟩ := hs
    have hi : k < rv.length := by rw [hvl']; exact (List.getElem?_eq_some_iff.1 hy).1
    exact ⟨rfl, rv[k], y, us[k]'(by rw [husl]; exact hi), List.getElem?_eq_getElem hi, hy, List.getElem?_eq_getElem _, rfl⟩
   refine ⟨hs'.dom, trivial, by simp, fun k v s hk => ?_, hs'.objs, hs'.inj, hs'.ids, ⟨hs'.wf.live, fun k s hk t ht => ?_, hs'.wf.os⟩⟩
   ·obtain ⟨rfl, x, y, u, hx, hy, hu, rfl⟩ := hget k v s hk
    refine ⟨fun _ => ?_, fun h => by cases h⟩
    have hk' : us.toArray.getD k undef = u := by
     simp [Array.getD_eq_getD_getElem?, hu]
    show RS g' w' st'.live (us.toArray.getD k undef) _
    rw [hk']
    exact (hus k x y u hx hy hu).2.1
   ·obtain ⟨_, x, y, u, hx, hy, hu, rfl⟩ := hget k true s hk
    exact (hus k x y u hx hy hu).2.2 t ht
  obtain ⟨g'', hs'', hG'', _⟩ := hwk.sr hvirt hG' h0
  have hnt : ∀ r ∈ rs, ∀ l, r ≠ .tup l := by
   intro r hrm l hrl
   subst hrl
   obtain ⟨i, hi⟩ := List.getElem?_of_mem hrm
   obtain ⟨s, _, q2, _⟩ := qvo hwk.fr _ _ _ (qfz rs 0 i _ hi)
   exact qyx (q2 rfl)
  refine ⟨_, hrun, _, g'', vy rs ++ xh objs', rfl, hG'', hs''.dom, fun t ht => (List.mem_append.1 ht).elim (fun h => List.mem_append_left _ (qtl hnt t h)) (fun h => List.mem_append_right _ h), xbo (by rw [husl, hvl', hl]) (fun i v r h1 h2 => ?_) hnt, ⟨hs''.objs, hs''.inj, hs''.ids⟩⟩
  have h3 := (hs''.slots (0 + i) true r (qfz rs 0 i r h2)).1 rfl
  rw [Nat.zero_add] at h3
  have hk' : us.toArray.getD i undef = v := by simp [Array.getD_eq_getD_getElem?, h1]
  have h4 : RS g'' w' (vy rs ++ xh objs') (us.toArray.getD i undef) r := h3
  rw [hk'] at h4
  exact h4
 cases e with
 | normal => exact qc6 a'.defers w' hs' hG' hM' (fin hq)
 | ret => exact qc6 a'.defers w' hs' hG' hM' (fin hq)
 | exit id => exact hq.elim
end
end Go.Abs
