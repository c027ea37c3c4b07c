/- Texts Bc, Bd, Be, Bf, Bg. -/
import Derived.Test.YtinnaedmdoengaaGreatMpj
import Derived.Calls
import Derived.Orders
import Derived.Tactics
import Derived.Laws.AppendOwn
import Derived.Laws.Slices
import Derived.Laws.Closers25
import Derived.Laws.StructEq
import Derived.Laws.BytesString
import Derived.Laws.CopyRow
import Derived.MapKept
import Derived.Maps.RangeRun
import Derived.TacticsIn
import Derived.OrdersIn
import Derived.RangeFuncRecord
import Derived.RangeFuncLeaves
import Derived.IntWalk
import Derived.ProofKit
import Derived.OpenShut
import Derived.Carry

namespace Go.Abs
open Go.ChangeShapes Go.RowKit
def argS (P : Program) (t : TypeId) (ds : List D) : ASlot :=
 match P.underlying t with
 | some (.struct _) => .d (.agg ds)
 | some (.array _ _) => .d (.agg ds)
 | _ => .d (ds.headD default)
def q3h (P : Program) (n : Nat) (K : List ASlot → Prop) : List TypeId → List ASlot → Prop
 | [], acc => K acc
 | t :: ts, acc => ∀ ds, Shp P n t ds → q3h P n K ts (acc ++ [argS P t ds])
section
variable {H : Type} {enc : TypeId × Value → H} {P : Program} {W W' : World}
theorem xh7 {n : Nat} {t : TypeId} {ds : List D} (h : Shp P n t ds) (h1 : ∀ fs, P.underlying t ≠ some (.struct fs)) (h2 : ∀ m e, P.underlying t ≠ some (.array m e)) : ∃ d, ds = [d] := by
 cases n with
 | zero => exact h.elim
 | succ n =>
  unfold Shp at h
  split at h
  ·obtain ⟨b, rfl⟩ := h; exact ⟨_, rfl⟩
  ·obtain ⟨b, rfl, _⟩ := h; exact ⟨_, rfl⟩
  ·obtain ⟨b, rfl, _⟩ := h; exact ⟨_, rfl⟩
  ·obtain ⟨b, rfl, _⟩ := h; exact ⟨_, rfl⟩
  ·rename_i fs hu; exact (h1 fs hu).elim
  ·rename_i m e hu; exact (h2 m e hu).elim
  ·exact h.elim
theorem xkw {n base : Nat} {t : TypeId} {v : Value} {d : DataW H} {ps : List MemPlace} (hp : qe2 P n t = true) (h : DataW.Trod enc P W 0 (fun _ => true) true t v d ps) (hv : Value.okWide P W .any base t v) :
  ∃ ds, Shp P n t ds ∧ RC (outG W) W [] v (argS P t ds) := by
 obtain ⟨fuel, h⟩ := h
 obtain ⟨ds, hrl, hs⟩ := qmt n fuel t _ _ hp h
 refine ⟨ds, hs, ?_⟩
 unfold argS
 have agg : (∃ cs, v = .agg cs) → RC (outG W) W [] v (.d (.agg ds)) := by
  rintro ⟨cs, rfl⟩
  have := hrl.agg
  simpa [Value.cells, RC] using this
 unfold Value.okWide at hv
 split
 ·rename_i fs hu
  rw [hu] at hv
  obtain ⟨cs, hcs, _⟩ := hv
  exact agg ⟨cs, hcs⟩
 ·rename_i m e hu
  rw [hu] at hv
  obtain ⟨cs, hcs, _⟩ := hv
  exact agg ⟨cs, hcs⟩
 ·rename_i h1 h2
  obtain ⟨d, rfl⟩ := xh7 hs h1 h2
  have hl := hrl.1
  cases v with
  | agg cs =>
   exfalso
   have hwide : Cell.okWide P W .any base t (.agg cs) := by
    split at hv
    ·rename_i fs hu; exact (h1 fs hu).elim
    ·rename_i m e hu; exact (h2 m e hu).elim
    ·exact hv
   unfold Cell.okWide at hwide
   split at hwide <;> first | (rename_i hx; cases hx; done) | skip
   all_goals first | (rename_i hx _; cases hx; done) | (simp [Cell.ok] at hwide; done) | skip
  | _ => exact hrl.2.2 0 _ d rfl rfl
theorem qmu {ts : List TypeId} (hl : laidOutB P = true) (hr : (ts.all fun t => P.readableRec t && decide (t < P.types.size)) = true) (hb : Below W.heap.size W W') : ∀ {vs : List Value} {ds : List (DataW H)} {ps : List MemPlace},
  DataW.TrodAll enc P W 0 (fun _ => true) true ts vs ds ps → (∀ x ∈ ps, x.block < W.heap.size) → DataW.TrodAll enc P W' 0 (fun b => decide (b < W.heap.size)) true ts vs ds ps := by
 induction ts with
 | nil =>
  intro vs ds ps h _
  obtain ⟨rfl, rfl, rfl⟩ := trodAll_nil h
  exact trodAll_mk0
 | cons t ts ih =>
  intro vs ds ps h hlt
  simp only [List.all_cons, Bool.and_eq_true, decide_eq_true_eq] at hr
  obtain ⟨v, vs', d, ds', p, q, rfl, rfl, rfl, h1, h2⟩ := trodAll_cons h
  exact ⟨p, q, Below.trod hl hr.1.1 hr.1.2 h1 hb (fun x hx => hlt x (List.mem_append_left _ hx)), ih (by simpa using hr.2) h2 (fun x hx => hlt x (List.mem_append_right _ hx)), rfl⟩
theorem qtr {n base : Nat} {K : List ASlot → Prop} : ∀ {ts : List TypeId} {vs : List Value} {ds : List (DataW H)} {ps : List MemPlace} {acc : List ASlot} {us : List Value}, (ts.all (qe2 P n)) = true → q3h P n K ts acc →
  DataW.TrodAll enc P W 0 (fun _ => true) true ts vs ds ps → (∀ (j : Nat) (t : TypeId) (v : Value), ts[j]? = some t → vs[j]? = some v → Value.okWide P W .any base t v) →
  us.length = acc.length → (∀ (i : Nat) (v : Value) (s : ASlot), us[i]? = some v → acc[i]? = some s → RC (outG W) W [] v s) → (∀ s ∈ acc, s.toks = []) →
  ∃ slots, K slots ∧ (us ++ vs).length = slots.length ∧ (∀ (i : Nat) (v : Value) (s : ASlot), (us ++ vs)[i]? = some v → slots[i]? = some s → RC (outG W) W [] v s) ∧ ∀ s ∈ slots, s.toks = []
 | [], vs, ds, ps, acc, us, _, hk, h, _, hl, hr, ht => by
  obtain ⟨rfl, rfl, rfl⟩ := trodAll_nil h
  rw [List.append_nil]
  exact ⟨acc, hk, hl, hr, ht⟩
 | t :: ts, vs, ds, ps, acc, us, hp, hk, h, hv, hl, hr, ht => by
  simp only [List.all_cons, Bool.and_eq_true] at hp
  obtain ⟨v, vs', d, ds', p, q, rfl, rfl, rfl, h1, h2⟩ := trodAll_cons h
  obtain ⟨dl, hs, hrc⟩ := xkw hp.1 h1 (hv 0 t v rfl rfl)
  have := qtr (us := us ++ [v]) hp.2 (hk dl hs) h2 (fun j t' v' ht hv' => hv (j + 1) t' v' (by simpa using ht) (by simpa using hv')) (by simp [hl]) (fun i u s hu hs' => by
   by_cases hi : i < us.length
   ·rw [List.getElem?_append_left hi] at hu
    rw [List.getElem?_append_left (by omega)] at hs'
    exact hr i u s hu hs'
   ·rw [List.getElem?_append_right (by omega)] at hu
    rw [List.getElem?_append_right (by omega)] at hs'
    rw [hl] at hu
    cases hj : i - acc.length with
    | zero => rw [hj] at hu hs'; simp at hu hs'; subst hu hs'; exact hrc
    | succ j => rw [hj] at hu; simp at hu) (fun s hs' => by
   rcases List.mem_append.1 hs' with h | h
   ·exact ht s h
   ·simp at h; subst h; unfold argS; split <;> rfl)
  rw [List.append_assoc] at this
  exact this
theorem qx2 {fid : FuncId} {f : Func} {s : ChangeSpec} {apart fresh handsOn : Bool} {n base : Nat} {tb : TypeId} {args : Array Value} {ds gs : List (DataW H)} {before : List MemPlace}
  (hl : laidOutB P = true) (hts : (f.params.toList.all fun t => P.readableRec t && decide (t < P.types.size)) = true) (hp : (f.params.toList.all (qe2 P n)) = true)
  (hret : f.resultTypes = #[tb]) (htb : P.underlying tb = some .bool) (hvars : s.vars = [])
  (hfn : ∀ ds : List (DataW H), ds.length = f.params.toList.length → s.fn H ds = { results := [.lit (.bool true)], args := ds })
  (hc : q3h P n (fun slots => ql P fid slots [] (.d (.bool true)) []) f.params.toList [])
  (hW : DataW.Whole enc P f.params.toList s.vars apart W args.toList ds gs before)
  (hval : ∀ (j : Nat) (t : TypeId) (v : Value), f.params[j]? = some t → args[j]? = some v → Value.okWide P W .any base t v) :
  Calls P fid args W fun e W' => ∃ v, e = .returned v ∧ s.post enc P f apart fresh handsOn false W args v W' := by
 have hW0 := hW
 obtain ⟨p, q, hA, hV, rfl, _, _⟩ := hW
 rw [hvars] at hV
 obtain ⟨rfl, rfl⟩ := trodVars_none hV
 obtain ⟨slots, hk, q1, q2, q3⟩ := qtr (us := []) hp hc hA (fun j t v ht hv => hval j t v (by simpa using ht) (by simpa using hv)) rfl (by simp) (by simp)
 have htk : jx slots = [] := by
  unfold jx
  rw [List.flatMap_eq_nil_iff]
  exact q3
 have hobj : ∀ b id, outG W b ≠ .obj id := by
  intro b id h
  unfold outG at h
  split at h <;> cases h
 have hcall := hk (outG W) W args.toList (q3e W) (by simpa using q1) (by rw [htk]; simpa using q2) ⟨fun id o h => by simp at h, fun b b' id h => (hobj b id h).elim, fun b id h => (hobj b id h).elim⟩
 refine hcall.mono ?_
 rintro e W' ⟨v, g', live', rfl, hG, hdom, _, hrs, _⟩
 have hv : v = .bool true := wk (jh hrs)
 subst hv
 have hb : Below W.heap.size W W' := by
  refine ⟨hG.os, hG.tape, hG.output, hG.size, fun b hb => ?_⟩
  cases hg : outG W b with
  | out => exact (hG.out b hb hg).1
  | row m o =>
   cases o with
   | none => exact (hG.rowN b m hb hg).1
   | some t =>
    unfold outG at hg
    split at hg <;> cases hg
  | uni t =>
   unfold outG at hg
   split at hg <;> cases hg
  | obj id => exact (hobj b id hg).elim
 have hlen : ds.length = f.params.toList.length := by
  have : ∀ {ts : List TypeId} {vs : List Value} {ds : List (DataW H)} {ps : List MemPlace}, DataW.TrodAll enc P W 0 (fun _ => true) true ts vs ds ps → ds.length = ts.length := by
   intro ts
   induction ts with
   | nil => intro vs ds ps h; obtain ⟨_, rfl, _⟩ := trodAll_nil h; rfl
   | cons t ts ih => intro vs ds ps h; obtain ⟨v, vs', d, ds', p, q, rfl, rfl, rfl, _, h2⟩ := trodAll_cons h; simp [ih h2]
  exact this hA
 have hlt : ∀ x ∈ p ++ [], x.block < W.heap.size := fun x hx => hW0.lt x hx
 refine ⟨_, rfl, ds, [], p ++ [], [], p, [], hW0, ?_, ?_, ?_, ?_, fun h => by cases h⟩
 ·rw [List.append_nil, hfn ds hlen, hret]
  exact trodAll_mk1 (shut_bool htb true)
 ·rw [List.append_nil, hfn ds hlen]
  exact qmu hl hts hb hA (fun x hx => hlt x (by simpa using hx))
 ·rw [List.append_nil, hfn ds hlen, hvars]
  exact rfl
 ·refine World.keptBut_mono (fun x hx => ⟨hx, .inr (.inl ?_)⟩) (hb.frame (· ∈ p ++ []))
  simpa using hx
end
end Go.Abs
namespace Go.Abs
structure FnIs (P : Program) (f : FuncId) (fn : Func) (mu : List Nat) (news : List (FuncId × Nat)) (sc : SCode) (rvs : List RVar) (N : Nat) : Prop where
 fol : P.follows .mixedOrders = true
 isf : P.funcs[f]? = some fn
 code : fn.body.bind (x5 P mu fn.ntmps news) = some sc.erase
 res : fn.results.toList.mapM (qd1 P) = some rvs
 num : fn.ntmps = N
 body : (P.funcs[f]?).any (fun fn => fn.body.isSome && !(fn.name == "runtime.NumGoroutine")) = true
abbrev qa {a b : List SOper} (h : a = b) : Prop := ∀ {P : Program} {o : Nat} {p : List (Nat × Nat)} {Q : SExit → St → Prop} {st : St}, xh2 P a o p Q st = xh4 P (xh6 h) o p Q st
theorem qc {a b : List SOper} {h : a = b} : qa h := q3d h
abbrev qf {a b : SCode} (_ : a = b) : Prop := ∀ {P : Program} {k0 : Nat} {Q : SExit → St → Prop} {st : St}, AWp P k0 a Q st = AWp P k0 b Q st
theorem qg {a b : SCode} (h : a = b) : qf h := by subst h; intro _ _ _ _; rfl
theorem xo {P : Program} {f : FuncId} {fn : Func} {mu : List Nat} {news : List (FuncId × Nat)} {sc : SCode} {rvs : List RVar} {N : Nat} (h0 : P.follows .mixedOrders = true) (h1 : P.funcs[f]? = some fn)
  (h2 : fn.body.bind (x5 P mu fn.ntmps news) = some sc.erase := by kernel_rfl) (h3 : fn.results.toList.mapM (qd1 P) = some rvs := by kernel_rfl) (h4 : fn.ntmps = N := by kernel_rfl)
  (h5 : (P.funcs[f]?).any (fun fn => fn.body.isSome && !(fn.name == "runtime.NumGoroutine")) = true := by kernel_rfl) : FnIs P f fn mu news sc rvs N := ⟨h0, h1, h2, h3, h4, h5⟩
section
variable {P : Program} {f : FuncId} {fn : Func} {mu : List Nat} {news : List (FuncId × Nat)} {sc : SCode} {rvs : List RVar} {N : Nat} {args rs : List ASlot} {r : ASlot} {objs objs' : List AObj}
theorem FnIs.go (F : FnIs P f fn mu news sc rvs N) (h : AWp P objs.length sc (qxf objs.length rvs [r] objs') (qf1 args objs)) (hN : args.length ≤ N := by simp) (hl : rvs.length = 1 := by rfl) (hw : ltB 16 (jx args ++ qbh objs) = true := by first | rfl | simp only [go_sem]) :
  ql P f args objs r objs' :=
 qtp (rs := [r]) F.fol F.isf F.code F.res h (by rw [F.num]; exact hN) (by rw [hl]; rfl) hw
theorem FnIs.goT (F : FnIs P f fn mu news sc rvs N) (h : AWp P objs.length sc (qxf objs.length rvs rs objs') (qf1 args objs)) (hN : args.length ≤ N := by simp) (hl : rvs.length = rs.length := by rfl) (hn : rs.length ≠ 1 := by simp) (hw : ltB 16 (jx args ++ qbh objs) = true := by first | rfl | simp only [go_sem]) :
  ql P f args objs (.tup rs) objs' := by
 rw [← qxw hn]
 exact qtp F.fol F.isf F.code F.res h (by rw [F.num]; exact hN) hl hw
end
theorem ev {p q : Prop} (h : q) (e : p = q := by conv => lhs; simp only [go_sem, Nat.reduceAdd, Nat.reduceMul, Nat.reduceSub, Nat.reduceEqDiff, Nat.reduceLT, Nat.reduceLeDiff, Nat.reduceBEq, reduceIte, reduceCtorEq, Int.reduceAdd, Int.reduceLT, Int.reduceLE, Int.reduceGT, Int.reduceGE, Int.reduceEq, Int.reduceNe, Int.reduceBEq, Int.reduceBNe, Int.reduceToNat, Int.reduceNeg]) : p := e ▸ h
theorem evT {p : Prop} (e : p = True := by simp only [go_sem, Nat.reduceAdd, Nat.reduceMul, Nat.reduceSub, Nat.reduceEqDiff, Nat.reduceLT, Nat.reduceLeDiff, Nat.reduceBEq, reduceIte, reduceCtorEq, Int.reduceAdd, Int.reduceLT, Int.reduceLE, Int.reduceGT, Int.reduceGE, Int.reduceEq, Int.reduceNe, Int.reduceBEq, Int.reduceBNe, Int.reduceToNat, Int.reduceNeg]) : p := of_eq_true e
theorem ev1 {A1 p q : Prop} (a1 : A1) (h : q) (e : A1 → p = q := by intro z1; conv => lhs; simp only [z1, go_sem, Nat.reduceAdd, Nat.reduceMul, Nat.reduceSub, Nat.reduceEqDiff, Nat.reduceLT, Nat.reduceLeDiff, Nat.reduceBEq, reduceIte, reduceCtorEq, Int.reduceAdd, Int.reduceLT, Int.reduceLE, Int.reduceGT, Int.reduceGE, Int.reduceEq, Int.reduceNe, Int.reduceBEq, Int.reduceBNe, Int.reduceToNat, Int.reduceNeg]) : p := (e a1).mpr h
theorem ev2 {A1 A2 p q : Prop} (a1 : A1) (a2 : A2) (h : q) (e : A1 → A2 → p = q := by intro z1 z2; conv => lhs; simp only [z1, z2, go_sem, Nat.reduceAdd, Nat.reduceMul, Nat.reduceSub, Nat.reduceEqDiff, Nat.reduceLT, Nat.reduceLeDiff, Nat.reduceBEq, reduceIte, reduceCtorEq, Int.reduceAdd, Int.reduceLT, Int.reduceLE, Int.reduceGT, Int.reduceGE, Int.reduceEq, Int.reduceNe, Int.reduceBEq, Int.reduceBNe, Int.reduceToNat, Int.reduceNeg]) : p := (e a1 a2).mpr h
theorem ev3 {A1 A2 A3 p q : Prop} (a1 : A1) (a2 : A2) (a3 : A3) (h : q) (e : A1 → A2 → A3 → p = q := by intro z1 z2 z3; conv => lhs; simp only [z1, z2, z3, go_sem, Nat.reduceAdd, Nat.reduceMul, Nat.reduceSub, Nat.reduceEqDiff, Nat.reduceLT, Nat.reduceLeDiff, Nat.reduceBEq, reduceIte, reduceCtorEq, Int.reduceAdd, Int.reduceLT, Int.reduceLE, Int.reduceGT, Int.reduceGE, Int.reduceEq, Int.reduceNe, Int.reduceBEq, Int.reduceBNe, Int.reduceToNat, Int.reduceNeg]) : p := (e a1 a2 a3).mpr h
theorem ev4 {A1 A2 A3 A4 p q : Prop} (a1 : A1) (a2 : A2) (a3 : A3) (a4 : A4) (h : q) (e : A1 → A2 → A3 → A4 → p = q := by intro z1 z2 z3 z4; conv => lhs; simp only [z1, z2, z3, z4, go_sem, Nat.reduceAdd, Nat.reduceMul, Nat.reduceSub, Nat.reduceEqDiff, Nat.reduceLT, Nat.reduceLeDiff, Nat.reduceBEq, reduceIte, reduceCtorEq, Int.reduceAdd, Int.reduceLT, Int.reduceLE, Int.reduceGT, Int.reduceGE, Int.reduceEq, Int.reduceNe, Int.reduceBEq, Int.reduceBNe, Int.reduceToNat, Int.reduceNeg]) : p := (e a1 a2 a3 a4).mpr h
theorem ev5 {A1 A2 A3 A4 A5 p q : Prop} (a1 : A1) (a2 : A2) (a3 : A3) (a4 : A4) (a5 : A5) (h : q) (e : A1 → A2 → A3 → A4 → A5 → p = q := by intro z1 z2 z3 z4 z5; conv => lhs; simp only [z1, z2, z3, z4, z5, go_sem, Nat.reduceAdd, Nat.reduceMul, Nat.reduceSub, Nat.reduceEqDiff, Nat.reduceLT, Nat.reduceLeDiff, Nat.reduceBEq, reduceIte, reduceCtorEq, Int.reduceAdd, Int.reduceLT, Int.reduceLE, Int.reduceGT, Int.reduceGE, Int.reduceEq, Int.reduceNe, Int.reduceBEq, Int.reduceBNe, Int.reduceToNat, Int.reduceNeg]) : p := (e a1 a2 a3 a4 a5).mpr h
theorem ev6 {A1 A2 A3 A4 A5 A6 p q : Prop} (a1 : A1) (a2 : A2) (a3 : A3) (a4 : A4) (a5 : A5) (a6 : A6) (h : q) (e : A1 → A2 → A3 → A4 → A5 → A6 → p = q := by intro z1 z2 z3 z4 z5 z6; conv => lhs; simp only [z1, z2, z3, z4, z5, z6, go_sem, Nat.reduceAdd, Nat.reduceMul, Nat.reduceSub, Nat.reduceEqDiff, Nat.reduceLT, Nat.reduceLeDiff, Nat.reduceBEq, reduceIte, reduceCtorEq, Int.reduceAdd, Int.reduceLT, Int.reduceLE, Int.reduceGT, Int.reduceGE, Int.reduceEq, Int.reduceNe, Int.reduceBEq, Int.reduceBNe, Int.reduceToNat, Int.reduceNeg]) : p := (e a1 a2 a3 a4 a5 a6).mpr h
theorem ev7 {A1 A2 A3 A4 A5 A6 A7 p q : Prop} (a1 : A1) (a2 : A2) (a3 : A3) (a4 : A4) (a5 : A5) (a6 : A6) (a7 : A7) (h : q) (e : A1 → A2 → A3 → A4 → A5 → A6 → A7 → p = q := by intro z1 z2 z3 z4 z5 z6 z7; conv => lhs; simp only [z1, z2, z3, z4, z5, z6, z7, go_sem, Nat.reduceAdd, Nat.reduceMul, Nat.reduceSub, Nat.reduceEqDiff, Nat.reduceLT, Nat.reduceLeDiff, Nat.reduceBEq, reduceIte, reduceCtorEq, Int.reduceAdd, Int.reduceLT, Int.reduceLE, Int.reduceGT, Int.reduceGE, Int.reduceEq, Int.reduceNe, Int.reduceBEq, Int.reduceBNe, Int.reduceToNat, Int.reduceNeg]) : p := (e a1 a2 a3 a4 a5 a6 a7).mpr h
theorem ev8 {A1 A2 A3 A4 A5 A6 A7 A8 p q : Prop} (a1 : A1) (a2 : A2) (a3 : A3) (a4 : A4) (a5 : A5) (a6 : A6) (a7 : A7) (a8 : A8) (h : q) (e : A1 → A2 → A3 → A4 → A5 → A6 → A7 → A8 → p = q := by intro z1 z2 z3 z4 z5 z6 z7 z8; conv => lhs; simp only [z1, z2, z3, z4, z5, z6, z7, z8, go_sem, Nat.reduceAdd, Nat.reduceMul, Nat.reduceSub, Nat.reduceEqDiff, Nat.reduceLT, Nat.reduceLeDiff, Nat.reduceBEq, reduceIte, reduceCtorEq, Int.reduceAdd, Int.reduceLT, Int.reduceLE, Int.reduceGT, Int.reduceGE, Int.reduceEq, Int.reduceNe, Int.reduceBEq, Int.reduceBNe, Int.reduceToNat, Int.reduceNeg]) : p := (e a1 a2 a3 a4 a5 a6 a7 a8).mpr h
theorem ob {p q : Prop} (k : q) (h : p := by first | omega | (simp_all; done) | grind) : p ∧ q := ⟨h, k⟩
section
variable {P : Program} {f : FuncId} {fn : Func} {mu : List Nat} {news : List (FuncId × Nat)} {sc : SCode} {rvs : List RVar} {N : Nat}
variable {ops : List SOper} {k : Nat} {tids : List (List Nat)} {K : List (List Nat) → St → Prop} {fr : Fr} {os : List AObj} {live : List Nat} {nt : Nat} {dst : Option Nat} {g ok : Bool} {fa as : List ASlot} {r : ASlot} {fo fo' : List AObj}
theorem cl (F : FnIs P f fn mu news sc rvs N) (hc : ql P f fa [] r []) (hK : ARun P ops (k + 1) (tids ++ [[]]) K ⟨jj fr dst g r, os, live, nt⟩)
  (ho : g = true → ok = true := by first | exact fun h => h | exact fun _ => rfl | (intro h; simp only [h, Bool.and_self, Bool.and_true]))
  (hfit : g = true → vg as fa := by intro _; first | exact trivial | exact ⟨qd, trivial⟩ | exact ⟨qd, qd, trivial⟩ | exact ⟨qd, qd, qd, trivial⟩ | exact ⟨qd, qd, qd, qd, trivial⟩ | exact evT)
  (hnp : fa.all ASlot.noPtr = true := by first | rfl | exact evT) (hh : qx as fa = [] := by rfl) (hr : r.toks = [] := by rfl) :
  qf3 P ops k tids K dst ⟨fr, os, live, nt⟩ g (some (f, as)) ok := xj hc F.body ho hfit hnp hh hr hK
theorem clF (F : FnIs P f fn mu news sc rvs N) (hc : ql P f fa [] r []) (hfit : g = true → vg as fa) (hK : ARun P ops (k + 1) (tids ++ [[]]) K ⟨jj fr dst g r, os, live, nt⟩)
  (ho : g = true → ok = true := by first | exact fun h => h | exact fun _ => rfl | (intro h; simp only [h, Bool.and_self, Bool.and_true]))
  (hnp : fa.all ASlot.noPtr = true := by first | rfl | exact evT) (hh : qx as fa = [] := by rfl) (hr : r.toks = [] := by rfl) :
  qf3 P ops k tids K dst ⟨fr, os, live, nt⟩ g (some (f, as)) ok := xj hc F.body ho hfit hnp hh hr hK
theorem qx3 (hK : ARun P ops (k + 1) (tids ++ [[]]) K ⟨jj fr dst g (.d (.bool false)), os, live, nt⟩) {c : Option (FuncId × List ASlot)} (hg : g = false := by rfl) : qf3 P ops k tids K dst ⟨fr, os, live, nt⟩ g c ok :=
 yf (.bool false) hg hK
theorem clO (ι : List Nat) (F : FnIs P f fn mu news sc rvs N) (hc : ql P f fa fo r fo') (hK : ARun P ops (k + 1) (tids ++ [ι ++ ι.map fun i => 1000000 + i]) K ⟨jj fr dst true (r.ren ι), x8 os (ι.zip (fo'.map (AObj.ren ι))), live, nt⟩)
  (ho : ok = true := by first | rfl | exact evT)
  (hfit : vg as (fa.map (ASlot.ren ι)) := by first | exact ⟨qd, trivial⟩ | exact ⟨qd, qd, trivial⟩ | exact evT)
  (hin : fa.all (ASlot.inK fo.length) = true := by first | rfl | exact evT) (hh : qx as fa = [] := by rfl) (hr : r.toks = [] := by rfl)
  (hnd : ι.Nodup := by decide) (hlen : ι.length = fo'.length := by rfl) (hle : fo.length ≤ fo'.length := by simp) (hold : qat ι os ι fo := by exact evT)
  (hnew : (ι.drop fo.length).all (isNone os) = true := by first | rfl | exact evT) (hik : fo.all (AObj.inK fo.length) = true := by first | rfl | exact evT) (htk : (fo'.all fun o => qcq o.cells) = true := by first | rfl | exact evT) :
  qf3 P ops k tids K dst ⟨fr, os, live, nt⟩ true (some (f, as)) ok := qxp ι hc F.body ho hfit hin hh hr hnd hlen hle hold hnew hik htk hK
theorem clA (F : FnIs P f fn mu news sc rvs N) (hc : ql P f fa [] r []) (hK : ARun P ops (k + 1) (tids ++ [[]]) K ⟨jj fr dst true (wv (16 * (nt + k)) r), os, (live.filter fun t => !((qx as fa).map (·.1)).contains t) ++ (wv (16 * (nt + k)) r).toks, nt⟩)
  (ho : ok = true := by first | rfl | exact evT)
  (h1 : vg as fa := by first | exact trivial | exact ⟨qd, trivial⟩ | exact ⟨qd, qd, trivial⟩ | exact evT) (h2 : fa.all ASlot.noPtr = true := by first | rfl | exact evT) (h3 : ∀ p ∈ qx as fa, p.1 ∈ live := by first | (intro p hp; cases hp; done) | simp [qx]) (h4 : ((qx as fa).map (·.1)).Nodup := by first | exact List.nodup_nil | simp [qx])
  (hnd : r.toks.Nodup := by first | exact List.nodup_nil | simp [ASlot.toks]) (hfew : r.toks.length ≤ 16 := by simp [ASlot.toks]) :
  qf3 P ops k tids K dst ⟨fr, os, live, nt⟩ true (some (f, as)) ok := qi4 hc F.body ho ⟨h1, h2, h3, h4⟩ hnd hfew hK
end
section
variable {P : Program} {k0 : Nat} {a x y : SCode} {Q : SExit → St → Prop} {st : St} {c : Opd}
theorem ju (t : Bool) (hx : t = true → AWp P k0 x Q st) (hy : t = false → AWp P k0 y Q st) (h1 : c.ok st.fr = true := by rfl) (h2 : c.get st.fr = .d (.bool t) := by rfl) : AWp P k0 (.cond c x y) Q st := qo t h1 h2 hx hy
theorem no_ (hy : AWp P k0 y Q st) (h1 : c.ok st.fr = true := by rfl) (h2 : c.get st.fr = .d (.bool false) := by rfl) : AWp P k0 (.cond c x y) Q st := qo false h1 h2 (fun h => Bool.noConfusion h) (fun _ => hy)
theorem qcr (hx : AWp P k0 x Q st) (h1 : c.ok st.fr = true := by rfl) (h2 : c.get st.fr = .d (.bool true) := by rfl) : AWp P k0 (.cond c x y) Q st := qo true h1 h2 (fun _ => hx) (fun h => Bool.noConfusion h)
theorem xkx {f : Opd} {ps : List Nat} (gf : FuncId) (caps : List D) (ι : List Nat) (fo : List AObj) (vals : List (List D)) (S : Nat → St) (fr0 : Fr) (hseq : ASeq P gf caps fo vals) (hwk : Weak k0 st (S 0))
  (hround : ∀ k vs, vals[k]? = some vs → AWp P (S k).os.length x (qez (fun st2 => AWp P st2.os.length y (qez (fun st3 => Turn k0 { st3 with fr := fr0 } (S (k + 1))) (fun _ _ => False)) st2) (fun _ _ => False)) { S k with fr := jf ps vs fr0 })
  (hK : Q .normal (S vals.length)) (hvl : ∀ vs ∈ vals, vs.length = ps.length ∧ D.noPtrL vs = true)
  (hob : qat ι st.os ι fo) (hSn : ∀ k id, id ∈ ι → kx (S k).os id = false)
  (h1 : f.ok st.fr = true := by rfl) (h2 : f.get st.fr = .d (.func (.func gf) [] (caps.map (D.ren ι))) := by rfl) (hin : ∀ d ∈ caps, d.inK fo.length = true := by simp [D.inK]) (hnd : ι.Nodup := by decide) (hlen : ι.length = fo.length := by rfl)
  (hik : fo.all (AObj.inK fo.length) = true := by first | rfl | simp only [go_sem]) (hge : ∀ id ∈ ι, k0 ≤ id := by simp) (hfr : fr0.plain = true := by rfl) (hSf : ∀ k, (S k).fr = fr0 := by intro _; rfl) :
  AWp P k0 (.rangeFunc f ps x y) Q st :=
 ⟨gf, caps, ι, fo, vals, S, fr0, ⟨h1, h2, hseq, hin, hnd, hlen, hob, hik, hge, hvl, hfr, hSf, hSn, hwk⟩, hround, hK⟩
theorem pu (h : AWp P k0 a Q st) : AWp P k0 (.pause a) Q st := ⟨st, .refl st, h⟩
end
section
variable {fr : Fr} {os : List AObj} {live : List Nat} {nt : Nat}
theorem xk0 {k t es : Nat} {rows : List (List D)} : St.u2o ⟨fr, os, live, nt⟩ (.fr k) t es rows = ⟨(k, true, .d (.ref os.length 0 es rows.length)) :: fr, os ++ [.row (rows.flatten.map .d)], live.filter fun u => !(u == t), nt⟩ := rfl
theorem q3i {id i t es : Nat} {rows : List (List D)} : St.u2o ⟨fr, os, live, nt⟩ (.cell id i) t es rows = ⟨fr, os.set id (.row ((qh os id).set i (.d (.ref os.length 0 es rows.length)))) ++ [.row (rows.flatten.map .d)], live.filter fun u => !(u == t), nt⟩ := rfl
theorem q3j {k t es : Nat} {rows : List (List D)} : St.u2own ⟨fr, os, live, nt⟩ (.fr k) t es rows = ⟨(k, true, .own (16 * nt) es rows) :: fr, os, (live.filter fun u => !(u == t)) ++ [16 * nt], nt + 1⟩ := rfl
theorem qvi {id i t es : Nat} {rows : List (List D)} : St.u2own ⟨fr, os, live, nt⟩ (.cell id i) t es rows = ⟨fr, os.set id (.row ((qh os id).set i (.own (16 * nt) es rows))), (live.filter fun u => !(u == t)) ++ [16 * nt], nt + 1⟩ := rfl
theorem xk1 {k id es : Nat} {rows : List (List D)} : St.o2u ⟨fr, os, live, nt⟩ (.fr k) id es rows = ⟨(k, true, .uni (16 * nt) es rows) :: Fr.mapS (ASlot.only (neId id)) fr, (os.map (AObj.mapS (ASlot.only (neId id)))).set id .none, live ++ [16 * nt], nt + 1⟩ := rfl
theorem q3k {j i id es : Nat} {rows : List (List D)} : St.o2u ⟨fr, os, live, nt⟩ (.cell j i) id es rows =
  ⟨Fr.mapS (ASlot.only (neId id)) fr, ((os.map (AObj.mapS (ASlot.only (neId id)))).set id .none).set j (.row ((qh ((os.map (AObj.mapS (ASlot.only (neId id)))).set id .none) j).set i (.uni (16 * nt) es rows))), live ++ [16 * nt], nt + 1⟩ := rfl
theorem xk2 {id es : Nat} {rows : List (List D)} : St.frz ⟨fr, os, live, nt⟩ id es rows = ⟨Fr.mapS (fun s => (s.frz id es rows).only (neId id)) fr, (os.map (AObj.mapS fun s => (s.frz id es rows).only (neId id))).set id .none, live, nt⟩ := rfl
end
theorem qx4 {keep : Nat → Bool} {t t' es es' : Nat} {r r' : List (List D)} : yw keep (.uni t es r) (.uni t' es' r') = ((es = es' ∧ r = r') ∧ D.noPtrR r' = true) := rfl
theorem qkk {keep : Nat → Bool} {t' es es' : Nat} {r r' : List (List D)} : yw keep (.full es r) (.uni t' es' r') = (r = [] ∧ r' = []) := rfl
theorem qmv {keep : Nat → Bool} {t' es' : Nat} {r' : List (List D)} : yw keep (.d .nilsl) (.uni t' es' r') = (r' = []) := rfl
theorem qr9 {t t' es es' : Nat} {r r' : List (List D)} : jb (.uni t es r) (.uni t' es' r') = [(t, t')] := rfl
theorem qhj {t' es es' : Nat} {r r' : List (List D)} : jb (.full es r) (.uni t' es' r') = [] := rfl
theorem qmw {x : D} {t' es' : Nat} {r' : List (List D)} : jb (.d x) (.uni t' es' r') = [] := rfl
theorem qvj {t t' es es' : Nat} {r r' : List (List D)} : wn (.uni t es r) (.uni t' es' r') = (es = es' ∧ r = r') := rfl
theorem qkl {t' es' : Nat} {r' : List (List D)} : wn (.d .nilsl) (.uni t' es' r') = (r' = []) := rfl
theorem xh8 {i : Nat} {ι : List Nat} {t es : Nat} {rows : List (List D)} : ASlot.ren (i :: ι) (.uni t es rows) = .uni t es (D.renR (i :: ι) rows) := rfl
attribute [go_sem] qx4 qkk qmv qr9 qhj qmw qvj qkl xh8
attribute [go_sem] xk0 q3i q3j qvi xk1 q3k xk2 Fr.mapS AObj.mapS ASlot.only ASlot.okS neId ASlot.frz D.frz
attribute [go_sem] qou qru qkg qrv qxm qrw qve qrz qxl qov qow zc xh zt ko zd kq jv za qh5 qua qir entV KD.is
theorem qvk (b t es : Nat) (rows : List (List D)) : wv b (.own t es rows) = .own b es rows := by simp [wv, renT, ASlot.toks]
theorem qvl (b t es : Nat) (rows : List (List D)) : wv b (.uni t es rows) = .uni b es rows := by simp [wv, renT, ASlot.toks]
attribute [go_sem] qvk qvl
theorem xh9 {fr : Fr} {os : List AObj} {live : List Nat} {nt : Nat} {ι : List Nat} {os' : List AObj} : St.renN ⟨fr, os, live, nt⟩ ι os' = ⟨Fr.mapS (ASlot.ren ι) fr, os', live, nt⟩ := rfl
theorem qo8 (ds : List D) : ∀ l : List ASlot, qa9 (ds.map .d) l = [] := by
 induction ds with
 | nil => intro l; rfl
 | cons d ds ih =>
  intro l
  cases l with
  | nil => rfl
  | cons s l => cases s <;> simp [qa9, jb, ih]
theorem qx5 (ds : List D) : (ds.map ASlot.d).flatMap ASlot.toks = [] := by induction ds <;> simp_all [ASlot.toks]
theorem q3l (keep : Nat → Bool) (ds : List D) : csW keep (ds.map .d) (ds.map .d) = (D.okWL keep ds = true) := by
 induction ds with
 | nil => simp [csW, D.okWL]
 | cons d ds ih => simp only [List.map_cons, csW, ih, D.okWL, Bool.and_eq_true]; simp [yw, ASlot.eqvD, D.eqv_refl]
theorem qsa (ds : List D) : qcq (ds.map .d) = true := by
 induction ds with
 | nil => rfl
 | cons d ds ih => simpa [qcq, ASlot.toks] using ih
theorem qx6 (ι : List Nat) (ds : List D) : (ds.map ASlot.d).map (ASlot.ren1 ι) = (D.renL ι ds).map .d := by rw [D.renL_map]; simp [ASlot.ren1]
theorem qo9 (ds : List D) : (ds.map ASlot.d).all ASlot.isCellD = ds.all D.isCell := by induction ds <;> simp_all [ASlot.isCellD]
theorem qvm (ds : List D) : (ds.map ASlot.d).all ASlot.isOne = ds.all D.isCell := by induction ds <;> simp_all [ASlot.isOne]
theorem qla (ds : List D) : (ds.map ASlot.d).map ASlot.cellD = ds := by induction ds <;> simp_all [ASlot.cellD]
theorem qpa (ds : List D) : qa7 (ds.map .d) (ds.map .d) = True := by
 induction ds with
 | nil => simp [qa7]
 | cons d ds ih => simp [qa7, qod, ASlot.eqvD, D.eqv_refl, ih]
theorem q3m (k : Nat) (ds : List D) : (ds.map ASlot.d).all (ASlot.inKC k) = D.inKL k ds := by
 induction ds with
 | nil => rfl
 | cons d ds ih =>
  simp only [List.map_cons, List.all_cons, D.inKL] at ih ⊢
  rw [ih]; rfl
theorem qx7 (ds : List D) (n : Nat) : (ds.map ASlot.d).drop n = (ds.drop n).map .d := by rw [List.map_drop]
theorem qx8 (ds : List D) (n : Nat) : (ds.map ASlot.d).take n = (ds.take n).map .d := by rw [List.map_take]
attribute [go_sem] qo8 qx5 q3l qsa qx6 qo9 qvm qla qx7 qx8 qpa q3m
theorem q3n {keep : Nat → Bool} {es es' : List (Nat × D × D)} {c c' : Nat} {l l' : List AObj} : osW keep (.map es c :: l) (.map es' c' :: l') = ((es = es' ∧ c = c') ∧ osW keep l l') := rfl
theorem qx9 {keep : Nat → Bool} {m m' : ASlot} {a a' c c' : Nat} {b b' : List Nat} {l l' : List AObj} : osW keep (.iter m a b c :: l) (.iter m' a' b' c' :: l') = ((yw keep m m' ∧ jb m m' = [] ∧ a = a' ∧ b = b' ∧ c = c') ∧ osW keep l l') := rfl
theorem qpb {es : List (Nat × D × D)} {c : Nat} {o : AObj} {l l' : List AObj} : jo (.map es c :: l) (o :: l') = jo l l' := by cases o <;> rfl
theorem qmx {m : ASlot} {a c : Nat} {b : List Nat} {o : AObj} {l l' : List AObj} : jo (.iter m a b c :: l) (o :: l') = jo l l' := by cases o <;> rfl
theorem qsb {keep : Nat → Bool} {l' : List AObj} : osW keep [] (.none :: l') = osW keep [] l' := rfl
theorem qpc {l' : List AObj} : jo [] l' = [] := by cases l' <;> rfl
attribute [go_sem] qsb qpc
attribute [go_sem] q3n qx9 qpb qmx
attribute [go_sem] jf xh9 qux
attribute [go_sem] qbu qox xx ASlot.void qxk qrx qro ASlot.len? vn kj fits jm jc qj1
end Go.Abs
namespace Go.Abs
section
variable {P : Program} {T : Nat → Prop} {g : Ghost} {w : World} {live live' : List Nat}
end
end Go.Abs
namespace Go.Abs
section
variable {P : Program} {ops : List SOper} {k : Nat} {tids : List (List Nat)} {K : List (List Nat) → St → Prop} {fr : Fr} {os : List AObj} {live : List Nat} {nt : Nat} {dst : Option Nat} {back es bytes : Nat} {s x : Opd} {r : Src}
end
attribute [go_sem] qoy
end Go.Abs
namespace Go.Abs
def SCode.opens : SCode → Bool
 | .pause _ => true
 | .seq a _ => a.opens
 | .block _ a => a.opens
 | _ => false
theorem qmy {P : Program} {k0 : Nat} : ∀ (c : SCode) {Q : SExit → St → Prop} {st st' : St}, c.opens = true → Turn k0 st st' → AWp P k0 c Q st' → AWp P k0 c Q st
 | .pause _, _, _, _, _, t, ⟨s, h1, h2⟩ => ⟨s, t.trans h1, h2⟩
 | .seq a _, _, _, _, h, t, hr => qmy a h t hr
 | .block _ a, _, _, _, h, t, hr => qmy a h t hr
def x8p (k0 : Nat) {α : Type} (S : α → St) (st : St) : Prop := ∃ x, Weak k0 st (S x)
theorem x8q {P : Program} {k0 : Nat} {c rest : SCode} {Q : SExit → St → Prop} {st : St} {α : Type} (S : α → St) (h1 : AWp P k0 c (qez (x8p k0 S) Q) st) (h2 : ∀ x, AWp P k0 rest Q (S x)) (hp : rest.opens = true := by rfl) :
  AWp P k0 c (qez (AWp P k0 rest Q) Q) st :=
 AWp.mono c (qc7 (fun _ ⟨x, hx⟩ => qmy rest hp (.weak hx (.refl _)) (h2 x)) fun _ _ h => h) h1
end Go.Abs
