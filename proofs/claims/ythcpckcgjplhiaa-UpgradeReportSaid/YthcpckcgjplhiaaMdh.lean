/- Texts Bc, Bd, Be. -/
import Derived.Test.YthcpckcgjplhiaaMdg
import Derived.Calls
import Derived.Orders
import Derived.Tactics
import Derived.Laws.AppendOwn
import Derived.Laws.Slices
import Derived.Laws.Closers25
import Derived.Laws.StructEq
import Derived.Laws.BytesString
import Derived.Laws.CopyRow
import Derived.IntWalk
import Derived.ProofKit
import Derived.OpenShut
import Derived.Carry
/- The abstract layer, part 29: a law's row from its contract. -/
namespace Go.Abs
open Go.ChangeShapes Go.RowKit

/-- An argument's slot. -/
def argS (P : Program) (t : TypeId) (ds : List D) : ASlot :=
  match P.underlying t with
  | some (.struct _) => .d (.agg ds)
  | some (.array _ _) => .d (.agg ds)
  | _ => .d (ds.headD default)

/-- What is to be shown of a law: its contract, for whatever arguments of these types. -/
def LawOk (P : Program) (n : Nat) (K : List ASlot → Prop) : List TypeId → List ASlot → Prop
  | [], acc => K acc
  | t :: ts, acc => ∀ ds, Shp P n t ds → LawOk P n K ts (acc ++ [argS P t ds])

section
variable {H : Type} {enc : TypeId × Value → H} {P : Program} {W W' : World}

theorem shp_one {n : Nat} {t : TypeId} {ds : List D} (h : Shp P n t ds) (h1 : ∀ fs, P.underlying t ≠ some (.struct fs)) (h2 : ∀ m e, P.underlying t ≠ some (.array m e)) : ∃ d, ds = [d] := by
  cases n with
  | zero => exact h.elim
  | succ n =>
    unfold Shp at h
    split at h
    · obtain ⟨b, rfl⟩ := h; exact ⟨_, rfl⟩
    · obtain ⟨b, rfl, _⟩ := h; exact ⟨_, rfl⟩
    · obtain ⟨b, rfl, _⟩ := h; exact ⟨_, rfl⟩
    · obtain ⟨b, rfl, _⟩ := h; exact ⟨_, rfl⟩
    · rename_i fs hu; exact (h1 fs hu).elim
    · rename_i m e hu; exact (h2 m e hu).elim
    · exact h.elim

theorem arg_rc {n base : Nat} {t : TypeId} {v : Value} {d : DataW H} {ps : List MemPlace} (hp : plainT P n t = true) (h : DataW.Trod enc P W 0 (fun _ => true) true t v d ps) (hv : Value.okWide P W .any base t v) :
    ∃ ds, Shp P n t ds ∧ RC (outG W) W [] v (argS P t ds) := by
  obtain ⟨fuel, h⟩ := h
  obtain ⟨ds, hrl, hs⟩ := trod_rv n fuel t _ _ hp h
  refine ⟨ds, hs, ?_⟩
  unfold argS
  have agg : (∃ cs, v = .agg cs) → RC (outG W) W [] v (.d (.agg ds)) := by
    rintro ⟨cs, rfl⟩
    have := hrl.agg
    simpa [Value.cells, RC] using this
  unfold Value.okWide at hv
  split
  · rename_i fs hu
    rw [hu] at hv
    obtain ⟨cs, hcs, _⟩ := hv
    exact agg ⟨cs, hcs⟩
  · rename_i m e hu
    rw [hu] at hv
    obtain ⟨cs, hcs, _⟩ := hv
    exact agg ⟨cs, hcs⟩
  · rename_i h1 h2
    obtain ⟨d, rfl⟩ := shp_one hs h1 h2
    have hl := hrl.1
    cases v with
    | agg cs =>
      exfalso
      have hwide : Cell.okWide P W .any base t (.agg cs) := by
        split at hv
        · rename_i fs hu; exact (h1 fs hu).elim
        · rename_i m e hu; exact (h2 m e hu).elim
        · exact hv
      unfold Cell.okWide at hwide
      split at hwide <;> first | (rename_i hx; cases hx; done) | skip
      all_goals first | (rename_i hx _; cases hx; done) | (simp [Cell.ok] at hwide; done) | skip
    | _ => exact hrl.2.2 0 _ d rfl rfl

theorem trodAll_below {ts : List TypeId} (hl : laidOutB P = true) (hr : (ts.all fun t => P.readableRec t && decide (t < P.types.size)) = true) (hb : Below W.heap.size W W') : ∀ {vs : List Value} {ds : List (DataW H)} {ps : List MemPlace},
    DataW.TrodAll enc P W 0 (fun _ => true) true ts vs ds ps → (∀ x ∈ ps, x.block < W.heap.size) → DataW.TrodAll enc P W' 0 (fun b => decide (b < W.heap.size)) true ts vs ds ps := by
  induction ts with
  | nil =>
    intro vs ds ps h _
    obtain ⟨rfl, rfl, rfl⟩ := trodAll_nil h
    exact trodAll_mk0
  | cons t ts ih =>
    intro vs ds ps h hlt
    simp only [List.all_cons, Bool.and_eq_true, decide_eq_true_eq] at hr
    obtain ⟨v, vs', d, ds', p, q, rfl, rfl, rfl, h1, h2⟩ := trodAll_cons h
    exact ⟨p, q, Below.trod hl hr.1.1 hr.1.2 h1 hb (fun x hx => hlt x (List.mem_append_left _ hx)), ih (by simpa using hr.2) h2 (fun x hx => hlt x (List.mem_append_right _ hx)), rfl⟩

theorem law_args {n base : Nat} {K : List ASlot → Prop} : ∀ {ts : List TypeId} {vs : List Value} {ds : List (DataW H)} {ps : List MemPlace} {acc : List ASlot} {us : List Value}, (ts.all (plainT P n)) = true → LawOk P n K ts acc →
    DataW.TrodAll enc P W 0 (fun _ => true) true ts vs ds ps → (∀ (j : Nat) (t : TypeId) (v : Value), ts[j]? = some t → vs[j]? = some v → Value.okWide P W .any base t v) →
    us.length = acc.length → (∀ (i : Nat) (v : Value) (s : ASlot), us[i]? = some v → acc[i]? = some s → RC (outG W) W [] v s) → (∀ s ∈ acc, s.toks = []) →
    ∃ slots, K slots ∧ (us ++ vs).length = slots.length ∧ (∀ (i : Nat) (v : Value) (s : ASlot), (us ++ vs)[i]? = some v → slots[i]? = some s → RC (outG W) W [] v s) ∧ ∀ s ∈ slots, s.toks = []
  | [], vs, ds, ps, acc, us, _, hk, h, _, hl, hr, ht => by
    obtain ⟨rfl, rfl, rfl⟩ := trodAll_nil h
    rw [List.append_nil]
    exact ⟨acc, hk, hl, hr, ht⟩
  | t :: ts, vs, ds, ps, acc, us, hp, hk, h, hv, hl, hr, ht => by
    simp only [List.all_cons, Bool.and_eq_true] at hp
    obtain ⟨v, vs', d, ds', p, q, rfl, rfl, rfl, h1, h2⟩ := trodAll_cons h
    obtain ⟨dl, hs, hrc⟩ := arg_rc hp.1 h1 (hv 0 t v rfl rfl)
    have := law_args (us := us ++ [v]) hp.2 (hk dl hs) h2 (fun j t' v' ht hv' => hv (j + 1) t' v' (by simpa using ht) (by simpa using hv')) (by simp [hl]) (fun i u s hu hs' => by
      by_cases hi : i < us.length
      · rw [List.getElem?_append_left hi] at hu
        rw [List.getElem?_append_left (by omega)] at hs'
        exact hr i u s hu hs'
      · rw [List.getElem?_append_right (by omega)] at hu
        rw [List.getElem?_append_right (by omega)] at hs'
        rw [hl] at hu
        cases hj : i - acc.length with
        | zero => rw [hj] at hu hs'; simp at hu hs'; subst hu hs'; exact hrc
        | succ j => rw [hj] at hu; simp at hu) (fun s hs' => by
      rcases List.mem_append.1 hs' with h | h
      · exact ht s h
      · simp at h; subst h; unfold argS; split <;> rfl)
    rw [List.append_assoc] at this
    exact this

/-- A LAW's ROW, FROM ITS CONTRACT. -/
theorem law_calls {fid : FuncId} {f : Func} {s : ChangeSpec} {apart fresh handsOn : Bool} {n base : Nat} {tb : TypeId} {args : Array Value} {ds gs : List (DataW H)} {before : List MemPlace}
    (hl : laidOutB P = true) (hts : (f.params.toList.all fun t => P.readableRec t && decide (t < P.types.size)) = true) (hp : (f.params.toList.all (plainT P n)) = true)
    (hret : f.resultTypes = #[tb]) (htb : P.underlying tb = some .bool) (hvars : s.vars = [])
    (hfn : ∀ ds : List (DataW H), ds.length = f.params.toList.length → s.fn H ds = { results := [.lit (.bool true)], args := ds })
    (hc : LawOk P n (fun slots => ACall P fid slots [] (.d (.bool true)) []) f.params.toList [])
    (hW : DataW.Whole enc P f.params.toList s.vars apart W args.toList ds gs before)
    (hval : ∀ (j : Nat) (t : TypeId) (v : Value), f.params[j]? = some t → args[j]? = some v → Value.okWide P W .any base t v) :
    Calls P fid args W fun e W' => ∃ v, e = .returned v ∧ s.post enc P f apart fresh handsOn false W args v W' := by
  have hW0 := hW
  obtain ⟨p, q, hA, hV, rfl, _, _⟩ := hW
  rw [hvars] at hV
  obtain ⟨rfl, rfl⟩ := trodVars_none hV
  obtain ⟨slots, hk, q1, q2, q3⟩ := law_args (us := []) hp hc hA (fun j t v ht hv => hval j t v (by simpa using ht) (by simpa using hv)) rfl (by simp) (by simp)
  have htk : toksOf slots = [] := by
    unfold toksOf
    rw [List.flatMap_eq_nil_iff]
    exact q3
  have hobj : ∀ b id, outG W b ≠ .obj id := by
    intro b id h
    unfold outG at h
    split at h <;> cases h
  have hcall := hk (outG W) W args.toList (outG_dom W) (by simpa using q1) (by rw [htk]; simpa using q2) ⟨fun id o h => by simp at h, fun b b' id h => (hobj b id h).elim, fun b id h => (hobj b id h).elim⟩
  refine hcall.mono ?_
  rintro e W' ⟨v, g', live', rfl, hG, hdom, _, hrs, _⟩
  have hv : v = .bool true := rv_bool (rs_d hrs)
  subst hv
  have hb : Below W.heap.size W W' := by
    refine ⟨hG.os, hG.tape, hG.output, hG.size, fun b hb => ?_⟩
    cases hg : outG W b with
    | out => exact (hG.out b hb hg).1
    | row m o =>
      cases o with
      | none => exact (hG.rowN b m hb hg).1
      | some t =>
        unfold outG at hg
        split at hg <;> cases hg
    | uni t =>
      unfold outG at hg
      split at hg <;> cases hg
    | obj id => exact (hobj b id hg).elim
  have hlen : ds.length = f.params.toList.length := by
    have : ∀ {ts : List TypeId} {vs : List Value} {ds : List (DataW H)} {ps : List MemPlace}, DataW.TrodAll enc P W 0 (fun _ => true) true ts vs ds ps → ds.length = ts.length := by
      intro ts
      induction ts with
      | nil => intro vs ds ps h; obtain ⟨_, rfl, _⟩ := trodAll_nil h; rfl
      | cons t ts ih => intro vs ds ps h; obtain ⟨v, vs', d, ds', p, q, rfl, rfl, rfl, _, h2⟩ := trodAll_cons h; simp [ih h2]
    exact this hA
  have hlt : ∀ x ∈ p ++ [], x.block < W.heap.size := fun x hx => hW0.lt x hx
  refine ⟨_, rfl, ds, [], p ++ [], [], p, [], hW0, ?_, ?_, ?_, ?_, fun h => by cases h⟩
  · rw [List.append_nil, hfn ds hlen, hret]
    exact trodAll_mk1 (shut_bool htb true)
  · rw [List.append_nil, hfn ds hlen]
    exact trodAll_below hl hts hb hA (fun x hx => hlt x (by simpa using hx))
  · rw [List.append_nil, hfn ds hlen, hvars]
    exact rfl
  · refine World.keptBut_mono (fun x hx => ⟨hx, .inr (.inl ?_)⟩) (hb.frame (· ∈ p ++ []))
    simpa using hx

end
end Go.Abs

/- The abstract layer, part 30: short words for the texts that compute with abstract code. -/
namespace Go.Abs

/-- What is known of a function: its code, its results, how many temporaries it has. -/
structure FnIs (P : Program) (f : FuncId) (fn : Func) (mu : List Nat) (news : List (FuncId × Nat)) (sc : SCode) (rvs : List RVar) (N : Nat) : Prop where
  fol : P.follows .mixedOrders = true
  isf : P.funcs[f]? = some fn
  code : fn.body.bind (compCode P mu fn.ntmps news) = some sc.erase
  res : fn.results.toList.mapM (compRes P) = some rvs
  num : fn.ntmps = N
  body : (P.funcs[f]?).any (fun fn => fn.body.isSome && !(fn.name == "runtime.NumGoroutine")) = true

section
variable {P : Program} {f : FuncId} {fn : Func} {mu : List Nat} {news : List (FuncId × Nat)} {sc : SCode} {rvs : List RVar} {N : Nat} {args rs : List ASlot} {r : ASlot} {objs objs' : List AObj}

/-- A function's contract, from its code. -/
theorem FnIs.go (F : FnIs P f fn mu news sc rvs N) (h : AWp P objs.length sc (bodyQ objs.length rvs [r] objs') (entrySt args objs)) (hN : args.length ≤ N := by simp) (hl : rvs.length = 1 := by rfl) (hw : ltB 16 (toksOf args ++ osToks objs) = true := by rfl) :
    ACall P f args objs r objs' :=
  acall_go (rs := [r]) F.fol F.isf F.code F.res h (by rw [F.num]; exact hN) (by rw [hl]; rfl) hw

/-- .. with several results, or none. -/
theorem FnIs.goT (F : FnIs P f fn mu news sc rvs N) (h : AWp P objs.length sc (bodyQ objs.length rvs rs objs') (entrySt args objs)) (hN : args.length ≤ N := by simp) (hl : rvs.length = rs.length := by rfl) (hn : rs.length ≠ 1 := by simp) (hw : ltB 16 (toksOf args ++ osToks objs) = true := by rfl) :
    ACall P f args objs (.tup rs) objs' := by
  rw [← mkRes_tup hn]
  exact acall_go F.fol F.isf F.code F.res h (by rw [F.num]; exact hN) hl hw
end

/-- COMPUTE. -/
theorem ev {p q : Prop} (h : q) (e : p = q := by conv => lhs; simp only [go_sem, Nat.reduceAdd, Nat.reduceMul, Nat.reduceSub, Nat.reduceEqDiff, Nat.reduceLT, Nat.reduceLeDiff, Nat.reduceBEq, reduceIte, reduceCtorEq, Int.reduceAdd, Int.reduceLT, Int.reduceLE, Int.reduceGT, Int.reduceGE, Int.reduceEq, Int.reduceNe, Int.reduceBEq, Int.reduceBNe, Int.reduceToNat, Int.reduceNeg]) : p := e ▸ h
/-- .. to the end. -/
theorem evT {p : Prop} (e : p = True := by simp only [go_sem, Nat.reduceAdd, Nat.reduceMul, Nat.reduceSub, Nat.reduceEqDiff, Nat.reduceLT, Nat.reduceLeDiff, Nat.reduceBEq, reduceIte, reduceCtorEq, Int.reduceAdd, Int.reduceLT, Int.reduceLE, Int.reduceGT, Int.reduceGE, Int.reduceEq, Int.reduceNe, Int.reduceBEq, Int.reduceBNe, Int.reduceToNat, Int.reduceNeg]) : p := of_eq_true e

/-- An obligation. -/
theorem ob {p q : Prop} (k : q) (h : p := by first | omega | (simp_all; done) | grind) : p ∧ q := ⟨h, k⟩

section
variable {P : Program} {f : FuncId} {fn : Func} {mu : List Nat} {news : List (FuncId × Nat)} {sc : SCode} {rvs : List RVar} {N : Nat}
variable {ops : List SOper} {k : Nat} {tids : List (List Nat)} {K : List (List Nat) → St → Prop} {fr : Fr} {os : List AObj} {live : List Nat} {nt : Nat} {dst : Option Nat} {g ok : Bool} {fa as : List ASlot} {r : ASlot} {fo fo' : List AObj}

/-- A call of a function that neither takes nor gives owned slices, nor looks at objects. -/
theorem cl (F : FnIs P f fn mu news sc rvs N) (hc : ACall P f fa [] r []) (hK : ARun P ops (k + 1) (tids ++ [[]]) K ⟨putFr fr dst g r, os, live, nt⟩)
    (ho : g = true → ok = true := by first | exact fun h => h | exact fun _ => rfl | (intro h; simp only [h, Bool.and_self, Bool.and_true]))
    (hfit : g = true → matchAll as fa := by intro _; first | exact trivial | exact ⟨matchA_refl, trivial⟩ | exact ⟨matchA_refl, matchA_refl, trivial⟩ | exact ⟨matchA_refl, matchA_refl, matchA_refl, trivial⟩ | exact ⟨matchA_refl, matchA_refl, matchA_refl, matchA_refl, trivial⟩ | simp only [go_sem, Nat.reduceAdd, Nat.reduceMul, Nat.reduceSub, Nat.reduceEqDiff, Nat.reduceLT, Nat.reduceLeDiff, Nat.reduceBEq, reduceIte, reduceCtorEq, Int.reduceAdd, Int.reduceLT, Int.reduceLE, Int.reduceGT, Int.reduceGE, Int.reduceEq, Int.reduceNe, Int.reduceBEq, Int.reduceBNe, Int.reduceToNat, Int.reduceNeg])
    (hnp : fa.all ASlot.noPtr = true := by first | rfl | simp only [go_sem, Nat.reduceAdd, Nat.reduceMul, Nat.reduceSub, Nat.reduceEqDiff, Nat.reduceLT, Nat.reduceLeDiff, Nat.reduceBEq, reduceIte, reduceCtorEq, Int.reduceAdd, Int.reduceLT, Int.reduceLE, Int.reduceGT, Int.reduceGE, Int.reduceEq, Int.reduceNe, Int.reduceBEq, Int.reduceBNe, Int.reduceToNat, Int.reduceNeg]) (hh : handed as fa = [] := by rfl) (hr : r.toks = [] := by rfl) :
    callO P ops k tids K dst ⟨fr, os, live, nt⟩ g (some (f, as)) ok := callO_pure hc F.body ho hfit hnp hh hr hK

/-- The same, where the arguments are told to fit. -/
theorem clF (F : FnIs P f fn mu news sc rvs N) (hc : ACall P f fa [] r []) (hfit : g = true → matchAll as fa) (hK : ARun P ops (k + 1) (tids ++ [[]]) K ⟨putFr fr dst g r, os, live, nt⟩)
    (ho : g = true → ok = true := by first | exact fun h => h | exact fun _ => rfl | (intro h; simp only [h, Bool.and_self, Bool.and_true]))
    (hnp : fa.all ASlot.noPtr = true := by first | rfl | simp only [go_sem, Nat.reduceAdd, Nat.reduceMul, Nat.reduceSub, Nat.reduceEqDiff, Nat.reduceLT, Nat.reduceLeDiff, Nat.reduceBEq, reduceIte, reduceCtorEq, Int.reduceAdd, Int.reduceLT, Int.reduceLE, Int.reduceGT, Int.reduceGE, Int.reduceEq, Int.reduceNe, Int.reduceBEq, Int.reduceBNe, Int.reduceToNat, Int.reduceNeg]) (hh : handed as fa = [] := by rfl) (hr : r.toks = [] := by rfl) :
    callO P ops k tids K dst ⟨fr, os, live, nt⟩ g (some (f, as)) ok := callO_pure hc F.body ho hfit hnp hh hr hK

/-- A call that is not made. -/
theorem clOff (hK : ARun P ops (k + 1) (tids ++ [[]]) K ⟨putFr fr dst g (.d (.bool false)), os, live, nt⟩) {c : Option (FuncId × List ASlot)} (hg : g = false := by rfl) : callO P ops k tids K dst ⟨fr, os, live, nt⟩ g c ok :=
  callO_off (.bool false) hg hK

/-- A call with objects: under the numbers ι. -/
theorem clO (ι : List Nat) (F : FnIs P f fn mu news sc rvs N) (hc : ACall P f fa fo r fo') (hK : ARun P ops (k + 1) (tids ++ [ι]) K ⟨putFr fr dst true (r.ren ι), setAll os (ι.zip (fo'.map (AObj.ren ι))), live, nt⟩)
    (ho : ok = true := by first | rfl | simp only [go_sem, Nat.reduceAdd, Nat.reduceMul, Nat.reduceSub, Nat.reduceEqDiff, Nat.reduceLT, Nat.reduceLeDiff, Nat.reduceBEq, reduceIte, reduceCtorEq, Int.reduceAdd, Int.reduceLT, Int.reduceLE, Int.reduceGT, Int.reduceGE, Int.reduceEq, Int.reduceNe, Int.reduceBEq, Int.reduceBNe, Int.reduceToNat, Int.reduceNeg])
    (hfit : matchAll as (fa.map (ASlot.ren ι)) := by first | exact ⟨matchA_refl, trivial⟩ | exact ⟨matchA_refl, matchA_refl, trivial⟩ | simp only [go_sem, Nat.reduceAdd, Nat.reduceMul, Nat.reduceSub, Nat.reduceEqDiff, Nat.reduceLT, Nat.reduceLeDiff, Nat.reduceBEq, reduceIte, reduceCtorEq, Int.reduceAdd, Int.reduceLT, Int.reduceLE, Int.reduceGT, Int.reduceGE, Int.reduceEq, Int.reduceNe, Int.reduceBEq, Int.reduceBNe, Int.reduceToNat, Int.reduceNeg])
    (hin : fa.all (ASlot.inK fo.length) = true := by first | rfl | simp only [go_sem, Nat.reduceAdd, Nat.reduceMul, Nat.reduceSub, Nat.reduceEqDiff, Nat.reduceLT, Nat.reduceLeDiff, Nat.reduceBEq, reduceIte, reduceCtorEq, Int.reduceAdd, Int.reduceLT, Int.reduceLE, Int.reduceGT, Int.reduceGE, Int.reduceEq, Int.reduceNe, Int.reduceBEq, Int.reduceBNe, Int.reduceToNat, Int.reduceNeg]) (hh : handed as fa = [] := by rfl) (hr : r.toks = [] := by rfl)
    (hnd : ι.Nodup := by decide) (hlen : ι.length = fo'.length := by rfl) (hle : fo.length ≤ fo'.length := by simp) (hold : objsIn ι os ι fo := by simp only [go_sem, Nat.reduceAdd, Nat.reduceMul, Nat.reduceSub, Nat.reduceEqDiff, Nat.reduceLT, Nat.reduceLeDiff, Nat.reduceBEq, reduceIte, reduceCtorEq, Int.reduceAdd, Int.reduceLT, Int.reduceLE, Int.reduceGT, Int.reduceGE, Int.reduceEq, Int.reduceNe, Int.reduceBEq, Int.reduceBNe, Int.reduceToNat, Int.reduceNeg])
    (hnew : (ι.drop fo.length).all (isNone os) = true := by first | rfl | simp only [go_sem, Nat.reduceAdd, Nat.reduceMul, Nat.reduceSub, Nat.reduceEqDiff, Nat.reduceLT, Nat.reduceLeDiff, Nat.reduceBEq, reduceIte, reduceCtorEq, Int.reduceAdd, Int.reduceLT, Int.reduceLE, Int.reduceGT, Int.reduceGE, Int.reduceEq, Int.reduceNe, Int.reduceBEq, Int.reduceBNe, Int.reduceToNat, Int.reduceNeg]) (hik : fo.all (AObj.inK fo.length) = true := by first | rfl | simp only [go_sem, Nat.reduceAdd, Nat.reduceMul, Nat.reduceSub, Nat.reduceEqDiff, Nat.reduceLT, Nat.reduceLeDiff, Nat.reduceBEq, reduceIte, reduceCtorEq, Int.reduceAdd, Int.reduceLT, Int.reduceLE, Int.reduceGT, Int.reduceGE, Int.reduceEq, Int.reduceNe, Int.reduceBEq, Int.reduceBNe, Int.reduceToNat, Int.reduceNeg]) (htk : (fo'.all fun o => noToks o.cells) = true := by first | rfl | simp only [go_sem, Nat.reduceAdd, Nat.reduceMul, Nat.reduceSub, Nat.reduceEqDiff, Nat.reduceLT, Nat.reduceLeDiff, Nat.reduceBEq, reduceIte, reduceCtorEq, Int.reduceAdd, Int.reduceLT, Int.reduceLE, Int.reduceGT, Int.reduceGE, Int.reduceEq, Int.reduceNe, Int.reduceBEq, Int.reduceBNe, Int.reduceToNat, Int.reduceNeg]) :
    callO P ops k tids K dst ⟨fr, os, live, nt⟩ true (some (f, as)) ok := callO_obj ι hc F.body ho hfit hin hh hr hnd hlen hle hold hnew hik htk hK

/-- A call that takes or gives owned slices. -/
theorem clA (F : FnIs P f fn mu news sc rvs N) (hc : ACall P f fa [] r []) (hK : ARun P ops (k + 1) (tids ++ [[]]) K ⟨putFr fr dst true (retok (16 * (nt + k)) r), os, (live.filter fun t => !((handed as fa).map (·.1)).contains t) ++ (retok (16 * (nt + k)) r).toks, nt⟩)
    (ho : ok = true := by first | rfl | simp only [go_sem, Nat.reduceAdd, Nat.reduceMul, Nat.reduceSub, Nat.reduceEqDiff, Nat.reduceLT, Nat.reduceLeDiff, Nat.reduceBEq, reduceIte, reduceCtorEq, Int.reduceAdd, Int.reduceLT, Int.reduceLE, Int.reduceGT, Int.reduceGE, Int.reduceEq, Int.reduceNe, Int.reduceBEq, Int.reduceBNe, Int.reduceToNat, Int.reduceNeg])
    (h1 : matchAll as fa := by first | exact trivial | exact ⟨matchA_refl, trivial⟩ | exact ⟨matchA_refl, matchA_refl, trivial⟩ | simp only [go_sem, Nat.reduceAdd, Nat.reduceMul, Nat.reduceSub, Nat.reduceEqDiff, Nat.reduceLT, Nat.reduceLeDiff, Nat.reduceBEq, reduceIte, reduceCtorEq, Int.reduceAdd, Int.reduceLT, Int.reduceLE, Int.reduceGT, Int.reduceGE, Int.reduceEq, Int.reduceNe, Int.reduceBEq, Int.reduceBNe, Int.reduceToNat, Int.reduceNeg]) (h2 : fa.all ASlot.noPtr = true := by first | rfl | simp only [go_sem, Nat.reduceAdd, Nat.reduceMul, Nat.reduceSub, Nat.reduceEqDiff, Nat.reduceLT, Nat.reduceLeDiff, Nat.reduceBEq, reduceIte, reduceCtorEq, Int.reduceAdd, Int.reduceLT, Int.reduceLE, Int.reduceGT, Int.reduceGE, Int.reduceEq, Int.reduceNe, Int.reduceBEq, Int.reduceBNe, Int.reduceToNat, Int.reduceNeg]) (h3 : ∀ p ∈ handed as fa, p.1 ∈ live := by first | (intro p hp; cases hp; done) | simp [handed]) (h4 : ((handed as fa).map (·.1)).Nodup := by first | exact List.nodup_nil | simp [handed])
    (hnd : r.toks.Nodup := by first | exact List.nodup_nil | simp [ASlot.toks]) (hfew : r.toks.length ≤ 16 := by simp [ASlot.toks]) :
    callO P ops k tids K dst ⟨fr, os, live, nt⟩ true (some (f, as)) ok := callO_any hc F.body ho ⟨h1, h2, h3, h4⟩ hnd hfew hK
end

section
variable {P : Program} {k0 : Nat} {a x y : SCode} {Q : SExit → St → Prop} {st : St} {c : Opd}
/-- A branch. -/
theorem iff_ (t : Bool) (hx : t = true → AWp P k0 x Q st) (hy : t = false → AWp P k0 y Q st) (h1 : c.ok st.fr = true := by rfl) (h2 : c.get st.fr = .d (.bool t) := by rfl) : AWp P k0 (.cond c x y) Q st := AWp_cond t h1 h2 hx hy
theorem no_ (hy : AWp P k0 y Q st) (h1 : c.ok st.fr = true := by rfl) (h2 : c.get st.fr = .d (.bool false) := by rfl) : AWp P k0 (.cond c x y) Q st := AWp_cond false h1 h2 (fun h => Bool.noConfusion h) (fun _ => hy)
theorem yes_ (hx : AWp P k0 x Q st) (h1 : c.ok st.fr = true := by rfl) (h2 : c.get st.fr = .d (.bool true) := by rfl) : AWp P k0 (.cond c x y) Q st := AWp_cond true h1 h2 (fun _ => hx) (fun h => Bool.noConfusion h)

/-- A pause: over; a slice that is ours alone becomes an object; an object becomes such a slice; an object stands for good; a slice that is ours alone is owned. -/
theorem pu (h : AWp P k0 a Q st) : AWp P k0 (.pause a) Q st := ⟨st, .refl st, h⟩
theorem pu_u2o (p : Pos) (t es : Nat) (rows : List (List D)) (h : AWp P k0 (.pause a) Q (st.u2o p t es rows)) (hp : st.slotAt p = .uni t es rows := by rfl) (ht : t ∈ st.live := by simp) : AWp P k0 (.pause a) Q st := by
  obtain ⟨st', h1, h2⟩ := h
  exact ⟨st', .u2o p t es rows hp ht h1, h2⟩
theorem pu_u2own (p : Pos) (t es : Nat) (rows : List (List D)) (h : AWp P k0 (.pause a) Q (st.u2own p t es rows)) (hp : st.slotAt p = .uni t es rows := by rfl) (ht : t ∈ st.live := by simp) : AWp P k0 (.pause a) Q st := by
  obtain ⟨st', h1, h2⟩ := h
  exact ⟨st', .u2own p t es rows hp ht h1, h2⟩
theorem pu_o2u (p : Pos) (id es : Nat) (rows : List (List D)) (h : AWp P k0 (.pause a) Q (st.o2u p id es rows)) (hc : objCells st.os id = rows.flatten.map .d) (hes : ∀ r ∈ rows, r.length = es)
    (hcl : ∀ d ∈ rows.flatten, d.isCell = true) (hok : D.okWR (neId id) rows = true) (hp : st.slotAt p = .d (.ref id 0 es rows.length) := by rfl) (hk : k0 ≤ id := by omega) (hn : p.notIn id := by first | trivial | decide) : AWp P k0 (.pause a) Q st := by
  obtain ⟨st', h1, h2⟩ := h
  exact ⟨st', .o2u p id es rows hp hc hes hcl hok hk hn h1, h2⟩
theorem pu_frz (id es : Nat) (rows : List (List D)) (h : AWp P k0 (.pause a) Q (st.frz id es rows)) (hc : (objCells st.os id).map ASlot.cellD = rows.flatten) (hcc : (objCells st.os id).all ASlot.isCellD = true) (hes : ∀ r ∈ rows, r.length = es)
    (hok : D.okWR (neId id) rows = true) (hk : k0 ≤ id := by omega) : AWp P k0 (.pause a) Q st := by
  obtain ⟨st', h1, h2⟩ := h
  exact ⟨st', .frz id es rows hc hcc hes hok hk h1, h2⟩
theorem pu_weak {st1 : St} (h0 : Weak k0 st st1) (h : AWp P k0 a Q st1) : AWp P k0 (.pause a) Q st := ⟨st1, .weak h0 (.refl _), h⟩
end

/- How the changed views are computed. -/
section
variable {fr : Fr} {os : List AObj} {live : List Nat} {nt : Nat}
theorem u2o_fr {k t es : Nat} {rows : List (List D)} : St.u2o ⟨fr, os, live, nt⟩ (.fr k) t es rows = ⟨(k, true, .d (.ref os.length 0 es rows.length)) :: fr, os ++ [.row (rows.flatten.map .d)], live.filter fun u => !(u == t), nt⟩ := rfl
theorem u2o_cell {id i t es : Nat} {rows : List (List D)} : St.u2o ⟨fr, os, live, nt⟩ (.cell id i) t es rows = ⟨fr, os.set id (.row ((objCells os id).set i (.d (.ref os.length 0 es rows.length)))) ++ [.row (rows.flatten.map .d)], live.filter fun u => !(u == t), nt⟩ := rfl
theorem u2own_fr {k t es : Nat} {rows : List (List D)} : St.u2own ⟨fr, os, live, nt⟩ (.fr k) t es rows = ⟨(k, true, .own (16 * nt) es rows) :: fr, os, (live.filter fun u => !(u == t)) ++ [16 * nt], nt + 1⟩ := rfl
theorem u2own_cell {id i t es : Nat} {rows : List (List D)} : St.u2own ⟨fr, os, live, nt⟩ (.cell id i) t es rows = ⟨fr, os.set id (.row ((objCells os id).set i (.own (16 * nt) es rows))), (live.filter fun u => !(u == t)) ++ [16 * nt], nt + 1⟩ := rfl
theorem o2u_fr {k id es : Nat} {rows : List (List D)} : St.o2u ⟨fr, os, live, nt⟩ (.fr k) id es rows = ⟨(k, true, .uni (16 * nt) es rows) :: Fr.mapS (ASlot.only (neId id)) fr, (os.map (AObj.mapS (ASlot.only (neId id)))).set id .none, live ++ [16 * nt], nt + 1⟩ := rfl
theorem o2u_cell {j i id es : Nat} {rows : List (List D)} : St.o2u ⟨fr, os, live, nt⟩ (.cell j i) id es rows =
    ⟨Fr.mapS (ASlot.only (neId id)) fr, ((os.map (AObj.mapS (ASlot.only (neId id)))).set id .none).set j (.row ((objCells ((os.map (AObj.mapS (ASlot.only (neId id)))).set id .none) j).set i (.uni (16 * nt) es rows))), live ++ [16 * nt], nt + 1⟩ := rfl
theorem frz_mk {id es : Nat} {rows : List (List D)} : St.frz ⟨fr, os, live, nt⟩ id es rows = ⟨Fr.mapS (fun s => (s.frz id es rows).only (neId id)) fr, (os.map (AObj.mapS fun s => (s.frz id es rows).only (neId id))).set id .none, live, nt⟩ := rfl
end
theorem slotW_uni {keep : Nat → Bool} {t t' es es' : Nat} {r r' : List (List D)} : slotW keep (.uni t es r) (.uni t' es' r') = ((es = es' ∧ r = r') ∧ D.noPtrR r' = true) := rfl
theorem slotW_full_uni {keep : Nat → Bool} {t' es es' : Nat} {r r' : List (List D)} : slotW keep (.full es r) (.uni t' es' r') = (r = [] ∧ r' = []) := rfl
theorem slotW_nil_uni {keep : Nat → Bool} {t' es' : Nat} {r' : List (List D)} : slotW keep (.d .nilsl) (.uni t' es' r') = (r' = []) := rfl
theorem tokPair_uni {t t' es es' : Nat} {r r' : List (List D)} : tokPair (.uni t es r) (.uni t' es' r') = [(t, t')] := rfl
theorem tokPair_full_uni {t' es es' : Nat} {r r' : List (List D)} : tokPair (.full es r) (.uni t' es' r') = [] := rfl
theorem tokPair_d_uni {x : D} {t' es' : Nat} {r' : List (List D)} : tokPair (.d x) (.uni t' es' r') = [] := rfl
theorem matchA_uni {t t' es es' : Nat} {r r' : List (List D)} : matchA (.uni t es r) (.uni t' es' r') = (es = es' ∧ r = r') := rfl
theorem matchA_nil_uni {t' es' : Nat} {r' : List (List D)} : matchA (.d .nilsl) (.uni t' es' r') = (r' = []) := rfl
theorem ren_uni {i : Nat} {ι : List Nat} {t es : Nat} {rows : List (List D)} : ASlot.ren (i :: ι) (.uni t es rows) = .uni t es (D.renR (i :: ι) rows) := rfl
attribute [go_sem] slotW_uni slotW_full_uni slotW_nil_uni tokPair_uni tokPair_full_uni tokPair_d_uni matchA_uni matchA_nil_uni ren_uni
attribute [go_sem] u2o_fr u2o_cell u2own_fr u2own_cell o2u_fr o2u_cell frz_mk Fr.mapS AObj.mapS ASlot.only ASlot.okS neId ASlot.frz D.frz
attribute [go_sem] ARun_appendO appendOOut ASlot.void ARun_copy ARun_minmax ARun_sliceA ASlot.len? refSrc appendU fits copyOut sliceAOut refOk
end Go.Abs

/- The abstract layer, part 31: copies between rows, in the model; a slice that is ours alone with other contents (for slices.Insert). -/
namespace Go.Abs

section
variable {P : Program} {T : Nat → Prop} {g : Ghost} {w : World} {live live' : List Nat}

/-- A row with cells put over its own. -/
def putAt (cur : Array Value) (off : Nat) (news : List Value) : Array Value := (cur.toList.take off ++ news ++ cur.toList.drop (off + news.length)).toArray

theorem putAt_list (cur : Array Value) (off : Nat) (news : List Value) : (putAt cur off news).toList = cur.toList.take off ++ news ++ cur.toList.drop (off + news.length) := rfl
theorem putAt_size (cur : Array Value) (off : Nat) (news : List Value) (h : off + news.length ≤ cur.size) : (putAt cur off news).size = cur.size := by
  have hq : cur.toList.length = cur.size := Array.length_toList
  simp only [putAt, List.size_toArray, List.length_append, List.length_take, List.length_drop]
  omega

/-- copy(d, s), from row to row. -/
theorem copy_rows {t u ty e : TypeId} {i : TypeInfo} (ht : P.underlying t = some (.slice e)) (hi : P.info? e = some i) (W : World) (d doff dn dc : Nat) (cur : Array Value) (e0 : TypeId) (hd : W.heap[d]? = some (.cells cur e0 (0, 0)))
    (s soff sn sc : Nat) (curs : Array Value) (e1 : TypeId) (hs : W.heap[s]? = some (.cells curs e1 (0, 0))) (k : Nat) (hk : k = Nat.min sn dn) (h1 : doff + k * i.size ≤ cur.size) (h2 : soff + k * i.size ≤ curs.size)
    (hone : ∀ v ∈ (curs.toList.drop soff).take (k * i.size), v.oneCell' = true) :
    (Builtin.copy_ #[t, u] ty #[.slice (some ⟨d, doff, none⟩) dn dc, .slice (some ⟨s, soff, none⟩) sn sc]).run P W = .ok (.int .i64 k) (W.setRow d (putAt cur doff ((curs.toList.drop soff).take (k * i.size)))) := by
  subst hk
  have hq : curs.toList.length = curs.size := Array.length_toList
  have hlen : ((curs.toList.drop soff).take (Nat.min sn dn * i.size)).length = Nat.min sn dn * i.size := by rw [List.length_take, List.length_drop]; omega
  have hf : (Builtin.firstCells i.size (Nat.min sn dn) (.slice (some ⟨s, soff, none⟩) sn sc)).run P W = .ok ((curs.toList.drop soff).take (Nat.min sn dn * i.size)).toArray W := by
    refine run_firstCells_some (P := P) W i.size _ _ _ _ _ hlen (fun j v hj => ?_)
    rw [List.getElem?_take] at hj
    split at hj
    · rw [Addr.add_lit]
      simpa [World.cell?, hs] using hj
    · cases hj
  have hst := run_storeCells_at P d doff e0 ((curs.toList.drop soff).take (Nat.min sn dn * i.size)) 0 cur W hd (by rw [hlen]; omega) hone
  have := run_copy (P := P) (w := W) (u := u) (ty := ty) ht hi (base := some ⟨d, doff, none⟩) (n := dn) (cap := dc) (k := sn) (x := .slice (some ⟨s, soff, none⟩) sn sc) (w1 := W.setRow d (putAt cur doff ((curs.toList.drop soff).take (Nat.min sn dn * i.size))))
    (by simp [Builtin.lenOf]) hf (fun ad had => by cases had; simpa [putAt] using hst) (fun h => by cases h)
  exact this

/-- Our own row with other contents. -/
theorem Qt.setUni (hd : Dom g w) {W : World} (hos : W.os = w.os) (htape : W.tape = w.tape) (hout : W.output = w.output) {b t : Nat} (hg : g b = .uni t) (hsz : W.heap.size = w.heap.size)
    (hh : ∀ k, k ≠ b → W.heap[k]? = w.heap[k]?) : Qt (fun _ => False) g w g W live live' := by
  have hne : ∀ {k : Nat} {r : Role}, g k = r → (∀ u, r ≠ .uni u) → k ≠ b := fun h hr => by rintro rfl; rw [hg] at h; exact hr t h.symm
  refine ⟨⟨hos, htape, hout, by omega, fun k _ hgk => ⟨hh k (hne hgk (by simp)), hgk⟩, fun k m _ hgk => ⟨hh k (hne hgk (by simp)), hgk⟩,
    fun k m u _ hgk => ⟨m, some u, hgk, Nat.le_refl _, fun i v _ hv => by rw [cell_same (hh k (hne hgk (by simp)))]; exact hv⟩, fun k id _ hgk => ⟨hgk, Nat.le_of_eq (bsize_same (hh k (hne hgk (by simp)))).symm⟩⟩,
    ?_, fun k id hgk => hh k (hne hgk (by simp)), fun k id h => h, fun _ _ _ h => h.elim, fun _ h => h.elim, fun _ _ h => h.elim⟩
  intro k hk
  rw [hsz] at hk
  exact hd k hk

/-- A new row of our own. -/
theorem Qt.addUni (hd : Dom g w) {W : World} (hos : W.os = w.os) (htape : W.tape = w.tape) (hout : W.output = w.output) (t : Nat) (hsz : W.heap.size = w.heap.size + 1)
    (hh : ∀ k, k < w.heap.size → W.heap[k]? = w.heap[k]?) : Qt (fun _ => False) g w (g.at w.heap.size (.uni t)) W live live' := by
  have hg : ∀ b, b < w.heap.size → g.at w.heap.size (.uni t) b = g b := fun b hb => Ghost.at_ne g _ (by omega)
  refine ⟨⟨hos, htape, hout, by omega, fun k hk hgk => ⟨hh k hk, by rw [hg k hk]; exact hgk⟩, fun k m hk hgk => ⟨hh k hk, by rw [hg k hk]; exact hgk⟩,
    fun k m u hk hgk => ⟨m, some u, by rw [hg k hk]; exact hgk, Nat.le_refl _, fun i v _ hv => by rw [cell_same (hh k hk)]; exact hv⟩, fun k id hk hgk => ⟨by rw [hg k hk]; exact hgk, Nat.le_of_eq (bsize_same (hh k hk)).symm⟩⟩,
    ?_, fun k id hgk => hh k (hd.lt_obj hgk), fun k id h => ?_, fun _ _ _ h => h.elim, fun _ h => h.elim, fun _ _ h => h.elim⟩
  · intro k hk
    rw [hsz] at hk
    rw [Ghost.at_ne g _ (by omega)]
    exact hd k (by omega)
  · by_cases hk : k = w.heap.size
    · subst hk; rw [Ghost.at_same] at h; cases h
    · rwa [Ghost.at_ne g _ hk] at h

/-- What a slice that is ours alone reads as, told by its row. -/
theorem rc_uni_of {g' : Ghost} {W : World} {b cap tk es : Nat} {c : Array Value} {e : TypeId} {rows : List (List D)} {L : List Value} (hg : g' b = .uni tk) (hh : W.heap[b]? = some (.cells c e (0, 0))) (hn : rows.length ≤ cap) (hm : cap ≤ maxLen)
    (hcs : cap * es ≤ c.size) (hes : ∀ r ∈ rows, r.length = es) (hrl : RL g' W L rows.flatten) (hL : ∀ (j : Nat) (u : Value), L[j]? = some u → c[j]? = some u) :
    RC g' W live (.slice (some ⟨b, 0, none⟩) rows.length cap) (.uni tk es rows) := by
  refine ⟨⟨_, _, rfl⟩, fun _ => .inr ⟨b, cap, c, e, rfl, hg, hh, hn, hm, hcs, hes, fun j d hj => ?_⟩⟩
  have hlt : j < L.length := by rw [hrl.1]; exact (List.getElem?_eq_some_iff.1 hj).1
  exact ⟨hrl.2.1 d (List.mem_of_getElem? hj), L[j], hL j _ (List.getElem?_eq_getElem hlt), hrl.2.2 j _ d (List.getElem?_eq_getElem hlt) hj⟩

/-- A slice that is ours alone, told by its row. -/
theorem uni_row {t es : Nat} {l : List (List D)} {v : Value} (h : UniOk g w t es l v) (hne : l ≠ []) :
    ∃ (b cap : Nat) (cur : Array Value) (e : TypeId), v = .slice (some ⟨b, 0, none⟩) l.length cap ∧ g b = .uni t ∧ w.heap[b]? = some (.cells cur e (0, 0)) ∧ l.length ≤ cap ∧ cap ≤ maxLen ∧ cap * es ≤ cur.size ∧ (∀ r ∈ l, r.length = es) ∧
      RL g w (cur.toList.take (l.length * es)) l.flatten := by
  rcases h with ⟨ad, rfl, rfl⟩ | ⟨b, cap, cur, e, rfl, h2, h3, h4, h5, h6, h7, h8⟩
  · exact (hne rfl).elim
  · have hfl : l.flatten.length = l.length * es := flat_length h7
    have hrow : l.length * es ≤ cap * es := Nat.mul_le_mul_right _ h4
    have hlen : (cur.toList.take (l.length * es)).length = l.length * es := by have hq : cur.toList.length = cur.size := Array.length_toList; rw [List.length_take]; omega
    refine ⟨b, cap, cur, e, rfl, h2, h3, h4, h5, h6, h7, ⟨by rw [hlen, hfl], fun d hd => ?_, fun j v d hv hd => ?_⟩⟩
    · obtain ⟨j, hj⟩ := List.getElem?_of_mem hd
      exact (h8 j d hj).1
    · obtain ⟨_, u, c2, c3⟩ := h8 j d hd
      rw [List.getElem?_take] at hv
      split at hv
      · simp only [Array.getElem?_toList] at hv
        rw [c2] at hv; cases hv
        exact c3
      · cases hv

theorem RL.ones {vs : List Value} {ds : List D} (h : RL g w vs ds) : ∀ v ∈ vs, v.oneCell' = true := by
  intro v hv
  obtain ⟨j, hj⟩ := List.getElem?_of_mem hv
  have hlt : j < ds.length := by rw [← h.1]; exact (List.getElem?_eq_some_iff.1 hj).1
  exact (h.2.2 j v _ hj (List.getElem?_eq_getElem hlt)).oneCell (h.2.1 _ (List.getElem_mem hlt))

end
end Go.Abs
