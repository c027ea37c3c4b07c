/- The abstract layer, part 30: short words for the texts that compute with abstract code. -/
import Derived.Test.YthcpckcgjplhiaaBc
namespace Go.Abs

/-- What is known of a function: its code, its results, how many temporaries it has. -/
structure FnIs (P : Program) (f : FuncId) (fn : Func) (mu : List Nat) (news : List (FuncId × Nat)) (sc : SCode) (rvs : List RVar) (N : Nat) : Prop where
  fol : P.follows .mixedOrders = true
  isf : P.funcs[f]? = some fn
  code : fn.body.bind (compCode P mu fn.ntmps news) = some sc.erase
  res : fn.results.toList.mapM (compRes P) = some rvs
  num : fn.ntmps = N
  body : (P.funcs[f]?).any (fun fn => fn.body.isSome && !(fn.name == "runtime.NumGoroutine")) = true

section
variable {P : Program} {f : FuncId} {fn : Func} {mu : List Nat} {news : List (FuncId × Nat)} {sc : SCode} {rvs : List RVar} {N : Nat} {args rs : List ASlot} {r : ASlot} {objs objs' : List AObj}

/-- A function's contract, from its code. -/
theorem FnIs.go (F : FnIs P f fn mu news sc rvs N) (h : AWp P objs.length sc (bodyQ objs.length rvs [r] objs') (entrySt args objs)) (hN : args.length ≤ N := by simp) (hl : rvs.length = 1 := by rfl) (hw : ltB 16 (toksOf args ++ osToks objs) = true := by rfl) :
    ACall P f args objs r objs' :=
  acall_go (rs := [r]) F.fol F.isf F.code F.res h (by rw [F.num]; exact hN) (by rw [hl]; rfl) hw

/-- .. with several results, or none. -/
theorem FnIs.goT (F : FnIs P f fn mu news sc rvs N) (h : AWp P objs.length sc (bodyQ objs.length rvs rs objs') (entrySt args objs)) (hN : args.length ≤ N := by simp) (hl : rvs.length = rs.length := by rfl) (hn : rs.length ≠ 1 := by simp) (hw : ltB 16 (toksOf args ++ osToks objs) = true := by rfl) :
    ACall P f args objs (.tup rs) objs' := by
  rw [← mkRes_tup hn]
  exact acall_go F.fol F.isf F.code F.res h (by rw [F.num]; exact hN) hl hw
end

/-- COMPUTE. -/
theorem ev {p q : Prop} (h : q) (e : p = q := by conv => lhs; simp only [go_sem, Nat.reduceAdd, Nat.reduceMul, Nat.reduceSub, Nat.reduceEqDiff, Nat.reduceLT, Nat.reduceLeDiff, Nat.reduceBEq, reduceIte, reduceCtorEq, Int.reduceAdd, Int.reduceLT, Int.reduceLE, Int.reduceGT, Int.reduceGE, Int.reduceEq, Int.reduceNe, Int.reduceBEq, Int.reduceBNe, Int.reduceToNat, Int.reduceNeg]) : p := e ▸ h
/-- .. to the end. -/
theorem evT {p : Prop} (e : p = True := by simp only [go_sem, Nat.reduceAdd, Nat.reduceMul, Nat.reduceSub, Nat.reduceEqDiff, Nat.reduceLT, Nat.reduceLeDiff, Nat.reduceBEq, reduceIte, reduceCtorEq, Int.reduceAdd, Int.reduceLT, Int.reduceLE, Int.reduceGT, Int.reduceGE, Int.reduceEq, Int.reduceNe, Int.reduceBEq, Int.reduceBNe, Int.reduceToNat, Int.reduceNeg]) : p := of_eq_true e

/-- An obligation. -/
theorem ob {p q : Prop} (k : q) (h : p := by first | omega | (simp_all; done) | grind) : p ∧ q := ⟨h, k⟩

section
variable {P : Program} {f : FuncId} {fn : Func} {mu : List Nat} {news : List (FuncId × Nat)} {sc : SCode} {rvs : List RVar} {N : Nat}
variable {ops : List SOper} {k : Nat} {tids : List (List Nat)} {K : List (List Nat) → St → Prop} {fr : Fr} {os : List AObj} {live : List Nat} {nt : Nat} {dst : Option Nat} {g ok : Bool} {fa as : List ASlot} {r : ASlot} {fo fo' : List AObj}

/-- A call of a function that neither takes nor gives owned slices, nor looks at objects. -/
theorem cl (F : FnIs P f fn mu news sc rvs N) (hc : ACall P f fa [] r []) (hK : ARun P ops (k + 1) (tids ++ [[]]) K ⟨putFr fr dst g r, os, live, nt⟩)
    (ho : g = true → ok = true := by first | exact fun h => h | exact fun _ => rfl | (intro h; simp only [h, Bool.and_self, Bool.and_true]))
    (hfit : g = true → matchAll as fa := by intro _; first | exact trivial | exact ⟨matchA_refl, trivial⟩ | exact ⟨matchA_refl, matchA_refl, trivial⟩ | exact ⟨matchA_refl, matchA_refl, matchA_refl, trivial⟩ | exact ⟨matchA_refl, matchA_refl, matchA_refl, matchA_refl, trivial⟩ | simp only [go_sem, Nat.reduceAdd, Nat.reduceMul, Nat.reduceSub, Nat.reduceEqDiff, Nat.reduceLT, Nat.reduceLeDiff, Nat.reduceBEq, reduceIte, reduceCtorEq, Int.reduceAdd, Int.reduceLT, Int.reduceLE, Int.reduceGT, Int.reduceGE, Int.reduceEq, Int.reduceNe, Int.reduceBEq, Int.reduceBNe, Int.reduceToNat, Int.reduceNeg])
    (hnp : fa.all ASlot.noPtr = true := by first | rfl | simp only [go_sem, Nat.reduceAdd, Nat.reduceMul, Nat.reduceSub, Nat.reduceEqDiff, Nat.reduceLT, Nat.reduceLeDiff, Nat.reduceBEq, reduceIte, reduceCtorEq, Int.reduceAdd, Int.reduceLT, Int.reduceLE, Int.reduceGT, Int.reduceGE, Int.reduceEq, Int.reduceNe, Int.reduceBEq, Int.reduceBNe, Int.reduceToNat, Int.reduceNeg]) (hh : handed as fa = [] := by rfl) (hr : r.toks = [] := by rfl) :
    callO P ops k tids K dst ⟨fr, os, live, nt⟩ g (some (f, as)) ok := callO_pure hc F.body ho hfit hnp hh hr hK

/-- The same, where the arguments are told to fit. -/
theorem clF (F : FnIs P f fn mu news sc rvs N) (hc : ACall P f fa [] r []) (hfit : g = true → matchAll as fa) (hK : ARun P ops (k + 1) (tids ++ [[]]) K ⟨putFr fr dst g r, os, live, nt⟩)
    (ho : g = true → ok = true := by first | exact fun h => h | exact fun _ => rfl | (intro h; simp only [h, Bool.and_self, Bool.and_true]))
    (hnp : fa.all ASlot.noPtr = true := by first | rfl | simp only [go_sem, Nat.reduceAdd, Nat.reduceMul, Nat.reduceSub, Nat.reduceEqDiff, Nat.reduceLT, Nat.reduceLeDiff, Nat.reduceBEq, reduceIte, reduceCtorEq, Int.reduceAdd, Int.reduceLT, Int.reduceLE, Int.reduceGT, Int.reduceGE, Int.reduceEq, Int.reduceNe, Int.reduceBEq, Int.reduceBNe, Int.reduceToNat, Int.reduceNeg]) (hh : handed as fa = [] := by rfl) (hr : r.toks = [] := by rfl) :
    callO P ops k tids K dst ⟨fr, os, live, nt⟩ g (some (f, as)) ok := callO_pure hc F.body ho hfit hnp hh hr hK

/-- A call that is not made. -/
theorem clOff (hK : ARun P ops (k + 1) (tids ++ [[]]) K ⟨putFr fr dst g (.d (.bool false)), os, live, nt⟩) {c : Option (FuncId × List ASlot)} (hg : g = false := by rfl) : callO P ops k tids K dst ⟨fr, os, live, nt⟩ g c ok :=
  callO_off (.bool false) hg hK

/-- A call with objects: under the numbers ι. -/
theorem clO (ι : List Nat) (F : FnIs P f fn mu news sc rvs N) (hc : ACall P f fa fo r fo') (hK : ARun P ops (k + 1) (tids ++ [ι]) K ⟨putFr fr dst true (r.ren ι), setAll os (ι.zip (fo'.map (AObj.ren ι))), live, nt⟩)
    (ho : ok = true := by first | rfl | simp only [go_sem, Nat.reduceAdd, Nat.reduceMul, Nat.reduceSub, Nat.reduceEqDiff, Nat.reduceLT, Nat.reduceLeDiff, Nat.reduceBEq, reduceIte, reduceCtorEq, Int.reduceAdd, Int.reduceLT, Int.reduceLE, Int.reduceGT, Int.reduceGE, Int.reduceEq, Int.reduceNe, Int.reduceBEq, Int.reduceBNe, Int.reduceToNat, Int.reduceNeg])
    (hfit : matchAll as (fa.map (ASlot.ren ι)) := by first | exact ⟨matchA_refl, trivial⟩ | exact ⟨matchA_refl, matchA_refl, trivial⟩ | simp only [go_sem, Nat.reduceAdd, Nat.reduceMul, Nat.reduceSub, Nat.reduceEqDiff, Nat.reduceLT, Nat.reduceLeDiff, Nat.reduceBEq, reduceIte, reduceCtorEq, Int.reduceAdd, Int.reduceLT, Int.reduceLE, Int.reduceGT, Int.reduceGE, Int.reduceEq, Int.reduceNe, Int.reduceBEq, Int.reduceBNe, Int.reduceToNat, Int.reduceNeg])
    (hin : fa.all (ASlot.inK fo.length) = true := by first | rfl | simp only [go_sem, Nat.reduceAdd, Nat.reduceMul, Nat.reduceSub, Nat.reduceEqDiff, Nat.reduceLT, Nat.reduceLeDiff, Nat.reduceBEq, reduceIte, reduceCtorEq, Int.reduceAdd, Int.reduceLT, Int.reduceLE, Int.reduceGT, Int.reduceGE, Int.reduceEq, Int.reduceNe, Int.reduceBEq, Int.reduceBNe, Int.reduceToNat, Int.reduceNeg]) (hh : handed as fa = [] := by rfl) (hr : r.toks = [] := by rfl)
    (hnd : ι.Nodup := by decide) (hlen : ι.length = fo'.length := by rfl) (hle : fo.length ≤ fo'.length := by simp) (hold : objsIn ι os ι fo := by simp only [go_sem, Nat.reduceAdd, Nat.reduceMul, Nat.reduceSub, Nat.reduceEqDiff, Nat.reduceLT, Nat.reduceLeDiff, Nat.reduceBEq, reduceIte, reduceCtorEq, Int.reduceAdd, Int.reduceLT, Int.reduceLE, Int.reduceGT, Int.reduceGE, Int.reduceEq, Int.reduceNe, Int.reduceBEq, Int.reduceBNe, Int.reduceToNat, Int.reduceNeg])
    (hnew : (ι.drop fo.length).all (isNone os) = true := by first | rfl | simp only [go_sem, Nat.reduceAdd, Nat.reduceMul, Nat.reduceSub, Nat.reduceEqDiff, Nat.reduceLT, Nat.reduceLeDiff, Nat.reduceBEq, reduceIte, reduceCtorEq, Int.reduceAdd, Int.reduceLT, Int.reduceLE, Int.reduceGT, Int.reduceGE, Int.reduceEq, Int.reduceNe, Int.reduceBEq, Int.reduceBNe, Int.reduceToNat, Int.reduceNeg]) (hik : fo.all (AObj.inK fo.length) = true := by first | rfl | simp only [go_sem, Nat.reduceAdd, Nat.reduceMul, Nat.reduceSub, Nat.reduceEqDiff, Nat.reduceLT, Nat.reduceLeDiff, Nat.reduceBEq, reduceIte, reduceCtorEq, Int.reduceAdd, Int.reduceLT, Int.reduceLE, Int.reduceGT, Int.reduceGE, Int.reduceEq, Int.reduceNe, Int.reduceBEq, Int.reduceBNe, Int.reduceToNat, Int.reduceNeg]) (htk : (fo'.all fun o => noToks o.cells) = true := by first | rfl | simp only [go_sem, Nat.reduceAdd, Nat.reduceMul, Nat.reduceSub, Nat.reduceEqDiff, Nat.reduceLT, Nat.reduceLeDiff, Nat.reduceBEq, reduceIte, reduceCtorEq, Int.reduceAdd, Int.reduceLT, Int.reduceLE, Int.reduceGT, Int.reduceGE, Int.reduceEq, Int.reduceNe, Int.reduceBEq, Int.reduceBNe, Int.reduceToNat, Int.reduceNeg]) :
    callO P ops k tids K dst ⟨fr, os, live, nt⟩ true (some (f, as)) ok := callO_obj ι hc F.body ho hfit hin hh hr hnd hlen hle hold hnew hik htk hK

/-- A call that takes or gives owned slices. -/
theorem clA (F : FnIs P f fn mu news sc rvs N) (hc : ACall P f fa [] r []) (hK : ARun P ops (k + 1) (tids ++ [[]]) K ⟨putFr fr dst true (retok (16 * (nt + k)) r), os, (live.filter fun t => !((handed as fa).map (·.1)).contains t) ++ (retok (16 * (nt + k)) r).toks, nt⟩)
    (ho : ok = true := by first | rfl | simp only [go_sem, Nat.reduceAdd, Nat.reduceMul, Nat.reduceSub, Nat.reduceEqDiff, Nat.reduceLT, Nat.reduceLeDiff, Nat.reduceBEq, reduceIte, reduceCtorEq, Int.reduceAdd, Int.reduceLT, Int.reduceLE, Int.reduceGT, Int.reduceGE, Int.reduceEq, Int.reduceNe, Int.reduceBEq, Int.reduceBNe, Int.reduceToNat, Int.reduceNeg])
    (h1 : matchAll as fa := by first | exact trivial | exact ⟨matchA_refl, trivial⟩ | exact ⟨matchA_refl, matchA_refl, trivial⟩ | simp only [go_sem, Nat.reduceAdd, Nat.reduceMul, Nat.reduceSub, Nat.reduceEqDiff, Nat.reduceLT, Nat.reduceLeDiff, Nat.reduceBEq, reduceIte, reduceCtorEq, Int.reduceAdd, Int.reduceLT, Int.reduceLE, Int.reduceGT, Int.reduceGE, Int.reduceEq, Int.reduceNe, Int.reduceBEq, Int.reduceBNe, Int.reduceToNat, Int.reduceNeg]) (h2 : fa.all ASlot.noPtr = true := by first | rfl | simp only [go_sem, Nat.reduceAdd, Nat.reduceMul, Nat.reduceSub, Nat.reduceEqDiff, Nat.reduceLT, Nat.reduceLeDiff, Nat.reduceBEq, reduceIte, reduceCtorEq, Int.reduceAdd, Int.reduceLT, Int.reduceLE, Int.reduceGT, Int.reduceGE, Int.reduceEq, Int.reduceNe, Int.reduceBEq, Int.reduceBNe, Int.reduceToNat, Int.reduceNeg]) (h3 : ∀ p ∈ handed as fa, p.1 ∈ live := by first | (intro p hp; cases hp; done) | simp [handed]) (h4 : ((handed as fa).map (·.1)).Nodup := by first | exact List.nodup_nil | simp [handed])
    (hnd : r.toks.Nodup := by first | exact List.nodup_nil | simp [ASlot.toks]) (hfew : r.toks.length ≤ 16 := by simp [ASlot.toks]) :
    callO P ops k tids K dst ⟨fr, os, live, nt⟩ true (some (f, as)) ok := callO_any hc F.body ho ⟨h1, h2, h3, h4⟩ hnd hfew hK
end

section
variable {P : Program} {k0 : Nat} {a x y : SCode} {Q : SExit → St → Prop} {st : St} {c : Opd}
/-- A branch. -/
theorem iff_ (t : Bool) (hx : t = true → AWp P k0 x Q st) (hy : t = false → AWp P k0 y Q st) (h1 : c.ok st.fr = true := by rfl) (h2 : c.get st.fr = .d (.bool t) := by rfl) : AWp P k0 (.cond c x y) Q st := AWp_cond t h1 h2 hx hy
theorem no_ (hy : AWp P k0 y Q st) (h1 : c.ok st.fr = true := by rfl) (h2 : c.get st.fr = .d (.bool false) := by rfl) : AWp P k0 (.cond c x y) Q st := AWp_cond false h1 h2 (fun h => Bool.noConfusion h) (fun _ => hy)
theorem yes_ (hx : AWp P k0 x Q st) (h1 : c.ok st.fr = true := by rfl) (h2 : c.get st.fr = .d (.bool true) := by rfl) : AWp P k0 (.cond c x y) Q st := AWp_cond true h1 h2 (fun _ => hx) (fun h => Bool.noConfusion h)

/-- A pause: over; a slice that is ours alone becomes an object; an object becomes such a slice; an object stands for good; a slice that is ours alone is owned. -/
theorem pu (h : AWp P k0 a Q st) : AWp P k0 (.pause a) Q st := ⟨st, .refl st, h⟩
theorem pu_u2o (p : Pos) (t es : Nat) (rows : List (List D)) (h : AWp P k0 (.pause a) Q (st.u2o p t es rows)) (hp : st.slotAt p = .uni t es rows := by rfl) (ht : t ∈ st.live := by simp) : AWp P k0 (.pause a) Q st := by
  obtain ⟨st', h1, h2⟩ := h
  exact ⟨st', .u2o p t es rows hp ht h1, h2⟩
theorem pu_u2own (p : Pos) (t es : Nat) (rows : List (List D)) (h : AWp P k0 (.pause a) Q (st.u2own p t es rows)) (hp : st.slotAt p = .uni t es rows := by rfl) (ht : t ∈ st.live := by simp) : AWp P k0 (.pause a) Q st := by
  obtain ⟨st', h1, h2⟩ := h
  exact ⟨st', .u2own p t es rows hp ht h1, h2⟩
theorem pu_o2u (p : Pos) (id es : Nat) (rows : List (List D)) (h : AWp P k0 (.pause a) Q (st.o2u p id es rows)) (hc : objCells st.os id = rows.flatten.map .d) (hes : ∀ r ∈ rows, r.length = es)
    (hcl : ∀ d ∈ rows.flatten, d.isCell = true) (hok : D.okWR (neId id) rows = true) (hp : st.slotAt p = .d (.ref id 0 es rows.length) := by rfl) (hk : k0 ≤ id := by omega) (hn : p.notIn id := by first | trivial | decide) : AWp P k0 (.pause a) Q st := by
  obtain ⟨st', h1, h2⟩ := h
  exact ⟨st', .o2u p id es rows hp hc hes hcl hok hk hn h1, h2⟩
theorem pu_frz (id es : Nat) (rows : List (List D)) (h : AWp P k0 (.pause a) Q (st.frz id es rows)) (hc : (objCells st.os id).map ASlot.cellD = rows.flatten) (hcc : (objCells st.os id).all ASlot.isCellD = true) (hes : ∀ r ∈ rows, r.length = es)
    (hok : D.okWR (neId id) rows = true) (hk : k0 ≤ id := by omega) : AWp P k0 (.pause a) Q st := by
  obtain ⟨st', h1, h2⟩ := h
  exact ⟨st', .frz id es rows hc hcc hes hok hk h1, h2⟩
theorem pu_weak {st1 : St} (h0 : Weak k0 st st1) (h : AWp P k0 a Q st1) : AWp P k0 (.pause a) Q st := ⟨st1, .weak h0 (.refl _), h⟩
end

/- How the changed views are computed. -/
section
variable {fr : Fr} {os : List AObj} {live : List Nat} {nt : Nat}
theorem u2o_fr {k t es : Nat} {rows : List (List D)} : St.u2o ⟨fr, os, live, nt⟩ (.fr k) t es rows = ⟨(k, true, .d (.ref os.length 0 es rows.length)) :: fr, os ++ [.row (rows.flatten.map .d)], live.filter fun u => !(u == t), nt⟩ := rfl
theorem u2o_cell {id i t es : Nat} {rows : List (List D)} : St.u2o ⟨fr, os, live, nt⟩ (.cell id i) t es rows = ⟨fr, os.set id (.row ((objCells os id).set i (.d (.ref os.length 0 es rows.length)))) ++ [.row (rows.flatten.map .d)], live.filter fun u => !(u == t), nt⟩ := rfl
theorem u2own_fr {k t es : Nat} {rows : List (List D)} : St.u2own ⟨fr, os, live, nt⟩ (.fr k) t es rows = ⟨(k, true, .own (16 * nt) es rows) :: fr, os, (live.filter fun u => !(u == t)) ++ [16 * nt], nt + 1⟩ := rfl
theorem u2own_cell {id i t es : Nat} {rows : List (List D)} : St.u2own ⟨fr, os, live, nt⟩ (.cell id i) t es rows = ⟨fr, os.set id (.row ((objCells os id).set i (.own (16 * nt) es rows))), (live.filter fun u => !(u == t)) ++ [16 * nt], nt + 1⟩ := rfl
theorem o2u_fr {k id es : Nat} {rows : List (List D)} : St.o2u ⟨fr, os, live, nt⟩ (.fr k) id es rows = ⟨(k, true, .uni (16 * nt) es rows) :: Fr.mapS (ASlot.only (neId id)) fr, (os.map (AObj.mapS (ASlot.only (neId id)))).set id .none, live ++ [16 * nt], nt + 1⟩ := rfl
theorem o2u_cell {j i id es : Nat} {rows : List (List D)} : St.o2u ⟨fr, os, live, nt⟩ (.cell j i) id es rows =
    ⟨Fr.mapS (ASlot.only (neId id)) fr, ((os.map (AObj.mapS (ASlot.only (neId id)))).set id .none).set j (.row ((objCells ((os.map (AObj.mapS (ASlot.only (neId id)))).set id .none) j).set i (.uni (16 * nt) es rows))), live ++ [16 * nt], nt + 1⟩ := rfl
theorem frz_mk {id es : Nat} {rows : List (List D)} : St.frz ⟨fr, os, live, nt⟩ id es rows = ⟨Fr.mapS (fun s => (s.frz id es rows).only (neId id)) fr, (os.map (AObj.mapS fun s => (s.frz id es rows).only (neId id))).set id .none, live, nt⟩ := rfl
end
theorem slotW_uni {keep : Nat → Bool} {t t' es es' : Nat} {r r' : List (List D)} : slotW keep (.uni t es r) (.uni t' es' r') = ((es = es' ∧ r = r') ∧ D.noPtrR r' = true) := rfl
theorem slotW_full_uni {keep : Nat → Bool} {t' es es' : Nat} {r r' : List (List D)} : slotW keep (.full es r) (.uni t' es' r') = (r = [] ∧ r' = []) := rfl
theorem slotW_nil_uni {keep : Nat → Bool} {t' es' : Nat} {r' : List (List D)} : slotW keep (.d .nilsl) (.uni t' es' r') = (r' = []) := rfl
theorem tokPair_uni {t t' es es' : Nat} {r r' : List (List D)} : tokPair (.uni t es r) (.uni t' es' r') = [(t, t')] := rfl
theorem tokPair_full_uni {t' es es' : Nat} {r r' : List (List D)} : tokPair (.full es r) (.uni t' es' r') = [] := rfl
theorem tokPair_d_uni {x : D} {t' es' : Nat} {r' : List (List D)} : tokPair (.d x) (.uni t' es' r') = [] := rfl
theorem matchA_uni {t t' es es' : Nat} {r r' : List (List D)} : matchA (.uni t es r) (.uni t' es' r') = (es = es' ∧ r = r') := rfl
theorem matchA_nil_uni {t' es' : Nat} {r' : List (List D)} : matchA (.d .nilsl) (.uni t' es' r') = (r' = []) := rfl
theorem ren_uni {i : Nat} {ι : List Nat} {t es : Nat} {rows : List (List D)} : ASlot.ren (i :: ι) (.uni t es rows) = .uni t es (D.renR (i :: ι) rows) := rfl
attribute [go_sem] slotW_uni slotW_full_uni slotW_nil_uni tokPair_uni tokPair_full_uni tokPair_d_uni matchA_uni matchA_nil_uni ren_uni
attribute [go_sem] u2o_fr u2o_cell u2own_fr u2own_cell o2u_fr o2u_cell frz_mk Fr.mapS AObj.mapS ASlot.only ASlot.okS neId ASlot.frz D.frz
attribute [go_sem] ARun_copy ARun_minmax ARun_sliceA ASlot.len? refSrc appendU fits copyOut sliceAOut refOk
end Go.Abs
