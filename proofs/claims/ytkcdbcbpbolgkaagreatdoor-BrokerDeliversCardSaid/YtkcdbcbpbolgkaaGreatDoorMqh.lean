/- Texts Az. -/
import Derived.Test.YtkcdbcbpbolgkaaGreatDoorMqg
import Derived.RangeFuncLeaves
set_option linter.unusedSimpArgs false
set_option linter.unusedVariables false
namespace Go.Abs
def qaa : List ASlot → Nat → Fr
 | [], _ => []
 | s :: l, k => (k, true, s) :: qaa l (k + 1)
def qhn (args : List ASlot) (objs : List AObj) : St := { fr := qaa args 0, os := objs, live := vy args ++ xh objs, nt := 1 }
def xpv (rs : List ASlot) (objs : List AObj) : St := { fr := qaa rs 0, os := objs, live := vy rs ++ xh objs, nt := 1 }
def qp6 : List ASlot → ASlot
 | [r] => r
 | rs => .tup rs
inductive RVar where
 | tmp (t : Nat)
 | cell (a : Nat) (n : Option Nat)
def qgn (P : Program) : ResultVar → Option RVar
 | .tmp t => some (.tmp t)
 | .cell a t => (aggN P t).map (.cell a)
def RVar.slot (st : St) : RVar → ASlot
 | .tmp t => (Opd.t t).get st.fr
 | .cell a n => (wm n st.os ((Opd.t a).get st.fr)).v
def RVar.good (st : St) : RVar → Prop
 | .tmp t => (Opd.t t).ok st.fr = true
 | .cell a n => (Opd.t a).ok st.fr = true ∧ (wm n st.os ((Opd.t a).get st.fr)).ob
def xbn (k0 : Nat) (rvs : List RVar) (rs : List ASlot) (objs : List AObj) (st : St) : Prop :=
 (∀ r ∈ rvs, r.good st) ∧ Weak k0 { st with fr := qaa (rvs.map (RVar.slot st)) 0 } (xpv rs objs)
def q2z (k0 : Nat) (rvs : List RVar) (rs : List ASlot) (objs : List AObj) : SExit → St → Prop
 | .normal, st => xbn k0 rvs rs objs st
 | .ret, st => xbn k0 rvs rs objs st
 | .exit _, _ => False
theorem qgo : ∀ (l : List ASlot) (j k : Nat) (v : Bool) (s : ASlot), (qaa l j).get k = some (v, s) → v = true ∧ ∃ i, k = j + i ∧ l[i]? = some s
 | [], j, k, v, s, h => by simp [qaa, Fr.get] at h
 | x :: l, j, k, v, s, h => by
  simp only [qaa, Fr.get] at h
  split at h
  ·rename_i hj
   cases h
   exact ⟨rfl, 0, by omega, rfl⟩
  ·obtain ⟨h1, i, h2, h3⟩ := qgo l (j + 1) k v s h
   exact ⟨h1, i + 1, by omega, by simpa using h3⟩
theorem qfz : ∀ (l : List ASlot) (j i : Nat) (s : ASlot), l[i]? = some s → (qaa l j).get (j + i) = some (true, s)
 | [], j, i, s, h => by simp at h
 | x :: l, j, i, s, h => by
  simp only [qaa, Fr.get]
  cases i with
  | zero => simp at h; subst h; simp
  | succ i =>
   rw [if_neg (by omega)]
   have := qfz l (j + 1) i s (by simpa using h)
   rw [show j + (i + 1) = j + 1 + i by omega]
   exact this
theorem qnh : ∀ (l : List ASlot) (j : Nat), qi2 (qaa l j) = vy l
 | [], _ => rfl
 | s :: l, j => by simp only [qaa, qi2, vy, List.flatMap_cons]; rw [qnh l (j + 1)]; rfl
section
variable {P : Program} {g : Ghost} {w : World}
theorem q5o {N : Nat} {args : List ASlot} {objs : List AObj} {vs : List Value} (hd : Dom g w) (hl : vs.length = args.length) (hN : args.length ≤ N)
  (hv : ∀ (i : Nat) (v : Value) (s : ASlot), vs[i]? = some v → args[i]? = some s → RC g w (vy args ++ xh objs) v s) (ho : ObjsOk g w (vy args ++ xh objs) objs) (hw : ∀ t ∈ vy args ++ xh objs, t < 16) :
  SR N (below 1) g w (qhn args objs) { tmps := vs.toArray ++ Array.replicate (N - vs.toArray.size) undef, defers := [] } := by
 refine ⟨hd, trivial, by simp; omega, fun k v s hk => ?_, ho.objs, ho.inj, ho.ids, ⟨fun t ht => ?_, fun k s hk t ht => ?_, fun id o hid s hs t ht => ?_⟩⟩
 ·obtain ⟨rfl, i, hki, hs⟩ := qgo args 0 k v s hk
  rw [Nat.zero_add] at hki
  subst hki
  refine ⟨fun _ => ?_, fun h => by cases h⟩
  have hi : k < vs.length := by rw [hl]; exact (List.getElem?_eq_some_iff.1 hs).1
  have hget : (vs.toArray ++ Array.replicate (N - vs.toArray.size) undef).getD k undef = vs[k] := by
   rw [Array.getD_eq_getD_getElem?, Array.getElem?_append_left (by simpa using hi)]
   simp [hi]
  show RS g w _ ((vs.toArray ++ Array.replicate (N - vs.toArray.size) undef).getD k undef) s
  rw [hget]
  exact je (hv k _ s (List.getElem?_eq_getElem hi) hs)
 ·exact hw t (ht)
 ·have h1 := ql0 hk t ht
  have h2 : t ∈ vy args := by rw [← qnh args 0]; exact h1
  exact hw t (List.mem_append_left _ h2)
 ·exact hw t (List.mem_append_right _ (qh8 hid s hs t ht))
def qi3 (tmps : Array Value) : ResultVar → Sem Value
 | .tmp t => pure (tmps.getD t undef)
 | .cell a t => do loadVar t (← asAddr (tmps.getD a undef))
def resV : List Value → Value
 | [v] => v
 | vs => .tuple vs.toArray
theorem q5p {P : Program} {w : World} {tmps : Array Value} : ∀ (l : List ResultVar) (vs : List Value), vs.length = l.length →
  (∀ (i : Nat) (r : ResultVar) (v : Value), l[i]? = some r → vs[i]? = some v → (qi3 tmps r).run P w = .ok v w) → (l.mapM (qi3 tmps)).run P w = .ok vs w
 | [], [], _, _ => rfl
 | r :: l, v :: vs, hl, h => by
  rw [List.mapM_cons]
  have h0 := h 0 r v rfl rfl
  have ih := q5p l vs (by simpa using hl) (fun i r v hr hv => h (i + 1) r v (by simpa using hr) (by simpa using hv))
  simp only [Sem.run_bind, h0, Result.andThen_ok, ih, Sem.run_pure]
 | [], _ :: _, h, _ => by simp at h
 | _ :: _, [], h, _ => by simp at h
theorem qp7 {P : Program} {w : World} {fn : Func} {tmps : Array Value} {l : List ResultVar} (h : fn.results = l.toArray) {vs : List Value} (hl : vs.length = l.length)
  (hv : ∀ (i : Nat) (r : ResultVar) (v : Value), l[i]? = some r → vs[i]? = some v → (qi3 tmps r).run P w = .ok v w) : (results fn tmps).run P w = .ok (resV vs) w := by
 have hm := q5p l vs hl hv
 have he : results fn tmps = (do
   let vs ← l.toArray.mapM (qi3 tmps)
   pure (if h : vs.size = 1 then vs[0] else .tuple vs)) := by
  unfold results
  rw [h]
  rfl
 rw [he, List.mapM_toArray]
 simp [hm]
 match vs with
 | [] => rfl
 | [v] => rfl
 | v :: v' :: vs => simp [resV]
theorem qtl {rs : List ASlot} (hnt : ∀ r ∈ rs, ∀ l, r ≠ .tup l) : ∀ t ∈ (qp6 rs).toks, t ∈ vy rs := by
 have many : ∀ t ∈ (ASlot.tup rs).toks, t ∈ vy rs := by
  intro t ht
  simp only [ASlot.toks, List.mem_flatMap] at ht
  obtain ⟨s, hs, hts⟩ := ht
  simp only [vy, List.mem_flatMap]
  exact ⟨s, hs, (qkc hts).1⟩
 match rs with
 | [] => exact many
 | [r] => intro t ht; simpa [vy, qp6] using ht
 | r :: r' :: rs => exact many
theorem xbo {live : List Nat} {vs : List Value} {rs : List ASlot} (hl : vs.length = rs.length) (h : ∀ (i : Nat) (v : Value) (r : ASlot), vs[i]? = some v → rs[i]? = some r → RS g w live v r)
  (hnt : ∀ r ∈ rs, ∀ l, r ≠ .tup l) : RS g w live (resV vs) (qp6 rs) := by
 have many : RS g w live (.tuple vs.toArray) (.tup rs) := ⟨vs, rfl, hl, fun i u s hu hs => qas (h i u s hu hs) (hnt s (List.mem_of_getElem? hs))⟩
 match vs, rs, hl with
 | [], [], _ => exact many
 | [v], [r], _ => exact h 0 v r rfl rfl
 | v :: v' :: vs, r :: r' :: rs, _ => exact many
theorem qtm {N : Nat} {T : Nat → Prop} {st : St} {a : Act} (hs : SR N T g w st a) {x : ResultVar} {y : RVar} (hc : qgn P x = some y) (hg : y.good st) :
  ∃ v, (qi3 a.tmps x).run P w = .ok v w ∧ RS g w st.live v (y.slot st) ∧ ∀ t ∈ (y.slot st).toks, T t := by
 cases x with
 | tmp t =>
  simp only [qgn, Option.some.injEq] at hc
  subst hc
  have h1 := xc hs (y := .tmp t) (x := .t t) rfl hg
  exact ⟨a.eval (.tmp t), rfl, h1, qe5 hs (y := .tmp t) (x := .t t) rfl hg⟩
 | cell b t =>
  simp only [qgn, Option.map_eq_some_iff] at hc
  obtain ⟨n, hn, rfl⟩ := hc
  have hop : ({ (default : Oper) with op := Op.load t (.tmp b) } : Oper).op = .load t (.tmp b) := rfl
  obtain ⟨v, hv, hr⟩ := qs7 (P := P) (tb := 0) hop hn (y := .t b) rfl hs hg
  refine ⟨v, ?_, hr, qyo hs n _⟩
  have hx := xc hs (y := .tmp b) (x := .t b) rfl hg.1
  have hsl : ∃ ad, a.eval (.tmp b) = .pointer (some ad) := by
   have hob := hg.2
   cases hy : (Opd.t b).get st.fr with
   | d p =>
    rw [hy] at hx hob
    cases p with
    | ptr id off =>
     have := wj hx
     generalize a.eval (.tmp b) = u at this
     cases this with
     | ptr bb _ _ _ => exact ⟨_, rfl⟩
    | _ => simp [wm, Out.bad] at hob
   | rd cs =>
    rw [hy] at hx
    obtain ⟨b', off, n', o, f, h1, _⟩ := hx
    exact ⟨_, h1⟩
   | _ => rw [hy] at hob; simp [wm, Out.bad] at hob
  obtain ⟨ad, had⟩ := hsl
  have h1 : a.tmps.getD b undef = .pointer (some ad) := had
  simp only [qi3, h1, asAddr, pure_bind]
  simp only [execOp, Instr.loadAt, had, Instr.sureAddr, pure_bind] at hv
  rw [Sem.run_bind] at hv
  cases hl : (loadVar t ad).run P w with
  | ok u w' =>
   rw [hl] at hv
   simp only [Result.andThen_ok, Sem.run_pure, Result.ok.injEq, Next.value.injEq] at hv
   rw [hv.1, hv.2]
  | halt h w' => rw [hl] at hv; cases hv
theorem qc6 {N : Nat} {T : Nat → Prop} {st : St} {a : Act} {g0 : Ghost} {w0 : World} {fn : Func} {R : Ending → World → Prop} : ∀ (ds : List Deferred) (w : World), SR N T g w st a → G g0 w0 g w → Marks g0 w0 g w ds →
  (∀ w', SR N T g w' st a → G g0 w0 g w' → ∃ v, (results fn a.tmps).run P w' = .ok v w' ∧ R (.returned v) w') → LeavesInM Fence.wide 0 P fn a.tmps R ds .returning w
 | [], w, hs, hG, _, h => h w hs hG
 | d :: ds, w, hs, hG, hM, h => by
  obtain ⟨b, h1, h2, h3, h4⟩ := hM.one d List.mem_cons_self
  have hw : ∀ k, k ≠ b → (w.putObj b (.deferred none)).heap[k]? = w.heap[k]? := fun k hk => by simp [World.putObj, Ne.symm hk]
  have hsz : (w.putObj b (.deferred none)).heap.size = w.heap.size := by simp [World.putObj]
  have hlt : ∀ k, k < w0.heap.size → k ≠ b := fun k hk he => by omega
  have hG' : G g0 w0 g (w.putObj b (.deferred none)) := by
   refine ⟨hG.os, hG.tape, hG.output, by rw [hsz]; exact hG.size, fun k hk hg => ?_, fun k n hk hg => ?_, fun k n t hk hg => ?_, fun k id hk hg => ?_⟩
   ·rw [hw k (hlt k hk)]; exact hG.out k hk hg
   ·rw [hw k (hlt k hk)]; exact hG.rowN k n hk hg
   ·obtain ⟨n', o', q1, q2, q3⟩ := hG.rowS k n t hk hg
    exact ⟨n', o', q1, q2, fun i u hi hu => by rw [ky (hw k (hlt k hk))]; exact q3 i u hi hu⟩
   ·rw [ji (hw k (hlt k hk))]; exact hG.obj k id hk hg
  refine ⟨by simp, .inl ⟨b, _, h1, run_takeDeferred h4, qc6 ds _ (hs.dead h3 hw hsz) hG' ⟨fun e he => ?_, (List.pairwise_cons.1 hM.two).2⟩ h⟩⟩
  obtain ⟨c, q1, q2, q3, q4⟩ := hM.one e (List.mem_cons_of_mem _ he)
  have hcb : c ≠ b := by
   rintro rfl
   exact (List.pairwise_cons.1 hM.two).1 e he (h1.trans q1.symm)
  exact ⟨c, q1, q2, q3, by rw [hw c hcb]; exact q4⟩
theorem qvt {mu : List Nat} {news : List (FuncId × Nat)} {f : FuncId} {fn : Func} {c : Code} {sc : SCode} {args rs : List ASlot} {objs objs' : List AObj} {rv : List ResultVar} {rvs : List RVar}
  (hm : P.follows .mixedOrders = true) (hf : P.funcs[f]? = some fn) (hb : fn.body = some c) (hr : fn.results = rv.toArray) (hrv : rv.mapM (qgn P) = some rvs) (hc : zm P mu fn.ntmps news c = some sc.erase)
  (hN : args.length ≤ fn.ntmps) (hl : rvs.length = rs.length) (hw : ∀ t ∈ vy args ++ xh objs, t < 16)
  (h : AWp P objs.length sc (q2z objs.length rvs rs objs') (qhn args objs)) : qg P f args objs (qp6 rs) objs' := by
 intro g w vs hd hvl hv ho
 have hs := q5o (N := fn.ntmps) hd hvl hN hv ho hw
 have h0 : ∀ b id, g b = .obj id → id < objs.length := fun b id hb => by
  obtain ⟨o, ho', _⟩ := ho.ids b id hb
  exact (List.getElem?_eq_some_iff.1 ho').1
 obtain ⟨hvl', hvg⟩ := jy hrv
 refine (callsIn_wide (n := 0)).1 (callsIn_of_wp_marks (F := Fence.wide) hf hb trivial (qy2 (ro := none) hm h0 rfl c sc _ _ _ g w _ hc h hs (G.refl g w) ⟨by simp, List.Pairwise.nil⟩ (fun e st' g' w' a' hq hs' hG' hM' => ?_)))
 have fin : xbn objs.length rvs rs objs' st' → ∀ w', SR fn.ntmps (below st'.nt) g' w' st' a' → G g w g' w' → ∃ v, (results fn a'.tmps).run P w' = .ok v w' ∧
   ∃ v' g'' live', Ending.returned v = .returned v' ∧ G g w g'' w' ∧ Dom g'' w' ∧ (∀ t ∈ (qp6 rs).toks ++ xh objs', t ∈ live') ∧ RS g'' w' live' v' (qp6 rs) ∧ ObjsOk g'' w' live' objs' := by
  rintro ⟨hgood, hwk⟩ w' hs' hG'
  have hone : ∀ (i : Nat), i < rv.length → ∃ v, ∀ (x : ResultVar) (y : RVar), rv[i]? = some x → rvs[i]? = some y → (qi3 a'.tmps x).run P w' = .ok v w' ∧ RS g' w' st'.live v (y.slot st') ∧ ∀ t ∈ (y.slot st').toks, below st'.nt t := by
   intro i hi
   have h1 : rv[i]? = some rv[i] := List.getElem?_eq_getElem hi
   have h2 : rvs[i]? = some (rvs[i]'(by omega)) := List.getElem?_eq_getElem (by omega)
   obtain ⟨v, q1, q2, q3⟩ := qtm hs' (hvg i _ _ h1 h2) (hgood _ (List.mem_of_getElem? h2))
   refine ⟨v, fun x y hx hy => ?_⟩
   rw [h1] at hx; cases hx
   rw [h2] at hy; cases hy
   exact ⟨q1, q2, q3⟩
  let us : List Value := (List.range rv.length).map fun i => if hi : i < rv.length then Classical.choose (hone i hi) else undef
  have husl : us.length = rv.length := by simp [us]
  have hus : ∀ (i : Nat) (x : ResultVar) (y : RVar) (u : Value), rv[i]? = some x → rvs[i]? = some y → us[i]? = some u → (qi3 a'.tmps x).run P w' = .ok u w' ∧ RS g' w' st'.live u (y.slot st') ∧ ∀ t ∈ (y.slot st').toks, below st'.nt t := by
   intro i x y u hx hy hu
   have hi : i < rv.length := (List.getElem?_eq_some_iff.1 hx).1
   have : u = Classical.choose (hone i hi) := by
    simp only [us, List.getElem?_map, List.getElem?_range hi, Option.map_some, Option.some.injEq, dif_pos hi] at hu
    exact hu.symm
   rw [this]
   exact Classical.choose_spec (hone i hi) x y hx hy
  have hrun : (results fn a'.tmps).run P w' = .ok (resV us) w' := qp7 hr husl (fun i x v hx hv' => by
   have hi : i < rvs.length := by rw [← hvl']; exact (List.getElem?_eq_some_iff.1 hx).1
   exact (hus i x rvs[i] v hx (List.getElem?_eq_getElem hi) hv').1)
  have hvirt : SR us.length (below st'.nt) g' w' { st' with fr := qaa (rvs.map (RVar.slot st')) 0 } { tmps := us.toArray, defers := [] } := by
   have hget : ∀ (k : Nat) (v : Bool) (s : ASlot), (qaa (rvs.map (RVar.slot st')) 0).get k = some (v, s) → v = true ∧ ∃ x y u, rv[k]? = some x ∧ rvs[k]? = some y ∧ us[k]? = some u ∧ s = y.slot st' := by
    intro k v s hk
    obtain ⟨rfl, i, hki, hs⟩ := qgo _ 0 k v s hk
    rw [Nat.zero_add] at hki
    subst hki
    simp only [List.getElem?_map, Option.map_eq_some_iff] at hs
    obtain ⟨y, hy, rfl⟩ := hs
    have hi : k < rv.length := by rw [hvl']; exact (List.getElem?_eq_some_iff.1 hy).1
    exact ⟨rfl, rv[k], y, us[k]'(by rw [husl]; exact hi), List.getElem?_eq_getElem hi, hy, List.getElem?_eq_getElem _, rfl⟩
   refine ⟨hs'.dom, trivial, by simp, fun k v s hk => ?_, hs'.objs, hs'.inj, hs'.ids, ⟨hs'.wf.live, fun k s hk t ht => ?_, hs'.wf.os⟩⟩
   ·obtain ⟨rfl, x, y, u, hx, hy, hu, rfl⟩ := hget k v s hk
    refine ⟨fun _ => ?_, fun h => by cases h⟩
    have hk' : us.toArray.getD k undef = u := by
     simp [Array.getD_eq_getD_getElem?, hu]
    show RS g' w' st'.live (us.toArray.getD k undef) _
    rw [hk']
    exact (hus k x y u hx hy hu).2.1
   ·obtain ⟨_, x, y, u, hx, hy, hu, rfl⟩ := hget k true s hk
    exact (hus k x y u hx hy hu).2.2 t ht
  obtain ⟨g'', hs'', hG'', _⟩ := hwk.sr hvirt hG' h0
  have hnt : ∀ r ∈ rs, ∀ l, r ≠ .tup l := by
   intro r hrm l hrl
   subst hrl
   obtain ⟨i, hi⟩ := List.getElem?_of_mem hrm
   obtain ⟨s, _, q2, _⟩ := qvo hwk.fr _ _ _ (qfz rs 0 i _ hi)
   exact qyx (q2 rfl)
  refine ⟨_, hrun, _, g'', vy rs ++ xh objs', rfl, hG'', hs''.dom, fun t ht => (List.mem_append.1 ht).elim (fun h => List.mem_append_left _ (qtl hnt t h)) (fun h => List.mem_append_right _ h), xbo (by rw [husl, hvl', hl]) (fun i v r h1 h2 => ?_) hnt, ⟨hs''.objs, hs''.inj, hs''.ids⟩⟩
  have h3 := (hs''.slots (0 + i) true r (qfz rs 0 i r h2)).1 rfl
  rw [Nat.zero_add] at h3
  have hk' : us.toArray.getD i undef = v := by simp [Array.getD_eq_getD_getElem?, h1]
  have h4 : RS g'' w' (vy rs ++ xh objs') (us.toArray.getD i undef) r := h3
  rw [hk'] at h4
  exact h4
 cases e with
 | normal => exact qc6 a'.defers w' hs' hG' hM' (fin hq)
 | ret => exact qc6 a'.defers w' hs' hG' hM' (fin hq)
 | exit id => exact hq.elim
end
end Go.Abs
