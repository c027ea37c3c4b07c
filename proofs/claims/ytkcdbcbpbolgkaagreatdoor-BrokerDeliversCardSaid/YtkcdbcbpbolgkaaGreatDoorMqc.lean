/- Texts Af, Ag, Ah, Ai. -/
import Derived.Test.YtkcdbcbpbolgkaaGreatDoorMqb
import Derived.Laws.StructEq
import Derived.Laws.BytesString
set_option linter.unusedSimpArgs false
set_option linter.unusedVariables false
namespace Go.Abs
section
variable {P : Program} {N tb : Nat} {T : Nat → Prop} {g : Ghost} {w : World} {st : St} {a : Act} {oper : Oper}
theorem qal {t : TypeId} {u v : Value} {b : Bool} (h : (Op.equalIn (9999 + 1) t u v).run P w = .ok b w) : (Op.equal t u v).run P w = .ok b w := h
theorem qj4 {t e : TypeId} (ht : P.underlying t = some (.pointer e)) (x : Option Addr) (w : World) : (Op.equal t (.pointer x) (.pointer none)).run P w = .ok x.isNone w :=
 qal (by rw [Op.equalIn]; cases x <;> simp [run_underlying ht])
theorem qsf {t : TypeId} {p r : Array TypeId} {v : Bool} (ht : P.underlying t = some (.func p r v)) (fn : Fn) (f c : Array Value) (w : World) : (Op.equal t (.func fn f c) .nilFunc).run P w = .ok false w :=
 qal (by rw [Op.equalIn]; simp [run_underlying ht])
theorem qls {t : TypeId} {p r : Array TypeId} {v : Bool} (ht : P.underlying t = some (.func p r v)) (w : World) : (Op.equal t .nilFunc .nilFunc).run P w = .ok true w :=
 qal (by rw [Op.equalIn]; simp [run_underlying ht])
theorem qo9 {t : TypeId} {m : Array (String × TypeId)} (ht : P.underlying t = some (.interface m)) (s : TypeId) (u : Value) (w : World) : (Op.equal t (.iface s u) .nilIface).run P w = .ok false w :=
 qal (by rw [Op.equalIn]; simp [run_underlying ht])
theorem qj5 {t : TypeId} {m : Array (String × TypeId)} (ht : P.underlying t = some (.interface m)) (w : World) : (Op.equal t .nilIface .nilIface).run P w = .ok true w :=
 qal (by rw [Op.equalIn]; simp [run_underlying ht])
theorem qj6 {t k e : TypeId} (ht : P.underlying t = some (.map k e)) (x : Option Nat) (w : World) : (Op.equal t (.map x) (.map none)).run P w = .ok x.isNone w :=
 qal (by rw [Op.equalIn]; cases x <;> simp [run_underlying ht])
theorem q2f {neg : Bool} {t u : TypeId} {x y : Operand} {x' : Opd} {d : TypeDesc} {k : NK} (ho : oper.op = .binOp (if neg then .neq else .eql) t x y u) (hx : qp x = some x')
  (hd : P.underlying t = some d) (hk : q2d d y = some k) (hs : SR N T g w st a)
  (hob : (sem tb (.eqnil neg k x') st).ob) : yi P g w st a oper (sem tb (.eqnil neg k x') st).v := by
 simp only [sem] at hob ⊢
 cases hn : qn2 k (x'.get st.fr) with
 | none => grind [Out.bad]
 | some b =>
  simp only [hn] at hob ⊢
  have r1 := xc hs hx hob
  have fin : (do eqGuard (if neg then .neq else .eql) t x y (a.eval x) (a.eval y); binOp (if neg then .neq else .eql) t (a.eval x) (a.eval y) : Sem Value).run P w = .ok (.bool (if neg then !b else b)) w →
    yi P g w st a oper (.d (.bool (if neg then !b else b))) := fun h => ⟨_, by simp only [execOp, ho]; rw [Sem.run_bind, h]; simp, .bool _⟩
  apply fin
  unfold q2d at hk
  split at hk <;> simp at hk <;> subst hk
  ·cases hx : x'.get st.fr with
   | d p =>
    rw [hx] at hn r1
    cases p <;> simp [qn2] at hn <;> subst hn <;> generalize a.eval x = v at r1 <;> cases wj r1 <;> cases neg <;>
     simp [Act.eval, eqGuard_at_pointer, binOp, qj4 hd]
   | rd cs =>
    rw [hx] at hn r1
    simp [qn2] at hn; subst hn
    obtain ⟨b, off, vs, hv, _⟩ := xl7 r1
    rw [hv]
    cases neg <;> simp [Act.eval, eqGuard_at_pointer, binOp, qj4 hd]
   | _ => grind [qn2]
  ·cases hx : x'.get st.fr with
   | d p =>
    rw [hx] at hn r1
    cases p <;> simp [qn2] at hn <;> subst hn <;> generalize a.eval x = v at r1 <;> cases wj r1 <;> cases neg <;>
     simp [Act.eval, eqGuard_at_func, eqGuard_at_nilFunc, binOp, qsf hd, qls hd]
   | _ => grind [qn2]
  ·cases hx : x'.get st.fr with
   | d p =>
    rw [hx] at hn r1
    cases p <;> simp [qn2] at hn <;> subst hn <;> generalize a.eval x = v at r1 <;> cases wj r1 <;> cases neg <;>
     simp [Act.eval, eqGuard_at_iface, eqGuard_nil_constR, binOp, qo9 hd, qj5 hd]
   | _ => grind [qn2]
  ·cases hx : x'.get st.fr with
   | d p =>
    rw [hx] at hn r1
    cases p <;> simp [qn2] at hn <;> subst hn <;> generalize a.eval x = v at r1 <;> cases wj r1 <;> cases neg <;>
     simp [Act.eval, eqGuard_at_map, binOp, qj6 hd]
   | _ => grind [qn2]
theorem qva : ∀ {ka kb : List CK} {as bs : List D}, eqOk (ka ++ kb) as bs = true → ∃ a1 a2 b1 b2, as = a1 ++ a2 ∧ bs = b1 ++ b2 ∧ a1.length = ka.length ∧ b1.length = ka.length ∧ eqOk ka a1 b1 = true ∧ eqOk kb a2 b2 = true
 | [], kb, as, bs, h => ⟨[], as, [], bs, rfl, rfl, rfl, rfl, rfl, h⟩
 | k :: ka, kb, as, bs, h => by
  have st : ∀ {x y : D} {l r : List D}, eqOk (ka ++ kb) l r = true → (∀ l r, eqOk ka l r = true → eqOk (k :: ka) (x :: l) (y :: r) = true) → ∃ a1 a2 b1 b2, x :: l = a1 ++ a2 ∧ y :: r = b1 ++ b2 ∧ a1.length = (k :: ka).length ∧ b1.length = (k :: ka).length ∧ eqOk (k :: ka) a1 b1 = true ∧ eqOk kb a2 b2 = true := by
   intro x y l r h1 h2
   obtain ⟨a1, a2, b1, b2, rfl, rfl, e3, e4, e5, e6⟩ := qva h1
   exact ⟨x :: a1, a2, y :: b1, b2, rfl, rfl, by simp [e3], by simp [e4], h2 _ _ e5, e6⟩
  cases k <;> cases as <;> cases bs <;> try (simp [eqOk] at h; done)
  all_goals
   rename_i x l y r
   cases x <;> cases y <;> first | (simp [eqOk] at h; done) | skip
  ·simp only [List.cons_append, eqOk, Bool.and_eq_true] at h
   exact st h.2 fun l r hr => by simp only [eqOk, Bool.and_eq_true]; exact ⟨h.1, hr⟩
  ·exact st h fun l r hr => hr
  ·exact st h fun l r hr => hr
theorem qpa : ∀ {a1 a2 b1 b2 : List D}, a1.length = b1.length → x8 (a1 ++ a2) (b1 ++ b2) = (x8 a1 b1 && x8 a2 b2)
 | [], a2, [], b2, _ => by simp [x8]
 | x :: a1, a2, y :: b1, b2, h => by
  rw [List.cons_append, List.cons_append, x8, x8, qpa (by simpa using h), Bool.and_assoc]
def xl8 (P : Program) (g : Ghost) (w : World) (n : Nat) (sub : List Field → Option (List CK)) : Prop :=
 ∀ (t : TypeId) (gs : Array Field) (ks : List CK) (us vs : Array Value) (as bs : List D), P.underlying t = some (.struct gs) → P.stoodInHeld t = false → sub gs.toList = some ks → eqOk ks as bs = true →
  (∀ (j : Nat) (d : D), as[j]? = some d → ∃ v, us[j]? = some v ∧ RV g w v d) → (∀ (j : Nat) (d : D), bs[j]? = some d → ∃ v, vs[j]? = some v ∧ RV g w v d) →
  (Op.equalIn (n + 1) t (.agg us) (.agg vs)).run P w = .ok (x8 as bs) w
theorem qdw {sub : List Field → Option (List CK)} (xs ys : Array Value) (n : Nat) (hsub : xl8 P g w n sub) : ∀ (fs : List Field) (i : Nat) (ks : List CK) (as bs : List D), jo P sub i fs = some ks → eqOk ks as bs = true →
  (∀ (j : Nat) (d : D), as[j]? = some d → ∃ v, xs[i + j]? = some v ∧ RV g w v d) → (∀ (j : Nat) (d : D), bs[j]? = some d → ∃ v, ys[i + j]? = some v ∧ RV g w v d) →
  (Op.eqFields (n + 1) xs ys fs).run P w = .ok (x8 as bs) w
 | [], i, ks, as, bs, hk, he, hx, hy => by
  simp [jo] at hk; subst hk
  cases as <;> cases bs <;> simp [eqOk] at he
  rfl
 | f :: fs, i, ks, as, bs, hk, he, hx, hy => by
  simp only [jo] at hk
  split at hk
  ·rename_i hcond
   obtain ⟨hoff, hname⟩ := hcond
   have agg : ∀ d, P.underlying f.type = some d → (P.info? f.type).map (·.size) = some 1 → (∀ fs, d ≠ .struct fs) → (∀ k e, d ≠ .array k e) → aggN P f.type = some none := by
    intro d h1 h2
    obtain ⟨ti, hti, hsz⟩ := Option.map_eq_some_iff.1 h2
    grind [aggN]
   have step : ∀ (u v : Value) (r : Bool) (as' bs' : List D) (ks' : List CK), aggN P f.type = some none → xs[i]? = some u → ys[i]? = some v → (Op.equalIn (n + 1) f.type u v).run P w = .ok r w →
     jo P sub (i + 1) fs = some ks' → eqOk ks' as' bs' = true →
     (∀ (j : Nat) (d : D), as'[j]? = some d → ∃ v, xs[i + 1 + j]? = some v ∧ RV g w v d) → (∀ (j : Nat) (d : D), bs'[j]? = some d → ∃ v, ys[i + 1 + j]? = some v ∧ RV g w v d) →
     (Op.eqFields (n + 1) xs ys (f :: fs)).run P w = .ok (r && x8 as' bs') w := by
    intro u v r as' bs' ks' hag hu hv hr hk' he' hx' hy'
    have ih := qdw xs ys n hsub fs (i + 1) ks' as' bs' hk' he' hx' hy'
    rw [← hoff] at hu hv
    simp only [Op.eqFields, hname, ne_eq, not_false_eq_true, if_true, Sem.run_bind, yn hag xs f.offset u hu, yn hag ys f.offset v hv, Result.andThen_ok, hr]
    cases r <;> simp [ih]
   have shift : ∀ {l : List D} {d : D} {zs : Array Value}, (∀ (j : Nat) (e : D), (d :: l)[j]? = some e → ∃ v, zs[i + j]? = some v ∧ RV g w v e) → (∀ (j : Nat) (e : D), l[j]? = some e → ∃ v, zs[i + 1 + j]? = some v ∧ RV g w v e) := by
    intro l d zs h j e hj
    have := h (j + 1) e (by grind)
    grind
   split at hk
   ·rename_i k hu hs1
    obtain ⟨r, hr, rfl⟩ := Option.map_eq_some_iff.1 hk
    match as, bs, he with
    | .int k1 m1 :: as', .int k2 m2 :: bs', he =>
     simp only [eqOk, Bool.and_eq_true, beq_iff_eq] at he
     obtain ⟨rfl, he⟩ := he
     obtain ⟨u, hu1, hu2⟩ := hx 0 _ rfl
     obtain ⟨v, hv1, hv2⟩ := hy 0 _ rfl
     have e1 := vg hu2; have e2 := vg hv2; subst e1 e2
     exact step _ _ (m1 == m2) as' bs' r (agg _ hu hs1 (by simp) (by simp)) hu1 hv1 (run_equalIn_int w n f.type k1 k m1 m2 hu) hr he (shift hx) (shift hy)
   ·rename_i hu hs1
    obtain ⟨r, hr, rfl⟩ := Option.map_eq_some_iff.1 hk
    match as, bs, he with
    | .bool m1 :: as', .bool m2 :: bs', he =>
     simp only [eqOk] at he
     obtain ⟨u, hu1, hu2⟩ := hx 0 _ rfl
     obtain ⟨v, hv1, hv2⟩ := hy 0 _ rfl
     have e1 := y9 hu2; have e2 := y9 hv2; subst e1 e2
     exact step _ _ (m1 == m2) as' bs' r (agg _ hu hs1 (by simp) (by simp)) hu1 hv1 (run_equalIn_bool' w n f.type m1 m2 hu) hr he (shift hx) (shift hy)
   ·rename_i hu hs1
    obtain ⟨r, hr, rfl⟩ := Option.map_eq_some_iff.1 hk
    match as, bs, he with
    | .str m1 :: as', .str m2 :: bs', he =>
     simp only [eqOk] at he
     obtain ⟨u, hu1, hu2⟩ := hx 0 _ rfl
     obtain ⟨v, hv1, hv2⟩ := hy 0 _ rfl
     have e1 := qcm hu2; have e2 := qcm hv2; subst e1 e2
     have := run_equalIn_string w n f.type ⟨m1.toArray⟩ ⟨m2.toArray⟩ hu
     rw [qo6, qo6] at this
     exact step _ _ (m1 == m2) as' bs' r (agg _ hu hs1 (by simp) (by simp)) hu1 hv1 this hr he (shift hx) (shift hy)
   ·rename_i gs m hu hs1
    split at hk
    ·rename_i hheld
     split at hk
     ·rename_i ka kb h1 h2
      split at hk
      ·rename_i hlen
       cases hk
       obtain ⟨a1, a2, b1, b2, rfl, rfl, l1, l2, o1, o2⟩ := qva he
       obtain ⟨ti, hti, hsz⟩ := Option.map_eq_some_iff.1 hs1
       have hag : aggN P f.type = some (some m) := by grind [aggN]
       have front : ∀ {l1 l2 : List D} {zs : Array Value}, l1.length = m → (∀ (j : Nat) (e : D), (l1 ++ l2)[j]? = some e → ∃ v, zs[i + j]? = some v ∧ RV g w v e) → (∀ (j : Nat) (e : D), l1[j]? = some e → ∃ v, (zs.extract i (i + m))[j]? = some v ∧ RV g w v e) := by
        intro l1 l2 zs hl h j e hj
        have hlt := (List.getElem?_eq_some_iff.1 hj).1
        obtain ⟨v, hv, hr⟩ := h j e (by rw [List.getElem?_append_left hlt]; exact hj)
        refine ⟨v, ?_, hr⟩
        rw [Array.getElem?_extract]
        have := (Array.getElem?_eq_some_iff.1 hv).1
        rw [if_pos (by omega)]; exact hv
       have back : ∀ {l1 l2 : List D} {zs : Array Value}, l1.length = m → (∀ (j : Nat) (e : D), (l1 ++ l2)[j]? = some e → ∃ v, zs[i + j]? = some v ∧ RV g w v e) → (∀ (j : Nat) (e : D), l2[j]? = some e → ∃ v, zs[i + m + j]? = some v ∧ RV g w v e) := by
        intro l1 l2 zs hl h j e hj
        have := h (m + j) e (by rw [List.getElem?_append_right (by omega), hl, Nat.add_sub_cancel_left]; exact hj)
        rwa [← Nat.add_assoc] at this
       have ih := qdw xs ys n hsub fs (i + m) kb a2 b2 h2 o2 (back (l1.trans hlen) hx) (back (l2.trans hlen) hy)
       have hq := hsub f.type gs ka _ _ a1 b1 hu hheld h1 o1 (front (l1.trans hlen) hx) (front (l2.trans hlen) hy)
       rw [← hoff] at hq
       simp only [Op.eqFields, hname, ne_eq, not_false_eq_true, if_true, Sem.run_bind, qb4 hag xs, qb4 hag ys, Result.andThen_ok, hq]
       rw [qpa (by omega)]
       cases x8 a1 b1 <;> simp [ih]
      ·cases hk
     ·cases hk
    ·cases hk
   ·cases hk
  ·cases hk
theorem q7p {n : Nat} : xl8 P g w n (fun _ => none) := fun _ _ _ _ _ _ _ _ _ h => by cases h
theorem q2g {n : Nat} : xl8 P g w (n + 1) (jo P (fun _ => none) 0) := by
 intro t gs ks us vs as bs hu hh hk he hx hy
 have hfs : P.fieldsOf t = gs := by simp [Program.fieldsOf, hu]
 rw [run_equalIn_agg w (n + 1) t _ _ (by rw [hfs]; exact hu) hh, hfs]
 exact qdw us vs n q7p gs.toList 0 ks as bs hk he (by simpa using hx) (by simpa using hy)
theorem qm5 (xs ys : Array Value) (n : Nat) (fs : List Field) (ks : List CK) (as bs : List D) (hk : qh5 P fs = some ks) (he : eqOk ks as bs = true)
  (hx : ∀ (j : Nat) (d : D), as[j]? = some d → ∃ v, xs[0 + j]? = some v ∧ RV g w v d) (hy : ∀ (j : Nat) (d : D), bs[j]? = some d → ∃ v, ys[0 + j]? = some v ∧ RV g w v d) :
  (Op.eqFields (n + 1 + 1) xs ys fs).run P w = .ok (x8 as bs) w := qdw xs ys (n + 1) q2g fs 0 ks as bs hk he hx hy
theorem qx6 {f : Nat → (Option Bool × Unit) → Sem (ForInStep (Option Bool × Unit))} {c : Nat → Bool} : ∀ (n i : Nat), (∀ j r, i ≤ j → j < i + n → (f j r).run P w = .ok (if c j then .yield (none, ()) else .done (some false, ())) w) →
  (forIn (List.range' i n) ((none : Option Bool), ()) f).run P w = .ok (if (List.range' i n).all c then (none, ()) else (some false, ())) w
 | 0, i, _ => by simp
 | n + 1, i, h => by
  have h0 := h i (none, ()) (Nat.le_refl _) (by omega)
  have ih := qx6 n (i + 1) (fun j r h1 h2 => h j r (by omega) (by omega))
  rw [List.range'_succ, List.forIn_cons, Sem.run_bind, h0]
  cases hc : c i with
  | true => simp only [if_true, Result.andThen_ok, ih, List.all_cons, hc, Bool.true_and]
  | false => simp [hc]
theorem qpb : ∀ (n i : Nat) (as bs : List D) (c : Nat → Bool), eqOk (List.replicate n .int) as bs = true → (∀ j a b, as[j]? = some a → bs[j]? = some b → c (i + j) = qg5 a b) → (List.range' i n).all c = x8 as bs
 | 0, i, as, bs, c, h, _ => by grind [eqOk, x8]
 | n + 1, i, as, bs, c, h, hc => by
  rw [List.replicate_succ] at h
  match as, bs, h with
  | .int k a :: as, .int k' b :: bs, h =>
   simp only [eqOk, Bool.and_eq_true] at h
   rw [List.range'_succ, List.all_cons, qpb n (i + 1) as bs c h.2 (fun j x y hx hy => by rw [show i + 1 + j = i + (j + 1) by omega]; simp_all), x8]
   have := hc 0 _ _ rfl rfl
   grind
theorem qx7 : ∀ (n : Nat) (as bs : List D), eqOk (List.replicate n .int) as bs = true → as.length = n ∧ bs.length = n ∧ ∀ (j : Nat) (a b : D), as[j]? = some a → bs[j]? = some b → ∃ (k : IntKind) (x y : Int), a = D.int k x ∧ b = D.int k y
 | 0, as, bs, h => by grind [eqOk]
 | n + 1, as, bs, h => by
  rw [List.replicate_succ] at h
  match as, bs, h with
  | .int k a :: as, .int k' b :: bs, h =>
   simp only [eqOk, Bool.and_eq_true, beq_iff_eq] at h
   obtain ⟨rfl, h⟩ := h
   obtain ⟨h1, h2, h3⟩ := qx7 n as bs h
   grind
theorem xay (xs ys : Array Value) (d n : Nat) {t e : TypeId} {k : IntKind} {ti : TypeInfo} (ht : P.underlying t = some (.array n e)) (he : P.underlying e = some (.int k)) (hi : P.info? e = some ti) (h1 : ti.size = 1) (as bs : List D)
  (hok : eqOk (List.replicate n .int) as bs = true) (hx : ∀ (j : Nat) (d : D), as[j]? = some d → ∃ v, xs[0 + j]? = some v ∧ RV g w v d) (hy : ∀ (j : Nat) (d : D), bs[j]? = some d → ∃ v, ys[0 + j]? = some v ∧ RV g w v d) :
  (Op.equalIn (d + 1 + 1) t (.agg xs) (.agg ys)).run P w = .ok (x8 as bs) w := by
 rw [Op.equalIn]
 obtain ⟨la, lb, hk⟩ := qx7 n as bs hok
 have hagg : aggN P e = some none := by grind [aggN]
 let c : Nat → Bool := fun j => match as[j]?, bs[j]? with | some a, some b => qg5 a b | _, _ => true
 simp [run_underlying ht, qt hi, h1]
 rw [qx6 (c := c) n 0 (fun j r _ hj => by
  have ha : as[j]? = some as[j] := List.getElem?_eq_getElem (by omega)
  have hb : bs[j]? = some bs[j] := List.getElem?_eq_getElem (by omega)
  obtain ⟨k', x, y, e1, e2⟩ := hk j _ _ ha hb
  obtain ⟨u, hu, ru⟩ := hx j _ ha
  obtain ⟨v, hv, rv⟩ := hy j _ hb
  rw [Nat.zero_add] at hu hv
  rw [e1] at ru; rw [e2] at rv
  have f1 := vg ru; have f2 := vg rv; subst f1; subst f2
  have hcj : c j = (x == y) := by grind [qg5]
  simp only [Sem.run_bind, yn hagg xs j _ hu, yn hagg ys j _ hv, Result.andThen_ok, run_equalIn_int w d e k' k x y he, hcj]
  cases (x == y) <;> simp)]
 rw [qpb n 0 as bs c hok (fun j a b ha hb => by grind)]
 cases x8 as bs <;> simp
theorem qpc {neg : Bool} {t u : TypeId} {x y : Operand} {x' y' : Opd} {ks : List CK} (ho : oper.op = .binOp (if neg then .neq else .eql) t x y u) (hx : qp x = some x') (hy : qp y = some y')
  (hk : qgi P t = some ks) (hs : SR N T g w st a)
  (hob : (sem tb (.eqAgg neg ks x' y') st).ob) : yi P g w st a oper (sem tb (.eqAgg neg ks x' y') st).v := by
 simp only [sem] at hob ⊢
 cases h1 : x'.get st.fr with
 | d p =>
  cases p with
  | agg as =>
   cases h2 : y'.get st.fr with
   | d q =>
    cases q with
    | agg bs =>
     simp only [h1, h2] at hob ⊢
     obtain ⟨o1, o2, o3⟩ := hob
     have r1 := xc hs hx o1
     have r2 := xc hs hy o2
     rw [h1] at r1; rw [h2] at r2
     obtain ⟨us, e1, l1, _, c1⟩ := qdp (wj r1)
     obtain ⟨vs, e2, l2, _, c2⟩ := qdp (wj r2)
     unfold qgi at hk
     split at hk
     ·rename_i fs hu
      split at hk
      ·rename_i hc
       have hu' : P.underlying t = some (.struct (P.fieldsOf t)) := by grind [Program.fieldsOf]
       have hfs : P.fieldsOf t = fs := by grind
       have hcell : ∀ {ds : List D} {zs : List Value}, zs.length = ds.length → (∀ (j : Nat) (u : Value) (d : D), zs[j]? = some u → ds[j]? = some d → RV g w u d) →
         ∀ (j : Nat) (d : D), ds[j]? = some d → ∃ v, zs.toArray[0 + j]? = some v ∧ RV g w v d := by
        intro ds zs hl hr j d hd
        have hlt : j < zs.length := by grind
        exact ⟨zs[j], by simp, hr j _ d (List.getElem?_eq_getElem hlt) hd⟩
       have heq : (Op.equalIn 10000 t (.agg us.toArray) (.agg vs.toArray)).run P w = .ok (x8 as bs) w := by
        rw [show (10000 : Nat) = 9997 + 1 + 1 + 1 from rfl, run_equalIn_agg w (9997 + 1 + 1) t _ _ hu' hc.1, hfs]
        exact qm5 us.toArray vs.toArray 9997 fs.toList ks as bs hk o3 (hcell l1 c1) (hcell l2 c2)
       have heq' : (Op.equal t (.agg us.toArray) (.agg vs.toArray)).run P w = .ok (x8 as bs) w := heq
       cases neg with
       | false => exact ⟨.bool (x8 as bs), by simp_all [execOp, run_eqGuard_agg, binOp], .bool _⟩
       | true => exact ⟨.bool !(x8 as bs), by simp_all [execOp, run_eqGuard_agg, binOp], .bool _⟩
      grind
     ·rename_i n e hu
      split at hk
      ·rename_i hc
       split at hk
       ·rename_i k he
        simp only [Option.some.injEq] at hk
        subst hk
        obtain ⟨ti, hi, hsz⟩ := Option.map_eq_some_iff.1 hc.2
        have hcell : ∀ {ds : List D} {zs : List Value}, zs.length = ds.length → (∀ (j : Nat) (u : Value) (d : D), zs[j]? = some u → ds[j]? = some d → RV g w u d) →
          ∀ (j : Nat) (d : D), ds[j]? = some d → ∃ v, zs.toArray[0 + j]? = some v ∧ RV g w v d := by
         intro ds zs hl hr j d hd
         have hlt : j < zs.length := by grind
         exact ⟨zs[j], by simp, hr j _ d (List.getElem?_eq_getElem hlt) hd⟩
        have heq' : (Op.equal t (.agg us.toArray) (.agg vs.toArray)).run P w = .ok (x8 as bs) w := xay us.toArray vs.toArray 9998 n hu he hi hsz as bs o3 (hcell l1 c1) (hcell l2 c2)
        cases neg with
        | false => exact ⟨.bool (x8 as bs), by simp_all [execOp, run_eqGuard_agg, binOp], .bool _⟩
        | true => exact ⟨.bool !(x8 as bs), by simp_all [execOp, run_eqGuard_agg, binOp], .bool _⟩
       grind
      grind
     grind
    | _ => grind [Out.bad]
   | _ => grind [Out.bad]
  | _ => grind [Out.bad]
 | _ => grind [Out.bad]
theorem q2h {t : TypeId} {x : Operand} {y : Opd} {fs : Array Field} {i : Nat} {f : Field} {ti : TypeInfo} (ho : oper.op = .fieldAddr t x i) (ht : P.underlying t = some (.struct fs)) (hf : fs[i]? = some f)
  (hi : P.info? f.type = some ti) (h0 : ti.size ≠ 0) (hx : qp x = some y) (hs : SR N T g w st a)
  (hob : (sem tb (.faddr f.offset y) st).ob) : yi P g w st a oper (sem tb (.faddr f.offset y) st).v := by
 simp only [sem] at hob ⊢
 have run : ∀ b off, a.eval x = .pointer (some ⟨b, off, none⟩) → (execOp a.eval oper).run P w = .ok (.value (.pointer (some ⟨b, off + f.offset, none⟩))) w := by
  intro b off hv
  simp [execOp, ho, Instr.fieldAt, run_underlying ht, hf, hv, Instr.sureAddr, fieldPlace, qt hi, h0, Addr.add_lit]
 cases h1 : y.get st.fr with
 | d p =>
  cases p with
  | ptr id off =>
   simp only [h1] at hob ⊢
   have r1 := xc hs hx hob
   rw [h1] at r1
   have hrv := wj r1
   generalize hv : a.eval x = v at hrv
   cases hrv with
   | ptr b _ _ hg => exact ⟨_, run b off hv, .ptr b _ id hg⟩
  | _ => grind [Out.bad]
 | rd cs =>
  simp only [h1] at hob ⊢
  have r1 := xc hs hx hob.1
  rw [h1] at r1
  obtain ⟨b, off, n, o, fn, hv, hg, hn, hc⟩ := r1
  refine ⟨_, run b off hv, b, off + f.offset, n, o, fun j => fn (f.offset + j), rfl, hg, by grind, fun j d hj => ?_⟩
  grind
 | _ => grind [Out.bad]
theorem q2i {t : TypeId} {x : Operand} {y : Opd} {fs : Array Field} {i : Nat} {f : Field} {n : Option Nat} (ho : oper.op = .field t x i) (ht : P.underlying t = some (.struct fs)) (hf : fs[i]? = some f)
  (hn : aggN P f.type = some n) (hx : qp x = some y) (hs : SR N T g w st a)
  (hob : (sem tb (.field n f.offset y) st).ob) : yi P g w st a oper (sem tb (.field n f.offset y) st).v := by
 simp only [sem] at hob ⊢
 cases h1 : y.get st.fr with
 | d p =>
  cases p with
  | agg cs =>
   simp only [h1] at hob ⊢
   cases n with
   | none =>
    have r1 := xc hs hx hob.1
    rw [h1] at r1
    obtain ⟨vs, hv, hl, hcl, hc⟩ := qdp (wj r1)
    have hlt : f.offset < vs.length := by omega
    have hlt' : f.offset < cs.length := hob.2
    refine ⟨vs[f.offset], ?_, ?_⟩
    ·simp_all [yn, execOp, Instr.field, run_underlying, asAgg]
    ·have : cs.getD f.offset default = cs[f.offset] := by grind
     simp only [this]
     exact hc f.offset _ _ (List.getElem?_eq_getElem hlt) (List.getElem?_eq_getElem hlt')
   | some k =>
    have r1 := xc hs hx hob.1
    rw [h1] at r1
    obtain ⟨vs, hv, hl, hcl, hc⟩ := qdp (wj r1)
    refine ⟨.agg ((vs.drop f.offset).take k).toArray, ?_, qi8 hl hcl hc f.offset k⟩
    have := qb4 hn vs.toArray f.offset w
    have he : vs.toArray.extract f.offset (f.offset + k) = ((vs.drop f.offset).take k).toArray := by
     simp
    simp_all [execOp, Instr.field, run_underlying, asAgg]
  | _ => grind [Out.bad]
 | _ => grind [Out.bad]
theorem q2j {t e : TypeId} {x i : Operand} {x' i' : Opd} {ti : TypeInfo} (ho : oper.op = .indexAddr t x i) (ht : P.underlying t = some (.slice e)) (hi : P.info? e = some ti) (hx : qp x = some x') (hy : qp i = some i')
  (hs : SR N T g w st a) (hob : (sem tb (.iaddr ti.size x' i') st).ob) : yi P g w st a oper (sem tb (.iaddr ti.size x' i') st).v := by
 simp only [sem] at hob ⊢
 cases h1 : (x'.get st.fr).rows with
 | none =>
  cases h2 : i'.get st.fr with
  | d q =>
   cases q with
   | int k n =>
    simp only [h1, h2] at hob ⊢
    cases h3 : x'.get st.fr with
    | d p =>
     cases p with
     | ref id off es m =>
      simp only [h3] at hob ⊢
      obtain ⟨o1, o2, rfl, o4, o5⟩ := hob
      have r1 := xc hs hx o1
      have r2 := xc hs hy o2
      rw [h2] at r2
      rw [h3] at r1
      have e2 := vg (wj r2)
      have hrv := wj r1
      generalize hv : a.eval x = v at hrv
      cases hrv with
      | ref b _ _ _ _ cap hg hcap hmx hsz =>
       refine ⟨.pointer (some ⟨b, off + n.toNat * ti.size, none⟩), ?_, .ptr b _ id hg⟩
       simp [execOp, ho, Instr.indexAt, run_underlying ht, hv, e2, asIntOf, o4, o5, qt hi, Addr.add_lit]
      | refnil ad => omega
     | _ => grind [Out.bad]
    | _ => grind [Out.bad]
   | _ => grind [Out.bad]
  | _ => grind [Out.bad]
 | some p =>
  obtain ⟨es, l⟩ := p
  cases h2 : i'.get st.fr with
  | d q =>
   cases q with
   | int k n =>
    simp only [h1, h2] at hob ⊢
    obtain ⟨o1, o2, rfl, o4, o5⟩ := hob
    have r1 := qi7 (xc hs hx o1) h1
    have r2 := xc hs hy o2
    rw [h2] at r2
    have e2 := vg (wj r2)
    have hlt : n.toNat < l.length := by omega
    rcases qsd r1 with ⟨_, rfl⟩ | ⟨b, off, cap, m, o, f, hv, hg, hn, hcap, hes, hcl, hcell, hrv⟩
    ·grind
    ·refine ⟨.pointer (some ⟨b, off + n.toNat * ti.size, none⟩), ?_, ?_⟩
     ·simp [execOp, ho, Instr.indexAt, run_underlying ht, hv, e2, asIntOf, o4, o5, qt hi, Addr.add_lit]
     ·have hrow : (l.getD n.toNat []).length = ti.size := hes _ (by grind)
      have hfl := xf hes
      refine ⟨b, off + n.toNat * ti.size, m, o, fun j => f (n.toNat * ti.size + j), rfl, hg, ?_, fun j d hj => ?_⟩
      ·rw [hrow]
       have : (n.toNat + 1) * ti.size ≤ l.length * ti.size := Nat.mul_le_mul_right _ hlt
       grind
      grind [qo7, List.mem_of_getElem?, Nat.add_assoc]
   | _ => grind [Out.bad]
  | _ => grind [Out.bad]
theorem q7q {t e : TypeId} {x : Operand} {x' : Opd} {n : Nat} (ho : oper.op = .sliceToArrayPointer t x) (ht : P.underlying t = some (.array n e)) (hx : qp x = some x')
  (hs : SR N T g w st a) (hob : (sem tb (.s2ap n x') st).ob) : yi P g w st a oper (sem tb (.s2ap n x') st).v := by
 simp only [sem] at hob ⊢
 cases h1 : (x'.get st.fr).rows with
 | none => grind [Out.bad]
 | some p =>
  obtain ⟨es, l⟩ := p
  simp only [h1] at hob ⊢
  obtain ⟨o1, o2, o3⟩ := hob
  have r1 := qi7 (xc hs hx o1) h1
  rcases qsd r1 with ⟨_, rfl⟩ | ⟨b, off, cap, m, o, f, hv, hg, hn, hcap, hes, hcl, hcell, hrv⟩
  ·grind
  ·have hlt : ¬ l.length < n := by omega
   have hsub : ∀ (j : Nat) (d : D), (l.take n).flatten[j]? = some d → l.flatten[j]? = some d := by
    grind [List.getElem?_eq_some_iff, List.flatten_append, List.take_append_drop, List.getElem?_append_left]
   have hle : (l.take n).flatten.length ≤ l.flatten.length := by
    grind [List.flatten_append, List.take_append_drop, List.length_append]
   refine ⟨.pointer (some ⟨b, off, none⟩), ?_, b, off, m, o, f, rfl, hg, by omega, fun j d hj => ?_⟩
   ·simp [execOp, ho, Instr.arrayAt, run_underlying ht, hv, hlt]
   grind
theorem qx8 {t e : TypeId} {x i : Operand} {x' i' : Opd} {ti : TypeInfo} {len : Nat} (ho : oper.op = .indexAddr t x i) (ht : P.underlying t = some (.array len e)) (hi : P.info? e = some ti) (hx : qp x = some x') (hy : qp i = some i')
  (hs : SR N T g w st a) (hob : (sem tb (.iaddrA len ti.size x' i') st).ob) : yi P g w st a oper (sem tb (.iaddrA len ti.size x' i') st).v := by
 simp only [sem] at hob ⊢
 have run : ∀ b off k (n : Int), a.eval x = .pointer (some ⟨b, off, none⟩) → a.eval i = .int k n → 0 ≤ n → n < len →
   (execOp a.eval oper).run P w = .ok (.value (.pointer (some ⟨b, off + n.toNat * ti.size, none⟩))) w := by
  intro b off k n hv hn h0 h1
  simp [execOp, ho, Instr.indexAt, run_underlying ht, hv, hn, asIntOf, h0, h1, qt hi, Addr.add_lit, Instr.sureAddr]
 cases h2 : i'.get st.fr with
 | d q =>
  cases q with
  | int k n =>
   cases h1 : x'.get st.fr with
   | d p =>
    cases p with
    | ptr id off =>
     simp only [h1, h2] at hob ⊢
     obtain ⟨o1, o2, o3, o4⟩ := hob
     have r1 := xc hs hx o1
     have r2 := xc hs hy o2
     rw [h1] at r1; rw [h2] at r2
     have e2 := vg (wj r2)
     have hrv := wj r1
     generalize hv : a.eval x = v at hrv
     cases hrv with
     | ptr b _ _ hg => exact ⟨_, run b off k n hv e2 o3 o4, .ptr b _ id hg⟩
    | _ => grind [Out.bad]
   | rd cs =>
    simp only [h1, h2] at hob ⊢
    obtain ⟨o1, o2, o3, o4, o5⟩ := hob
    have r1 := xc hs hx o1
    have r2 := xc hs hy o2
    rw [h1] at r1; rw [h2] at r2
    have e2 := vg (wj r2)
    obtain ⟨b, off, m, o, fn, hv, hg, hn, hc⟩ := r1
    have hle : n.toNat * ti.size ≤ cs.length := by
     have : n.toNat * ti.size ≤ len * ti.size := Nat.mul_le_mul_right _ (by omega)
     omega
    refine ⟨_, run b off k n hv e2 o3 o4, b, off + n.toNat * ti.size, m, o, fun j => fn (n.toNat * ti.size + j), rfl, hg, by grind, fun j d hj => ?_⟩
    grind
   | _ => grind [Out.bad]
  | _ => grind [Out.bad]
 | _ => grind [Out.bad]
theorem qx9 {t : TypeId} {x i : Operand} {x' i' : Opd} (ho : oper.op = .index t x i) (ht : P.underlying t = some .string) (hx : qp x = some x') (hy : qp i = some i')
  (hs : SR N T g w st a) (hob : (sem tb (.indexS x' i') st).ob) : yi P g w st a oper (sem tb (.indexS x' i') st).v := by
 simp only [sem] at hob ⊢
 cases h1 : x'.get st.fr with
 | d p =>
  cases p with
  | str l =>
   cases h2 : i'.get st.fr with
   | d q =>
    cases q with
    | int k n =>
     simp only [h1, h2] at hob ⊢
     obtain ⟨o1, o2, o3, o4⟩ := hob
     have r1 := xc hs hx o1
     have r2 := xc hs hy o2
     rw [h1] at r1; rw [h2] at r2
     have e1 := qcm (wj r1)
     have e2 := vg (wj r2)
     have hlt : n.toNat < l.length := by omega
     refine ⟨.int .u8 (l.getD n.toNat 0).toNat, ?_, .int _ _⟩
     have hb : (⟨l.toArray⟩ : ByteArray)[n.toNat]? = some (l.getD n.toNat 0) := by
      show (if h : n.toNat < (⟨l.toArray⟩ : ByteArray).size then some _ else none) = _
      rw [dif_pos (by grind [qo8])]
      simp [List.getD, hlt]
      rfl
     simp_all [execOp, Instr.index, run_underlying, asIntOf]
    | _ => grind [Out.bad]
   | _ => grind [Out.bad]
  | _ => grind [Out.bad]
 | _ => grind [Out.bad]
theorem qya {t e : TypeId} {x i : Operand} {x' i' : Opd} {ti : TypeInfo} {len : Nat} {n : Option Nat} (ho : oper.op = .index t x i) (ht : P.underlying t = some (.array len e)) (hi : P.info? e = some ti) (hn : aggN P e = some n)
  (hx : qp x = some x') (hy : qp i = some i') (hs : SR N T g w st a) (hob : (sem tb (.indexA len ti.size n x' i') st).ob) : yi P g w st a oper (sem tb (.indexA len ti.size n x' i') st).v := by
 simp only [sem] at hob ⊢
 cases h1 : x'.get st.fr with
 | d p =>
  cases p with
  | agg cs =>
   cases h2 : i'.get st.fr with
   | d q =>
    cases q with
    | int k j =>
     simp only [h1, h2] at hob ⊢
     cases n with
     | none =>
      obtain ⟨o1, o2, o3, o4, o5⟩ := hob
      have r1 := xc hs hx o1
      have r2 := xc hs hy o2
      rw [h1] at r1; rw [h2] at r2
      have e2 := vg (wj r2)
      obtain ⟨vs, hv, hl, hcl, hc⟩ := qdp (wj r1)
      have hlt : j.toNat * ti.size < vs.length := by omega
      refine ⟨vs[j.toNat * ti.size], ?_, ?_⟩
      ·have := yn hn vs.toArray (j.toNat * ti.size) vs[j.toNat * ti.size] (by simp) w
       simp_all [execOp, Instr.index, run_underlying, asIntOf, qt]
      ·have : cs.getD (j.toNat * ti.size) default = cs[j.toNat * ti.size] := by grind
       simp only [this]
       exact hc _ _ _ (List.getElem?_eq_getElem hlt) (List.getElem?_eq_getElem o5)
     | some m =>
      obtain ⟨o1, o2, o3, o4, o5⟩ := hob
      have r1 := xc hs hx o1
      have r2 := xc hs hy o2
      rw [h1] at r1; rw [h2] at r2
      have e2 := vg (wj r2)
      obtain ⟨vs, hv, hl, hcl, hc⟩ := qdp (wj r1)
      refine ⟨.agg ((vs.drop (j.toNat * ti.size)).take m).toArray, ?_, qi8 hl hcl hc _ m⟩
      have := qb4 hn vs.toArray (j.toNat * ti.size) w
      simp_all [execOp, Instr.index, run_underlying, asIntOf, qt]
    | _ => grind [Out.bad]
   | _ => grind [Out.bad]
  | _ => grind [Out.bad]
 | _ => grind [Out.bad]
theorem qvb {x : Operand} {y : Opd} {i : Nat} (ho : oper.op = .extract x i) (hx : qp x = some y) (hs : SR N T g w st a)
  (hob : (sem tb (.extract i y) st).ob) : yi P g w st a oper (sem tb (.extract i y) st).v := by
 simp only [sem] at hob ⊢
 cases h1 : y.get st.fr with
 | tup l =>
  simp only [h1] at hob ⊢
  have r1 := xc hs hx hob.1
  rw [h1] at r1
  obtain ⟨vs, hv, hl, hc⟩ := r1
  have hlt : i < l.length := hob.2
  have hlt' : i < vs.length := by omega
  refine ⟨vs[i], ?_, ?_⟩
  ·simp_all [execOp, Instr.extract]
  grind [List.getD, je, List.getElem?_eq_getElem]
 | _ => grind [Out.bad]
theorem qb5 : ∀ l : List UInt8, qb0 (qd l) = l
 | [] => rfl
 | c :: l => by
  have ih := qb5 l
  simp only [qd, List.map_cons, qb0] at ih ⊢
  rw [ih]
  simp
theorem qdd : ∀ (l : List UInt8) (acc : ByteArray), (l.map fun c => (c.toNat : Int)).foldl (fun r n => r.push (UInt8.ofNat n.toNat)) acc = ⟨(acc.data.toList ++ l).toArray⟩
 | [], acc => by simp
 | c :: l, acc => by
  simp only [List.map_cons, List.foldl_cons]
  rw [qdd l]
  simp
theorem qat : ∀ l : List UInt8, (qd l).flatten = l.map fun c => D.int .u8 c.toNat
 | [] => rfl
 | c :: l => by
  have ih := qat l
  simp only [qd, List.map_cons, List.flatten_cons] at ih ⊢
  rw [ih]
  rfl
theorem xaz {s t e : TypeId} {x : Operand} {y : Opd} {es : Nat} {r : List (List D)} (h1 : (y.get st.fr).rows = some (es, r)) (ho : oper.op = .convert s t x) (hsrc : P.underlying s = some (.slice e)) (he : P.underlying e = some (.int .u8)) (hdst : P.underlying t = some .string)
  (hx : qp x = some y) (hs : SR N T g w st a) (hob : (sem tb (.b2s y) st).ob) : yi P g w st a oper (sem tb (.b2s y) st).v := by
 simp only [sem] at hob ⊢
 ·simp only [h1] at hob ⊢
  obtain ⟨hok, l, rfl⟩ := hob
  have r1 := qi7 (xc hs hx hok) h1
  rw [qb5]
  refine ⟨.string ⟨l.toArray⟩, ?_, .str l⟩
  have hflat := qat l
  rcases qsd r1 with ⟨⟨ad, cp, hv, hn0⟩, hl⟩ | ⟨b, off, cap, n, o, f, hv, hg, hn, hcap, hes, hcl, hcell, hrv⟩
  ·have : l = [] := by simp_all
   subst this
   cases ad with
   | none =>
    simp [execOp, ho, hv, run_convert_bytes_string w s t e _ _ _ hsrc he hdst, Conv.bytesToString]
    rfl
   | some a0 =>
    have hload : (loadCells a0 0).run P w = .ok (([] : List Int).map (Value.int .u8)).toArray w := by rfl
    have hrun := run_bytesToString w a0 0 cp [] hload
    simp only [execOp, ho, hv, Sem.run_bind, run_convert_bytes_string w s t e _ _ _ hsrc he hdst, hrun]
    rfl
  ·have hload : (loadCells ⟨b, off, none⟩ (qd l).length).run P w = .ok ((l.map fun c => (c.toNat : Int)).map (Value.int .u8)).toArray w := by
    have := run_loadCells_list (P := P) w ⟨b, off, none⟩ ((l.map fun c => (c.toNat : Int)).map (Value.int .u8)) (by
     intro j v hj
     simp only [List.map_map, List.getElem?_map, Option.map_eq_some_iff] at hj
     obtain ⟨c, hc, rfl⟩ := hj
     have hd : (qd l).flatten[j]? = some (D.int .u8 c.toNat) := by grind
     grind [vg, Addr.add_lit])
    grind [qd]
   have hrun := run_bytesToString w ⟨b, off, none⟩ (qd l).length cap (l.map fun c => (c.toNat : Int)) hload
   rw [qdd] at hrun
   simp only [execOp, ho, hv, Sem.run_bind, run_convert_bytes_string w s t e _ _ _ hsrc he hdst, hrun]
   rfl
theorem xa0 : ∀ {l : List Operand} {r : List Opd}, l.mapM qp = some r → (∀ x ∈ r, x.ok st.fr = true ∧ ∃ d, x.get st.fr = .d d) → SR N T g w st a →
  (l.map a.eval).length = (r.map fun x => (x.get st.fr).cellD).length ∧ ∀ (j : Nat) (v : Value) (d : D), (l.map a.eval)[j]? = some v → (r.map fun x => (x.get st.fr).cellD)[j]? = some d → RV g w v d := by
 intro l r h hok hs
 obtain ⟨h1, h2⟩ := jy h
 refine ⟨by simp [h1], fun j v d hv hd => ?_⟩
 simp only [List.getElem?_map, Option.map_eq_some_iff] at hv hd
 obtain ⟨y, hy, rfl⟩ := hv
 obtain ⟨x, hx, rfl⟩ := hd
 obtain ⟨o1, d, o2⟩ := hok x (List.mem_of_getElem? hx)
 have := xc hs (h2 j y x hy hx) o1
 rw [o2] at this ⊢
 exact this
theorem qyb {fn : Fn} {first captured : Array Operand} {f' c' : List Opd} (ho : oper.op = .makeFunc fn first captured) (hf : first.toList.mapM qp = some f') (hc : captured.toList.mapM qp = some c')
  (hs : SR N T g w st a) (hob : (sem tb (.mkFunc fn f' c') st).ob) : yi P g w st a oper (sem tb (.mkFunc fn f' c') st).v := by
 simp only [sem] at hob ⊢
 obtain ⟨h1, h2⟩ := xa0 hf hob.1 hs
 obtain ⟨h3, h4⟩ := xa0 hc hob.2 hs
 have := RV.func (g := g) (w := w) fn _ _ _ _ h1 h3 h2 h4
 refine ⟨_, ?_, this⟩
 have ha : ∀ (xs : Array Operand), xs.map a.eval = (xs.toList.map a.eval).toArray := fun xs => by grind
 simp_all [execOp, Instr.makeFunc]
end
end Go.Abs
namespace Go.Abs
section
variable {P : Program} {N tb : Nat} {T : Nat → Prop} {g : Ghost} {w : World} {st : St} {a : Act} {oper : Oper}
theorem xpq {v : Value} {es : Nat} {rows : List (List D)} (h : RV g w v (.sl es rows)) (l h' size : Nat) (hl : l ≤ h') (hh : h' ≤ rows.length) (hsz : size = es ∨ rows = []) :
  ∃ ad cap, v = .slice ad rows.length cap ∧ rows.length ≤ cap ∧
   ∀ m, h' ≤ m → m ≤ cap → RV g w (sliced ad l h' m size) (.sl es ((rows.drop l).take (h' - l))) ∧ ((rows.drop l).take (h' - l)).length = h' - l := by
 have hlen : ((rows.drop l).take (h' - l)).length = h' - l := by grind
 rcases qsd h with ⟨⟨ad, cp, rfl, hn0⟩, rfl⟩ | ⟨b, off, cap, n, o, f, rfl, hg, hn, hcap, hes, hcl, hcell, hrv⟩
 ·refine ⟨ad, cp, rfl, by simp, fun m hm hm0 => ⟨?_, hlen⟩⟩
  have h0 : h' = 0 := by grind
  have l0 : l = 0 := by omega
  subst h0 l0
  have key : ∀ x, (x = none → m = 0) → RV g w (.slice x 0 m) (.sl es []) := fun x hx => .nilsl x m es hx
  have hnm : ad = none → m = 0 := fun h => by grind
  simp only [List.drop_nil, List.take_nil]
  unfold sliced
  split
  all_goals simp_all
 ·refine ⟨_, cap, rfl, hcap, fun m hm hmc => ⟨?_, hlen⟩⟩
  have hfl : ((rows.drop l).take (h' - l)).flatten = (rows.flatten.drop (l * es)).take ((h' - l) * es) := by
   grind [flat_take, List.mem_of_mem_drop, flat_drop]
  have hflen : ((rows.drop l).take (h' - l)).flatten.length = (h' - l) * es := by
   grind [xf, List.mem_of_mem_drop, List.mem_of_mem_take]
  have hmem : ∀ (j : Nat) (d : D), ((rows.drop l).take (h' - l)).flatten[j]? = some d → rows.flatten[l * es + j]? = some d := by
   grind
  have htot := xf hes
  have hbound : l * es + (h' - l) * es ≤ rows.length * es := by rw [← Nat.add_mul]; simp_all [Nat.mul_le_mul_right]
  have base : ∀ off', off' = off + l * es ∨ h' = l → (off' = off ∨ off' = off + l * es) → RV g w (.slice (some ⟨b, off', none⟩) (h' - l) (m - l)) (.sl es ((rows.drop l).take (h' - l))) := by
   intro off' ho ho'
   have hle : ((rows.drop l).take (h' - l)).length = h' - l := hlen
   have key : RV g w (.slice (some ⟨b, off', none⟩) ((rows.drop l).take (h' - l)).length (m - l)) (.sl es ((rows.drop l).take (h' - l))) := by
    by_cases he : h' = l
    ·have hnil : (rows.drop l).take (h' - l) = [] := by simp [he]
     refine .sl b off' (m - l) es n o _ f hg ?_ (by omega) (by grind) (by grind) (by grind) (by grind)
     omega
    ·have hoff : off' = off + l * es := by omega
     subst hoff
     refine .sl b _ (m - l) es n o _ (fun j => f (l * es + j)) hg (by omega) (by omega)
      (fun r hr => hes r (List.mem_of_mem_drop (List.mem_of_mem_take hr)))
      (fun d hd => by grind)
      (fun j d hj => by grind) (fun j d hj => hrv _ d (hmem j d hj))
   grind
  unfold sliced
  have hsz' : h' ≠ l → size = es := by
   grind
  by_cases hml : m = l
  ·grind
  ·rw [if_neg hml, Option.map_some, Addr.add_lit]
   grind
theorem qhc {live : List Nat} {s : Option ASlot} {x : Option Value} {n : Int} (hm : ∀ y, s = some y → ∃ v, x = some v ∧ RS g w live v y) (h : qb1 s = some n) : ∃ k, x = some (.int k n) := by
 cases s with
 | none => simp [qb1] at h
 | some y =>
  cases y with
  | d q =>
   cases q with
   | int k m =>
    simp [qb1] at h; subst h
    obtain ⟨v, rfl, hr⟩ := hm _ rfl
    exact ⟨k, by rw [vg (wj hr)]⟩
   | _ => simp [qb1] at h
  | _ => simp [qb1] at h
theorem qft (hs : SR N T g w st a) {x : Option Operand} {y : Option Opd} (h : x.mapM qp = some y) (hok : ∀ z ∈ y, z.ok st.fr = true) :
  (y = none → x = none) ∧ ∀ s, y.map (·.get st.fr) = some s → ∃ v, x.map a.eval = some v ∧ RS g w st.live v s := by
 cases x with
 | none => grind
 | some o =>
  cases hz : qp o with
  | none => grind
  | some z =>
  simp [hz] at h; subst h
  refine ⟨by simp, fun s hs' => ?_⟩
  simp at hs'; subst hs'
  exact ⟨_, rfl, xc hs hz (hok z (by simp))⟩
theorem qj7 (isS : Bool) {lo hi mx : Option Operand} {lo' hi' mx' : Option Opd} (hlo : lo.mapM qp = some lo') (hhi : hi.mapM qp = some hi') (hmx : mx.mapM qp = some mx') (hs : SR N T g w st a)
  (o2 : ∀ z ∈ lo', z.ok st.fr = true) (o3 : ∀ z ∈ hi', z.ok st.fr = true) (o4 : ∀ z ∈ mx', z.ok st.fr = true) {n cap : Nat} (hcap : n ≤ cap) {h b : Int} (hH : hiB n (hi'.map (·.get st.fr)) = h) (hB : loB (lo'.map (·.get st.fr)) = b)
  (k2 : 0 ≤ b) (k3 : b ≤ h) (k4 : h ≤ n) (hm : mx' = none ∨ (qb1 (mx'.map (·.get st.fr)) = some h ∧ hi'.isSome = true)) :
  (Instr.sliceBounds isS n cap (lo.map a.eval) (hi.map a.eval) (mx.map a.eval)).run P w = .ok (b.toNat, h.toNat, if mx = none then cap else h.toNat) w := by
 obtain ⟨n2, r2⟩ := qft hs hlo o2
 obtain ⟨n3, r3⟩ := qft hs hhi o3
 obtain ⟨n4, r4⟩ := qft hs hmx o4
 have hi2 : (hi = none ∧ h = n) ∨ ∃ k, hi.map a.eval = some (.int k h) := by
  cases hq : hi' with
  | none => grind [hiB]
  | some z =>
   rw [hq] at hH
   simp only [Option.map_some, hiB] at hH
   cases hv : qb1 (some (z.get st.fr)) with
   | none => grind
   | some n =>
    rw [hv] at hH; simp at hH; subst hH
    exact .inr (qhc (x := hi.map a.eval) (fun y hy => r3 y (by grind)) hv)
 have lo2 : (lo = none ∧ b = 0) ∨ ∃ k, lo.map a.eval = some (.int k b) := by
  cases hq : lo' with
  | none => grind [loB]
  | some z =>
   rw [hq] at hB
   simp only [Option.map_some, loB] at hB
   cases hv : qb1 (some (z.get st.fr)) with
   | none => grind
   | some n =>
    rw [hv] at hB; simp at hB; subst hB
    exact .inr (qhc (x := lo.map a.eval) (fun y hy => r2 y (by grind)) hv)
 have hk3 : (b.toNat : Int) = b := by omega
 have hk4 : (h.toNat : Int) = h := by omega
 rcases hm with hm | ⟨hz, hh'⟩
 ·have hmn : mx = none := n4 hm
  subst hmn
  rcases hi2 with ⟨rfl, hh⟩ | ⟨kh, hh⟩ <;> rcases lo2 with ⟨rfl, hl⟩ | ⟨kl, hl⟩
  ·simp [Instr.sliceBounds, hl, hh]
  ·simp [Instr.sliceBounds, hl, run_sliceBound (P := P) w kl b n .sliceB k2 (by omega), hh]
  ·cases isS <;> simp [Instr.sliceBounds, hh, hl, run_sliceBound (P := P) w kh h cap _ (by omega) (by omega)]
  ·cases isS <;> simp [Instr.sliceBounds, hh, hl, run_sliceBound (P := P) w kh h cap _ (by omega) (by omega), run_sliceBound (P := P) w kl b h.toNat .sliceB k2 (by omega)]
 ·obtain ⟨km, hmv⟩ := qhc (x := mx.map a.eval) r4 hz
  have hmne : mx ≠ none := by grind
  rcases hi2 with ⟨rfl, hh⟩ | ⟨kh, hh⟩
  ·grind
  ·rcases lo2 with ⟨rfl, hl⟩ | ⟨kl, hl⟩
   ·cases isS <;> simp [Instr.sliceBounds, hh, hl, hmv, hmne, run_sliceBound (P := P) w km h cap _ (by omega) (by omega), run_sliceBound (P := P) w kh h h.toNat .slice3B (by omega) (by omega)]
   ·cases isS <;> simp [Instr.sliceBounds, hh, hl, hmv, hmne, run_sliceBound (P := P) w km h cap _ (by omega) (by omega), run_sliceBound (P := P) w kh h h.toNat .slice3B (by omega) (by omega), run_sliceBound (P := P) w kl b h.toNat .slice3C k2 (by omega)]
theorem q2k {t e : TypeId} {x : Operand} {lo hi mx : Option Operand} {x' : Opd} {lo' hi' mx' : Option Opd} {ti : TypeInfo} (ho : oper.op = .slice t x lo hi mx) (ht : P.underlying t = some (.slice e)) (hti : P.info? e = some ti)
  (hx : qp x = some x') (hlo : lo.mapM qp = some lo') (hhi : hi.mapM qp = some hi') (hmx : mx.mapM qp = some mx') (hs : SR N T g w st a)
  (hob : (sem tb (.slice ti.size x' lo' hi' mx') st).ob) : yi P g w st a oper (sem tb (.slice ti.size x' lo' hi' mx') st).v := by
 simp only [sem] at hob ⊢
 obtain ⟨o1, o2, o3, o4, hob⟩ := hob
 have r1 := xc hs hx o1
 have n4 := (qft hs hmx o4).1
 have hP : P.elem t = e := by simp [Program.elem, ht]
 have ht' : P.underlying t = some (.slice (P.elem t)) := by grind
 have hsz : (sizeOf (P.elem t)).run P w = .ok ti.size w := by grind [qt]
 have run : ∀ (ad : Option Addr) (n cap : Nat) (l h m : Nat), a.eval x = .slice ad n cap → (Instr.sliceBounds true n cap (lo.map a.eval) (hi.map a.eval) (mx.map a.eval)).run P w = .ok (l, h, m) w →
   (execOp a.eval oper).run P w = .ok (.value (sliced ad l h m ti.size)) w := by
  simp_all [execOp, Sem.run_bind, run_sliceAt_slice, run_slice_any]
 unfold qdu at hob ⊢
 cases h1 : (x'.get st.fr).rows with
 | none =>
  simp only [h1] at hob ⊢
  cases h2 : x'.get st.fr with
  | d p =>
   cases p with
   | ref id off es n =>
    simp only [h2] at hob ⊢
    obtain ⟨rfl, k2, k3, k4, hm⟩ := hob
    rw [h2] at r1
    have hrv := wj r1
    have hm' : mx' = none ∨ (qb1 (mx'.map (·.get st.fr)) = some (hiB n (hi'.map (·.get st.fr))) ∧ hi'.isSome = true) := by
     cases hq : mx' with
     | none => simp
     | some z => grind
    generalize hh : hiB n (hi'.map (·.get st.fr)) = h at *
    generalize hb : loB (lo'.map (·.get st.fr)) = b at *
    generalize hvv : a.eval x = v at hrv
    cases hrv with
    | ref bk _ _ _ _ cap hg hcap hmx2 hsz2 =>
     have hbo := qj7 (P := P) true hlo hhi hmx hs o2 o3 o4 hcap hh hb k2 k3 k4 hm'
     refine ⟨_, run _ _ _ _ _ _ hvv hbo, ?_⟩
     have hmle : h.toNat ≤ (if mx = none then cap else h.toNat) ∧ (if mx = none then cap else h.toNat) ≤ cap := by grind
     generalize (if mx = none then cap else h.toNat) = m at hmle
     unfold sliced
     by_cases hml : m = b.toNat
     ·rw [if_pos hml]
      have e1 : h.toNat - b.toNat = 0 := by omega
      have e2 : m - b.toNat = 0 := by omega
      rw [e1, e2]
      exact .refnil _ _ _ _
     ·rw [if_neg hml, Option.map_some, Addr.add_lit]
      refine .ref bk _ _ _ _ _ hg (by omega) (by omega) ?_
      have : b.toNat * ti.size + (m - b.toNat) * ti.size ≤ cap * ti.size := by rw [← Nat.add_mul]; exact Nat.mul_le_mul_right _ (by omega)
      omega
    | refnil ad =>
     have hbo := qj7 (P := P) true hlo hhi hmx hs o2 o3 o4 (Nat.le_refl 0) hh hb k2 k3 k4 hm'
     refine ⟨_, run _ _ _ _ _ _ hvv hbo, ?_⟩
     have b0 : b.toNat = 0 := by omega
     have h0 : h.toNat = 0 := by omega
     simp only [b0, h0, ite_self, sliced, Nat.zero_mul, Nat.add_zero, if_true, Nat.sub_self]
     grind
   | _ => grind [Out.bad]
  | _ => grind [Out.bad]
 | some p =>
  obtain ⟨es, rows⟩ := p
  have rv := qi7 r1 h1
  simp only [h1] at hob ⊢
  generalize hH : hiB rows.length (hi'.map (·.get st.fr)) = h at hob ⊢
  generalize hB : loB (lo'.map (·.get st.fr)) = b at hob ⊢
  have main : (ok : (ti.size = es ∨ rows = []) ∧ 0 ≤ b ∧ b ≤ h ∧ h ≤ rows.length) → (mx' = none ∨ (qb1 (mx'.map (·.get st.fr)) = some h ∧ hi'.isSome = true)) →
    ∃ ad mm, (execOp a.eval oper).run P w = .ok (.value (.slice ad (h.toNat - b.toNat) (mm - b.toNat))) w ∧ RV g w (.slice ad (h.toNat - b.toNat) (mm - b.toNat)) (.sl es ((rows.drop b.toNat).take (h.toNat - b.toNat))) ∧
     ((rows.drop b.toNat).take (h.toNat - b.toNat)).length = h.toNat - b.toNat ∧ (mx ≠ none → mm = h.toNat) := by
   intro ok hm
   obtain ⟨k1, k2, k3, k4⟩ := ok
   obtain ⟨ad, cap, hv, hcap, hcut⟩ := xpq rv b.toNat h.toNat ti.size (by omega) (by omega) k1
   obtain ⟨c1, c2⟩ := hcut (if mx = none then cap else h.toNat) (by grind) (by grind)
   have hb : sliced ad b.toNat h.toNat (if mx = none then cap else h.toNat) ti.size = .slice (if (if mx = none then cap else h.toNat) = b.toNat then ad else ad.map (·.add (b.toNat * ti.size))) (h.toNat - b.toNat) ((if mx = none then cap else h.toNat) - b.toNat) := rfl
   rw [hb] at c1
   refine ⟨_, _, ?_, c1, c2, ?_⟩
   ·rw [← hb]
    exact run _ _ _ _ _ _ hv (qj7 (P := P) true hlo hhi hmx hs o2 o3 o4 hcap hH hB k2 k3 k4 hm)
   grind
  cases hm : mx' with
  | none =>
   rw [hm] at hob
   simp only [Option.map_none] at hob ⊢
   obtain ⟨ad, mm, m1, m2, m3, _⟩ := main ⟨hob.1.imp Eq.symm id, hob.2⟩ (.inl hm)
   exact ⟨_, m1, m2⟩
  | some z =>
   rw [hm] at hob
   simp only [Option.map_some] at hob ⊢
   obtain ⟨ok, hz, hh⟩ := hob
   obtain ⟨ad, mm, m1, m2, m3, m4⟩ := main ⟨ok.1.imp Eq.symm id, ok.2⟩ (.inr ⟨by grind, by grind⟩)
   refine ⟨_, m1, m2, ad, ?_⟩
   have : mx ≠ none := by grind
   grind
theorem qyc {t e : TypeId} {n : Nat} {x : Operand} {lo hi mx : Option Operand} {x' : Opd} {lo' hi' mx' : Option Opd} {ti : TypeInfo} (ho : oper.op = .slice t x lo hi mx) (ht : P.underlying t = some (.array n e)) (hti : P.info? e = some ti)
  (hx : qp x = some x') (hlo : lo.mapM qp = some lo') (hhi : hi.mapM qp = some hi') (hmx : mx.mapM qp = some mx') (hs : SR N T g w st a)
  (hob : (sem tb (.sliceA n ti.size x' lo' hi' mx') st).ob) : yi P g w st a oper (sem tb (.sliceA n ti.size x' lo' hi' mx') st).v := by
 simp only [sem] at hob ⊢
 obtain ⟨o1, o2, o3, o4, hob⟩ := hob
 have r1 := xc hs hx o1
 unfold wn at hob ⊢
 cases h2 : x'.get st.fr with
 | d q =>
  cases q with
  | ptr id off =>
   simp only [h2] at hob ⊢
   obtain ⟨k2, k3, k4, k5, k6, hm⟩ := hob
   rw [h2] at r1
   have hrv := wj r1
   have hm' : mx' = none ∨ (qb1 (mx'.map (·.get st.fr)) = some (hiB n (hi'.map (·.get st.fr))) ∧ hi'.isSome = true) := by
    cases hq : mx' with
    | none => simp
    | some z => grind
   generalize hh : hiB n (hi'.map (·.get st.fr)) = h at *
   generalize hb : loB (lo'.map (·.get st.fr)) = b at *
   generalize hvv : a.eval x = v at hrv
   cases hrv with
   | ptr bk _ _ hg =>
    have hbo := qj7 (P := P) false hlo hhi hmx hs o2 o3 o4 (Nat.le_refl n) hh hb k2 k3 k4 hm'
    have hrun : (execOp a.eval oper).run P w = .ok (.value (sliced (some ⟨bk, off, none⟩) b.toNat h.toNat (if mx = none then n else h.toNat) ti.size)) w := by
     simp only [execOp, ho, hvv]
     simp [Instr.sliceAt, Instr.sureAddr, run_underlying ht, hbo, qt hti, sliced]
     grind
    refine ⟨_, hrun, ?_⟩
    have hmle : h.toNat ≤ (if mx = none then n else h.toNat) ∧ (if mx = none then n else h.toNat) ≤ n := by grind
    generalize (if mx = none then n else h.toNat) = m at hmle
    unfold sliced
    by_cases hml : m = b.toNat
    ·rw [if_pos hml]
     have e1 : h.toNat - b.toNat = 0 := by omega
     have e2 : m - b.toNat = 0 := by omega
     rw [e1, e2]
     exact .refnil _ _ _ _
    ·rw [if_neg hml, Option.map_some, Addr.add_lit]
     have hle : b.toNat * ti.size + (m - b.toNat) * ti.size ≤ n * ti.size := by rw [← Nat.add_mul]; exact Nat.mul_le_mul_right _ (by omega)
     refine .ref bk _ _ _ _ _ hg (by omega) (by grind [maxLen]) ?_
     by_cases hc0 : 0 < (qh st.os id).length
     ·obtain ⟨c, ce, q1, q2, _⟩ := qs6 hs hg hc0
      grind [vi]
     ·omega
  | _ => grind [Out.bad]
 | _ => grind [Out.bad]
end
end Go.Abs
namespace Go.Abs
section
variable {P : Program} {N tb : Nat} {T : Nat → Prop} {g : Ghost} {w : World} {st : St} {a : Act} {oper : Oper}
def RL (g : Ghost) (w : World) (vs : List Value) (ds : List D) : Prop :=
 vs.length = ds.length ∧ (∀ d ∈ ds, d.isCell = true) ∧ ∀ (j : Nat) (v : Value) (d : D), vs[j]? = some v → ds[j]? = some d → RV g w v d
theorem RL.agg {vs : List Value} {ds : List D} (h : RL g w vs ds) : RV g w (.agg vs.toArray) (.agg ds) := .agg vs ds h.1 h.2.1 h.2.2
theorem RL.take {vs : List Value} {ds : List D} (h : RL g w vs ds) (n : Nat) : RL g w (vs.take n) (ds.take n) :=
 ⟨by simp [h.1], fun d hd => h.2.1 d (List.mem_of_mem_take hd), fun j v d hv hd => by
  rw [List.getElem?_take] at hv hd
  split at hv
  ·simp_all; exact h.2.2 j v d hv hd
  grind⟩
theorem RL.drop {vs : List Value} {ds : List D} (h : RL g w vs ds) (n : Nat) : RL g w (vs.drop n) (ds.drop n) :=
 ⟨by simp [h.1], fun d hd => h.2.1 d (List.mem_of_mem_drop hd), fun j v d hv hd => h.2.2 (n + j) v d (by grind) (by grind)⟩
theorem RL.append {vs us : List Value} {ds es : List D} (h : RL g w vs ds) (k : RL g w us es) : RL g w (vs ++ us) (ds ++ es) :=
 ⟨by simp [h.1, k.1], fun d hd => by rcases List.mem_append.1 hd with hd | hd; exact h.2.1 d hd; exact k.2.1 d hd, fun j v d hv hd => by
  by_cases hj : j < vs.length
  ·rw [List.getElem?_append_left hj] at hv
   rw [List.getElem?_append_left (by rw [← h.1]; exact hj)] at hd
   exact h.2.2 j v d hv hd
  ·rw [List.getElem?_append_right (by omega)] at hv
   rw [List.getElem?_append_right (by rw [← h.1]; omega)] at hd
   rw [← h.1] at hd
   exact k.2.2 _ v d hv hd⟩
theorem RL.consts {vs : List Value} {ds : List D} (h : vs.mapM qcl = some ds) : RL g w vs ds := by
 obtain ⟨h1, h2⟩ := jy h
 refine ⟨h1, fun d hd => ?_, fun j v d hv hd => qj0 (h2 j v d hv hd)⟩
 obtain ⟨i, hi⟩ := List.getElem?_of_mem hd
 have hlt : i < vs.length := by grind
 exact qi6 (h2 i vs[i] d (List.getElem?_eq_getElem hlt) hi)
theorem xf8 {live : List Nat} {v : Value} {s : ASlot} (h : RS g w live v s) (hok : s.dCellsOk = true) : RL g w v.cells.toList s.dCells := by
 have one : ∀ d : D, RV g w v d → d.isCell = true → RL g w v.cells.toList [d] := by
  intro d hd hc
  have hv := hd.oneCell hc
  have : v.cells = #[v] := by cases v <;> first | rfl | grind [Value.oneCell']
  rw [this]
  refine ⟨rfl, by grind, fun j u e hu he => ?_⟩
  grind
 cases s with
 | d x =>
  cases x with
  | agg cs =>
   obtain ⟨vs, rfl, h1, h2, h3⟩ := qdp (wj h)
   grind [Value.cells, ASlot.dCells, RL]
  | _ => exact one _ h rfl
 | own t es rows => exact one _ h.1 rfl
 | full es rows => exact one _ h.1 rfl
 | _ => grind [ASlot.dCellsOk]
theorem qhd : ∀ (vs : List Value) (off k : Nat) (cells : Array Value), off + k + vs.length ≤ cells.size →
  ((vs.zipIdx k).foldl (fun cs (c, j) => cs.setIfInBounds (off + j) c) cells).toList = cells.toList.take (off + k) ++ vs ++ cells.toList.drop (off + k + vs.length)
 | [], off, k, cells, h => by simp
 | v :: vs, off, k, cells, h => by
  simp only [List.zipIdx_cons, List.foldl_cons]
  rw [qhd vs off (k + 1) _ (by simp at h ⊢; omega)]
  simp only [Array.toList_setIfInBounds, List.length_cons]
  have hlt : off + k < cells.toList.length := by simp at h ⊢; omega
  have h1 : (cells.toList.set (off + k) v).take (off + (k + 1)) = cells.toList.take (off + k) ++ [v] := by
   have hle : (cells.toList.take (off + k)).length = off + k := by simp at hlt ⊢; omega
   rw [show off + (k + 1) = off + k + 1 by omega, List.take_set, List.take_succ_eq_append_getElem hlt, List.set_append_right _ _ (by omega), hle]
   simp
  have h2 : (cells.toList.set (off + k) v).drop (off + (k + 1) + vs.length) = cells.toList.drop (off + k + (vs.length + 1)) := by
   rw [List.drop_set_of_lt (by omega)]
   congr 1
   omega
  rw [h1, h2]
  simp
theorem qoi (place : Nat → Option (Nat × Nat)) : ∀ (parts : List (Nat × Value)) (dparts : List (Nat × List D)) (cells : Array Value) (z : List D), RL g w cells.toList z →
  parts.length = dparts.length → (∀ (k : Nat) (p : Nat × Value) (q : Nat × List D), parts[k]? = some p → dparts[k]? = some q → place p.1 = some (q.1, q.2.length) ∧ RL g w p.2.cells.toList q.2 ∧ q.1 + q.2.length ≤ z.length) →
  ∃ cells', Instr.fill place cells parts = some cells' ∧ RL g w cells'.toList (qo1 z dparts)
 | [], dparts, cells, z, hz, hl, _ => by
  cases dparts with
  | nil => exact ⟨cells, rfl, hz⟩
  | cons => grind
 | (i, v) :: parts, dparts, cells, z, hz, hl, hp => by
  cases dparts with
  | nil => grind
  | cons q dparts =>
   obtain ⟨off, cs⟩ := q
   obtain ⟨h1, h2, h3⟩ := hp 0 (i, v) (off, cs) rfl rfl
   have hsz : v.cells.size = cs.length := by have := h2.1; omega
   have hcz : cells.size = z.length := by have := hz.1; omega
   simp only at h1 h3
   have hno : ¬ (v.cells.size ≠ cs.length ∨ off + v.cells.size > cells.size) := by omega
   have hfold : ((v.cells.zipIdx.foldl (fun cs (c, j) => cs.setIfInBounds (off + j) c) cells)).toList = cells.toList.take off ++ v.cells.toList ++ cells.toList.drop (off + v.cells.toList.length) := by
    have := qhd v.cells.toList off 0 cells (by grind)
    rw [Nat.add_zero] at this
    rw [← this, ← Array.foldl_toList]
    simp
   have hrel : RL g w (v.cells.zipIdx.foldl (fun cs (c, j) => cs.setIfInBounds (off + j) c) cells).toList (z.take off ++ cs ++ z.drop (off + cs.length)) := by
    rw [hfold]
    have : v.cells.toList.length = cs.length := h2.1
    rw [this]
    exact ((hz.take off).append h2).append (hz.drop _)
   obtain ⟨cells', f1, f2⟩ := qoi place parts dparts _ _ hrel (by grind) (fun k p q hk hq => by
    obtain ⟨a1, a2, a3⟩ := hp (k + 1) p q (by grind) (by grind)
    grind)
   refine ⟨cells', ?_, f2⟩
   simp_all [Instr.fill, if_neg]
theorem qyd (hs : SR N T g w st a) {t : TypeId} : ∀ {parts : List (Nat × Operand)} {ps : List (Nat × Nat × Opd)}, partsOf P t parts = some ps →
  ∀ (zl : Nat), (∀ p ∈ ps, p.2.2.ok st.fr = true ∧ (p.2.2.get st.fr).dCellsOk = true ∧ (p.2.2.get st.fr).dCells.length = p.2.1 ∧ p.1 + p.2.1 ≤ zl) →
  (parts.map fun (i, x) => (i, a.eval x)).length = (ps.map fun p => (p.1, (p.2.2.get st.fr).dCells)).length ∧
  ∀ (k : Nat) (p : Nat × Value) (q : Nat × List D), (parts.map fun (i, x) => (i, a.eval x))[k]? = some p → (ps.map fun p => (p.1, (p.2.2.get st.fr).dCells))[k]? = some q →
   qlq P t p.1 = some (q.1, q.2.length) ∧ RL g w p.2.cells.toList q.2 ∧ q.1 + q.2.length ≤ zl := by
 intro parts ps h zl hok
 obtain ⟨h1, h2⟩ := jy h
 refine ⟨by simp [h1], fun k p q hp hq => ?_⟩
 simp only [List.getElem?_map, Option.map_eq_some_iff] at hp hq
 obtain ⟨⟨i, x⟩, hi, rfl⟩ := hp
 obtain ⟨⟨off, size, y⟩, hy, rfl⟩ := hq
 have hh := h2 k _ _ hi hy
 obtain ⟨o1, o2, o3, o4⟩ := hok _ (List.mem_of_getElem? hy)
 simp only at hh o1 o2 o3 o4 ⊢
 cases hpl : qlq P t i with
 | none => grind
 | some os =>
  cases hop : qp x with
  | none => grind
  | some z =>
   simp [hpl, hop] at hh
   obtain ⟨e1, e2, e3⟩ := hh
   subst e3
   obtain ⟨po, psz⟩ := os
   simp only at e1 e2
   subst e1 e2
   exact ⟨by rw [o3], xf8 (xc hs hop o1) o2, by omega⟩
theorem k7 {t : TypeId} {z : List D} (h : jc P t = some z) : ∃ i v, P.info? t = some i ∧ i.zero = some v ∧ v.cells.toList.mapM qcl = some z := by
 grind [jc]
theorem qpd {t : TypeId} {parts : Array (Nat × Operand)} {z : List D} {ps : List (Nat × Nat × Opd)} (ho : oper.op = .build t parts) (hz : jc P t = some z) (hp : partsOf P t parts.toList = some ps)
  (hu : (∃ fs, P.underlying t = some (.struct fs) ∧ (fs.toList.mapM fun f => (P.info? f.type).map fun i => (f.offset, i.size)).isSome = true) ∨ ∃ n e, P.underlying t = some (.array n e) ∧ (P.info? e).isSome = true) (hs : SR N T g w st a)
  (hob : (sem tb (.build z ps) st).ob) : yi P g w st a oper (sem tb (.build z ps) st).v := by
 simp only [sem] at hob ⊢
 obtain ⟨i, v, hi, hv, hm⟩ := k7 hz
 obtain ⟨l1, l2⟩ := qyd (P := P) hs hp z.length hob
 have hzr : RL g w v.cells.toList z := RL.consts hm
 have hparts : (parts.map fun (i, x) => (i, a.eval x)).toList = parts.toList.map fun (i, x) => (i, a.eval x) := by simp
 have fin : ∀ cells', P.built t (parts.map fun (i, x) => (i, a.eval x)).toList = some cells' → RL g w cells'.toList (qo1 z (ps.map fun p => (p.1, (p.2.2.get st.fr).dCells))) →
   yi P g w st a oper (.d (.agg (qo1 z (ps.map fun p => (p.1, (p.2.2.get st.fr).dCells))))) := by
  intro cells' h1 h2
  have hrun := run_build (P := P) w t (parts.map fun (i, x) => (i, a.eval x)) cells' h1
  refine ⟨.agg cells', ?_, ?_⟩
  ·simp_all [execOp, Sem.run_bind]
  ·have := h2.agg
   simp_all [RS, RC]
 rcases hu with ⟨fs, hu, hall⟩ | ⟨n, e, hu, hall⟩
 ·obtain ⟨places, hpl⟩ := Option.isSome_iff_exists.1 hall
  obtain ⟨cells', f1, f2⟩ := qoi (g := g) (w := w) (places.toArray[·]?) _ _ v.cells z hzr l1 (fun k p q hk hq => by
   obtain ⟨a1, a2, a3⟩ := l2 k p q hk hq
   refine ⟨?_, a2, a3⟩
   obtain ⟨m1, m2⟩ := jy hpl
   grind [qlq, Array.getElem?_eq_some_iff, List.getElem?_eq_getElem])
  grind [Program.built]
 ·obtain ⟨ie, hie⟩ := Option.isSome_iff_exists.1 hall
  obtain ⟨cells', f1, f2⟩ := qoi (g := g) (w := w) (fun i => some (i * ie.size, ie.size)) _ _ v.cells z hzr l1 (fun k p q hk hq => by
   grind [qlq])
  grind [Program.built]
theorem qye {t : TypeId} {x : Operand} {lo hi : Option Operand} {x' : Opd} {lo' hi' : Option Opd} (ho : oper.op = .slice t x lo hi none) (ht : P.underlying t = some .string)
  (hx : qp x = some x') (hlo : lo.mapM qp = some lo') (hhi : hi.mapM qp = some hi') (hs : SR N T g w st a)
  (hob : (sem tb (.sliceS x' lo' hi') st).ob) : yi P g w st a oper (sem tb (.sliceS x' lo' hi') st).v := by
 simp only [sem] at hob ⊢
 obtain ⟨o1, o2, o3, hob⟩ := hob
 obtain ⟨n2, r2⟩ := qft hs hlo o2
 obtain ⟨n3, r3⟩ := qft hs hhi o3
 have r1 := xc hs hx o1
 cases h1 : x'.get st.fr with
 | d p =>
  cases p with
  | str l =>
   rw [h1] at r1
   have hv := qcm (wj r1)
   simp only [h1, qaj] at hob ⊢
   generalize hH : hiB l.length (hi'.map (·.get st.fr)) = h at hob ⊢
   generalize hB : loB (lo'.map (·.get st.fr)) = b at hob ⊢
   obtain ⟨k2, k3, k4⟩ := hob
   have hi2 : (hi = none ∧ h = l.length) ∨ ∃ k, hi.map a.eval = some (.int k h) := by
    cases hq : hi' with
    | none => grind [hiB]
    | some z =>
     rw [hq] at hH
     simp only [Option.map_some, hiB] at hH
     cases hv : qb1 (some (z.get st.fr)) with
     | none => grind
     | some n =>
      rw [hv] at hH; simp at hH; subst hH
      exact .inr (qhc (x := hi.map a.eval) (fun y hy => r3 y (by grind)) hv)
   have lo2 : (lo = none ∧ b = 0) ∨ ∃ k, lo.map a.eval = some (.int k b) := by
    cases hq : lo' with
    | none => grind [loB]
    | some z =>
     rw [hq] at hB
     simp only [Option.map_some, loB] at hB
     cases hv : qb1 (some (z.get st.fr)) with
     | none => grind
     | some n =>
      rw [hv] at hB; simp at hB; subst hB
      exact .inr (qhc (x := lo.map a.eval) (fun y hy => r2 y (by grind)) hv)
   have hbo : (Instr.sliceBounds false l.length l.length (lo.map a.eval) (hi.map a.eval) none).run P w = .ok (b.toNat, h.toNat, l.length) w := by
    have hk3 : (b.toNat : Int) = b := by omega
    have hk4 : (h.toNat : Int) = h := by omega
    rcases hi2 with ⟨rfl, hh⟩ | ⟨kh, hh⟩ <;> rcases lo2 with ⟨rfl, hl⟩ | ⟨kl, hl⟩
    ·simp [Instr.sliceBounds, hl, hh]
    ·simp [Instr.sliceBounds, hl, run_sliceBound (P := P) w kl b l.length .sliceB k2 (by omega), hh]
    ·simp [Instr.sliceBounds, hh, hl, run_sliceBound (P := P) w kh h l.length .sliceAlen (by omega) (by omega)]
    ·simp [Instr.sliceBounds, hh, hl, run_sliceBound (P := P) w kh h l.length .sliceAlen (by omega) (by omega), run_sliceBound (P := P) w kl b h.toNat .sliceB k2 (by omega)]
   have hext : (⟨l.toArray⟩ : ByteArray).extract b.toNat h.toNat = ⟨((l.drop b.toNat).take (h.toNat - b.toNat)).toArray⟩ := by
    apply ByteArray.ext
    simp
   refine ⟨.string ⟨((l.drop b.toNat).take (h.toNat - b.toNat)).toArray⟩, ?_, .str _⟩
   simp only [execOp, ho, hv]
   rw [Sem.run_bind, Option.map_none, run_sliceAt_string w t _ _ _ _ ht]
   simp_all [Instr.slice, run_underlying, qo8]
  | _ => grind [qaj, Out.bad]
 | _ => grind [qaj, Out.bad]
end
end Go.Abs
namespace Go.Abs
structure Qt (T : Nat → Prop) (g : Ghost) (w : World) (g' : Ghost) (w' : World) (live live' : List Nat) : Prop where
 toG : G g w g' w'
 dom : Dom g' w'
 objH : ∀ b id, g b = .obj id → w'.heap[b]? = w.heap[b]?
 objB : ∀ b id, g' b = .obj id → g b = .obj id
 tok : ∀ b n t, T t → t ∈ live' → g b = .row n (some t) → g' b = .row n (some t) ∧ w'.heap[b]? = w.heap[b]?
 liv : ∀ t, T t → t ∈ live' → t ∈ live
 tokU : ∀ b t, T t → t ∈ live' → g b = .uni t → g' b = .uni t ∧ w'.heap[b]? = w.heap[b]?
section
variable {N : Nat} {T T' : Nat → Prop} {g g' : Ghost} {w w' : World} {live live' : List Nat}
theorem Qt.rv (h : Qt T g w g' w' live live') (hd : Dom g w) {v : Value} {d : D} (hv : RV g w v d) : RV g' w' v d := h.toG.rv hd hv
theorem Qt.rc (h : Qt T g w g' w' live live') (hd : Dom g w) {v : Value} {s : ASlot} (hs : RC g w live v s) (ht : ∀ t ∈ s.toks, T t) : RC g' w' live' v s := by
 cases s with
 | d x => exact h.rv hd hs
 | own t es rows =>
  refine ⟨h.rv hd hs.1, fun hl => ?_⟩
  have htb : T t := ht t (by simp [ASlot.toks])
  rcases hs.2 (h.liv t htb hl) with hf | ⟨b, cap, cur, e, rfl, hg, hh, h1, h2, h3⟩
  ·exact .inl hf
  ·obtain ⟨k1, k2⟩ := h.tok b _ t htb hl hg
   exact .inr ⟨b, cap, cur, e, rfl, k1, by grind, h1, h2, h3⟩
 | uni t es rows =>
  have htb : T t := ht t (by simp [ASlot.toks])
  exact ⟨hs.1, fun hl => (hs.2 (h.liv t htb hl)).mono (fun b hb => h.tokU b t htb hl hb) (fun _ _ => h.rv hd)⟩
 | full es rows => exact ⟨h.rv hd hs.1, hs.2⟩
 | rd cells =>
  obtain ⟨b, off, n, o, f, rfl, hg, hn, hc⟩ := hs
  obtain ⟨n', o', hg', hnn, hcell⟩ := h.toG.rowsKept hd b n o hg
  refine ⟨b, off, n', o', f, rfl, hg', by omega, fun j d hj => ?_⟩
  obtain ⟨c1, c2, c3⟩ := hc j d hj
  have : j < cells.length := (List.getElem?_eq_some_iff.1 hj).1
  exact ⟨c1, hcell _ _ (by omega) c2, h.rv hd c3⟩
 | tup l => exact hs.elim
 | bad => trivial
theorem Qt.rs (h : Qt T g w g' w' live live') (hd : Dom g w) {v : Value} {s : ASlot} (hs : RS g w live v s) (ht : ∀ t ∈ s.toks, T t) : RS g' w' live' v s := by
 cases s with
 | tup l =>
  obtain ⟨vs, rfl, hl, hc⟩ := hs
  refine ⟨vs, rfl, hl, fun i u s hu hsl => h.rc hd (hc i u s hu hsl) ?_⟩
  intro t htm
  apply ht t
  cases s with
  | own t' es rows =>
   simp only [ASlot.toks, List.mem_singleton] at htm
   subst htm
   simp only [ASlot.toks, List.mem_flatMap]
   exact ⟨_, List.mem_of_getElem? hsl, by simp [qbx]⟩
  | uni t' es rows =>
   simp only [ASlot.toks, List.mem_singleton] at htm
   subst htm
   simp only [ASlot.toks, List.mem_flatMap]
   exact ⟨_, List.mem_of_getElem? hsl, by simp [qbx]⟩
  | tup l' => exact (hc i u _ hu hsl).elim
  | _ => grind [ASlot.toks]
 | _ => exact je (h.rc hd (qas hs (by simp)) ht)
theorem qpe {g : Ghost} {w : World} {live : List Nat} {o : Option Nat} {m : ASlot} (h : RC g w live (.map o) m) : m.toks = [] := by
 cases m with
 | own t es rows => cases h.1
 | uni t es rows => obtain ⟨⟨_, _, h⟩, _⟩ := h; cases h
 | tup l => exact h.elim
 | _ => rfl
theorem Qt.ro (h : Qt T g w g' w' live live') (hd : Dom g w) {b id : Nat} {o : AObj} (hb : g b = .obj id) (ho : RO g w live b o) (ht : ∀ s ∈ o.cells, ∀ t ∈ s.toks, T t) : RO g' w' live' b o := by
 cases o with
 | none => exact ho.elim
 | row cells =>
  obtain ⟨c, e, hh, hl, hc⟩ := ho
  refine ⟨c, e, by rw [h.objH b id hb]; exact hh, hl, fun i s hs => ?_⟩
  obtain ⟨v, v1, v2, v3⟩ := hc i s hs
  exact ⟨v, v1, v2, h.rc hd v3 (ht s (List.mem_of_getElem? hs))⟩
 | map es clock => exact MapIs.mono ho (h.toG.rowsKept hd) (h.objH b id hb)
 | iter m since seen last => exact IterIs.mono (R := fun v => RC g w live v m) (R' := fun v => RC g' w' live' v m) ho (h.objH b id hb) (fun o hv => h.rc hd hv (by
   grind [qpe]))
theorem SR.quiet {st : St} {a : Act} (hs : SR N T g w st a) (h : Qt T g w g' w' st.live live') (hT : ∀ t, T t → T' t) (hl : ∀ t ∈ live', T' t) :
  SR N T' g' w' { st with live := live' } a := by
 refine ⟨h.dom, hs.defers, hs.size, fun k v s hk => ?_, fun id o ho hn => ?_, fun b b' id hb hb' => ?_, fun b id hb => ?_, ⟨hl, fun k s hk t ht => ?_, fun id o ho s hs' t ht => ?_⟩⟩
 ·obtain ⟨h1, h2⟩ := hs.slots k v s hk
  exact ⟨fun hv => h.rs hs.dom (h1 hv) (hs.wf.fr k s (by grind)), h2⟩
 ·rcases hs.objs id o ho hn with ⟨b, hb, hr⟩ | ⟨hv, hno⟩
  ·exact .inl ⟨b, (h.toG.obj b id (hs.dom.lt_obj hb) hb).1, h.ro hs.dom hb hr (hs.wf.os id o ho)⟩
  ·exact .inr ⟨hv, fun b hb => hno b (h.objB b id hb)⟩
 ·exact hs.inj b b' id (h.objB b id hb) (h.objB b' id hb')
 ·exact hs.ids b id (h.objB b id hb)
 ·exact hT t (hs.wf.fr k s hk t ht)
 ·exact hT t (hs.wf.os id o ho s hs' t ht)
theorem Fr.get_cons (j k : Nat) (s : Bool × ASlot) (r : Fr) : Fr.get ((j, s) :: r) k = if j = k then some s else Fr.get r k := rfl
theorem SR.put {st : St} {a : Act} (hs : SR N T g w st a) {d : Nat} (hd : d < N) {v : Value} {s : ASlot} (hv : RS g w st.live v s) (ht : ∀ t ∈ s.toks, T t) :
  SR N T g w { st with fr := (d, true, s) :: st.fr } (a.put (some d) v) := by
 refine ⟨hs.dom, hs.defers, by simp [Act.put, hs.size], fun k v' s' hk => ?_, hs.objs, hs.inj, hs.ids, ⟨hs.wf.live, fun k s' hk => ?_, hs.wf.os⟩⟩
 ·simp only [Fr.get_cons] at hk
  split at hk
  ·rename_i hdk
   subst hdk
   cases hk
   refine ⟨fun _ => ?_, by simp⟩
   have : (a.put (some d) v).tmps.getD d undef = v := by simp [Act.put, hs.size, hd]
   grind
  ·rename_i hdk
   obtain ⟨h1, h2⟩ := hs.slots k v' s' hk
   simp_all [undef, Act.put, Array.getElem?_setIfInBounds_ne]
 ·simp only [Fr.get_cons] at hk
  split at hk
  ·grind
  ·exact hs.wf.fr k s' hk
theorem SR.putUndef {st : St} {a : Act} (hs : SR N T g w st a) {d : Nat} (hd : d < N) {s : ASlot} :
  SR N T g w { st with fr := (d, false, s) :: st.fr } (a.put (some d) undef) := by
 refine ⟨hs.dom, hs.defers, by simp [Act.put, hs.size], fun k v' s' hk => ?_, hs.objs, hs.inj, hs.ids, ⟨hs.wf.live, fun k s' hk => ?_, hs.wf.os⟩⟩
 ·simp only [Fr.get_cons] at hk
  split at hk
  ·simp_all [Act.put]
  ·rename_i hdk
   obtain ⟨h1, h2⟩ := hs.slots k v' s' hk
   simp_all [undef, Act.put, Array.getElem?_setIfInBounds_ne]
 ·simp only [Fr.get_cons] at hk
  split at hk
  ·cases hk
  ·exact hs.wf.fr k s' hk
def Fresh (T : Nat → Prop) (tb : Nat) : Prop := ∀ t, T t → ¬ (tb ≤ t ∧ t < tb + 16)
theorem Fresh.ne {T : Nat → Prop} {tb t : Nat} (h : Fresh T tb) (ht : T t) : t ≠ tb := by
 rintro rfl; exact h t ht ⟨Nat.le_refl _, by omega⟩
theorem Qt.refl (T : Nat → Prop) {g : Ghost} {w : World} (hd : Dom g w) (live : List Nat) : Qt T g w g w live live :=
 ⟨G.refl g w, hd, fun _ _ _ => rfl, fun _ _ h => h, fun _ _ _ _ _ h => ⟨h, rfl⟩, fun _ _ h => h, fun _ _ _ _ h => ⟨h, rfl⟩⟩
def Ghost.at (g : Ghost) (b : Nat) (r : Role) : Ghost := fun x => if x = b then r else g x
theorem Ghost.at_same (g : Ghost) (b : Nat) (r : Role) : g.at b r b = r := by simp [Ghost.at]
theorem Ghost.at_ne (g : Ghost) {b x : Nat} (r : Role) (h : x ≠ b) : g.at b r x = g x := by simp [Ghost.at, h]
theorem Qt.newRole (hd : Dom g w) (w1 : World) (h1 : w1.heap = w.heap) (hos : w1.os = w.os) (htape : w1.tape = w.tape) (hout : w1.output = w.output) (o : Obj) (r : Role) (hr : ∀ id, r ≠ .obj id)
  (hlive : ∀ u, T u → u ∈ live' → u ∈ live) :
  Qt T g w (g.at w.heap.size r) (w1.alloc o) live live' := by
 have hsz : (w1.alloc o).heap.size = w.heap.size + 1 := by simp_all
 have hold : ∀ b, b < w.heap.size → (w1.alloc o).heap[b]? = w.heap[b]? := fun b hb => by
  grind [heap_alloc_old]
 have hg : ∀ b, b < w.heap.size → g.at w.heap.size r b = g b := fun b hb => Ghost.at_ne g _ (by omega)
 refine ⟨⟨hos, htape, hout, by omega, fun b hb hgb => ⟨hold b hb, by grind⟩, fun b m hb hgb => ⟨hold b hb, by grind⟩,
  fun b m u hb hgb => ⟨m, some u, by grind, Nat.le_refl _, fun i v _ hv => by grind [ky]⟩, fun b id hb hgb => ⟨by grind, Nat.le_of_eq (ji (hold b hb)).symm⟩⟩, ⟨?_, hd.2.same fun b m hb hgb => ⟨hold b hb, by grind⟩⟩, ?_, ?_, ?_, hlive, ?_⟩
 ·intro b hb
  rw [hsz] at hb
  rw [Ghost.at_ne g _ (by omega)]
  exact hd.1 b (by omega)
 ·intro b id hgb
  exact hold b (hd.lt_obj hgb)
 ·grind [id, Ghost.at_same, Ghost.at_ne]
 ·intro b m u _ _ hgb
  have hb := hd.lt_row hgb
  grind
 ·intro b u _ _ hgb
  have hb := hd.lt_uni hgb
  grind
theorem Qt.newRow (hd : Dom g w) (w1 : World) (h1 : w1.heap = w.heap) (hos : w1.os = w.os) (htape : w1.tape = w.tape) (hout : w1.output = w.output) (o : Obj) (n : Nat) (t : Option Nat)
  (hlive : ∀ u, T u → u ∈ live' → u ∈ live) :
  Qt T g w (g.at w.heap.size (.row n t)) (w1.alloc o) live live' := Qt.newRole hd w1 h1 hos htape hout o (.row n t) (by simp) hlive
theorem Qt.newUni (hd : Dom g w) (w1 : World) (h1 : w1.heap = w.heap) (hos : w1.os = w.os) (htape : w1.tape = w.tape) (hout : w1.output = w.output) (o : Obj) (t : Nat)
  (hlive : ∀ u, T u → u ∈ live' → u ∈ live) :
  Qt T g w (g.at w.heap.size (.uni t)) (w1.alloc o) live live' := Qt.newRole hd w1 h1 hos htape hout o (.uni t) (by simp) hlive
end
end Go.Abs
